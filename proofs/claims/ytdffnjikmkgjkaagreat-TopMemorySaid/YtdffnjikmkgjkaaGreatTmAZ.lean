/- TopMemory: a part of its proof (Mc3 Mc4 Mc5 Mc6 Mc7 OpenQ). -/
import Derived.Test.YtdffnjikmkgjkaaGreatTmAA
import Derived.Test.YtdffnjikmkgjkaaGreatTmAY
import Derived.Test.YtdffnjikmkgjkaaGreatTmAT
import Derived.Test.YtdffnjikmkgjkaaGreatTmAJ
set_option linter.unusedSimpArgs false
set_option linter.unusedVariables false
set_option maxHeartbeats 8000000
namespace Go.Proofs.YtdffnjikmkgjkaaGreat
section
open Go.RowKit Go.Shelf
theorem thC_setV {x:ThD}(h:x.V.length=6){a:Nat}(ha:a<6)(v:Nat):(thC x).set (8+a) (vI (v:Int))=thC { x with V:=x.V.set a v }:=by
  obtain⟨b,p,R,V,live⟩:=x
  match V,h with
  | [r0,r1,r2,r3,r4,r5],_=>
    rcases(by omega:a=0∨a=1∨a=2∨a=3∨a=4∨a=5) with rfl|rfl|rfl|rfl|rfl|rfl <;> rfl
theorem thC_atV {x:ThD}{a:Nat}(ha:a<6):(thC x)[8+a]?=some (vI ((x.V.getD a 0:Nat):Int)):=by
  rcases(by omega:a=0∨a=1∨a=2∨a=3∨a=4∨a=5) with rfl|rfl|rfl|rfl|rfl|rfl <;> rfl
def toldN (f:Nat→Nat)(l:List Nat):Nat→List Nat
  | 0=>l
  | i+1=>(toldN f l i).set i (f (l.getD i 0))
theorem toldN_len (f:Nat→Nat)(l:List Nat):∀i,(toldN f l i).length=l.length
  | 0=>rfl
  | i+1=>by rw[toldN,List.length_set,toldN_len f l i]
theorem toldN_get (f:Nat→Nat)(l:List Nat):∀i j,i≤j→(toldN f l i).getD j 0=l.getD j 0
  | 0,_,_=>rfl
  | i+1,j,h=>by
    rw[toldN,List.getD_eq_getElem?_getD,List.getElem?_set_ne (by omega),←List.getD_eq_getElem?_getD];exact toldN_get f l i j (by omega)
theorem toldN_six (f:Nat→Nat){l:List Nat}(h:l.length=6):toldN f l 6=l.map f:=by
  match l,h with
  | [a,b,c,d,e,g],_=>rfl
noncomputable def ThD.ser (A:HS)(x:ThD):ThD:={ x with R:=x.R.map (sr0 A),V:=x.V.map (sr0 A) }
variable {w:World}{τ:Nat→Nat}{s q mp:Nat}{S:StD}{Q:List (List (List Dd))}{tv hv ev:Value}{X:List ThD}
theorem rows_th (h:w.ownsRow 0 34 15 hv X.length (X.flatMap thC)){t:Nat}(ht:t<X.length):∃g c,hv = .slice (some ⟨g,0,none⟩) X.length c∧∀j u,(thC (X.getD t d0))[j]?=some u→Own w g (t*15+j) u:=rows_get (ety:=34) (k:=15) thC_len (by decide) h d0 ht
set_option maxRecDepth 8000 in
theorem mthread_is (h:Mc w τ s q mp S Q tv hv ev X){t:Nat}(ht:t<X.length):Calls Tryz.prog 9 #[pV mp,vI (t:Int)] w fun e w'=>e = .returned (.tuple #[thV ((X.getD t d0).ser S.D.A),.bool true])∧Calm w w':=by
  have hok:=h.r.ok t ht;obtain⟨g,c,hvv,hg⟩:=rows_th h.r.h ht;obtain⟨N,hN⟩:∃N,X.length=N:=⟨_,rfl⟩;rw[hN] at hvv ht;have hN8:N≤4:=by rw[←hN,h.r.n];exact h.r.pk.n.2
  subst hv;obtain⟨x,hx⟩:∃x,X.getD t d0=x:=⟨_,rfl⟩;rw[hx] at hok hg ⊢;have os:Hid (∀ (a:Nat) W,Calm w W→a≤131072→Calls Tryz.prog 25 #[pV mp,vI (a:Int)] W fun e w'=>e = .returned (vI (sr0 S.D.A a:Nat))∧Calm W w'):=fun a W cW ha=>mserial_is (h.calm cW) ha;obtain⟨ka,o4⟩:=newL w [vI 0,vI 0,vI 0,vI 0,vI 0,vI 0,vI 0,vI 0,vI 0,vI 0,vI 0,vI 0,vI 0,vI 0,.bool false] 34;obtain⟨W1,hW1⟩:∃W1,w.alloc (.cells #[vI 0,vI 0,vI 0,vI 0,vI 0,vI 0,vI 0,vI 0,vI 0,vI 0,vI 0,vI 0,vI 0,vI 0,.bool false] 34)=W1:=⟨_,rfl⟩;have hs1:W1.heap.size=w.heap.size+1:=by rw[←hW1];simp
  rw[hW1] at ka o4;have y2:=ka.cellAt (h.r.c 2 _ rfl).1 id;have hgc:∀j u,(thC x)[j]?=some u→W1.cell? ⟨g,t*15+j,none⟩=some u:=fun j u hu=>ka.cellAt (hg j u hu).1 id;have e0:=hgc 0 _ rfl;have e1:=hgc 1 _ rfl;have e2:=hgc 2 _ rfl;have e3:=hgc 3 _ rfl;have e4:=hgc 4 _ rfl;have e5:=hgc 5 _ rfl;have e6:=hgc 6 _ rfl;have e7:=hgc 7 _ rfl;have e8:=hgc 8 _ rfl;have e9:=hgc 9 _ rfl;have e10:=hgc 10 _ rfl;have e11:=hgc 11 _ rfl;have e12:=hgc 12 _ rfl;have e13:=hgc 13 _ rfl;have e14:=hgc 14 _ rfl;rw[Nat.add_zero] at e0;simp only[rg] at e2 e3 e4 e5 e6 e7 e8 e9 e10 e11 e12 e13;have kb:Calm w (W1.alloc (.cells #[vI x.b,vI x.p,rg x.R 0,rg x.R 1,rg x.R 2,rg x.R 3,rg x.R 4,rg x.R 5,rg x.V 0,rg x.V 1,rg x.V 2,rg x.V 3,rg x.V 4,rg x.V 5,.bool x.live] 34)):=ka.alloc _;have o6:OwnL (W1.alloc (.cells #[vI x.b,vI x.p,rg x.R 0,rg x.R 1,rg x.R 2,rg x.R 3,rg x.R 4,rg x.R 5,rg x.V 0,rg x.V 1,rg x.V 2,rg x.V 3,rg x.V 4,rg x.V 5,.bool x.live] 34)) (w.heap.size+1) (thC x):=OwnL.nth2 W1 [_,_,_,_,_,_,_,_,_,_,_,_,_,_,_] _ _ hs1;replace o4:=o4.alloc (.cells #[vI x.b,vI x.p,rg x.R 0,rg x.R 1,rg x.R 2,rg x.R 3,rg x.R 4,rg x.R 5,rg x.V 0,rg x.V 1,rg x.V 2,rg x.V 3,rg x.V 4,rg x.V 5,.bool x.live] 34);simp only[rg,List.getD_eq_getElem?_getD] at kb o6 o4;replace hok:=hid hok;clear h hgc hg hx ka;replace hN:=hid hN;have hok':=hok.out;have hR6:=hok'.r;have hV6:=hok'.v;replace hR6:=hid hR6;replace hV6:=hid hV6;obtain⟨f,hf⟩:∃f:Nat→Nat,sr0 S.D.A=f:=⟨_,rfl⟩
  have hser:(x.ser S.D.A) = { x with R:=toldN f x.R 6,V:=toldN f x.V 6 }:=by
    rw[toldN_six f hR6.out,toldN_six f hV6.out,←hf];rfl
  rw[hf] at os;rw[hser];replace hser:=hid hser;replace hf:=hid hf;have dt0:decide ((t:Int)<0)=false:=decide_eq_false (by omega);have dt1:decide (N≤t)=false:=decide_eq_false (by omega);go_enter Tryz.func9,Tryz.ntmps9;go_upto_region 4 with fail
  generalize hW:W1.alloc (.cells #[vI x.b,vI x.p,vI ((x.R[0]?.getD 0:Nat):Int),vI ((x.R[1]?.getD 0:Nat):Int),vI ((x.R[2]?.getD 0:Nat):Int),vI ((x.R[3]?.getD 0:Nat):Int),vI ((x.R[4]?.getD 0:Nat):Int),vI ((x.R[5]?.getD 0:Nat):Int),vI ((x.V[0]?.getD 0:Nat):Int),vI ((x.V[1]?.getD 0:Nat):Int),vI ((x.V[2]?.getD 0:Nat):Int),vI ((x.V[3]?.getD 0:Nat):Int),vI ((x.V[4]?.getD 0:Nat):Int),vI ((x.V[5]?.getD 0:Nat):Int),.bool x.live] 34)=W at *;clear hW e0 e1 e2 e3 e4 e5 e6 e7 e8 e9 e10 e11 e12 e13 e14 y2;replace o6:=hid o6;replace o4:=hid o4;replace kb:=hid kb;clear hok';go_wp2_with fail
  go_loopw [27] (fun z wr=>∃i:Nat,i≤6∧z=vI i∧OwnL wr (w.heap.size+1) (thC { x with R:=toldN f x.R i,V:=toldN f x.V i })∧OwnL wr w.heap.size [vI 0,vI 0,vI 0,vI 0,vI 0,vI 0,vI 0,vI 0,vI 0,vI 0,vI 0,vI 0,vI 0,vI 0,.bool false]∧Calm w wr) (fun z _=>6-(intOf z).toNat)
  case atStart=>exact⟨0,by omega,rfl,o6.out,o4.out,kb.out⟩
  case round=>
    obtain⟨i,hi,rfl,p6,p4,hc⟩:=hrel;clear o6 o4 kb
    by_cases hlt:i<6
    · obtain⟨y,hy⟩:∃y:ThD,({ x with R:=toldN f x.R i,V:=toldN f x.V i } : ThD)=y:=⟨_,rfl⟩;have hyR:y.R.length=6:=by rw[←hy];show(toldN f x.R i).length=6;rw[toldN_len];exact hR6.out
      have hyV:y.V.length=6:=by rw[←hy];show(toldN f x.V i).length=6;rw[toldN_len];exact hV6.out
      have eR:y.R.getD i 0=x.R.getD i 0:=by rw[←hy];exact toldN_get f x.R i i (Nat.le_refl _)
      have eV:y.V.getD i 0=x.V.getD i 0:=by rw[←hy];exact toldN_get f x.V i i (Nat.le_refl _)
      have mR:x.R.getD i 0≤131072:=hok.out.rp _ (get_mem 0 (by have:=hR6.out;omega));have mV:x.V.getD i 0≤131072:=hok.out.vp _ (get_mem 0 (by have:=hV6.out;omega));have e9:({ y with R:=y.R.set i (f (x.R.getD i 0)),V:=y.V.set i (f (x.V.getD i 0)) } : ThD) = { x with R:=toldN f x.R (i+1),V:=toldN f x.V (i+1) }:=by rw[←hy];rfl
      rw[hy] at p6;obtain⟨a,ha⟩:∃a,x.R.getD i 0=a:=⟨_,rfl⟩;obtain⟨b,hb⟩:∃b,x.V.getD i 0=b:=⟨_,rfl⟩;rw[ha] at eR mR e9;rw[hb] at eV mV e9;have q2:=p6 (2+i) _ (thC_at hlt);rw[eR] at q2;have q20:=q2.1;have q21:=q2.2;have i0:(0:Int)≤i:=by omega
      have i6:(i:Int)<6:=by omega
      have oa:=os.out a wr hc mR;replace hyR:=hid hyR;replace hyV:=hid hyV;replace e9:=hid e9;replace eR:=hid eR;replace eV:=hid eV;replace hy:=hid hy;replace ha:=hid ha;replace hb:=hid hb;clear q2;go_wp2_with fail
      refine oa.mono ?_;rintro e w4 ⟨rfl,c4⟩;clear oa;have p64:=p6.calm c4;have p44:=p4.calm c4;have q20:=c4.cellAt q20 id;have q21:=(p64 (2+i) _ (thC_at hlt)).2;have F5:Fr (fun b=>b=w.heap.size+1) w4 (w4.setCell ⟨w.heap.size+1,2+i,none⟩ (vI ((f a:Nat):Int))):=(Fr.refl (fun b=>b=w.heap.size+1) w4).setCell (p:=⟨w.heap.size+1,2+i,none⟩) (.inl rfl) _;have p65:=p64.set (2+i) (vI ((f a:Nat):Int)) (by show 2+i<15;omega);rw[thC_set hyR.out hlt] at p65;obtain⟨W5,hW5⟩:∃W5,w4.setCell ⟨w.heap.size+1,2+i,none⟩ (vI ((f a:Nat):Int))=W5:=⟨_,rfl⟩;rw[hW5] at p65 F5;have hc5:=(hc.trans c4).join F5 (fun j hj e=>by omega);have p45:=p44.fr F5 (by omega);have r2:=p65 (8+i) _ (thC_atV hlt);have r20:W5.cell? ⟨w.heap.size+1,8+i,none⟩=some (vI (b:Int)):=by have:=r2.1;rw[show({ y with R:=y.R.set i (f a) } : ThD).V=y.V from rfl,eV.out] at this;exact this
      have ob:=os.out b W5 hc5 mV;clear p64 p44 F5 r2;go_wp2_with fail
      refine ob.mono ?_;rintro e w6 ⟨rfl,c6⟩;clear ob;have p66:=p65.calm c6;have p46:=p45.calm c6;have r20:=c6.cellAt r20 id;have r21:=(p66 (8+i) _ (thC_atV hlt)).2;have F7:Fr (fun b=>b=w.heap.size+1) w6 (w6.setCell ⟨w.heap.size+1,8+i,none⟩ (vI ((f b:Nat):Int))):=(Fr.refl (fun b=>b=w.heap.size+1) w6).setCell (p:=⟨w.heap.size+1,8+i,none⟩) (.inl rfl) _;have p67:=p66.set (8+i) (vI ((f b:Nat):Int)) (by show 8+i<15;omega);rw[thC_setV (x:={ y with R:=y.R.set i (f a) }) hyV.out hlt] at p67
      have hfin:Hid (OwnL (w6.setCell ⟨w.heap.size+1,8+i,none⟩ (vI ((f b:Nat):Int))) (w.heap.size+1) (thC { x with R:=toldN f x.R (i+1),V:=toldN f x.V (i+1) })∧OwnL (w6.setCell ⟨w.heap.size+1,8+i,none⟩ (vI ((f b:Nat):Int))) w.heap.size [vI 0,vI 0,vI 0,vI 0,vI 0,vI 0,vI 0,vI 0,vI 0,vI 0,vI 0,vI 0,vI 0,vI 0,.bool false]∧Calm w (w6.setCell ⟨w.heap.size+1,8+i,none⟩ (vI ((f b:Nat):Int)))):=by
        refine⟨?_,p46.fr F7 (by omega),(hc5.trans c6).join F7 (fun j hj e=>by omega)⟩;rw[←e9.out];exact p67
      clear p66 p46 F7 p67 p65 p45 hW5 q20 q21;go_wp2_with fail
      exact⟨⟨i+1,by omega,by simp,hfin.out⟩,by simp[intOf] <;> omega⟩
    · obtain rfl:i=6:=by omega
      obtain⟨x2,hx2⟩:∃x2:ThD,({ x with R:=toldN f x.R 6,V:=toldN f x.V 6 } : ThD)=x2:=⟨_,rfl⟩;rw[hx2] at p6;replace hx2:=hid hx2;have T1:=p4.whole (us:=(thC x2)) rfl;have F1:=frC wr (w.heap.size) 0 (thC x2);have hC:=hid (hc.join F1 (fun j hj e=>by omega));replace T1:=hid T1;simp only[thC,rg] at p6;obtain⟨d0,d1,d2,d3,d4,d5,d6,d7,d8,d9,d10,d11,d12,d13,d14⟩:=OwnL.ce15 p6;obtain⟨y0,z0,y1,z1,y2,z2,y3,z3,y4,z4,y5,z5,y6,z6,y7,z7,y8,z8,y9,z9,y10,z10,y11,z11,y12,z12,y13,z13,y14,z14⟩:=OwnL.cf15 p4;clear p4 p6 F1 hc;go_wp2;exact bodyPost_ret (v:=.tuple #[thV x2,.bool true]) (res_ct (i:=4) (j:=5) rfl rfl rfl T1.out) rfl ⟨by rw[←hx2.out],hC.out⟩
end
section
open Go.RowKit Go.Shelf
def rts (X:List ThD)(k:Nat):List Nat:=(X.take k).flatMap fun x=>x.R++x.V
variable {w:World}{τ:Nat→Nat}{s q mp:Nat}{S:StD}{Q:List (List (List Dd))}{tv hv ev:Value}{X:List ThD}
theorem rts_succ {k:Nat}(hk:k<X.length):rts X (k+1)=rts X k++((X.getD k d0).R++(X.getD k d0).V):=by
  unfold rts;rw[List.take_succ_eq_append_getElem hk,List.flatMap_append];have e:X[k]=X.getD k d0:=by simp[List.getD_eq_getElem?_getD,hk]
  simp[e]
theorem McR.rt_len {sp:Nat}(h:McR w τ mp sp Q tv hv ev X):∀k,k≤X.length→(rts X k).length=12*k
  | 0,_=>rfl
  | k+1,hk=>by
    rw[rts_succ (by omega),List.length_append,List.length_append,h.rt_len k (by omega),(h.ok k (by omega)).r,(h.ok k (by omega)).v];omega
theorem McR.rt_le {sp:Nat}(h:McR w τ mp sp Q tv hv ev X):∀k,k≤X.length→∀p∈rts X k,p≤131072
  | 0,_,_,hp=>by cases hp
  | k+1,hk,p,hp=>by
    rw[rts_succ (by omega)] at hp;rcases List.mem_append.1 hp with hp|hp
    · exact h.rt_le k (by omega) p hp
    · rcases List.mem_append.1 hp with hp|hp
      · exact(h.ok k (by omega)).rp p hp
      · exact(h.ok k (by omega)).vp p hp
set_option maxRecDepth 8000 in
theorem mroots_is (h:Mc w τ s q mp S Q tv hv ev X):Calls Tryz.prog 18 #[pV mp] w (PlsP w (rts X X.length)):=by
  obtain⟨N,hN⟩:∃N,X.length=N:=⟨_,rfl⟩;have hN8:N≤4:=by rw[←hN,h.r.n];exact h.r.pk.n.2
  obtain⟨ha,hc0,hhv⟩:=owns_slice h.r.h;rw[hN] at hhv;have y2:=(h.r.c 2 _ rfl).1;rw[hhv] at y2
  have hget:Hid (∀t,t<N→∃g,ha=some ⟨g,0,none⟩∧∀j u,(thC (X.getD t d0))[j]?=some u→w.cell? ⟨g,t*15+j,none⟩=some u):=fun t ht=>by
    obtain⟨g,c,hvv,hg⟩:=rows_get (ety:=34) (k:=15) thC_len (by decide) h.r.h d0 (show t<X.length by omega);rw[hhv] at hvv;injection hvv with e1 _ _
    exact⟨g,e1,fun j u hu=>(hg j u hu).1⟩
  have hok:Hid (∀t,t<N→(X.getD t d0).R.length=6∧(X.getD t d0).V.length=6):=fun t ht=>⟨(h.r.ok t (by omega)).r,(h.r.ok t (by omega)).v⟩;have hrl:Hid (∀k,k≤N→(rts X k).length=12*k):=fun k hk=>h.r.rt_len k (by omega);have hsu:Hid (∀k,k<N→rts X (k+1)=rts X k++((X.getD k d0).R++(X.getD k d0).V)):=fun k hk=>rts_succ (by omega);rw[hN];clear h hhv hN;go_enter Tryz.func18,Tryz.ntmps18;go_wp2_with fail
  clear y2;go_loopw [3,11] (fun x z wr=>∃i:Nat,i≤N∧z=vI i∧ORow wr w.heap.size x (nI (rts X i))∧Calm w wr) (fun _ z _=>N-(intOf z).toNat)
  case atStart=>exact⟨0,by omega,rfl,ORow.nil _ _,Fr.refl _ _⟩
  case round=>
    obtain⟨i,hi,rfl,hrow,hc⟩:=hrel;obtain⟨xa,xn,xc,rfl⟩:=hrow.letters
    by_cases hlt:i<N
    · obtain⟨g,rfl,hg⟩:=hget.out i hlt;obtain⟨x,hx⟩:∃x,X.getD i d0=x:=⟨_,rfl⟩;obtain⟨hR,hV⟩:=hok.out i hlt;have hsi:=hsu.out i hlt;have hli:=hrl.out i hi;rw[hx] at hg hR hV hsi;have hgc:∀j u,(thC x)[j]?=some u→wr.cell? ⟨g,i*15+j,none⟩=some u:=fun j u hu=>hc.cellAt (hg j u hu) id;have e0:=hgc 0 _ rfl;have e1:=hgc 1 _ rfl;have e2:=hgc 2 _ rfl;have e3:=hgc 3 _ rfl;have e4:=hgc 4 _ rfl;have e5:=hgc 5 _ rfl;have e6:=hgc 6 _ rfl;have e7:=hgc 7 _ rfl;have e8:=hgc 8 _ rfl;have e9:=hgc 9 _ rfl;have e10:=hgc 10 _ rfl;have e11:=hgc 11 _ rfl;have e12:=hgc 12 _ rfl;have e13:=hgc 13 _ rfl;have e14:=hgc 14 _ rfl;rw[Nat.add_zero] at e0;simp only[rg] at e2 e3 e4 e5 e6 e7 e8 e9 e10 e11 e12 e13;have kA:Calm wr (wr.alloc (.cells #[vI x.b,vI x.p,rg x.R 0,rg x.R 1,rg x.R 2,rg x.R 3,rg x.R 4,rg x.R 5,rg x.V 0,rg x.V 1,rg x.V 2,rg x.V 3,rg x.V 4,rg x.V 5,.bool x.live] 34)):=(Fr.refl _ _).alloc _;have oA:OwnL (wr.alloc (.cells #[vI x.b,vI x.p,rg x.R 0,rg x.R 1,rg x.R 2,rg x.R 3,rg x.R 4,rg x.R 5,rg x.V 0,rg x.V 1,rg x.V 2,rg x.V 3,rg x.V 4,rg x.V 5,.bool x.live] 34)) wr.heap.size (thC x):=OwnL.nth2 wr [_,_,_,_,_,_,_,_,_,_,_,_,_,_,_] _ _ rfl;simp only[rg,List.getD_eq_getElem?_getD] at kA oA;replace hsi:=hid hsi;replace hli:=hid hli;replace hR:=hid hR;replace hV:=hid hV;replace hx:=hid hx;clear hg hgc;go_upto_region 5 with fail
      generalize hW5:wr.alloc (.cells #[vI x.b,vI x.p,vI ((x.R[0]?.getD 0:Nat):Int),vI ((x.R[1]?.getD 0:Nat):Int),vI ((x.R[2]?.getD 0:Nat):Int),vI ((x.R[3]?.getD 0:Nat):Int),vI ((x.R[4]?.getD 0:Nat):Int),vI ((x.R[5]?.getD 0:Nat):Int),vI ((x.V[0]?.getD 0:Nat):Int),vI ((x.V[1]?.getD 0:Nat):Int),vI ((x.V[2]?.getD 0:Nat):Int),vI ((x.V[3]?.getD 0:Nat):Int),vI ((x.V[4]?.getD 0:Nat):Int),vI ((x.V[5]?.getD 0:Nat):Int),.bool x.live] 34)=W5 at *;clear hW5 e0 e1 e2 e3 e4 e5 e6 e7 e8 e9 e10 e11 e12 e13 e14;have or:=troots_is W5 hR.out hV.out;simp only[thV,rg] at or;have oA2:=oA;simp only[thC,rg] at oA2;obtain⟨dd0,dd1,dd2,dd3,dd4,dd5,dd6,dd7,dd8,dd9,dd10,dd11,dd12,dd13,dd14⟩:=OwnL.ce15 oA2;clear oA2 oA;go_wp2_with fail
      refine or.mono ?_;rintro en w6 ⟨v6,rfl,hr6,c6⟩;clear or dd0 dd1 dd2 dd3 dd4 dd5 dd6 dd7 dd8 dd9 dd10 dd11 dd12 dd13 dd14;obtain⟨ra,rn,rc,rfl⟩:=hr6.letters;have k6:=kA.trans c6;have hc6:=hc.trans k6;have hrow6:=hrow.calm k6;have hsz:w.heap.size≤w6.heap.size:=hc6.size
      have hlen:(nI (rts X i)).length+(nI (x.R++x.V)).length≤1000000:=by
        rw[nI_len,nI_len,hli.out,List.length_append,hR.out,hV.out];omega
      have hP:Hid (∀v' w',ORow w' w.heap.size v' (nI (rts X i)++nI (x.R++x.V))→Fr (InB (.slice xa xn xc)) w6 w'→ORow w' w.heap.size v' (nI (rts X (i+1)))∧Calm w w'):=fun v' w' h1 h2=>⟨by rw[hsi.out,nI_app];exact h1,hc6.join h2 (fun j hj hb=>by have:=(hrow6.lt hb).1;omega)⟩;replace hrow6:=hid hrow6;replace hr6:=hid hr6;replace hlen:=hid hlen;clear hrow hc k6 hc6 kA c6
      go_wp2_with (
        at_builtin
        go_must (refine wpList_appL rfl _ _ rfl w.heap.size (.slice xa xn xc) (nI (rts X i)) hrow6.out rfl (.slice ra rn rc) (nI (x.R++x.V)) hr6.out.row rfl hlen.out hsz ?_)
        intro v9 w9 hr9 f9 hn9;have hQ0:=hP.out v9 w9 hr9 f9;obtain⟨ya,yn,yc,rfl⟩:=hQ0.1.letters;have hQ:=hid hQ0;clear hP hr9 f9 hn9 hQ0
        go_frame)
      exact⟨⟨i+1,by omega,by simp,hQ.out⟩,by simp[intOf] <;> omega⟩
    · obtain rfl:i=N:=by omega
      have hfin:Hid (PlsP w (rts X i) (.returned (.slice xa xn xc)) wr):=⟨_,rfl,hrow,hc⟩;clear hrow;go_wp2;go_ret;exact hfin.out
end
section
open Go.RowKit Go.Shelf
theorem setL_right:∀ (us a b:List Value) (o:Nat),setL (a++b) (a.length+o) us=a++setL b o us
  | [],a,b,o=>rfl
  | u::us,a,b,o=>by
    rw[setL,setL,List.set_append_right _ _ (by omega),show a.length+o-a.length=o by omega];exact setL_right us a (b.set o u) (o+1)
theorem setL_left:∀ (us a b:List Value),us.length=a.length→setL (a++b) 0 us=us++b:=by
  have h:∀ (us pre a b:List Value),us.length=a.length→setL (pre++(a++b)) pre.length us=pre++(us++b):=by
    intro us
    induction us with
    | nil=>
      intro pre a b h;have:a=[]:=List.length_eq_zero_iff.1 h.symm;subst this;rfl
    | cons u us ih=>
      intro pre a b h
      match a,h with
      | x::a,h=>
        rw[setL,List.set_append_right _ _ (Nat.le_refl _),Nat.sub_self];show setL (pre++(u::(a++b))) (pre.length+1) us=_;have:=ih (pre++[u]) a b (by simpa using h);simpa using this
  intro us a b hl;have:=h us [] a b hl;simpa using this
theorem flat_setL {α:Type}(f:α→List Value)(k:Nat)(hf:∀a,(f a).length=k)(d:α):∀ (l:List α) (i:Nat),i<l.length→setL (l.flatMap f) (i*k) (f d)=(l.set i d).flatMap f
  | [],i,h=>by simp at h
  | x::l,0,_=>by
    rw[List.flatMap_cons,Nat.zero_mul,setL_left _ _ _ (by rw[hf,hf]),List.set_cons_zero,List.flatMap_cons]
  | x::l,i+1,h=>by
    have e1:(i+1)*k=(f x).length+i*k:=by rw[hf,Nat.succ_mul];omega
    rw[List.flatMap_cons,e1,setL_right,flat_setL f k hf d l i (by simpa using h),List.set_cons_succ,List.flatMap_cons]
theorem owns_sets {ety:TypeId}{k g n c:Nat} : ∀ (us:List Value) {w:World} {xs:List Value} (_:w.ownsRow 0 ety k (.slice (some ⟨g,0,none⟩) n c) n xs) (o:Nat) (_:o+us.length≤xs.length),(w.setCells g o us).ownsRow 0 ety k (.slice (some ⟨g,0,none⟩) n c) n (setL xs o us)
  | [],_,_,h,_,_=>h
  | u::us,w,xs,h,o,hl=>owns_sets us (owns_set h (by simp at hl;omega) u) (o+1) (by simp at hl ⊢;omega)
theorem wp_storeRow {op:Oper}{a:Act}{w:World}{K:Act→World→Prop}{Q:Exit→Act→World→Prop}(x y:Operand)(ho:op.op = .store 34 x y)
    {g N c i:Nat} {Y:List ThD} {z:ThD} (hx:a.eval x = .pointer (some ⟨g,i*15,none⟩)) (hy:a.eval y = .agg (thC z).toArray) (own:w.ownsRow 0 34 15 (.slice (some ⟨g,0,none⟩) N c) N (Y.flatMap thC)) (hY:Y.length=N) (hi:i<N)
    (h:∀w',w'.ownsRow 0 34 15 (.slice (some ⟨g,0,none⟩) N c) N ((Y.set i z).flatMap thC)→Fr (fun k=>k=g) w w'→K (a.put op.dst undef) w'):op.wp Tryz.prog a w K Q:=by
  have hl:(Y.flatMap thC).length=N*15:=by rw[flat_len thC 15 thC_len,hY]
  have hs:=owns_sets (thC z) own (i*15) (by rw[hl,thC_len];omega);rw[flat_setL thC 15 thC_len z Y i (by omega)] at hs;refine wp_store_mid 34 x y ho g (i*15) (thC z).toArray hx hy (fun j hj=>?_) (by kernel_rfl) (thC_one z) (h _ hs (Fr.setCells (S:=fun k=>k=g) rfl _ _ (Fr.refl _ _)));obtain⟨g2,c2,hv,hg⟩:=rows_get (ety:=34) (k:=15) thC_len (by decide) (by rw[←hY] at own;exact own) d0 (show i<Y.length by omega);injection hv with e1 _ _
  injection e1 with e1
  injection e1 with e1 _ _
  subst e1;have hj':j<(thC (Y.getD i d0)).length:=by rw[thC_len];exact hj
  have:=hg j _ (List.getElem?_eq_getElem hj');exact⟨by rw[this.1];rfl,this.2⟩
def RpT (n:Nat)(x x':ThD):Prop:=x'.b=x.b∧x'.p=x.p∧x'.live=x.live∧x'.R.length=6∧x'.V.length=6∧(∀a∈x'.R,a≤131072)∧∀a∈x'.V,a≤131072
def MrI (w:World)(T:Nat→Prop)(X:List ThD)(hv:Value)(N i:Nat)(l:Value)(wr:World):Prop:=
  ∃ (Y:List ThD) (a:Option Addr) (n c:Nat) (ps:List Nat),l = .slice a n c∧SRow T wr l ps∧ps.length=12*(N-i)∧(∀p∈ps,p≤131072)∧wr.ownsRow 0 34 15 hv N (Y.flatMap thC)∧Y.length=N∧(∀t,t<i→RpT 0 (X.getD t d0) (Y.getD t d0))∧(∀t,i≤t→Y.getD t d0=X.getD t d0)∧Fr (InB hv) w wr
def MrP (w:World)(X:List ThD)(hv:Value)(e:Ending)(w':World):Prop:=
  e = .returned (.tuple #[])∧∃Y:List ThD,w'.ownsRow 0 34 15 hv Y.length (Y.flatMap thC)∧Y.length=X.length∧(∀t,t<X.length→RpT 0 (X.getD t d0) (Y.getD t d0))∧Fr (InB hv) w w'
variable {w:World}{τ:Nat→Nat}{s q mp:Nat}{S:StD}{Q:List (List (List Dd))}{tv hv ev:Value}{X:List ThD}
set_option maxRecDepth 8000 in
theorem mreplace_is (h:Mc w τ s q mp S Q tv hv ev X){a:Option Addr}{n c:Nat}{ps:List Nat}{T:Nat→Prop}(hs:SRow T w (.slice a n c) ps)(hn:ps.length=12*X.length)(hp:∀p∈ps,p≤131072)(hT:∀b,T b→b<w.heap.size∧¬InB hv b) :
    Calls Tryz.prog 19 #[pV mp,.slice a n c] w (MrP w X hv):=by
  obtain⟨N,hN⟩:∃N,X.length=N:=⟨_,rfl⟩;have hN8:N≤4:=by rw[←hN,h.r.n];exact h.r.pk.n.2
  have hrow0:=h.r.h;obtain⟨ha,hc0,hhv⟩:=owns_slice hrow0;rw[hN] at hhv hrow0 hn;have hmh:¬InB hv mp:=fun e=>by have:=h.r.t1 mp e;have:=h.r.t0;omega
  have y2:∀W,Fr (InB hv) w W→W.cell? ⟨mp,2,none⟩=some hv:=fun W f=>f.cellAt (h.r.c 2 _ rfl).1 hmh;have hok:Hid (∀t,t<N→(X.getD t d0).R.length=6∧(X.getD t d0).V.length=6):=fun t ht=>⟨(h.r.ok t (by omega)).r,(h.r.ok t (by omega)).v⟩;have z2:=y2 w (Fr.refl _ _);rw[hhv] at z2;replace y2:=hid y2;have hI0:Hid (MrI w T X hv N 0 (.slice a n c) w):=⟨X,a,n,c,ps,rfl,hs,by rw[hn];rfl,hp,hrow0,hN,fun t ht=>by omega,fun _ _=>rfl,Fr.refl _ _⟩;have hhv':=hid hhv;have hN':=hid hN;replace hT:=hid hT;replace hmh:=hid hmh;clear h hrow0 hs hn hp hN hhv;go_enter Tryz.func19,Tryz.ntmps19;go_wp2_with fail
  clear z2;go_loopw [1,12] (fun l z wr=>∃i:Nat,i≤N∧z=vI i∧MrI w T X hv N i l wr) (fun _ z _=>N-(intOf z).toNat)
  case atStart=>exact⟨0,by omega,rfl,hI0.out⟩
  case round=>
    obtain⟨i,hi,rfl,Y,a1,n1,c1,ps1,rfl,hs,hpl,hple,hrow,hY,hdone,hrest,hf⟩:=hrel;clear hI0
    by_cases hlt:i<N
    · obtain⟨x,hx⟩:∃x,X.getD i d0=x:=⟨_,rfl⟩;have hYi:Y.getD i d0=x:=(hrest i (Nat.le_refl _)).trans hx;obtain⟨hR,hV⟩:=hok.out i hlt;rw[hx] at hR hV;obtain⟨g,gc,hgv,hg⟩:=rows_get (ety:=34) (k:=15) thC_len (by decide) (by rw[←hY] at hrow;exact hrow) d0 (show i<Y.length by omega);rw[hhv'.out,hY] at hgv;injection hgv with q1 q2 q3
      subst q1;rw[hYi] at hg;have hgc:∀j u,(thC x)[j]?=some u→wr.cell? ⟨g,i*15+j,none⟩=some u:=fun j u hu=>(hg j u hu).1;have e0:=hgc 0 _ rfl;have e1:=hgc 1 _ rfl;have e2:=hgc 2 _ rfl;have e3:=hgc 3 _ rfl;have e4:=hgc 4 _ rfl;have e5:=hgc 5 _ rfl;have e6:=hgc 6 _ rfl;have e7:=hgc 7 _ rfl;have e8:=hgc 8 _ rfl;have e9:=hgc 9 _ rfl;have e10:=hgc 10 _ rfl;have e11:=hgc 11 _ rfl;have e12:=hgc 12 _ rfl;have e13:=hgc 13 _ rfl;have e14:=hgc 14 _ rfl;rw[Nat.add_zero] at e0;simp only[rg] at e2 e3 e4 e5 e6 e7 e8 e9 e10 e11 e12 e13;have hn1:ps1.length=n1:=by obtain⟨_,_,e,_⟩:=hs;injection e with _ e2 _;exact e2.symm
      have h12:12≤n1:=by rw[←hn1,hpl];omega
      obtain⟨a2,c2,hrunT,hrowT⟩:=hs.take (hi:=12) h12;obtain⟨a3,c3,hrunD,hrowD⟩:=hs.drop (lo:=12) h12;have hrunT':∀W,(Instr.slice 23 (.slice a1 n1 c1) none (some (vI 12)) none).run Tryz.prog W = .ok (.slice a2 12 c2) W:=hrunT;have hrunD':∀W,(Instr.slice 23 (.slice a1 n1 c1) (some (vI 12)) none none).run Tryz.prog W = .ok (.slice a3 (n1-12) c3) W:=hrunD;have kA:Calm wr (wr.alloc (.cells #[vI x.b,vI x.p,rg x.R 0,rg x.R 1,rg x.R 2,rg x.R 3,rg x.R 4,rg x.R 5,rg x.V 0,rg x.V 1,rg x.V 2,rg x.V 3,rg x.V 4,rg x.V 5,.bool x.live] 34)):=(Fr.refl _ _).alloc _;have oA:OwnL (wr.alloc (.cells #[vI x.b,vI x.p,rg x.R 0,rg x.R 1,rg x.R 2,rg x.R 3,rg x.R 4,rg x.R 5,rg x.V 0,rg x.V 1,rg x.V 2,rg x.V 3,rg x.V 4,rg x.V 5,.bool x.live] 34)) wr.heap.size (thC x):=OwnL.nth2 wr [_,_,_,_,_,_,_,_,_,_,_,_,_,_,_] _ _ rfl;simp only[rg,List.getD_eq_getElem?_getD] at kA oA;have hd12:decide ((n1:Int)<12)=false:=decide_eq_false (by omega);replace hR:=hid hR;replace hV:=hid hV;replace hx:=hid hx;replace hYi:=hid hYi;replace hn1:=hid hn1;replace hpl:=hid hpl;replace hY:=hid hY;replace h12:=hid h12;replace hrest:=hid hrest;replace hdone:=hid hdone;replace hple:=hid hple;clear hg hgc q2 q3 hrunT hrunD;go_upto_region 3 with fail
      generalize hW5:wr.alloc (.cells #[vI x.b,vI x.p,vI ((x.R[0]?.getD 0:Nat):Int),vI ((x.R[1]?.getD 0:Nat):Int),vI ((x.R[2]?.getD 0:Nat):Int),vI ((x.R[3]?.getD 0:Nat):Int),vI ((x.R[4]?.getD 0:Nat):Int),vI ((x.R[5]?.getD 0:Nat):Int),vI ((x.V[0]?.getD 0:Nat):Int),vI ((x.V[1]?.getD 0:Nat):Int),vI ((x.V[2]?.getD 0:Nat):Int),vI ((x.V[3]?.getD 0:Nat):Int),vI ((x.V[4]?.getD 0:Nat):Int),vI ((x.V[5]?.getD 0:Nat):Int),.bool x.live] 34)=W5 at *;clear hW5 e0 e1 e2 e3 e4 e5 e6 e7 e8 e9 e10 e11 e12 e13 e14;have or:=troots_is W5 hR.out hV.out;simp only[thV,rg] at or;have oA2:=oA;simp only[thC,rg] at oA2;obtain⟨dd0,dd1,dd2,dd3,dd4,dd5,dd6,dd7,dd8,dd9,dd10,dd11,dd12,dd13,dd14⟩:=OwnL.ce15 oA2;go_wp2_with fail
      refine or.mono ?_;rintro en w6 ⟨v6,rfl,hr6,c6⟩;clear or oA2 dd0 dd1 dd2 dd3 dd4 dd5 dd6 dd7 dd8 dd9 dd10 dd11 dd12 dd13 dd14;obtain⟨ra,rc,hrv⟩:=hr6.sliceN (n:=12) (by rw[nI_len,List.length_append,hR.out,hV.out]);subst v6;have k6:=kA.trans c6;have kd:Calm w6 w6.drew:=(Fr.refl _ _).drew;have k6d:=k6.trans kd;have z2:w6.drew.cell? ⟨mp,2,none⟩=some (.slice (some ⟨g,0,none⟩) N hc0):=by rw[←hhv'.out];exact k6d.cellAt (y2.out wr hf) id
      have oB:=oA.calm (c6.trans kd);clear hr6;go_wp2_with fail
      have hrT:=hrowT.fr (Calm.any k6d) (fun _ _=>id);have hTs:∀b,T b→b<w6.drew.heap.size:=fun b hb=>by have h1:=(hT.out b hb).1;have h2:=hf.size;have h3:=k6d.size;omega
      have orp:=treplace_is (x:=x) hrT hTs;obtain⟨x2,hx2⟩:∃x2:ThD,({ x with R:=(ps1.take 12).take 6,V:=(ps1.take 12).drop 6 } : ThD)=x2:=⟨_,rfl⟩;rw[hx2] at orp
      have hB5:g<wr.heap.size:=by
        have h1:Hid (w6=w6):=rfl;have h2:=World.ownsRow.lt hrow g (by rw[hhv'.out];exact InB.mk.2 rfl);exact h2.2
      have hgm:mp≠g:=fun e=>hmh.out (by rw[hhv'.out];exact InB.mk.2 e);have hrow6:=owns_frB hrow k6d (fun _ _=>id);rw[hhv'.out] at hrow6;replace hTs:=hid hTs;replace hx2:=hid hx2;refine wp_region_mix [(true,0),(true,1),(true,2),(true,3),(true,4),(true,5),(true,6),(true,7),(true,8),(false,9),(true,10),(true,11),(true,12),(true,13),(false,14)] (fun w'=>w'.cell? ⟨mp,2,none⟩=some (.slice (some ⟨g,0,none⟩) N hc0)∧OwnL w' wr.heap.size (thC x)) (by kernel_rfl) (by kernel_rfl) ⟨z2,oB⟩ ?_;refine mix_read (pV mp) rfl rfl (fun w' hw'=>?_) (fun _ _ _ h=>h) ?_
      · simp[go_sem]
      refine mix_read (pV mp) rfl rfl (fun w' hw'=>?_) (fun _ _ _ h=>h) ?_
      · simp[go_sem]
      refine mix_read (.pointer (some ⟨mp,2,none⟩)) rfl rfl (fun w' hw'=>?_) (fun _ _ _ h=>h) ?_
      · simp[go_sem]
      refine mix_read (.slice (some ⟨g,0,none⟩) N hc0) rfl rfl (fun w' hw'=>?_) (fun _ _ _ h=>h) ?_
      · simp[go_sem,hw'.1]
      refine mix_read (vI (i:Int)) rfl rfl (fun w' hw'=>?_) (fun _ _ _ h=>h) ?_
      · simp[go_sem]
      refine mix_read (thV x) rfl rfl (fun w' hw'=>?_) (fun _ _ _ h=>h) ?_
      · have o:=hw'.2;simp only[thC,rg] at o;obtain⟨y0,y1,y2,y3,y4,y5,y6,y7,y8,y9,y10,y11,y12,y13,y14⟩:=OwnL.ce15 o;simp[go_sem,thV,rg,y0,y1,y2,y3,y4,y5,y6,y7,y8,y9,y10,y11,y12,y13,y14]
      refine mix_read (.slice a1 n1 c1) rfl rfl (fun w' hw'=>?_) (fun _ _ _ h=>h) ?_
      · simp[go_sem]
      refine mix_read (vI 12) rfl rfl (fun w' hw'=>?_) (fun _ _ _ h=>h) ?_
      · simp[go_sem]
      refine mix_read (.slice a2 12 c2) rfl rfl (fun w' hw'=>?_) (fun _ _ _ h=>h) ?_
      · simp[go_sem,hrunT']
      refine mix_step rfl rfl ?_;simp only[thV,rg] at orp ⊢;go_wp2_with fail
      refine orp.mono ?_;rintro en w8 ⟨rfl,c8⟩;clear orp;have z28:=c8.cellAt z2 id;have oB8:=oB.calm c8;have hrow8:=owns_frB hrow6 c8 (fun _ _=>id);refine⟨⟨z28,oB8⟩,?_⟩;refine mix_read (.tuple #[thV x2,.bool true]) rfl rfl (fun w' hw'=>?_) (fun _ _ _ h=>h) ?_
      · simp[go_sem,thV,rg]
      refine mix_read (thV x2) rfl rfl (fun w' hw'=>?_) (fun _ _ _ h=>h) ?_
      · simp[go_sem]
      refine mix_read (.bool true) rfl rfl (fun w' hw'=>?_) (fun _ _ _ h=>h) ?_
      · simp[go_sem]
      refine mix_read (.pointer (some ⟨g,i*15,none⟩)) rfl rfl (fun w' hw'=>?_) (fun _ _ _ h=>h) ?_
      · simp[go_sem,hlt]
      refine mix_step rfl rfl ?_;refine wp_storeRow _ _ rfl (z:=x2) (by rfl) (by rfl) hrow8 hY.out hlt ?_;intro w9 hrow9 f9;have z29:=f9.cellAt z28 hgm;have oB9:=oB8.fr f9 (by omega);have k8:Calm wr w8:=k6d.trans c8;have hcc:Fr (InB hv) wr w9:=(Calm.any k8:Fr (InB hv) wr w8).trans (f9.mono (fun b _ e=>by rw[hhv'.out,e];exact InB.mk.2 rfl))
      have hfin:MrI w T X hv N (i+1) (.slice a3 (n1-12) c3) w9:=by
        have hps2:(ps1.take 12).length=12:=by rw[List.length_take];have h1:=hn1.out;have h2:=h12.out;omega
        refine⟨Y.set i x2,a3,n1-12,c3,ps1.drop 12,rfl,hrowD.fr hcc (fun b hb=>(hT.out b hb).2),by rw[List.length_drop,hpl.out];omega,fun p hp=>hple.out p (List.mem_of_mem_drop hp),by rw[hhv'.out];exact hrow9,by rw[List.length_set];exact hY.out,fun t ht=>?_,fun t ht=>?_,hf.trans hcc⟩
        · by_cases e:t=i
          · subst e;rw[getD_setS (by have:=hY.out;omega),hx.out,←hx2.out];refine⟨rfl,rfl,rfl,?_,?_,fun q hq=>hple.out q (List.mem_of_mem_take (List.mem_of_mem_take hq)),fun q hq=>hple.out q (List.mem_of_mem_take (List.mem_of_mem_drop hq))⟩
            · show((ps1.take 12).take 6).length=6;rw[List.length_take,hps2];rfl
            · show((ps1.take 12).drop 6).length=6;rw[List.length_drop,hps2]
          · rw[getD_setO e];exact hdone.out t (by omega)
        · rw[getD_setO (by omega)];exact hrest.out t (by omega)
      replace hfin:=hid hfin;refine⟨⟨z29,oB9⟩,mix_end ?_⟩;clear hrow9 f9 hcc k8 hrow8 hrow6 hrow hf hs hrowT hrowD hrT oB8 oB9 z28 z29 z2 oB oA;go_simp;go_wp2_with fail
      exact⟨⟨i+1,by omega,by simp,hfin.out⟩,by simp[intOf] <;> omega⟩
    · obtain rfl:i=N:=by omega
      have hfin:Hid (MrP w X hv (.returned (.tuple #[])) wr):=⟨rfl,Y,by rw[hY];exact hrow,by rw[hY,hN'.out],fun t ht=>hdone t (by have:=hN'.out;omega),hf⟩;clear hrow hf hs;go_wp2;exact bodyPost_ret (results_none rfl _ _ _) rfl hfin.out
end
section
open Go.RowKit Go.Shelf
variable {w:World}{τ:Nat→Nat}{s q mp:Nat}{S:StD}{Q:List (List (List Dd))}{tv hv ev:Value}{X:List ThD}
theorem Mc.turn {w':World}(h:Mc w τ s q mp S Q tv hv ev X){ev':Value}{n':Nat}{xs':List Value}(f:Fr (fun k=>k=mp∨InB ev k) w w')(hc:OwnL w' mp [pV S.sp,tv,hv,.int .i32 0,.int .u32 0,ev'])(he:w'.ownsRow 0 76 6 ev' n' xs')(hn:n'≤2000)(hnew:∀b,InB ev' b→InB ev b∨w.heap.size≤b) :
    ∃τ',Mc w' τ' s q mp S Q tv hv ev' X∧(∀b,b<w.heap.size→τ' b=τ b)∧KeepM w τ w' τ':=by
  obtain⟨n0,x0,he0,_⟩:=h.r.e;have hmp:mp<w.heap.size:=h.r.c.lt (by simp);obtain⟨M,H1,H2,H3⟩:=h.st
  have tS:∀b,(b=mp∨InB ev b)→600≤τ b∧τ b≠601∧τ b<603:=fun b hb=>by
    rcases hb with rfl|hb
    · rw[h.r.t0];omega
    · rw[h.r.t2 b hb];omega
  have hM:∀t k,(M t).blk k→k<w.heap.size∧τ k<500:=fun t k hk=>by
    have h1:=H1.lt t hk;have h2:=H1.tag t k hk
    by_cases e:t<500
    · exact⟨h1,by omega⟩
    · rw[H2.z t (by omega)] at hk;exact hk.elim
  have H1':Hold w' τ M:=H1.frame f (fun t k hk e=>by have:=(hM t k hk).2;have:=(tS k e).1;omega);obtain⟨τ',k1,k2,k3⟩:=H1'.retag (fun k=>w.heap.size≤k) (fun t k hk e=>by have:=(hM t k hk).1;omega) 602;have k3':∀b,b<w.heap.size→τ' b=τ b:=fun b hb=>k3 b (by omega);refine⟨τ',⟨⟨M,k1,H2,H3⟩,⟨hc,owns_frB h.r.h f (fun b hb e=>by have:=(tS b e).2.1;rw[h.r.t1 b hb] at this;exact this rfl),⟨n',xs',he,hn⟩,?_,?_,?_,fun b hb=>?_,h.r.n,h.r.ok,h.r.pk⟩⟩,k3',⟨f.mono (fun k _ e=>(tS k e).2.2),fun b hb _=>k3' b hb⟩⟩
  · exact((h.r.p.mono (T':=fun b=>τ b=603∧b<w.heap.size) (fun b hb e=>⟨e,hb⟩)).fr f (fun b e e2=>by have:=(tS b e2).2.2;omega)).mono (fun b _ e=>by rw[k3' b e.2];exact e.1)
  · rw[k3' mp hmp];exact h.r.t0
  · exact fun b hb=>(k3' b (World.ownsRow.lt h.r.h b hb).2).trans (h.r.t1 b hb)
  · rcases hnew b hb with e|e
    · exact(k3' b (World.ownsRow.lt he0 b e).2).trans (h.r.t2 b e)
    · exact k2 b e
def NtP (w:World)(τ:Nat→Nat)(s q mp:Nat)(S:StD)(Q:List (List (List Dd)))(tv hv:Value)(X:List ThD)(e:Ending)(w':World):Prop:=
  e = .returned (.tuple #[])∧∃τ' ev',Mc w' τ' s q mp S Q tv hv ev' X∧(∀b,b<w.heap.size→τ' b=τ b)∧KeepM w τ w' τ'
theorem mnote_is (h:Mc w τ s q mp S Q tv hv ev X)(et eb en ek ee ex:Int):Calls Tryz.prog 22 #[.pointer (some ⟨mp,3,none⟩),.agg #[vI et,vI eb,vI en,vI ek,vI ee,vI ex]] w (NtP w τ s q mp S Q tv hv X):=by
  obtain⟨n,xs,he,hn⟩:=h.r.e;refine(note_ent h.r.c he (fun e=>by have h1:=h.r.t2 mp e;have h2:=h.r.t0;omega) hn et eb en ek ee ex).mono ?_;rintro e w' ⟨rfl,ev',n',xs',k1,k2,k3,k4,k5⟩;obtain⟨τ',m1,m2,m3⟩:=h.turn k4 k1 k2 k3 k5;exact⟨rfl,τ',ev',m1,m2,m3⟩
theorem mfull_is (h:Mc w τ s q mp S Q tv hv ev X):Calls Tryz.prog 16 #[.pointer (some ⟨mp,3,none⟩)] w fun e w'=>(∃b:Bool,e = .returned (.bool b))∧∃τ',Mc w' τ' s q mp S Q tv hv ev X∧(∀b,b<w.heap.size→τ' b=τ b)∧KeepM w τ w' τ':=by
  obtain⟨n,xs,he,hn⟩:=h.r.e;have hne:¬InB ev mp:=fun e=>by have h1:=h.r.t2 mp e;have h2:=h.r.t0;omega
  obtain⟨ea,ec,hev⟩:=owns_slice he;have hc:=h.r.c;rw[hev] at hc;refine(full_is hc).mono ?_;rintro e w' ⟨h1,h2,h3⟩;rw[←hev] at h3;obtain⟨τ',m1,m2,m3⟩:=h.turn (h2.mono fun _ _ e=>.inl e) h3 (owns_frB he h2 (fun b hb e=>hne (e ▸ hb))) hn (fun b hb=>.inl hb);exact⟨h1,τ',m1,m2,m3⟩
theorem Mc.places {w':World}(h:Mc w τ s q mp S Q tv hv ev X){Y:List ThD}(hr:w'.ownsRow 0 34 15 hv Y.length (Y.flatMap thC))(hl:Y.length=X.length)(hp:∀t,t<X.length→RpT 0 (X.getD t d0) (Y.getD t d0))(f:Fr (InB hv) w w'):Mc w' τ s q mp S Q tv hv ev Y∧KeepM w τ w' τ:=by
  obtain⟨n0,x0,he0,hn0⟩:=h.r.e;have tS:∀b,InB hv b→τ b=601:=h.r.t1;refine⟨⟨h.st.far f (fun b hb=>by rw[tS b hb];omega),⟨h.r.c.fr f (fun e=>by have:=tS mp e;have:=h.r.t0;omega),hr,⟨n0,x0,owns_frB he0 f (fun b hb e=>by have:=tS b e;rw[h.r.t2 b hb] at this;omega),hn0⟩,h.r.p.fr f (fun b e e2=>by have:=tS b e2;omega),h.r.t0,h.r.t1,h.r.t2,hl.trans h.r.n,fun t ht=>?_,h.r.pk⟩⟩,⟨f.mono (fun k _ e=>by rw[tS k e];omega),fun _ _ _=>rfl⟩⟩;have h1:=h.r.ok t (by omega);obtain⟨e1,e2,e3,e4,e5,e6,e7⟩:=hp t (by omega);exact⟨by rw[e1];exact h1.b,by rw[e2];exact h1.p,by rw[e1,e3];exact h1.l,e4,e5,e6,e7⟩
theorem mout_0 (h:Mc w τ s q mp S Q tv hv ev X):Calls Tryz.prog 23 #[pV S.sp] w fun e w'=>∃v l τ' S',e = .returned v∧ORow w' 0 v (nI l)∧l.length≤q∧Mc w' τ' s q mp S' Q tv hv ev X∧S'.sp=S.sp∧S'.D=S.D∧KeepM w τ w' τ'∧∀b,InB v b→τ' b=1000:=by
  refine(out_0 h.st).mono ?_;rintro e w' ⟨rfl,k1,k2,τ',k3,k4,k5⟩
  have hsp:τ S.sp=2:=by
    obtain⟨M,H1,H2,_⟩:=h.st;exact H1.tag 2 S.sp (by rw[H2.c];rfl)
  have KW:KeepW w τ w' τ':=⟨k2.mono (fun k _ e=>by show τ k<500;rw[e,hsp];omega),fun b _ e=>k5 b e⟩;exact⟨_,_,τ',_,rfl,k1,h.st.ok.lo,⟨k3,h.r.keep KW⟩,rfl,rfl,KW.m,k4⟩
theorem mout_1 (h:Mc w τ s q mp S Q tv hv ev X):Calls Tryz.prog 21 #[pV S.sp] w fun e w'=>∃v l τ' S',e = .returned v∧ORow w' 0 v (nI l)∧l.length≤q∧Mc w' τ' s q mp S' Q tv hv ev X∧S'.sp=S.sp∧S'.D=S.D∧KeepM w τ w' τ'∧∀b,InB v b→τ' b=1000:=by
  refine(out_1 h.st).mono ?_;rintro e w' ⟨rfl,k1,k2,τ',k3,k4,k5⟩
  have hsp:τ S.sp=2:=by
    obtain⟨M,H1,H2,_⟩:=h.st;exact H1.tag 2 S.sp (by rw[H2.c];rfl)
  have KW:KeepW w τ w' τ':=⟨k2.mono (fun k _ e=>by show τ k<500;rw[e,hsp];omega),fun b _ e=>k5 b e⟩;exact⟨_,_,τ',_,rfl,k1,h.st.ok.ca,⟨k3,h.r.keep KW⟩,rfl,rfl,KW.m,k4⟩
end
section
open Go.RowKit Go.Shelf
variable {w:World}{τ:Nat→Nat}{s q mp:Nat}{S:StD}{Q:List (List (List Dd))}{tv hv ev:Value}{X:List ThD}
theorem Mc.mono {s' q':Nat}(h:Mc w τ s q mp S Q tv hv ev X)(hs:s≤s')(hq:q≤q'):Mc w τ s' q' mp S Q tv hv ev X:=by
  obtain⟨⟨M,h1,h2,h3⟩,r⟩:=h;exact⟨⟨M,h1,h2,h3.mono hs hq⟩,r⟩
theorem Mc.nx {w':World}{s' q':Nat}{R:StD→Prop}(h:Mc w τ s q mp S Q tv hv ev X)(n:Nx w τ s' q' S w' R):∃τ' S',Mc w' τ' s' q' mp S' Q tv hv ev X∧KeepM w τ w' τ'∧KeepT w τ w' τ'∧R S':=by
  obtain⟨τ',S',k1,k2,k3,k4⟩:=n;exact⟨τ',S',⟨k1,by rw[k3.sp];exact h.r.keep k2.w⟩,k2.w.m,k2,k4⟩
def McP (w:World)(τ:Nat→Nat)(s q mp:Nat)(Q:List (List (List Dd)))(tv hv:Value)(e:Ending)(w':World):Prop:=
  (∃b:Bool,e = .returned (.bool b))∧∃τ' S' ev' X',Mc w' τ' s q mp S' Q tv hv ev' X'∧KeepM w τ w' τ'
def NlI (w5:World)(τ5:Nat→Nat)(s q mp:Nat)(S:StD)(Q:List (List (List Dd)))(tv hv:Value)(X:List ThD)(v:Value)(l:List Nat)(wr:World):Prop:=
  ∃τi evi,Mc wr τi s q mp S Q tv hv evi X∧KeepM w5 τ5 wr τi∧ORow wr 0 v (nI l)∧∀b,InB v b→τi b=1000
set_option maxRecDepth 8000 in
theorem mcollect_is (h:Mc w τ s q mp S Q tv hv ev X)(hs:s<100000)(hq:q+s≤80000):Calls Tryz.prog 7 #[pV mp] w (McP w τ s (q+s) mp Q tv hv):=by
  have of:=mfull_is h;clear h;go_enter Tryz.func7,Tryz.ntmps7;go_wp2_with fail
  refine of.mono ?_;rintro en w1 ⟨⟨b,rfl⟩,τ1,h1,t1,K1⟩;clear of
  cases b with
  | true=>
    have hfin:McP w τ s (q+s) mp Q tv hv (.returned (.bool false)) w1:=⟨⟨false,rfl⟩,τ1,_,_,_,h1.mono (Nat.le_refl _) (by omega),K1⟩;replace hfin:=hid hfin;clear h1 K1;go_wp2;go_ret;exact hfin.out
  | false=>
    have kd:Calm w1 w1.drew:=(Fr.refl _ _).drew;have h2:=h1.calm kd;have K2:=K1.trans (KeepM.calm τ1 kd);have z0:w1.drew.cell? ⟨mp,0,none⟩=some (pV S.sp):=(h2.r.c 0 _ rfl).1;have ort:=mroots_is h2;clear h1 K1;go_wp2_with fail
    refine wp_region_mix [(true,0),(true,1),(true,2),(true,3),(true,4),(false,5),(false,6),(true,7),(true,8),(true,9),(false,10),(false,11)] (fun w'=>w'.cell? ⟨mp,0,none⟩=some (pV S.sp)) (by kernel_rfl) (by kernel_rfl) z0 ?_;refine mix_read (pV mp) rfl rfl (fun w' hw'=>?_) (fun _ _ _ h=>h) ?_
    · simp[go_sem]
    refine mix_read (pV mp) rfl rfl (fun w' hw'=>?_) (fun _ _ _ h=>h) ?_
    · simp[go_sem]
    refine mix_read (pV mp) rfl rfl (fun w' hw'=>?_) (fun _ _ _ h=>h) ?_
    · simp[go_sem]
    refine mix_read (pV S.sp) rfl rfl (fun w' hw'=>?_) (fun _ _ _ h=>h) ?_
    · simp[go_sem,hw']
    refine mix_read (pV mp) rfl rfl (fun w' hw'=>?_) (fun _ _ _ h=>h) ?_
    · simp[go_sem]
    refine mix_step rfl rfl ?_;go_wp2_with fail
    refine ort.mono ?_;rintro en w3 ⟨u,rfl,hu,c3⟩;clear ort;have h3:=h2.calm c3;have K3:=K2.trans (KeepM.calm τ1 c3);have z3:=c3.cellAt z0 id;refine⟨z3,?_⟩;have hrl:=h2.r.rt_len X.length (Nat.le_refl _);have hN4:X.length≤4:=by rw[h2.r.n];exact h2.r.pk.n.2
    have oco:=collect_is h3.st (by omega) hu (by rw[hrl];omega) (h2.r.rt_le X.length (Nat.le_refl _));obtain⟨ua,un,uc,rfl⟩:=hu.letters;clear h2 K2 z0 hu;refine mix_step rfl rfl ?_;go_wp2_with fail
    refine oco.mono ?_;rintro en w4 (⟨rfl,c4⟩|⟨v4,ps,τ4,S4,rfl,hpl,hple,hr4,hS4,K4,fx4,tg4⟩)
    · have h4:=h3.calm c4;have K4:=K3.trans (KeepM.calm τ1 c4);have z4:=c4.cellAt z3 id;have ost:=sstep_is h4.st hs (by omega);clear oco h3 K3 z3;refine⟨z4,?_⟩;refine mix_read (.tuple #[.slice none 0 0,.bool false]) rfl rfl (fun w' hw'=>?_) (fun _ _ _ h=>h) ?_
      · simp[go_sem]
      refine mix_read (.slice none 0 0) rfl rfl (fun w' hw'=>?_) (fun _ _ _ h=>h) ?_
      · simp[go_sem]
      refine mix_read (.bool false) rfl rfl (fun w' hw'=>?_) (fun _ _ _ h=>h) ?_
      · simp[go_sem]
      refine mix_step rfl rfl ?_;unfold Oper.wp;go_simp
      first|refine⟨z4,?_⟩|skip
      refine mix_step rfl rfl ?_;unfold Oper.wp;go_simp
      first|refine⟨z4,?_⟩|skip
      refine mix_end ?_;go_wp2_with fail
      refine ost.mono ?_;rintro en wx ⟨⟨bx,rfl⟩,nx⟩;clear ost z4;obtain⟨τx,Sx,hx,Kx,-,-⟩:=h4.nx nx;have KX:=K4.trans Kx;obtain⟨XX,hXX⟩:∃XX,XX=X:=⟨_,rfl⟩;rw[←hXX] at hx;clear hXX;clear h4 K4 Kx nx;have y0:=(hx.r.c 0 _ rfl).1;have oc:=mout_1 hx;go_wp2_with fail
      refine oc.mono ?_;rintro en w5 ⟨v5,l5,τ5,S5,rfl,hrow5,hl5,h5,e5,-,K5,tg5⟩;clear oc y0;obtain⟨N5,hN5⟩:∃N5,l5.length=N5:=⟨_,rfl⟩;obtain⟨a5,c5,hv5⟩:=hrow5.sliceN (n:=N5) (by rw[nI_len,hN5]);subst v5;have KX5:=KX.trans K5;have hI5:Hid (NlI w5 τ5 s (q+s) mp S5 Q tv hv XX (.slice a5 N5 c5) l5 w5):=⟨τ5,_,h5,KeepM.refl _ _,hrow5,tg5⟩;have hN5b:N5≤200000:=by omega
      replace hN5:=hid hN5;replace KX5:=hid KX5;clear hx KX K5 h5 hrow5 tg5 e5;go_wp2_with fail
      go_loopw [39] (fun z wr=>∃i:Nat,i≤N5∧z=vI i∧NlI w5 τ5 s (q+s) mp S5 Q tv hv XX (.slice a5 N5 c5) l5 wr) (fun z _=>N5-(intOf z).toNat)
      case atStart=>exact⟨0,by omega,rfl,hI5.out⟩
      case round=>
        obtain⟨i,hi,rfl,τi,evi,hm,Ki,hrow,htg⟩:=hrel;clear hI5
        by_cases hlt:i<N5
        · obtain⟨gb,⟨sa,sc,hsv,hsa⟩,hown,_⟩:=row_slc hrow;injection hsv with u1 u2 u3
          have hNl:i<l5.length:=by rw[hN5.out];exact hlt
          have hra:=hsa (by omega);rw[←u1] at hra;subst hra;have x0:=(hown i hNl).1;obtain⟨p,hp⟩:∃p:Nat,l5.getD i 0=p:=⟨_,rfl⟩;rw[hp] at x0;have on:=mnote_is hm (-1) 0 0 5 0 (p:Int);clear hown u1 u2 u3 hsa hp;go_wp2_with fail
          refine on.mono ?_;rintro en w6 ⟨rfl,τ6,ev6,h6,t6,K6⟩;clear on x0;have hfin:Hid (NlI w5 τ5 s (q+s) mp S5 Q tv hv XX (.slice (some ⟨gb,0,none⟩) N5 c5) l5 w6):=⟨τ6,ev6,h6,Ki.trans K6,hrow.frB K6.fr (fun b hb e=>by rw[htg b hb] at e;omega),fun b hb=>(t6 b (hrow.lt hb).2).trans (htg b hb)⟩;clear h6 K6 Ki hm hrow htg t6;go_wp2_with fail
          exact⟨⟨i+1,by omega,by simp,hfin.out⟩,by simp[intOf] <;> omega⟩
        · obtain rfl:i=N5:=by omega
          have KX:=KX5.out.trans Ki;have y0:=(hm.r.c 0 _ rfl).1;have oc:=mout_0 hm;clear hrow htg Ki KX5;go_wp2_with fail
          refine oc.mono ?_;rintro en w7 ⟨v7,l7,τ7,S7,rfl,hrow7,hl7,h7,e7,-,K7,tg7⟩;clear oc y0;obtain⟨N7,hN7⟩:∃N7,l7.length=N7:=⟨_,rfl⟩;obtain⟨a7,c7,hv7⟩:=hrow7.sliceN (n:=N7) (by rw[nI_len,hN7]);subst v7;have KX7:=KX.trans K7;have hI7:Hid (NlI w7 τ7 s (q+s) mp S7 Q tv hv XX (.slice a7 N7 c7) l7 w7):=⟨τ7,_,h7,KeepM.refl _ _,hrow7,tg7⟩;have hN7b:N7≤200000:=by omega
          replace hN7:=hid hN7;replace KX7:=hid KX7;clear hm KX K7 h7 hrow7 tg7 e7;go_wp2_with fail
          go_loopw [57] (fun z wr=>∃i:Nat,i≤N7∧z=vI i∧NlI w7 τ7 s (q+s) mp S7 Q tv hv XX (.slice a7 N7 c7) l7 wr) (fun z _=>N7-(intOf z).toNat)
          case atStart=>exact⟨0,by omega,rfl,hI7.out⟩
          case round=>
            obtain⟨j,hj,rfl,τi,evi,hm,Ki,hrow,htg⟩:=hrel;clear hI7
            by_cases hlt:j<N7
            · obtain⟨gb,⟨sa,sc,hsv,hsa⟩,hown,_⟩:=row_slc hrow;injection hsv with u1 u2 u3
              have hNl:j<l7.length:=by rw[hN7.out];exact hlt
              have hra:=hsa (by omega);rw[←u1] at hra;subst hra;have x0:=(hown j hNl).1;obtain⟨p,hp⟩:∃p:Nat,l7.getD j 0=p:=⟨_,rfl⟩;rw[hp] at x0;have on:=mnote_is hm (-1) 0 0 4 0 (p:Int);clear hown u1 u2 u3 hsa hp;go_wp2_with fail
              refine on.mono ?_;rintro en w6 ⟨rfl,τ6,ev6,h6,t6,K6⟩;clear on x0;have hfin:Hid (NlI w7 τ7 s (q+s) mp S7 Q tv hv XX (.slice (some ⟨gb,0,none⟩) N7 c7) l7 w6):=⟨τ6,ev6,h6,Ki.trans K6,hrow.frB K6.fr (fun b hb e=>by rw[htg b hb] at e;omega),fun b hb=>(t6 b (hrow.lt hb).2).trans (htg b hb)⟩;clear h6 K6 Ki hm hrow htg t6;go_wp2_with fail
              exact⟨⟨j+1,by omega,by simp,hfin.out⟩,by simp[intOf] <;> omega⟩
            · obtain rfl:j=N7:=by omega
              have hfin:∀b:Bool,McP w τ s (q+s) mp Q tv hv (.returned (.bool b)) wr:=fun b=>⟨⟨b,rfl⟩,τi,_,_,_,hm,KX7.out.trans Ki⟩;replace hfin:=hid hfin;clear hm Ki hrow htg KX7;go_wp2;go_ret;exact hfin.out _
    · have h4:Mc w4 τ4 s q mp S4 Q tv hv ev X:=⟨hS4,by rw[fx4.sp];exact h3.r.keep K4.w⟩;have KM4:=K3.trans K4.w.m;have z4:w4.cell? ⟨mp,0,none⟩=some (pV S.sp):=by have:=(h4.r.c 0 _ rfl).1;rw[fx4.sp] at this;exact this
      have hps:ps.length=12*X.length:=by rw[hpl,hrl]
      have hsr:=SRow.of hr4;obtain⟨va,vn,vc,rfl⟩:=hr4.letters;have orp:=mreplace_is h4 hsr hps hple (fun b hb=>⟨(hr4.lt hb).2,fun e=>by have h1:=h4.r.t1 b e;have h2:=tg4 b hb;omega⟩);clear oco h3 K3 z3 hr4 hsr;refine⟨z4,?_⟩;refine mix_read (.tuple #[.slice va vn vc,.bool true]) rfl rfl (fun w' hw'=>?_) (fun _ _ _ h=>h) ?_
      · simp[go_sem]
      refine mix_read (.slice va vn vc) rfl rfl (fun w' hw'=>?_) (fun _ _ _ h=>h) ?_
      · simp[go_sem]
      refine mix_read (.bool true) rfl rfl (fun w' hw'=>?_) (fun _ _ _ h=>h) ?_
      · simp[go_sem]
      refine mix_step rfl rfl ?_;unfold Oper.wp;go_simp
      first|refine⟨z4,?_⟩|skip
      refine mix_step rfl rfl ?_;unfold Oper.wp;go_simp
      first|refine⟨z4,?_⟩|skip
      refine mix_end ?_;go_wp2_with fail
      refine orp.mono ?_;rintro en wx ⟨rfl,XX,hY1,hY2,hY3,fY⟩;clear orp z4;obtain⟨hxm,Kx⟩:=h4.places hY1 hY2 hY3 fY;have hx:Mc wx τ4 s (q+s) mp S4 Q tv hv ev XX:=hxm.mono (Nat.le_refl _) (by omega);have KX:=KM4.trans Kx;clear h4 KM4 Kx hxm hY1 hY3 fY K4 hS4;have y0:=(hx.r.c 0 _ rfl).1;have oc:=mout_1 hx;go_wp2_with fail
      refine oc.mono ?_;rintro en w5 ⟨v5,l5,τ5,S5,rfl,hrow5,hl5,h5,e5,-,K5,tg5⟩;clear oc y0;obtain⟨N5,hN5⟩:∃N5,l5.length=N5:=⟨_,rfl⟩;obtain⟨a5,c5,hv5⟩:=hrow5.sliceN (n:=N5) (by rw[nI_len,hN5]);subst v5;have KX5:=KX.trans K5;have hI5:Hid (NlI w5 τ5 s (q+s) mp S5 Q tv hv XX (.slice a5 N5 c5) l5 w5):=⟨τ5,_,h5,KeepM.refl _ _,hrow5,tg5⟩;have hN5b:N5≤200000:=by omega
      replace hN5:=hid hN5;replace KX5:=hid KX5;clear hx KX K5 h5 hrow5 tg5 e5;go_wp2_with fail
      go_loopw [39] (fun z wr=>∃i:Nat,i≤N5∧z=vI i∧NlI w5 τ5 s (q+s) mp S5 Q tv hv XX (.slice a5 N5 c5) l5 wr) (fun z _=>N5-(intOf z).toNat)
      case atStart=>exact⟨0,by omega,rfl,hI5.out⟩
      case round=>
        obtain⟨i,hi,rfl,τi,evi,hm,Ki,hrow,htg⟩:=hrel;clear hI5
        by_cases hlt:i<N5
        · obtain⟨gb,⟨sa,sc,hsv,hsa⟩,hown,_⟩:=row_slc hrow;injection hsv with u1 u2 u3
          have hNl:i<l5.length:=by rw[hN5.out];exact hlt
          have hra:=hsa (by omega);rw[←u1] at hra;subst hra;have x0:=(hown i hNl).1;obtain⟨p,hp⟩:∃p:Nat,l5.getD i 0=p:=⟨_,rfl⟩;rw[hp] at x0;have on:=mnote_is hm (-1) 0 0 5 0 (p:Int);clear hown u1 u2 u3 hsa hp;go_wp2_with fail
          refine on.mono ?_;rintro en w6 ⟨rfl,τ6,ev6,h6,t6,K6⟩;clear on x0;have hfin:Hid (NlI w5 τ5 s (q+s) mp S5 Q tv hv XX (.slice (some ⟨gb,0,none⟩) N5 c5) l5 w6):=⟨τ6,ev6,h6,Ki.trans K6,hrow.frB K6.fr (fun b hb e=>by rw[htg b hb] at e;omega),fun b hb=>(t6 b (hrow.lt hb).2).trans (htg b hb)⟩;clear h6 K6 Ki hm hrow htg t6;go_wp2_with fail
          exact⟨⟨i+1,by omega,by simp,hfin.out⟩,by simp[intOf] <;> omega⟩
        · obtain rfl:i=N5:=by omega
          have KX:=KX5.out.trans Ki;have y0:=(hm.r.c 0 _ rfl).1;have oc:=mout_0 hm;clear hrow htg Ki KX5;go_wp2_with fail
          refine oc.mono ?_;rintro en w7 ⟨v7,l7,τ7,S7,rfl,hrow7,hl7,h7,e7,-,K7,tg7⟩;clear oc y0;obtain⟨N7,hN7⟩:∃N7,l7.length=N7:=⟨_,rfl⟩;obtain⟨a7,c7,hv7⟩:=hrow7.sliceN (n:=N7) (by rw[nI_len,hN7]);subst v7;have KX7:=KX.trans K7;have hI7:Hid (NlI w7 τ7 s (q+s) mp S7 Q tv hv XX (.slice a7 N7 c7) l7 w7):=⟨τ7,_,h7,KeepM.refl _ _,hrow7,tg7⟩;have hN7b:N7≤200000:=by omega
          replace hN7:=hid hN7;replace KX7:=hid KX7;clear hm KX K7 h7 hrow7 tg7 e7;go_wp2_with fail
          go_loopw [57] (fun z wr=>∃i:Nat,i≤N7∧z=vI i∧NlI w7 τ7 s (q+s) mp S7 Q tv hv XX (.slice a7 N7 c7) l7 wr) (fun z _=>N7-(intOf z).toNat)
          case atStart=>exact⟨0,by omega,rfl,hI7.out⟩
          case round=>
            obtain⟨j,hj,rfl,τi,evi,hm,Ki,hrow,htg⟩:=hrel;clear hI7
            by_cases hlt:j<N7
            · obtain⟨gb,⟨sa,sc,hsv,hsa⟩,hown,_⟩:=row_slc hrow;injection hsv with u1 u2 u3
              have hNl:j<l7.length:=by rw[hN7.out];exact hlt
              have hra:=hsa (by omega);rw[←u1] at hra;subst hra;have x0:=(hown j hNl).1;obtain⟨p,hp⟩:∃p:Nat,l7.getD j 0=p:=⟨_,rfl⟩;rw[hp] at x0;have on:=mnote_is hm (-1) 0 0 4 0 (p:Int);clear hown u1 u2 u3 hsa hp;go_wp2_with fail
              refine on.mono ?_;rintro en w6 ⟨rfl,τ6,ev6,h6,t6,K6⟩;clear on x0;have hfin:Hid (NlI w7 τ7 s (q+s) mp S7 Q tv hv XX (.slice (some ⟨gb,0,none⟩) N7 c7) l7 w6):=⟨τ6,ev6,h6,Ki.trans K6,hrow.frB K6.fr (fun b hb e=>by rw[htg b hb] at e;omega),fun b hb=>(t6 b (hrow.lt hb).2).trans (htg b hb)⟩;clear h6 K6 Ki hm hrow htg t6;go_wp2_with fail
              exact⟨⟨j+1,by omega,by simp,hfin.out⟩,by simp[intOf] <;> omega⟩
            · obtain rfl:j=N7:=by omega
              have hfin:∀b:Bool,McP w τ s (q+s) mp Q tv hv (.returned (.bool b)) wr:=fun b=>⟨⟨b,rfl⟩,τi,_,_,_,hm,KX7.out.trans Ki⟩;replace hfin:=hid hfin;clear hm Ki hrow htg KX7;go_wp2;go_ret;exact hfin.out _
end
section
open Go.ChangeShapes Go.WideShapes Go.ChangeAt Go.RowKit Go.Deep
section
variable {H:Type}{enc:TypeId × Value→H}{P:Program}{w:World}{base:Nat}{held:Bool}
theorem open_sl {t e:TypeId}{k fuel:Nat}{R:List Value→Prop}{cs:List Value}{x:DataW H × List MemPlace}(ht:P.underlying t=some (.slice e))(hE:P.cellsOf e=k)(hk:0<k)
    (hR:∀fuel cs x,DataW.trod enc P w base (fun _=>true) held fuel e cs=some x→R cs)
    (hf:DataW.trod enc P w base (fun _=>true) held fuel t cs=some x) :
    ∃ (a:Option Addr) (n cap:Nat) (xs:List (List Value)),cs=[.slice a n cap]∧n≤maxLen∧xs.length=n∧(∀x∈xs,R x)∧∀i,i<n→∃g o,a=some ⟨g,o,none⟩∧g<w.heap.size∧∀j u,(xs.getD i [])[j]?=some u→w.cell? ⟨g,o+i*k+j,none⟩=some u:=by
  rcases open_slice ht hf with ⟨hcs,_⟩|⟨a,len,cap,m,n,D,Pl,hcs,hb,hl,hm,hmm,hx,hi⟩
  · exact⟨none,0,0,[],hcs,by simp,rfl,by simp,fun i hi=>absurd hi (Nat.not_lt_zero i)⟩
  · simp at hmm;rw[hE] at hi
    have each:∀i,i<len→∃cs,(cs.length=k∧R cs)∧∀j u,cs[j]?=some u→w.cell? (a.add (i*k+j))=some u:=by
      intro i hil;obtain⟨cs,hc,ht'⟩:=hi i (by omega);obtain⟨_,hlen,hat⟩:=World.cells?_some hc;refine⟨cs,⟨hlen,hR _ _ _ ht'⟩,fun j u hu=>?_⟩;have hj:j<k:=by rw[←hlen];exact(List.getElem?_eq_some_iff.1 hu).1
      rw[←Go.Deep.add_add,hat j hj,hu]
    have hL:∃xs:List (List Value),xs.length=len∧∀i,i<len→(((xs.getD i []).length=k∧R (xs.getD i []))∧∀j u,(xs.getD i [])[j]?=some u→w.cell? (a.add (i*k+j))=some u):=by
      refine⟨(List.range len).map (fun i=>if h:i<len then (each i h).choose else []),by simp,fun i hi=>?_⟩;have:=(each i hi).choose_spec;simpa[List.getD,hi] using this
    obtain⟨xs,hxl,hxs⟩:=hL;refine⟨some a,len,cap,xs,hcs,by omega,hxl,fun x hx=>?_,fun i hil=>?_⟩
    · obtain⟨i,hi,rfl⟩:=List.mem_iff_getElem.1 hx;have:=(hxs i (by omega)).1.2;simpa[List.getD,hi] using this
    · obtain⟨⟨hl0,_⟩,hc0⟩:=hxs i hil;obtain⟨⟨hl1,_⟩,hc1⟩:=hxs 0 (by omega);obtain⟨b,off,spot⟩:=a;have hsome:(xs.getD 0 [])[0]?=some ((xs.getD 0 [])[0]'(by omega)):=List.getElem?_eq_getElem (by omega);have h00:=hc1 0 _ hsome;have hspot:spot=none:=by simpa[Addr.add] using World.cell?_spot h00
      subst hspot;rw[addr_add] at h00;refine⟨b,off,rfl,World.block_lt_of_cell? w _ h00,fun j u hu=>?_⟩;have:=hc0 j u hu;rw[addr_add] at this
      rwa [Nat.add_assoc]
end
theorem list_rel {α β:Type}{r:β→α→Prop}(dx:β)(d:α):∀ {xs:List β},(∀x∈xs,∃o,r x o)→∃l:List α,l.length=xs.length∧∀i,i<xs.length→r (xs.getD i dx) (l.getD i d)
  | [],_=>⟨[],rfl,fun i h=>absurd h (Nat.not_lt_zero i)⟩
  | x::xs,h=>by
    obtain⟨o,ho⟩:=h x (by simp);obtain⟨l,hl,hr⟩:=list_rel dx d (xs:=xs) (fun y hy=>h y (by simp[hy]));refine⟨o::l,by simp[hl],fun i hi=>?_⟩
    cases i with
    | zero=>exact ho
    | succ i=>exact hr i (by simpa using hi)
def QOk (Q:List (List (List Dd))):Prop:=∀t,t<Q.length→∀b,b<(Q.getD t []).length→∀i,i<((Q.getD t []).getD b []).length→(((Q.getD t []).getD b []).getD i dD).Ok
set_option maxRecDepth 100000 in
theorem open_prg {H:Type}{enc:TypeId × Value→H}{w:World}{base:Nat}{held:Bool}{r:Reach}{b0:Nat}{v:Value}{d:DataW H}{p:List MemPlace}
    (hv:Value.okWide Tryz.prog w r b0 22 v) (h:DataW.Trod enc Tryz.prog w base (fun _=>true) held 22 v d p) :
    ∃Q:List (List (List Dd)),PrgIn (fun b=>b<w.heap.size) w v Q∧QOk Q∧Q.length≤maxLen:=by
  have e1:Tryz.prog.cellsOf 3=1:=by kernel_rfl
  have e2:Tryz.prog.cellsOf 40=1:=by kernel_rfl
  have e3:Tryz.prog.cellsOf 41=1:=by kernel_rfl
  have e5:Tryz.prog.cellsOf 43=5:=by kernel_rfl
  have hD:∀fuel cs x,DataW.trod enc Tryz.prog w base (fun _=>true) held fuel 43 cs=some x→∃d:Dd,d.Ok∧cs=ddC d:=fun fuel cs x hx=>by
    obtain⟨ys,n,_,_,hl,hyl,hf⟩:=DataW.trod_struct Tryz.underlying43 hx;rw[e5] at hl
    match cs,hl with
    | [c0,c1,c2,c3,c4],_=>
      match ys,hyl with
      | [y0,y1,y2,y3,y4],_=>
        have f0:DataW.trod enc Tryz.prog w base (fun _=>true) held n 3 (([c0,c1,c2,c3,c4].drop 0).take (Tryz.prog.cellsOf 3))=some y0:=hf 0 _ rfl;have f1:DataW.trod enc Tryz.prog w base (fun _=>true) held n 3 (([c0,c1,c2,c3,c4].drop 1).take (Tryz.prog.cellsOf 3))=some y1:=hf 1 _ rfl;have f2:DataW.trod enc Tryz.prog w base (fun _=>true) held n 3 (([c0,c1,c2,c3,c4].drop 2).take (Tryz.prog.cellsOf 3))=some y2:=hf 2 _ rfl;have f3:DataW.trod enc Tryz.prog w base (fun _=>true) held n 3 (([c0,c1,c2,c3,c4].drop 3).take (Tryz.prog.cellsOf 3))=some y3:=hf 3 _ rfl;have f4:DataW.trod enc Tryz.prog w base (fun _=>true) held n 3 (([c0,c1,c2,c3,c4].drop 4).take (Tryz.prog.cellsOf 3))=some y4:=hf 4 _ rfl;simp only[e1] at f0 f1 f2 f3 f4;obtain⟨a,ha,wa⟩:=trod_i64 Tryz.underlying3 f0;obtain⟨b,hb,wb⟩:=trod_i64 Tryz.underlying3 f1;obtain⟨c,hc,wc⟩:=trod_i64 Tryz.underlying3 f2;obtain⟨d,hd,wd⟩:=trod_i64 Tryz.underlying3 f3;obtain⟨e,he,we⟩:=trod_i64 Tryz.underlying3 f4;simp at ha hb hc hd he;exact⟨⟨a,b,c,d,e⟩,⟨wa,wb,wc,wd,we⟩,by simp only[ddC,ha,hb,hc,hd,he]⟩
  have hL:∀fuel cs x,DataW.trod enc Tryz.prog w base (fun _=>true) held fuel 40 cs=some x→∃l:List Dd,∃u,cs=[u]∧DdsIn (fun b=>b<w.heap.size) w u l∧∀i,i<l.length→(l.getD i dD).Ok:=fun fuel cs x hx=>by
    obtain⟨a,n,cap,xs,rfl,hn,rfl,hR,hc⟩:=open_sl (R:=fun cs=>∃d:Dd,d.Ok∧cs=ddC d) Tryz.underlying40 e5 (by decide) hD hx;obtain⟨l,hl,hr⟩:=list_rel (r:=fun(x:List Value) (d:Dd)=>d.Ok∧x=ddC d) [] dD hR;refine⟨l,_,rfl,⟨a,cap,by rw[hl],fun i hi=>?_⟩,fun i hi=>(hr i (by omega)).1⟩;obtain⟨g,o,ha,hg,hcc⟩:=hc i (by omega);exact⟨g,o,ha,hg,fun j u hu=>hcc j u (by rw[(hr i (by omega)).2];exact hu)⟩
  have hB:∀fuel cs x,DataW.trod enc Tryz.prog w base (fun _=>true) held fuel 41 cs=some x→∃P:List (List Dd),∃u,cs=[u]∧BlkIn (fun b=>b<w.heap.size) w u P∧∀b,b<P.length→∀i,i<(P.getD b []).length→((P.getD b []).getD i dD).Ok:=fun fuel cs x hx=>by
    obtain⟨a,n,cap,xs,rfl,hn,rfl,hR,hc⟩:=open_sl Tryz.underlying41 e2 (by decide) hL hx;obtain⟨l,hl,hr⟩:=list_rel [] [] hR;refine⟨l,_,rfl,⟨a,cap,by rw[hl],fun i hi=>?_⟩,fun i hi=>by obtain⟨u,h1,h2,h3⟩:=hr i (by omega);exact h3⟩;obtain⟨g,o,ha,hg,hcc⟩:=hc i (by omega);obtain⟨u,h1,h2,h3⟩:=hr i (by omega);exact⟨g,o,u,ha,hg,by have:=hcc 0 u (by rw[h1];rfl);simpa using this,h2⟩
  obtain⟨fuel,hf⟩:=h;obtain⟨a,n,cap,xs,hcs,hn,rfl,hR,hc⟩:=open_sl Tryz.underlying22 e3 (by decide) hB hf;obtain⟨a0,len,cap0,rfl⟩:=okWide_slice Tryz.underlying22 hv;simp[Value.cells] at hcs;obtain⟨rfl,rfl,rfl⟩:=hcs;obtain⟨l,hl,hr⟩:=list_rel [] [] hR;refine⟨l,⟨a0,cap0,by rw[hl],fun i hi=>?_⟩,fun i hi=>by obtain⟨u,h1,h2,h3⟩:=hr i (by omega);exact h3,by omega⟩;obtain⟨g,o,ha,hg,hcc⟩:=hc i (by omega);obtain⟨u,h1,h2,h3⟩:=hr i (by omega);exact⟨g,o,u,ha,hg,by have:=hcc 0 u (by rw[h1];rfl);simpa using this,h2⟩
end
end Go.Proofs.YtdffnjikmkgjkaaGreat
