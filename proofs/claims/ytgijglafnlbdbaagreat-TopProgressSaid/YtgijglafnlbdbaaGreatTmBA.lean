import Derived.Test.YtgijglafnlbdbaaGreatTmAX
import Derived.Test.YtgijglafnlbdbaaGreatTmAZ
set_option linter.all false
set_option maxHeartbeats 8000000
set_option maxRecDepth 8000
namespace Go.Proofs.YtgijglafnlbdbaaGreat
open RowKit Shelf Proofs.Tryz
open Go renaming World->ag,Value->aA,Calls->aJ
section
structure xC(w:ag)(τ:Nat->Nat)(w':ag)(aL:Nat->Nat):Prop where
 fr:Fr (λk=>τ k<500) w w'
 tg:∀b,b<w.heap.size->500<=τ b->aL b=τ b
theorem aC.w{w w':ag}{τ aL:Nat->Nat}(h:aC w τ w' aL):xC w τ w' aL:=⟨h.fr,λb hb _=>h.tg b hb⟩
structure cP(w:ag)(τ:Nat->Nat)(w':ag)(aL:Nat->Nat):Prop where
 fr:Fr (λk=>τ k<603) w w'
 tg:∀b,b<w.heap.size->603<=τ b->aL b=τ b
theorem xC.m{w w':ag}{τ aL:Nat->Nat}(h:xC w τ w' aL):cP w τ w' aL:=⟨h.fr.mono λk _ e=>by omega,λb hb e=>h.tg b hb (by omega)⟩
theorem cP.refl(w:ag)(τ:Nat->Nat):cP w τ w τ:=⟨ah,λ_ _ _=>rfl⟩
theorem cP.calm{w w':ag}(τ:Nat->Nat)(c:Calm w w'):cP w τ w' τ:=⟨c.any,λ_ _ _=>rfl⟩
theorem cP.trans{w w1 w2:ag}{τ gI fj:Nat->Nat}(h:cP w τ w1 gI)(k:cP w1 gI w2 fj):cP w τ w2 fj:=
 ⟨h.fr.join k.fr (λj hj e=>by
  by_cases e2:603<=τ j
  ·rw[h.tg j hj e2] at e;omega
  ·show τ j<603;omega),λb hb e=>by
  have h1:=h.tg b hb e
  rw[k.tg b (Nat.lt_of_lt_of_le hb h.fr.size) (by omega),h1]⟩
def d0:bP:=⟨0,0,[],[],false⟩
structure JN(w:ag)(τ:Nat->Nat)(mp sp:Nat)(Q:List (List (List Dd)))(tv hv:aA)(ev:xy)(X:List bP):Prop where
 c:af w mp [pV sp,tv,hv,.int .i32 0,.int .u32 0,ev]
 h:w.ownsRow 0 31 15 hv X.length (X.flatMap aX)
 e:w.ownsRow 0 76 6 ev ev.H.length (ev.H.flatMap En.c)/\ev.H.length<=2000
 p:ed (λb=>τ b=603) w tv Q
 t0:τ mp=600
 t1:∀b,ay hv b->τ b=601
 t2:∀b,ay ev b->τ b=602
 n:X.length=Q.length
 ok:∀t,t<X.length->ko (Q.getD t []).length (X.getD t d0)
 pk:tX Q
theorem JN.keep{w w':ag}{τ aL:Nat->Nat}{mp sp:Nat}{Q:List (List (List Dd))}{tv hv:aA}{ev:xy}{X:List bP}(h:JN w τ mp sp Q tv hv ev X)(k:xC w τ w' aL):JN w' aL mp sp Q tv hv ev X:=by
 have Ew:mp<w.heap.size:=h.c.lt (by simp);obtain⟨he,hn⟩:=h.e;refine⟨h.c.fr k.fr (by rw[h.t0];omega),aw h.h k.fr (λb hb e=>by rw[h.t1 b hb] at e;omega),⟨aw he k.fr (λb hb e=>by rw[h.t2 b hb] at e;omega),hn⟩,?_,?_,?_,?_,h.n,h.ok,h.pk⟩
 ·exact(h.p.mono (T':=λb=>τ b=603/\b<w.heap.size) (λb hb e=>⟨e,hb⟩)).fr k.fr (λb e e2=>by rw[e.1] at e2;omega) |>.mono (λb _ e=>by rw[k.tg b e.2 (by rw[e.1];omega)];exact e.1)
 ·rw[k.tg mp Ew (by rw[h.t0];omega)];exact h.t0
 ·exact λb hb=>(k.tg b (World.ownsRow.lt h.h b hb).2 (by rw[h.t1 b hb];omega)).trans (h.t1 b hb)
 ·exact λb hb=>(k.tg b (World.ownsRow.lt he b hb).2 (by rw[h.t2 b hb];omega)).trans (h.t2 b hb)
theorem JN.calm{w w':ag}{τ:Nat->Nat}{mp sp:Nat}{Q:List (List (List Dd))}{tv hv:aA}{ev:xy}{X:List bP}(h:JN w τ mp sp Q tv hv ev X)(c:Calm w w'):JN w' τ mp sp Q tv hv ev X:=h.keep (aC.calm τ c).w
structure Mc(w:ag)(τ:Nat->Nat)(s q mp:Nat)(S:aE)(Q:List (List (List Dd)))(tv hv:aA)(ev:xy)(X:List bP):Prop where
 st:St w τ s q S
 r:JN w τ mp S.sp Q tv hv ev X
variable {w:ag}{τ:Nat->Nat}{s q mp:Nat}{S:aE}{Q:List (List (List Dd))}{tv hv:aA}{ev:xy}{X:List bP}
theorem Mc.calm{w':ag}(h:Mc w τ s q mp S Q tv hv ev X)(c:Calm w w'):Mc w' τ s q mp S Q tv hv ev X:=⟨h.st.calm c,h.r.calm c⟩
theorem Mc.fresh(h:Mc w τ s q mp S Q tv hv ev X):∃τ0,Mc w τ0 s q mp S Q tv hv ev X/\oO w τ τ0/\∀k,w.heap.size<=k->τ0 k=1000:=by
 obtain⟨τ0,h1,h2,h3⟩:=h.st.fresh;exact⟨τ0,⟨h1,h.r.keep ⟨ah,λb hb _=>h2 b hb⟩⟩,h2,h3⟩
noncomputable def Wp(A:HS)(a:Nat):Nat:=if a=0 then 0 else sr A a
theorem EN(h:Mc w τ s q mp S Q tv hv ev X){a:Nat}(ha:a<=131072):aJ prog 19 #[pV mp,vI (a:Int)] w λe w'=>e=.returned (vI (Wp S.D.A a:Nat))/\Calm w w':=by
 have hs:=vP h.st ha;have y0:=(h.r.c 0 _ rfl).1;clear h
 by_cases h0:a=0
 ·subst h0;clear hs;go_in;go_wp2;go_ret;exact⟨by simp[Wp],ah⟩
 ·have e0:((a:Int)==0)=false:=by simp;omega
  have e1:Wp S.D.A a=sr S.D.A a:=if_neg h0;rw[e1];replace h0:=hid h0;replace e1:=hid e1;go_in;go_wp2_with fail
  refine hs.mono ?_;rintro e w' ⟨⟨x,rfl⟩,c⟩;clear hs;go_wp2;go_ret;exact⟨rfl,c⟩
end
section
theorem Nn{x:bP}(h:x.V.length=6){a:Nat}(ha:a<6)(v:Nat):(aX x).set (8+a) (vI (v:Int))=aX { x with V:=x.V.set a v }:=by
 obtain⟨b,p,R,V,live⟩:=x
 match V,h with
 | [r0,r1,r2,r3,r4,r5],_=>
   rcases(by omega:a=0\/a=1\/a=2\/a=3\/a=4\/a=5) with rfl|rfl|rfl|rfl|rfl|rfl <;> rfl
theorem GN{x:bP}{a:Nat}(ha:a<6):(aX x)[8+a]?=some (vI ((x.V.getD a 0:Nat):Int)):=by
 rcases(by omega:a=0\/a=1\/a=2\/a=3\/a=4\/a=5) with rfl|rfl|rfl|rfl|rfl|rfl <;> rfl
def gY(f:Nat->Nat)(l:aj):Nat->aj
 | 0=>l
 | i+1=>(gY f l i).set i (f (l.getD i 0))
theorem rP(f:Nat->Nat)(l:aj):∀i,(gY f l i).length=l.length
 | 0=>rfl
 | i+1=>by rw[gY,bN,rP f l i]
theorem rN(f:Nat->Nat)(l:aj):∀i j,i<=j->(gY f l i).getD j 0=l.getD j 0
 | 0,_,_=>rfl
 | i+1,j,h=>by
   rw[gY,aS,List.getElem?_set_ne (by omega),<-aS];exact rN f l i j (by omega)
theorem yL(f:Nat->Nat){l:aj}(h:l.length=6):gY f l 6=l.map f:=by
 match l,h with
 | [a,b,c,d,e,g],_=>rfl
noncomputable def bP.ser(A:HS)(x:bP):bP:={ x with R:=x.R.map (Wp A),V:=x.V.map (Wp A) }
variable {w:ag}{τ:Nat->Nat}{s q mp:Nat}{S:aE}{Q:List (List (List Dd))}{tv hv:aA}{ev:xy}{X:List bP}
theorem tK(h:w.ownsRow 0 31 15 hv X.length (X.flatMap aX)){t:Nat}(ht:t<X.length):∃g c,hv=.slice (some ⟨g,0,none⟩) X.length c/\∀j u,(aX (X.getD t d0))[j]?=some u->Own w g (t*15+j) u:=bT (ety:=31) (k:=15) iA (by decide) h d0 ht
theorem uZ(h:Mc w τ s q mp S Q tv hv ev X){t:Nat}(ht:t<X.length):aJ prog 8 #[pV mp,vI (t:Int)] w λe w'=>e=.returned (.tuple #[bQ ((X.getD t d0).ser S.D.A),.bool true])/\Calm w w':=by
 have bU:=h.r.ok t ht;obtain⟨g,c,nZ,hg⟩:=tK h.r.h ht;obtain⟨N,hN⟩:=ao X.length;rw[hN] at nZ ht;have hN8:N<=4:=by rw[<-hN,h.r.n];exact h.r.pk.n.2
 subst hv;obtain⟨x,hx⟩:=ao (X.getD t d0);rw[hx] at bU hg ⊢;have os:Hid (∀ (a:Nat) W,Calm w W->a<=131072->aJ prog 19 #[pV mp,vI (a:Int)] W λe w'=>e=.returned (vI (Wp S.D.A a:Nat))/\Calm W w'):=λa W cW ha=>EN (h.calm cW) ha;obtain⟨ka,o4⟩:=mG w [vI 0,vI 0,vI 0,vI 0,vI 0,vI 0,vI 0,vI 0,vI 0,vI 0,vI 0,vI 0,vI 0,vI 0,.bool false] 31;obtain⟨W1,gO⟩:=ao (w.alloc (.cells #[vI 0,vI 0,vI 0,vI 0,vI 0,vI 0,vI 0,vI 0,vI 0,vI 0,vI 0,vI 0,vI 0,vI 0,.bool false] 31));have mq:W1.heap.size=w.heap.size+1:=by rw[<-gO];simp
 rw[gO] at ka o4;have y2:=ka.cellAt (h.r.c 2 _ rfl).1 id;have eC:∀j u,(aX x)[j]?=some u->W1.cell? ⟨g,t*15+j,none⟩=some u:=λj u hu=>ka.cellAt (hg j u hu).1 id;have e0:=eC 0 _ rfl;have e1:=eC 1 _ rfl;have e2:=eC 2 _ rfl;have e3:=eC 3 _ rfl;have e4:=eC 4 _ rfl;have e5:=eC 5 _ rfl;have e6:=eC 6 _ rfl;have e7:=eC 7 _ rfl;have e8:=eC 8 _ rfl;have e9:=eC 9 _ rfl;have FO:=eC 10 _ rfl;have FP:=eC 11 _ rfl;have Bn:=eC 12 _ rfl;have Ds:=eC 13 _ rfl;have Hp:=eC 14 _ rfl;rw[fM] at e0;simp only[rg] at e2 e3 e4 e5 e6 e7 e8 e9 FO FP Bn Ds;have kb:Calm w (W1.alloc (.cells #[vI x.b,vI x.p,rg x.R 0,rg x.R 1,rg x.R 2,rg x.R 3,rg x.R 4,rg x.R 5,rg x.V 0,rg x.V 1,rg x.V 2,rg x.V 3,rg x.V 4,rg x.V 5,.bool x.live] 31)):=ka.alloc _;have o6:af (W1.alloc (.cells #[vI x.b,vI x.p,rg x.R 0,rg x.R 1,rg x.R 2,rg x.R 3,rg x.R 4,rg x.R 5,rg x.V 0,rg x.V 1,rg x.V 2,rg x.V 3,rg x.V 4,rg x.V 5,.bool x.live] 31)) (w.heap.size+1) (aX x):=af.kC W1 [_,_,_,_,_,_,_,_,_,_,_,_,_,_,_] _ _ mq;replace o4:=o4.alloc (.cells #[vI x.b,vI x.p,rg x.R 0,rg x.R 1,rg x.R 2,rg x.R 3,rg x.R 4,rg x.R 5,rg x.V 0,rg x.V 1,rg x.V 2,rg x.V 3,rg x.V 4,rg x.V 5,.bool x.live] 31);simp only[rg,aS] at kb o6 o4;replace bU:=hid bU;clear h eC hg hx ka;replace hN:=hid hN;have jD:=bU.out;have YZ:=jD.r;have Y8:=jD.v;replace YZ:=hid YZ;replace Y8:=hid Y8;obtain⟨f,hf⟩:=ao (Wp S.D.A:Nat->Nat)
 have rr:(x.ser S.D.A) = { x with R:=gY f x.R 6,V:=gY f x.V 6 }:=by
  rw[yL f YZ.out,yL f Y8.out,<-hf];rfl
 rw[hf] at os;rw[rr];replace rr:=hid rr;replace hf:=hid hf;have dt0:decide ((t:Int)<0)=false:=decide_eq_false (by omega);have dt1:decide (N<=t)=false:=decide_eq_false (by omega);go_in;go_upto_region 4 with fail
 generalize hW:W1.alloc (.cells #[vI x.b,vI x.p,vI ((x.R[0]?.getD 0:Nat):Int),vI ((x.R[1]?.getD 0:Nat):Int),vI ((x.R[2]?.getD 0:Nat):Int),vI ((x.R[3]?.getD 0:Nat):Int),vI ((x.R[4]?.getD 0:Nat):Int),vI ((x.R[5]?.getD 0:Nat):Int),vI ((x.V[0]?.getD 0:Nat):Int),vI ((x.V[1]?.getD 0:Nat):Int),vI ((x.V[2]?.getD 0:Nat):Int),vI ((x.V[3]?.getD 0:Nat):Int),vI ((x.V[4]?.getD 0:Nat):Int),vI ((x.V[5]?.getD 0:Nat):Int),.bool x.live] 31)=W at *;clear hW e0 e1 e2 e3 e4 e5 e6 e7 e8 e9 FO FP Bn Ds Hp y2;replace o6:=hid o6;replace o4:=hid o4;replace kb:=hid kb;clear jD;go_wp2_with fail
 go_loopw [27] (λz wr=>∃i:Nat,i<=6/\z=vI i/\af wr (w.heap.size+1) (aX { x with R:=gY f x.R i,V:=gY f x.V i })/\af wr w.heap.size [vI 0,vI 0,vI 0,vI 0,vI 0,vI 0,vI 0,vI 0,vI 0,vI 0,vI 0,vI 0,vI 0,vI 0,.bool false]/\Calm w wr) (λz _=>6-(intOf z).toNat)
 case atStart=>exact⟨0,by omega,rfl,o6.out,o4.out,kb.out⟩
 case round=>
  obtain⟨i,hi,rfl,p6,p4,hc⟩:=hrel;clear o6 o4 kb
  by_cases aM:i<6
  ·obtain⟨y,hy⟩:=ao (({ x with R:=gY f x.R i,V:=gY f x.V i } : bP):bP);have hyR:y.R.length=6:=by rw[<-hy];show(gY f x.R i).length=6;rw[rP];exact YZ.out
   have hyV:y.V.length=6:=by rw[<-hy];show(gY f x.V i).length=6;rw[rP];exact Y8.out
   have eR:y.R.getD i 0=x.R.getD i 0:=by rw[<-hy];exact rN f x.R i i (aD _)
   have eV:y.V.getD i 0=x.V.getD i 0:=by rw[<-hy];exact rN f x.V i i (aD _)
   have mR:x.R.getD i 0<=131072:=bU.out.rp _ (get_mem 0 (by have:=YZ.out;omega));have mV:x.V.getD i 0<=131072:=bU.out.vp _ (get_mem 0 (by have:=Y8.out;omega));have e9:({ y with R:=y.R.set i (f (x.R.getD i 0)),V:=y.V.set i (f (x.V.getD i 0)) } : bP) = { x with R:=gY f x.R (i+1),V:=gY f x.V (i+1) }:=by rw[<-hy];rfl
   rw[hy] at p6;obtain⟨a,ha⟩:=ao (x.R.getD i 0);obtain⟨b,hb⟩:=ao (x.V.getD i 0);rw[ha] at eR mR e9;rw[hb] at eV mV e9;have q2:=p6 (2+i) _ (cG aM);rw[eR] at q2;have xo:=q2.1;have yz:=q2.2;have i0:(0:Int)<=i:=by omega
   have i6:(i:Int)<6:=by omega
   have oa:=os.out a wr hc mR;replace hyR:=hid hyR;replace hyV:=hid hyV;replace e9:=hid e9;replace eR:=hid eR;replace eV:=hid eV;replace hy:=hid hy;replace ha:=hid ha;replace hb:=hid hb;clear q2;go_wp2_with fail
   refine oa.mono ?_;rintro e w4 ⟨rfl,c4⟩;clear oa;have p64:=p6.calm c4;have p44:=p4.calm c4;have xo:=c4.cellAt xo id;have yz:=(p64 (2+i) _ (cG aM)).2;have F5:Fr (λb=>b=w.heap.size+1) w4 (w4.setCell ⟨w.heap.size+1,2+i,none⟩ (vI ((f a:Nat):Int))):=(Fr.refl (λb=>b=w.heap.size+1) w4).setCell (p:=⟨w.heap.size+1,2+i,none⟩) (.inl rfl) _;have p65:=p64.set (2+i) (vI ((f a:Nat):Int)) (by show 2+i<15;omega);rw[tL hyR.out aM] at p65;obtain⟨W5,mK⟩:=ao (w4.setCell ⟨w.heap.size+1,2+i,none⟩ (vI ((f a:Nat):Int)));rw[mK] at p65 F5;have Ga:=(hc.trans c4).join F5 (λj hj e=>by omega);have p45:=p44.fr F5 (by omega);have r2:=p65 (8+i) _ (GN aM);have Xy:W5.cell? ⟨w.heap.size+1,8+i,none⟩=some (vI (b:Int)):=by have:=r2.1;rw[show({ y with R:=y.R.set i (f a) } : bP).V=y.V from rfl,eV.out] at this;exact this
   have ob:=os.out b W5 Ga mV;clear p64 p44 F5 r2;go_wp2_with fail
   refine ob.mono ?_;rintro e w6 ⟨rfl,c6⟩;clear ob;have p66:=p65.calm c6;have p46:=p45.calm c6;have Xy:=c6.cellAt Xy id;have r21:=(p66 (8+i) _ (GN aM)).2;have F7:Fr (λb=>b=w.heap.size+1) w6 (w6.setCell ⟨w.heap.size+1,8+i,none⟩ (vI ((f b:Nat):Int))):=(Fr.refl (λb=>b=w.heap.size+1) w6).setCell (p:=⟨w.heap.size+1,8+i,none⟩) (.inl rfl) _;have p67:=p66.set (8+i) (vI ((f b:Nat):Int)) (by show 8+i<15;omega);rw[Nn (x:={ y with R:=y.R.set i (f a) }) hyV.out aM] at p67
   have bM:Hid (af (w6.setCell ⟨w.heap.size+1,8+i,none⟩ (vI ((f b:Nat):Int))) (w.heap.size+1) (aX { x with R:=gY f x.R (i+1),V:=gY f x.V (i+1) })/\af (w6.setCell ⟨w.heap.size+1,8+i,none⟩ (vI ((f b:Nat):Int))) w.heap.size [vI 0,vI 0,vI 0,vI 0,vI 0,vI 0,vI 0,vI 0,vI 0,vI 0,vI 0,vI 0,vI 0,vI 0,.bool false]/\Calm w (w6.setCell ⟨w.heap.size+1,8+i,none⟩ (vI ((f b:Nat):Int)))):=by
    refine⟨?_,p46.fr F7 (by omega),(Ga.trans c6).join F7 (λj hj e=>by omega)⟩;rw[<-e9.out];exact p67
   clear p66 p46 F7 p67 p65 p45 mK xo yz;go_wp2_with fail
   exact⟨⟨i+1,by omega,by simp,bM.out⟩,by simp[intOf] <;> omega⟩
  ·obtain rfl:i=6:=by omega
   obtain⟨x2,dy⟩:=ao (({ x with R:=gY f x.R 6,V:=gY f x.V 6 } : bP):bP);rw[dy] at p6;replace dy:=hid dy;have T1:=p4.whole (us:=(aX x2)) rfl;have F1:=sK wr (w.heap.size) 0 (aX x2);have hC:=hid (hc.join F1 (λj hj e=>by omega));replace T1:=hid T1;simp only[aX,rg] at p6;obtain⟨d0,d1,d2,d3,d4,d5,d6,d7,d8,d9,d10,d11,d12,d13,d14⟩:=af.lB p6;obtain⟨y0,z0,y1,z1,y2,z2,y3,z3,y4,z4,y5,z5,y6,z6,y7,z7,y8,z8,y9,z9,j_,qB,kY,sI,iL,z12,jv,qM,iM,nT⟩:=af.kt p4;clear p4 p6 F1 hc;go_wp2;exact bodyPost_ret (v:=.tuple #[bQ x2,.bool true]) (ME (i:=4) (j:=5) rfl rfl rfl T1.out) rfl ⟨by rw[<-dy.out],hC.out⟩
end
section
def Fm(X:List bP)(k:Nat):aj:=(X.take k).flatMap λx=>x.R++x.V
variable {w:ag}{τ:Nat->Nat}{s q mp:Nat}{S:aE}{Q:List (List (List Dd))}{tv hv:aA}{ev:xy}{X:List bP}
theorem vH{k:Nat}(hk:k<X.length):Fm X (k+1)=Fm X k++((X.getD k d0).R++(X.getD k d0).V):=by
 unfold Fm;rw[List.take_succ_eq_append_getElem hk,List.flatMap_append];have e:X[k]=X.getD k d0:=by simp[aS,hk]
 simp[e]
theorem JN.Fl{sp:Nat}(h:JN w τ mp sp Q tv hv ev X):∀k,k<=X.length->(Fm X k).length=12*k
 | 0,_=>rfl
 | k+1,hk=>by
   rw[vH (by omega),b_,b_,h.Fl k (by omega),(h.ok k (by omega)).r,(h.ok k (by omega)).v];omega
theorem JN.SU{sp:Nat}(h:JN w τ mp sp Q tv hv ev X):∀k,k<=X.length->∀p∈Fm X k,p<=131072
 | 0,_,_,hp=>by cases hp
 | k+1,hk,p,hp=>by
   rw[vH (by omega)] at hp;rcases cJ.1 hp with hp|hp
   ·exact h.SU k (by omega) p hp
   ·rcases cJ.1 hp with hp|hp
    ·exact(h.ok k (by omega)).rp p hp
    ·exact(h.ok k (by omega)).vp p hp
theorem IA(h:Mc w τ s q mp S Q tv hv ev X):aJ prog 51 #[pV mp] w (OE w (Fm X X.length)):=by
 obtain⟨N,hN⟩:=ao X.length;have hN8:N<=4:=by rw[<-hN,h.r.n];exact h.r.pk.n.2
 obtain⟨ha,jT,HT⟩:=aF h.r.h;rw[hN] at HT;have y2:=(h.r.c 2 _ rfl).1;rw[HT] at y2
 have gG:Hid (∀t,t<N->∃g,ha=some ⟨g,0,none⟩/\∀j u,(aX (X.getD t d0))[j]?=some u->w.cell? ⟨g,t*15+j,none⟩=some u):=λt ht=>by
  obtain⟨g,c,nZ,hg⟩:=bT (ety:=31) (k:=15) iA (by decide) h.r.h d0 (show t<X.length by omega);rw[HT] at nZ;injection nZ with e1 _ _
  exact⟨g,e1,λj u hu=>(hg j u hu).1⟩
 have bU:Hid (∀t,t<N->(X.getD t d0).R.length=6/\(X.getD t d0).V.length=6):=λt ht=>⟨(h.r.ok t (by omega)).r,(h.r.ok t (by omega)).v⟩;have ma:Hid (∀k,k<=N->(Fm X k).length=12*k):=λk hk=>h.r.Fl k (by omega);have hsu:Hid (∀k,k<N->Fm X (k+1)=Fm X k++((X.getD k d0).R++(X.getD k d0).V)):=λk hk=>vH (by omega);rw[hN];clear h HT hN;go_in;go_wp2_with fail
 clear y2;go_loopw [3,11] (λx z wr=>∃i:Nat,i<=N/\z=vI i/\aI wr w.heap.size x (nI (Fm X i))/\Calm w wr) (λ_ z _=>N-(intOf z).toNat)
 case atStart=>exact⟨0,by omega,rfl,aI.nil _ _,ah⟩
 case round=>
  obtain⟨i,hi,rfl,aP,hc⟩:=hrel;obtain⟨xa,xn,xc,rfl⟩:=aP.letters
  by_cases aM:i<N
  ·obtain⟨g,rfl,hg⟩:=gG.out i aM;obtain⟨x,hx⟩:=ao (X.getD i d0);obtain⟨hR,hV⟩:=bU.out i aM;have hsi:=hsu.out i aM;have hli:=ma.out i hi;rw[hx] at hg hR hV hsi;have eC:∀j u,(aX x)[j]?=some u->wr.cell? ⟨g,i*15+j,none⟩=some u:=λj u hu=>hc.cellAt (hg j u hu) id;have e0:=eC 0 _ rfl;have e1:=eC 1 _ rfl;have e2:=eC 2 _ rfl;have e3:=eC 3 _ rfl;have e4:=eC 4 _ rfl;have e5:=eC 5 _ rfl;have e6:=eC 6 _ rfl;have e7:=eC 7 _ rfl;have e8:=eC 8 _ rfl;have e9:=eC 9 _ rfl;have FO:=eC 10 _ rfl;have FP:=eC 11 _ rfl;have Bn:=eC 12 _ rfl;have Ds:=eC 13 _ rfl;have Hp:=eC 14 _ rfl;rw[fM] at e0;simp only[rg] at e2 e3 e4 e5 e6 e7 e8 e9 FO FP Bn Ds;have kA:Calm wr (wr.alloc (.cells #[vI x.b,vI x.p,rg x.R 0,rg x.R 1,rg x.R 2,rg x.R 3,rg x.R 4,rg x.R 5,rg x.V 0,rg x.V 1,rg x.V 2,rg x.V 3,rg x.V 4,rg x.V 5,.bool x.live] 31)):=ah.alloc _;have oA:af (wr.alloc (.cells #[vI x.b,vI x.p,rg x.R 0,rg x.R 1,rg x.R 2,rg x.R 3,rg x.R 4,rg x.R 5,rg x.V 0,rg x.V 1,rg x.V 2,rg x.V 3,rg x.V 4,rg x.V 5,.bool x.live] 31)) wr.heap.size (aX x):=af.kC wr [_,_,_,_,_,_,_,_,_,_,_,_,_,_,_] _ _ rfl;simp only[rg,aS] at kA oA;replace hsi:=hid hsi;replace hli:=hid hli;replace hR:=hid hR;replace hV:=hid hV;replace hx:=hid hx;clear hg eC;go_upto_region 5 with fail
   generalize mK:wr.alloc (.cells #[vI x.b,vI x.p,vI ((x.R[0]?.getD 0:Nat):Int),vI ((x.R[1]?.getD 0:Nat):Int),vI ((x.R[2]?.getD 0:Nat):Int),vI ((x.R[3]?.getD 0:Nat):Int),vI ((x.R[4]?.getD 0:Nat):Int),vI ((x.R[5]?.getD 0:Nat):Int),vI ((x.V[0]?.getD 0:Nat):Int),vI ((x.V[1]?.getD 0:Nat):Int),vI ((x.V[2]?.getD 0:Nat):Int),vI ((x.V[3]?.getD 0:Nat):Int),vI ((x.V[4]?.getD 0:Nat):Int),vI ((x.V[5]?.getD 0:Nat):Int),.bool x.live] 31)=W5 at *;clear mK e0 e1 e2 e3 e4 e5 e6 e7 e8 e9 FO FP Bn Ds Hp;have or:=yM W5 hR.out hV.out;simp only[bQ,rg] at or;have V6:=oA;simp only[aX,rg] at V6;obtain⟨dd0,dd1,Kc,dd3,dd4,Kd,dd6,dd7,dd8,dd9,TA,TB,TC,TD,TE⟩:=af.lB V6;clear V6 oA;go_wp2_with fail
   refine or.mono ?_;rintro en w6 ⟨v6,rfl,Jv,c6⟩;clear or dd0 dd1 Kc dd3 dd4 Kd dd6 dd7 dd8 dd9 TA TB TC TD TE;obtain⟨ra,rn,rc,rfl⟩:=Jv.letters;have k6:=kA.trans c6;have BF:=hc.trans k6;have kJ:=aP.calm k6;have iG:w.heap.size<=w6.heap.size:=BF.size
   have hlen:(nI (Fm X i)).length+(nI (x.R++x.V)).length<=1000000:=by
    rw[eX,eX,hli.out,b_,hR.out,hV.out];omega
   have hP:Hid (∀v' w',aI w' w.heap.size v' (nI (Fm X i)++nI (x.R++x.V))->Fr (ay (.slice xa xn xc)) w6 w'->aI w' w.heap.size v' (nI (Fm X (i+1)))/\Calm w w'):=λv' w' h1 h2=>⟨by rw[hsi.out,u_];exact h1,BF.join h2 (λj hj hb=>by have:=(kJ.lt hb).1;omega)⟩;replace kJ:=hid kJ;replace Jv:=hid Jv;replace hlen:=hid hlen;clear aP hc k6 BF kA c6
   go_wp2_with (
    at_builtin
    go_must (refine nD rfl _ _ rfl w.heap.size (.slice xa xn xc) (nI (Fm X i)) kJ.out rfl (.slice ra rn rc) (nI (x.R++x.V)) Jv.out.row rfl hlen.out iG ?_)
    intro v9 w9 wB f9 oG;have Uk:=hP.out v9 w9 wB f9;obtain⟨ya,yn,yc,rfl⟩:=Uk.1.letters;have hQ:=hid Uk;clear hP wB f9 oG Uk
    go_frame)
   exact⟨⟨i+1,by omega,by simp,hQ.out⟩,by simp[intOf] <;> omega⟩
  ·obtain rfl:i=N:=by omega
   have bM:Hid (OE w (Fm X i) (.returned (.slice xa xn xc)) wr):=⟨_,rfl,aP,hc⟩;clear aP;go_wp2;go_ret;exact bM.out
end
section
theorem vM:∀ (us a b:List aA) (o:Nat),jX (a++b) (a.length+o) us=a++jX b o us
 | [],a,b,o=>rfl
 | u::us,a,b,o=>by
   rw[jX,jX,List.set_append_right _ _ (by omega),show a.length+o-a.length=o by omega];exact vM us a (b.set o u) (o+1)
theorem IP:∀ (us a b:List aA),us.length=a.length->jX (a++b) 0 us=us++b:=by
 have h:∀ (us pre a b:List aA),us.length=a.length->jX (pre++(a++b)) pre.length us=pre++(us++b):=by
  intro us
  induction us with
  | nil=>
    intro pre a b h;have:a=[]:=List.length_eq_zero_iff.1 h.symm;subst this;rfl
  | cons u us ih=>
    intro pre a b h
    match a,h with
    | x::a,h=>
      rw[jX,List.set_append_right _ _ (aD _),Nat.sub_self];show jX (pre++(u::(a++b))) (pre.length+1) us=_;have:=ih (pre++[u]) a b (by simpa using h);simpa using this
 intro us a b hl;have:=h us [] a b hl;simpa using this
theorem xQ{α:Type}(f:α->List aA)(k:Nat)(hf:∀a,(f a).length=k)(d:α):∀ (l:List α) (i:Nat),i<l.length->jX (l.flatMap f) (i*k) (f d)=(l.set i d).flatMap f
 | [],i,h=>by simp at h
 | x::l,0,_=>by
   rw[List.flatMap_cons,Nat.zero_mul,IP _ _ _ (by rw[hf,hf]),iz,List.flatMap_cons]
 | x::l,i+1,h=>by
   have e1:(i+1)*k=(f x).length+i*k:=by rw[hf,Nat.succ_mul];omega
   rw[List.flatMap_cons,e1,vM,xQ f k hf d l i (by simpa using h),jk,List.flatMap_cons]
theorem yx{ety:TypeId}{k g n c:Nat} : ∀ (us:List aA) {w:ag} {xs:List aA} (_:w.ownsRow 0 ety k (.slice (some ⟨g,0,none⟩) n c) n xs) (o:Nat) (_:o+us.length<=xs.length),(w.setCells g o us).ownsRow 0 ety k (.slice (some ⟨g,0,none⟩) n c) n (jX xs o us)
 | [],_,_,h,_,_=>h
 | u::us,w,xs,h,o,hl=>yx us (lM h (by simp at hl;omega) u) (o+1) (by simp at hl ⊢;omega)
theorem sH{op:Oper}{a:Act}{w:ag}{K:Act->ag->Prop}{Q:Exit->Act->ag->Prop}(x y:Operand)(ho:op.op=.store 31 x y)
 {g N c i:Nat} {Y:List bP} {z:bP} (hx:a.eval x=.pointer (some ⟨g,i*15,none⟩)) (hy:a.eval y=.agg (aX z).toArray) (own:w.ownsRow 0 31 15 (.slice (some ⟨g,0,none⟩) N c) N (Y.flatMap aX)) (hY:Y.length=N) (hi:i<N)
 (h:∀w',w'.ownsRow 0 31 15 (.slice (some ⟨g,0,none⟩) N c) N ((Y.set i z).flatMap aX)->Fr (λk=>k=g) w w'->K (a.put op.dst undef) w'):op.wp prog a w K Q:=by
 have hl:(Y.flatMap aX).length=N*15:=by rw[ij aX 15 iA,hY]
 have hs:=yx (aX z) own (i*15) (by rw[hl,iA];omega);rw[xQ aX 15 iA z Y i (by omega)] at hs;refine wp_store_mid 31 x y ho g (i*15) (aX z).toArray hx hy (λj hj=>?_) (by kernel_rfl) (eM z) (h _ hs (Fr.setCells (S:=λk=>k=g) rfl _ _ ah));obtain⟨g2,c2,hv,hg⟩:=bT (ety:=31) (k:=15) iA (by decide) (by rw[<-hY] at own;exact own) d0 (show i<Y.length by omega);injection hv with e1 _ _
 injection e1 with e1
 injection e1 with e1 _ _
 subst e1;have BT:j<(aX (Y.getD i d0)).length:=by rw[iA];exact hj
 have:=hg j _ (lQ BT);exact⟨by rw[this.1];rfl,this.2⟩
def RpT(n:Nat)(x x':bP):Prop:=x'.b=x.b/\x'.p=x.p/\x'.live=x.live/\x'.R.length=6/\x'.V.length=6/\(∀a∈x'.R,a<=131072)/\∀a∈x'.V,a<=131072
def MrI(w:ag)(T:Nat->Prop)(X:List bP)(hv:aA)(N i:Nat)(l:aA)(wr:ag):Prop:=
 ∃ (Y:List bP) (a:Option Addr) (n c:Nat) (ps:aj),l=.slice a n c/\iU T wr l ps/\ps.length=12*(N-i)/\(∀p∈ps,p<=131072)/\wr.ownsRow 0 31 15 hv N (Y.flatMap aX)/\Y.length=N/\(∀t,t<i->RpT 0 (X.getD t d0) (Y.getD t d0))/\(∀t,i<=t->Y.getD t d0=X.getD t d0)/\Fr (ay hv) w wr
def MrP(w:ag)(X:List bP)(hv:aA)(e:Ending)(w':ag):Prop:=
 e=.returned (.tuple #[])/\∃Y:List bP,w'.ownsRow 0 31 15 hv Y.length (Y.flatMap aX)/\Y.length=X.length/\(∀t,t<X.length->RpT 0 (X.getD t d0) (Y.getD t d0))/\Fr (ay hv) w w'
variable {w:ag}{τ:Nat->Nat}{s q mp:Nat}{S:aE}{Q:List (List (List Dd))}{tv hv:aA}{ev:xy}{X:List bP}
theorem CB(h:Mc w τ s q mp S Q tv hv ev X){a:Option Addr}{n c:Nat}{ps:aj}{T:Nat->Prop}(hs:iU T w (.slice a n c) ps)(hn:ps.length=12*X.length)(hp:∀p∈ps,p<=131072)(hT:∀b,T b->b<w.heap.size/\¬ay hv b) :
 aJ prog 52 #[pV mp,.slice a n c] w (MrP w X hv):=by
 obtain⟨N,hN⟩:=ao X.length;have hN8:N<=4:=by rw[<-hN,h.r.n];exact h.r.pk.n.2
 have Ge:=h.r.h;obtain⟨ha,jT,HT⟩:=aF Ge;rw[hN] at HT Ge hn;have hmh:¬ay hv mp:=λe=>by have:=h.r.t1 mp e;have:=h.r.t0;omega
 have y2:∀W,Fr (ay hv) w W->W.cell? ⟨mp,2,none⟩=some hv:=λW f=>f.cellAt (h.r.c 2 _ rfl).1 hmh;have bU:Hid (∀t,t<N->(X.getD t d0).R.length=6/\(X.getD t d0).V.length=6):=λt ht=>⟨(h.r.ok t (by omega)).r,(h.r.ok t (by omega)).v⟩;have z2:=y2 w ah;rw[HT] at z2;replace y2:=hid y2;have kg:Hid (MrI w T X hv N 0 (.slice a n c) w):=⟨X,a,n,c,ps,rfl,hs,by rw[hn];rfl,hp,Ge,hN,λt ht=>by omega,λ_ _=>rfl,ah⟩;have Er:=hid HT;have tq:=hid hN;replace hT:=hid hT;replace hmh:=hid hmh;clear h Ge hs hn hp hN HT;go_in;go_wp2_with fail
 clear z2;go_loopw [1,12] (λl z wr=>∃i:Nat,i<=N/\z=vI i/\MrI w T X hv N i l wr) (λ_ z _=>N-(intOf z).toNat)
 case atStart=>exact⟨0,by omega,rfl,kg.out⟩
 case round=>
  obtain⟨i,hi,rfl,Y,a1,n1,c1,Wc,rfl,hs,kI,sQ,aP,hY,jy,Gd,hf⟩:=hrel;clear kg
  by_cases aM:i<N
  ·obtain⟨x,hx⟩:=ao (X.getD i d0);have hYi:Y.getD i d0=x:=(Gd i (aD _)).trans hx;obtain⟨hR,hV⟩:=bU.out i aM;rw[hx] at hR hV;obtain⟨g,gc,ZF,hg⟩:=bT (ety:=31) (k:=15) iA (by decide) (by rw[<-hY] at aP;exact aP) d0 (show i<Y.length by omega);rw[Er.out,hY] at ZF;injection ZF with q1 q2 q3
   subst q1;rw[hYi] at hg;have eC:∀j u,(aX x)[j]?=some u->wr.cell? ⟨g,i*15+j,none⟩=some u:=λj u hu=>(hg j u hu).1;have e0:=eC 0 _ rfl;have e1:=eC 1 _ rfl;have e2:=eC 2 _ rfl;have e3:=eC 3 _ rfl;have e4:=eC 4 _ rfl;have e5:=eC 5 _ rfl;have e6:=eC 6 _ rfl;have e7:=eC 7 _ rfl;have e8:=eC 8 _ rfl;have e9:=eC 9 _ rfl;have FO:=eC 10 _ rfl;have FP:=eC 11 _ rfl;have Bn:=eC 12 _ rfl;have Ds:=eC 13 _ rfl;have Hp:=eC 14 _ rfl;rw[fM] at e0;simp only[rg] at e2 e3 e4 e5 e6 e7 e8 e9 FO FP Bn Ds;have rh:Wc.length=n1:=by obtain⟨_,_,e,_⟩:=hs;injection e with _ e2 _;exact e2.symm
   have YM:12<=n1:=by rw[<-rh,kI];omega
   obtain⟨a2,c2,Sp,Sm⟩:=hs.take (hi:=12) YM;obtain⟨a3,c3,So,Sl⟩:=hs.drop (lo:=12) YM;have Vs:∀W,(Instr.slice 43 (.slice a1 n1 c1) none (some (vI 12)) none).run prog W=.ok (.slice a2 12 c2) W:=Sp;have abZ:∀W,(Instr.slice 43 (.slice a1 n1 c1) (some (vI 12)) none none).run prog W=.ok (.slice a3 (n1-12) c3) W:=So;have kA:Calm wr (wr.alloc (.cells #[vI x.b,vI x.p,rg x.R 0,rg x.R 1,rg x.R 2,rg x.R 3,rg x.R 4,rg x.R 5,rg x.V 0,rg x.V 1,rg x.V 2,rg x.V 3,rg x.V 4,rg x.V 5,.bool x.live] 31)):=ah.alloc _;have oA:af (wr.alloc (.cells #[vI x.b,vI x.p,rg x.R 0,rg x.R 1,rg x.R 2,rg x.R 3,rg x.R 4,rg x.R 5,rg x.V 0,rg x.V 1,rg x.V 2,rg x.V 3,rg x.V 4,rg x.V 5,.bool x.live] 31)) wr.heap.size (aX x):=af.kC wr [_,_,_,_,_,_,_,_,_,_,_,_,_,_,_] _ _ rfl;simp only[rg,aS] at kA oA;have acP:decide ((n1:Int)<12)=false:=decide_eq_false (by omega);replace hR:=hid hR;replace hV:=hid hV;replace hx:=hid hx;replace hYi:=hid hYi;replace rh:=hid rh;replace kI:=hid kI;replace hY:=hid hY;replace YM:=hid YM;replace Gd:=hid Gd;replace jy:=hid jy;replace sQ:=hid sQ;clear hg eC q2 q3 Sp So;go_upto_region 3 with fail
   generalize mK:wr.alloc (.cells #[vI x.b,vI x.p,vI ((x.R[0]?.getD 0:Nat):Int),vI ((x.R[1]?.getD 0:Nat):Int),vI ((x.R[2]?.getD 0:Nat):Int),vI ((x.R[3]?.getD 0:Nat):Int),vI ((x.R[4]?.getD 0:Nat):Int),vI ((x.R[5]?.getD 0:Nat):Int),vI ((x.V[0]?.getD 0:Nat):Int),vI ((x.V[1]?.getD 0:Nat):Int),vI ((x.V[2]?.getD 0:Nat):Int),vI ((x.V[3]?.getD 0:Nat):Int),vI ((x.V[4]?.getD 0:Nat):Int),vI ((x.V[5]?.getD 0:Nat):Int),.bool x.live] 31)=W5 at *;clear mK e0 e1 e2 e3 e4 e5 e6 e7 e8 e9 FO FP Bn Ds Hp;have or:=yM W5 hR.out hV.out;simp only[bQ,rg] at or;have V6:=oA;simp only[aX,rg] at V6;obtain⟨dd0,dd1,Kc,dd3,dd4,Kd,dd6,dd7,dd8,dd9,TA,TB,TC,TD,TE⟩:=af.lB V6;go_wp2_with fail
   refine or.mono ?_;rintro en w6 ⟨v6,rfl,Jv,c6⟩;clear or V6 dd0 dd1 Kc dd3 dd4 Kd dd6 dd7 dd8 dd9 TA TB TC TD TE;obtain⟨ra,rc,Sq⟩:=Jv.iy (n:=12) (by rw[eX,b_,hR.out,hV.out]);subst v6;have k6:=kA.trans c6;have kd:Calm w6 w6.drew:=ah.drew;have k6d:=k6.trans kd;have z2:w6.drew.cell? ⟨mp,2,none⟩=some (.slice (some ⟨g,0,none⟩) N jT):=by rw[<-Er.out];exact k6d.cellAt (y2.out wr hf) id
   have oB:=oA.calm (c6.trans kd);clear Jv;go_wp2_with fail
   have hrT:=Sm.fr (Calm.any k6d) (λ_ _=>id);have hTs:∀b,T b->b<w6.drew.heap.size:=λb hb=>by have h1:=(hT.out b hb).1;have h2:=hf.size;have h3:=k6d.size;omega
   have Mf:=Di (x:=x) hrT hTs;obtain⟨x2,dy⟩:=ao (({ x with R:=(Wc.take 12).take 6,V:=(Wc.take 12).drop 6 } : bP):bP);rw[dy] at Mf
   have hB5:g<wr.heap.size:=by
    have h1:Hid (w6=w6):=rfl;have h2:=World.ownsRow.lt aP g (by rw[Er.out];exact ay.mk.2 rfl);exact h2.2
   have hgm:mp≠g:=λe=>hmh.out (by rw[Er.out];exact ay.mk.2 e);have kJ:=aw aP k6d (λ_ _=>id);rw[Er.out] at kJ;replace hTs:=hid hTs;replace dy:=hid dy;refine bW [(true,0),(true,1),(true,2),(true,3),(true,4),(true,5),(true,6),(true,7),(true,8),(false,9),(true,10),(true,11),(true,12),(true,13),(false,14)] (λw'=>w'.cell? ⟨mp,2,none⟩=some (.slice (some ⟨g,0,none⟩) N jT)/\af w' wr.heap.size (aX x)) (by kernel_rfl) (by kernel_rfl) ⟨z2,oB⟩ ?_;refine au (pV mp) rfl rfl (λw' hw'=>?_) ak ?_
   ·simp[go_sem]
   refine au (pV mp) rfl rfl (λw' hw'=>?_) ak ?_
   ·simp[go_sem]
   refine au (.pointer (some ⟨mp,2,none⟩)) rfl rfl (λw' hw'=>?_) ak ?_
   ·simp[go_sem]
   refine au (.slice (some ⟨g,0,none⟩) N jT) rfl rfl (λw' hw'=>?_) ak ?_
   ·simp[go_sem,hw'.1]
   refine au (vI (i:Int)) rfl rfl (λw' hw'=>?_) ak ?_
   ·simp[go_sem]
   refine au (bQ x) rfl rfl (λw' hw'=>?_) ak ?_
   ·have o:=hw'.2;simp only[aX,rg] at o;obtain⟨y0,y1,y2,y3,y4,y5,y6,y7,y8,y9,j_,kY,iL,jv,iM⟩:=af.lB o;simp[go_sem,bQ,rg,y0,y1,y2,y3,y4,y5,y6,y7,y8,y9,j_,kY,iL,jv,iM]
   refine au (.slice a1 n1 c1) rfl rfl (λw' hw'=>?_) ak ?_
   ·simp[go_sem]
   refine au (vI 12) rfl rfl (λw' hw'=>?_) ak ?_
   ·simp[go_sem]
   refine au (.slice a2 12 c2) rfl rfl (λw' hw'=>?_) ak ?_
   ·simp[go_sem,Vs]
   refine bj rfl rfl ?_;simp only[bQ,rg] at Mf ⊢;go_wp2_with fail
   refine Mf.mono ?_;rintro en w8 ⟨rfl,c8⟩;clear Mf;have z28:=c8.cellAt z2 id;have oB8:=oB.calm c8;have xZ:=aw kJ c8 (λ_ _=>id);refine⟨⟨z28,oB8⟩,?_⟩;refine au (.tuple #[bQ x2,.bool true]) rfl rfl (λw' hw'=>?_) ak ?_
   ·simp[go_sem,bQ,rg]
   refine au (bQ x2) rfl rfl (λw' hw'=>?_) ak ?_
   ·simp[go_sem]
   refine au (.bool true) rfl rfl (λw' hw'=>?_) ak ?_
   ·simp[go_sem]
   refine au (.pointer (some ⟨g,i*15,none⟩)) rfl rfl (λw' hw'=>?_) ak ?_
   ·simp[go_sem,aM]
   refine bj rfl rfl ?_;refine sH _ _ rfl (z:=x2) (by rfl) (by rfl) xZ hY.out aM ?_;intro w9 Cc f9;have z29:=f9.cellAt z28 hgm;have oB9:=oB8.fr f9 (by omega);have k8:Calm wr w8:=k6d.trans c8;have uA:Fr (ay hv) wr w9:=(Calm.any k8:Fr (ay hv) wr w8).trans (f9.mono (λb _ e=>by rw[Er.out,e];exact ay.mk.2 rfl))
   have bM:MrI w T X hv N (i+1) (.slice a3 (n1-12) c3) w9:=by
    have Z9:(Wc.take 12).length=12:=by rw[List.length_take];have h1:=rh.out;have h2:=YM.out;omega
    refine⟨Y.set i x2,a3,n1-12,c3,Wc.drop 12,rfl,Sl.fr uA (λb hb=>(hT.out b hb).2),by rw[List.length_drop,kI.out];omega,λp hp=>sQ.out p (List.mem_of_mem_drop hp),by rw[Er.out];exact Cc,by rw[bN];exact hY.out,λt ht=>?_,λt ht=>?_,hf.trans uA⟩
    ·by_cases e:t=i
     ·subst e;rw[qX (by have:=hY.out;omega),hx.out,<-dy.out];refine⟨rfl,rfl,rfl,?_,?_,λq hq=>sQ.out q (List.mem_of_mem_take (List.mem_of_mem_take hq)),λq hq=>sQ.out q (List.mem_of_mem_take (List.mem_of_mem_drop hq))⟩
      ·show((Wc.take 12).take 6).length=6;rw[List.length_take,Z9];rfl
      ·show((Wc.take 12).drop 6).length=6;rw[List.length_drop,Z9]
     ·rw[nJ e];exact jy.out t (by omega)
    ·rw[nJ (by omega)];exact Gd.out t (by omega)
   replace bM:=hid bM;refine⟨⟨z29,oB9⟩,eW ?_⟩;clear Cc f9 uA k8 xZ kJ aP hf hs Sm Sl hrT oB8 oB9 z28 z29 z2 oB oA;go_simp;go_wp2_with fail
   exact⟨⟨i+1,by omega,by simp,bM.out⟩,by simp[intOf] <;> omega⟩
  ·obtain rfl:i=N:=by omega
   have bM:Hid (MrP w X hv (.returned (.tuple #[])) wr):=⟨rfl,Y,by rw[hY];exact aP,by rw[hY,tq.out],λt ht=>jy t (by have:=tq.out;omega),hf⟩;clear aP hf hs;go_wp2;exact bodyPost_ret (results_none rfl _ _ _) rfl bM.out
end
section
variable {w:ag}{τ:Nat->Nat}{s q mp:Nat}{S:aE}{Q:List (List (List Dd))}{tv hv:aA}{ev:xy}{X:List bP}
theorem Mc.fD{w':ag}(h:Mc w τ s q mp S Q tv hv ev X){ev':xy}(f:Fr (λk=>k=mp\/ay ev k) w w')(hc:af w' mp [pV S.sp,tv,hv,.int .i32 0,.int .u32 0,ev'])(he:w'.ownsRow 0 76 6 ev' ev'.H.length (ev'.H.flatMap En.c))(hn:ev'.H.length<=2000)(fZ:∀b,ay ev' b->ay ev b\/w.heap.size<=b) :
 ∃aL,Mc w' aL s q mp S Q tv hv ev' X/\(∀b,b<w.heap.size->aL b=τ b)/\cP w τ w' aL:=by
 obtain⟨UK,_⟩:=h.r.e;have Ew:mp<w.heap.size:=h.r.c.lt (by simp);obtain⟨M,H1,H2,H3⟩:=h.st
 have tS:∀b,(b=mp\/ay ev b)->600<=τ b/\τ b≠601/\τ b<603:=λb hb=>by
  rcases hb with rfl|hb
  ·rw[h.r.t0];omega
  ·rw[h.r.t2 b hb];omega
 have hM:∀t k,(M t).dh k->k<w.heap.size/\τ k<500:=λt k hk=>by
  have h1:=H1.lt t hk;have h2:=H1.tag t k hk
  by_cases e:t<500
  ·exact⟨h1,by omega⟩
  ·rw[H2.z t (by omega)] at hk;exact hk.elim
 have H1':bE w' τ M:=H1.frame f (λt k hk e=>by have:=(hM t k hk).2;have:=(tS k e).1;omega);obtain⟨aL,k1,k2,k3⟩:=H1'.dE (λk=>w.heap.size<=k) (λt k hk e=>by have:=(hM t k hk).1;omega) 602;have Xn:∀b,b<w.heap.size->aL b=τ b:=λb hb=>k3 b (by omega);refine⟨aL,⟨⟨M,k1,H2,H3⟩,⟨hc,aw h.r.h f (λb hb e=>by have:=(tS b e).2.1;rw[h.r.t1 b hb] at this;exact this rfl),⟨he,hn⟩,?_,?_,?_,λb hb=>?_,h.r.n,h.r.ok,h.r.pk⟩⟩,Xn,⟨f.mono (λk _ e=>(tS k e).2.2),λb hb _=>Xn b hb⟩⟩
 ·exact((h.r.p.mono (T':=λb=>τ b=603/\b<w.heap.size) (λb hb e=>⟨e,hb⟩)).fr f (λb e e2=>by have:=(tS b e2).2.2;omega)).mono (λb _ e=>by rw[Xn b e.2];exact e.1)
 ·rw[Xn mp Ew];exact h.r.t0
 ·exact λb hb=>(Xn b (World.ownsRow.lt h.r.h b hb).2).trans (h.r.t1 b hb)
 ·rcases fZ b hb with e|e
  ·exact(Xn b (World.ownsRow.lt UK b e).2).trans (h.r.t2 b e)
  ·exact k2 b e
def na(H:List En)(x:En):List En:=if H.length<2000 then H++[x] else H
def NtP(w:ag)(τ:Nat->Nat)(s q mp:Nat)(S:aE)(Q:List (List (List Dd)))(tv hv:aA)(X:List bP)(H':List En)(e:Ending)(w':ag):Prop:=
 e=.returned (.tuple #[])/\∃aL ev',Mc w' aL s q mp S Q tv hv ev' X/\(∀b,b<w.heap.size->aL b=τ b)/\cP w τ w' aL/\ev'.H=H'
theorem lH(h:Mc w τ s q mp S Q tv hv ev X)(et eb en ek ee ex:Int):aJ prog 22 #[.pointer (some ⟨mp,3,none⟩),.agg #[vI et,vI eb,vI en,vI ek,vI ee,vI ex]] w (NtP w τ s q mp S Q tv hv X (na ev.H ⟨et,eb,en,ek,ee,ex⟩)):=by
 obtain⟨he,hn⟩:=h.r.e;refine(L4 h.r.c he (λe=>by have h1:=h.r.t2 mp e;have h2:=h.r.t0;omega) hn et eb en ek ee ex).mono ?_;rintro e w' ⟨rfl,ev',n',AM,k1,k2,k3,k4,k5,k6⟩
 have e2:w'.ownsRow 0 76 6 ev' (na ev.H ⟨et,eb,en,ek,ee,ex⟩).length ((na ev.H ⟨et,eb,en,ek,ee,ex⟩).flatMap En.c)/\(na ev.H ⟨et,eb,en,ek,ee,ex⟩).length<=2000:=by
  unfold na;rcases k6 with ⟨hl,rfl,rfl⟩|⟨hl,rfl,rfl⟩
  ·rw[if_pos hl,b_,List.flatMap_append];exact⟨by simpa[En.c] using k2,by simp;omega⟩
  ·rw[if_neg hl];exact⟨k2,k3⟩
 obtain⟨aL,m1,m2,m3⟩:=h.fD (ev':=⟨ev',na ev.H ⟨et,eb,en,ek,ee,ex⟩⟩) k4 k1 e2.1 e2.2 k5;exact⟨rfl,aL,_,m1,m2,m3,rfl⟩
theorem Cw(h:Mc w τ s q mp S Q tv hv ev X):aJ prog 20 #[.pointer (some ⟨mp,3,none⟩)] w λe w'=>e=.returned (.bool (decide ((2000:Int)<=(ev.H.length:Int))))/\∃aL,Mc w' aL s q mp S Q tv hv ev X/\(∀b,b<w.heap.size->aL b=τ b)/\cP w τ w' aL:=by
 obtain⟨he,hn⟩:=h.r.e;have hne:¬ay ev mp:=λe=>by have h1:=h.r.t2 mp e;have h2:=h.r.t0;omega
 obtain⟨ea,ec,Zv⟩:=aF he;have hc:=h.r.c;rw[Zv] at hc;refine(Pe hc).mono ?_;rintro e w' ⟨h1,h2,h3⟩;rw[<-Zv] at h3;obtain⟨aL,m1,m2,m3⟩:=h.fD (h2.mono λ_ _ e=>.inl e) h3 (aw he h2 (λb hb e=>hne (e ▸ hb))) hn (λb hb=>.inl hb);exact⟨h1,aL,m1,m2,m3⟩
theorem Mc.Wb{w':ag}(h:Mc w τ s q mp S Q tv hv ev X){Y:List bP}(hr:w'.ownsRow 0 31 15 hv Y.length (Y.flatMap aX))(hl:Y.length=X.length)(hp:∀t,t<X.length->RpT 0 (X.getD t d0) (Y.getD t d0))(f:Fr (ay hv) w w'):Mc w' τ s q mp S Q tv hv ev Y/\cP w τ w' τ:=by
 obtain⟨UK,wU⟩:=h.r.e;have tS:∀b,ay hv b->τ b=601:=h.r.t1;refine⟨⟨h.st.gL f (λb hb=>by rw[tS b hb];omega),⟨h.r.c.fr f (λe=>by have:=tS mp e;have:=h.r.t0;omega),hr,⟨aw UK f (λb hb e=>by have:=tS b e;rw[h.r.t2 b hb] at this;omega),wU⟩,h.r.p.fr f (λb e e2=>by have:=tS b e2;omega),h.r.t0,h.r.t1,h.r.t2,hl.trans h.r.n,λt ht=>?_,h.r.pk⟩⟩,⟨f.mono (λk _ e=>by rw[tS k e];omega),λ_ _ _=>rfl⟩⟩;have h1:=h.r.ok t (by omega);obtain⟨e1,e2,e3,e4,e5,e6,e7⟩:=hp t (by omega);exact⟨by rw[e1];exact h1.b,by rw[e2];exact h1.p,by rw[e1,e3];exact h1.l,e4,e5,e6,e7⟩
theorem LW(h:Mc w τ s q mp S Q tv hv ev X):aJ prog 55 #[pV S.sp] w λe w'=>∃v l aL S',e=.returned v/\aI w' 0 v (nI l)/\l.length<=q/\Mc w' aL s q mp S' Q tv hv ev X/\S'.sp=S.sp/\S'.D=S.D/\cP w τ w' aL/\(∀b,ay v b->aL b=1000)/\(S' = { S with lv:=.slice none 0 0,lost:=[] } /\ l=S.lost):=by
 refine(aaF h.st).mono ?_;rintro e w' ⟨rfl,k1,k2,aL,k3,k4,k5⟩
 have gU:τ S.sp=2:=by
  obtain⟨M,H1,H2,_⟩:=h.st;exact H1.tag 2 S.sp (by rw[H2.c];rfl)
 have KW:xC w τ w' aL:=⟨k2.mono (λk _ e=>by show τ k<500;rw[e,gU];omega),λb _ e=>k5 b e⟩;exact⟨_,_,aL,_,rfl,k1,h.st.ok.lo,⟨k3,h.r.keep KW⟩,rfl,rfl,KW.m,k4,rfl,rfl⟩
theorem LX(h:Mc w τ s q mp S Q tv hv ev X):aJ prog 54 #[pV S.sp] w λe w'=>∃v l aL S',e=.returned v/\aI w' 0 v (nI l)/\l.length<=q/\Mc w' aL s q mp S' Q tv hv ev X/\S'.sp=S.sp/\S'.D=S.D/\cP w τ w' aL/\(∀b,ay v b->aL b=1000)/\(S' = { S with cv:=.slice none 0 0,bK:=[] } /\ l=S.bK):=by
 refine(aaG h.st).mono ?_;rintro e w' ⟨rfl,k1,k2,aL,k3,k4,k5⟩
 have gU:τ S.sp=2:=by
  obtain⟨M,H1,H2,_⟩:=h.st;exact H1.tag 2 S.sp (by rw[H2.c];rfl)
 have KW:xC w τ w' aL:=⟨k2.mono (λk _ e=>by show τ k<500;rw[e,gU];omega),λb _ e=>k5 b e⟩;exact⟨_,_,aL,_,rfl,k1,h.st.ok.ca,⟨k3,h.r.keep KW⟩,rfl,rfl,KW.m,k4,rfl,rfl⟩
end
section
variable {w:ag}{τ:Nat->Nat}{s q mp:Nat}{S:aE}{Q:List (List (List Dd))}{tv hv:aA}{ev:xy}{X:List bP}
theorem Mc.mono{s' q':Nat}(h:Mc w τ s q mp S Q tv hv ev X)(hs:s<=s')(hq:q<=q'):Mc w τ s' q' mp S Q tv hv ev X:=by
 obtain⟨⟨M,h1,h2,h3⟩,r⟩:=h;exact⟨⟨M,h1,h2,h3.mono hs hq⟩,r⟩
theorem Mc.nx1{w':ag}{s' q':Nat}{R:aE->Prop}(h:Mc w τ s q mp S Q tv hv ev X)(n:Nx1 w τ s' q' S w' R):∃aL S',Mc w' aL s' q' mp S' Q tv hv ev X/\cP w τ w' aL/\aC w τ w' aL/\R S'/\wG S S':=by
 obtain⟨aL,S',k1,k2,k3,k4⟩:=n;exact⟨aL,S',⟨k1,by rw[k3.sp];exact h.r.keep k2.w⟩,k2.w.m,k2,k4,k3⟩
def HM(H H':List En)(n:Nat):Prop:=∃m,H'=H++m/\(∀x∈m,x.t = -1)/\m.length<=n
theorem HM.refl(H:List En):HM H H 0:=⟨[],by simp,λx h=>(by cases h),aD _⟩
theorem HM.trans{A B C:List En}{n m:Nat}(h:HM A B n)(k:HM B C m):HM A C (n+m):=by
 obtain⟨a,rfl,h1,h2⟩:=h;obtain⟨b,rfl,k1,k2⟩:=k;refine⟨a++b,by rw[List.append_assoc],λx hx=>?_,by rw[b_];omega⟩;rcases cJ.1 hx with hx|hx
 ·exact h1 x hx
 ·exact k1 x hx
theorem HM.note{A B:List En}{n:Nat}(h:HM A B n)(b p k e v:Int):HM A (na B ⟨-1,b,p,k,e,v⟩) (n+1):=by
 unfold na;split
 ·exact h.trans ⟨[_],rfl,λx hx=>by rw[gH.1 hx],aD _⟩
 ·obtain⟨a,e,h1,h2⟩:=h;exact⟨a,e,h1,by omega⟩
def ThK(X X':List bP):Prop:=X'.length=X.length/\∀t,t<X.length->(X'.getD t d0).b=(X.getD t d0).b/\(X'.getD t d0).p=(X.getD t d0).p/\(X'.getD t d0).live=(X.getD t d0).live
def FH(S:aE)(X:List bP)(H:List En)(S':aE)(X':List bP)(H':List En):Prop:=
 Rn S S'/\S'.aW.length=S.aW.length/\ThK X X'/\S'.D.A.ser=S.D.A.ser/\∃C L,C+S'.bK.length+S'.D.A.fin.length<=S.bK.length+S.D.A.fin.length/\(L+S'.lost.length<=S.lost.length\/(S.D.ph=2/\S'.D.ph=0/\L+S'.lost.length<=S.lost.length+S.D.A.ser))/\HM H H' (C+L)
theorem FH.refl(S:aE)(X:List bP)(H:List En):FH S X H S X H:=⟨.refl S,rfl,⟨rfl,λ_ _=>⟨rfl,rfl,rfl⟩⟩,rfl,0,0,by omega,.inl (by omega),.refl H⟩
theorem FH.of{S S':aE}{X X':List bP}{H:List En}(r:Rn S S')(f:wG S S')(x:ThK X X')(hs:S'.D.A.ser=S.D.A.ser)(hl:S'.lost.length<=S.lost.length\/(S.D.ph=2/\S'.D.ph=0/\S'.lost.length<=S.lost.length+S.D.A.ser)):FH S X H S' X' H:=
 ⟨r,f.len,x,hs,0,0,by have:=f.fi;omega,by omega,.refl H⟩
theorem FH.out{S Sx S5 S7:aE}{X XX:List bP}{H H5 H7:List En}{l5 l7:aj}(h:FH S X H Sx XX H)(o5:S5 = { Sx with cv:=.slice none 0 0,bK:=[] } /\ l5=Sx.bK)(m5:HM H H5 l5.length)(o7:S7 = { S5 with lv:=.slice none 0 0,lost:=[] } /\ l7=S5.lost)(m7:HM H5 H7 l7.length):FH S X H S7 XX H7:=by
 obtain⟨h1,h2,h3,h4,C,L,h5,h6,h7⟩:=h;obtain⟨rfl,rfl⟩:=o5;obtain⟨rfl,rfl⟩:=o7;refine⟨h1.trans ⟨λ_=>rfl,λ_=>rfl,rfl,rfl⟩,h2,h3,h4,C+Sx.bK.length,L+Sx.lost.length,by simpa using h5,?_,?_⟩
 ·rcases h6 with h6|⟨h6,h8,h9⟩
  ·exact .inl (by simpa using h6)
  ·exact .inr ⟨h6,h8,by simpa using h9⟩
 ·obtain⟨a,e,e1,e2⟩:=m5.trans m7;have e2:a.length<=Sx.bK.length+Sx.lost.length:=e2;exact⟨a,e,e1,by omega⟩
def XZ(w:ag)(τ:Nat->Nat)(s q mp:Nat)(S:aE)(Q:List (List (List Dd)))(tv hv:aA)(X:List bP)(H:List En)(e:Ending)(w':ag):Prop:=
 (∃b:Bool,e=.returned (.bool b))/\∃aL S' ev' X',Mc w' aL s q mp S' Q tv hv ev' X'/\cP w τ w' aL/\FH S X H S' X' ev'.H
def Jg(w5:ag)(dW:Nat->Nat)(s q mp:Nat)(S:aE)(Q:List (List (List Dd)))(tv hv:aA)(X:List bP)(H:List En)(i:Nat)(v:aA)(l:aj)(wr:ag):Prop:=
 ∃iF N2,Mc wr iF s q mp S Q tv hv N2 X/\cP w5 dW wr iF/\aI wr 0 v (nI l)/\(∀b,ay v b->iF b=1000)/\HM H N2.H i
theorem Cv(h:Mc w τ s q mp S Q tv hv ev X)(hs:s<100000)(hq:q+s<=80000):aJ prog 31 #[pV mp] w (XZ w τ s (q+s) mp S Q tv hv X ev.H):=by
 have of:=Cw h;clear h;go_in;go_wp2_with fail
 refine of.mono ?_;rintro en w1 ⟨rfl,gI,h1,t1,K1⟩;clear of
 cases decide ((2000:Int)<=(ev.H.length:Int)) with
 | true=>
   have bM:XZ w τ s (q+s) mp S Q tv hv X ev.H (.returned (.bool false)) w1:=⟨⟨false,rfl⟩,gI,_,_,_,h1.mono (aD _) (by omega),K1,.refl _ _ _⟩;replace bM:=hid bM;clear h1 K1;go_wp2;go_ret;exact bM.out
 | false=>
   have kd:Calm w1 w1.drew:=ah.drew;have h2:=h1.calm kd;have K2:=K1.trans (cP.calm gI kd);have z0:w1.drew.cell? ⟨mp,0,none⟩=some (pV S.sp):=(h2.r.c 0 _ rfl).1;have ort:=IA h2;clear h1 K1;go_wp2_with fail
   refine bW [(true,0),(true,1),(true,2),(true,3),(true,4),(false,5),(false,6),(true,7),(true,8),(true,9),(false,10),(false,11)] (λw'=>w'.cell? ⟨mp,0,none⟩=some (pV S.sp)) (by kernel_rfl) (by kernel_rfl) z0 ?_;refine au (pV mp) rfl rfl (λw' hw'=>?_) ak ?_
   ·simp[go_sem]
   refine au (pV mp) rfl rfl (λw' hw'=>?_) ak ?_
   ·simp[go_sem]
   refine au (pV mp) rfl rfl (λw' hw'=>?_) ak ?_
   ·simp[go_sem]
   refine au (pV S.sp) rfl rfl (λw' hw'=>?_) ak ?_
   ·simp[go_sem,hw']
   refine au (pV mp) rfl rfl (λw' hw'=>?_) ak ?_
   ·simp[go_sem]
   refine bj rfl rfl ?_;go_wp2_with fail
   refine ort.mono ?_;rintro en w3 ⟨u,rfl,hu,c3⟩;clear ort;have h3:=h2.calm c3;have K3:=K2.trans (cP.calm gI c3);have z3:=c3.cellAt z0 id;refine⟨z3,?_⟩;have ma:=h2.r.Fl X.length (aD _);have AB:X.length<=4:=by rw[h2.r.n];exact h2.r.pk.n.2
   have oco:=DW h3.st (by omega) hu (by rw[ma];omega) (h2.r.SU X.length (aD _));obtain⟨ua,un,uc,rfl⟩:=hu.letters;clear h2 K2 z0 hu;refine bj rfl rfl ?_;go_wp2_with fail
   refine oco.mono ?_;rintro en w4 (⟨rfl,c4⟩|⟨v4,ps,τ4,S4,rfl,kI,sQ,nX,hS4,K4,fx4,tg4,cd4⟩)
   ·have h4:=h3.calm c4;have K4:=K3.trans (cP.calm gI c4);have z4:=c4.cellAt z3 id;have ost:=MT h4.st hs (by omega);clear oco h3 K3 z3;refine⟨z4,?_⟩;refine au (.tuple #[.slice none 0 0,.bool false]) rfl rfl (λw' hw'=>?_) ak ?_
    ·simp[go_sem]
    refine au (.slice none 0 0) rfl rfl (λw' hw'=>?_) ak ?_
    ·simp[go_sem]
    refine au (.bool false) rfl rfl (λw' hw'=>?_) ak ?_
    ·simp[go_sem]
    refine bj rfl rfl ?_;unfold Oper.wp;go_simp
    first|refine⟨z4,?_⟩|skip
    refine bj rfl rfl ?_;unfold Oper.wp;go_simp
    first|refine⟨z4,?_⟩|skip
    refine eW ?_;go_wp2_with fail
    refine ost.mono ?_;rintro en wx ⟨⟨bx,rfl⟩,nx⟩;clear ost z4;obtain⟨FD,Sx,hx,Kx,-,rx,fx⟩:=h4.nx1 nx;have KX:=K4.trans Kx;obtain⟨XX,Uq⟩:∃XX,XX=X:=⟨_,rfl⟩
    have hD:Hid (FH S X ev.H Sx XX ev.H):=by
     rw[Uq]
     exact FH.of rx.1 fx ⟨rfl,λ_ _=>⟨rfl,rfl,rfl⟩⟩ rx.2.2.2.2 (by
      rcases rx.2.2.2.1 with e|e
      ·exact .inl (by rw[e];exact aD _)
      ·exact .inr ⟨e.1,e.2,rx.2.2.1⟩)
    rw[<-Uq] at hx;clear Uq rx fx;clear h4 K4 Kx nx;have y0:=(hx.r.c 0 _ rfl).1;have oc:=LX hx;go_wp2_with fail
    refine oc.mono ?_;rintro en w5 ⟨v5,l5,dW,S5,rfl,uK,ZL,h5,e5,-,K5,Dg,Ui⟩;clear oc y0;obtain⟨N5,Jl⟩:=ao l5.length;obtain⟨a5,c5,hv5⟩:=uK.iy (n:=N5) (by rw[eX,Jl]);subst v5;have OB:=KX.trans K5;have YS:Hid (Jg w5 dW s (q+s) mp S5 Q tv hv XX ev.H 0 (.slice a5 N5 c5) l5 w5):=⟨dW,_,h5,cP.refl _ _,uK,Dg,.refl _⟩;have aba:N5<=200000:=by omega
    replace Jl:=hid Jl;replace Ui:=hid Ui;replace OB:=hid OB;clear hx KX K5 h5 uK Dg e5;go_wp2_with fail
    go_loopw [39] (λz wr=>∃i:Nat,i<=N5/\z=vI i/\Jg w5 dW s (q+s) mp S5 Q tv hv XX ev.H i (.slice a5 N5 c5) l5 wr) (λz _=>N5-(intOf z).toNat)
    case atStart=>exact⟨0,by omega,rfl,YS.out⟩
    case round=>
     obtain⟨i,hi,rfl,iF,N2,hm,Ki,aP,lV,zq⟩:=hrel;clear YS
     by_cases aM:i<N5
     ·obtain⟨gb,⟨sa,sc,AG,Gh⟩,bS,_⟩:=jE aP;injection AG with u1 u2 u3
      have Bw:i<l5.length:=by rw[Jl.out];exact aM
      have Gc:=Gh (by omega);rw[<-u1] at Gc;subst Gc;have x0:=(bS i Bw).1;obtain⟨p,hp⟩:=ao (l5.getD i 0:Nat);rw[hp] at x0;have on:=lH hm (-1) 0 0 5 0 (p:Int);clear bS u1 u2 u3 Gh hp;go_wp2_with fail
      refine on.mono ?_;rintro en w6 ⟨rfl,gj,TQ,h6,t6,K6,uF⟩;clear on x0;have bM:Hid (Jg w5 dW s (q+s) mp S5 Q tv hv XX ev.H (i+1) (.slice (some ⟨gb,0,none⟩) N5 c5) l5 w6):=⟨gj,TQ,h6,Ki.trans K6,aP.dw K6.fr (λb hb e=>by rw[lV b hb] at e;omega),λb hb=>(t6 b (aP.lt hb).2).trans (lV b hb),by rw[uF];exact zq.note _ _ _ _ _⟩;clear h6 K6 Ki hm aP lV t6 uF zq;go_wp2_with fail
      exact⟨⟨i+1,by omega,by simp,bM.out⟩,by simp[intOf] <;> omega⟩
     ·obtain rfl:i=N5:=by omega
      have KX:=OB.out.trans Ki;have YV:Hid (HM ev.H N2.H l5.length):=by show HM _ _ _;rw[Jl.out];exact zq
      obtain⟨DZ,BP⟩:=ao N2;rw[BP] at hm YV;clear zq BP;have y0:=(hm.r.c 0 _ rfl).1;have oc:=LW hm;clear aP lV Ki OB;go_wp2_with fail
      refine oc.mono ?_;rintro en w7 ⟨v7,l7,vZ,S7,rfl,uL,hl7,h7,e7,-,K7,tg7,Uj⟩;clear oc y0;obtain⟨N7,Kt⟩:=ao l7.length;obtain⟨a7,c7,hv7⟩:=uL.iy (n:=N7) (by rw[eX,Kt]);subst v7;have OC:=KX.trans K7;have YT:Hid (Jg w7 vZ s (q+s) mp S7 Q tv hv XX DZ.H 0 (.slice a7 N7 c7) l7 w7):=⟨vZ,_,h7,cP.refl _ _,uL,tg7,.refl _⟩;have abb:N7<=200000:=by omega
      replace Kt:=hid Kt;replace Uj:=hid Uj;replace OC:=hid OC;clear hm KX K7 h7 uL tg7 e7;go_wp2_with fail
      go_loopw [57] (λz wr=>∃i:Nat,i<=N7/\z=vI i/\Jg w7 vZ s (q+s) mp S7 Q tv hv XX DZ.H i (.slice a7 N7 c7) l7 wr) (λz _=>N7-(intOf z).toNat)
      case atStart=>exact⟨0,by omega,rfl,YT.out⟩
      case round=>
       obtain⟨j,hj,rfl,iF,N2,hm,Ki,aP,lV,zq⟩:=hrel;clear YT
       by_cases aM:j<N7
       ·obtain⟨gb,⟨sa,sc,AG,Gh⟩,bS,_⟩:=jE aP;injection AG with u1 u2 u3
        have Bw:j<l7.length:=by rw[Kt.out];exact aM
        have Gc:=Gh (by omega);rw[<-u1] at Gc;subst Gc;have x0:=(bS j Bw).1;obtain⟨p,hp⟩:=ao (l7.getD j 0:Nat);rw[hp] at x0;have on:=lH hm (-1) 0 0 4 0 (p:Int);clear bS u1 u2 u3 Gh hp;go_wp2_with fail
        refine on.mono ?_;rintro en w6 ⟨rfl,gj,TQ,h6,t6,K6,uF⟩;clear on x0;have bM:Hid (Jg w7 vZ s (q+s) mp S7 Q tv hv XX DZ.H (j+1) (.slice (some ⟨gb,0,none⟩) N7 c7) l7 w6):=⟨gj,TQ,h6,Ki.trans K6,aP.dw K6.fr (λb hb e=>by rw[lV b hb] at e;omega),λb hb=>(t6 b (aP.lt hb).2).trans (lV b hb),by rw[uF];exact zq.note _ _ _ _ _⟩;clear h6 K6 Ki hm aP lV t6 uF zq;go_wp2_with fail
        exact⟨⟨j+1,by omega,by simp,bM.out⟩,by simp[intOf] <;> omega⟩
       ·obtain rfl:j=N7:=by omega
        have bM:∀b:Bool,XZ w τ s (q+s) mp S Q tv hv X ev.H (.returned (.bool b)) wr:=λb=>⟨⟨b,rfl⟩,iF,_,_,_,hm,OC.out.trans Ki,hD.out.out Ui.out YV.out Uj.out (by rw[Kt.out];exact zq)⟩;replace bM:=hid bM;clear hm Ki aP lV OC zq;go_wp2;go_ret;exact bM.out _
   ·have h4:Mc w4 τ4 s q mp S4 Q tv hv ev X:=⟨hS4,by rw[fx4.sp];exact h3.r.keep K4.w⟩;have KM4:=K3.trans K4.w.m;have z4:w4.cell? ⟨mp,0,none⟩=some (pV S.sp):=by have:=(h4.r.c 0 _ rfl).1;rw[fx4.sp] at this;exact this
    have Jt:ps.length=12*X.length:=by rw[kI,ma]
    have Dy:=iU.of nX;obtain⟨va,vn,vc,rfl⟩:=nX.letters;have Mf:=CB h4 Dy Jt sQ (λb hb=>⟨(nX.lt hb).2,λe=>by have h1:=h4.r.t1 b e;have h2:=tg4 b hb;omega⟩);clear oco h3 K3 z3 nX Dy;refine⟨z4,?_⟩;refine au (.tuple #[.slice va vn vc,.bool true]) rfl rfl (λw' hw'=>?_) ak ?_
    ·simp[go_sem]
    refine au (.slice va vn vc) rfl rfl (λw' hw'=>?_) ak ?_
    ·simp[go_sem]
    refine au (.bool true) rfl rfl (λw' hw'=>?_) ak ?_
    ·simp[go_sem]
    refine bj rfl rfl ?_;unfold Oper.wp;go_simp
    first|refine⟨z4,?_⟩|skip
    refine bj rfl rfl ?_;unfold Oper.wp;go_simp
    first|refine⟨z4,?_⟩|skip
    refine eW ?_;go_wp2_with fail
    refine Mf.mono ?_;rintro en wx ⟨rfl,XX,hY1,hY2,hY3,fY⟩;clear Mf z4;obtain⟨Of,Kx⟩:=h4.Wb hY1 hY2 hY3 fY;have hx:Mc wx τ4 s (q+s) mp S4 Q tv hv ev XX:=Of.mono (aD _) (by omega);have KX:=KM4.trans Kx;have hD:Hid (FH S X ev.H S4 XX ev.H):=FH.of cd4.r fx4 ⟨hY2,λt ht=>let h:=hY3 t ht;⟨h.1,h.2.1,h.2.2.1⟩⟩ cd4.se (.inl (by rw[cd4.lo];exact aD _));clear h4 KM4 Kx Of hY1 hY3 fY K4 hS4;have y0:=(hx.r.c 0 _ rfl).1;have oc:=LX hx;go_wp2_with fail
    refine oc.mono ?_;rintro en w5 ⟨v5,l5,dW,S5,rfl,uK,ZL,h5,e5,-,K5,Dg,Ui⟩;clear oc y0;obtain⟨N5,Jl⟩:=ao l5.length;obtain⟨a5,c5,hv5⟩:=uK.iy (n:=N5) (by rw[eX,Jl]);subst v5;have OB:=KX.trans K5;have YS:Hid (Jg w5 dW s (q+s) mp S5 Q tv hv XX ev.H 0 (.slice a5 N5 c5) l5 w5):=⟨dW,_,h5,cP.refl _ _,uK,Dg,.refl _⟩;have aba:N5<=200000:=by omega
    replace Jl:=hid Jl;replace Ui:=hid Ui;replace OB:=hid OB;clear hx KX K5 h5 uK Dg e5;go_wp2_with fail
    go_loopw [39] (λz wr=>∃i:Nat,i<=N5/\z=vI i/\Jg w5 dW s (q+s) mp S5 Q tv hv XX ev.H i (.slice a5 N5 c5) l5 wr) (λz _=>N5-(intOf z).toNat)
    case atStart=>exact⟨0,by omega,rfl,YS.out⟩
    case round=>
     obtain⟨i,hi,rfl,iF,N2,hm,Ki,aP,lV,zq⟩:=hrel;clear YS
     by_cases aM:i<N5
     ·obtain⟨gb,⟨sa,sc,AG,Gh⟩,bS,_⟩:=jE aP;injection AG with u1 u2 u3
      have Bw:i<l5.length:=by rw[Jl.out];exact aM
      have Gc:=Gh (by omega);rw[<-u1] at Gc;subst Gc;have x0:=(bS i Bw).1;obtain⟨p,hp⟩:=ao (l5.getD i 0:Nat);rw[hp] at x0;have on:=lH hm (-1) 0 0 5 0 (p:Int);clear bS u1 u2 u3 Gh hp;go_wp2_with fail
      refine on.mono ?_;rintro en w6 ⟨rfl,gj,TQ,h6,t6,K6,uF⟩;clear on x0;have bM:Hid (Jg w5 dW s (q+s) mp S5 Q tv hv XX ev.H (i+1) (.slice (some ⟨gb,0,none⟩) N5 c5) l5 w6):=⟨gj,TQ,h6,Ki.trans K6,aP.dw K6.fr (λb hb e=>by rw[lV b hb] at e;omega),λb hb=>(t6 b (aP.lt hb).2).trans (lV b hb),by rw[uF];exact zq.note _ _ _ _ _⟩;clear h6 K6 Ki hm aP lV t6 uF zq;go_wp2_with fail
      exact⟨⟨i+1,by omega,by simp,bM.out⟩,by simp[intOf] <;> omega⟩
     ·obtain rfl:i=N5:=by omega
      have KX:=OB.out.trans Ki;have YV:Hid (HM ev.H N2.H l5.length):=by show HM _ _ _;rw[Jl.out];exact zq
      obtain⟨DZ,BP⟩:=ao N2;rw[BP] at hm YV;clear zq BP;have y0:=(hm.r.c 0 _ rfl).1;have oc:=LW hm;clear aP lV Ki OB;go_wp2_with fail
      refine oc.mono ?_;rintro en w7 ⟨v7,l7,vZ,S7,rfl,uL,hl7,h7,e7,-,K7,tg7,Uj⟩;clear oc y0;obtain⟨N7,Kt⟩:=ao l7.length;obtain⟨a7,c7,hv7⟩:=uL.iy (n:=N7) (by rw[eX,Kt]);subst v7;have OC:=KX.trans K7;have YT:Hid (Jg w7 vZ s (q+s) mp S7 Q tv hv XX DZ.H 0 (.slice a7 N7 c7) l7 w7):=⟨vZ,_,h7,cP.refl _ _,uL,tg7,.refl _⟩;have abb:N7<=200000:=by omega
      replace Kt:=hid Kt;replace Uj:=hid Uj;replace OC:=hid OC;clear hm KX K7 h7 uL tg7 e7;go_wp2_with fail
      go_loopw [57] (λz wr=>∃i:Nat,i<=N7/\z=vI i/\Jg w7 vZ s (q+s) mp S7 Q tv hv XX DZ.H i (.slice a7 N7 c7) l7 wr) (λz _=>N7-(intOf z).toNat)
      case atStart=>exact⟨0,by omega,rfl,YT.out⟩
      case round=>
       obtain⟨j,hj,rfl,iF,N2,hm,Ki,aP,lV,zq⟩:=hrel;clear YT
       by_cases aM:j<N7
       ·obtain⟨gb,⟨sa,sc,AG,Gh⟩,bS,_⟩:=jE aP;injection AG with u1 u2 u3
        have Bw:j<l7.length:=by rw[Kt.out];exact aM
        have Gc:=Gh (by omega);rw[<-u1] at Gc;subst Gc;have x0:=(bS j Bw).1;obtain⟨p,hp⟩:=ao (l7.getD j 0:Nat);rw[hp] at x0;have on:=lH hm (-1) 0 0 4 0 (p:Int);clear bS u1 u2 u3 Gh hp;go_wp2_with fail
        refine on.mono ?_;rintro en w6 ⟨rfl,gj,TQ,h6,t6,K6,uF⟩;clear on x0;have bM:Hid (Jg w7 vZ s (q+s) mp S7 Q tv hv XX DZ.H (j+1) (.slice (some ⟨gb,0,none⟩) N7 c7) l7 w6):=⟨gj,TQ,h6,Ki.trans K6,aP.dw K6.fr (λb hb e=>by rw[lV b hb] at e;omega),λb hb=>(t6 b (aP.lt hb).2).trans (lV b hb),by rw[uF];exact zq.note _ _ _ _ _⟩;clear h6 K6 Ki hm aP lV t6 uF zq;go_wp2_with fail
        exact⟨⟨j+1,by omega,by simp,bM.out⟩,by simp[intOf] <;> omega⟩
       ·obtain rfl:j=N7:=by omega
        have bM:∀b:Bool,XZ w τ s (q+s) mp S Q tv hv X ev.H (.returned (.bool b)) wr:=λb=>⟨⟨b,rfl⟩,iF,_,_,_,hm,OC.out.trans Ki,hD.out.out Ui.out YV.out Uj.out (by rw[Kt.out];exact zq)⟩;replace bM:=hid bM;clear hm Ki aP lV OC zq;go_wp2;go_ret;exact bM.out _
end
