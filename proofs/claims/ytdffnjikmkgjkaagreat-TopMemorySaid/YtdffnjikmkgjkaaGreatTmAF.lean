/- TopMemory: a part of its proof (HeapC). -/
import Derived.Deep.CutBlock
import Derived.Test.YtdffnjikmkgjkaaGreatTmAA
import Derived.Test.YtdffnjikmkgjkaaGreatTmAE
set_option linter.unusedSimpArgs false
set_option linter.unusedVariables false
set_option maxHeartbeats 4000000
namespace Go.Proofs.YtdffnjikmkgjkaaGreat
section
open Go.RowKit Go.Shelf
def HS.alloc0 (s:HS)(p d:Nat)(wk fn:Bool):HS:={ s with cur:=s.cur++[(s.top,Ob.new p d wk fn (s.ser+1))],ser:=s.ser+1 }
theorem HRep.alloc0 {s:HS}{X X':List Nat}(h:HRep s X){p d:Nat}{wk fn:Bool}(r:HRep (s.alloc p d wk fn) X'):HRep (s.alloc0 p d wk fn) X':=
  ⟨r.n1,r.n2,r.len,r.zero,r.half,r.oroom,r.room,r.still,r.ser,h.few⟩
theorem alloc0_top (s:HS){p d:Nat}{wk fn:Bool}(hok:okS p d wk fn)(hs:s.ser+1≤1099511627776){n R:Nat}(hn:3+p+d=n)(hR:rnd (n:Int)=R):((s.alloc0 p d wk fn).top:Int)=s.top+R:=by
  have e:(s.alloc0 p d wk fn).top=s.top+(Ob.new p d wk fn (s.ser+1)).took:=by
    show s.base s.u+tookC (s.cur++[(s.top,Ob.new p d wk fn (s.ser+1))])=_;rw[tookC_snoc];show s.base s.u+(tookC s.cur+(Ob.new p d wk fn (s.ser+1)).took)=s.base s.u+tookC s.cur+(Ob.new p d wk fn (s.ser+1)).took;omega
  obtain⟨q1,_,_,_⟩:=Ob.took_eq (Ob.new_ok hok hs);have hsz:(Ob.new p d wk fn (s.ser+1)).size=n:=hn;rw[hsz,hR] at q1;rw[e];push_cast;omega
theorem alloc0_plc (s:HS)(p d:Nat)(wk fn:Bool):nI (plc (s.alloc0 p d wk fn).cur)=nI (plc s.cur)++[((s.top:Nat):Int)]:=by
  show nI ((s.cur++[(s.top,Ob.new p d wk fn (s.ser+1))]).map (·.1))=_;simp[plc]
set_option maxRecDepth 100000 in
theorem halloc_0 {w:World}{B:HB}{s:HS}{X:List Nat}(h:HAt w B s X)(hu:s.u=false){p d:Nat}{wk fn:Bool}(hok:okS p d wk fn)
    (hr:rnd ((3+p+d:Nat):Int)≤s.room) (hs:s.ser<1099511627776) (hf:s.weak.length<100000∧s.fin.length<100000) :
    Calls Tryz.prog 183 #[hpV B,shV p d wk fn] w fun e w'=>e = .returned (.tuple #[vI (s.top:Nat),vI 0])∧∃B' X',HAt w' B' (s.alloc p d wk fn) X'∧HKeep w B w' B':=by
  have hrep:=hid (h.rep.alloc hok hr hs hf);have hk0:=okP_cur h.rep;have htop:=h.rep.top_le;have hn2:=h.rep.n2;have p8:=hok.1;have d8:=hok.2.1;obtain⟨n,hn⟩:∃n,3+p+d=n:=⟨_,rfl⟩;have hcast:(3:Int)+p+d=(n:Int):=by rw[←hn];push_cast;rfl
  have hn19:n≤19:=by omega
  have hn3:3≤n:=by omega
  obtain⟨R,hR⟩:∃R:Nat,rnd (n:Int)=(R:Int):=⟨(rnd (n:Int)).toNat,by have:=rnd_spec (n:=(n:Int)) (by omega);omega⟩;have hrb:=rnd_spec (n:=(n:Int)) (by omega);rw[hn,hR] at hr;rw[hR] at hrb;obtain⟨rb1,rb2,rb3⟩:=hrb;have hrm:=hid (fun W (c:Calm w W)=>room_is (h.calm c));obtain⟨SV,hSV⟩:∃SV:Int,(s.ser:Int)=SV:=⟨_,rfl⟩;have hs0:¬(1099511627776≤SV):=by omega
  have hser:Hid (SV+1≤1099511627776):=by show SV+1≤_;omega
  have hw1:IntKind.i64.wrap (SV+1)=SV+1:=IntWalk.i64_in _ (by omega);have hs1:Hid (s.ser+1≤1099511627776):=by show s.ser+1≤_;omega
  obtain⟨RM,hRM⟩:∃RM,s.room=RM:=⟨_,rfl⟩
  have hrl:R≤s.n-((s.top:Nat)-(s.base s.u:Nat):Int):=by
    have:=h.rep.room;rw[←hRM] at *;unfold HS.room at hr;unfold HS.top;push_cast;omega
  rw[hRM] at hr hrm;have hrmb:RM≤16384:=by rw[←hRM];unfold HS.room;omega
  replace hRM:=hid hRM;have bs:=base_sep s;have eb:((s.base s.u:Nat):Int)=1:=by rw[(bs.2 hu).1];rfl
  rw[eb] at hrl hk0;have hc:=h.cs;simp only[hcells,hu,cond_false,cond_true] at hc;rw[hSV] at hc;replace hSV:=hid hSV;have hlt:=h.lt_hp;have ne1:B.hp≠w.heap.size:=by omega
  have ne2:w.heap.size≠B.hp:=by omega
  have H:=hid h;replace hok:=hid hok;replace hk0:=hid hk0;replace hrl:=hid hrl;replace hc:=hid hc;obtain⟨T,hT⟩:∃T,s.top=T:=⟨_,rfl⟩;have hT0:T≤65536:=by omega
  rw[hT] at hc hk0 hrl hrep ⊢;replace hT:=hid hT;replace hf:=hid hf;clear h bs eb htop hs;go_enter Tryz.func183,Tryz.ntmps183;go_wp2_with fail
  have k1:Calm w (w.alloc (.cells #[vI p,vI d,.bool wk,.bool fn] 47)):=(Fr.refl _ _).alloc _;have o1:=OwnL.new w [vI p,vI d,.bool wk,.bool fn] 47;refine(size_yes p d wk fn hok.out _).mono ?_;rintro e w2 ⟨rfl,k2⟩;rw[hcast];clear hcast;replace hn:=hid hn;replace hR:=hid hR;replace o1:=hid (o1.calm k2);replace k2:=k1.trans k2;clear k1;go_wp2_with fail
  refine(round_yes n (by omega) (by omega) _).mono ?_;rintro e w3 ⟨rfl,k3⟩;rw[hR.out];replace o1:=hid (o1.out.calm k3);replace k3:=k2.trans k3;clear k2;go_wp2_with fail
  refine(hrm.out _ k3).mono ?_;rintro e w4 ⟨rfl,k4⟩;replace o1:=o1.out.calm k4;replace k4:=k3.trans k4;have hc4:=hc.out.calm k4;have y13:=(hc4 13 _ rfl).1;have y9:=(hc4 9 _ rfl).1;have y1:=(hc4 1 _ rfl).1;have y2:=(hc4 2 _ rfl).1;have y3:=(hc4 3 _ rfl).1;replace hc4:=hid hc4;replace o1:=hid o1;clear k3 hc hrm;have hlt4:=k4.size;have hdr:¬RM<(R:Int):=by omega
  replace hr:=hid hr;replace rb1:=hid rb1;replace rb2:=hid rb2;replace rb3:=hid rb3;replace hrmb:=hid hrmb;replace hlt4:=hid hlt4;replace hw1:=hid hw1;replace p8:=hid p8;replace d8:=hid d8;replace hn19:=hid hn19;replace hn3:=hid hn3;replace hn2:=hid hn2;go_wp2_with fail
  have ne3:B.hp≠w4.heap.size:=by have:=hlt4.out;omega
  have ne4:w4.heap.size≠B.hp:=by have:=hlt4.out;omega
  have htk:=hid (fun W=>take_yes (1) s.n T n W hk0.out (by have:=hn3.out;omega) (by have:=hn19.out;omega) (by rw[hR.out];exact hrl.out));rw[hR.out] at htk
  go_cut [10,11,7] (fun s10 s11 s7 wx=>∃g,s10 = .pointer (some ⟨g,0,none⟩)∧s11=vI T∧s7 = .bool true∧OwnL wx g [vI 1,vI s.n,vI (T+R)]∧Calm w4 wx∧w4.heap.size≤g)
  case first=>
    go_region_held3 (fun w'=>w'.cell? ⟨B.hp,9,none⟩=some (vI 0)∧w'.cell? ⟨B.hp,1,none⟩=some (vI 1)∧w'.cell? ⟨B.hp,2,none⟩=some (vI s.n)∧w'.cell? ⟨B.hp,3,none⟩=some (vI T)) (go_keep)
      (first|(go_at_call 197;refine(htk.out _).mono ?_;rintro e w5 ⟨rfl,c5⟩;have ka:Calm w4 w5:=Fr.trans (by first|exact Fr.refl _ _|exact(Fr.refl _ _).drew|exact((Fr.refl _ _).drew).alloc _|exact((Fr.refl _ _).alloc _).drew) c5;have q9:=ka.cellAt y9 id;have q1:=ka.cellAt y1 id;have q2:=ka.cellAt y2 id;have q3:=ka.cellAt y3 id;try (have ow:OwnL w5 w4.heap.size [vI 0,vI 0,vI 0]:=(by first|exact(OwnL.at _ [vI 0,vI 0,vI 0] 133 w4.heap.size rfl).calm c5|exact((OwnL.at _ [vI 0,vI 0,vI 0] 133 w4.heap.size rfl).calm ((Fr.refl _ _).drew)).calm c5);have m0:=(ow 0 _ rfl).1;have m1:=(ow 1 _ rfl).1;have m2:=(ow 2 _ rfl).1;have n0:=(ow 0 _ rfl).2;have n1:=(ow 1 _ rfl).2;have n2:=(ow 2 _ rfl).2)))
    · go_wp2_with fail
      go_meet;exact⟨w5.heap.size,rfl,rfl,rfl,OwnL.new w5 [vI 1,vI s.n,vI (T+R)] _,ka.alloc _,ka.size⟩
    · go_wp2_with fail
      go_meet;have o4:=ow.set3 (vI 1) (vI s.n) (vI (T+R));exact⟨w4.heap.size,rfl,rfl,rfl,o4.1,ka.join o4.2 (fun j hj (e:j=w4.heap.size)=>absurd hj (by omega)),Nat.le_refl _⟩
  case rest=>
    obtain⟨g,rfl,rfl,rfl,og,cx,hg⟩:=hcut;replace hc4:=hc4.out.calm cx;replace o1:=o1.out.calm cx;replace k4:=k4.trans cx;have q0:=lat hc4 0 rfl;have q13:=lat hc4 13 rfl;have s0:=lat o1 0 rfl;have s1:=lat o1 1 rfl;have s2:=lat o1 2 rfl;have s3:=lat o1 3 rfl;replace hc4:=hid hc4;replace o1:=hid o1;replace og:=hid og;replace hw1:=hw1.out;clear y13 y9 y1 y2 y3 cx htk;go_wp2_with fail
    refine wp_region_calm_tail 11 (by kernel_rfl) (by kernel_rfl) ?_;simp only[List.take_succ_cons,List.take_zero,List.drop_succ_cons,List.drop_zero]
    repeat (go_big_quiet_step (fail))
    refine wpQuiet_nil ?_;intro w5 hw';have c5:=Later.out hw';clear hw' q0 q13 s0 s1 s2 s3;replace hc4:=hid (hc4.out.calm c5);replace o1:=hid (o1.out.calm c5);replace og:=hid (og.out.calm c5);replace k4:=k4.trans c5;go_wp2_with fail
    have e1:SV+1=((s.ser+1:Nat):Int):=by have:=hSV.out;push_cast;omega
    have hX:=hrep.out.2;have hac:=H.out.hac;have hacl:=H.out.lt _ (.inr (.inr (.inl rfl)));rw[e1];replace e1:=hid e1;refine(omake_yes _ B.ap B.ac X (H.out.ar.calm k4) T p d wk fn (s.ser+1) hok.out (by rw[hn.out] at hX ⊢;exact hX) hs1.out).mono ?_;rintro e w6 ⟨rfl,ar6,f6⟩;have hgc:g≠B.ac:=by have:=hlt4.out;omega
    have hoc:w.heap.size≠B.ac:=by omega
    have hghp:g≠B.hp:=by have:=hlt4.out;omega
    have hhpg:B.hp≠g:=Ne.symm hghp;replace hc4:=hc4.out.fr f6 hac;replace o1:=o1.out.fr f6 hoc;replace og:=og.out.fr f6 hgc;have y13:=(hc4 13 _ rfl).1;have v13:=(hc4 13 _ rfl).2;obtain⟨g0,g1,g2⟩:=OwnL.ce3 og;replace hc4:=hid hc4;replace o1:=hid o1;replace ar6:=hid ar6;replace f6:=hid f6;replace hac:=hid hac;clear og;go_wp2_with fail
    have hs6:=(Calm.any (S:=fun k=>k=B.hp∨k=B.ac) k4).trans (f6.out.mono (T:=fun k=>k=B.hp∨k=B.ac) (fun k _ e=>.inr e));have H7:=(hc4.out.set 13 (vI (SV+1)) (by simp));have f7:=hs6.setCell (p:=⟨B.hp,13,none⟩) (.inl (.inl rfl)) (vI (SV+1));have o7:=o1.out.far ⟨B.hp,13,none⟩ (vI (SV+1)) ne1;have ar7:=ar6.out.fr ((Fr.refl (fun k=>k=B.hp) w6).setCell (p:=⟨B.hp,13,none⟩) (.inl rfl) (vI (SV+1))) (Ne.symm H.out.hap) (Ne.symm hac.out);clear hs6 hc4 o1 ar6 f6 y13 v13 g0 g1 g2;generalize World.setCell w6 _ _=w7 at *;simp only[List.set_cons_zero,List.set_cons_succ] at H7;have nnv:=(H.out.none_ B.v0 (by simp[HB.vs]));have r7:=H.out.r0.frB f7 (by rintro k hk (e|e);exact nnv.1 (e ▸ hk);exact nnv.2.2 (e ▸ hk));simp only[l0,hu,cond_false,cond_true] at r7;have hfew:=H.out.rep.few_cur.1;have hlv:=fun k hk=>H.out.lt k (.inr (.inr (.inr ⟨B.v0,by simp[HB.vs],hk⟩)));refine(taken_0 H7 r7 nnv.1 (by simp;omega) _ _ _ _).mono ?_;rintro e w8 ⟨rfl,v',H8,r8,f8,n8⟩;simp only[List.set_cons_zero,List.set_cons_succ] at H8;replace o7:=o7.fr f8 (by rintro (e|e);exact ne2 e;exact absurd (hlv _ e) (by omega));have et:=alloc0_top s hok.out hs1.out hn.out hR.out;have ep:=alloc0_plc s p d wk fn;rw[hT.out] at et ep
    have hcc:hcells { B with v0:=v' } (s.alloc0 p d wk fn)=[arV B.ap,vI 1,vI s.n,vI (T+R),vI (1+s.n),vI s.n,vI s.otop,v',B.v1,vI 0,.bool s.mv,vI (owed s.old:Nat),vI s.scan,vI (SV+1),B.vw,B.vf]:=by
      have u1:(s.alloc0 p d wk fn).u=false:=hu;have e2:(((s.alloc0 p d wk fn).ser:Nat):Int)=SV+1:=e1.out.symm;simp only[hcells,u1,cond_false,cond_true,et,e2];rfl
    obtain⟨hA,hK⟩:=H.out.retake0 hu (s':=s.alloc0 p d wk fn) (X':=made X T p d wk fn (s.ser+1)) ((f7.mono (T:=fun k=>k=B.hp∨k=B.ac∨InB B.v0 k) (fun k _ e=>e.elim .inl (fun e=>.inr (.inl e)))).trans (f8.mono (fun k _ e=>e.elim .inl (fun e=>.inr (.inr e)))))
      (by rw[hcc];exact H8) (ar7.fr f8 (by rintro (e|e);exact H.out.hap e.symm;exact nnv.2.1 e) (by rintro (e|e);exact H.out.hac e.symm;exact nnv.2.2 e)) (by rw[ep];exact r8) hu rfl rfl rfl (H.out.rep.alloc0 hrep.out.1)
      (fun k hk=>(n8 k hk).imp id (fun e=>by have:=f7.size;omega))
    have o2:=(o7 2 _ rfl).1;have o3:=(o7 3 _ rfl).1;have y14:=(hA.own (i:=14) (v:=B.vw) rfl);have y15:=(hA.own (i:=15) (v:=B.vf) rfl);have hrw:=hA.rw;have hrf:=hA.rf;obtain⟨xa,xn,xc,hvw⟩:=hrw.letters;obtain⟨za,zn,zc,hvf⟩:=hrf.letters;have hvw:B.vw = .slice xa xn xc:=hvw;have hvf:B.vf = .slice za zn zc:=hvf;replace hA:=hid hA;replace hK:=hid hK;replace hrw:=hid hrw;replace hrf:=hid hrf;clear o7 H8 r8 f8 n8 H7 f7 ar7 r7 et ep hcc hlv nnv hfew hn hR;cases wk
    · cases fn
      · go_wp2
        go_ret2
        exact⟨rfl,_,_,hA.out,hK.out⟩
      · skip
        have hn9:=(hA.out.none_ B.vf (by simp[HB.vs])).1;have hrx:ORow w8 0 (.slice za zn zc) (nI s.fin):=by rw[←hvf];exact hrf.out
        rw[hvf] at y15;have y1:=y15.1;have y2:=y15.2;have hfl:(nI s.fin).length≤1000000:=by have:=hf.out;simp;omega
        have hw0:¬InB B.vf w.heap.size:=fun e=>absurd (H.out.lt _ (.inr (.inr (.inr ⟨B.vf,by simp[HB.vs],e⟩)))) (by omega);obtain⟨L,hL⟩:∃L,nI s.fin=L:=⟨_,rfl⟩;rw[hL] at hrx hfl;replace hL:=hid hL;replace hrx:=hid hrx;replace hfl:=hid hfl;go_wp2_with (at_builtin;refine wpList_app1 rfl _ _ rfl 0 _ _ hrx.out rfl T rfl hfl.out (Nat.zero_le _) ?_;intro g9 c9 w9 r9 f9 hg9;have y3:=f9.cellAt y1 (by rw[←hvf];exact hn9);have y4:=f9.frozenAt y1 y2 (by rw[←hvf];exact hn9);have y5:=f9.cellAt o3 (by rw[←hvf];exact hw0);replace r9:=hid r9;replace f9:=hid f9;replace hg9:=hid hg9)
        go_ret2
        rw[←hvf] at f9 hg9
        have hgp:g9≠B.hp:=by
          rintro rfl;rcases hg9.out with h9|h9
          · exact hn9 h9
          · have:=hA.out.lt_hp;have e:B.hp<w8.heap.size:=this;omega
        obtain⟨hB1,hB2⟩:=hA.out.refin (v:=.slice (some ⟨g9,0,none⟩) (L.length+1) c9) (l:=s.fin++[s.top]) ((f9.out.mono (T:=fun k=>k=B.hp∨InB B.vf k) (fun k _ e=>.inr e)).setCell (p:=⟨B.hp,15,none⟩) (.inl (.inl rfl)) _)
          ((hA.out.cs.fr f9.out hn9).set 15 _ (by simp[hcells]))
          (by rw[show nI (s.fin++[s.top])=L++[(T:Int)] by rw[←hL.out];simp[hT.out]]
              have r9':ORow w9 0 _ _:=r9.out;have:=r9'.frB ((Fr.refl (fun b=>b=B.hp) w9).setCell (p:=⟨B.hp,15,none⟩) (.inl rfl) (.slice (some ⟨g9,0,none⟩) (L.length+1) c9)) (fun k hk e=>hgp ((InB.mk1 hk).symm.trans e))
              exact this)
          (fun k hk=>by rw[InB.mk1 hk];exact hg9.out) (by have:=hf.out;simp;omega)
        refine⟨rfl,_,_,hB1,hK.out.trans hB2⟩
    · cases fn
      · skip
        have hn9:=(hA.out.none_ B.vw (by simp[HB.vs])).1;have hrx:ORow w8 0 (.slice xa xn xc) (nI s.weak):=by rw[←hvw];exact hrw.out
        rw[hvw] at y14;have y1:=y14.1;have y2:=y14.2;have hfl:(nI s.weak).length≤1000000:=by have:=hf.out;simp;omega
        have hw0:¬InB B.vw w.heap.size:=fun e=>absurd (H.out.lt _ (.inr (.inr (.inr ⟨B.vw,by simp[HB.vs],e⟩)))) (by omega);obtain⟨L,hL⟩:∃L,nI s.weak=L:=⟨_,rfl⟩;rw[hL] at hrx hfl;replace hL:=hid hL;replace hrx:=hid hrx;replace hfl:=hid hfl;go_wp2_with (at_builtin;refine wpList_app1 rfl _ _ rfl 0 _ _ hrx.out rfl T rfl hfl.out (Nat.zero_le _) ?_;intro g9 c9 w9 r9 f9 hg9;have y3:=f9.cellAt y1 (by rw[←hvw];exact hn9);have y4:=f9.frozenAt y1 y2 (by rw[←hvw];exact hn9);have y5:=f9.cellAt o3 (by rw[←hvw];exact hw0);replace r9:=hid r9;replace f9:=hid f9;replace hg9:=hid hg9)
        go_ret2
        rw[←hvw] at f9 hg9
        have hgp:g9≠B.hp:=by
          rintro rfl;rcases hg9.out with h9|h9
          · exact hn9 h9
          · have:=hA.out.lt_hp;have e:B.hp<w8.heap.size:=this;omega
        obtain⟨hB1,hB2⟩:=hA.out.reweak (v:=.slice (some ⟨g9,0,none⟩) (L.length+1) c9) (l:=s.weak++[s.top]) ((f9.out.mono (T:=fun k=>k=B.hp∨InB B.vw k) (fun k _ e=>.inr e)).setCell (p:=⟨B.hp,14,none⟩) (.inl (.inl rfl)) _)
          ((hA.out.cs.fr f9.out hn9).set 14 _ (by simp[hcells]))
          (by rw[show nI (s.weak++[s.top])=L++[(T:Int)] by rw[←hL.out];simp[hT.out]]
              have r9':ORow w9 0 _ _:=r9.out;have:=r9'.frB ((Fr.refl (fun b=>b=B.hp) w9).setCell (p:=⟨B.hp,14,none⟩) (.inl rfl) (.slice (some ⟨g9,0,none⟩) (L.length+1) c9)) (fun k hk e=>hgp ((InB.mk1 hk).symm.trans e))
              exact this)
          (fun k hk=>by rw[InB.mk1 hk];exact hg9.out) (by have:=hf.out;simp;omega)
        refine⟨rfl,_,_,hB1,hK.out.trans hB2⟩
      · exact absurd (hok.out.2.2 rfl).2.2 (by decide)
set_option maxRecDepth 100000 in
theorem halloc_1 {w:World}{B:HB}{s:HS}{X:List Nat}(h:HAt w B s X)(hu:s.u=true){p d:Nat}{wk fn:Bool}(hok:okS p d wk fn)
    (hr:rnd ((3+p+d:Nat):Int)≤s.room) (hs:s.ser<1099511627776) (hf:s.weak.length<100000∧s.fin.length<100000) :
    Calls Tryz.prog 183 #[hpV B,shV p d wk fn] w fun e w'=>e = .returned (.tuple #[vI (s.top:Nat),vI 0])∧∃B' X',HAt w' B' (s.alloc p d wk fn) X'∧HKeep w B w' B':=by
  have hrep:=hid (h.rep.alloc hok hr hs hf);have hk0:=okP_cur h.rep;have htop:=h.rep.top_le;have hn2:=h.rep.n2;have p8:=hok.1;have d8:=hok.2.1;obtain⟨n,hn⟩:∃n,3+p+d=n:=⟨_,rfl⟩;have hcast:(3:Int)+p+d=(n:Int):=by rw[←hn];push_cast;rfl
  have hn19:n≤19:=by omega
  have hn3:3≤n:=by omega
  obtain⟨R,hR⟩:∃R:Nat,rnd (n:Int)=(R:Int):=⟨(rnd (n:Int)).toNat,by have:=rnd_spec (n:=(n:Int)) (by omega);omega⟩;have hrb:=rnd_spec (n:=(n:Int)) (by omega);rw[hn,hR] at hr;rw[hR] at hrb;obtain⟨rb1,rb2,rb3⟩:=hrb;have hrm:=hid (fun W (c:Calm w W)=>room_is (h.calm c));obtain⟨SV,hSV⟩:∃SV:Int,(s.ser:Int)=SV:=⟨_,rfl⟩;have hs0:¬(1099511627776≤SV):=by omega
  have hser:Hid (SV+1≤1099511627776):=by show SV+1≤_;omega
  have hw1:IntKind.i64.wrap (SV+1)=SV+1:=IntWalk.i64_in _ (by omega);have hs1:Hid (s.ser+1≤1099511627776):=by show s.ser+1≤_;omega
  obtain⟨RM,hRM⟩:∃RM,s.room=RM:=⟨_,rfl⟩
  have hrl:R≤s.n-((s.top:Nat)-(s.base s.u:Nat):Int):=by
    have:=h.rep.room;rw[←hRM] at *;unfold HS.room at hr;unfold HS.top;push_cast;omega
  rw[hRM] at hr hrm;have hrmb:RM≤16384:=by rw[←hRM];unfold HS.room;omega
  replace hRM:=hid hRM;have bs:=base_sep s;have eb:((s.base s.u:Nat):Int)=1+s.n:=by rw[(bs.1 hu).1];push_cast;rfl
  rw[eb] at hrl hk0;have hc:=h.cs;simp only[hcells,hu,cond_false,cond_true] at hc;rw[hSV] at hc;replace hSV:=hid hSV;have hlt:=h.lt_hp;have ne1:B.hp≠w.heap.size:=by omega
  have ne2:w.heap.size≠B.hp:=by omega
  have H:=hid h;replace hok:=hid hok;replace hk0:=hid hk0;replace hrl:=hid hrl;replace hc:=hid hc;obtain⟨T,hT⟩:∃T,s.top=T:=⟨_,rfl⟩;have hT0:T≤65536:=by omega
  rw[hT] at hc hk0 hrl hrep ⊢;replace hT:=hid hT;replace hf:=hid hf;clear h bs eb htop hs;go_enter Tryz.func183,Tryz.ntmps183;go_wp2_with fail
  have k1:Calm w (w.alloc (.cells #[vI p,vI d,.bool wk,.bool fn] 47)):=(Fr.refl _ _).alloc _;have o1:=OwnL.new w [vI p,vI d,.bool wk,.bool fn] 47;refine(size_yes p d wk fn hok.out _).mono ?_;rintro e w2 ⟨rfl,k2⟩;rw[hcast];clear hcast;replace hn:=hid hn;replace hR:=hid hR;replace o1:=hid (o1.calm k2);replace k2:=k1.trans k2;clear k1;go_wp2_with fail
  refine(round_yes n (by omega) (by omega) _).mono ?_;rintro e w3 ⟨rfl,k3⟩;rw[hR.out];replace o1:=hid (o1.out.calm k3);replace k3:=k2.trans k3;clear k2;go_wp2_with fail
  refine(hrm.out _ k3).mono ?_;rintro e w4 ⟨rfl,k4⟩;replace o1:=o1.out.calm k4;replace k4:=k3.trans k4;have hc4:=hc.out.calm k4;have y13:=(hc4 13 _ rfl).1;have y9:=(hc4 9 _ rfl).1;have y1:=(hc4 4 _ rfl).1;have y2:=(hc4 5 _ rfl).1;have y3:=(hc4 6 _ rfl).1;replace hc4:=hid hc4;replace o1:=hid o1;clear k3 hc hrm;have hlt4:=k4.size;have hdr:¬RM<(R:Int):=by omega
  replace hr:=hid hr;replace rb1:=hid rb1;replace rb2:=hid rb2;replace rb3:=hid rb3;replace hrmb:=hid hrmb;replace hlt4:=hid hlt4;replace hw1:=hid hw1;replace p8:=hid p8;replace d8:=hid d8;replace hn19:=hid hn19;replace hn3:=hid hn3;replace hn2:=hid hn2;go_wp2_with fail
  have ne3:B.hp≠w4.heap.size:=by have:=hlt4.out;omega
  have ne4:w4.heap.size≠B.hp:=by have:=hlt4.out;omega
  have htk:=hid (fun W=>take_yes (1+s.n) s.n T n W hk0.out (by have:=hn3.out;omega) (by have:=hn19.out;omega) (by rw[hR.out];exact hrl.out));rw[hR.out] at htk
  go_cut [10,11,7] (fun s10 s11 s7 wx=>∃g,s10 = .pointer (some ⟨g,0,none⟩)∧s11=vI T∧s7 = .bool true∧OwnL wx g [vI (1+s.n),vI s.n,vI (T+R)]∧Calm w4 wx∧w4.heap.size≤g)
  case first=>
    go_region_held3 (fun w'=>w'.cell? ⟨B.hp,9,none⟩=some (vI 1)∧w'.cell? ⟨B.hp,4,none⟩=some (vI (1+s.n))∧w'.cell? ⟨B.hp,5,none⟩=some (vI s.n)∧w'.cell? ⟨B.hp,6,none⟩=some (vI T)) (go_keep)
      (first|(go_at_call 197;refine(htk.out _).mono ?_;rintro e w5 ⟨rfl,c5⟩;have ka:Calm w4 w5:=Fr.trans (by first|exact Fr.refl _ _|exact(Fr.refl _ _).drew|exact((Fr.refl _ _).drew).alloc _|exact((Fr.refl _ _).alloc _).drew) c5;have q9:=ka.cellAt y9 id;have q1:=ka.cellAt y1 id;have q2:=ka.cellAt y2 id;have q3:=ka.cellAt y3 id;try (have ow:OwnL w5 w4.heap.size [vI 0,vI 0,vI 0]:=(by first|exact(OwnL.at _ [vI 0,vI 0,vI 0] 133 w4.heap.size rfl).calm c5|exact((OwnL.at _ [vI 0,vI 0,vI 0] 133 w4.heap.size rfl).calm ((Fr.refl _ _).drew)).calm c5);have m0:=(ow 0 _ rfl).1;have m1:=(ow 1 _ rfl).1;have m2:=(ow 2 _ rfl).1;have n0:=(ow 0 _ rfl).2;have n1:=(ow 1 _ rfl).2;have n2:=(ow 2 _ rfl).2)))
    · go_wp2_with fail
      go_meet;exact⟨w5.heap.size,rfl,rfl,rfl,OwnL.new w5 [vI (1+s.n),vI s.n,vI (T+R)] _,ka.alloc _,ka.size⟩
    · go_wp2_with fail
      go_meet;have o4:=ow.set3 (vI (1+s.n)) (vI s.n) (vI (T+R));exact⟨w4.heap.size,rfl,rfl,rfl,o4.1,ka.join o4.2 (fun j hj (e:j=w4.heap.size)=>absurd hj (by omega)),Nat.le_refl _⟩
  case rest=>
    obtain⟨g,rfl,rfl,rfl,og,cx,hg⟩:=hcut;replace hc4:=hc4.out.calm cx;replace o1:=o1.out.calm cx;replace k4:=k4.trans cx;have q0:=lat hc4 0 rfl;have q13:=lat hc4 13 rfl;have s0:=lat o1 0 rfl;have s1:=lat o1 1 rfl;have s2:=lat o1 2 rfl;have s3:=lat o1 3 rfl;replace hc4:=hid hc4;replace o1:=hid o1;replace og:=hid og;replace hw1:=hw1.out;clear y13 y9 y1 y2 y3 cx htk;go_wp2_with fail
    refine wp_region_calm_tail 11 (by kernel_rfl) (by kernel_rfl) ?_;simp only[List.take_succ_cons,List.take_zero,List.drop_succ_cons,List.drop_zero]
    repeat (go_big_quiet_step (fail))
    refine wpQuiet_nil ?_;intro w5 hw';have c5:=Later.out hw';clear hw' q0 q13 s0 s1 s2 s3;replace hc4:=hid (hc4.out.calm c5);replace o1:=hid (o1.out.calm c5);replace og:=hid (og.out.calm c5);replace k4:=k4.trans c5;go_wp2_with fail
    have e1:SV+1=((s.ser+1:Nat):Int):=by have:=hSV.out;push_cast;omega
    have hX:=hrep.out.2;have hac:=H.out.hac;have hacl:=H.out.lt _ (.inr (.inr (.inl rfl)));rw[e1];replace e1:=hid e1;refine(omake_yes _ B.ap B.ac X (H.out.ar.calm k4) T p d wk fn (s.ser+1) hok.out (by rw[hn.out] at hX ⊢;exact hX) hs1.out).mono ?_;rintro e w6 ⟨rfl,ar6,f6⟩;have hgc:g≠B.ac:=by have:=hlt4.out;omega
    have hoc:w.heap.size≠B.ac:=by omega
    have hghp:g≠B.hp:=by have:=hlt4.out;omega
    have hhpg:B.hp≠g:=Ne.symm hghp;replace hc4:=hc4.out.fr f6 hac;replace o1:=o1.out.fr f6 hoc;replace og:=og.out.fr f6 hgc;have y13:=(hc4 13 _ rfl).1;have v13:=(hc4 13 _ rfl).2;obtain⟨g0,g1,g2⟩:=OwnL.ce3 og;replace hc4:=hid hc4;replace o1:=hid o1;replace ar6:=hid ar6;replace f6:=hid f6;replace hac:=hid hac;clear og;go_wp2_with fail
    have hs6:=(Calm.any (S:=fun k=>k=B.hp∨k=B.ac) k4).trans (f6.out.mono (T:=fun k=>k=B.hp∨k=B.ac) (fun k _ e=>.inr e));have H7:=(hc4.out.set 13 (vI (SV+1)) (by simp));have f7:=hs6.setCell (p:=⟨B.hp,13,none⟩) (.inl (.inl rfl)) (vI (SV+1));have o7:=o1.out.far ⟨B.hp,13,none⟩ (vI (SV+1)) ne1;have ar7:=ar6.out.fr ((Fr.refl (fun k=>k=B.hp) w6).setCell (p:=⟨B.hp,13,none⟩) (.inl rfl) (vI (SV+1))) (Ne.symm H.out.hap) (Ne.symm hac.out);clear hs6 hc4 o1 ar6 f6 y13 v13 g0 g1 g2;generalize World.setCell w6 _ _=w7 at *;simp only[List.set_cons_zero,List.set_cons_succ] at H7;have nnv:=(H.out.none_ B.v1 (by simp[HB.vs]));have r7:=H.out.r1.frB f7 (by rintro k hk (e|e);exact nnv.1 (e ▸ hk);exact nnv.2.2 (e ▸ hk));simp only[l1,hu,cond_false,cond_true] at r7;have hfew:=H.out.rep.few_cur.1;have hlv:=fun k hk=>H.out.lt k (.inr (.inr (.inr ⟨B.v1,by simp[HB.vs],hk⟩)));refine(taken_1 H7 r7 nnv.1 (by simp;omega) _ _ _ _).mono ?_;rintro e w8 ⟨rfl,v',H8,r8,f8,n8⟩;simp only[List.set_cons_zero,List.set_cons_succ] at H8;replace o7:=o7.fr f8 (by rintro (e|e);exact ne2 e;exact absurd (hlv _ e) (by omega));have et:=alloc0_top s hok.out hs1.out hn.out hR.out;have ep:=alloc0_plc s p d wk fn;rw[hT.out] at et ep
    have hcc:hcells { B with v1:=v' } (s.alloc0 p d wk fn)=[arV B.ap,vI 1,vI s.n,vI s.otop,vI (1+s.n),vI s.n,vI (T+R),B.v0,v',vI 1,.bool s.mv,vI (owed s.old:Nat),vI s.scan,vI (SV+1),B.vw,B.vf]:=by
      have u1:(s.alloc0 p d wk fn).u=true:=hu;have e2:(((s.alloc0 p d wk fn).ser:Nat):Int)=SV+1:=e1.out.symm;simp only[hcells,u1,cond_false,cond_true,et,e2];rfl
    obtain⟨hA,hK⟩:=H.out.retake1 hu (s':=s.alloc0 p d wk fn) (X':=made X T p d wk fn (s.ser+1)) ((f7.mono (T:=fun k=>k=B.hp∨k=B.ac∨InB B.v1 k) (fun k _ e=>e.elim .inl (fun e=>.inr (.inl e)))).trans (f8.mono (fun k _ e=>e.elim .inl (fun e=>.inr (.inr e)))))
      (by rw[hcc];exact H8) (ar7.fr f8 (by rintro (e|e);exact H.out.hap e.symm;exact nnv.2.1 e) (by rintro (e|e);exact H.out.hac e.symm;exact nnv.2.2 e)) (by rw[ep];exact r8) hu rfl rfl rfl (H.out.rep.alloc0 hrep.out.1)
      (fun k hk=>(n8 k hk).imp id (fun e=>by have:=f7.size;omega))
    have o2:=(o7 2 _ rfl).1;have o3:=(o7 3 _ rfl).1;have y14:=(hA.own (i:=14) (v:=B.vw) rfl);have y15:=(hA.own (i:=15) (v:=B.vf) rfl);have hrw:=hA.rw;have hrf:=hA.rf;obtain⟨xa,xn,xc,hvw⟩:=hrw.letters;obtain⟨za,zn,zc,hvf⟩:=hrf.letters;have hvw:B.vw = .slice xa xn xc:=hvw;have hvf:B.vf = .slice za zn zc:=hvf;replace hA:=hid hA;replace hK:=hid hK;replace hrw:=hid hrw;replace hrf:=hid hrf;clear o7 H8 r8 f8 n8 H7 f7 ar7 r7 et ep hcc hlv nnv hfew hn hR;cases wk
    · cases fn
      · go_wp2
        go_ret2
        exact⟨rfl,_,_,hA.out,hK.out⟩
      · skip
        have hn9:=(hA.out.none_ B.vf (by simp[HB.vs])).1;have hrx:ORow w8 0 (.slice za zn zc) (nI s.fin):=by rw[←hvf];exact hrf.out
        rw[hvf] at y15;have y1:=y15.1;have y2:=y15.2;have hfl:(nI s.fin).length≤1000000:=by have:=hf.out;simp;omega
        have hw0:¬InB B.vf w.heap.size:=fun e=>absurd (H.out.lt _ (.inr (.inr (.inr ⟨B.vf,by simp[HB.vs],e⟩)))) (by omega);obtain⟨L,hL⟩:∃L,nI s.fin=L:=⟨_,rfl⟩;rw[hL] at hrx hfl;replace hL:=hid hL;replace hrx:=hid hrx;replace hfl:=hid hfl;go_wp2_with (at_builtin;refine wpList_app1 rfl _ _ rfl 0 _ _ hrx.out rfl T rfl hfl.out (Nat.zero_le _) ?_;intro g9 c9 w9 r9 f9 hg9;have y3:=f9.cellAt y1 (by rw[←hvf];exact hn9);have y4:=f9.frozenAt y1 y2 (by rw[←hvf];exact hn9);have y5:=f9.cellAt o3 (by rw[←hvf];exact hw0);replace r9:=hid r9;replace f9:=hid f9;replace hg9:=hid hg9)
        go_ret2
        rw[←hvf] at f9 hg9
        have hgp:g9≠B.hp:=by
          rintro rfl;rcases hg9.out with h9|h9
          · exact hn9 h9
          · have:=hA.out.lt_hp;have e:B.hp<w8.heap.size:=this;omega
        obtain⟨hB1,hB2⟩:=hA.out.refin (v:=.slice (some ⟨g9,0,none⟩) (L.length+1) c9) (l:=s.fin++[s.top]) ((f9.out.mono (T:=fun k=>k=B.hp∨InB B.vf k) (fun k _ e=>.inr e)).setCell (p:=⟨B.hp,15,none⟩) (.inl (.inl rfl)) _)
          ((hA.out.cs.fr f9.out hn9).set 15 _ (by simp[hcells]))
          (by rw[show nI (s.fin++[s.top])=L++[(T:Int)] by rw[←hL.out];simp[hT.out]]
              have r9':ORow w9 0 _ _:=r9.out;have:=r9'.frB ((Fr.refl (fun b=>b=B.hp) w9).setCell (p:=⟨B.hp,15,none⟩) (.inl rfl) (.slice (some ⟨g9,0,none⟩) (L.length+1) c9)) (fun k hk e=>hgp ((InB.mk1 hk).symm.trans e))
              exact this)
          (fun k hk=>by rw[InB.mk1 hk];exact hg9.out) (by have:=hf.out;simp;omega)
        refine⟨rfl,_,_,hB1,hK.out.trans hB2⟩
    · cases fn
      · skip
        have hn9:=(hA.out.none_ B.vw (by simp[HB.vs])).1;have hrx:ORow w8 0 (.slice xa xn xc) (nI s.weak):=by rw[←hvw];exact hrw.out
        rw[hvw] at y14;have y1:=y14.1;have y2:=y14.2;have hfl:(nI s.weak).length≤1000000:=by have:=hf.out;simp;omega
        have hw0:¬InB B.vw w.heap.size:=fun e=>absurd (H.out.lt _ (.inr (.inr (.inr ⟨B.vw,by simp[HB.vs],e⟩)))) (by omega);obtain⟨L,hL⟩:∃L,nI s.weak=L:=⟨_,rfl⟩;rw[hL] at hrx hfl;replace hL:=hid hL;replace hrx:=hid hrx;replace hfl:=hid hfl;go_wp2_with (at_builtin;refine wpList_app1 rfl _ _ rfl 0 _ _ hrx.out rfl T rfl hfl.out (Nat.zero_le _) ?_;intro g9 c9 w9 r9 f9 hg9;have y3:=f9.cellAt y1 (by rw[←hvw];exact hn9);have y4:=f9.frozenAt y1 y2 (by rw[←hvw];exact hn9);have y5:=f9.cellAt o3 (by rw[←hvw];exact hw0);replace r9:=hid r9;replace f9:=hid f9;replace hg9:=hid hg9)
        go_ret2
        rw[←hvw] at f9 hg9
        have hgp:g9≠B.hp:=by
          rintro rfl;rcases hg9.out with h9|h9
          · exact hn9 h9
          · have:=hA.out.lt_hp;have e:B.hp<w8.heap.size:=this;omega
        obtain⟨hB1,hB2⟩:=hA.out.reweak (v:=.slice (some ⟨g9,0,none⟩) (L.length+1) c9) (l:=s.weak++[s.top]) ((f9.out.mono (T:=fun k=>k=B.hp∨InB B.vw k) (fun k _ e=>.inr e)).setCell (p:=⟨B.hp,14,none⟩) (.inl (.inl rfl)) _)
          ((hA.out.cs.fr f9.out hn9).set 14 _ (by simp[hcells]))
          (by rw[show nI (s.weak++[s.top])=L++[(T:Int)] by rw[←hL.out];simp[hT.out]]
              have r9':ORow w9 0 _ _:=r9.out;have:=r9'.frB ((Fr.refl (fun b=>b=B.hp) w9).setCell (p:=⟨B.hp,14,none⟩) (.inl rfl) (.slice (some ⟨g9,0,none⟩) (L.length+1) c9)) (fun k hk e=>hgp ((InB.mk1 hk).symm.trans e))
              exact this)
          (fun k hk=>by rw[InB.mk1 hk];exact hg9.out) (by have:=hf.out;simp;omega)
        refine⟨rfl,_,_,hB1,hK.out.trans hB2⟩
      · exact absurd (hok.out.2.2 rfl).2.2 (by decide)
end
section
open Go.RowKit Go.Shelf
theorem hmoved_not {w:World}{B:HB}{s:HS}{X:List Nat}(h:HAt w B s X){a:Int}(ha:I64 a)(hm:a∉nI (opl s.old)) :
    Calls Tryz.prog 112 #[hpV B,vI a] w fun e w'=>e = .returned (vI a)∧Calm w w':=by
  have hh:=there_is h a ha;rw[decide_eq_false hm] at hh;replace hh:=hid hh;clear h hm;go_enter Tryz.func112,Tryz.ntmps112;go_wp2_with fail
  refine(hh.out).mono ?_;rintro e w1 ⟨rfl,c1⟩;go_wp2;go_ret;exact⟨rfl,c1⟩
structure OldAt (s:HS)(i a:Nat)(o:Ob)(m:Option Nat):Prop where
  lt:i<s.old.length
  get:s.old.getD i oo=(a,o,m)
theorem OldAt.mem {s:HS}{i a:Nat}{o:Ob}{m:Option Nat}(c:OldAt s i a o m):a∈opl s.old:=by
  have h1:s.old[i]'c.lt=(a,o,m):=by have:=c.get;simpa[List.getD,c.lt] using this
  exact List.mem_map.2 ⟨(a,o,m),h1 ▸ List.getElem_mem _,rfl⟩
set_option maxRecDepth 4000 in
theorem hgone_0 {w:World}{B:HB}{s:HS}{X:List Nat}(h:HAt w B s X)(hu:s.u=false){i a t:Nat}{o:Ob}(c:OldAt s i a o (some t))(ha:a≤131072)(hg:Gone X a t) :
    Calls Tryz.prog 112 #[hpV B,vI a] w fun e w'=>e = .returned (vI (t:Nat))∧Calm w w':=by
  have hh:=there_is h a ⟨by omega,by omega⟩;rw[decide_eq_true (mem_nI.2 c.mem)] at hh;replace hh:=hid hh;have hc:=h.cs;simp only[hcells,hu,cond_false,cond_true] at hc;replace hc:=hid hc;have H:=hid h;have hlt:=h.lt_hp;clear h;obtain⟨T,hT⟩:∃T:Int,(s.top:Nat)=T:=⟨_,rfl⟩;rw[hT] at hc;clear hT;go_enter Tryz.func112,Tryz.ntmps112;go_wp2_with fail
  refine(hh.out).mono ?_;rintro e w1 ⟨rfl,c1⟩;have hc1:=hc.out.calm c1;have ar1:=hid (H.out.ar.calm c1);have y0:=(hc1 0 _ rfl).1;have y9:=(hc1 9 _ rfl).1;have y1:=(hc1 1 _ rfl).1;have y2:=(hc1 2 _ rfl).1;have y3:=(hc1 3 _ rfl).1;have hs1:=c1.size;have ne1:B.hp≠w1.heap.size:=by omega
  have ne2:w1.heap.size≠B.hp:=by omega
  have hc2:=hc1.alloc (.cells #[vI 0,vI 0,vI 0] 133);have x9:=(hc2 9 _ rfl).1;have x1:=(hc2 1 _ rfl).1;have x2:=(hc2 2 _ rfl).1;have x3:=(hc2 3 _ rfl).1;replace hs1:=hid hs1;clear hc hh hc1 hc2;go_wp2_with fail
  go_region
  generalize hW2:World.drew _=w2;have c2:Calm w1 w2:=by rw[←hW2];exact((Fr.refl _ _).alloc _).drew
  have o2:OwnL w2 w1.heap.size [vI 1,vI s.n,vI T]:=by rw[←hW2];exact(OwnL.new w1 _ _).drew
  have lt2:=o2.lt (by simp);generalize w1.heap.size=g1 at *;have z0:=c2.cellAt y0 id;obtain⟨a0,a1,a2⟩:=OwnL.ce3 o2;have cp:=hid (fun W (cw:Calm w2 W)=>copy_gone W B.ap B.ac X ((ar1.out.calm c2).calm cw) a t hg (1) s.n T);replace o2:=hid o2;clear hW2 y0 y9 y1 y2 y3 ne1 ne2 x9 x1 x2 x3;have ne3:g1≠w2.heap.size:=by omega
  have ne4:w2.heap.size≠g1:=by omega
  have hhp:B.hp<w2.heap.size:=by have:=hs1.out;have:=c2.size;omega
  have ne5:B.hp≠w2.heap.size:=by omega
  have ne6:w2.heap.size≠B.hp:=by omega
  go_upto_region 4 with fail
  go_cut [6,7,8] (fun s6 s7 s8 wx=>∃g,s6 = .pointer (some ⟨g,0,none⟩)∧s7=vI t∧s8=vI 0∧OwnL wx g [vI 1,vI s.n,vI T]∧Calm w2 wx∧w2.heap.size≤g)
  case first=>
    go_region_held3 (fun w'=>w'.cell? ⟨B.hp,0,none⟩=some (arV B.ap)∧w'.cell? ⟨g1,0,none⟩=some (vI 1)∧w'.cell? ⟨g1,1,none⟩=some (vI s.n)∧w'.cell? ⟨g1,2,none⟩=some (vI T)) (go_keep)
      (first|(go_at_call 166;refine(cp.out _ (by first|exact Fr.refl _ _|exact(Fr.refl _ _).drew|exact((Fr.refl _ _).drew).alloc _|exact((Fr.refl _ _).alloc _).drew)).mono ?_;rintro e w5 ⟨rfl,c5⟩;have ka:Calm w2 w5:=Fr.trans (by first|exact Fr.refl _ _|exact(Fr.refl _ _).drew|exact((Fr.refl _ _).drew).alloc _|exact((Fr.refl _ _).alloc _).drew) c5;have q0:=ka.cellAt z0 id;have q1:=ka.cellAt a0 id;have q2:=ka.cellAt a1 id;have q3:=ka.cellAt a2 id;try (have ow:OwnL w5 w2.heap.size [vI 0,vI 0,vI 0]:=(by first|exact(OwnL.at _ [vI 0,vI 0,vI 0] 133 w2.heap.size rfl).calm c5|exact((OwnL.at _ [vI 0,vI 0,vI 0] 133 w2.heap.size rfl).calm ((Fr.refl _ _).drew)).calm c5);have m0:=(ow 0 _ rfl).1;have m1:=(ow 1 _ rfl).1;have m2:=(ow 2 _ rfl).1;have n0:=(ow 0 _ rfl).2;have n1:=(ow 1 _ rfl).2;have n2:=(ow 2 _ rfl).2)))
    · go_wp2_with fail
      go_meet;exact⟨w5.heap.size,rfl,rfl,rfl,OwnL.new w5 [vI 1,vI s.n,vI T] _,ka.alloc _,ka.size⟩
    · go_wp2_with fail
      go_meet;have o4:=ow.set3 (vI 1) (vI s.n) (vI T);exact⟨w2.heap.size,rfl,rfl,rfl,o4.1,ka.join o4.2 (fun j hj (e:j=w2.heap.size)=>absurd hj (by omega)),Nat.le_refl _⟩
  case rest=>
    obtain⟨g,rfl,rfl,rfl,og,cx,hg⟩:=hcut;have b0:=(o2.out.calm cx 0 _ rfl).1;have b1:=(o2.out.calm cx 1 _ rfl).1;have b2:=(o2.out.calm cx 2 _ rfl).1;obtain⟨d0,d1,d2⟩:=OwnL.ce3 og;go_wp2;go_ret;exact⟨rfl,(c1.trans c2).trans cx⟩
set_option maxRecDepth 4000 in
theorem hgone_1 {w:World}{B:HB}{s:HS}{X:List Nat}(h:HAt w B s X)(hu:s.u=true){i a t:Nat}{o:Ob}(c:OldAt s i a o (some t))(ha:a≤131072)(hg:Gone X a t) :
    Calls Tryz.prog 112 #[hpV B,vI a] w fun e w'=>e = .returned (vI (t:Nat))∧Calm w w':=by
  have hh:=there_is h a ⟨by omega,by omega⟩;rw[decide_eq_true (mem_nI.2 c.mem)] at hh;replace hh:=hid hh;have hc:=h.cs;simp only[hcells,hu,cond_false,cond_true] at hc;replace hc:=hid hc;have H:=hid h;have hlt:=h.lt_hp;clear h;obtain⟨T,hT⟩:∃T:Int,(s.top:Nat)=T:=⟨_,rfl⟩;rw[hT] at hc;clear hT;go_enter Tryz.func112,Tryz.ntmps112;go_wp2_with fail
  refine(hh.out).mono ?_;rintro e w1 ⟨rfl,c1⟩;have hc1:=hc.out.calm c1;have ar1:=hid (H.out.ar.calm c1);have y0:=(hc1 0 _ rfl).1;have y9:=(hc1 9 _ rfl).1;have y1:=(hc1 4 _ rfl).1;have y2:=(hc1 5 _ rfl).1;have y3:=(hc1 6 _ rfl).1;have hs1:=c1.size;have ne1:B.hp≠w1.heap.size:=by omega
  have ne2:w1.heap.size≠B.hp:=by omega
  have hc2:=hc1.alloc (.cells #[vI 0,vI 0,vI 0] 133);have x9:=(hc2 9 _ rfl).1;have x1:=(hc2 4 _ rfl).1;have x2:=(hc2 5 _ rfl).1;have x3:=(hc2 6 _ rfl).1;replace hs1:=hid hs1;clear hc hh hc1 hc2;go_wp2_with fail
  go_region
  generalize hW2:World.drew _=w2;have c2:Calm w1 w2:=by rw[←hW2];exact((Fr.refl _ _).alloc _).drew
  have o2:OwnL w2 w1.heap.size [vI (1+s.n),vI s.n,vI T]:=by rw[←hW2];exact(OwnL.new w1 _ _).drew
  have lt2:=o2.lt (by simp);generalize w1.heap.size=g1 at *;have z0:=c2.cellAt y0 id;obtain⟨a0,a1,a2⟩:=OwnL.ce3 o2;have cp:=hid (fun W (cw:Calm w2 W)=>copy_gone W B.ap B.ac X ((ar1.out.calm c2).calm cw) a t hg (1+s.n) s.n T);replace o2:=hid o2;clear hW2 y0 y9 y1 y2 y3 ne1 ne2 x9 x1 x2 x3;have ne3:g1≠w2.heap.size:=by omega
  have ne4:w2.heap.size≠g1:=by omega
  have hhp:B.hp<w2.heap.size:=by have:=hs1.out;have:=c2.size;omega
  have ne5:B.hp≠w2.heap.size:=by omega
  have ne6:w2.heap.size≠B.hp:=by omega
  go_upto_region 4 with fail
  go_cut [6,7,8] (fun s6 s7 s8 wx=>∃g,s6 = .pointer (some ⟨g,0,none⟩)∧s7=vI t∧s8=vI 0∧OwnL wx g [vI (1+s.n),vI s.n,vI T]∧Calm w2 wx∧w2.heap.size≤g)
  case first=>
    go_region_held3 (fun w'=>w'.cell? ⟨B.hp,0,none⟩=some (arV B.ap)∧w'.cell? ⟨g1,0,none⟩=some (vI (1+s.n))∧w'.cell? ⟨g1,1,none⟩=some (vI s.n)∧w'.cell? ⟨g1,2,none⟩=some (vI T)) (go_keep)
      (first|(go_at_call 166;refine(cp.out _ (by first|exact Fr.refl _ _|exact(Fr.refl _ _).drew|exact((Fr.refl _ _).drew).alloc _|exact((Fr.refl _ _).alloc _).drew)).mono ?_;rintro e w5 ⟨rfl,c5⟩;have ka:Calm w2 w5:=Fr.trans (by first|exact Fr.refl _ _|exact(Fr.refl _ _).drew|exact((Fr.refl _ _).drew).alloc _|exact((Fr.refl _ _).alloc _).drew) c5;have q0:=ka.cellAt z0 id;have q1:=ka.cellAt a0 id;have q2:=ka.cellAt a1 id;have q3:=ka.cellAt a2 id;try (have ow:OwnL w5 w2.heap.size [vI 0,vI 0,vI 0]:=(by first|exact(OwnL.at _ [vI 0,vI 0,vI 0] 133 w2.heap.size rfl).calm c5|exact((OwnL.at _ [vI 0,vI 0,vI 0] 133 w2.heap.size rfl).calm ((Fr.refl _ _).drew)).calm c5);have m0:=(ow 0 _ rfl).1;have m1:=(ow 1 _ rfl).1;have m2:=(ow 2 _ rfl).1;have n0:=(ow 0 _ rfl).2;have n1:=(ow 1 _ rfl).2;have n2:=(ow 2 _ rfl).2)))
    · go_wp2_with fail
      go_meet;exact⟨w5.heap.size,rfl,rfl,rfl,OwnL.new w5 [vI (1+s.n),vI s.n,vI T] _,ka.alloc _,ka.size⟩
    · go_wp2_with fail
      go_meet;have o4:=ow.set3 (vI (1+s.n)) (vI s.n) (vI T);exact⟨w2.heap.size,rfl,rfl,rfl,o4.1,ka.join o4.2 (fun j hj (e:j=w2.heap.size)=>absurd hj (by omega)),Nat.le_refl _⟩
  case rest=>
    obtain⟨g,rfl,rfl,rfl,og,cx,hg⟩:=hcut;have b0:=(o2.out.calm cx 0 _ rfl).1;have b1:=(o2.out.calm cx 1 _ rfl).1;have b2:=(o2.out.calm cx 2 _ rfl).1;obtain⟨d0,d1,d2⟩:=OwnL.ce3 og;go_wp2;go_ret;exact⟨rfl,(c1.trans c2).trans cx⟩
end
section
open Go.RowKit Go.Shelf
theorem move_top {s:HS}{i a:Nat}{o:Ob}(c:OldAt s i a o none):(s.move i).top=s.top+o.took:=by
  show s.base s.u+tookC (s.cur++[(s.top,(s.old.getD i oo).2.1)])=_;rw[tookC_snoc,c.get];show s.base s.u+(tookC s.cur+o.took)=s.base s.u+tookC s.cur+o.took;omega
theorem move_otop {s:HS}{i a:Nat}{o:Ob}(c:OldAt s i a o none):(s.move i).otop=s.otop:=by
  show s.base (!s.u)+tookO (s.old.set i _)=_;rw[tookO_set _ _ _ c.lt (by rw[c.get])];rfl
theorem move_opl {s:HS}{i a:Nat}{o:Ob}(c:OldAt s i a o none):opl (s.move i).old=opl s.old:=by
  show(s.old.set i ((s.old.getD i oo).1,_)).map (·.1)=s.old.map (·.1);rw[List.map_set];apply List.ext_getElem (by simp);intro j h1 h2;rw[List.getElem_set];split
  · rename_i e;subst e;simp[List.getD,c.lt]
  · rfl
theorem move_plc {s:HS}{i a:Nat}{o:Ob}(c:OldAt s i a o none):nI (plc (s.move i).cur)=nI (plc s.cur)++[((s.top:Nat):Int)]:=by
  show nI ((s.cur++[(s.top,(s.old.getD i oo).2.1)]).map (·.1))=_;simp[plc]
set_option maxRecDepth 4000 in
theorem hmove_0 {w:World}{B:HB}{s:HS}{X:List Nat}(h:HAt w B s X)(hu:s.u=false){i a:Nat}{o:Ob}(c:OldAt s i a o none)(ha:a≤131072) :
    Calls Tryz.prog 112 #[hpV B,vI a] w fun e w'=>e = .returned (vI (s.top:Nat))∧∃B' X',HAt w' B' (s.move i) X'∧HKeep w B w' B':=by
  have hh:=there_is h a ⟨by omega,by omega⟩;rw[decide_eq_true (mem_nI.2 c.mem)] at hh;replace hh:=hid hh;obtain⟨mrep,mat,mroom,mowed⟩:=h.rep.move c.lt c.get;have hk0:=okP_cur h.rep;have hn2:=h.rep.n2;have hrmx:=h.rep.room;have htop:=h.rep.top_le;have hsep:=h.rep.sep;obtain⟨tk1,tk2,tk3,tk4⟩:=Ob.took_eq mat.ok;have bs:=base_sep s;have eb:((s.base s.u:Nat):Int)=1:=by rw[(bs.2 hu).1];rfl
  have hroom:rnd (o.size:Int)≤s.n-((s.top:Nat)-(s.base s.u:Nat):Int):=by rw[←tk1];omega
  rw[eb] at hroom hk0;have et:=move_top c;have eo:=move_otop c;have ep:=move_plc c;have hc:=h.cs;simp only[hcells,hu,cond_false,cond_true] at hc;have H:=hid h;have hlt:=h.lt_hp;have hX:s.top+o.size≤X.length:=by omega
  have hT1:1≤s.top:=by have:=hsep;unfold HS.top;omega
  have hT2:s.top≤65536:=by omega
  obtain⟨T,hT⟩:∃T,s.top=T:=⟨_,rfl⟩;obtain⟨R,hR⟩:∃R,o.took=R:=⟨_,rfl⟩;obtain⟨O,hO⟩:∃O,owed s.old=O:=⟨_,rfl⟩;obtain⟨O',hO'⟩:∃O',owed (s.move i).old=O':=⟨_,rfl⟩;rw[hR,hO,hO'] at mowed;rw[hT,hR] at et;rw[hT] at hc hk0 hroom mrep ep hX hT1 hT2 ⊢;rw[hO] at hc;rw[hR] at tk1 tk3 tk4;have cp0:=fun W (q:Ar W B.ap B.ac X)=>copy_yes W B.ap B.ac X q a o mat (1) s.n T hk0 hroom hT1 hX;rw[←tk1] at cp0;replace cp0:=hid cp0;have hus1:=hid (fun W=>used_any (1) s.n T W hk0);have okp2:okP (1) s.n (T+R:Int):=by obtain⟨k1,k2,k3,k4,k5,k6⟩:=hk0;exact⟨k1,k2,k3,k4,by omega,by omega⟩
  have hus2:=hid (fun W=>used_any (1) s.n (T+R) W okp2)
  have hw1:IntKind.i64.wrap (((T:Int)+R-1)-(T-1))=(R:Int):=by
    rw[show((T:Int)+R-1)-(T-1)=R by omega];exact IntWalk.i64_in _ (by omega)
  have hOb:O≤16384:=by omega
  have hw2:IntKind.i64.wrap ((O:Int)-R)=(O':Int):=by
    rw[show(O:Int)-R=O' by omega];exact IntWalk.i64_in _ (by omega)
  have hTR:(((T:Int)+R)==(T:Int))=false:=by simp;omega
  obtain⟨U1,hU1⟩:∃U,(T:Int)-1=U:=⟨_,rfl⟩;obtain⟨U2,hU2⟩:∃U,(T:Int)+R-1=U:=⟨_,rfl⟩;rw[hU1] at hus1 hw1;rw[hU2] at hus2 hw1;replace hw1:=hid hw1;replace hw2:=hid hw2;have hR4:Hid (4≤R):=tk3;replace hTR:=hid hTR;replace hc:=hid hc;replace hT:=hid hT;replace hO':=hid hO';replace et:=hid et;replace mrep:=hid mrep;clear h hU1 hU2 bs eb hroom hrmx htop hsep tk1 tk2 tk3 tk4 mroom mowed hk0 okp2 hn2 hOb;go_enter Tryz.func112,Tryz.ntmps112;go_wp2_with fail
  refine(hh.out).mono ?_;rintro e w1 ⟨rfl,c1⟩;have hc1:=hc.out.calm c1;have ar1:=hid (H.out.ar.calm c1);have y0:=(hc1 0 _ rfl).1;have y9:=(hc1 9 _ rfl).1;have y1:=(hc1 1 _ rfl).1;have y2:=(hc1 2 _ rfl).1;have y3:=(hc1 3 _ rfl).1;have hs1:=c1.size;have ne1:B.hp≠w1.heap.size:=by omega
  have ne2:w1.heap.size≠B.hp:=by omega
  have hc2:=hc1.alloc (.cells #[vI 0,vI 0,vI 0] 133);have x9:=(hc2 9 _ rfl).1;have x1:=(hc2 1 _ rfl).1;have x2:=(hc2 2 _ rfl).1;have x3:=(hc2 3 _ rfl).1;replace hs1:=hid hs1;clear hh hc1 hc2;go_wp2_with fail
  go_region
  generalize hW2:World.drew _=w2;have c2:Calm w1 w2:=by rw[←hW2];exact((Fr.refl _ _).alloc _).drew
  have o2:OwnL w2 w1.heap.size [vI 1,vI s.n,vI T]:=by rw[←hW2];exact(OwnL.new w1 _ _).drew
  have lt2:=o2.lt (by simp);generalize w1.heap.size=g1 at *;have z0:=c2.cellAt y0 id;obtain⟨a0,a1,a2⟩:=OwnL.ce3 o2;have cp:=hid (fun W (cw:Calm w2 W)=>cp0.out W ((ar1.out.calm c2).calm cw));have hacl:=H.out.lt _ (.inr (.inr (.inl rfl)));have hne0:=H.out.hac;have hga:g1≠B.ac:=by have:=hs1.out;omega
  have hca:B.ac<w2.heap.size:=by have:=hs1.out;have:=c2.size;omega
  replace o2:=hid o2;clear hW2 y0 y9 y1 y2 y3 x9 x1 x2 x3;have ne3:g1≠w2.heap.size:=by omega
  have ne4:w2.heap.size≠g1:=by omega
  have hhp:B.hp<w2.heap.size:=by have:=hs1.out;have:=c2.size;omega
  have ne5:B.hp≠w2.heap.size:=by omega
  have ne6:w2.heap.size≠B.hp:=by omega
  have k2:=hid (c1.trans c2);go_upto_region 4 with fail
  go_cut [6,7,8] (fun s6 s7 s8 wx=>∃g,s6 = .pointer (some ⟨g,0,none⟩)∧s7=vI T∧s8=vI 0∧OwnL wx g [vI 1,vI s.n,vI (T+R)]∧Ar wx B.ap B.ac (cpd X a T o.size)∧Fr (fun k=>k=B.ac) w2 wx∧w2.heap.size≤g)
  case first=>
    go_region_held3 (fun w'=>w'.cell? ⟨B.hp,0,none⟩=some (arV B.ap)∧w'.cell? ⟨g1,0,none⟩=some (vI 1)∧w'.cell? ⟨g1,1,none⟩=some (vI s.n)∧w'.cell? ⟨g1,2,none⟩=some (vI T)) (go_keep)
      (first|(go_at_call 166;refine(cp.out _ (by first|exact Fr.refl _ _|exact(Fr.refl _ _).drew|exact((Fr.refl _ _).drew).alloc _|exact((Fr.refl _ _).alloc _).drew)).mono ?_;rintro e w5 ⟨rfl,ar5,c5⟩;have ka:Fr (fun k=>k=B.ac) w2 w5:=Fr.trans (by first|exact Fr.refl _ _|exact(Fr.refl _ _).drew|exact((Fr.refl _ _).drew).alloc _|exact((Fr.refl _ _).alloc _).drew) c5;have q0:=ka.cellAt z0 hne0;have q1:=ka.cellAt a0 hga;have q2:=ka.cellAt a1 hga;have q3:=ka.cellAt a2 hga;try (have ow:OwnL w5 w2.heap.size [vI 0,vI 0,vI 0]:=(by first|exact(OwnL.at _ [vI 0,vI 0,vI 0] 133 w2.heap.size rfl).fr c5 (by omega)|exact((OwnL.at _ [vI 0,vI 0,vI 0] 133 w2.heap.size rfl).calm ((Fr.refl _ _).drew)).fr c5 (by omega));have m0:=(ow 0 _ rfl).1;have m1:=(ow 1 _ rfl).1;have m2:=(ow 2 _ rfl).1;have n0:=(ow 0 _ rfl).2;have n1:=(ow 1 _ rfl).2;have n2:=(ow 2 _ rfl).2)))
    · go_wp2_with fail
      go_meet;exact⟨w5.heap.size,rfl,rfl,rfl,OwnL.new w5 [vI 1,vI s.n,vI (T+R)] _,ar5.calm ((Fr.refl _ _).alloc _),ka.alloc _,ka.size⟩
    · go_wp2_with fail
      go_meet;have o4:=ow.set3 (vI 1) (vI s.n) (vI (T+R));have hpl:=H.out.lt _ (.inr (.inl rfl));exact⟨w2.heap.size,rfl,rfl,rfl,o4.1,ar5.fr o4.2 (by have:=hs1.out;have:=c2.size;omega) (by omega),ka.join o4.2 (fun j hj (e:j=w2.heap.size)=>absurd hj (by omega)),Nat.le_refl _⟩
  case rest=>
    obtain⟨g,rfl,rfl,rfl,og,arx,fx,hg⟩:=hcut;have ox:=o2.out.fr fx hga;obtain⟨b0,b1,b2⟩:=OwnL.ce3 ox;obtain⟨d0,d1,d2⟩:=OwnL.ce3 og;clear z0 a0 a1 a2;replace hTR:=hTR.out;go_wp2_with fail
    have hwx:=fx.size;have hcx:=((hc.out.calm k2.out).fr fx H.out.hac);have q11:=lat hcx 11 rfl;have qb0:∀x:Later wc,x.w.cell? ⟨g1,0,none⟩=some (vI 1):=fun x=>x.cell b0;have qb1:∀x:Later wc,x.w.cell? ⟨g1,1,none⟩=some (vI s.n):=fun x=>x.cell b1;have qb2:∀x:Later wc,x.w.cell? ⟨g1,2,none⟩=some (vI T):=fun x=>x.cell b2;have qd0:∀x:Later wc,x.w.cell? ⟨g,0,none⟩=some (vI 1):=fun x=>x.cell d0;have qd1:∀x:Later wc,x.w.cell? ⟨g,1,none⟩=some (vI s.n):=fun x=>x.cell d1;have qd2:∀x:Later wc,x.w.cell? ⟨g,2,none⟩=some (vI (T+R)):=fun x=>x.cell d2;replace hw1:=hw1.out;replace hw2:=hw2.out;replace hcx:=hid hcx;replace arx:=hid arx;clear b0 b1 b2 d0 d1 ox;obtain⟨TR,hTR2⟩:∃TR:Int,(T:Int)+R=TR:=⟨_,rfl⟩;simp only[hTR2] at qd2 og hus2 d2 ⊢;replace hTR2:=hid hTR2;clear hTR cp cp0 d2;replace og:=hid og;refine wp_region_calm_tail 12 (by kernel_rfl) (by kernel_rfl) ?_;simp only[List.take_succ_cons,List.take_zero,List.drop_succ_cons,List.drop_zero]
    iterate 5 (go_big_quiet_step (fail))
    go_big_quiet_step ((go_at_call 109;exact Calls.calm_of (hus2.out _)))
    go_big_quiet_step (fail)
    go_big_quiet_step ((go_at_call 109;exact Calls.calm_of (hus1.out _)))
    repeat (go_big_quiet_step (fail))
    refine wpQuiet_nil ?_;intro w5 hw';have c5:=Later.out hw';clear hw' q11 qb0 qb1 qb2 qd0 qd1 qd2;replace hcx:=hcx.out.calm c5;have u1:=(hcx 11 _ rfl).1;have v1:=(hcx 11 _ rfl).2;replace og:=og.out.calm c5;obtain⟨d0,d1,d2⟩:=OwnL.ce3 og;have hghp:g≠B.hp:=by omega
    have hhpg:B.hp≠g:=by omega
    replace hcx:=hid hcx;replace arx:=hid (arx.out.calm c5);go_wp2_with fail
    have f5:Fr (fun k=>k=B.hp∨k=B.ac) w w5:=((Calm.any k2.out).trans (fx.mono (fun k _ e=>.inr e))).trans (Calm.any c5);have H7:=hcx.out.set 11 (vI O') (by simp);have f7:=f5.setCell (p:=⟨B.hp,11,none⟩) (.inl (.inl rfl)) (vI O');have ar7:=arx.out.fr ((Fr.refl (fun k=>k=B.hp) w5).setCell (p:=⟨B.hp,11,none⟩) (.inl rfl) (vI O')) (Ne.symm H.out.hap) (Ne.symm H.out.hac);clear hcx arx f5 u1 v1 d0 d1 d2 og;generalize World.setCell w5 _ _=w7 at *;simp only[List.set_cons_zero,List.set_cons_succ] at H7;have nnv:=(H.out.none_ B.v0 (by simp[HB.vs]));have r7:=H.out.r0.frB f7 (by rintro k hk (e|e);exact nnv.1 (e ▸ hk);exact nnv.2.2 (e ▸ hk));simp only[l0,hu,cond_false,cond_true] at r7;have hfew:=H.out.rep.few_cur.1;refine(taken_0 H7 r7 nnv.1 (by simp;omega) _ _ _ _).mono ?_;rintro e w8 ⟨rfl,v',H8,r8,f8,n8⟩;simp only[List.set_cons_zero,List.set_cons_succ] at H8
    have hcc:hcells { B with v0:=v' } (s.move i)=[arV B.ap,vI 1,vI s.n,vI TR,vI (1+s.n),vI s.n,vI s.otop,v',B.v1,vI 0,.bool s.mv,vI O',vI s.scan,vI s.ser,B.vw,B.vf]:=by
      have u1:(s.move i).u=false:=hu;have e2:(((s.move i).top:Nat):Int)=TR:=by rw[et.out];push_cast;exact hTR2.out
      have e3:owed (s.move i).old=O':=hO'.out;simp only[hcells,u1,cond_false,cond_true,e2,e3,eo];rfl
    obtain⟨hA,hK⟩:=H.out.retake0 hu (s':=s.move i) (X':=cpd X a T o.size) ((f7.mono (T:=fun k=>k=B.hp∨k=B.ac∨InB B.v0 k) (fun k _ e=>e.elim .inl (fun e=>.inr (.inl e)))).trans (f8.mono (fun k _ e=>e.elim .inl (fun e=>.inr (.inr e)))))
      (by rw[hcc];exact H8) (ar7.fr f8 (by rintro (e|e);exact H.out.hap e.symm;exact nnv.2.1 e) (by rintro (e|e);exact H.out.hac e.symm;exact nnv.2.2 e)) (by rw[ep];exact r8) hu (move_opl c) rfl rfl mrep.out
      (fun k hk=>(n8 k hk).imp id (fun e=>by have:=f7.size;omega))
    replace hA:=hid hA;replace hK:=hid hK;clear H8 r8 f8 n8 H7 f7 ar7 r7 hcc nnv hfew;go_wp2;go_ret;exact⟨rfl,_,_,hA.out,hK.out⟩
set_option maxRecDepth 4000 in
theorem hmove_1 {w:World}{B:HB}{s:HS}{X:List Nat}(h:HAt w B s X)(hu:s.u=true){i a:Nat}{o:Ob}(c:OldAt s i a o none)(ha:a≤131072) :
    Calls Tryz.prog 112 #[hpV B,vI a] w fun e w'=>e = .returned (vI (s.top:Nat))∧∃B' X',HAt w' B' (s.move i) X'∧HKeep w B w' B':=by
  have hh:=there_is h a ⟨by omega,by omega⟩;rw[decide_eq_true (mem_nI.2 c.mem)] at hh;replace hh:=hid hh;obtain⟨mrep,mat,mroom,mowed⟩:=h.rep.move c.lt c.get;have hk0:=okP_cur h.rep;have hn2:=h.rep.n2;have hrmx:=h.rep.room;have htop:=h.rep.top_le;have hsep:=h.rep.sep;obtain⟨tk1,tk2,tk3,tk4⟩:=Ob.took_eq mat.ok;have bs:=base_sep s;have eb:((s.base s.u:Nat):Int)=1+s.n:=by rw[(bs.1 hu).1];push_cast;rfl
  have hroom:rnd (o.size:Int)≤s.n-((s.top:Nat)-(s.base s.u:Nat):Int):=by rw[←tk1];omega
  rw[eb] at hroom hk0;have et:=move_top c;have eo:=move_otop c;have ep:=move_plc c;have hc:=h.cs;simp only[hcells,hu,cond_false,cond_true] at hc;have H:=hid h;have hlt:=h.lt_hp;have hX:s.top+o.size≤X.length:=by omega
  have hT1:1≤s.top:=by have:=hsep;unfold HS.top;omega
  have hT2:s.top≤65536:=by omega
  obtain⟨T,hT⟩:∃T,s.top=T:=⟨_,rfl⟩;obtain⟨R,hR⟩:∃R,o.took=R:=⟨_,rfl⟩;obtain⟨O,hO⟩:∃O,owed s.old=O:=⟨_,rfl⟩;obtain⟨O',hO'⟩:∃O',owed (s.move i).old=O':=⟨_,rfl⟩;rw[hR,hO,hO'] at mowed;rw[hT,hR] at et;rw[hT] at hc hk0 hroom mrep ep hX hT1 hT2 ⊢;rw[hO] at hc;rw[hR] at tk1 tk3 tk4;have cp0:=fun W (q:Ar W B.ap B.ac X)=>copy_yes W B.ap B.ac X q a o mat (1+s.n) s.n T hk0 hroom hT1 hX;rw[←tk1] at cp0;replace cp0:=hid cp0;have hus1:=hid (fun W=>used_any (1+s.n) s.n T W hk0);have okp2:okP (1+s.n) s.n (T+R:Int):=by obtain⟨k1,k2,k3,k4,k5,k6⟩:=hk0;exact⟨k1,k2,k3,k4,by omega,by omega⟩
  have hus2:=hid (fun W=>used_any (1+s.n) s.n (T+R) W okp2)
  have hw1:IntKind.i64.wrap (((T:Int)+R-(1+s.n))-(T-(1+s.n)))=(R:Int):=by
    rw[show((T:Int)+R-(1+s.n))-(T-(1+s.n))=R by omega];exact IntWalk.i64_in _ (by omega)
  have hOb:O≤16384:=by omega
  have hw2:IntKind.i64.wrap ((O:Int)-R)=(O':Int):=by
    rw[show(O:Int)-R=O' by omega];exact IntWalk.i64_in _ (by omega)
  have hTR:(((T:Int)+R)==(T:Int))=false:=by simp;omega
  obtain⟨U1,hU1⟩:∃U,(T:Int)-(1+s.n)=U:=⟨_,rfl⟩;obtain⟨U2,hU2⟩:∃U,(T:Int)+R-(1+s.n)=U:=⟨_,rfl⟩;rw[hU1] at hus1 hw1;rw[hU2] at hus2 hw1;replace hw1:=hid hw1;replace hw2:=hid hw2;have hR4:Hid (4≤R):=tk3;replace hTR:=hid hTR;replace hc:=hid hc;replace hT:=hid hT;replace hO':=hid hO';replace et:=hid et;replace mrep:=hid mrep;clear h hU1 hU2 bs eb hroom hrmx htop hsep tk1 tk2 tk3 tk4 mroom mowed hk0 okp2 hn2 hOb;go_enter Tryz.func112,Tryz.ntmps112;go_wp2_with fail
  refine(hh.out).mono ?_;rintro e w1 ⟨rfl,c1⟩;have hc1:=hc.out.calm c1;have ar1:=hid (H.out.ar.calm c1);have y0:=(hc1 0 _ rfl).1;have y9:=(hc1 9 _ rfl).1;have y1:=(hc1 4 _ rfl).1;have y2:=(hc1 5 _ rfl).1;have y3:=(hc1 6 _ rfl).1;have hs1:=c1.size;have ne1:B.hp≠w1.heap.size:=by omega
  have ne2:w1.heap.size≠B.hp:=by omega
  have hc2:=hc1.alloc (.cells #[vI 0,vI 0,vI 0] 133);have x9:=(hc2 9 _ rfl).1;have x1:=(hc2 4 _ rfl).1;have x2:=(hc2 5 _ rfl).1;have x3:=(hc2 6 _ rfl).1;replace hs1:=hid hs1;clear hh hc1 hc2;go_wp2_with fail
  go_region
  generalize hW2:World.drew _=w2;have c2:Calm w1 w2:=by rw[←hW2];exact((Fr.refl _ _).alloc _).drew
  have o2:OwnL w2 w1.heap.size [vI (1+s.n),vI s.n,vI T]:=by rw[←hW2];exact(OwnL.new w1 _ _).drew
  have lt2:=o2.lt (by simp);generalize w1.heap.size=g1 at *;have z0:=c2.cellAt y0 id;obtain⟨a0,a1,a2⟩:=OwnL.ce3 o2;have cp:=hid (fun W (cw:Calm w2 W)=>cp0.out W ((ar1.out.calm c2).calm cw));have hacl:=H.out.lt _ (.inr (.inr (.inl rfl)));have hne0:=H.out.hac;have hga:g1≠B.ac:=by have:=hs1.out;omega
  have hca:B.ac<w2.heap.size:=by have:=hs1.out;have:=c2.size;omega
  replace o2:=hid o2;clear hW2 y0 y9 y1 y2 y3 x9 x1 x2 x3;have ne3:g1≠w2.heap.size:=by omega
  have ne4:w2.heap.size≠g1:=by omega
  have hhp:B.hp<w2.heap.size:=by have:=hs1.out;have:=c2.size;omega
  have ne5:B.hp≠w2.heap.size:=by omega
  have ne6:w2.heap.size≠B.hp:=by omega
  have k2:=hid (c1.trans c2);go_upto_region 4 with fail
  go_cut [6,7,8] (fun s6 s7 s8 wx=>∃g,s6 = .pointer (some ⟨g,0,none⟩)∧s7=vI T∧s8=vI 0∧OwnL wx g [vI (1+s.n),vI s.n,vI (T+R)]∧Ar wx B.ap B.ac (cpd X a T o.size)∧Fr (fun k=>k=B.ac) w2 wx∧w2.heap.size≤g)
  case first=>
    go_region_held3 (fun w'=>w'.cell? ⟨B.hp,0,none⟩=some (arV B.ap)∧w'.cell? ⟨g1,0,none⟩=some (vI (1+s.n))∧w'.cell? ⟨g1,1,none⟩=some (vI s.n)∧w'.cell? ⟨g1,2,none⟩=some (vI T)) (go_keep)
      (first|(go_at_call 166;refine(cp.out _ (by first|exact Fr.refl _ _|exact(Fr.refl _ _).drew|exact((Fr.refl _ _).drew).alloc _|exact((Fr.refl _ _).alloc _).drew)).mono ?_;rintro e w5 ⟨rfl,ar5,c5⟩;have ka:Fr (fun k=>k=B.ac) w2 w5:=Fr.trans (by first|exact Fr.refl _ _|exact(Fr.refl _ _).drew|exact((Fr.refl _ _).drew).alloc _|exact((Fr.refl _ _).alloc _).drew) c5;have q0:=ka.cellAt z0 hne0;have q1:=ka.cellAt a0 hga;have q2:=ka.cellAt a1 hga;have q3:=ka.cellAt a2 hga;try (have ow:OwnL w5 w2.heap.size [vI 0,vI 0,vI 0]:=(by first|exact(OwnL.at _ [vI 0,vI 0,vI 0] 133 w2.heap.size rfl).fr c5 (by omega)|exact((OwnL.at _ [vI 0,vI 0,vI 0] 133 w2.heap.size rfl).calm ((Fr.refl _ _).drew)).fr c5 (by omega));have m0:=(ow 0 _ rfl).1;have m1:=(ow 1 _ rfl).1;have m2:=(ow 2 _ rfl).1;have n0:=(ow 0 _ rfl).2;have n1:=(ow 1 _ rfl).2;have n2:=(ow 2 _ rfl).2)))
    · go_wp2_with fail
      go_meet;exact⟨w5.heap.size,rfl,rfl,rfl,OwnL.new w5 [vI (1+s.n),vI s.n,vI (T+R)] _,ar5.calm ((Fr.refl _ _).alloc _),ka.alloc _,ka.size⟩
    · go_wp2_with fail
      go_meet;have o4:=ow.set3 (vI (1+s.n)) (vI s.n) (vI (T+R));have hpl:=H.out.lt _ (.inr (.inl rfl));exact⟨w2.heap.size,rfl,rfl,rfl,o4.1,ar5.fr o4.2 (by have:=hs1.out;have:=c2.size;omega) (by omega),ka.join o4.2 (fun j hj (e:j=w2.heap.size)=>absurd hj (by omega)),Nat.le_refl _⟩
  case rest=>
    obtain⟨g,rfl,rfl,rfl,og,arx,fx,hg⟩:=hcut;have ox:=o2.out.fr fx hga;obtain⟨b0,b1,b2⟩:=OwnL.ce3 ox;obtain⟨d0,d1,d2⟩:=OwnL.ce3 og;clear z0 a0 a1 a2;replace hTR:=hTR.out;go_wp2_with fail
    have hwx:=fx.size;have hcx:=((hc.out.calm k2.out).fr fx H.out.hac);have q11:=lat hcx 11 rfl;have qb0:∀x:Later wc,x.w.cell? ⟨g1,0,none⟩=some (vI (1+s.n)):=fun x=>x.cell b0;have qb1:∀x:Later wc,x.w.cell? ⟨g1,1,none⟩=some (vI s.n):=fun x=>x.cell b1;have qb2:∀x:Later wc,x.w.cell? ⟨g1,2,none⟩=some (vI T):=fun x=>x.cell b2;have qd0:∀x:Later wc,x.w.cell? ⟨g,0,none⟩=some (vI (1+s.n)):=fun x=>x.cell d0;have qd1:∀x:Later wc,x.w.cell? ⟨g,1,none⟩=some (vI s.n):=fun x=>x.cell d1;have qd2:∀x:Later wc,x.w.cell? ⟨g,2,none⟩=some (vI (T+R)):=fun x=>x.cell d2;replace hw1:=hw1.out;replace hw2:=hw2.out;replace hcx:=hid hcx;replace arx:=hid arx;clear b0 b1 b2 d0 d1 ox;obtain⟨TR,hTR2⟩:∃TR:Int,(T:Int)+R=TR:=⟨_,rfl⟩;simp only[hTR2] at qd2 og hus2 d2 ⊢;replace hTR2:=hid hTR2;clear hTR cp cp0 d2;replace og:=hid og;refine wp_region_calm_tail 12 (by kernel_rfl) (by kernel_rfl) ?_;simp only[List.take_succ_cons,List.take_zero,List.drop_succ_cons,List.drop_zero]
    iterate 5 (go_big_quiet_step (fail))
    go_big_quiet_step ((go_at_call 109;exact Calls.calm_of (hus2.out _)))
    go_big_quiet_step (fail)
    go_big_quiet_step ((go_at_call 109;exact Calls.calm_of (hus1.out _)))
    repeat (go_big_quiet_step (fail))
    refine wpQuiet_nil ?_;intro w5 hw';have c5:=Later.out hw';clear hw' q11 qb0 qb1 qb2 qd0 qd1 qd2;replace hcx:=hcx.out.calm c5;have u1:=(hcx 11 _ rfl).1;have v1:=(hcx 11 _ rfl).2;replace og:=og.out.calm c5;obtain⟨d0,d1,d2⟩:=OwnL.ce3 og;have hghp:g≠B.hp:=by omega
    have hhpg:B.hp≠g:=by omega
    replace hcx:=hid hcx;replace arx:=hid (arx.out.calm c5);go_wp2_with fail
    have f5:Fr (fun k=>k=B.hp∨k=B.ac) w w5:=((Calm.any k2.out).trans (fx.mono (fun k _ e=>.inr e))).trans (Calm.any c5);have H7:=hcx.out.set 11 (vI O') (by simp);have f7:=f5.setCell (p:=⟨B.hp,11,none⟩) (.inl (.inl rfl)) (vI O');have ar7:=arx.out.fr ((Fr.refl (fun k=>k=B.hp) w5).setCell (p:=⟨B.hp,11,none⟩) (.inl rfl) (vI O')) (Ne.symm H.out.hap) (Ne.symm H.out.hac);clear hcx arx f5 u1 v1 d0 d1 d2 og;generalize World.setCell w5 _ _=w7 at *;simp only[List.set_cons_zero,List.set_cons_succ] at H7;have nnv:=(H.out.none_ B.v1 (by simp[HB.vs]));have r7:=H.out.r1.frB f7 (by rintro k hk (e|e);exact nnv.1 (e ▸ hk);exact nnv.2.2 (e ▸ hk));simp only[l1,hu,cond_false,cond_true] at r7;have hfew:=H.out.rep.few_cur.1;refine(taken_1 H7 r7 nnv.1 (by simp;omega) _ _ _ _).mono ?_;rintro e w8 ⟨rfl,v',H8,r8,f8,n8⟩;simp only[List.set_cons_zero,List.set_cons_succ] at H8
    have hcc:hcells { B with v1:=v' } (s.move i)=[arV B.ap,vI 1,vI s.n,vI s.otop,vI (1+s.n),vI s.n,vI TR,B.v0,v',vI 1,.bool s.mv,vI O',vI s.scan,vI s.ser,B.vw,B.vf]:=by
      have u1:(s.move i).u=true:=hu;have e2:(((s.move i).top:Nat):Int)=TR:=by rw[et.out];push_cast;exact hTR2.out
      have e3:owed (s.move i).old=O':=hO'.out;simp only[hcells,u1,cond_false,cond_true,e2,e3,eo];rfl
    obtain⟨hA,hK⟩:=H.out.retake1 hu (s':=s.move i) (X':=cpd X a T o.size) ((f7.mono (T:=fun k=>k=B.hp∨k=B.ac∨InB B.v1 k) (fun k _ e=>e.elim .inl (fun e=>.inr (.inl e)))).trans (f8.mono (fun k _ e=>e.elim .inl (fun e=>.inr (.inr e)))))
      (by rw[hcc];exact H8) (ar7.fr f8 (by rintro (e|e);exact H.out.hap e.symm;exact nnv.2.1 e) (by rintro (e|e);exact H.out.hac e.symm;exact nnv.2.2 e)) (by rw[ep];exact r8) hu (move_opl c) rfl rfl mrep.out
      (fun k hk=>(n8 k hk).imp id (fun e=>by have:=f7.size;omega))
    replace hA:=hid hA;replace hK:=hid hK;clear H8 r8 f8 n8 H7 f7 ar7 r7 hcc nnv hfew;go_wp2;go_ret;exact⟨rfl,_,_,hA.out,hK.out⟩
end
end Go.Proofs.YtdffnjikmkgjkaaGreat
