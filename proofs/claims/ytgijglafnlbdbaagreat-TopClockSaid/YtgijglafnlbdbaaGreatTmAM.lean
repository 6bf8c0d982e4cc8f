import Derived.Test.YtgijglafnlbdbaaGreatTmAL
set_option linter.all false
set_option maxHeartbeats 4000000
set_option maxRecDepth 8000
namespace Go.Proofs.YtgijglafnlbdbaaGreat
open RowKit Shelf Proofs.Tryz
open Go renaming World->aj,Value->aC,Calls->aL
section
variable {w:aj}{τ:Nat->Nat}{s:Nat}{S:aY}
theorem OX(h:St w τ s S){t:Nat}(ht:t<S.bB.length)(hl:(S.tx t).live=true){a:Nat}(ha:a<=131072){k:Int}(hk:cL k)(ic:0<=k){b:Nat}(hb:b<=131072){dd:Dd}(jY:dd.k=5)(sy:dd.i=k){b3 b5 b7 b9:Nat}
 (o3:Own w b3 0 (pV S.sp)) (o5:Own w b5 0 (vI (a:Int))) (o7:Own w b7 0 (vI k)) (o9:Own w b9 0 (vI (b:Int))) :
 aL prog 141 #[pV (S.tx t).xp,aR b9,aR b3,aR b5,aR b7] w (iK w τ s S (λv x S'=>v=0/\jK dd b t a x (vw S) (vw S'))):=by
 have gT:Hid (∀ (fn:Fn) (first cap:Array aC) (w:aj),(Instr.makeFunc fn first cap).run prog w=.ok (.func fn first cap) w):=λ_ _ _ _=>rfl;have y3:=o3.1;have y5:=o5.1;have y7:=o7.1;have y9:=o9.1
 by_cases mX:b=0
 ·subst mX;go_in;go_wp2_with fail
  go_quiet (fail)
  have hW:St (w.drewN nq) τ s S:=h.calm (aq.drewN nq);have cW:Calm w (w.drewN nq):=aq.drewN nq;have z0:=cW.cellAt y3 id;have z1:=cW.cellAt y5 id;have z2:=cW.cellAt y7 id;have z4:=cW.cellAt y9 id;clear y3 y5 y7 y9;have y3:=z0;have y5:=z1;have y7:=z2;have y9:=z4;clear z0 z1 z2 z4;generalize w.drewN nq=W at *;obtain⟨ka,og⟩:=gL W [vI 1,vI (a:Int),vI k,vI 0] 231;obtain⟨w1,fL⟩:=au (W.alloc (.cells #[vI 1,vI (a:Int),vI k,vI 0] 231));rw[fL] at ka og;replace fL:=af fL;have z3:=ka.cellAt y3 id;have z9:=ka.cellAt y9 id;have c0:=(((hW.calm ka).cells 0 _ rfl).1);obtain⟨g0,g1,g2,g3⟩:=ag.sQ og;have kd:Calm w1 w1.drew:=aq.drew;have QB:=Au ((hW.calm ka).calm kd) ht hl ha hk ic (b:=0) hb (.inl rfl) jY sy;go_wp2_with fail
  rw[fL.out];refine a_ 14 14 (λw'=>Calm w1 w') (by kernel_rfl) (by kernel_rfl) (aq.drew) ?_;refine ae (pV S.sp) rfl (λw' hw'=>?_) ai ?_
  ·have e1:=hw'.cellAt z3 id;simp[go_sem,e1]
  refine ae (pV (S.tx t).xp) rfl (λw' hw'=>?_) ai ?_
  ·simp[go_sem]
  refine ae (.agg #[vI 1,vI (a:Int),vI k,vI 0]) rfl (λw' hw'=>?_) ai ?_
  ·have e0:=hw'.cellAt g0 id;have e1:=hw'.cellAt g1 id;have e2:=hw'.cellAt g2 id;have e3:=hw'.cellAt g3 id;simp[go_sem,e0,e1,e2,e3]
  refine ae (pV S.sp) rfl (λw' hw'=>?_) ai ?_
  ·have e1:=hw'.cellAt z3 id;simp[go_sem,e1]
  refine ae (pV S.sp) rfl (λw' hw'=>?_) ai ?_
  ·simp[go_sem]
  refine ae (aR S.sp) rfl (λw' hw'=>?_) ai ?_
  ·simp[go_sem]
  refine ae (pV S.D.B.hp) rfl (λw' hw'=>?_) ai ?_
  ·have e1:=hw'.cellAt c0 id;simp[go_sem,e1]
  refine ae (.func (.func 135) #[pV S.D.B.hp] #[]) rfl (λw' hw'=>?_) ai ?_
  ·simp[go_sem,gT.out]
  refine ae (pV S.sp) rfl (λw' hw'=>?_) ai ?_
  ·have e1:=hw'.cellAt z3 id;simp[go_sem,e1]
  refine ae (pV S.sp) rfl (λw' hw'=>?_) ai ?_
  ·simp[go_sem]
  refine ae (aR S.sp) rfl (λw' hw'=>?_) ai ?_
  ·simp[go_sem]
  refine ae (pV S.D.B.hp) rfl (λw' hw'=>?_) ai ?_
  ·have e1:=hw'.cellAt c0 id;simp[go_sem,e1]
  refine ae (.func (.func 133) #[pV S.D.B.hp] #[]) rfl (λw' hw'=>?_) ai ?_
  ·simp[go_sem,gT.out]
  refine ae (vI ((0:Nat):Int)) rfl (λw' hw'=>?_) ai ?_
  ·have e1:=hw'.cellAt z9 id;simp[go_sem,e1]
  simp only[bG,Nat.sub_self,bW];go_wp2_with fail
  refine QB.mono ?_;rintro e w5 ⟨x,rfl,hx,n5⟩;have hP:iK w τ s S (λv x S'=>v=0/\jK dd 0 t a x (vw S) (vw S')) (.returned (.tuple #[vI 0,vI x])) w5:=⟨0,x,rfl,by decide,hx,(n5.l5 (cW.trans (ka.trans kd))).mono (aM _) λ_ e=>⟨rfl,e⟩⟩;replace hP:=af hP;clear QB n5 z3 z9 c0 g0 g1 g2 g3;go_wp2
  go_ret2
  exact hP.out
 ·have lR:((b:Int) != 0)=true:=by simp[bne];omega
  have c0:=(h.cells 0 _ rfl).1;obtain⟨X,hh⟩:=h.kE;have k1:Calm w w.drew:=aq.drew;have ohr:=AX (hh.calm k1) hb;go_in;go_wp2_with fail
  refine wp_region_any (by kernel_rfl) (cQ [0,1,2,3,4,5,6,7] [8,9,10] (λw'=>Calm w w') (by kernel_rfl) k1 ?_);refine ah (vI (b:Int)) rfl rfl (λw' hw'=>?_) ai ?_
  ·have e1:=hw'.cellAt y9 id;simp[go_sem,e1]
  refine ah (.bool true) rfl rfl (λw' hw'=>?_) ai ?_
  ·simp[go_sem,mX]
  go_simp;refine ah (.bool true) rfl rfl (λw' hw'=>?_) ai ?_
  ·simp[go_sem]
  go_simp;refine ah (pV S.sp) rfl rfl (λw' hw'=>?_) ai ?_
  ·have e1:=hw'.cellAt y3 id;simp[go_sem,e1]
  go_simp;refine ah (pV S.sp) rfl rfl (λw' hw'=>?_) ai ?_
  ·simp[go_sem]
  go_simp;refine ah (aR S.sp) rfl rfl (λw' hw'=>?_) ai ?_
  ·simp[go_sem]
  go_simp;refine ah (pV S.D.B.hp) rfl rfl (λw' hw'=>?_) ai ?_
  ·have e1:=hw'.cellAt c0 id;simp[go_sem,e1]
  go_simp;refine ah (vI (b:Int)) rfl rfl (λw' hw'=>?_) ai ?_
  ·have e1:=hw'.cellAt y9 id;simp[go_sem,e1]
  go_simp
  try simp only[aU]
  refine aw rfl rfl ?_;go_wp2_with fail
  refine ohr.mono ?_;rintro e W ⟨bh,rfl,Js,k2⟩;have cW:Calm w W:=k1.trans k2;have hW:=h.calm cW;refine⟨cW,?_⟩;have z0:=cW.cellAt y3 id;have z1:=cW.cellAt y5 id;have z2:=cW.cellAt y7 id;have z4:=cW.cellAt y9 id;clear y3 y5 y7 y9 ohr;have y3:=z0;have y5:=z1;have y7:=z2;have y9:=z4;clear z0 z1 z2 z4
  cases bh with
  | true=>
    have hm:=af (Js.1 rfl);clear Js;refine aw rfl rfl ?_;unfold Oper.wp;go_simp
    try refine⟨cW,?_⟩
    refine aw rfl rfl ?_;unfold Oper.wp;go_simp
    try refine⟨cW,?_⟩
    try simp only[bj]
    obtain⟨ka,og⟩:=gL W [vI 1,vI (a:Int),vI k,vI 0] 231;obtain⟨w1,fL⟩:=au (W.alloc (.cells #[vI 1,vI (a:Int),vI k,vI 0] 231));rw[fL] at ka og;replace fL:=af fL;have z3:=ka.cellAt y3 id;have z9:=ka.cellAt y9 id;have c0:=(((hW.calm ka).cells 0 _ rfl).1);obtain⟨g0,g1,g2,g3⟩:=ag.sQ og;have kd:Calm w1 w1.drew:=aq.drew;have QB:=Au ((hW.calm ka).calm kd) ht hl ha hk ic (b:=b) hb (.inr hm.out) jY sy;go_wp2_with fail
    rw[fL.out];refine a_ 14 14 (λw'=>Calm w1 w') (by kernel_rfl) (by kernel_rfl) (aq.drew) ?_;refine ae (pV S.sp) rfl (λw' hw'=>?_) ai ?_
    ·have e1:=hw'.cellAt z3 id;simp[go_sem,e1]
    refine ae (pV (S.tx t).xp) rfl (λw' hw'=>?_) ai ?_
    ·simp[go_sem]
    refine ae (.agg #[vI 1,vI (a:Int),vI k,vI 0]) rfl (λw' hw'=>?_) ai ?_
    ·have e0:=hw'.cellAt g0 id;have e1:=hw'.cellAt g1 id;have e2:=hw'.cellAt g2 id;have e3:=hw'.cellAt g3 id;simp[go_sem,e0,e1,e2,e3]
    refine ae (pV S.sp) rfl (λw' hw'=>?_) ai ?_
    ·have e1:=hw'.cellAt z3 id;simp[go_sem,e1]
    refine ae (pV S.sp) rfl (λw' hw'=>?_) ai ?_
    ·simp[go_sem]
    refine ae (aR S.sp) rfl (λw' hw'=>?_) ai ?_
    ·simp[go_sem]
    refine ae (pV S.D.B.hp) rfl (λw' hw'=>?_) ai ?_
    ·have e1:=hw'.cellAt c0 id;simp[go_sem,e1]
    refine ae (.func (.func 135) #[pV S.D.B.hp] #[]) rfl (λw' hw'=>?_) ai ?_
    ·simp[go_sem,gT.out]
    refine ae (pV S.sp) rfl (λw' hw'=>?_) ai ?_
    ·have e1:=hw'.cellAt z3 id;simp[go_sem,e1]
    refine ae (pV S.sp) rfl (λw' hw'=>?_) ai ?_
    ·simp[go_sem]
    refine ae (aR S.sp) rfl (λw' hw'=>?_) ai ?_
    ·simp[go_sem]
    refine ae (pV S.D.B.hp) rfl (λw' hw'=>?_) ai ?_
    ·have e1:=hw'.cellAt c0 id;simp[go_sem,e1]
    refine ae (.func (.func 133) #[pV S.D.B.hp] #[]) rfl (λw' hw'=>?_) ai ?_
    ·simp[go_sem,gT.out]
    refine ae (vI (b:Int)) rfl (λw' hw'=>?_) ai ?_
    ·have e1:=hw'.cellAt z9 id;simp[go_sem,e1]
    simp only[bG,Nat.sub_self,bW];go_wp2_with fail
    refine QB.mono ?_;rintro e w5 ⟨x,rfl,hx,n5⟩;have hP:iK w τ s S (λv x S'=>v=0/\jK dd b t a x (vw S) (vw S')) (.returned (.tuple #[vI 0,vI x])) w5:=⟨0,x,rfl,by decide,hx,(n5.l5 (cW.trans (ka.trans kd))).mono (aM _) λ_ e=>⟨rfl,e⟩⟩;replace hP:=af hP;clear QB n5 z3 z9 c0 g0 g1 g2 g3;go_wp2
    go_ret2
    exact hP.out
  | false=>
    have hm:Hid (S.D.A.ob b=none):=Classical.byContradiction λe=>by cases Js.2 e
    clear Js;refine aw rfl rfl ?_;unfold Oper.wp;go_simp
    try refine⟨cW,?_⟩
    refine aw rfl rfl ?_;unfold Oper.wp;go_simp
    try refine⟨cW,?_⟩
    try simp only[bj]
    have hP:iK w τ s S (λv x S'=>v=0/\jK dd b t a x (vw S) (vw S')) (.returned (.tuple #[vI 0,vI 70])) W:=⟨0,70,rfl,by decide,by decide,Nx.calm h cW ⟨rfl,.inr (.inl ⟨rfl,.inr ⟨mX,hm.out⟩,rfl⟩)⟩⟩;replace hP:=af hP;go_wp2
    go_ret2
    exact hP.out
theorem Hr(h:St w τ s S){t:Nat}(ht:t<S.bB.length)(hl:(S.tx t).live=true){a:Nat}(ha:a<=131072){k:Int}(hk:cL k)(ic:0<=k){b:Int}(hb:cL b){dd:Dd}(jY:dd.k=7)(sy:dd.i=k)(RZ:dd.n=b)(bb:Nat){b3 b5 b7 b9:Nat}
 (o3:Own w b3 0 (pV S.sp)) (o5:Own w b5 0 (vI (a:Int))) (o7:Own w b7 0 (vI k)) (o9:Own w b9 0 (vI b)) :
 aL prog 144 #[pV (S.tx t).xp,aR b5,aR b7,aR b3,aR b9] w (iK w τ s S (λv x S'=>v=0/\jK dd bb t a x (vw S) (vw S'))):=by
 have gT:Hid (∀ (fn:Fn) (first cap:Array aC) (w:aj),(Instr.makeFunc fn first cap).run prog w=.ok (.func fn first cap) w):=λ_ _ _ _=>rfl;have y3:=o3.1;have y5:=o5.1;have y7:=o7.1;have y9:=o9.1;have hW:=h;have cW:Calm w w:=aq;go_in;obtain⟨ka,og⟩:=gL w [vI 2,vI (a:Int),vI k,vI 0] 231;obtain⟨w1,fL⟩:=au (w.alloc (.cells #[vI 2,vI (a:Int),vI k,vI 0] 231));rw[fL] at ka og;replace fL:=af fL;have z3:=ka.cellAt y3 id;have z9:=ka.cellAt y9 id;have c0:=(((hW.calm ka).cells 0 _ rfl).1);obtain⟨g0,g1,g2,g3⟩:=ag.sQ og;have kd:Calm w1 w1.drew:=aq.drew;have QB:=IU ((hW.calm ka).calm kd) ht hl ha hk ic (b:=b) hb jY sy RZ bb;go_wp2_with fail
 rw[fL.out];refine a_ 14 14 (λw'=>Calm w1 w') (by kernel_rfl) (by kernel_rfl) (aq.drew) ?_;refine ae (pV S.sp) rfl (λw' hw'=>?_) ai ?_
 ·have e1:=hw'.cellAt z3 id;simp[go_sem,e1]
 refine ae (pV (S.tx t).xp) rfl (λw' hw'=>?_) ai ?_
 ·simp[go_sem]
 refine ae (.agg #[vI 2,vI (a:Int),vI k,vI 0]) rfl (λw' hw'=>?_) ai ?_
 ·have e0:=hw'.cellAt g0 id;have e1:=hw'.cellAt g1 id;have e2:=hw'.cellAt g2 id;have e3:=hw'.cellAt g3 id;simp[go_sem,e0,e1,e2,e3]
 refine ae (pV S.sp) rfl (λw' hw'=>?_) ai ?_
 ·have e1:=hw'.cellAt z3 id;simp[go_sem,e1]
 refine ae (pV S.sp) rfl (λw' hw'=>?_) ai ?_
 ·simp[go_sem]
 refine ae (aR S.sp) rfl (λw' hw'=>?_) ai ?_
 ·simp[go_sem]
 refine ae (pV S.D.B.hp) rfl (λw' hw'=>?_) ai ?_
 ·have e1:=hw'.cellAt c0 id;simp[go_sem,e1]
 refine ae (.func (.func 143) #[pV S.D.B.hp] #[]) rfl (λw' hw'=>?_) ai ?_
 ·simp[go_sem,gT.out]
 refine ae (pV S.sp) rfl (λw' hw'=>?_) ai ?_
 ·have e1:=hw'.cellAt z3 id;simp[go_sem,e1]
 refine ae (pV S.sp) rfl (λw' hw'=>?_) ai ?_
 ·simp[go_sem]
 refine ae (aR S.sp) rfl (λw' hw'=>?_) ai ?_
 ·simp[go_sem]
 refine ae (pV S.D.B.hp) rfl (λw' hw'=>?_) ai ?_
 ·have e1:=hw'.cellAt c0 id;simp[go_sem,e1]
 refine ae (.func (.func 145) #[pV S.D.B.hp] #[]) rfl (λw' hw'=>?_) ai ?_
 ·simp[go_sem,gT.out]
 refine ae (vI b) rfl (λw' hw'=>?_) ai ?_
 ·have e1:=hw'.cellAt z9 id;simp[go_sem,e1]
 simp only[bG,Nat.sub_self,bW];go_wp2_with fail
 refine QB.mono ?_;rintro e w5 ⟨x,rfl,hx,n5⟩;have hP:iK w τ s S (λv x S'=>v=0/\jK dd bb t a x (vw S) (vw S')) (.returned (.tuple #[vI 0,vI x])) w5:=⟨0,x,rfl,by decide,hx,(n5.l5 (cW.trans (ka.trans kd))).mono (aM _) λ_ e=>⟨rfl,e⟩⟩;replace hP:=af hP;clear QB n5 z3 z9 c0 g0 g1 g2 g3;go_wp2
 go_ret2
 exact hP.out
end
section
variable {w:aj}{τ:Nat->Nat}{s:Nat}{S:aY}
theorem iK.dp{τ0:Nat->Nat}{R:Int->Int->aY->Prop}{e:Ending}{w':aj}(h:iK w τ0 s S R e w')(tk:nV w τ τ0):iK w τ s S R e w':=by
 obtain⟨v,x,h1,h2,h3,gi,S1,k1,k2,k3,k4⟩:=h;exact⟨v,x,h1,h2,h3,gi,S1,k1,k2.dp tk,k3,k4⟩
def Cq(t:Nat)(v x:Int)(σ σ':PS):Prop:=v=0/\((x=141/\σ'=σ)\/(x=0/\σ'=σ))
theorem Hb(h:St w τ s S)(fr:∀k,w.heap.size<=k->τ k=1000){t:Nat}(ht:t<S.bB.length)(hl:(S.tx t).live=true){b3:Nat}(o3:Own w b3 0 (pV S.sp))(t3:500<=τ b3) :
 aL prog 139 #[pV (S.tx t).xp,aR b3] w (iK w τ s S (Vw S (Cq t))):=by
 have y3:=o3.1;have hx:=h.ny ht;have hc:=h.cells;have c6:=(hc 6 _ rfl).1;have c7:=(hc 7 _ rfl).1;have x0:w.cell? ⟨(S.tx t).xp,0,none⟩=some (vI (t:Int)):=(hx 0 _ rfl).1;have x2:=(hx 2 _ rfl).1;have bad:Hid (∀n,iK w τ s S (Vw S (Cq t)) (.returned (.tuple #[vI 0,vI 141])) (w.drewN n)):=λn=>⟨0,141,rfl,by decide,by decide,Nx.calm h (aq.drewN n) ⟨rfl,.inl ⟨rfl,rfl⟩⟩⟩
 by_cases hA:S.bM = -1
 ·have eA:(S.bM != -1)=false:=by simp[hA]
  by_cases hV:(S.bt:Int)>(S.tx t).start
  ·replace bad:=bad;go_in;go_wp2_with fail
   go_quiet (fail)
   go_wp2
   go_ret2
   exact bad.out _
  ·go_in;go_wp2_with fail
   go_quiet (fail)
   have kw:Calm w (w.drewN nq):=aq.drewN nq;have h1:=h.calm kw;generalize w.drewN nq=W at *;have hcs:=h1.cells;have Cw:=h1.ny ht;have d0:W.cell? ⟨(S.tx t).xp,0,none⟩=some (vI (t:Int)):=(Cw 0 _ rfl).1;have d6:=(hcs 6 _ rfl).1;have f6:=(hcs 6 _ rfl).2;have z3:=kw.cellAt y3 id;go_wp2_with fail
   refine a_ 5 5 (λw'=>Calm W w') (by kernel_rfl) (by kernel_rfl) (aq.drew) ?_;refine ae (pV S.sp) rfl (λw' hw'=>?_) ai ?_
   ·have e1:=hw'.cellAt z3 id;simp[go_sem,e1]
   refine ae (pV (S.tx t).xp) rfl (λw' hw'=>?_) ai ?_
   ·simp[go_sem]
   refine ae (pV (S.tx t).xp) rfl (λw' hw'=>?_) ai ?_
   ·simp[go_sem]
   refine ae (.pointer (some ⟨(S.tx t).xp,0,none⟩)) rfl (λw' hw'=>?_) ai ?_
   ·simp[go_sem]
   refine ae (vI (t:Int)) rfl (λw' hw'=>?_) ai ?_
   ·have e1:=hw'.cellAt d0 id;simp[go_sem,e1]
   simp only[bG,Nat.sub_self,bW];have kd:Calm W W.drew:=aq.drew;have hd:=h1.calm kd;have d6d:=kd.cellAt d6 id;have f6d:=kd.frozenAt d6 f6 id;have F:Fr (λb=>b=S.sp) W.drew (W.drew.setCell ⟨S.sp,6,none⟩ (vI (t:Int))):=(Fr.refl (λb=>b=S.sp) W.drew).setCell (p:=⟨S.sp,6,none⟩) (.inl rfl) _;have gC:ag (W.drew.setCell ⟨S.sp,6,none⟩ (vI (t:Int))) S.sp (aY.cs (S.eL ⟨S.qv,S.qu,S.next,t,S.bt⟩)):=(hcs.calm kd).set 6 (vI (t:Int)) (by simp[aY.cs]);have n8:=h.ok.n;obtain⟨h2,k2⟩:=St.Fv hd ⟨S.qv,S.qu,S.next,t,S.bt⟩ F gC rfl rfl (by show cL (t:Int);exact⟨by omega,by omega⟩) (h.ok.iv.eL _ h.ok.iv.ve h.ok.iv.qu h.ok.iv.nx);have K2:aF w τ (W.drew.setCell ⟨S.sp,6,none⟩ (vI (t:Int))) τ:=(aF.calm τ (kw.trans kd)).trans k2;have X2:Fix S (S.eL ⟨S.qv,S.qu,S.next,t,S.bt⟩):=Fix.eL S _;have r2:vw (S.eL ⟨S.qv,S.qu,S.next,t,S.bt⟩)=vw S:=rfl;have VO:(S.eL ⟨S.qv,S.qu,S.next,t,S.bt⟩).tx t=S.tx t:=rfl;obtain⟨W2,iA⟩:=au (W.drew.setCell ⟨S.sp,6,none⟩ (vI (t:Int)));obtain⟨S2,mh⟩:=au (S.eL ⟨S.qv,S.qu,S.next,t,S.bt⟩);rw[iA,mh] at h2;rw[iA] at K2;rw[mh] at X2 VO r2;have o33:=K2.own o3 t3;have z33:=o33.1;have rq:=h2.que;have yS:t<S2.bB.length:=by rw[X2.len];exact ht
   have x3:W2.cell? ⟨(S.tx t).xp,3,none⟩=some (vI (S.tx t).seen):=by have:=(h2.ny yS 3 _ rfl).1;rw[VO] at this;exact this
   have aar:=af mh;have Ko:Hid (∀n,iK w τ s S (Vw S (Cq t)) (.returned (.tuple #[vI 0,vI 0])) (W2.drewN n)):=λn=>⟨0,0,rfl,by decide,by decide,τ,S2,h2.calm (aq.drewN _),K2.trans (aF.calm τ (aq.drewN _)),X2,rfl,.inr ⟨rfl,r2⟩⟩;clear d0 f6 hcs Cw z3 hd gC F k2 mh d6
   by_cases JQ:S2.qu=[]
   ·obtain⟨qa,qc,eqv⟩:=aG rq;have pY:S2.qu.length=0:=by rw[JQ];rfl
    have q4:W2.cell? ⟨S.sp,4,none⟩=some (.slice qa 0 qc):=by have:=(h2.cells 4 _ rfl).1;rw[X2.sp,eqv,pY] at this;exact this
    clear eqv pY;go_wp2_with fail
    go_quiet (fail)
    go_wp2
    go_ret2
    exact Ko.out _
   ·exact absurd h2.ok.iv.qu JQ
 ·have eA:(S.bM != -1)=true:=by simp[bne,hA]
  by_cases hB:S.bM=(t:Int)
  ·have eB:(S.bM != (t:Int))=false:=by simp[hB]
   by_cases hV:(S.bt:Int)>(S.tx t).start
   ·replace bad:=bad;go_in;go_wp2_with fail
    go_quiet (fail)
    go_wp2
    go_ret2
    exact bad.out _
   ·go_in;go_wp2_with fail
    go_quiet (fail)
    have kw:Calm w (w.drewN nq):=aq.drewN nq;have h1:=h.calm kw;generalize w.drewN nq=W at *;have hcs:=h1.cells;have Cw:=h1.ny ht;have d0:W.cell? ⟨(S.tx t).xp,0,none⟩=some (vI (t:Int)):=(Cw 0 _ rfl).1;have d6:=(hcs 6 _ rfl).1;have f6:=(hcs 6 _ rfl).2;have z3:=kw.cellAt y3 id;go_wp2_with fail
    refine a_ 5 5 (λw'=>Calm W w') (by kernel_rfl) (by kernel_rfl) (aq.drew) ?_;refine ae (pV S.sp) rfl (λw' hw'=>?_) ai ?_
    ·have e1:=hw'.cellAt z3 id;simp[go_sem,e1]
    refine ae (pV (S.tx t).xp) rfl (λw' hw'=>?_) ai ?_
    ·simp[go_sem]
    refine ae (pV (S.tx t).xp) rfl (λw' hw'=>?_) ai ?_
    ·simp[go_sem]
    refine ae (.pointer (some ⟨(S.tx t).xp,0,none⟩)) rfl (λw' hw'=>?_) ai ?_
    ·simp[go_sem]
    refine ae (vI (t:Int)) rfl (λw' hw'=>?_) ai ?_
    ·have e1:=hw'.cellAt d0 id;simp[go_sem,e1]
    simp only[bG,Nat.sub_self,bW];have kd:Calm W W.drew:=aq.drew;have hd:=h1.calm kd;have d6d:=kd.cellAt d6 id;have f6d:=kd.frozenAt d6 f6 id;have F:Fr (λb=>b=S.sp) W.drew (W.drew.setCell ⟨S.sp,6,none⟩ (vI (t:Int))):=(Fr.refl (λb=>b=S.sp) W.drew).setCell (p:=⟨S.sp,6,none⟩) (.inl rfl) _;have gC:ag (W.drew.setCell ⟨S.sp,6,none⟩ (vI (t:Int))) S.sp (aY.cs (S.eL ⟨S.qv,S.qu,S.next,t,S.bt⟩)):=(hcs.calm kd).set 6 (vI (t:Int)) (by simp[aY.cs]);have n8:=h.ok.n;obtain⟨h2,k2⟩:=St.Fv hd ⟨S.qv,S.qu,S.next,t,S.bt⟩ F gC rfl rfl (by show cL (t:Int);exact⟨by omega,by omega⟩) (h.ok.iv.eL _ h.ok.iv.ve h.ok.iv.qu h.ok.iv.nx);have K2:aF w τ (W.drew.setCell ⟨S.sp,6,none⟩ (vI (t:Int))) τ:=(aF.calm τ (kw.trans kd)).trans k2;have X2:Fix S (S.eL ⟨S.qv,S.qu,S.next,t,S.bt⟩):=Fix.eL S _;have r2:vw (S.eL ⟨S.qv,S.qu,S.next,t,S.bt⟩)=vw S:=rfl;have VO:(S.eL ⟨S.qv,S.qu,S.next,t,S.bt⟩).tx t=S.tx t:=rfl;obtain⟨W2,iA⟩:=au (W.drew.setCell ⟨S.sp,6,none⟩ (vI (t:Int)));obtain⟨S2,mh⟩:=au (S.eL ⟨S.qv,S.qu,S.next,t,S.bt⟩);rw[iA,mh] at h2;rw[iA] at K2;rw[mh] at X2 VO r2;have o33:=K2.own o3 t3;have z33:=o33.1;have rq:=h2.que;have yS:t<S2.bB.length:=by rw[X2.len];exact ht
    have x3:W2.cell? ⟨(S.tx t).xp,3,none⟩=some (vI (S.tx t).seen):=by have:=(h2.ny yS 3 _ rfl).1;rw[VO] at this;exact this
    have aar:=af mh;have Ko:Hid (∀n,iK w τ s S (Vw S (Cq t)) (.returned (.tuple #[vI 0,vI 0])) (W2.drewN n)):=λn=>⟨0,0,rfl,by decide,by decide,τ,S2,h2.calm (aq.drewN _),K2.trans (aF.calm τ (aq.drewN _)),X2,rfl,.inr ⟨rfl,r2⟩⟩;clear d0 f6 hcs Cw z3 hd gC F k2 mh d6
    by_cases JQ:S2.qu=[]
    ·obtain⟨qa,qc,eqv⟩:=aG rq;have pY:S2.qu.length=0:=by rw[JQ];rfl
     have q4:W2.cell? ⟨S.sp,4,none⟩=some (.slice qa 0 qc):=by have:=(h2.cells 4 _ rfl).1;rw[X2.sp,eqv,pY] at this;exact this
     clear eqv pY;go_wp2_with fail
     go_quiet (fail)
     go_wp2
     go_ret2
     exact Ko.out _
    ·exact absurd h2.ok.iv.qu JQ
  ·have eB:(S.bM != (t:Int))=true:=by simp[bne,hB]
   replace bad:=bad;go_in;go_wp2_with fail
   go_quiet (fail)
   go_wp2
   go_ret2
   exact bad.out _
theorem Lt(h:St w τ s S){t:Nat}(ht:t<S.bB.length)(hl:(S.tx t).live=true){b3:Nat}(o3:Own w b3 0 (pV S.sp))(t3:500<=τ b3) :
 aL prog 139 #[pV (S.tx t).xp,aR b3] w (iK w τ s S (Vw S (Cq t))):=by
 obtain⟨τ0,hf,tk,fr⟩:=h.fresh;exact(Hb hf fr ht hl o3 (by rw[tk _ o3.lt];exact t3)).mono λe w' hp=>hp.dp tk
end
section
variable {w:aj}{τ:Nat->Nat}{s:Nat}{S:aY}
theorem St.abf(h:St w τ s S){w':aj}{kT:Nat}(f:Fr (λb=>b=S.ck) w w')(hc:ag w' S.ck [vI (kT:Int),vI S.aW])(ho:FK kT S.aW)(hle:S.now<=kT):St w' τ s { S with now:=kT } /\ aF w τ w' τ:=by
 obtain⟨M,h1,h2,h3⟩:=h;have hb:(M 3).bU=λk=>k=S.ck:=by rw[h2.k];rfl
 have f':Fr (M 3).bU w w':=f.mono (λk _ e=>by rw[hb];exact e);have k1:=h1.put' (t:=3) (a:=bD S.ck (vI (kT:Int)) [vI S.aW]) f' hc (λk hk=>by rw[hb];exact hk);have o:=Mem.cM.put M (P:=λj=>j=3) (bD S.ck (vI (kT:Int)) [vI S.aW]) rfl
 refine⟨⟨_,k1,⟨(o 0 (by omega)).trans h2.h,(o 2 (by omega)).trans h2.c,?_,(o 4 (by omega)).trans h2.t,(o 5 (by omega)).trans h2.q,λt ht=>(h2.x t ht).only o (λj h1 h2 (e:j=3)=>by omega),λu hu=>(o u (by omega)).trans (h2.z u hu)⟩,
  ⟨h3.he,h3.se,ho,h3.n,h3.x,h3.ho,⟨λa o h=>(h3.iv.sn a o h).imp id (λ⟨v,e1,e2⟩=>⟨v,fH e1 hle,e2⟩),λt z hz=>by have:=h3.iv.vs t z hz;show 0<=z.bt/\z.bt<=(kT:Int);omega,λt hl=>by have:=h3.iv.st t hl;show 0<=(S.tx t).start/\(S.tx t).start<=(kT:Int);omega,h3.iv.qu,h3.iv.tk,fH h3.iv.ve hle,h3.iv.nx⟩⟩⟩,aF.piece h1 f' (by omega)⟩
 rw[Mem.aP]
theorem B_(h:St w τ s S)(hm:(S.now:Int)<S.aW):aL prog 127 #[pV S.ck] w λe w'=>∃b:Bool,e=.returned (.tuple #[vI ((S.now+1:Nat):Int),.bool b])/\Nx w τ s S w' (λS'=>S' = { S with now:=S.now+1 }):=by
 refine(CL h.YO h.ok.ck).mono ?_;rintro e w' ⟨v,kT,b,rfl,h1,h2,h3,h5,h4⟩;obtain⟨rfl,rfl⟩:=h5 hm;obtain⟨k1,k2⟩:=h.abf h4 h1 h2 (by omega);exact⟨b,rfl,τ,_,k1,k2,⟨rfl,rfl,rfl,rfl,rfl,rfl,λ_=>rfl,λ_=>rfl,Nat.le_succ _,rfl⟩,rfl⟩
def vE(t:Nat)(v x:Int)(σ σ':PS):Prop:=
 (x=0/\v=0/\(σ.tx t).holds=[]/\σ'=σ.fin t)\/(v=0/\x=141/\σ'=σ)\/(x=0/\v=(σ.now+1:Nat)/\(∀a∈(σ.tx t).reads,∀o,σ.ob a=some o->gO σ t o)/\σ'=σ.Re t)
theorem Aw(h:St w τ s S)(fr:∀k,w.heap.size<=k->τ k=1000){t:Nat}(ht:t<S.bB.length)(hl:(S.tx t).live=true)(oL:(S.now:Int)<S.aW){b3:Nat}(o3:Own w b3 0 (pV S.sp))(t3:500<=τ b3) :
 aL prog 122 #[pV (S.tx t).xp,aR b3] w (iK w τ s S (Vw S (vE t))):=by
 have hx:=h.ny ht;have vz:=h.ok.x t ht;have c40:=(hx 4 _ rfl).1;obtain⟨M,H1,H2,H3⟩:=h;have UB:=(H2.x t ht).l;have h:St w τ s S:=⟨M,H1,H2,H3⟩;go_in;go_wp2_with fail
 refine(xo H1 UB (by have:=vz.f;omega)).mono ?_;rintro e w1 ⟨hv,rfl,v1,v2,k1⟩;obtain⟨ha,Nz,rfl⟩:=aG v1;obtain⟨hn,EL⟩:=au ((S.tx t).L.holds.length);rw[EL] at v1 v2 ⊢;have nJ:hn<=200:=by have:=vz.f;omega
 replace EL:=af EL;have dR:=af v1;have Ia:=af v2;have z3:=k1.cellAt o3.1 id;have c4:=k1.cellAt c40 id;have h1:=h.calm k1;have s6:w1.cell? ⟨S.sp,6,none⟩=some (vI S.bM):=(h1.cells 6 _ rfl).1;have x0:w1.cell? ⟨(S.tx t).xp,0,none⟩=some (vI (t:Int)):=(h1.ny ht 0 _ rfl).1;clear v1 v2 c40 H1 H2 H3 UB
 by_cases EP:hn=0
 ·have e0:((hn:Int)==0)=true:=by simp[EP]
  replace EP:=af EP
  by_cases Y7:S.bM=(t:Int)
  ·have eh:(S.bM != (t:Int))=false:=by simp[Y7]
   go_wp2_with fail
   go_quiet (fail)
   have kq:Calm w1 (w1.drewN nq):=aq.drewN nq;generalize w1.drewN nq=wq at *;clear EP e0;have RS:wq.cell? ⟨b3,0,none⟩=some (pV S.sp):=kq.cellAt z3 id;have UB:wq.cell? ⟨(S.tx t).xp,4,none⟩=some (pV (S.tx t).lp):=kq.cellAt c4 id;obtain⟨M2,G1,G2,G3⟩:=h1.calm kq;go_wp2_with fail
   refine(xq G1 (G2.x t ht).l (by have:=vz.f;omega)).mono ?_;rintro e w4 ⟨rv,rfl,r1,r2,r3⟩;obtain⟨ra,rc,rfl⟩:=aG r1;have K4:Calm w w4:=k1.trans (kq.trans r3);have z4:=kq.trans r3 |>.cellAt z3 id;have h4:=h1.calm (kq.trans r3);obtain⟨m,hm⟩:=au ((S.tx t).L.reads.length);have hrd:=vz.l.r;have rP:m<=200:=by have:=vz.f;omega
   have jF:Hid (∀i,i<m->∃g,ra=some ⟨g,0,none⟩/\w4.cell? ⟨g,i,none⟩=some (vI ((S.tx t).L.reads.getD i 0:Nat))):=λi hi=>by
    obtain⟨g,c,hv,ho⟩:=ke r1 (by decide) (show i<(S.tx t).L.reads.length by omega);have h0:=(ho 0 (by decide)).1;rw[show i*1+0=i by omega] at h0;injection hv with e1 e2 e3
    refine⟨g,e1,h0.trans ?_⟩;have EM:i<(S.tx t).L.reads.length:=by omega
    simp[aS,EM]
   rw[hm];rw[hm] at r1 r2;have Bg:=af (az dR.out (kq.trans r3) (λ_ _=>id));clear RS UB r1 r2 G1 G2 G3;replace hm:=af hm;go_wp2_with fail
   go_loopw [40] (λz wr=>∃i:Nat,i<=m/\z=vI i/\Hid (Calm w4 wr/\∀j,j<i->∀o,S.D.A.ob ((S.tx t).L.reads.getD j 0)=some o->gO (vw S) t o)) (λz _=>m-(intOf z).toNat)
   case atStart=>exact⟨0,by omega,rfl,aq,λj hj=>by omega⟩
   case round=>
    obtain⟨i,hi,rfl,J2⟩:=hrel;have hw:=af J2.out.1;have cH:=af J2.out.2;clear J2;have z5:=hw.out.cellAt z4 id
    by_cases aZ:i<m
    ·obtain⟨g,rfl,hcell⟩:=jF.out i aZ;have e5:=hw.out.cellAt hcell id;obtain⟨a,sV⟩:=au ((S.tx t).L.reads.getD i 0);have ha:a<=131072:=by rw[<-sV];exact hrd _ (get_mem 0 (by have:=hm.out;omega))
     rw[sV] at e5;have Tm:=ue (h4.calm hw.out) ht hl ha;go_wp2_with fail
     refine Tm.mono ?_;rintro e w5 ⟨⟨b,rfl,ES⟩,c5⟩;have cw:=af (hw.out.trans c5)
     cases b with
     | true=>
       have hP:iK w τ s S (Vw S (vE t)) (.returned (.tuple #[vI 0,vI 141])) w5:=⟨0,141,rfl,by decide,by decide,Nx.calm h (K4.trans cw.out) (.inr (.inl ⟨rfl,rfl,rfl⟩))⟩;replace hP:=af hP;clear Tm c5 e5 hcell sV ES;go_wp2
       go_ret2
       exact hP.out
     | false=>
       have cw9:Hid (Calm w4 w5/\∀j,j<i+1->∀o,S.D.A.ob ((S.tx t).L.reads.getD j 0)=some o->gO (vw S) t o):=⟨cw.out,λj hj o ho=>by
        by_cases ej:j=i
        ·subst ej;rw[sV] at ho;exact ES rfl o ho
        ·exact cH.out j (by omega) o ho⟩
       clear Tm c5 e5 hcell sV ES cH cw;go_wp2;exact⟨⟨i+1,by omega,rfl,cw9⟩,by simp[intOf];omega⟩
    ·obtain rfl:i=m:=by omega
     have h5:=h4.calm hw.out;have kc:=(h5.cells 2 _ rfl).1;have Ye:=B_ h5 oL
     have JR:Hid (∀a∈((vw S).tx t).reads,∀o,(vw S).ob a=some o->gO (vw S) t o):=λa ha o ho=>by
      obtain⟨j,hj,rfl⟩:=List.getElem_of_mem (show a∈(S.tx t).L.reads from ha);refine cH.out j (by have:=hm.out;omega) o ?_;rw[aS,jI hj];exact ho
     clear cH;go_wp2_with fail
     refine Ye.mono ?_;rintro e w6 ⟨bk,rfl,iX,S6,p1,p2,p3,p4⟩;obtain⟨v,H_⟩:=au (S.now+1:Nat);rw[H_] at p4 ⊢;have hv:v<=1099511627776:=by have:=p1.ok.ck;rw[p4] at this;exact this.2.2
     replace H_:=af H_;clear Ye kc jF z4;have z6:=(p2.own ((o3.calm K4).calm hw.out) (by rw[show τ b3=τ b3 from rfl];exact t3)).1;have K6:aF w τ w6 iX:=(aF.calm τ (K4.trans hw.out)).trans p2;have hinv:Hid (∃iT Si,St w6 iT s Si/\aF w6 iX w6 iT/\Fix S Si/\Si.bB=S.bB/\Si.now=v/\vw Si=((S.tx t).L.holds.take 0).foldl (λ(σ':PS) (h:Hd)=>σ'.mod h.at_ (λo=>{ o with snd:=2*v })) { vw S with now:=v }):=⟨iX,S6,p1,aF.refl _ _,p3,by rw[p4],by rw[p4],by rw[p4];rfl⟩
     have Bh:Hid (∀j,j<hn->∃g,ha=some ⟨g,0,none⟩/\500<=iX g/\Own w6 g (j*2) (vI ((S.tx t).L.holds.getD j ⟨0,0⟩).at_)/\Own w6 g (j*2+1) (vI ((S.tx t).L.holds.getD j ⟨0,0⟩).bt)):=λj hj=>by
      obtain⟨g,c,eC,ho⟩:=bz sY (by decide) (show w4.ownsRow 0 219 2 (.slice ha hn Nz) (S.tx t).L.holds.length ((S.tx t).L.holds.flatMap Ct) by rw[EL.out];exact Bg.out) ⟨0,0⟩ (i:=j) (by have:=EL.out;omega);injection eC with e1 e2 e3
      have tg:500<=τ g:=by rw[fr g (Ia.out g (by rw[e1];rfl))];omega
      have lt4:g<w4.heap.size:=(ho 0 _ rfl).lt;refine⟨g,e1,by rw[p2.tg g (by have:=hw.out.size;omega)];exact tg,?_⟩;have h0:=p2.own ((ho 0 _ rfl).calm hw.out) tg;have h1:=p2.own ((ho 1 _ rfl).calm hw.out) tg;rw[fj] at h0;exact⟨h0,h1⟩
     have t36:500<=iX b3:=by rw[p2.tg b3 (by have:=K4.size;have:=hw.out.size;have:=o3.lt;omega)];exact t3
     have OO:Own w6 b3 0 (pV S.sp):=p2.own ((o3.calm K4).calm hw.out) t3;clear p1 p2 p3 p4 h5 hw z5 z6 Bg;go_wp2_with fail
     go_loopw [59] (λz wr=>∃j:Nat,j<=hn/\z=vI j/\Hid (∃iT Si,St wr iT s Si/\aF w6 iX wr iT/\Fix S Si/\Si.bB=S.bB/\Si.now=v/\vw Si=((S.tx t).L.holds.take j).foldl (λ(σ':PS) (h:Hd)=>σ'.mod h.at_ (λo=>{ o with snd:=2*v })) { vw S with now:=v })) (λz _=>hn-(intOf z).toNat)
     case atStart=>exact⟨0,by omega,rfl,hinv⟩
     case round=>
      obtain⟨j,hj,rfl,Bs⟩:=hrel;clear hinv;obtain⟨iT,Si,m1,m2,m3,m4,m8,mR⟩:=Bs.out
      by_cases gJ:j<hn
      ·obtain⟨g,rfl,tg,og,Yb⟩:=Bh.out j gJ;obtain⟨xx,rR⟩:=au ((S.tx t).L.holds.getD j ⟨0,0⟩);have SL:xx∈(S.tx t).L.holds:=by rw[<-rR];exact get_mem _ (by have:=EL.out;omega)
       obtain⟨xa,xv⟩:=vz.l.h xx SL;have hdr:(S.tx t).L.holds.take (j+1)=(S.tx t).L.holds.take j++[xx]:=by rw[List.take_add_one,<-rR];simp[aS,show j<(S.tx t).L.holds.length by have:=EL.out;omega]
       have jv:Hid (∀σ:PS,σ=(vw Si).mod xx.at_ (λo=>{ o with snd:=2*v })->σ=((S.tx t).L.holds.take (j+1)).foldl (λ(σ':PS) (h:Hd)=>σ'.mod h.at_ (λo=>{ o with snd:=2*v })) { vw S with now:=v }):=λσ e=>by rw[e,mR,hdr,List.foldl_append];rfl
       clear mR;have pG:Hid (v<=Si.now):=by show v<=Si.now;omega
       clear hdr;rw[rR] at og Yb;have u0:=(m2.own og tg).1;have u1:=(m2.own Yb tg).1;have u3:=(m2.own OO t36).1;obtain⟨ka,Yc⟩:=gL wr [vI xx.at_,vI xx.bt] 219;obtain⟨W5,mW⟩:=au (wr.alloc (.cells #[vI xx.at_,vI xx.bt] 219));rw[mW] at ka Yc;have u35:=ka.cellAt u3 id;have u8:=(Yc 0 _ rfl).1;have Ij:=oR (m1.calm ka) xa pG.out;rw[m3.sp] at Ij;go_wp2_with fail
       clear mW;refine Ij.mono ?_;rintro e w7 ⟨rfl,L4,S7,n1,n2,n3,n4,n5⟩;have XA:Hid (∃iT Si,St w7 iT s Si/\aF w6 iX w7 iT/\Fix S Si/\Si.bB=S.bB/\Si.now=v/\vw Si=((S.tx t).L.holds.take (j+1)).foldl (λ(σ':PS) (h:Hd)=>σ'.mod h.at_ (λo=>{ o with snd:=2*v })) { vw S with now:=v }):=⟨L4,S7,n1,m2.trans ((aF.calm iT ka).trans n2),m3.trans n3,n4.bB.trans m4,n4.now.trans m8,jv.out _ n5⟩;clear Ij n1 n2 n3 n4 n5 jv pG m1 m2 Bs u0 u1 u3 rR;go_wp2
       first|exact⟨⟨j+1,by omega,rfl,XA⟩,by simp[intOf];omega⟩|exact⟨⟨j+1,by omega,rfl,XA⟩,by simp[intOf]⟩
      ·obtain rfl:j=hn:=by omega
       rw[List.take_of_length_le (by have:=EL.out;omega)] at mR
       have Gp:Hid (∀S':aY,vw S'=(vw Si).fin t->vE t v 0 (vw S) (vw S')):=λS' e=>by
        refine .inr (.inr ⟨rfl,by rw[<-H_.out];rfl,JR.out,?_⟩);rw[e,mR];unfold PS.Re;rw[show(vw S).now+1=v from H_.out];rfl
       clear mR JR;have pG:Hid (v<=Si.now):=by show v<=Si.now;omega
       have u3:=(m2.own OO t36).1;have JX:t<Si.bB.length:=by rw[m3.len];exact ht
       have Rn:Si.tx t=S.tx t:=by unfold aY.tx;rw[m4]
       have rL:=m1.cells;rw[m3.sp] at rL;have d6:wr.cell? ⟨S.sp,6,none⟩=some (vI Si.bM):=(rL 6 _ rfl).1;have d0:wr.cell? ⟨(S.tx t).xp,0,none⟩=some (vI (t:Int)):=by have:=(m1.ny JX 0 _ rfl).1;rw[Rn] at this;exact this
       have KK:=K6.trans m2;clear Bh Bs;go_wp2_with fail
       go_quiet (fail)
       have kz:Calm wr (wr.drewN nq):=aq.drewN nq
       by_cases R_:Si.bM=(t:Int)
       ·have eh2:(Si.bM==(t:Int))=true:=by simp[R_]
        have f6:=(rL 6 _ rfl).2;have f7:=(rL 7 _ rfl).2;have d7:=(rL 7 _ rfl).1;have lS:=rL.calm kz;have F1:Fr (λb=>b=S.sp) (wr.drewN nq) ((wr.drewN nq).setCell ⟨S.sp,6,none⟩ (vI (-1))):=(Fr.refl (λb=>b=S.sp) _).setCell (p:=⟨S.sp,6,none⟩) (.inl rfl) _;have AO:=lS.set 6 (vI (-1)) (by simp[aY.cs]);have F2:Fr (λb=>b=S.sp) (wr.drewN nq) (((wr.drewN nq).setCell ⟨S.sp,6,none⟩ (vI (-1))).setCell ⟨S.sp,7,none⟩ (vI (v:Int))):=F1.setCell (p:=⟨S.sp,7,none⟩) (.inl rfl) _;have AP:=AO.set 7 (vI (v:Int)) (by simp[aY.cs]);have y6:=(lS 6 _ rfl).1;have g6:=(lS 6 _ rfl).2;have y7:=(AO 7 _ rfl).1;have g7:=(AO 7 _ rfl).2;obtain⟨hz,SY⟩:=St.Fv (m1.calm kz) ⟨Si.qv,Si.qu,Si.next,-1,v⟩ (by rw[m3.sp];exact F2) (by rw[m3.sp];exact AP) rfl rfl (by show cL (-1);decide) (m1.ok.iv.eL _ pG.out m1.ok.iv.qu m1.ok.iv.nx);have TQ:=(SY.own ((m2.own OO t36).calm kz) (by rw[m2.tg _ OO.lt];exact t36)).1;have ez:(Si.eL ⟨Si.qv,Si.qu,Si.next,-1,v⟩).tx t=S.tx t:=Rn;have zX:=nZ hz (t:=t) JX;rw[ez,show(Si.eL ⟨Si.qv,Si.qu,Si.next,-1,v⟩).sp=S.sp from m3.sp] at zX;clear rL lS AO AP F1 F2 f6 f7 d7 d6 d0;go_wp2_with fail
        refine zX.mono ?_;rintro e w9 ⟨rfl,n9⟩;have hP:iK w τ s S (Vw S (vE t)) (.returned (.tuple #[vI (v:Int),vI 0])) w9:=⟨v,0,rfl,⟨by omega,by omega⟩,by decide,((n9.step ((KK.trans (aF.calm iT kz)).trans SY) (m3.trans (Fix.eL Si _)))).mono (aM _) (λS' e=>Gp.out S' e.2)⟩;replace hP:=af hP;clear zX n9 hz SY TQ y6 g6 y7 g7;go_wp2
        go_ret2
        exact hP.out
       ·have eh2:(Si.bM==(t:Int))=false:=by simpa using R_
        have zX:=nZ (m1.calm kz) JX;rw[Rn,m3.sp] at zX;have TQ:=kz.cellAt u3 id;clear rL;go_wp2_with fail
        refine zX.mono ?_;rintro e w9 ⟨rfl,n9⟩;have hP:iK w τ s S (Vw S (vE t)) (.returned (.tuple #[vI (v:Int),vI 0])) w9:=⟨v,0,rfl,⟨by omega,by omega⟩,by decide,(n9.step (KK.trans (aF.calm iT kz)) m3).mono (aM _) (λS' e=>Gp.out S' e.2)⟩;replace hP:=af hP;clear zX n9 TQ d6 d0;go_wp2
        go_ret2
        exact hP.out
  ·have eh:(S.bM != (t:Int))=true:=by simp[bne,Y7]
   go_wp2_with fail
   go_quiet (fail)
   have kq:Calm w1 (w1.drewN nq):=aq.drewN nq;have z4:=kq.cellAt z3 id;have Dg:(S.tx t).L.holds=[]:=List.length_eq_zero_iff.1 (by have:=EL.out;have:=EP.out;omega);replace Dg:=af Dg;have zX:=nZ (h1.calm kq) ht;go_wp2_with fail
   refine zX.mono ?_;rintro e w9 ⟨rfl,n9⟩;have hP:iK w τ s S (Vw S (vE t)) (.returned (.tuple #[vI 0,vI 0])) w9:=⟨0,0,rfl,by decide,by decide,(n9.step (aF.calm τ (k1.trans kq)) (Fix.refl S)).mono (aM _) (λ_ e=>.inl ⟨rfl,rfl,Dg.out,e.2⟩)⟩;replace hP:=af hP;clear zX n9 z4;go_wp2
   go_ret2
   exact hP.out
 ·have e0:((hn:Int)==0)=false:=by simp;omega
  go_wp2_with fail
  go_quiet (fail)
  have kq:Calm w1 (w1.drewN nq):=aq.drewN nq;generalize w1.drewN nq=wq at *;clear EP e0;have RS:wq.cell? ⟨b3,0,none⟩=some (pV S.sp):=kq.cellAt z3 id;have UB:wq.cell? ⟨(S.tx t).xp,4,none⟩=some (pV (S.tx t).lp):=kq.cellAt c4 id;obtain⟨M2,G1,G2,G3⟩:=h1.calm kq;go_wp2_with fail
  refine(xq G1 (G2.x t ht).l (by have:=vz.f;omega)).mono ?_;rintro e w4 ⟨rv,rfl,r1,r2,r3⟩;obtain⟨ra,rc,rfl⟩:=aG r1;have K4:Calm w w4:=k1.trans (kq.trans r3);have z4:=kq.trans r3 |>.cellAt z3 id;have h4:=h1.calm (kq.trans r3);obtain⟨m,hm⟩:=au ((S.tx t).L.reads.length);have hrd:=vz.l.r;have rP:m<=200:=by have:=vz.f;omega
  have jF:Hid (∀i,i<m->∃g,ra=some ⟨g,0,none⟩/\w4.cell? ⟨g,i,none⟩=some (vI ((S.tx t).L.reads.getD i 0:Nat))):=λi hi=>by
   obtain⟨g,c,hv,ho⟩:=ke r1 (by decide) (show i<(S.tx t).L.reads.length by omega);have h0:=(ho 0 (by decide)).1;rw[show i*1+0=i by omega] at h0;injection hv with e1 e2 e3
   refine⟨g,e1,h0.trans ?_⟩;have EM:i<(S.tx t).L.reads.length:=by omega
   simp[aS,EM]
  rw[hm];rw[hm] at r1 r2;have Bg:=af (az dR.out (kq.trans r3) (λ_ _=>id));clear RS UB r1 r2 G1 G2 G3;replace hm:=af hm;go_wp2_with fail
  go_loopw [40] (λz wr=>∃i:Nat,i<=m/\z=vI i/\Hid (Calm w4 wr/\∀j,j<i->∀o,S.D.A.ob ((S.tx t).L.reads.getD j 0)=some o->gO (vw S) t o)) (λz _=>m-(intOf z).toNat)
  case atStart=>exact⟨0,by omega,rfl,aq,λj hj=>by omega⟩
  case round=>
   obtain⟨i,hi,rfl,J2⟩:=hrel;have hw:=af J2.out.1;have cH:=af J2.out.2;clear J2;have z5:=hw.out.cellAt z4 id
   by_cases aZ:i<m
   ·obtain⟨g,rfl,hcell⟩:=jF.out i aZ;have e5:=hw.out.cellAt hcell id;obtain⟨a,sV⟩:=au ((S.tx t).L.reads.getD i 0);have ha:a<=131072:=by rw[<-sV];exact hrd _ (get_mem 0 (by have:=hm.out;omega))
    rw[sV] at e5;have Tm:=ue (h4.calm hw.out) ht hl ha;go_wp2_with fail
    refine Tm.mono ?_;rintro e w5 ⟨⟨b,rfl,ES⟩,c5⟩;have cw:=af (hw.out.trans c5)
    cases b with
    | true=>
      have hP:iK w τ s S (Vw S (vE t)) (.returned (.tuple #[vI 0,vI 141])) w5:=⟨0,141,rfl,by decide,by decide,Nx.calm h (K4.trans cw.out) (.inr (.inl ⟨rfl,rfl,rfl⟩))⟩;replace hP:=af hP;clear Tm c5 e5 hcell sV ES;go_wp2
      go_ret2
      exact hP.out
    | false=>
      have cw9:Hid (Calm w4 w5/\∀j,j<i+1->∀o,S.D.A.ob ((S.tx t).L.reads.getD j 0)=some o->gO (vw S) t o):=⟨cw.out,λj hj o ho=>by
       by_cases ej:j=i
       ·subst ej;rw[sV] at ho;exact ES rfl o ho
       ·exact cH.out j (by omega) o ho⟩
      clear Tm c5 e5 hcell sV ES cH cw;go_wp2;exact⟨⟨i+1,by omega,rfl,cw9⟩,by simp[intOf];omega⟩
   ·obtain rfl:i=m:=by omega
    have h5:=h4.calm hw.out;have kc:=(h5.cells 2 _ rfl).1;have Ye:=B_ h5 oL
    have JR:Hid (∀a∈((vw S).tx t).reads,∀o,(vw S).ob a=some o->gO (vw S) t o):=λa ha o ho=>by
     obtain⟨j,hj,rfl⟩:=List.getElem_of_mem (show a∈(S.tx t).L.reads from ha);refine cH.out j (by have:=hm.out;omega) o ?_;rw[aS,jI hj];exact ho
    clear cH;go_wp2_with fail
    refine Ye.mono ?_;rintro e w6 ⟨bk,rfl,iX,S6,p1,p2,p3,p4⟩;obtain⟨v,H_⟩:=au (S.now+1:Nat);rw[H_] at p4 ⊢;have hv:v<=1099511627776:=by have:=p1.ok.ck;rw[p4] at this;exact this.2.2
    replace H_:=af H_;clear Ye kc jF z4;have z6:=(p2.own ((o3.calm K4).calm hw.out) (by rw[show τ b3=τ b3 from rfl];exact t3)).1;have K6:aF w τ w6 iX:=(aF.calm τ (K4.trans hw.out)).trans p2;have hinv:Hid (∃iT Si,St w6 iT s Si/\aF w6 iX w6 iT/\Fix S Si/\Si.bB=S.bB/\Si.now=v/\vw Si=((S.tx t).L.holds.take 0).foldl (λ(σ':PS) (h:Hd)=>σ'.mod h.at_ (λo=>{ o with snd:=2*v })) { vw S with now:=v }):=⟨iX,S6,p1,aF.refl _ _,p3,by rw[p4],by rw[p4],by rw[p4];rfl⟩
    have Bh:Hid (∀j,j<hn->∃g,ha=some ⟨g,0,none⟩/\500<=iX g/\Own w6 g (j*2) (vI ((S.tx t).L.holds.getD j ⟨0,0⟩).at_)/\Own w6 g (j*2+1) (vI ((S.tx t).L.holds.getD j ⟨0,0⟩).bt)):=λj hj=>by
     obtain⟨g,c,eC,ho⟩:=bz sY (by decide) (show w4.ownsRow 0 219 2 (.slice ha hn Nz) (S.tx t).L.holds.length ((S.tx t).L.holds.flatMap Ct) by rw[EL.out];exact Bg.out) ⟨0,0⟩ (i:=j) (by have:=EL.out;omega);injection eC with e1 e2 e3
     have tg:500<=τ g:=by rw[fr g (Ia.out g (by rw[e1];rfl))];omega
     have lt4:g<w4.heap.size:=(ho 0 _ rfl).lt;refine⟨g,e1,by rw[p2.tg g (by have:=hw.out.size;omega)];exact tg,?_⟩;have h0:=p2.own ((ho 0 _ rfl).calm hw.out) tg;have h1:=p2.own ((ho 1 _ rfl).calm hw.out) tg;rw[fj] at h0;exact⟨h0,h1⟩
    have t36:500<=iX b3:=by rw[p2.tg b3 (by have:=K4.size;have:=hw.out.size;have:=o3.lt;omega)];exact t3
    have OO:Own w6 b3 0 (pV S.sp):=p2.own ((o3.calm K4).calm hw.out) t3;clear p1 p2 p3 p4 h5 hw z5 z6 Bg;go_wp2_with fail
    go_loopw [59] (λz wr=>∃j:Nat,j<=hn/\z=vI j/\Hid (∃iT Si,St wr iT s Si/\aF w6 iX wr iT/\Fix S Si/\Si.bB=S.bB/\Si.now=v/\vw Si=((S.tx t).L.holds.take j).foldl (λ(σ':PS) (h:Hd)=>σ'.mod h.at_ (λo=>{ o with snd:=2*v })) { vw S with now:=v })) (λz _=>hn-(intOf z).toNat)
    case atStart=>exact⟨0,by omega,rfl,hinv⟩
    case round=>
     obtain⟨j,hj,rfl,Bs⟩:=hrel;clear hinv;obtain⟨iT,Si,m1,m2,m3,m4,m8,mR⟩:=Bs.out
     by_cases gJ:j<hn
     ·obtain⟨g,rfl,tg,og,Yb⟩:=Bh.out j gJ;obtain⟨xx,rR⟩:=au ((S.tx t).L.holds.getD j ⟨0,0⟩);have SL:xx∈(S.tx t).L.holds:=by rw[<-rR];exact get_mem _ (by have:=EL.out;omega)
      obtain⟨xa,xv⟩:=vz.l.h xx SL;have hdr:(S.tx t).L.holds.take (j+1)=(S.tx t).L.holds.take j++[xx]:=by rw[List.take_add_one,<-rR];simp[aS,show j<(S.tx t).L.holds.length by have:=EL.out;omega]
      have jv:Hid (∀σ:PS,σ=(vw Si).mod xx.at_ (λo=>{ o with snd:=2*v })->σ=((S.tx t).L.holds.take (j+1)).foldl (λ(σ':PS) (h:Hd)=>σ'.mod h.at_ (λo=>{ o with snd:=2*v })) { vw S with now:=v }):=λσ e=>by rw[e,mR,hdr,List.foldl_append];rfl
      clear mR;have pG:Hid (v<=Si.now):=by show v<=Si.now;omega
      clear hdr;rw[rR] at og Yb;have u0:=(m2.own og tg).1;have u1:=(m2.own Yb tg).1;have u3:=(m2.own OO t36).1;obtain⟨ka,Yc⟩:=gL wr [vI xx.at_,vI xx.bt] 219;obtain⟨W5,mW⟩:=au (wr.alloc (.cells #[vI xx.at_,vI xx.bt] 219));rw[mW] at ka Yc;have u35:=ka.cellAt u3 id;have u8:=(Yc 0 _ rfl).1;have Ij:=oR (m1.calm ka) xa pG.out;rw[m3.sp] at Ij;go_wp2_with fail
      clear mW;refine Ij.mono ?_;rintro e w7 ⟨rfl,L4,S7,n1,n2,n3,n4,n5⟩;have XA:Hid (∃iT Si,St w7 iT s Si/\aF w6 iX w7 iT/\Fix S Si/\Si.bB=S.bB/\Si.now=v/\vw Si=((S.tx t).L.holds.take (j+1)).foldl (λ(σ':PS) (h:Hd)=>σ'.mod h.at_ (λo=>{ o with snd:=2*v })) { vw S with now:=v }):=⟨L4,S7,n1,m2.trans ((aF.calm iT ka).trans n2),m3.trans n3,n4.bB.trans m4,n4.now.trans m8,jv.out _ n5⟩;clear Ij n1 n2 n3 n4 n5 jv pG m1 m2 Bs u0 u1 u3 rR;go_wp2
      first|exact⟨⟨j+1,by omega,rfl,XA⟩,by simp[intOf];omega⟩|exact⟨⟨j+1,by omega,rfl,XA⟩,by simp[intOf]⟩
     ·obtain rfl:j=hn:=by omega
      rw[List.take_of_length_le (by have:=EL.out;omega)] at mR
      have Gp:Hid (∀S':aY,vw S'=(vw Si).fin t->vE t v 0 (vw S) (vw S')):=λS' e=>by
       refine .inr (.inr ⟨rfl,by rw[<-H_.out];rfl,JR.out,?_⟩);rw[e,mR];unfold PS.Re;rw[show(vw S).now+1=v from H_.out];rfl
      clear mR JR;have pG:Hid (v<=Si.now):=by show v<=Si.now;omega
      have u3:=(m2.own OO t36).1;have JX:t<Si.bB.length:=by rw[m3.len];exact ht
      have Rn:Si.tx t=S.tx t:=by unfold aY.tx;rw[m4]
      have rL:=m1.cells;rw[m3.sp] at rL;have d6:wr.cell? ⟨S.sp,6,none⟩=some (vI Si.bM):=(rL 6 _ rfl).1;have d0:wr.cell? ⟨(S.tx t).xp,0,none⟩=some (vI (t:Int)):=by have:=(m1.ny JX 0 _ rfl).1;rw[Rn] at this;exact this
      have KK:=K6.trans m2;clear Bh Bs;go_wp2_with fail
      go_quiet (fail)
      have kz:Calm wr (wr.drewN nq):=aq.drewN nq
      by_cases R_:Si.bM=(t:Int)
      ·have eh2:(Si.bM==(t:Int))=true:=by simp[R_]
       have f6:=(rL 6 _ rfl).2;have f7:=(rL 7 _ rfl).2;have d7:=(rL 7 _ rfl).1;have lS:=rL.calm kz;have F1:Fr (λb=>b=S.sp) (wr.drewN nq) ((wr.drewN nq).setCell ⟨S.sp,6,none⟩ (vI (-1))):=(Fr.refl (λb=>b=S.sp) _).setCell (p:=⟨S.sp,6,none⟩) (.inl rfl) _;have AO:=lS.set 6 (vI (-1)) (by simp[aY.cs]);have F2:Fr (λb=>b=S.sp) (wr.drewN nq) (((wr.drewN nq).setCell ⟨S.sp,6,none⟩ (vI (-1))).setCell ⟨S.sp,7,none⟩ (vI (v:Int))):=F1.setCell (p:=⟨S.sp,7,none⟩) (.inl rfl) _;have AP:=AO.set 7 (vI (v:Int)) (by simp[aY.cs]);have y6:=(lS 6 _ rfl).1;have g6:=(lS 6 _ rfl).2;have y7:=(AO 7 _ rfl).1;have g7:=(AO 7 _ rfl).2;obtain⟨hz,SY⟩:=St.Fv (m1.calm kz) ⟨Si.qv,Si.qu,Si.next,-1,v⟩ (by rw[m3.sp];exact F2) (by rw[m3.sp];exact AP) rfl rfl (by show cL (-1);decide) (m1.ok.iv.eL _ pG.out m1.ok.iv.qu m1.ok.iv.nx);have TQ:=(SY.own ((m2.own OO t36).calm kz) (by rw[m2.tg _ OO.lt];exact t36)).1;have ez:(Si.eL ⟨Si.qv,Si.qu,Si.next,-1,v⟩).tx t=S.tx t:=Rn;have zX:=nZ hz (t:=t) JX;rw[ez,show(Si.eL ⟨Si.qv,Si.qu,Si.next,-1,v⟩).sp=S.sp from m3.sp] at zX;clear rL lS AO AP F1 F2 f6 f7 d7 d6 d0;go_wp2_with fail
       refine zX.mono ?_;rintro e w9 ⟨rfl,n9⟩;have hP:iK w τ s S (Vw S (vE t)) (.returned (.tuple #[vI (v:Int),vI 0])) w9:=⟨v,0,rfl,⟨by omega,by omega⟩,by decide,((n9.step ((KK.trans (aF.calm iT kz)).trans SY) (m3.trans (Fix.eL Si _)))).mono (aM _) (λS' e=>Gp.out S' e.2)⟩;replace hP:=af hP;clear zX n9 hz SY TQ y6 g6 y7 g7;go_wp2
       go_ret2
       exact hP.out
      ·have eh2:(Si.bM==(t:Int))=false:=by simpa using R_
       have zX:=nZ (m1.calm kz) JX;rw[Rn,m3.sp] at zX;have TQ:=kz.cellAt u3 id;clear rL;go_wp2_with fail
       refine zX.mono ?_;rintro e w9 ⟨rfl,n9⟩;have hP:iK w τ s S (Vw S (vE t)) (.returned (.tuple #[vI (v:Int),vI 0])) w9:=⟨v,0,rfl,⟨by omega,by omega⟩,by decide,(n9.step (KK.trans (aF.calm iT kz)) m3).mono (aM _) (λS' e=>Gp.out S' e.2)⟩;replace hP:=af hP;clear zX n9 TQ d6 d0;go_wp2
       go_ret2
       exact hP.out
theorem CM(h:St w τ s S){t:Nat}(ht:t<S.bB.length)(hl:(S.tx t).live=true)(oL:(S.now:Int)<S.aW){b3:Nat}(o3:Own w b3 0 (pV S.sp))(t3:500<=τ b3) :
 aL prog 122 #[pV (S.tx t).xp,aR b3] w (iK w τ s S (Vw S (vE t))):=by
 obtain⟨τ0,hf,tk,fr⟩:=h.fresh;exact(Aw hf fr ht hl oL o3 (by rw[tk _ o3.lt];exact t3)).mono λe w' hp=>hp.dp tk
end
