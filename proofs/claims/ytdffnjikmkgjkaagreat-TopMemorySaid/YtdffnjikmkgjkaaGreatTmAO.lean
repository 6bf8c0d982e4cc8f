/- TopMemory: a part of its proof (StB StC StD). -/
import Derived.Test.YtdffnjikmkgjkaaGreatTmAA
import Derived.Test.YtdffnjikmkgjkaaGreatTmAN
import Derived.Test.YtdffnjikmkgjkaaGreatTmAM
set_option linter.unusedSimpArgs false
set_option linter.unusedVariables false
set_option maxHeartbeats 4000000
namespace Go.Proofs.YtdffnjikmkgjkaaGreat
section
open Go.RowKit Go.Shelf
variable {w:World}{τ:Nat→Nat}{s q:Nat}{S:StD}
set_option maxRecDepth 4000 in
theorem put1_is (h:St w τ s q S){t:Nat}(ht:t<S.txs.length){a:Nat}(ha:a≤131072){k:Int}(hk:I64 k){b:Nat}(hb:b≤131072){b3 b5 b7 b9:Nat}
    (o3:Own w b3 0 (pV S.sp)) (o5:Own w b5 0 (vI (a:Int))) (o7:Own w b7 0 (vI k)) (o9:Own w b9 0 (vI (b:Int))) :
    Calls Tryz.prog 144 #[pV (S.tx t).xp,.pointer (some ⟨b9,0,none⟩),.pointer (some ⟨b3,0,none⟩),.pointer (some ⟨b5,0,none⟩),.pointer (some ⟨b7,0,none⟩)] w (ClP w τ s q S NumR):=by
  have hmf:Hid (∀ (fn:Fn) (first cap:Array Value) (w:World),(Instr.makeFunc fn first cap).run Tryz.prog w = .ok (.func fn first cap) w):=fun _ _ _ _=>rfl;have y3:=o3.1;have y5:=o5.1;have y7:=o7.1;have y9:=o9.1
  by_cases hb0:b=0
  · subst hb0;go_enter Tryz.func144,Tryz.ntmps144;go_wp2_with fail
    go_quiet (fail)
    have hW:St (w.drewN nq) τ s q S:=h.calm ((Fr.refl _ _).drewN nq);have cW:Calm w (w.drewN nq):=(Fr.refl _ _).drewN nq;have z0:=cW.cellAt y3 id;have z1:=cW.cellAt y5 id;have z2:=cW.cellAt y7 id;have z4:=cW.cellAt y9 id;clear y3 y5 y7 y9;have y3:=z0;have y5:=z1;have y7:=z2;have y9:=z4;clear z0 z1 z2 z4;generalize w.drewN nq=W at *;obtain⟨ka,og⟩:=newL W [vI 1,vI (a:Int),vI k,vI 0] 191;obtain⟨w1,hw1⟩:∃w1,W.alloc (.cells #[vI 1,vI (a:Int),vI k,vI 0] 191)=w1:=⟨_,rfl⟩;rw[hw1] at ka og;replace hw1:=hid hw1;have z3:=ka.cellAt y3 id;have z9:=ka.cellAt y9 id;have c0:=(((hW.calm ka).cells 0 _ rfl).1);obtain⟨g0,g1,g2,g3⟩:=OwnL.ce4 og;have kd:Calm w1 w1.drew:=(Fr.refl _ _).drew;have och:=change_0 ((hW.calm ka).calm kd) ht ha hk (b:=0) hb;go_wp2_with fail
    rw[hw1.out];refine wp_region_helds 14 14 (fun w'=>Calm w1 w') (by kernel_rfl) (by kernel_rfl) ((Fr.refl _ _).drew) ?_;refine heldList_step (pV S.sp) rfl (fun w' hw'=>?_) (fun _ _ _ h=>h) ?_
    · have e1:=hw'.cellAt z3 id;simp[go_sem,e1]
    refine heldList_step (pV (S.tx t).xp) rfl (fun w' hw'=>?_) (fun _ _ _ h=>h) ?_
    · simp[go_sem]
    refine heldList_step (.agg #[vI 1,vI (a:Int),vI k,vI 0]) rfl (fun w' hw'=>?_) (fun _ _ _ h=>h) ?_
    · have e0:=hw'.cellAt g0 id;have e1:=hw'.cellAt g1 id;have e2:=hw'.cellAt g2 id;have e3:=hw'.cellAt g3 id;simp[go_sem,e0,e1,e2,e3]
    refine heldList_step (pV S.sp) rfl (fun w' hw'=>?_) (fun _ _ _ h=>h) ?_
    · have e1:=hw'.cellAt z3 id;simp[go_sem,e1]
    refine heldList_step (pV S.sp) rfl (fun w' hw'=>?_) (fun _ _ _ h=>h) ?_
    · simp[go_sem]
    refine heldList_step (.pointer (some ⟨S.sp,0,none⟩)) rfl (fun w' hw'=>?_) (fun _ _ _ h=>h) ?_
    · simp[go_sem]
    refine heldList_step (pV S.D.B.hp) rfl (fun w' hw'=>?_) (fun _ _ _ h=>h) ?_
    · have e1:=hw'.cellAt c0 id;simp[go_sem,e1]
    refine heldList_step (.func (.func 138) #[pV S.D.B.hp] #[]) rfl (fun w' hw'=>?_) (fun _ _ _ h=>h) ?_
    · simp[go_sem,hmf.out]
    refine heldList_step (pV S.sp) rfl (fun w' hw'=>?_) (fun _ _ _ h=>h) ?_
    · have e1:=hw'.cellAt z3 id;simp[go_sem,e1]
    refine heldList_step (pV S.sp) rfl (fun w' hw'=>?_) (fun _ _ _ h=>h) ?_
    · simp[go_sem]
    refine heldList_step (.pointer (some ⟨S.sp,0,none⟩)) rfl (fun w' hw'=>?_) (fun _ _ _ h=>h) ?_
    · simp[go_sem]
    refine heldList_step (pV S.D.B.hp) rfl (fun w' hw'=>?_) (fun _ _ _ h=>h) ?_
    · have e1:=hw'.cellAt c0 id;simp[go_sem,e1]
    refine heldList_step (.func (.func 136) #[pV S.D.B.hp] #[]) rfl (fun w' hw'=>?_) (fun _ _ _ h=>h) ?_
    · simp[go_sem,hmf.out]
    refine heldList_step (vI ((0:Nat):Int)) rfl (fun w' hw'=>?_) (fun _ _ _ h=>h) ?_
    · have e1:=hw'.cellAt z9 id;simp[go_sem,e1]
    simp only[heldList,Nat.sub_self,heldSeq];go_wp2_with fail
    refine och.mono ?_;rintro e w5 ⟨x,rfl,hx,hx1,n5⟩;have hP:ClP w τ s q S NumR (.returned (.tuple #[vI 0,vI x])) w5:=⟨0,x,rfl,by decide,hx,(n5.calmL (cW.trans (ka.trans kd))).mono (Nat.le_refl _) (Nat.le_refl _) fun _ _=>hx1⟩;replace hP:=hid hP;clear och n5 z3 z9 c0 g0 g1 g2 g3;go_wp2
    go_ret2
    exact hP.out
  · have hbe:((b:Int) != 0)=true:=by simp[bne];omega
    have c0:=(h.cells 0 _ rfl).1;obtain⟨X,hh⟩:=h.hat;have k1:Calm w w.drew:=(Fr.refl _ _).drew;have ohr:=here_is (hh.calm k1) (b:Int) ⟨by omega,by omega⟩;go_enter Tryz.func144,Tryz.ntmps144;go_wp2_with fail
    refine wp_region_any (by kernel_rfl) (wpAny_last [0,1,2,3,4,5,6,7] [8,9,10] (fun w'=>Calm w w') (by kernel_rfl) k1 ?_);refine pickList_step (vI (b:Int)) rfl rfl (fun w' hw'=>?_) (fun _ _ _ h=>h) ?_
    · have e1:=hw'.cellAt y9 id;simp[go_sem,e1]
    refine pickList_step (.bool true) rfl rfl (fun w' hw'=>?_) (fun _ _ _ h=>h) ?_
    · simp[go_sem,hb0]
    go_simp;refine pickList_step (.bool true) rfl rfl (fun w' hw'=>?_) (fun _ _ _ h=>h) ?_
    · simp[go_sem]
    go_simp;refine pickList_step (pV S.sp) rfl rfl (fun w' hw'=>?_) (fun _ _ _ h=>h) ?_
    · have e1:=hw'.cellAt y3 id;simp[go_sem,e1]
    go_simp;refine pickList_step (pV S.sp) rfl rfl (fun w' hw'=>?_) (fun _ _ _ h=>h) ?_
    · simp[go_sem]
    go_simp;refine pickList_step (.pointer (some ⟨S.sp,0,none⟩)) rfl rfl (fun w' hw'=>?_) (fun _ _ _ h=>h) ?_
    · simp[go_sem]
    go_simp;refine pickList_step (pV S.D.B.hp) rfl rfl (fun w' hw'=>?_) (fun _ _ _ h=>h) ?_
    · have e1:=hw'.cellAt c0 id;simp[go_sem,e1]
    go_simp;refine pickList_step (vI (b:Int)) rfl rfl (fun w' hw'=>?_) (fun _ _ _ h=>h) ?_
    · have e1:=hw'.cellAt y9 id;simp[go_sem,e1]
    go_simp
    try simp only[pickList]
    refine pickSeq_step rfl rfl ?_;go_wp2_with fail
    refine ohr.mono ?_;rintro e W ⟨rfl,k2⟩;have cW:Calm w W:=k1.trans k2;have hW:=h.calm cW;refine⟨cW,?_⟩;have z0:=cW.cellAt y3 id;have z1:=cW.cellAt y5 id;have z2:=cW.cellAt y7 id;have z4:=cW.cellAt y9 id;clear y3 y5 y7 y9 ohr;have y3:=z0;have y5:=z1;have y7:=z2;have y9:=z4;clear z0 z1 z2 z4
    by_cases hm:(b:Int)∈nI (plc S.D.A.cur)
    · have hd:decide ((b:Int)∈nI (plc S.D.A.cur))=true:=by simp only[hm,decide_true]
      rw[hd];replace hm:=hid hm;refine pickSeq_step rfl rfl ?_;unfold Oper.wp;go_simp
      try refine⟨cW,?_⟩
      refine pickSeq_step rfl rfl ?_;unfold Oper.wp;go_simp
      try refine⟨cW,?_⟩
      try simp only[pickSeq]
      obtain⟨ka,og⟩:=newL W [vI 1,vI (a:Int),vI k,vI 0] 191;obtain⟨w1,hw1⟩:∃w1,W.alloc (.cells #[vI 1,vI (a:Int),vI k,vI 0] 191)=w1:=⟨_,rfl⟩;rw[hw1] at ka og;replace hw1:=hid hw1;have z3:=ka.cellAt y3 id;have z9:=ka.cellAt y9 id;have c0:=(((hW.calm ka).cells 0 _ rfl).1);obtain⟨g0,g1,g2,g3⟩:=OwnL.ce4 og;have kd:Calm w1 w1.drew:=(Fr.refl _ _).drew;have och:=change_0 ((hW.calm ka).calm kd) ht ha hk (b:=b) hb;go_wp2_with fail
      rw[hw1.out];refine wp_region_helds 14 14 (fun w'=>Calm w1 w') (by kernel_rfl) (by kernel_rfl) ((Fr.refl _ _).drew) ?_;refine heldList_step (pV S.sp) rfl (fun w' hw'=>?_) (fun _ _ _ h=>h) ?_
      · have e1:=hw'.cellAt z3 id;simp[go_sem,e1]
      refine heldList_step (pV (S.tx t).xp) rfl (fun w' hw'=>?_) (fun _ _ _ h=>h) ?_
      · simp[go_sem]
      refine heldList_step (.agg #[vI 1,vI (a:Int),vI k,vI 0]) rfl (fun w' hw'=>?_) (fun _ _ _ h=>h) ?_
      · have e0:=hw'.cellAt g0 id;have e1:=hw'.cellAt g1 id;have e2:=hw'.cellAt g2 id;have e3:=hw'.cellAt g3 id;simp[go_sem,e0,e1,e2,e3]
      refine heldList_step (pV S.sp) rfl (fun w' hw'=>?_) (fun _ _ _ h=>h) ?_
      · have e1:=hw'.cellAt z3 id;simp[go_sem,e1]
      refine heldList_step (pV S.sp) rfl (fun w' hw'=>?_) (fun _ _ _ h=>h) ?_
      · simp[go_sem]
      refine heldList_step (.pointer (some ⟨S.sp,0,none⟩)) rfl (fun w' hw'=>?_) (fun _ _ _ h=>h) ?_
      · simp[go_sem]
      refine heldList_step (pV S.D.B.hp) rfl (fun w' hw'=>?_) (fun _ _ _ h=>h) ?_
      · have e1:=hw'.cellAt c0 id;simp[go_sem,e1]
      refine heldList_step (.func (.func 138) #[pV S.D.B.hp] #[]) rfl (fun w' hw'=>?_) (fun _ _ _ h=>h) ?_
      · simp[go_sem,hmf.out]
      refine heldList_step (pV S.sp) rfl (fun w' hw'=>?_) (fun _ _ _ h=>h) ?_
      · have e1:=hw'.cellAt z3 id;simp[go_sem,e1]
      refine heldList_step (pV S.sp) rfl (fun w' hw'=>?_) (fun _ _ _ h=>h) ?_
      · simp[go_sem]
      refine heldList_step (.pointer (some ⟨S.sp,0,none⟩)) rfl (fun w' hw'=>?_) (fun _ _ _ h=>h) ?_
      · simp[go_sem]
      refine heldList_step (pV S.D.B.hp) rfl (fun w' hw'=>?_) (fun _ _ _ h=>h) ?_
      · have e1:=hw'.cellAt c0 id;simp[go_sem,e1]
      refine heldList_step (.func (.func 136) #[pV S.D.B.hp] #[]) rfl (fun w' hw'=>?_) (fun _ _ _ h=>h) ?_
      · simp[go_sem,hmf.out]
      refine heldList_step (vI (b:Int)) rfl (fun w' hw'=>?_) (fun _ _ _ h=>h) ?_
      · have e1:=hw'.cellAt z9 id;simp[go_sem,e1]
      simp only[heldList,Nat.sub_self,heldSeq];go_wp2_with fail
      refine och.mono ?_;rintro e w5 ⟨x,rfl,hx,hx1,n5⟩;have hP:ClP w τ s q S NumR (.returned (.tuple #[vI 0,vI x])) w5:=⟨0,x,rfl,by decide,hx,(n5.calmL (cW.trans (ka.trans kd))).mono (Nat.le_refl _) (Nat.le_refl _) fun _ _=>hx1⟩;replace hP:=hid hP;clear och n5 z3 z9 c0 g0 g1 g2 g3;go_wp2
      go_ret2
      exact hP.out
    · have hd:decide ((b:Int)∈nI (plc S.D.A.cur))=false:=by simp only[hm,decide_false]
      rw[hd];replace hm:=hid hm;refine pickSeq_step rfl rfl ?_;unfold Oper.wp;go_simp
      try refine⟨cW,?_⟩
      refine pickSeq_step rfl rfl ?_;unfold Oper.wp;go_simp
      try refine⟨cW,?_⟩
      try simp only[pickSeq]
      have hP:ClP w τ s q S NumR (.returned (.tuple #[vI 0,vI 70])) W:=⟨0,70,rfl,by decide,by decide,Nx.calm h cW (by show(70:Int)≠100;decide)⟩;replace hP:=hid hP;go_wp2
      go_ret2
      exact hP.out
set_option maxRecDepth 4000 in
theorem write1_is (h:St w τ s q S){t:Nat}(ht:t<S.txs.length){a:Nat}(ha:a≤131072){k:Int}(hk:I64 k){b:Int}(hb:I64 b){b3 b5 b7 b9:Nat}
    (o3:Own w b3 0 (pV S.sp)) (o5:Own w b5 0 (vI (a:Int))) (o7:Own w b7 0 (vI k)) (o9:Own w b9 0 (vI b)) :
    Calls Tryz.prog 147 #[pV (S.tx t).xp,.pointer (some ⟨b5,0,none⟩),.pointer (some ⟨b7,0,none⟩),.pointer (some ⟨b3,0,none⟩),.pointer (some ⟨b9,0,none⟩)] w (ClP w τ s q S NumR):=by
  have hmf:Hid (∀ (fn:Fn) (first cap:Array Value) (w:World),(Instr.makeFunc fn first cap).run Tryz.prog w = .ok (.func fn first cap) w):=fun _ _ _ _=>rfl;have y3:=o3.1;have y5:=o5.1;have y7:=o7.1;have y9:=o9.1;have hW:=h;have cW:Calm w w:=Fr.refl _ _;go_enter Tryz.func147,Tryz.ntmps147;obtain⟨ka,og⟩:=newL w [vI 2,vI (a:Int),vI k,vI 0] 191;obtain⟨w1,hw1⟩:∃w1,w.alloc (.cells #[vI 2,vI (a:Int),vI k,vI 0] 191)=w1:=⟨_,rfl⟩;rw[hw1] at ka og;replace hw1:=hid hw1;have z3:=ka.cellAt y3 id;have z9:=ka.cellAt y9 id;have c0:=(((hW.calm ka).cells 0 _ rfl).1);obtain⟨g0,g1,g2,g3⟩:=OwnL.ce4 og;have kd:Calm w1 w1.drew:=(Fr.refl _ _).drew;have och:=change_1 ((hW.calm ka).calm kd) ht ha hk (b:=b) hb;go_wp2_with fail
  rw[hw1.out];refine wp_region_helds 14 14 (fun w'=>Calm w1 w') (by kernel_rfl) (by kernel_rfl) ((Fr.refl _ _).drew) ?_;refine heldList_step (pV S.sp) rfl (fun w' hw'=>?_) (fun _ _ _ h=>h) ?_
  · have e1:=hw'.cellAt z3 id;simp[go_sem,e1]
  refine heldList_step (pV (S.tx t).xp) rfl (fun w' hw'=>?_) (fun _ _ _ h=>h) ?_
  · simp[go_sem]
  refine heldList_step (.agg #[vI 2,vI (a:Int),vI k,vI 0]) rfl (fun w' hw'=>?_) (fun _ _ _ h=>h) ?_
  · have e0:=hw'.cellAt g0 id;have e1:=hw'.cellAt g1 id;have e2:=hw'.cellAt g2 id;have e3:=hw'.cellAt g3 id;simp[go_sem,e0,e1,e2,e3]
  refine heldList_step (pV S.sp) rfl (fun w' hw'=>?_) (fun _ _ _ h=>h) ?_
  · have e1:=hw'.cellAt z3 id;simp[go_sem,e1]
  refine heldList_step (pV S.sp) rfl (fun w' hw'=>?_) (fun _ _ _ h=>h) ?_
  · simp[go_sem]
  refine heldList_step (.pointer (some ⟨S.sp,0,none⟩)) rfl (fun w' hw'=>?_) (fun _ _ _ h=>h) ?_
  · simp[go_sem]
  refine heldList_step (pV S.D.B.hp) rfl (fun w' hw'=>?_) (fun _ _ _ h=>h) ?_
  · have e1:=hw'.cellAt c0 id;simp[go_sem,e1]
  refine heldList_step (.func (.func 146) #[pV S.D.B.hp] #[]) rfl (fun w' hw'=>?_) (fun _ _ _ h=>h) ?_
  · simp[go_sem,hmf.out]
  refine heldList_step (pV S.sp) rfl (fun w' hw'=>?_) (fun _ _ _ h=>h) ?_
  · have e1:=hw'.cellAt z3 id;simp[go_sem,e1]
  refine heldList_step (pV S.sp) rfl (fun w' hw'=>?_) (fun _ _ _ h=>h) ?_
  · simp[go_sem]
  refine heldList_step (.pointer (some ⟨S.sp,0,none⟩)) rfl (fun w' hw'=>?_) (fun _ _ _ h=>h) ?_
  · simp[go_sem]
  refine heldList_step (pV S.D.B.hp) rfl (fun w' hw'=>?_) (fun _ _ _ h=>h) ?_
  · have e1:=hw'.cellAt c0 id;simp[go_sem,e1]
  refine heldList_step (.func (.func 148) #[pV S.D.B.hp] #[]) rfl (fun w' hw'=>?_) (fun _ _ _ h=>h) ?_
  · simp[go_sem,hmf.out]
  refine heldList_step (vI b) rfl (fun w' hw'=>?_) (fun _ _ _ h=>h) ?_
  · have e1:=hw'.cellAt z9 id;simp[go_sem,e1]
  simp only[heldList,Nat.sub_self,heldSeq];go_wp2_with fail
  refine och.mono ?_;rintro e w5 ⟨x,rfl,hx,hx1,n5⟩;have hP:ClP w τ s q S NumR (.returned (.tuple #[vI 0,vI x])) w5:=⟨0,x,rfl,by decide,hx,(n5.calmL (cW.trans (ka.trans kd))).mono (Nat.le_refl _) (Nat.le_refl _) fun _ _=>hx1⟩;replace hP:=hid hP;clear och n5 z3 z9 c0 g0 g1 g2 g3;go_wp2
  go_ret2
  exact hP.out
end
section
open Go.RowKit Go.Shelf
variable {w:World}{τ:Nat→Nat}{s q:Nat}{S:StD}
theorem St.q_sp (h:St w τ s q S){b:Nat}(hb:InB S.qv b):b≠S.sp:=by
  obtain⟨M,h1,h2,h3⟩:=h;rintro rfl;exact h1.apart (t:=5) (u:=2) (by omega) (by rw[h2.q];exact hb) (by rw[h2.c];rfl)
theorem St.t_xp (h:St w τ s q S){t:Nat}(ht:t<S.txs.length){b:Nat}(hb:InB (S.tx t).tv b):b≠(S.tx t).xp:=by
  obtain⟨M,h1,h2,h3⟩:=h;rintro rfl;exact h1.apart (t:=10+8*t+6) (u:=10+8*t) (by omega) (by rw[(h2.x t ht).k];exact hb) (by rw[(h2.x t ht).c];rfl)
theorem ClP.retag {τ0:Nat→Nat}{R:Int→Int→StD→Prop}{e:Ending}{w':World}(h:ClP w τ0 s q S R e w')(tk:TagK w τ τ0):ClP w τ s q S R e w':=by
  obtain⟨v,x,h1,h2,h3,τ1,S1,k1,k2,k3,k4⟩:=h;exact⟨v,x,h1,h2,h3,τ1,S1,k1,k2.retag tk,k3,k4⟩
theorem St.takeQ (h:St w τ s q S){w':World}{g c:Nat}{x:It}{l:List It}(hq:S.qu=x::l)(hv:S.qv = .slice (some ⟨g,0,none⟩) (l.length+1) c)(hr:w'.ownsRow 0 112 2 (.slice (some ⟨g,0,none⟩) l.length c) l.length (l.flatMap itC))(f:Fr (fun b=>b=g) w w') :
    ∃τ' S',St (w'.setCell ⟨S.sp,4,none⟩ (.slice (some ⟨g,0,none⟩) l.length c)) τ' s q S'∧KeepT w τ (w'.setCell ⟨S.sp,4,none⟩ (.slice (some ⟨g,0,none⟩) l.length c)) τ'∧Fix S S'∧S'.tot+1≤q∧(∀k,S'.tx k=S.tx k):=by
  have hng:g≠S.sp:=h.q_sp (by rw[hv];rfl);have hc:=h.cells;have f2:Fr (fun b=>b=S.sp) w' (w'.setCell ⟨S.sp,4,none⟩ (.slice (some ⟨g,0,none⟩) l.length c)):=(Fr.refl (fun b=>b=S.sp) w').setCell (p:=⟨S.sp,4,none⟩) (.inl rfl) _;have htt:=h.ok.tt;have e1:S.tot=(l.length+1)+(S.txs.map fun x=>x.took.length).sum:=by unfold StD.tot;rw[hq];rfl
  obtain⟨τ',k1,k2⟩:=St.setS (q':=q) h ⟨.slice (some ⟨g,0,none⟩) l.length c,l,S.next,S.holder,S.ver⟩ ((f.mono (fun b _ e=>.inr (by rw[e,hv];rfl))).trans (f2.mono (fun b _ e=>.inl e)))
    ((hc.fr f (fun e=>hng e.symm)).set 4 _ (by simp[StD.cs])) (owns_frB hr f2 (fun b hb e=>by rw[←e] at hng;exact hng (InB.mk1 hb).symm)) (fun b hb=>.inl (by rw[InB.mk1 hb,hv];rfl))
    (fun i hi=>h.ok.qu i (by rw[hq];exact List.mem_cons_of_mem _ hi)) (by show l.length+(S.txs.map fun x=>x.took.length).sum≤q;omega) h.ok.nx h.ok.ho h.ok.ve (Nat.le_refl _)
  exact⟨τ',_,k1,k2,Fix.setS S _,by show(l.length+(S.txs.map fun x=>x.took.length).sum)+1≤q;omega,fun k=>rfl⟩
set_option maxRecDepth 4000 in
theorem take1_is0 (h:St w τ s q S)(hq6:q≤100000)(fr:∀k,w.heap.size≤k→τ k=1000){t:Nat}(ht:t<S.txs.length){b3:Nat}(o3:Own w b3 0 (pV S.sp))(t3:500≤τ b3) :
    Calls Tryz.prog 142 #[pV (S.tx t).xp,.pointer (some ⟨b3,0,none⟩)] w (ClP w τ s q S GetR):=by
  have y3:=o3.1;have hx:=h.txc ht;have hc:=h.cells;have c6:=(hc 6 _ rfl).1;have c7:=(hc 7 _ rfl).1;have x0:w.cell? ⟨(S.tx t).xp,0,none⟩=some (vI (t:Int)):=(hx 0 _ rfl).1;have x2:=(hx 2 _ rfl).1;have bad:Hid (∀n,ClP w τ s q S GetR (.returned (.tuple #[vI 0,vI 141])) (w.drewN n)):=fun n=>⟨0,141,rfl,by decide,by decide,Nx.calm h ((Fr.refl _ _).drewN n) ⟨by decide,by decide,by decide⟩⟩
  by_cases hA:S.holder = -1
  · have eA:(S.holder != -1)=false:=by simp[hA]
    by_cases hV:(S.ver:Int)>(S.tx t).start
    · go_enter Tryz.func142,Tryz.ntmps142;go_wp2_with fail
      go_quiet (fail)
      go_wp2
      go_ret2
      exact bad.out _
    · go_enter Tryz.func142,Tryz.ntmps142;go_wp2_with fail
      go_quiet (fail)
      have kw:Calm w (w.drewN nq):=(Fr.refl _ _).drewN nq;have h1:=h.calm kw;generalize w.drewN nq=W at *;have hcs:=h1.cells;have hxs:=h1.txc ht;have d0:W.cell? ⟨(S.tx t).xp,0,none⟩=some (vI (t:Int)):=(hxs 0 _ rfl).1;have d6:=(hcs 6 _ rfl).1;have f6:=(hcs 6 _ rfl).2;have z3:=kw.cellAt y3 id;go_wp2_with fail
      refine wp_region_helds 5 5 (fun w'=>Calm W w') (by kernel_rfl) (by kernel_rfl) ((Fr.refl _ _).drew) ?_;refine heldList_step (pV S.sp) rfl (fun w' hw'=>?_) (fun _ _ _ h=>h) ?_
      · have e1:=hw'.cellAt z3 id;simp[go_sem,e1]
      refine heldList_step (pV (S.tx t).xp) rfl (fun w' hw'=>?_) (fun _ _ _ h=>h) ?_
      · simp[go_sem]
      refine heldList_step (pV (S.tx t).xp) rfl (fun w' hw'=>?_) (fun _ _ _ h=>h) ?_
      · simp[go_sem]
      refine heldList_step (.pointer (some ⟨(S.tx t).xp,0,none⟩)) rfl (fun w' hw'=>?_) (fun _ _ _ h=>h) ?_
      · simp[go_sem]
      refine heldList_step (vI (t:Int)) rfl (fun w' hw'=>?_) (fun _ _ _ h=>h) ?_
      · have e1:=hw'.cellAt d0 id;simp[go_sem,e1]
      simp only[heldList,Nat.sub_self,heldSeq];have kd:Calm W W.drew:=(Fr.refl _ _).drew;have hd:=h1.calm kd;have d6d:=kd.cellAt d6 id;have f6d:=kd.frozenAt d6 f6 id;have F:Fr (fun b=>b=S.sp) W.drew (W.drew.setCell ⟨S.sp,6,none⟩ (vI (t:Int))):=(Fr.refl (fun b=>b=S.sp) W.drew).setCell (p:=⟨S.sp,6,none⟩) (.inl rfl) _;have hc1:OwnL (W.drew.setCell ⟨S.sp,6,none⟩ (vI (t:Int))) S.sp (StD.cs (S.setS ⟨S.qv,S.qu,S.next,t,S.ver⟩)):=(hcs.calm kd).set 6 (vI (t:Int)) (by simp[StD.cs]);have n8:=h.ok.n;obtain⟨h2,k2⟩:=St.setS' hd ⟨S.qv,S.qu,S.next,t,S.ver⟩ F hc1 rfl rfl h.ok.nx (by show I64 (t:Int);exact⟨by omega,by omega⟩) h.ok.ve (Nat.le_refl _);have K2:KeepT w τ (W.drew.setCell ⟨S.sp,6,none⟩ (vI (t:Int))) τ:=(KeepT.calm τ (kw.trans kd)).trans k2;have X2:Fix S (S.setS ⟨S.qv,S.qu,S.next,t,S.ver⟩):=Fix.setS S _;have e2t:(S.setS ⟨S.qv,S.qu,S.next,t,S.ver⟩).tx t=S.tx t:=rfl;obtain⟨W2,hW2⟩:∃W2,W.drew.setCell ⟨S.sp,6,none⟩ (vI (t:Int))=W2:=⟨_,rfl⟩;obtain⟨S2,hS2⟩:∃S2,S.setS ⟨S.qv,S.qu,S.next,t,S.ver⟩=S2:=⟨_,rfl⟩;rw[hW2,hS2] at h2;rw[hW2] at K2;rw[hS2] at X2 e2t;have o33:=K2.own o3 t3;have z33:=o33.1;have rq:=h2.que;have ht2:t<S2.txs.length:=by rw[X2.len];exact ht
      have x3:W2.cell? ⟨(S.tx t).xp,3,none⟩=some (vI (S.tx t).seen):=by have:=(h2.txc ht2 3 _ rfl).1;rw[e2t] at this;exact this
      have hS2':=hid hS2;have none0:Hid (∀n,ClP w τ s q S GetR (.returned (.tuple #[vI 0,vI 0])) (W2.drewN n)):=fun n=>⟨0,0,rfl,by decide,by decide,τ,S2,h2.calm ((Fr.refl _ _).drewN _),K2.trans (KeepT.calm τ ((Fr.refl _ _).drewN _)),X2,by decide,by decide,by decide⟩;clear d0 f6 hcs hxs z3 hd hc1 F k2 hS2 d6
      by_cases hq0:S2.qu=[]
      · obtain⟨qa,qc,eqv⟩:=owns_slice rq;have hl0:S2.qu.length=0:=by rw[hq0];rfl
        have q4:W2.cell? ⟨S.sp,4,none⟩=some (.slice qa 0 qc):=by have:=(h2.cells 4 _ rfl).1;rw[X2.sp,eqv,hl0] at this;exact this
        clear eqv hl0;go_wp2_with fail
        go_quiet (fail)
        go_wp2
        go_ret2
        exact none0.out _
      · obtain⟨x,l,hxl⟩:=List.exists_cons_of_ne_nil hq0;rw[hxl] at rq;obtain⟨g,c,hv,ho⟩:=rows_get itC_len (by decide) rq dI (i:=0) (by simp);have y0:=(ho 0 _ rfl).1;have y1:=(ho 1 _ rfl).1;rw[show 0*2+0=0 by rfl] at y0;rw[show 0*2+1=1 by rfl] at y1;have hgsp:g≠S.sp:=by rw[←X2.sp];exact h2.q_sp (by rw[hv];rfl)
        rw[hv] at rq;have q4:W2.cell? ⟨S.sp,4,none⟩=some (.slice (some ⟨g,0,none⟩) (l.length+1) c):=by have:=(h2.cells 4 _ rfl).1;rw[X2.sp,hv] at this;exact this
        have f4:W2.frozen? ⟨S.sp,4,none⟩=false:=by have:=(h2.cells 4 _ rfl).2;rw[X2.sp] at this;exact this
        obtain⟨hxa,hxs⟩:=h2.ok.qu x (by rw[hxl];exact List.mem_cons_self ..);have hle:((List.cons x l).getD 0 dI)=x:=rfl;rw[hle] at y0 y1;have hl1:((l.length:Int)+1==0)=false:=by simp;omega
        by_cases hsq:x.seq≥(S.tx t).seen
        · go_wp2_with fail
          go_quiet (fail)
          go_wp2
          go_ret2
          exact none0.out _
        · go_wp2_with fail
          go_quiet (fail)
          have kq:Calm W2 (W2.drewN nq):=(Fr.refl _ _).drewN nq;have h3:=h2.calm kq;have K3:=K2.trans (KeepT.calm τ kq);replace z33:=kq.cellAt z33 id;replace y0:=kq.cellAt y0 id;replace y1:=kq.cellAt y1 id;replace q4:=kq.cellAt q4 id;replace f4:(W2.drewN nq).frozen? ⟨S.sp,4,none⟩=false:=f4;replace o33:=o33.calm kq;replace rq:(W2.drewN nq).ownsRow 0 112 2 (.slice (some ⟨g,0,none⟩) (l.length+1) c) (l.length+1) ((x::l).flatMap itC):=rq;clear none0 ho;generalize W2.drewN nq=W3 at *;obtain⟨k4,og⟩:=newL W3 [vI x.at_,vI x.seq] 112;obtain⟨W4,hW4⟩:∃W4,W3.alloc (.cells #[vI x.at_,vI x.seq] 112)=W4:=⟨_,rfl⟩;rw[hW4] at k4 og;have hs3:=K3.size;have z34:=k4.cellAt z33 id;have q44:=k4.cellAt q4 id;have kd4:Calm W4 W4.drew:=(Fr.refl _ _).drew;have h4:=(h3.calm k4).calm kd4;have odl:=delete_is (w:=W4.drew) (owns_frB rq (k4.trans kd4) (fun _ _=>id)) (by have:=h2.ok.tt;have:S2.qu.length≤q:=by { have:=h2.ok.tt;unfold StD.tot at this;omega };rw[hxl] at this;simp at this;omega);replace hW4:=hid hW4;go_wp2_with fail
          rw[hW4.out];clear y0 y1;refine wp_region_helds 5 6 (fun w'=>w'.cell? ⟨b3,0,none⟩=some (pV S.sp)∧w'.cell? ⟨S.sp,4,none⟩=some (.slice (some ⟨g,0,none⟩) (l.length+1) c)) (by kernel_rfl) (by kernel_rfl) ⟨z34,q44⟩ ?_;refine heldList_step (pV S.sp) rfl (fun w' hw'=>?_) (fun _ _ _ h=>h) ?_
          · have e1:=hw'.1;simp[go_sem,e1]
          refine heldList_step (pV S.sp) rfl (fun w' hw'=>?_) (fun _ _ _ h=>h) ?_
          · have e1:=hw'.1;simp[go_sem,e1]
          refine heldList_step (pV S.sp) rfl (fun w' hw'=>?_) (fun _ _ _ h=>h) ?_
          · simp[go_sem]
          refine heldList_step (.pointer (some ⟨S.sp,4,none⟩)) rfl (fun w' hw'=>?_) (fun _ _ _ h=>h) ?_
          · simp[go_sem]
          refine heldList_step (.slice (some ⟨g,0,none⟩) (l.length+1) c) rfl (fun w' hw'=>?_) (fun _ _ _ h=>h) ?_
          · have e1:=hw'.2;simp[go_sem,e1]
          simp only[heldList];refine heldSeq_step rfl ?_;have K4:KeepT w τ W4.drew τ:=K3.trans (KeepT.calm τ (k4.trans kd4));have q4d:=kd4.cellAt q44 id;have f4d:W4.drew.frozen? ⟨S.sp,4,none⟩=false:=(k4.trans kd4).frozenAt q4 f4 id;go_wp2_with fail
          refine odl.mono ?_;rintro e w5 ⟨rfl,r5,f5⟩;have q5:=f5.cellAt q4d (fun e=>hgsp e.symm);have f55:=f5.frozenAt q4d f4d (fun e=>hgsp e.symm)
          have hgb3:b3≠g:=fun e=>by
            obtain⟨M,H1,H2,H3⟩:=h4;have e1:=H1.tag 5 g (by rw[H2.q,hv];rfl);rw[←e] at e1;omega
          have z35:=f5.cellAt (kd4.cellAt z34 id) hgb3;refine⟨⟨z35,q5⟩,?_⟩;simp only[heldSeq];obtain⟨τ6,S6,h6,k6,X6,ht6,e6⟩:=St.takeQ h4 hxl hv r5 f5;rw[X2.sp] at h6 k6;obtain⟨W6,hW6⟩:∃W6,w5.setCell ⟨S.sp,4,none⟩ (.slice (some ⟨g,0,none⟩) l.length c)=W6:=⟨_,rfl⟩;rw[hW6] at h6 k6;have K6:=K4.trans k6;have XX:=X2.trans X6;have ht6':t<S6.txs.length:=by rw[XX.len];exact ht
          have e6t:S6.tx t=S.tx t:=(e6 t).trans e2t;have tgb:500≤τ W3.heap.size:=by rw[fr _ hs3];omega
          have o6:OwnL W6 W3.heap.size [vI x.at_,vI x.seq]:=k6.ownL (og.calm kd4) tgb;obtain⟨g0,g1⟩:=OwnL.ce2 o6;have rt:=h6.tok ht6';have hxc:=h6.txc ht6';have hnx:∀b,InB (S6.tx t).tv b→b≠(S6.tx t).xp:=fun b hb=>h6.t_xp ht6' hb;rw[e6t] at rt hxc hnx;obtain⟨ta,tc,et⟩:=owns_slice rt;obtain⟨n,hn⟩:∃n,(S.tx t).took.length=n:=⟨_,rfl⟩;rw[hn] at et;rw[et,hn] at rt;have x5:W6.cell? ⟨(S.tx t).xp,5,none⟩=some (.slice ta n tc):=by rw[←et];exact(hxc 5 _ rfl).1
          have fx5:=(hxc 5 _ rfl).2;rw[et] at hnx
          have hn6:n≤100000:=by
            have h1:=StD.tot_set (S:=S6) (x':=dT) ht6';rw[e6t,hn] at h1;have h2:dT.took.length=0:=rfl;have h3:(S6.setX t dT).tot+n=S6.tot+dT.took.length:=h1;have:=h6.ok.tt;omega
          have kd6:Calm W6 (W6.drew.alloc (.cells #[vI x.at_,vI x.seq] 112)):=((Fr.refl _ _).drew).alloc _;have rt6:=hid (owns_frB rt kd6 (fun _ _=>id));have x56:=kd6.cellAt x5 id;have fx6:=kd6.frozenAt x5 fx5 id;have xlt:(S.tx t).xp<W6.heap.size:=hxc.lt (by simp[TxD.cs]);have hxx:¬InB (.slice ta n tc) (S.tx t).xp:=fun e=>hnx _ e rfl;have H6:=h6;obtain⟨M,H1,H2,H3⟩:=h6;have t6b:τ6 W3.heap.size=1000:=by rw[k6.tg _ (by have:=(og.calm kd4).lt (by simp);exact this),fr _ hs3]
          have hb5:¬InB (.slice ta n tc) W3.heap.size:=fun e=>by
            have:=H1.tag (10+8*t+6) W3.heap.size (by rw[(H2.x t ht6').k,e6t,et];exact e);have:=H3.n;omega
          have hb5x:W3.heap.size≠(S.tx t).xp:=fun e=>by
            have:=H1.tag (10+8*t) W3.heap.size (by rw[(H2.x t ht6').c,e6t];exact e);have:=H3.n;omega
          have g06:=kd6.cellAt g0 id;have g16:=kd6.cellAt g1 id;clear odl z33 q4 f4;have hn':=hid hn;have et':=hid et;have hnx':=hid hnx;clear hn et hnx;go_wp2_with fail
          refine wp_region_helds 6 8 (fun w'=>w'.cell? ⟨(S.tx t).xp,5,none⟩=some (.slice ta n tc)∧w'.cell? ⟨W3.heap.size,0,none⟩=some (vI (x.at_:Int))∧w'.cell? ⟨W3.heap.size,1,none⟩=some (vI x.seq)) (by kernel_rfl) (by kernel_rfl) ⟨x5,g0,g1⟩ ?_;refine heldList_step (pV (S.tx t).xp) rfl (fun w' hw'=>?_) (fun _ _ _ h=>h) ?_
          · simp[go_sem]
          refine heldList_step (pV (S.tx t).xp) rfl (fun w' hw'=>?_) (fun _ _ _ h=>h) ?_
          · simp[go_sem]
          refine heldList_step (pV (S.tx t).xp) rfl (fun w' hw'=>?_) (fun _ _ _ h=>h) ?_
          · simp[go_sem]
          refine heldList_step (.pointer (some ⟨(S.tx t).xp,5,none⟩)) rfl (fun w' hw'=>?_) (fun _ _ _ h=>h) ?_
          · simp[go_sem]
          refine heldList_step (.slice ta n tc) rfl (fun w' hw'=>?_) (fun _ _ _ h=>h) ?_
          · have e1:=hw'.1;simp[go_sem,e1]
          refine heldList_step (.agg #[vI (x.at_:Int),vI x.seq]) rfl (fun w' hw'=>?_) (fun _ _ _ h=>h) ?_
          · obtain⟨-,e0,e1⟩:=hw';simp[go_sem,e0,e1]
          simp only[heldList];refine heldSeq_step rfl ?_;unfold Oper.wp;go_simp
          first|refine⟨⟨x56,g06,g16⟩,?_⟩|refine⟨⟨g06,g16⟩,?_⟩
          first|refine heldSeq_step rfl ?_|refine .inl ?_
          refine Eq.mp (if_pos (show Region.wanted _ (yielded _ _)=true from rfl)) (step_appG (ops:=#[]) (E:=True) giI rfl (.tmp 78) (.tmp 80) rfl (.slice ta n tc) n ((S.tx t).took.flatMap itC) rt6.out rfl (itC x) rfl (by simp[itC,Value.oneCell']) ⟨W6.heap.size,0,none⟩ 1 rfl (fun j u hj=>by rw[addr_at];simp only[Nat.zero_add];exact cell_row2 W6.drew _ _ _ hj) (by omega) ?_);intro g2 c2 w7 hr7 f7 hg7;have x57:=f7.cellAt x56 hxx;have fx7:=f7.frozenAt x56 fx6 hxx;have g07:=f7.cellAt g06 hb5;have g17:=f7.cellAt g16 hb5;have F9:Fr (fun b=>b=(S.tx t).xp) w7 (w7.setCell ⟨(S.tx t).xp,5,none⟩ (.slice (some ⟨g2,0,none⟩) (n+1) c2)):=(Fr.refl (fun b=>b=(S.tx t).xp) w7).setCell (p:=⟨(S.tx t).xp,5,none⟩) (.inl rfl) _;have g09:=F9.cellAt g07 hb5x;replace F9:=hid F9;replace hr7:=hid hr7;replace hg7:=hid hg7;replace f7:=hid f7;refine⟨⟨x57,g07,g17⟩,?_⟩;simp only[heldSeq];clear g17 g16;go_wp2
          go_ret2
          have hc9:OwnL (w7.setCell ⟨(S.tx t).xp,5,none⟩ (.slice (some ⟨g2,0,none⟩) (n+1) c2)) (S.tx t).xp (TxD.cs t { S.tx t with tv:=.slice (some ⟨g2,0,none⟩) (n+1) c2,took:=(S.tx t).took++[x] }):=((hxc.calm kd6).fr f7.out hxx).set 5 _ (by simp[TxD.cs])
          have hg2:∀b,InB (.slice (some ⟨g2,0,none⟩) (n+1) c2) b→InB (.slice ta n tc) b∨W6.heap.size≤b:=fun b hb=>by
            rw[InB.mk1 hb];rcases hg7.out with e|e
            · exact .inl e
            · exact .inr (by have:=kd6.size;rw[e];exact this)
          have hg2x:∀b,InB (.slice (some ⟨g2,0,none⟩) (n+1) c2) b→b≠(S.tx t).xp:=fun b hb e=>by
            rcases hg2 b hb with h1|h1
            · exact hxx (e ▸ h1)
            · omega
          have hlen:((S.tx t).took++[x]).length=n+1:=by rw[List.length_append,hn'.out];rfl
          have hxo:=H3.x t ht6';rw[e6t] at hxo
          obtain⟨τ9,h9,k9⟩:=St.setT (x':={ S.tx t with tv:=.slice (some ⟨g2,0,none⟩) (n+1) c2,took:=(S.tx t).took++[x] }) H1 H2 H3 ht6'
            (by rw[e6t,et'.out];exact((Calm.any kd6:Fr (fun b=>b=(S.tx t).xp∨InB (.slice ta n tc) b) _ _).trans (f7.out.mono (fun b _ e=>.inr e))).trans (F9.out.mono (fun b _ e=>.inl e)))
            (by rw[e6t];exact hc9) (by
              show World.ownsRow _ 0 _ 2 (.slice (some ⟨g2,0,none⟩) (n+1) c2) ((S.tx t).took++[x]).length (((S.tx t).took++[x]).flatMap itC);rw[hlen,List.flatMap_append];have e1:[x].flatMap itC=itC x:=by simp
              rw[e1]
              exact owns_frB hr7.out F9.out (fun b hb e=>hg2x b hb e)) (by rw[e6t,et'.out];exact hg2) (by rw[e6t]) (by rw[e6t]) (by rw[e6t])
            ⟨hxo.l,hxo.f,hxo.m,hxo.i,fun i hi=>by
              rcases List.mem_append.1 hi with hi|hi
              · exact hxo.k i hi
              · rw[List.mem_singleton.1 hi];exact⟨hxa,hxs⟩⟩ (by
              have h1:=StD.tot_set (S:=S6) (x':={ S.tx t with tv:=.slice (some ⟨g2,0,none⟩) (n+1) c2,took:=(S.tx t).took++[x] }) ht6';rw[e6t,hn'.out] at h1;have h2:({ S.tx t with tv:=.slice (some ⟨g2,0,none⟩) (n+1) c2,took:=(S.tx t).took++[x] } : TxD).took.length=n+1:=hlen
              omega)
          exact⟨x.at_,0,rfl,⟨by omega,by omega⟩,by decide,τ9,_,h9,K6.trans k9,XX.trans (Fix.setX ht6' (by rw[e6t]) (by rw[e6t])),by omega,by omega,by decide⟩
  · have eA:(S.holder != -1)=true:=by simp[bne,hA]
    by_cases hB:S.holder=(t:Int)
    · have eB:(S.holder != (t:Int))=false:=by simp[hB]
      by_cases hV:(S.ver:Int)>(S.tx t).start
      · go_enter Tryz.func142,Tryz.ntmps142;go_wp2_with fail
        go_quiet (fail)
        go_wp2
        go_ret2
        exact bad.out _
      · go_enter Tryz.func142,Tryz.ntmps142;go_wp2_with fail
        go_quiet (fail)
        have kw:Calm w (w.drewN nq):=(Fr.refl _ _).drewN nq;have h1:=h.calm kw;generalize w.drewN nq=W at *;have hcs:=h1.cells;have hxs:=h1.txc ht;have d0:W.cell? ⟨(S.tx t).xp,0,none⟩=some (vI (t:Int)):=(hxs 0 _ rfl).1;have d6:=(hcs 6 _ rfl).1;have f6:=(hcs 6 _ rfl).2;have z3:=kw.cellAt y3 id;go_wp2_with fail
        refine wp_region_helds 5 5 (fun w'=>Calm W w') (by kernel_rfl) (by kernel_rfl) ((Fr.refl _ _).drew) ?_;refine heldList_step (pV S.sp) rfl (fun w' hw'=>?_) (fun _ _ _ h=>h) ?_
        · have e1:=hw'.cellAt z3 id;simp[go_sem,e1]
        refine heldList_step (pV (S.tx t).xp) rfl (fun w' hw'=>?_) (fun _ _ _ h=>h) ?_
        · simp[go_sem]
        refine heldList_step (pV (S.tx t).xp) rfl (fun w' hw'=>?_) (fun _ _ _ h=>h) ?_
        · simp[go_sem]
        refine heldList_step (.pointer (some ⟨(S.tx t).xp,0,none⟩)) rfl (fun w' hw'=>?_) (fun _ _ _ h=>h) ?_
        · simp[go_sem]
        refine heldList_step (vI (t:Int)) rfl (fun w' hw'=>?_) (fun _ _ _ h=>h) ?_
        · have e1:=hw'.cellAt d0 id;simp[go_sem,e1]
        simp only[heldList,Nat.sub_self,heldSeq];have kd:Calm W W.drew:=(Fr.refl _ _).drew;have hd:=h1.calm kd;have d6d:=kd.cellAt d6 id;have f6d:=kd.frozenAt d6 f6 id;have F:Fr (fun b=>b=S.sp) W.drew (W.drew.setCell ⟨S.sp,6,none⟩ (vI (t:Int))):=(Fr.refl (fun b=>b=S.sp) W.drew).setCell (p:=⟨S.sp,6,none⟩) (.inl rfl) _;have hc1:OwnL (W.drew.setCell ⟨S.sp,6,none⟩ (vI (t:Int))) S.sp (StD.cs (S.setS ⟨S.qv,S.qu,S.next,t,S.ver⟩)):=(hcs.calm kd).set 6 (vI (t:Int)) (by simp[StD.cs]);have n8:=h.ok.n;obtain⟨h2,k2⟩:=St.setS' hd ⟨S.qv,S.qu,S.next,t,S.ver⟩ F hc1 rfl rfl h.ok.nx (by show I64 (t:Int);exact⟨by omega,by omega⟩) h.ok.ve (Nat.le_refl _);have K2:KeepT w τ (W.drew.setCell ⟨S.sp,6,none⟩ (vI (t:Int))) τ:=(KeepT.calm τ (kw.trans kd)).trans k2;have X2:Fix S (S.setS ⟨S.qv,S.qu,S.next,t,S.ver⟩):=Fix.setS S _;have e2t:(S.setS ⟨S.qv,S.qu,S.next,t,S.ver⟩).tx t=S.tx t:=rfl;obtain⟨W2,hW2⟩:∃W2,W.drew.setCell ⟨S.sp,6,none⟩ (vI (t:Int))=W2:=⟨_,rfl⟩;obtain⟨S2,hS2⟩:∃S2,S.setS ⟨S.qv,S.qu,S.next,t,S.ver⟩=S2:=⟨_,rfl⟩;rw[hW2,hS2] at h2;rw[hW2] at K2;rw[hS2] at X2 e2t;have o33:=K2.own o3 t3;have z33:=o33.1;have rq:=h2.que;have ht2:t<S2.txs.length:=by rw[X2.len];exact ht
        have x3:W2.cell? ⟨(S.tx t).xp,3,none⟩=some (vI (S.tx t).seen):=by have:=(h2.txc ht2 3 _ rfl).1;rw[e2t] at this;exact this
        have hS2':=hid hS2;have none0:Hid (∀n,ClP w τ s q S GetR (.returned (.tuple #[vI 0,vI 0])) (W2.drewN n)):=fun n=>⟨0,0,rfl,by decide,by decide,τ,S2,h2.calm ((Fr.refl _ _).drewN _),K2.trans (KeepT.calm τ ((Fr.refl _ _).drewN _)),X2,by decide,by decide,by decide⟩;clear d0 f6 hcs hxs z3 hd hc1 F k2 hS2 d6
        by_cases hq0:S2.qu=[]
        · obtain⟨qa,qc,eqv⟩:=owns_slice rq;have hl0:S2.qu.length=0:=by rw[hq0];rfl
          have q4:W2.cell? ⟨S.sp,4,none⟩=some (.slice qa 0 qc):=by have:=(h2.cells 4 _ rfl).1;rw[X2.sp,eqv,hl0] at this;exact this
          clear eqv hl0;go_wp2_with fail
          go_quiet (fail)
          go_wp2
          go_ret2
          exact none0.out _
        · obtain⟨x,l,hxl⟩:=List.exists_cons_of_ne_nil hq0;rw[hxl] at rq;obtain⟨g,c,hv,ho⟩:=rows_get itC_len (by decide) rq dI (i:=0) (by simp);have y0:=(ho 0 _ rfl).1;have y1:=(ho 1 _ rfl).1;rw[show 0*2+0=0 by rfl] at y0;rw[show 0*2+1=1 by rfl] at y1;have hgsp:g≠S.sp:=by rw[←X2.sp];exact h2.q_sp (by rw[hv];rfl)
          rw[hv] at rq;have q4:W2.cell? ⟨S.sp,4,none⟩=some (.slice (some ⟨g,0,none⟩) (l.length+1) c):=by have:=(h2.cells 4 _ rfl).1;rw[X2.sp,hv] at this;exact this
          have f4:W2.frozen? ⟨S.sp,4,none⟩=false:=by have:=(h2.cells 4 _ rfl).2;rw[X2.sp] at this;exact this
          obtain⟨hxa,hxs⟩:=h2.ok.qu x (by rw[hxl];exact List.mem_cons_self ..);have hle:((List.cons x l).getD 0 dI)=x:=rfl;rw[hle] at y0 y1;have hl1:((l.length:Int)+1==0)=false:=by simp;omega
          by_cases hsq:x.seq≥(S.tx t).seen
          · go_wp2_with fail
            go_quiet (fail)
            go_wp2
            go_ret2
            exact none0.out _
          · go_wp2_with fail
            go_quiet (fail)
            have kq:Calm W2 (W2.drewN nq):=(Fr.refl _ _).drewN nq;have h3:=h2.calm kq;have K3:=K2.trans (KeepT.calm τ kq);replace z33:=kq.cellAt z33 id;replace y0:=kq.cellAt y0 id;replace y1:=kq.cellAt y1 id;replace q4:=kq.cellAt q4 id;replace f4:(W2.drewN nq).frozen? ⟨S.sp,4,none⟩=false:=f4;replace o33:=o33.calm kq;replace rq:(W2.drewN nq).ownsRow 0 112 2 (.slice (some ⟨g,0,none⟩) (l.length+1) c) (l.length+1) ((x::l).flatMap itC):=rq;clear none0 ho;generalize W2.drewN nq=W3 at *;obtain⟨k4,og⟩:=newL W3 [vI x.at_,vI x.seq] 112;obtain⟨W4,hW4⟩:∃W4,W3.alloc (.cells #[vI x.at_,vI x.seq] 112)=W4:=⟨_,rfl⟩;rw[hW4] at k4 og;have hs3:=K3.size;have z34:=k4.cellAt z33 id;have q44:=k4.cellAt q4 id;have kd4:Calm W4 W4.drew:=(Fr.refl _ _).drew;have h4:=(h3.calm k4).calm kd4;have odl:=delete_is (w:=W4.drew) (owns_frB rq (k4.trans kd4) (fun _ _=>id)) (by have:=h2.ok.tt;have:S2.qu.length≤q:=by { have:=h2.ok.tt;unfold StD.tot at this;omega };rw[hxl] at this;simp at this;omega);replace hW4:=hid hW4;go_wp2_with fail
            rw[hW4.out];clear y0 y1;refine wp_region_helds 5 6 (fun w'=>w'.cell? ⟨b3,0,none⟩=some (pV S.sp)∧w'.cell? ⟨S.sp,4,none⟩=some (.slice (some ⟨g,0,none⟩) (l.length+1) c)) (by kernel_rfl) (by kernel_rfl) ⟨z34,q44⟩ ?_;refine heldList_step (pV S.sp) rfl (fun w' hw'=>?_) (fun _ _ _ h=>h) ?_
            · have e1:=hw'.1;simp[go_sem,e1]
            refine heldList_step (pV S.sp) rfl (fun w' hw'=>?_) (fun _ _ _ h=>h) ?_
            · have e1:=hw'.1;simp[go_sem,e1]
            refine heldList_step (pV S.sp) rfl (fun w' hw'=>?_) (fun _ _ _ h=>h) ?_
            · simp[go_sem]
            refine heldList_step (.pointer (some ⟨S.sp,4,none⟩)) rfl (fun w' hw'=>?_) (fun _ _ _ h=>h) ?_
            · simp[go_sem]
            refine heldList_step (.slice (some ⟨g,0,none⟩) (l.length+1) c) rfl (fun w' hw'=>?_) (fun _ _ _ h=>h) ?_
            · have e1:=hw'.2;simp[go_sem,e1]
            simp only[heldList];refine heldSeq_step rfl ?_;have K4:KeepT w τ W4.drew τ:=K3.trans (KeepT.calm τ (k4.trans kd4));have q4d:=kd4.cellAt q44 id;have f4d:W4.drew.frozen? ⟨S.sp,4,none⟩=false:=(k4.trans kd4).frozenAt q4 f4 id;go_wp2_with fail
            refine odl.mono ?_;rintro e w5 ⟨rfl,r5,f5⟩;have q5:=f5.cellAt q4d (fun e=>hgsp e.symm);have f55:=f5.frozenAt q4d f4d (fun e=>hgsp e.symm)
            have hgb3:b3≠g:=fun e=>by
              obtain⟨M,H1,H2,H3⟩:=h4;have e1:=H1.tag 5 g (by rw[H2.q,hv];rfl);rw[←e] at e1;omega
            have z35:=f5.cellAt (kd4.cellAt z34 id) hgb3;refine⟨⟨z35,q5⟩,?_⟩;simp only[heldSeq];obtain⟨τ6,S6,h6,k6,X6,ht6,e6⟩:=St.takeQ h4 hxl hv r5 f5;rw[X2.sp] at h6 k6;obtain⟨W6,hW6⟩:∃W6,w5.setCell ⟨S.sp,4,none⟩ (.slice (some ⟨g,0,none⟩) l.length c)=W6:=⟨_,rfl⟩;rw[hW6] at h6 k6;have K6:=K4.trans k6;have XX:=X2.trans X6;have ht6':t<S6.txs.length:=by rw[XX.len];exact ht
            have e6t:S6.tx t=S.tx t:=(e6 t).trans e2t;have tgb:500≤τ W3.heap.size:=by rw[fr _ hs3];omega
            have o6:OwnL W6 W3.heap.size [vI x.at_,vI x.seq]:=k6.ownL (og.calm kd4) tgb;obtain⟨g0,g1⟩:=OwnL.ce2 o6;have rt:=h6.tok ht6';have hxc:=h6.txc ht6';have hnx:∀b,InB (S6.tx t).tv b→b≠(S6.tx t).xp:=fun b hb=>h6.t_xp ht6' hb;rw[e6t] at rt hxc hnx;obtain⟨ta,tc,et⟩:=owns_slice rt;obtain⟨n,hn⟩:∃n,(S.tx t).took.length=n:=⟨_,rfl⟩;rw[hn] at et;rw[et,hn] at rt;have x5:W6.cell? ⟨(S.tx t).xp,5,none⟩=some (.slice ta n tc):=by rw[←et];exact(hxc 5 _ rfl).1
            have fx5:=(hxc 5 _ rfl).2;rw[et] at hnx
            have hn6:n≤100000:=by
              have h1:=StD.tot_set (S:=S6) (x':=dT) ht6';rw[e6t,hn] at h1;have h2:dT.took.length=0:=rfl;have h3:(S6.setX t dT).tot+n=S6.tot+dT.took.length:=h1;have:=h6.ok.tt;omega
            have kd6:Calm W6 (W6.drew.alloc (.cells #[vI x.at_,vI x.seq] 112)):=((Fr.refl _ _).drew).alloc _;have rt6:=hid (owns_frB rt kd6 (fun _ _=>id));have x56:=kd6.cellAt x5 id;have fx6:=kd6.frozenAt x5 fx5 id;have xlt:(S.tx t).xp<W6.heap.size:=hxc.lt (by simp[TxD.cs]);have hxx:¬InB (.slice ta n tc) (S.tx t).xp:=fun e=>hnx _ e rfl;have H6:=h6;obtain⟨M,H1,H2,H3⟩:=h6;have t6b:τ6 W3.heap.size=1000:=by rw[k6.tg _ (by have:=(og.calm kd4).lt (by simp);exact this),fr _ hs3]
            have hb5:¬InB (.slice ta n tc) W3.heap.size:=fun e=>by
              have:=H1.tag (10+8*t+6) W3.heap.size (by rw[(H2.x t ht6').k,e6t,et];exact e);have:=H3.n;omega
            have hb5x:W3.heap.size≠(S.tx t).xp:=fun e=>by
              have:=H1.tag (10+8*t) W3.heap.size (by rw[(H2.x t ht6').c,e6t];exact e);have:=H3.n;omega
            have g06:=kd6.cellAt g0 id;have g16:=kd6.cellAt g1 id;clear odl z33 q4 f4;have hn':=hid hn;have et':=hid et;have hnx':=hid hnx;clear hn et hnx;go_wp2_with fail
            refine wp_region_helds 6 8 (fun w'=>w'.cell? ⟨(S.tx t).xp,5,none⟩=some (.slice ta n tc)∧w'.cell? ⟨W3.heap.size,0,none⟩=some (vI (x.at_:Int))∧w'.cell? ⟨W3.heap.size,1,none⟩=some (vI x.seq)) (by kernel_rfl) (by kernel_rfl) ⟨x5,g0,g1⟩ ?_;refine heldList_step (pV (S.tx t).xp) rfl (fun w' hw'=>?_) (fun _ _ _ h=>h) ?_
            · simp[go_sem]
            refine heldList_step (pV (S.tx t).xp) rfl (fun w' hw'=>?_) (fun _ _ _ h=>h) ?_
            · simp[go_sem]
            refine heldList_step (pV (S.tx t).xp) rfl (fun w' hw'=>?_) (fun _ _ _ h=>h) ?_
            · simp[go_sem]
            refine heldList_step (.pointer (some ⟨(S.tx t).xp,5,none⟩)) rfl (fun w' hw'=>?_) (fun _ _ _ h=>h) ?_
            · simp[go_sem]
            refine heldList_step (.slice ta n tc) rfl (fun w' hw'=>?_) (fun _ _ _ h=>h) ?_
            · have e1:=hw'.1;simp[go_sem,e1]
            refine heldList_step (.agg #[vI (x.at_:Int),vI x.seq]) rfl (fun w' hw'=>?_) (fun _ _ _ h=>h) ?_
            · obtain⟨-,e0,e1⟩:=hw';simp[go_sem,e0,e1]
            simp only[heldList];refine heldSeq_step rfl ?_;unfold Oper.wp;go_simp
            first|refine⟨⟨x56,g06,g16⟩,?_⟩|refine⟨⟨g06,g16⟩,?_⟩
            first|refine heldSeq_step rfl ?_|refine .inl ?_
            refine Eq.mp (if_pos (show Region.wanted _ (yielded _ _)=true from rfl)) (step_appG (ops:=#[]) (E:=True) giI rfl (.tmp 78) (.tmp 80) rfl (.slice ta n tc) n ((S.tx t).took.flatMap itC) rt6.out rfl (itC x) rfl (by simp[itC,Value.oneCell']) ⟨W6.heap.size,0,none⟩ 1 rfl (fun j u hj=>by rw[addr_at];simp only[Nat.zero_add];exact cell_row2 W6.drew _ _ _ hj) (by omega) ?_);intro g2 c2 w7 hr7 f7 hg7;have x57:=f7.cellAt x56 hxx;have fx7:=f7.frozenAt x56 fx6 hxx;have g07:=f7.cellAt g06 hb5;have g17:=f7.cellAt g16 hb5;have F9:Fr (fun b=>b=(S.tx t).xp) w7 (w7.setCell ⟨(S.tx t).xp,5,none⟩ (.slice (some ⟨g2,0,none⟩) (n+1) c2)):=(Fr.refl (fun b=>b=(S.tx t).xp) w7).setCell (p:=⟨(S.tx t).xp,5,none⟩) (.inl rfl) _;have g09:=F9.cellAt g07 hb5x;replace F9:=hid F9;replace hr7:=hid hr7;replace hg7:=hid hg7;replace f7:=hid f7;refine⟨⟨x57,g07,g17⟩,?_⟩;simp only[heldSeq];clear g17 g16;go_wp2
            go_ret2
            have hc9:OwnL (w7.setCell ⟨(S.tx t).xp,5,none⟩ (.slice (some ⟨g2,0,none⟩) (n+1) c2)) (S.tx t).xp (TxD.cs t { S.tx t with tv:=.slice (some ⟨g2,0,none⟩) (n+1) c2,took:=(S.tx t).took++[x] }):=((hxc.calm kd6).fr f7.out hxx).set 5 _ (by simp[TxD.cs])
            have hg2:∀b,InB (.slice (some ⟨g2,0,none⟩) (n+1) c2) b→InB (.slice ta n tc) b∨W6.heap.size≤b:=fun b hb=>by
              rw[InB.mk1 hb];rcases hg7.out with e|e
              · exact .inl e
              · exact .inr (by have:=kd6.size;rw[e];exact this)
            have hg2x:∀b,InB (.slice (some ⟨g2,0,none⟩) (n+1) c2) b→b≠(S.tx t).xp:=fun b hb e=>by
              rcases hg2 b hb with h1|h1
              · exact hxx (e ▸ h1)
              · omega
            have hlen:((S.tx t).took++[x]).length=n+1:=by rw[List.length_append,hn'.out];rfl
            have hxo:=H3.x t ht6';rw[e6t] at hxo
            obtain⟨τ9,h9,k9⟩:=St.setT (x':={ S.tx t with tv:=.slice (some ⟨g2,0,none⟩) (n+1) c2,took:=(S.tx t).took++[x] }) H1 H2 H3 ht6'
              (by rw[e6t,et'.out];exact((Calm.any kd6:Fr (fun b=>b=(S.tx t).xp∨InB (.slice ta n tc) b) _ _).trans (f7.out.mono (fun b _ e=>.inr e))).trans (F9.out.mono (fun b _ e=>.inl e)))
              (by rw[e6t];exact hc9) (by
                show World.ownsRow _ 0 _ 2 (.slice (some ⟨g2,0,none⟩) (n+1) c2) ((S.tx t).took++[x]).length (((S.tx t).took++[x]).flatMap itC);rw[hlen,List.flatMap_append];have e1:[x].flatMap itC=itC x:=by simp
                rw[e1]
                exact owns_frB hr7.out F9.out (fun b hb e=>hg2x b hb e)) (by rw[e6t,et'.out];exact hg2) (by rw[e6t]) (by rw[e6t]) (by rw[e6t])
              ⟨hxo.l,hxo.f,hxo.m,hxo.i,fun i hi=>by
                rcases List.mem_append.1 hi with hi|hi
                · exact hxo.k i hi
                · rw[List.mem_singleton.1 hi];exact⟨hxa,hxs⟩⟩ (by
                have h1:=StD.tot_set (S:=S6) (x':={ S.tx t with tv:=.slice (some ⟨g2,0,none⟩) (n+1) c2,took:=(S.tx t).took++[x] }) ht6';rw[e6t,hn'.out] at h1;have h2:({ S.tx t with tv:=.slice (some ⟨g2,0,none⟩) (n+1) c2,took:=(S.tx t).took++[x] } : TxD).took.length=n+1:=hlen
                omega)
            exact⟨x.at_,0,rfl,⟨by omega,by omega⟩,by decide,τ9,_,h9,K6.trans k9,XX.trans (Fix.setX ht6' (by rw[e6t]) (by rw[e6t])),by omega,by omega,by decide⟩
    · have eB:(S.holder != (t:Int))=true:=by simp[bne,hB]
      go_enter Tryz.func142,Tryz.ntmps142;go_wp2_with fail
      go_quiet (fail)
      go_wp2
      go_ret2
      exact bad.out _
theorem take1_is (h:St w τ s q S)(hq6:q≤100000){t:Nat}(ht:t<S.txs.length){b3:Nat}(o3:Own w b3 0 (pV S.sp))(t3:500≤τ b3) :
    Calls Tryz.prog 142 #[pV (S.tx t).xp,.pointer (some ⟨b3,0,none⟩)] w (ClP w τ s q S GetR):=by
  obtain⟨τ0,hf,tk,fr⟩:=h.fresh;exact(take1_is0 hf hq6 fr ht o3 (by rw[tk _ o3.lt];exact t3)).mono fun e w' hp=>hp.retag tk
end
section
open Go.RowKit Go.Shelf
variable {w:World}{τ:Nat→Nat}{s q:Nat}{S:StD}
theorem St.setN (h:St w τ s q S){w':World}{now':Nat}(f:Fr (fun b=>b=S.ck) w w')(hc:OwnL w' S.ck [vI (now':Int),vI S.most])(ho:ClkO now' S.most):St w' τ s q { S with now:=now' } ∧ KeepT w τ w' τ:=by
  obtain⟨M,h1,h2,h3⟩:=h;have hb:(M 3).blk=fun k=>k=S.ck:=by rw[h2.k];rfl
  have f':Fr (M 3).blk w w':=f.mono (fun k _ e=>by rw[hb];exact e);have k1:=h1.put' (t:=3) (a:=aCells S.ck (vI (now':Int)) [vI S.most]) f' hc (fun k hk=>by rw[hb];exact hk);have o:=Mem.Only.put M (P:=fun j=>j=3) (aCells S.ck (vI (now':Int)) [vI S.most]) rfl
  refine⟨⟨_,k1,⟨(o 0 (by omega)).trans h2.h,(o 2 (by omega)).trans h2.c,?_,(o 4 (by omega)).trans h2.t,(o 5 (by omega)).trans h2.q,(o 6 (by omega)).trans h2.l,(o 7 (by omega)).trans h2.m,fun t ht=>(h2.x t ht).only o (fun j h1 h2 (e:j=3)=>by omega),fun u hu=>(o u (by omega)).trans (h2.z u hu)⟩,
    ⟨h3.hw,h3.ph,h3.p2,h3.se,h3.rd,h3.ls,ho,h3.n,h3.x,h3.qu,h3.tt,h3.nx,h3.ho,h3.ve,h3.lo,h3.ca⟩⟩,KeepT.piece h1 f' (by omega)⟩
  rw[Mem.put_same]
theorem stick_is (h:St w τ s q S):Calls Tryz.prog 131 #[pV S.ck] w fun e w'=>∃ (v:Nat) (b:Bool),e = .returned (.tuple #[vI (v:Int),.bool b])∧v≤1099511627776∧Nx w τ s q S w' (fun S'=>∃now',S' = { S with now:=now' }):=by
  refine(clock_tick h.clk h.ok.ck).mono ?_;rintro e w' ⟨v,now',b,rfl,h1,h2,h3,h4⟩;obtain⟨k1,k2⟩:=h.setN h4 h1 h2;exact⟨v,b,rfl,h3,τ,_,k1,k2,⟨rfl,rfl,rfl,rfl,rfl,rfl,fun _=>rfl,fun _=>rfl⟩,now',rfl⟩
set_option maxRecDepth 4000 in
theorem commit1_is0 (h:St w τ s q S)(hq6:q≤100000)(fr:∀k,w.heap.size≤k→τ k=1000){t:Nat}(ht:t<S.txs.length){b3:Nat}(o3:Own w b3 0 (pV S.sp))(t3:500≤τ b3) :
    Calls Tryz.prog 126 #[pV (S.tx t).xp,.pointer (some ⟨b3,0,none⟩)] w (ClP w τ s q S NumR):=by
  have hx:=h.txc ht;have hxo:=h.ok.x t ht;have c40:=(hx 4 _ rfl).1;obtain⟨M,H1,H2,H3⟩:=h;have hlg:=(H2.x t ht).l;have h:St w τ s q S:=⟨M,H1,H2,H3⟩;go_enter Tryz.func126,Tryz.ntmps126;go_wp2_with fail
  refine(log_holds H1 hlg (by have:=hxo.f;omega)).mono ?_;rintro e w1 ⟨hv,rfl,v1,v2,k1⟩;obtain⟨ha,hc',rfl⟩:=owns_slice v1;obtain⟨hn,hhn⟩:∃hn,(S.tx t).L.holds.length=hn:=⟨_,rfl⟩;rw[hhn] at v1 v2 ⊢;have hn2:hn≤200:=by have:=hxo.f;omega
  replace hhn:=hid hhn;have hrow:=hid v1;have hvt:=hid v2;have z3:=k1.cellAt o3.1 id;have c4:=k1.cellAt c40 id;have h1:=h.calm k1;have s6:w1.cell? ⟨S.sp,6,none⟩=some (vI S.holder):=(h1.cells 6 _ rfl).1;have x0:w1.cell? ⟨(S.tx t).xp,0,none⟩=some (vI (t:Int)):=(h1.txc ht 0 _ rfl).1;clear v1 v2 c40 H1 H2 H3 hlg
  by_cases hn0:hn=0
  · have e0:((hn:Int)==0)=true:=by simp[hn0]
    replace hn0:=hid hn0
    by_cases hho:S.holder=(t:Int)
    · have eh:(S.holder != (t:Int))=false:=by simp[hho]
      go_wp2_with fail
      go_quiet (fail)
      have kq:Calm w1 (w1.drewN nq):=(Fr.refl _ _).drewN nq;generalize w1.drewN nq=wq at *;clear hn0 e0;have hb3w:wq.cell? ⟨b3,0,none⟩=some (pV S.sp):=kq.cellAt z3 id;have hlg:wq.cell? ⟨(S.tx t).xp,4,none⟩=some (pV (S.tx t).lp):=kq.cellAt c4 id;obtain⟨M2,G1,G2,G3⟩:=h1.calm kq;go_wp2_with fail
      refine(log_reads G1 (G2.x t ht).l (by have:=hxo.f;omega)).mono ?_;rintro e w4 ⟨rv,rfl,r1,r2,r3⟩;obtain⟨ra,rc,rfl⟩:=owns_slice r1;have K4:Calm w w4:=k1.trans (kq.trans r3);have z4:=kq.trans r3 |>.cellAt z3 id;have h4:=h1.calm (kq.trans r3);obtain⟨m,hm⟩:∃m,(S.tx t).L.reads.length=m:=⟨_,rfl⟩;have hrd:=hxo.l.r;have hm2:m≤200:=by have:=hxo.f;omega
      have hr1:Hid (∀i,i<m→∃g,ra=some ⟨g,0,none⟩∧w4.cell? ⟨g,i,none⟩=some (vI ((S.tx t).L.reads.getD i 0:Nat))):=fun i hi=>by
        obtain⟨g,c,hv,ho⟩:=owns_get r1 (by decide) (show i<(S.tx t).L.reads.length by omega);have h0:=(ho 0 (by decide)).1;rw[show i*1+0=i by omega] at h0;injection hv with e1 e2 e3
        refine⟨g,e1,h0.trans ?_⟩;have hi2:i<(S.tx t).L.reads.length:=by omega
        simp[List.getD_eq_getElem?_getD,hi2]
      rw[hm];rw[hm] at r1 r2;have hrow4:=hid (owns_frB hrow.out (kq.trans r3) (fun _ _=>id));clear hb3w hlg r1 r2 G1 G2 G3;replace hm:=hid hm;go_wp2_with fail
      go_loopw [40] (fun z wr=>∃i:Nat,i≤m∧z=vI i∧Hid (Calm w4 wr)) (fun z _=>m-(intOf z).toNat)
      case atStart=>exact⟨0,by omega,rfl,Fr.refl _ _⟩
      case round=>
        obtain⟨i,hi,rfl,hw⟩:=hrel;have z5:=hw.out.cellAt z4 id
        by_cases hlt:i<m
        · obtain⟨g,rfl,hcell⟩:=hr1.out i hlt;have e5:=hw.out.cellAt hcell id;obtain⟨a,hae⟩:∃a,(S.tx t).L.reads.getD i 0=a:=⟨_,rfl⟩;have ha:a≤131072:=by rw[←hae];exact hrd _ (get_mem 0 (by have:=hm.out;omega))
          rw[hae] at e5;have ocl:=clash_is (h4.calm hw.out) ht ha;go_wp2_with fail
          refine ocl.mono ?_;rintro e w5 ⟨⟨b,rfl⟩,c5⟩;have cw:=hid (hw.out.trans c5)
          cases b with
          | true=>
            have hP:ClP w τ s q S NumR (.returned (.tuple #[vI 0,vI 141])) w5:=⟨0,141,rfl,by decide,by decide,Nx.calm h (K4.trans cw.out) (by show(141:Int)≠100;decide)⟩;replace hP:=hid hP;clear ocl c5 e5 hcell hae;go_wp2
            go_ret2
            exact hP.out
          | false=>
            clear ocl c5 e5 hcell hae;go_wp2;exact⟨⟨i+1,by omega,rfl,cw⟩,by simp[intOf];omega⟩
        · obtain rfl:i=m:=by omega
          have h5:=h4.calm hw.out;have kc:=(h5.cells 2 _ rfl).1;have otk:=stick_is h5;go_wp2_with fail
          refine otk.mono ?_;rintro e w6 ⟨v,bk,rfl,hv,τ6,S6,p1,p2,p3,now',p4⟩;clear otk kc hr1 z4;have z6:=(p2.own ((o3.calm K4).calm hw.out) (by rw[show τ b3=τ b3 from rfl];exact t3)).1;have K6:KeepT w τ w6 τ6:=(KeepT.calm τ (K4.trans hw.out)).trans p2;have hinv:Hid (∃τi Si,St w6 τi s q Si∧KeepT w6 τ6 w6 τi∧Fix S Si∧Si.txs=S.txs∧Si.holder=S.holder∧Si.qv=S.qv∧Si.qu=S.qu):=⟨τ6,S6,p1,KeepT.refl _ _,p3,by rw[p4],by rw[p4],by rw[p4],by rw[p4]⟩
          have hrow6:Hid (∀j,j<hn→∃g,ha=some ⟨g,0,none⟩∧500≤τ6 g∧Own w6 g (j*2) (vI ((S.tx t).L.holds.getD j ⟨0,0⟩).at_)∧Own w6 g (j*2+1) (vI ((S.tx t).L.holds.getD j ⟨0,0⟩).ver)):=fun j hj=>by
            obtain⟨g,c,hv2,ho⟩:=rows_get hdC_len (by decide) (show w4.ownsRow 0 188 2 (.slice ha hn hc') (S.tx t).L.holds.length ((S.tx t).L.holds.flatMap hdC) by rw[hhn.out];exact hrow4.out) ⟨0,0⟩ (i:=j) (by have:=hhn.out;omega);injection hv2 with e1 e2 e3
            have tg:500≤τ g:=by rw[fr g (hvt.out g (by rw[e1];rfl))];omega
            have lt4:g<w4.heap.size:=(ho 0 _ rfl).lt;refine⟨g,e1,by rw[p2.tg g (by have:=hw.out.size;omega)];exact tg,?_⟩;have h0:=p2.own ((ho 0 _ rfl).calm hw.out) tg;have h1:=p2.own ((ho 1 _ rfl).calm hw.out) tg;rw[Nat.add_zero] at h0;exact⟨h0,h1⟩
          have t36:500≤τ6 b3:=by rw[p2.tg b3 (by have:=K4.size;have:=hw.out.size;have:=o3.lt;omega)];exact t3
          have o36:Own w6 b3 0 (pV S.sp):=p2.own ((o3.calm K4).calm hw.out) t3;clear p1 p2 p3 p4 h5 hw z5 z6 hrow4;go_wp2_with fail
          go_loopw [59] (fun z wr=>∃j:Nat,j≤hn∧z=vI j∧Hid (∃τi Si,St wr τi s q Si∧KeepT w6 τ6 wr τi∧Fix S Si∧Si.txs=S.txs∧Si.holder=S.holder∧Si.qv=S.qv∧Si.qu=S.qu)) (fun z _=>hn-(intOf z).toNat)
          case atStart=>exact⟨0,by omega,rfl,hinv⟩
          case round=>
            obtain⟨j,hj,rfl,hw2⟩:=hrel;clear hinv;obtain⟨τi,Si,m1,m2,m3,m4,m5,m6,m7⟩:=hw2.out
            by_cases hlt2:j<hn
            · obtain⟨g,rfl,tg,og,og1⟩:=hrow6.out j hlt2;obtain⟨xx,hxx⟩:∃xx,(S.tx t).L.holds.getD j ⟨0,0⟩=xx:=⟨_,rfl⟩;have hxm:xx∈(S.tx t).L.holds:=by rw[←hxx];exact get_mem _ (by have:=hhn.out;omega)
              obtain⟨xa,xv⟩:=hxo.l.h xx hxm;rw[hxx] at og og1;have u0:=(m2.own og tg).1;have u1:=(m2.own og1 tg).1;have u3:=(m2.own o36 t36).1;obtain⟨ka,og8⟩:=newL wr [vI xx.at_,vI xx.ver] 188;obtain⟨W5,hW5⟩:∃W5,wr.alloc (.cells #[vI xx.at_,vI xx.ver] 188)=W5:=⟨_,rfl⟩;rw[hW5] at ka og8;have u35:=ka.cellAt u3 id;have u8:=(og8 0 _ rfl).1;have orl:=release_is (m1.calm ka) xa (v:Int);rw[m3.sp] at orl;go_wp2_with fail
              clear hW5;refine orl.mono ?_;rintro e w7 ⟨rfl,τ7,S7,n1,n2,n3,-,B',A',n5⟩;have hw7:Hid (∃τi Si,St w7 τi s q Si∧KeepT w6 τ6 w7 τi∧Fix S Si∧Si.txs=S.txs∧Si.holder=S.holder∧Si.qv=S.qv∧Si.qu=S.qu):=⟨τ7,S7,n1,m2.trans ((KeepT.calm τi ka).trans n2),m3.trans n3,by rw[n5];exact m4,by rw[n5];exact m5,by rw[n5];exact m6,by rw[n5];exact m7⟩;clear orl n1 n2 n3 n5 m1 m2 hw2 u0 u1 u3 hxx;go_wp2
              first|exact⟨⟨j+1,by omega,rfl,hw7⟩,by simp[intOf];omega⟩|exact⟨⟨j+1,by omega,rfl,hw7⟩,by simp[intOf]⟩
            · obtain rfl:j=hn:=by omega
              clear m5 m6 m7;have u3:=(m2.own o36 t36).1;have hti:t<Si.txs.length:=by rw[m3.len];exact ht
              have eti:Si.tx t=S.tx t:=by unfold StD.tx;rw[m4]
              have hci:=m1.cells;rw[m3.sp] at hci;have d6:wr.cell? ⟨S.sp,6,none⟩=some (vI Si.holder):=(hci 6 _ rfl).1;have d0:wr.cell? ⟨(S.tx t).xp,0,none⟩=some (vI (t:Int)):=by have:=(m1.txc hti 0 _ rfl).1;rw[eti] at this;exact this
              have KK:=K6.trans m2;clear hrow6 hw2;go_wp2_with fail
              go_quiet (fail)
              have kz:Calm wr (wr.drewN nq):=(Fr.refl _ _).drewN nq
              by_cases hh2:Si.holder=(t:Int)
              · have eh2:(Si.holder==(t:Int))=true:=by simp[hh2]
                have f6:=(hci 6 _ rfl).2;have f7:=(hci 7 _ rfl).2;have d7:=(hci 7 _ rfl).1;have hcd:=hci.calm kz;have F1:Fr (fun b=>b=S.sp) (wr.drewN nq) ((wr.drewN nq).setCell ⟨S.sp,6,none⟩ (vI (-1))):=(Fr.refl (fun b=>b=S.sp) _).setCell (p:=⟨S.sp,6,none⟩) (.inl rfl) _;have hc6:=hcd.set 6 (vI (-1)) (by simp[StD.cs]);have F2:Fr (fun b=>b=S.sp) (wr.drewN nq) (((wr.drewN nq).setCell ⟨S.sp,6,none⟩ (vI (-1))).setCell ⟨S.sp,7,none⟩ (vI (v:Int))):=F1.setCell (p:=⟨S.sp,7,none⟩) (.inl rfl) _;have hc7:=hc6.set 7 (vI (v:Int)) (by simp[StD.cs]);have y6:=(hcd 6 _ rfl).1;have g6:=(hcd 6 _ rfl).2;have y7:=(hc6 7 _ rfl).1;have g7:=(hc6 7 _ rfl).2;obtain⟨hz,kz2⟩:=St.setS' (q':=q) (m1.calm kz) ⟨Si.qv,Si.qu,Si.next,-1,v⟩ (by rw[m3.sp];exact F2) (by rw[m3.sp];exact hc7) rfl rfl m1.ok.nx (by show I64 (-1);decide) hv (Nat.le_refl _);have u38:=(kz2.own ((m2.own o36 t36).calm kz) (by rw[m2.tg _ o36.lt];exact t36)).1;have oen:=end_is hz (t:=t) hti;have ez:(Si.setS ⟨Si.qv,Si.qu,Si.next,-1,v⟩).tx t=S.tx t:=eti;rw[ez,show(Si.setS ⟨Si.qv,Si.qu,Si.next,-1,v⟩).sp=S.sp from m3.sp] at oen;clear hci hcd hc6 hc7 F1 F2 f6 f7 d7 d6 d0;go_wp2_with fail
                refine oen.mono ?_;rintro e w9 ⟨rfl,n9⟩;have hP:ClP w τ s q S NumR (.returned (.tuple #[vI (v:Int),vI 0])) w9:=⟨v,0,rfl,⟨by omega,by omega⟩,by decide,((n9.step ((KK.trans (KeepT.calm τi kz)).trans kz2) (m3.trans (Fix.setS Si _)))).mono (Nat.le_refl _) (Nat.le_refl _) (fun _ _=>by show(0:Int)≠100;decide)⟩;replace hP:=hid hP;clear oen n9 hz kz2 u38 y6 g6 y7 g7;go_wp2
                go_ret2
                exact hP.out
              · have eh2:(Si.holder==(t:Int))=false:=by simpa using hh2
                have oen:=end_is (m1.calm kz) hti;rw[eti,m3.sp] at oen;have u38:=kz.cellAt u3 id;clear hci;go_wp2_with fail
                refine oen.mono ?_;rintro e w9 ⟨rfl,n9⟩;have hP:ClP w τ s q S NumR (.returned (.tuple #[vI (v:Int),vI 0])) w9:=⟨v,0,rfl,⟨by omega,by omega⟩,by decide,(n9.step (KK.trans (KeepT.calm τi kz)) m3).mono (Nat.le_refl _) (Nat.le_refl _) (fun _ _=>by show(0:Int)≠100;decide)⟩;replace hP:=hid hP;clear oen n9 u38 d6 d0;go_wp2
                go_ret2
                exact hP.out
    · have eh:(S.holder != (t:Int))=true:=by simp[bne,hho]
      go_wp2_with fail
      go_quiet (fail)
      have kq:Calm w1 (w1.drewN nq):=(Fr.refl _ _).drewN nq;have z4:=kq.cellAt z3 id;have oen:=end_is (h1.calm kq) ht;go_wp2_with fail
      refine oen.mono ?_;rintro e w9 ⟨rfl,n9⟩;have hP:ClP w τ s q S NumR (.returned (.tuple #[vI 0,vI 0])) w9:=⟨0,0,rfl,by decide,by decide,(n9.step (KeepT.calm τ (k1.trans kq)) (Fix.refl S)).mono (Nat.le_refl _) (Nat.le_refl _) (fun _ _=>by show(0:Int)≠100;decide)⟩;replace hP:=hid hP;clear oen n9 z4;go_wp2
      go_ret2
      exact hP.out
  · have e0:((hn:Int)==0)=false:=by simp;omega
    go_wp2_with fail
    go_quiet (fail)
    have kq:Calm w1 (w1.drewN nq):=(Fr.refl _ _).drewN nq;generalize w1.drewN nq=wq at *;clear hn0 e0;have hb3w:wq.cell? ⟨b3,0,none⟩=some (pV S.sp):=kq.cellAt z3 id;have hlg:wq.cell? ⟨(S.tx t).xp,4,none⟩=some (pV (S.tx t).lp):=kq.cellAt c4 id;obtain⟨M2,G1,G2,G3⟩:=h1.calm kq;go_wp2_with fail
    refine(log_reads G1 (G2.x t ht).l (by have:=hxo.f;omega)).mono ?_;rintro e w4 ⟨rv,rfl,r1,r2,r3⟩;obtain⟨ra,rc,rfl⟩:=owns_slice r1;have K4:Calm w w4:=k1.trans (kq.trans r3);have z4:=kq.trans r3 |>.cellAt z3 id;have h4:=h1.calm (kq.trans r3);obtain⟨m,hm⟩:∃m,(S.tx t).L.reads.length=m:=⟨_,rfl⟩;have hrd:=hxo.l.r;have hm2:m≤200:=by have:=hxo.f;omega
    have hr1:Hid (∀i,i<m→∃g,ra=some ⟨g,0,none⟩∧w4.cell? ⟨g,i,none⟩=some (vI ((S.tx t).L.reads.getD i 0:Nat))):=fun i hi=>by
      obtain⟨g,c,hv,ho⟩:=owns_get r1 (by decide) (show i<(S.tx t).L.reads.length by omega);have h0:=(ho 0 (by decide)).1;rw[show i*1+0=i by omega] at h0;injection hv with e1 e2 e3
      refine⟨g,e1,h0.trans ?_⟩;have hi2:i<(S.tx t).L.reads.length:=by omega
      simp[List.getD_eq_getElem?_getD,hi2]
    rw[hm];rw[hm] at r1 r2;have hrow4:=hid (owns_frB hrow.out (kq.trans r3) (fun _ _=>id));clear hb3w hlg r1 r2 G1 G2 G3;replace hm:=hid hm;go_wp2_with fail
    go_loopw [40] (fun z wr=>∃i:Nat,i≤m∧z=vI i∧Hid (Calm w4 wr)) (fun z _=>m-(intOf z).toNat)
    case atStart=>exact⟨0,by omega,rfl,Fr.refl _ _⟩
    case round=>
      obtain⟨i,hi,rfl,hw⟩:=hrel;have z5:=hw.out.cellAt z4 id
      by_cases hlt:i<m
      · obtain⟨g,rfl,hcell⟩:=hr1.out i hlt;have e5:=hw.out.cellAt hcell id;obtain⟨a,hae⟩:∃a,(S.tx t).L.reads.getD i 0=a:=⟨_,rfl⟩;have ha:a≤131072:=by rw[←hae];exact hrd _ (get_mem 0 (by have:=hm.out;omega))
        rw[hae] at e5;have ocl:=clash_is (h4.calm hw.out) ht ha;go_wp2_with fail
        refine ocl.mono ?_;rintro e w5 ⟨⟨b,rfl⟩,c5⟩;have cw:=hid (hw.out.trans c5)
        cases b with
        | true=>
          have hP:ClP w τ s q S NumR (.returned (.tuple #[vI 0,vI 141])) w5:=⟨0,141,rfl,by decide,by decide,Nx.calm h (K4.trans cw.out) (by show(141:Int)≠100;decide)⟩;replace hP:=hid hP;clear ocl c5 e5 hcell hae;go_wp2
          go_ret2
          exact hP.out
        | false=>
          clear ocl c5 e5 hcell hae;go_wp2;exact⟨⟨i+1,by omega,rfl,cw⟩,by simp[intOf];omega⟩
      · obtain rfl:i=m:=by omega
        have h5:=h4.calm hw.out;have kc:=(h5.cells 2 _ rfl).1;have otk:=stick_is h5;go_wp2_with fail
        refine otk.mono ?_;rintro e w6 ⟨v,bk,rfl,hv,τ6,S6,p1,p2,p3,now',p4⟩;clear otk kc hr1 z4;have z6:=(p2.own ((o3.calm K4).calm hw.out) (by rw[show τ b3=τ b3 from rfl];exact t3)).1;have K6:KeepT w τ w6 τ6:=(KeepT.calm τ (K4.trans hw.out)).trans p2;have hinv:Hid (∃τi Si,St w6 τi s q Si∧KeepT w6 τ6 w6 τi∧Fix S Si∧Si.txs=S.txs∧Si.holder=S.holder∧Si.qv=S.qv∧Si.qu=S.qu):=⟨τ6,S6,p1,KeepT.refl _ _,p3,by rw[p4],by rw[p4],by rw[p4],by rw[p4]⟩
        have hrow6:Hid (∀j,j<hn→∃g,ha=some ⟨g,0,none⟩∧500≤τ6 g∧Own w6 g (j*2) (vI ((S.tx t).L.holds.getD j ⟨0,0⟩).at_)∧Own w6 g (j*2+1) (vI ((S.tx t).L.holds.getD j ⟨0,0⟩).ver)):=fun j hj=>by
          obtain⟨g,c,hv2,ho⟩:=rows_get hdC_len (by decide) (show w4.ownsRow 0 188 2 (.slice ha hn hc') (S.tx t).L.holds.length ((S.tx t).L.holds.flatMap hdC) by rw[hhn.out];exact hrow4.out) ⟨0,0⟩ (i:=j) (by have:=hhn.out;omega);injection hv2 with e1 e2 e3
          have tg:500≤τ g:=by rw[fr g (hvt.out g (by rw[e1];rfl))];omega
          have lt4:g<w4.heap.size:=(ho 0 _ rfl).lt;refine⟨g,e1,by rw[p2.tg g (by have:=hw.out.size;omega)];exact tg,?_⟩;have h0:=p2.own ((ho 0 _ rfl).calm hw.out) tg;have h1:=p2.own ((ho 1 _ rfl).calm hw.out) tg;rw[Nat.add_zero] at h0;exact⟨h0,h1⟩
        have t36:500≤τ6 b3:=by rw[p2.tg b3 (by have:=K4.size;have:=hw.out.size;have:=o3.lt;omega)];exact t3
        have o36:Own w6 b3 0 (pV S.sp):=p2.own ((o3.calm K4).calm hw.out) t3;clear p1 p2 p3 p4 h5 hw z5 z6 hrow4;go_wp2_with fail
        go_loopw [59] (fun z wr=>∃j:Nat,j≤hn∧z=vI j∧Hid (∃τi Si,St wr τi s q Si∧KeepT w6 τ6 wr τi∧Fix S Si∧Si.txs=S.txs∧Si.holder=S.holder∧Si.qv=S.qv∧Si.qu=S.qu)) (fun z _=>hn-(intOf z).toNat)
        case atStart=>exact⟨0,by omega,rfl,hinv⟩
        case round=>
          obtain⟨j,hj,rfl,hw2⟩:=hrel;clear hinv;obtain⟨τi,Si,m1,m2,m3,m4,m5,m6,m7⟩:=hw2.out
          by_cases hlt2:j<hn
          · obtain⟨g,rfl,tg,og,og1⟩:=hrow6.out j hlt2;obtain⟨xx,hxx⟩:∃xx,(S.tx t).L.holds.getD j ⟨0,0⟩=xx:=⟨_,rfl⟩;have hxm:xx∈(S.tx t).L.holds:=by rw[←hxx];exact get_mem _ (by have:=hhn.out;omega)
            obtain⟨xa,xv⟩:=hxo.l.h xx hxm;rw[hxx] at og og1;have u0:=(m2.own og tg).1;have u1:=(m2.own og1 tg).1;have u3:=(m2.own o36 t36).1;obtain⟨ka,og8⟩:=newL wr [vI xx.at_,vI xx.ver] 188;obtain⟨W5,hW5⟩:∃W5,wr.alloc (.cells #[vI xx.at_,vI xx.ver] 188)=W5:=⟨_,rfl⟩;rw[hW5] at ka og8;have u35:=ka.cellAt u3 id;have u8:=(og8 0 _ rfl).1;have orl:=release_is (m1.calm ka) xa (v:Int);rw[m3.sp] at orl;go_wp2_with fail
            clear hW5;refine orl.mono ?_;rintro e w7 ⟨rfl,τ7,S7,n1,n2,n3,-,B',A',n5⟩;have hw7:Hid (∃τi Si,St w7 τi s q Si∧KeepT w6 τ6 w7 τi∧Fix S Si∧Si.txs=S.txs∧Si.holder=S.holder∧Si.qv=S.qv∧Si.qu=S.qu):=⟨τ7,S7,n1,m2.trans ((KeepT.calm τi ka).trans n2),m3.trans n3,by rw[n5];exact m4,by rw[n5];exact m5,by rw[n5];exact m6,by rw[n5];exact m7⟩;clear orl n1 n2 n3 n5 m1 m2 hw2 u0 u1 u3 hxx;go_wp2
            first|exact⟨⟨j+1,by omega,rfl,hw7⟩,by simp[intOf];omega⟩|exact⟨⟨j+1,by omega,rfl,hw7⟩,by simp[intOf]⟩
          · obtain rfl:j=hn:=by omega
            clear m5 m6 m7;have u3:=(m2.own o36 t36).1;have hti:t<Si.txs.length:=by rw[m3.len];exact ht
            have eti:Si.tx t=S.tx t:=by unfold StD.tx;rw[m4]
            have hci:=m1.cells;rw[m3.sp] at hci;have d6:wr.cell? ⟨S.sp,6,none⟩=some (vI Si.holder):=(hci 6 _ rfl).1;have d0:wr.cell? ⟨(S.tx t).xp,0,none⟩=some (vI (t:Int)):=by have:=(m1.txc hti 0 _ rfl).1;rw[eti] at this;exact this
            have KK:=K6.trans m2;clear hrow6 hw2;go_wp2_with fail
            go_quiet (fail)
            have kz:Calm wr (wr.drewN nq):=(Fr.refl _ _).drewN nq
            by_cases hh2:Si.holder=(t:Int)
            · have eh2:(Si.holder==(t:Int))=true:=by simp[hh2]
              have f6:=(hci 6 _ rfl).2;have f7:=(hci 7 _ rfl).2;have d7:=(hci 7 _ rfl).1;have hcd:=hci.calm kz;have F1:Fr (fun b=>b=S.sp) (wr.drewN nq) ((wr.drewN nq).setCell ⟨S.sp,6,none⟩ (vI (-1))):=(Fr.refl (fun b=>b=S.sp) _).setCell (p:=⟨S.sp,6,none⟩) (.inl rfl) _;have hc6:=hcd.set 6 (vI (-1)) (by simp[StD.cs]);have F2:Fr (fun b=>b=S.sp) (wr.drewN nq) (((wr.drewN nq).setCell ⟨S.sp,6,none⟩ (vI (-1))).setCell ⟨S.sp,7,none⟩ (vI (v:Int))):=F1.setCell (p:=⟨S.sp,7,none⟩) (.inl rfl) _;have hc7:=hc6.set 7 (vI (v:Int)) (by simp[StD.cs]);have y6:=(hcd 6 _ rfl).1;have g6:=(hcd 6 _ rfl).2;have y7:=(hc6 7 _ rfl).1;have g7:=(hc6 7 _ rfl).2;obtain⟨hz,kz2⟩:=St.setS' (q':=q) (m1.calm kz) ⟨Si.qv,Si.qu,Si.next,-1,v⟩ (by rw[m3.sp];exact F2) (by rw[m3.sp];exact hc7) rfl rfl m1.ok.nx (by show I64 (-1);decide) hv (Nat.le_refl _);have u38:=(kz2.own ((m2.own o36 t36).calm kz) (by rw[m2.tg _ o36.lt];exact t36)).1;have oen:=end_is hz (t:=t) hti;have ez:(Si.setS ⟨Si.qv,Si.qu,Si.next,-1,v⟩).tx t=S.tx t:=eti;rw[ez,show(Si.setS ⟨Si.qv,Si.qu,Si.next,-1,v⟩).sp=S.sp from m3.sp] at oen;clear hci hcd hc6 hc7 F1 F2 f6 f7 d7 d6 d0;go_wp2_with fail
              refine oen.mono ?_;rintro e w9 ⟨rfl,n9⟩;have hP:ClP w τ s q S NumR (.returned (.tuple #[vI (v:Int),vI 0])) w9:=⟨v,0,rfl,⟨by omega,by omega⟩,by decide,((n9.step ((KK.trans (KeepT.calm τi kz)).trans kz2) (m3.trans (Fix.setS Si _)))).mono (Nat.le_refl _) (Nat.le_refl _) (fun _ _=>by show(0:Int)≠100;decide)⟩;replace hP:=hid hP;clear oen n9 hz kz2 u38 y6 g6 y7 g7;go_wp2
              go_ret2
              exact hP.out
            · have eh2:(Si.holder==(t:Int))=false:=by simpa using hh2
              have oen:=end_is (m1.calm kz) hti;rw[eti,m3.sp] at oen;have u38:=kz.cellAt u3 id;clear hci;go_wp2_with fail
              refine oen.mono ?_;rintro e w9 ⟨rfl,n9⟩;have hP:ClP w τ s q S NumR (.returned (.tuple #[vI (v:Int),vI 0])) w9:=⟨v,0,rfl,⟨by omega,by omega⟩,by decide,(n9.step (KK.trans (KeepT.calm τi kz)) m3).mono (Nat.le_refl _) (Nat.le_refl _) (fun _ _=>by show(0:Int)≠100;decide)⟩;replace hP:=hid hP;clear oen n9 u38 d6 d0;go_wp2
              go_ret2
              exact hP.out
theorem commit1_is (h:St w τ s q S)(hq6:q≤100000){t:Nat}(ht:t<S.txs.length){b3:Nat}(o3:Own w b3 0 (pV S.sp))(t3:500≤τ b3) :
    Calls Tryz.prog 126 #[pV (S.tx t).xp,.pointer (some ⟨b3,0,none⟩)] w (ClP w τ s q S NumR):=by
  obtain⟨τ0,hf,tk,fr⟩:=h.fresh;exact(commit1_is0 hf hq6 fr ht o3 (by rw[tk _ o3.lt];exact t3)).mono fun e w' hp=>hp.retag tk
end
end Go.Proofs.YtdffnjikmkgjkaaGreat
