/- What Does does: a pointer is set (of nobody). -/
import Derived.Test.YtiomemdmhcdpbaaPDoes1
set_option linter.unusedSimpArgs false
set_option linter.unusedVariables false
namespace Go.Proofs.Ytiomemdmhcdpbaa
open Go.RowKit Go.Shelf

section
variable {w : World} {b0 : Nat → Prop} {T : Nat} {BA BB : HB} {A B : HS} {XA XB R S : List Nat} {σ : Nat → Nat}

set_option maxRecDepth 4000 in
set_option maxHeartbeats 16000000 in
theorem does_setptr_zero_5 (h : TwAt w b0 T BA BB A B XA XB R S) (hp : Pair σ A B R S 4) (o : Op10) (hok : o.Ok) (hK : pk o.kd 13 = 5) (hzA : R.getD (pk o.b 4).toNat 0 = 0) (hzB : S.getD (pk o.b 4).toNat 0 = 0) :
    Calls Try.prog 29 #[.pointer (some ⟨T, 0, none⟩), opV o] w (DoesPost w b0 T BA.hp BB.hp σ A B (pk o.kd 13)) := by
  obtain ⟨K, hKe⟩ : ∃ K, pk o.kd 13 = K := ⟨_, rfl⟩
  rw [hKe] at hK ⊢
  replace hzA := hid hzA
  replace hzB := hid hzB
  obtain ⟨okd, oka, okb, oki, okn, ok0, ok1, ok2⟩ := hok
  have hta := h.cellA
  have htb := h.cellB
  have hl : Hid (R.length = 4 ∧ S.length = 4) := ⟨hp.rg.lr, hp.rg.ls⟩
  have hTl := h.cs.lt (by simp [twC])
  have H := hid h
  have HP := hid hp
  have pka := pk_range o.a (n := 4) (by omega)
  have pkb := pk_range o.b (n := 4) (by omega)
  have pki := pk_range o.i (n := 9) (by omega)
  have qa := hid (fun W => pick10 o.a 4 W oka (by omega))
  have qb := hid (fun W => pick10 o.b 4 W okb (by omega))
  have qi := hid (fun W => pick10 o.i 9 W oki (by omega))
  have qk := hid (fun W => pick10 o.kd 13 W okd (by omega))
  obtain ⟨ia, hia⟩ : ∃ k : Nat, pk o.a 4 = k := ⟨(pk o.a 4).toNat, by omega⟩
  obtain ⟨ib, hib⟩ : ∃ k : Nat, pk o.b 4 = k := ⟨(pk o.b 4).toNat, by omega⟩
  obtain ⟨ii, hii⟩ : ∃ k : Nat, pk o.i 9 = k := ⟨(pk o.i 9).toNat, by omega⟩
  rw [hia] at qa pka; rw [hib] at qb pkb; rw [hii] at qi pki
  have hia4 : ia < 4 := by omega
  have hib4 : ib < 4 := by omega
  have hii9 : ii < 9 := by omega
  have hne1 : T ≠ w.heap.size := by omega
  have hne2 : w.heap.size ≠ T := by omega
  have hiae : (pk o.a 4).toNat = ia := by rw [hia]; rfl
  have hibe : (pk o.b 4).toNat = ib := by rw [hib]; rfl
  have hiie : (pk o.i 9).toNat = ii := by rw [hii]; rfl
  clear pka pkb pki hia hib hii h hp
  go_enter Try.func29, Try.ntmps29
  go_wp2_with fail
  have k1 : Calm w (w.alloc (.cells #[.int .i64 o.kd, .int .i64 o.a, .int .i64 o.b, .int .i64 o.i, .int .i64 o.n, .int .i64 o.s0, .int .i64 o.s1, .int .i64 o.s2] 55)) := (Fr.refl _ _).alloc _
  have o3 := OwnL.new w [.int .i64 o.kd, .int .i64 o.a, .int .i64 o.b, .int .i64 o.i, .int .i64 o.n, .int .i64 o.s0, .int .i64 o.s1, .int .i64 o.s2] 55
  refine (qa.out _).mono ?_
  rintro e w1 ⟨rfl, rfl⟩
  go_wp2_with fail
  refine (qb.out _).mono ?_
  rintro e w1 ⟨rfl, rfl⟩
  go_wp2_with fail
  refine (qi.out _).mono ?_
  rintro e w1 ⟨rfl, rfl⟩
  go_wp2_with fail
  refine (qk.out _).mono ?_
  rintro e w1 ⟨rfl, rfl⟩
  replace hta := k1.cellAt hta id
  replace htb := k1.cellAt htb id
  replace H := hid (H.out.calm k1)
  generalize World.alloc w _ = w1 at *
  replace o3 := hid o3
  replace k1 := hid k1
  clear qa qb qi qk
  rw [hKe]
  clear hKe
  have hTs : T < w1.heap.size := H.out.cs.lt (by simp [twC])
  have ne3 : T ≠ w1.heap.size := by omega
  have hib5 : ((ib : Nat) : Int) < 4 := by omega
  have hia5 : ((ia : Nat) : Int) < 4 := by omega
  have ne4 : w1.heap.size ≠ T := by omega
  subst hK
  have y0 := hta
  have y1 := (H.out.cellR hl.out hib4).1
  have y2 := (H.out.cellR hl.out hia4).1
  have y3 := htb
  have y4 := (H.out.cellS hl.out hib4).1
  have y5 := (H.out.cellS hl.out hia4).1
  obtain ⟨RA, hRA⟩ : ∃ RA, R.getD ib 0 = RA := ⟨_, rfl⟩
  obtain ⟨RV, hRV⟩ : ∃ RV, R.getD ia 0 = RV := ⟨_, rfl⟩
  obtain ⟨SB, hSB⟩ : ∃ SB, S.getD ib 0 = SB := ⟨_, rfl⟩
  obtain ⟨SV, hSV⟩ : ∃ SV, S.getD ia 0 = SV := ⟨_, rfl⟩
  rw [hRA] at y1
  rw [hRV] at y2
  rw [hSB] at y4
  rw [hSV] at y5
  have hRA0 : RA = 0 := by rw [← hRA, ← hibe]; exact hzA.out
  have hSB0 : SB = 0 := by rw [← hSB, ← hibe]; exact hzB.out
  have hCA := fun W (cw : Calm w1 W) (v : Int) => hsetptr_no (H.out.ha.calm cw) (a := (RA : Nat)) ⟨by omega, by omega⟩ (fun e => by
    obtain ⟨i, o, c⟩ := CurAt.of_mem (mem_nI.1 e)
    have := HP.out.tw.wa.posC _ c.mem'
    simp only at this; omega) (ii : Int) v
  have hCB := fun W (cw : Calm w1 W) (v : Int) => hsetptr_no (H.out.hb.calm cw) (a := (SB : Nat)) ⟨by omega, by omega⟩ (fun e => by
    obtain ⟨i, o, c⟩ := CurAt.of_mem (mem_nI.1 e)
    have := HP.out.tw.wb.posC _ c.mem'
    simp only at this; omega) (ii : Int) v
  replace hCA := hid hCA
  replace hCB := hid hCB
  replace hRA := hid hRA; replace hSB := hid hSB; replace hRV := hid hRV; replace hSV := hid hSV
  replace hRA0 := hid hRA0; replace hSB0 := hid hSB0
  clear hta htb
  have tokA : True := trivial
  go_wp2_with fail
  go_region_held3 (fun w' => w'.cell? ⟨T, 0, none⟩ = some (hpV BA) ∧ w'.cell? ⟨T, 2 + ib, none⟩ = some (.int .i64 (RA : Nat)) ∧ w'.cell? ⟨T, 2 + ia, none⟩ = some (.int .i64 (RV : Nat)) ∧ w'.cell? ⟨T, 1, none⟩ = some (hpV BB) ∧ w'.cell? ⟨T, 6 + ib, none⟩ = some (.int .i64 (SB : Nat)) ∧ w'.cell? ⟨T, 6 + ia, none⟩ = some (.int .i64 (SV : Nat))) (go_keep)
    (first | (have _t := tokA; go_at_call 21; refine (hCA.out _ (by first | exact Fr.refl _ _ | exact (Fr.refl _ _).drew) _).mono ?_; rintro e w6 ⟨rfl, c6⟩; have ka : Calm w1 w6 := Fr.trans (by first | exact Fr.refl _ _ | exact (Fr.refl _ _).drew) c6; have z0 := ka.cellAt y0 id; have z1 := ka.cellAt y1 id; have z2 := ka.cellAt y2 id; have z3 := ka.cellAt y3 id; have z4 := ka.cellAt y4 id; have z5 := ka.cellAt y5 id; clear tokA; have tokB : True := trivial) | (have _t := tokB; go_at_call 21; refine (hCB.out _ (ka.trans (by first | exact Fr.refl _ _ | exact (Fr.refl _ _).drew)) _).mono ?_; rintro e w8 ⟨rfl, c8⟩; have kb : Calm w6 w8 := Fr.trans (by first | exact Fr.refl _ _ | exact (Fr.refl _ _).drew) c8; have u0 := kb.cellAt z0 id; have u1 := kb.cellAt z1 id; have u2 := kb.cellAt z2 id; have u3 := kb.cellAt z3 id; have u4 := kb.cellAt z4 id; have u5 := kb.cellAt z5 id))
  have hD := hid (DoesOk.same (K := 5) ((k1.out.trans ka).trans kb) ((H.out.calm ka).calm kb) HP.out)
  go_wp2
  go_ret
  exact ⟨rfl, hD.out⟩

set_option maxRecDepth 4000 in
set_option maxHeartbeats 16000000 in
theorem does_setptr_zero_6 (h : TwAt w b0 T BA BB A B XA XB R S) (hp : Pair σ A B R S 4) (o : Op10) (hok : o.Ok) (hK : pk o.kd 13 = 6) (hzA : R.getD (pk o.b 4).toNat 0 = 0) (hzB : S.getD (pk o.b 4).toNat 0 = 0) :
    Calls Try.prog 29 #[.pointer (some ⟨T, 0, none⟩), opV o] w (DoesPost w b0 T BA.hp BB.hp σ A B (pk o.kd 13)) := by
  obtain ⟨K, hKe⟩ : ∃ K, pk o.kd 13 = K := ⟨_, rfl⟩
  rw [hKe] at hK ⊢
  replace hzA := hid hzA
  replace hzB := hid hzB
  obtain ⟨okd, oka, okb, oki, okn, ok0, ok1, ok2⟩ := hok
  have hta := h.cellA
  have htb := h.cellB
  have hl : Hid (R.length = 4 ∧ S.length = 4) := ⟨hp.rg.lr, hp.rg.ls⟩
  have hTl := h.cs.lt (by simp [twC])
  have H := hid h
  have HP := hid hp
  have pka := pk_range o.a (n := 4) (by omega)
  have pkb := pk_range o.b (n := 4) (by omega)
  have pki := pk_range o.i (n := 9) (by omega)
  have qa := hid (fun W => pick10 o.a 4 W oka (by omega))
  have qb := hid (fun W => pick10 o.b 4 W okb (by omega))
  have qi := hid (fun W => pick10 o.i 9 W oki (by omega))
  have qk := hid (fun W => pick10 o.kd 13 W okd (by omega))
  obtain ⟨ia, hia⟩ : ∃ k : Nat, pk o.a 4 = k := ⟨(pk o.a 4).toNat, by omega⟩
  obtain ⟨ib, hib⟩ : ∃ k : Nat, pk o.b 4 = k := ⟨(pk o.b 4).toNat, by omega⟩
  obtain ⟨ii, hii⟩ : ∃ k : Nat, pk o.i 9 = k := ⟨(pk o.i 9).toNat, by omega⟩
  rw [hia] at qa pka; rw [hib] at qb pkb; rw [hii] at qi pki
  have hia4 : ia < 4 := by omega
  have hib4 : ib < 4 := by omega
  have hii9 : ii < 9 := by omega
  have hne1 : T ≠ w.heap.size := by omega
  have hne2 : w.heap.size ≠ T := by omega
  have hiae : (pk o.a 4).toNat = ia := by rw [hia]; rfl
  have hibe : (pk o.b 4).toNat = ib := by rw [hib]; rfl
  have hiie : (pk o.i 9).toNat = ii := by rw [hii]; rfl
  clear pka pkb pki hia hib hii h hp
  go_enter Try.func29, Try.ntmps29
  go_wp2_with fail
  have k1 : Calm w (w.alloc (.cells #[.int .i64 o.kd, .int .i64 o.a, .int .i64 o.b, .int .i64 o.i, .int .i64 o.n, .int .i64 o.s0, .int .i64 o.s1, .int .i64 o.s2] 55)) := (Fr.refl _ _).alloc _
  have o3 := OwnL.new w [.int .i64 o.kd, .int .i64 o.a, .int .i64 o.b, .int .i64 o.i, .int .i64 o.n, .int .i64 o.s0, .int .i64 o.s1, .int .i64 o.s2] 55
  refine (qa.out _).mono ?_
  rintro e w1 ⟨rfl, rfl⟩
  go_wp2_with fail
  refine (qb.out _).mono ?_
  rintro e w1 ⟨rfl, rfl⟩
  go_wp2_with fail
  refine (qi.out _).mono ?_
  rintro e w1 ⟨rfl, rfl⟩
  go_wp2_with fail
  refine (qk.out _).mono ?_
  rintro e w1 ⟨rfl, rfl⟩
  replace hta := k1.cellAt hta id
  replace htb := k1.cellAt htb id
  replace H := hid (H.out.calm k1)
  generalize World.alloc w _ = w1 at *
  replace o3 := hid o3
  replace k1 := hid k1
  clear qa qb qi qk
  rw [hKe]
  clear hKe
  have hTs : T < w1.heap.size := H.out.cs.lt (by simp [twC])
  have ne3 : T ≠ w1.heap.size := by omega
  have hib5 : ((ib : Nat) : Int) < 4 := by omega
  have hia5 : ((ia : Nat) : Int) < 4 := by omega
  have ne4 : w1.heap.size ≠ T := by omega
  subst hK
  have y0 := hta
  have y1 := (H.out.cellR hl.out hib4).1
  have y2 := (H.out.cellR hl.out hia4).1
  have y3 := htb
  have y4 := (H.out.cellS hl.out hib4).1
  have y5 := (H.out.cellS hl.out hia4).1
  obtain ⟨RA, hRA⟩ : ∃ RA, R.getD ib 0 = RA := ⟨_, rfl⟩
  obtain ⟨RV, hRV⟩ : ∃ RV, R.getD ia 0 = RV := ⟨_, rfl⟩
  obtain ⟨SB, hSB⟩ : ∃ SB, S.getD ib 0 = SB := ⟨_, rfl⟩
  obtain ⟨SV, hSV⟩ : ∃ SV, S.getD ia 0 = SV := ⟨_, rfl⟩
  rw [hRA] at y1
  rw [hRV] at y2
  rw [hSB] at y4
  rw [hSV] at y5
  have hRA0 : RA = 0 := by rw [← hRA, ← hibe]; exact hzA.out
  have hSB0 : SB = 0 := by rw [← hSB, ← hibe]; exact hzB.out
  have hCA := fun W (cw : Calm w1 W) (v : Int) => hsetptr_no (H.out.ha.calm cw) (a := (RA : Nat)) ⟨by omega, by omega⟩ (fun e => by
    obtain ⟨i, o, c⟩ := CurAt.of_mem (mem_nI.1 e)
    have := HP.out.tw.wa.posC _ c.mem'
    simp only at this; omega) (ii : Int) v
  have hCB := fun W (cw : Calm w1 W) (v : Int) => hsetptr_no (H.out.hb.calm cw) (a := (SB : Nat)) ⟨by omega, by omega⟩ (fun e => by
    obtain ⟨i, o, c⟩ := CurAt.of_mem (mem_nI.1 e)
    have := HP.out.tw.wb.posC _ c.mem'
    simp only at this; omega) (ii : Int) v
  replace hCA := hid hCA
  replace hCB := hid hCB
  replace hRA := hid hRA; replace hSB := hid hSB; replace hRV := hid hRV; replace hSV := hid hSV
  replace hRA0 := hid hRA0; replace hSB0 := hid hSB0
  clear hta htb
  have tokA : True := trivial
  go_wp2_with fail
  go_region_held3 (fun w' => w'.cell? ⟨T, 0, none⟩ = some (hpV BA) ∧ w'.cell? ⟨T, 2 + ib, none⟩ = some (.int .i64 (RA : Nat)) ∧ w'.cell? ⟨T, 2 + ia, none⟩ = some (.int .i64 (RV : Nat)) ∧ w'.cell? ⟨T, 1, none⟩ = some (hpV BB) ∧ w'.cell? ⟨T, 6 + ib, none⟩ = some (.int .i64 (SB : Nat)) ∧ w'.cell? ⟨T, 6 + ia, none⟩ = some (.int .i64 (SV : Nat))) (go_keep)
    (first | (have _t := tokA; go_at_call 21; refine (hCA.out _ (by first | exact Fr.refl _ _ | exact (Fr.refl _ _).drew) _).mono ?_; rintro e w6 ⟨rfl, c6⟩; have ka : Calm w1 w6 := Fr.trans (by first | exact Fr.refl _ _ | exact (Fr.refl _ _).drew) c6; have z0 := ka.cellAt y0 id; have z1 := ka.cellAt y1 id; have z2 := ka.cellAt y2 id; have z3 := ka.cellAt y3 id; have z4 := ka.cellAt y4 id; have z5 := ka.cellAt y5 id; clear tokA; have tokB : True := trivial) | (have _t := tokB; go_at_call 21; refine (hCB.out _ (ka.trans (by first | exact Fr.refl _ _ | exact (Fr.refl _ _).drew)) _).mono ?_; rintro e w8 ⟨rfl, c8⟩; have kb : Calm w6 w8 := Fr.trans (by first | exact Fr.refl _ _ | exact (Fr.refl _ _).drew) c8; have u0 := kb.cellAt z0 id; have u1 := kb.cellAt z1 id; have u2 := kb.cellAt z2 id; have u3 := kb.cellAt z3 id; have u4 := kb.cellAt z4 id; have u5 := kb.cellAt z5 id))
  have hD := hid (DoesOk.same (K := 6) ((k1.out.trans ka).trans kb) ((H.out.calm ka).calm kb) HP.out)
  go_wp2
  go_ret
  exact ⟨rfl, hD.out⟩

set_option maxRecDepth 4000 in
set_option maxHeartbeats 16000000 in
theorem does_setptr_zero_7 (h : TwAt w b0 T BA BB A B XA XB R S) (hp : Pair σ A B R S 4) (o : Op10) (hok : o.Ok) (hK : pk o.kd 13 = 7) (hzA : R.getD (pk o.b 4).toNat 0 = 0) (hzB : S.getD (pk o.b 4).toNat 0 = 0) :
    Calls Try.prog 29 #[.pointer (some ⟨T, 0, none⟩), opV o] w (DoesPost w b0 T BA.hp BB.hp σ A B (pk o.kd 13)) := by
  obtain ⟨K, hKe⟩ : ∃ K, pk o.kd 13 = K := ⟨_, rfl⟩
  rw [hKe] at hK ⊢
  replace hzA := hid hzA
  replace hzB := hid hzB
  obtain ⟨okd, oka, okb, oki, okn, ok0, ok1, ok2⟩ := hok
  have hta := h.cellA
  have htb := h.cellB
  have hl : Hid (R.length = 4 ∧ S.length = 4) := ⟨hp.rg.lr, hp.rg.ls⟩
  have hTl := h.cs.lt (by simp [twC])
  have H := hid h
  have HP := hid hp
  have pka := pk_range o.a (n := 4) (by omega)
  have pkb := pk_range o.b (n := 4) (by omega)
  have pki := pk_range o.i (n := 9) (by omega)
  have qa := hid (fun W => pick10 o.a 4 W oka (by omega))
  have qb := hid (fun W => pick10 o.b 4 W okb (by omega))
  have qi := hid (fun W => pick10 o.i 9 W oki (by omega))
  have qk := hid (fun W => pick10 o.kd 13 W okd (by omega))
  obtain ⟨ia, hia⟩ : ∃ k : Nat, pk o.a 4 = k := ⟨(pk o.a 4).toNat, by omega⟩
  obtain ⟨ib, hib⟩ : ∃ k : Nat, pk o.b 4 = k := ⟨(pk o.b 4).toNat, by omega⟩
  obtain ⟨ii, hii⟩ : ∃ k : Nat, pk o.i 9 = k := ⟨(pk o.i 9).toNat, by omega⟩
  rw [hia] at qa pka; rw [hib] at qb pkb; rw [hii] at qi pki
  have hia4 : ia < 4 := by omega
  have hib4 : ib < 4 := by omega
  have hii9 : ii < 9 := by omega
  have hne1 : T ≠ w.heap.size := by omega
  have hne2 : w.heap.size ≠ T := by omega
  have hiae : (pk o.a 4).toNat = ia := by rw [hia]; rfl
  have hibe : (pk o.b 4).toNat = ib := by rw [hib]; rfl
  have hiie : (pk o.i 9).toNat = ii := by rw [hii]; rfl
  clear pka pkb pki hia hib hii h hp
  go_enter Try.func29, Try.ntmps29
  go_wp2_with fail
  have k1 : Calm w (w.alloc (.cells #[.int .i64 o.kd, .int .i64 o.a, .int .i64 o.b, .int .i64 o.i, .int .i64 o.n, .int .i64 o.s0, .int .i64 o.s1, .int .i64 o.s2] 55)) := (Fr.refl _ _).alloc _
  have o3 := OwnL.new w [.int .i64 o.kd, .int .i64 o.a, .int .i64 o.b, .int .i64 o.i, .int .i64 o.n, .int .i64 o.s0, .int .i64 o.s1, .int .i64 o.s2] 55
  refine (qa.out _).mono ?_
  rintro e w1 ⟨rfl, rfl⟩
  go_wp2_with fail
  refine (qb.out _).mono ?_
  rintro e w1 ⟨rfl, rfl⟩
  go_wp2_with fail
  refine (qi.out _).mono ?_
  rintro e w1 ⟨rfl, rfl⟩
  go_wp2_with fail
  refine (qk.out _).mono ?_
  rintro e w1 ⟨rfl, rfl⟩
  replace hta := k1.cellAt hta id
  replace htb := k1.cellAt htb id
  replace H := hid (H.out.calm k1)
  generalize World.alloc w _ = w1 at *
  replace o3 := hid o3
  replace k1 := hid k1
  clear qa qb qi qk
  rw [hKe]
  clear hKe
  have hTs : T < w1.heap.size := H.out.cs.lt (by simp [twC])
  have ne3 : T ≠ w1.heap.size := by omega
  have hib5 : ((ib : Nat) : Int) < 4 := by omega
  have hia5 : ((ia : Nat) : Int) < 4 := by omega
  have ne4 : w1.heap.size ≠ T := by omega
  subst hK
  have y0 := hta
  have y1 := (H.out.cellR hl.out hib4).1
  have y2 := (H.out.cellR hl.out hia4).1
  have y3 := htb
  have y4 := (H.out.cellS hl.out hib4).1
  have y5 := (H.out.cellS hl.out hia4).1
  obtain ⟨RA, hRA⟩ : ∃ RA, R.getD ib 0 = RA := ⟨_, rfl⟩
  obtain ⟨RV, hRV⟩ : ∃ RV, R.getD ia 0 = RV := ⟨_, rfl⟩
  obtain ⟨SB, hSB⟩ : ∃ SB, S.getD ib 0 = SB := ⟨_, rfl⟩
  obtain ⟨SV, hSV⟩ : ∃ SV, S.getD ia 0 = SV := ⟨_, rfl⟩
  rw [hRA] at y1
  rw [hRV] at y2
  rw [hSB] at y4
  rw [hSV] at y5
  have hRA0 : RA = 0 := by rw [← hRA, ← hibe]; exact hzA.out
  have hSB0 : SB = 0 := by rw [← hSB, ← hibe]; exact hzB.out
  have hCA := fun W (cw : Calm w1 W) (v : Int) => hsetptr_no (H.out.ha.calm cw) (a := (RA : Nat)) ⟨by omega, by omega⟩ (fun e => by
    obtain ⟨i, o, c⟩ := CurAt.of_mem (mem_nI.1 e)
    have := HP.out.tw.wa.posC _ c.mem'
    simp only at this; omega) (ii : Int) v
  have hCB := fun W (cw : Calm w1 W) (v : Int) => hsetptr_no (H.out.hb.calm cw) (a := (SB : Nat)) ⟨by omega, by omega⟩ (fun e => by
    obtain ⟨i, o, c⟩ := CurAt.of_mem (mem_nI.1 e)
    have := HP.out.tw.wb.posC _ c.mem'
    simp only at this; omega) (ii : Int) v
  replace hCA := hid hCA
  replace hCB := hid hCB
  replace hRA := hid hRA; replace hSB := hid hSB; replace hRV := hid hRV; replace hSV := hid hSV
  replace hRA0 := hid hRA0; replace hSB0 := hid hSB0
  clear hta htb
  have tokA : True := trivial
  go_wp2_with fail
  go_region_held3 (fun w' => w'.cell? ⟨T, 0, none⟩ = some (hpV BA) ∧ w'.cell? ⟨T, 2 + ib, none⟩ = some (.int .i64 (RA : Nat)) ∧ w'.cell? ⟨T, 2 + ia, none⟩ = some (.int .i64 (RV : Nat)) ∧ w'.cell? ⟨T, 1, none⟩ = some (hpV BB) ∧ w'.cell? ⟨T, 6 + ib, none⟩ = some (.int .i64 (SB : Nat)) ∧ w'.cell? ⟨T, 6 + ia, none⟩ = some (.int .i64 (SV : Nat))) (go_keep)
    (first | (have _t := tokA; go_at_call 21; refine (hCA.out _ (by first | exact Fr.refl _ _ | exact (Fr.refl _ _).drew) _).mono ?_; rintro e w6 ⟨rfl, c6⟩; have ka : Calm w1 w6 := Fr.trans (by first | exact Fr.refl _ _ | exact (Fr.refl _ _).drew) c6; have z0 := ka.cellAt y0 id; have z1 := ka.cellAt y1 id; have z2 := ka.cellAt y2 id; have z3 := ka.cellAt y3 id; have z4 := ka.cellAt y4 id; have z5 := ka.cellAt y5 id; clear tokA; have tokB : True := trivial) | (have _t := tokB; go_at_call 21; refine (hCB.out _ (ka.trans (by first | exact Fr.refl _ _ | exact (Fr.refl _ _).drew)) _).mono ?_; rintro e w8 ⟨rfl, c8⟩; have kb : Calm w6 w8 := Fr.trans (by first | exact Fr.refl _ _ | exact (Fr.refl _ _).drew) c8; have u0 := kb.cellAt z0 id; have u1 := kb.cellAt z1 id; have u2 := kb.cellAt z2 id; have u3 := kb.cellAt z3 id; have u4 := kb.cellAt z4 id; have u5 := kb.cellAt z5 id))
  have hD := hid (DoesOk.same (K := 7) ((k1.out.trans ka).trans kb) ((H.out.calm ka).calm kb) HP.out)
  go_wp2
  go_ret
  exact ⟨rfl, hD.out⟩

end

end Go.Proofs.Ytiomemdmhcdpbaa
