/- WordSets returns true, whatever the input. -/
import Derived.Test.YtlocklcldalklaaWLaw
set_option linter.unusedSimpArgs false
set_option linter.unusedVariables false
namespace Go.Proofs.Ytlocklcldalklaa
open Go.RowKit Go.Shelf
attribute [local go_sem] Oper.semAt_some

theorem mask_nat (s d : Nat) (h1 : 1 ≤ d) (h2 : s + d ≤ 64) (w : World) :
    Calls Try.prog 12 #[partV s d] w fun e w' => e = .returned (wV (mk s d)) ∧ Calm w w' := by
  have := mask_yes s d w (by omega) (by omega) (by omega)
  simpa only [Int.toNat_natCast] using this
theorem get_nat (X s d : Nat) (hX : X < 18446744073709551616) (h1 : 1 ≤ d) (h2 : s + d ≤ 64) (w : World) :
    Calls Try.prog 14 #[wV X, partV s d] w fun e w' => e = .returned (wV (gt X s d)) ∧ Calm w w' := by
  have := get_yes X hX s d w (by omega) (by omega) (by omega)
  simpa only [Int.toNat_natCast] using this

set_option maxRecDepth 100000 in
set_option maxHeartbeats 1000000 in
theorem wordSets_walk (W : Int) (hW : 0 ≤ W ∧ W ≤ 18446744073709551615) (V : Int) (hV : 0 ≤ V ∧ V ≤ 18446744073709551615) (xs : List Int) (hx : xs.length = 2) (hxb : ∀ x ∈ xs, I64 x) (ys : List Int) (hy : ys.length = 2) (hyb : ∀ x ∈ ys, I64 x) (w : World) :
    Calls Try.prog 3 #[.int .u64 W, .int .u64 V, .agg (xs.map (Value.int .i64)).toArray, .agg (ys.map (Value.int .i64)).toArray] w fun e w' => e = .returned (.bool true) ∧ Below w.heap.size w w' := by
  obtain ⟨a0, a1, rfl⟩ : ∃ a b, xs = [a, b] := by
    match xs, hx with
    | [a, b], _ => exact ⟨a, b, rfl⟩
  obtain ⟨b0, b1, rfl⟩ : ∃ a b, ys = [a, b] := by
    match ys, hy with
    | [a, b], _ => exact ⟨a, b, rfl⟩
  have ha0 := hxb a0 (by simp)
  have ha1 := hxb a1 (by simp)
  have hb0 := hyb b0 (by simp)
  have hb1 := hyb b1 (by simp)
  clear hx hxb hy hyb
  obtain ⟨W1, W2⟩ := hW
  obtain ⟨V1, V2⟩ := hV
  obtain ⟨W, rfl⟩ := Int.eq_ofNat_of_zero_le W1
  obtain ⟨V, rfl⟩ := Int.eq_ofNat_of_zero_le V1
  have hW : W < 18446744073709551616 := by omega
  have hV : V < 18446744073709551616 := by omega
  clear W1 W2 V1 V2
  simp only [List.map_cons, List.map_nil]
  obtain ⟨s1, s2⟩ := pk_range a0 (n := 64) (by decide)
  obtain ⟨s, hs⟩ := Int.eq_ofNat_of_zero_le s1
  rw [hs] at s2
  obtain ⟨d1, d2⟩ := pk_range a1 (n := 64 - s) (by omega)
  obtain ⟨d, hd⟩ : ∃ d : Nat, 1 + pk a1 (64 - s) = d := ⟨(1 + pk a1 (64 - s)).toNat, by omega⟩
  have hd1 : 1 ≤ d := by omega
  have hd2 : s + d ≤ 64 := by omega
  obtain ⟨t1, t2⟩ := pk_range b0 (n := 64) (by decide)
  obtain ⟨z, hz⟩ := Int.eq_ofNat_of_zero_le t1
  rw [hz] at t2
  obtain ⟨r1, r2⟩ := pk_range b1 (n := 64 - z) (by omega)
  obtain ⟨r, hr⟩ : ∃ r : Nat, 1 + pk b1 (64 - z) = r := ⟨(1 + pk b1 (64 - z)).toNat, by omega⟩
  have hr1 : 1 ≤ r := by omega
  have hr2 : z + r ≤ 64 := by omega
  clear s1 s2 d1 d2 t1 t2 r1 r2
  have fp := fit01 a0 a1 ha0 ha1
  have fq := fit01 b0 b1 hb0 hb1
  rw [hs, hd] at fp
  rw [hz, hr] at fq
  replace hs := hid hs
  replace hd := hid hd
  replace hz := hid hz
  replace hr := hid hr
  have mp := fun w => mask_yes s d w (by omega) (by omega) (by omega)
  have mq := fun w => mask_yes z r w (by omega) (by omega) (by omega)
  have gp := fun (X : Nat) (hX : X < 18446744073709551616) w => get_yes X hX s d w (by omega) (by omega) (by omega)
  have gq := fun (X : Nat) (hX : X < 18446744073709551616) w => get_yes X hX z r w (by omega) (by omega) (by omega)
  have sp := fun (X v : Nat) (hX : X < 18446744073709551616) (hv : v < 2 ^ d) w => set_yes X v hX s d w (by omega) (by omega) (by omega) (by simpa using hv)
  simp only [Int.toNat_natCast] at mp mq gp gq sp
  have hmd := mk_down s d
  have hml := mk_lt (s := s) (d := d) (by omega)
  have hmz := mk_lt (s := z) (d := r) (by omega)
  have hdv : ((mk s d : Nat) : Int) / 2 ^ s = ((2 ^ d - 1 : Nat) : Int) := by rw [← hmd]; push_cast; rfl
  have h2d : 2 ^ d ≤ 18446744073709551616 := by rw [← two64]; exact pow_le (by omega)
  have h2p : 0 < 2 ^ d := Nat.two_pow_pos d
  have hU0 := u64_and_nat V (2 ^ d - 1) hV (by omega)
  have hu : V &&& (2 ^ d - 1) < 2 ^ d := by have := @Nat.and_le_right V (2 ^ d - 1); omega
  generalize hUe : V &&& (2 ^ d - 1) = U at *
  generalize hM : 2 ^ d - 1 = M at *
  replace hUe := hid hUe
  replace hM := hid hM
  replace hmd := hid hmd
  have l1 := gt_st (s := s) hd2 hW hu
  have l2 := st_back (s := s) hd2 hW hu
  have l3 := fun h => gt_st_apart (s' := z) (d' := r) (s := s) hd2 hW hu h
  have l4 := mk_meet (s := s) (d := d) (s' := z) (d' := r) hd1 hr1
  have l5 := st_lt (s := s) hd2 hW hu
  have l6 := u64_and_nat _ _ hml hmz
  have l7 := gt_lt W s d
  generalize hX : st W s d U = X at *
  go_enter Try.func3, Try.ntmps3
  go_wp2_with fail
  refine (awake01 _).mono ?_
  rintro e w1 ⟨rfl, c1⟩
  have p1 : w.heap.size < w1.heap.size := by have := c1.size; simp at this; omega
  have x0 := ((((OwnL.new w [.int .i64 a0, .int .i64 a1] 23).alloc _).calm c1) 0 _ rfl).1
  have x1 := ((((OwnL.new w [.int .i64 a0, .int .i64 a1] 23).alloc _).calm c1) 1 _ rfl).1
  have y0 := ((((OwnL.at (w.alloc (.cells #[.int .i64 a0, .int .i64 a1] 23)) [.int .i64 b0, .int .i64 b1] 23 (w.heap.size + 1) (by simp))).calm c1) 0 _ rfl)
  have y1 := ((((OwnL.at (w.alloc (.cells #[.int .i64 a0, .int .i64 a1] 23)) [.int .i64 b0, .int .i64 b1] 23 (w.heap.size + 1) (by simp))).calm c1) 1 _ rfl)
  replace c1 := (((Fr.refl (fun _ => False) w).alloc _).alloc _).trans c1
  go_wp2_with fail
  refine (fp _).mono ?_
  rintro e w2 ⟨rfl, c2⟩
  have y0' := (y0.fr c2 id).alloc (.cells #[.int .i64 s, .int .i64 d] 26)
  have y1' := (y1.fr c2 id).alloc (.cells #[.int .i64 s, .int .i64 d] 26)
  have P0 := OwnL.new w2 [.int .i64 s, .int .i64 d] 26
  have y0c := y0'.1
  have y1c := y1'.1
  clear x0 x1 y0 y1
  go_wp2_with fail
  refine (fq _).mono ?_
  rintro e w3 ⟨rfl, c3⟩
  have P1 := (P0.calm c3).alloc (.cells #[.int .i64 z, .int .i64 r] 26)
  have Q1 := OwnL.new w3 [.int .i64 z, .int .i64 r] 26
  have cc : Calm w (w3.alloc (.cells #[.int .i64 z, .int .i64 r] 26)) := ((((c1.trans c2).alloc _).trans c3).alloc _)
  clear y0' y1' y0c y1c P0
  go_wp2_with fail
  generalize hW4 : (w3.alloc (.cells #[.int .i64 z, .int .i64 r] 26)) = W4 at *
  clear hW4 c3 c1 c2
  generalize w2.heap.size = B at *
  generalize w3.heap.size = C at *
  have q1 : ∀ x : Later W4, x.w.cell? ⟨B, 0, none⟩ = some (.int .i64 s) := fun x => x.cell (P1 0 _ rfl).1
  have q2 : ∀ x : Later W4, x.w.cell? ⟨B, 1, none⟩ = some (.int .i64 d) := fun x => x.cell (P1 1 _ rfl).1
  refine wp_region_calm (by kernel_rfl) (by kernel_rfl) ?_
  repeat (go_big_quiet_step ((go_at_call 12; exact Calls.calm_of (mp _))))
  refine wpQuiet_nil ?_
  intro W5 hw'
  have c2 := Later.out hw'
  clear hw' q1 q2
  replace P1 := P1.calm c2
  replace Q1 := Q1.calm c2
  replace cc := cc.trans c2
  clear c2
  have b0 := (P1 0 _ rfl).1
  have b1 := (P1 1 _ rfl).1
  go_wp2_with fail
  refine (sp W U hW hu _).mono ?_
  rintro e W6 ⟨rfl, c2⟩
  rw [hX]
  clear b0 b1
  replace P1 := P1.calm c2
  replace Q1 := Q1.calm c2
  replace cc := cc.trans c2
  have b0 := (P1 0 _ rfl).1
  have b1 := (P1 1 _ rfl).1
  have b2 := (Q1 0 _ rfl).1
  have b3 := (Q1 1 _ rfl).1
  clear c2
  go_wp2_with fail
  refine (gp X l5 _).mono ?_
  rintro e W7 ⟨rfl, c2⟩
  rw [l1]
  clear b0 b1 b2 b3
  replace P1 := P1.calm c2
  replace Q1 := Q1.calm c2
  replace cc := cc.trans c2
  have b0 := (P1 0 _ rfl).1
  have b1 := (P1 1 _ rfl).1
  have b2 := (Q1 0 _ rfl).1
  have b3 := (Q1 1 _ rfl).1
  clear c2
  replace l4 := hid l4
  replace l3 := hid l3
  replace l2 := hid l2
  obtain ⟨ap, hap⟩ : ∃ ap, decide (s + d ≤ z ∨ z + r ≤ s) = ap := ⟨_, rfl⟩
  have g9 : ((bits .and .u64 (mk s d : Nat) (mk z r : Nat)) == 0) = ap := by
    rw [l6, ← hap]
    rw [Bool.eq_iff_iff]
    simp [l4.out]
  have sb := sp X (gt W s d) l5 l7
  rw [l2.out] at sb
  clear sp l1 hX hU0 hdv l6
  rcases ap with _ | _
  · have hno : ¬ (s + d ≤ z ∨ z + r ≤ s) := of_decide_eq_false hap
    have h1 : ¬ ((s : Int) + d ≤ z) := by omega
    have h2 : ¬ ((z : Int) + r ≤ s) := by omega
    have k1 : decide ((s : Int) + d ≤ z) = false := decide_eq_false h1
    have k2 : decide ((z : Int) + r ≤ s) = false := decide_eq_false h2
    clear hap l3 l4 hno
    go_wp2_with fail
    clear b0 b1 b2 b3
    have q1 : ∀ x : Later W7, x.w.cell? ⟨B, 0, none⟩ = some (.int .i64 s) := fun x => x.cell (P1 0 _ rfl).1
    have q2 : ∀ x : Later W7, x.w.cell? ⟨B, 1, none⟩ = some (.int .i64 d) := fun x => x.cell (P1 1 _ rfl).1
    have q3 : ∀ x : Later W7, x.w.cell? ⟨C, 0, none⟩ = some (.int .i64 z) := fun x => x.cell (Q1 0 _ rfl).1
    have q4 : ∀ x : Later W7, x.w.cell? ⟨C, 1, none⟩ = some (.int .i64 r) := fun x => x.cell (Q1 1 _ rfl).1
    refine wp_region_calm (by kernel_rfl) (by kernel_rfl) ?_
    repeat (go_big_quiet_step ((go_at_call 12; exact Calls.calm_of (mask_nat _ _ (by assumption) (by assumption) _))))
    refine wpQuiet_nil ?_
    intro W8 hw'
    have c2 := Later.out hw'
    clear hw' q1 q2 q3 q4
    replace P1 := P1.calm c2
    replace Q1 := Q1.calm c2
    replace cc := cc.trans c2
    clear c2
    go_wp2_with fail
    have q1 : ∀ x : Later W8, x.w.cell? ⟨B, 0, none⟩ = some (.int .i64 s) := fun x => x.cell (P1 0 _ rfl).1
    have q2 : ∀ x : Later W8, x.w.cell? ⟨B, 1, none⟩ = some (.int .i64 d) := fun x => x.cell (P1 1 _ rfl).1
    refine wp_region_calm (by kernel_rfl) (by kernel_rfl) ?_
    repeat (go_big_quiet_step (first
      | (go_at_call 14; exact Calls.calm_of (gp W hW _))
      | (go_at_call 13; exact Calls.calm_of (sb _))))
    refine wpQuiet_nil ?_
    intro W9 hw'
    have c2 := Later.out hw'
    clear hw' q1 q2
    replace P1 := P1.calm c2
    replace Q1 := Q1.calm c2
    replace cc := cc.trans c2
    clear c2
    go_wp2_with fail
    have q3 : ∀ x : Later W9, x.w.cell? ⟨C, 0, none⟩ = some (.int .i64 z) := fun x => x.cell (Q1 0 _ rfl).1
    have q4 : ∀ x : Later W9, x.w.cell? ⟨C, 1, none⟩ = some (.int .i64 r) := fun x => x.cell (Q1 1 _ rfl).1
    have g12 : ((W : Int) == (W : Int)) = true := by simp
    refine wp_region_calm (by kernel_rfl) (by kernel_rfl) ?_
    repeat (go_big_quiet_step (fail))
    refine wpQuiet_nil ?_
    intro Wa hw'
    have c2 := Later.out hw'
    clear hw' q3 q4
    go_wp2
    go_ret
    exact ⟨rfl, Calm.below (cc.trans c2)⟩
  · have hyes : s + d ≤ z ∨ z + r ≤ s := of_decide_eq_true hap
    have lx := hid (l3.out hyes)
    clear hap l3 l4
    by_cases h1 : (s : Int) + d ≤ z
    all_goals (try have h2 : (z : Int) + r ≤ s := by omega)
    all_goals clear hyes
    all_goals
      go_wp2_with fail
      clear b0 b1 b2 b3
      have q1 : ∀ x : Later W7, x.w.cell? ⟨B, 0, none⟩ = some (.int .i64 s) := fun x => x.cell (P1 0 _ rfl).1
      have q2 : ∀ x : Later W7, x.w.cell? ⟨B, 1, none⟩ = some (.int .i64 d) := fun x => x.cell (P1 1 _ rfl).1
      have q3 : ∀ x : Later W7, x.w.cell? ⟨C, 0, none⟩ = some (.int .i64 z) := fun x => x.cell (Q1 0 _ rfl).1
      have q4 : ∀ x : Later W7, x.w.cell? ⟨C, 1, none⟩ = some (.int .i64 r) := fun x => x.cell (Q1 1 _ rfl).1
      refine wp_region_calm (by kernel_rfl) (by kernel_rfl) ?_
      repeat (go_big_quiet_step ((go_at_call 12; exact Calls.calm_of (mask_nat _ _ (by assumption) (by assumption) _))))
      refine wpQuiet_nil ?_
      intro W8 hw'
      have c2 := Later.out hw'
      clear hw' q1 q2 q3 q4
      replace P1 := P1.calm c2
      replace Q1 := Q1.calm c2
      replace cc := cc.trans c2
      clear c2
      go_wp2_with fail
      have q1 : ∀ x : Later W8, x.w.cell? ⟨B, 0, none⟩ = some (.int .i64 s) := fun x => x.cell (P1 0 _ rfl).1
      have q2 : ∀ x : Later W8, x.w.cell? ⟨B, 1, none⟩ = some (.int .i64 d) := fun x => x.cell (P1 1 _ rfl).1
      refine wp_region_calm (by kernel_rfl) (by kernel_rfl) ?_
      repeat (go_big_quiet_step (first
        | (go_at_call 14; exact Calls.calm_of (gp W hW _))
        | (go_at_call 13; exact Calls.calm_of (sb _))))
      refine wpQuiet_nil ?_
      intro W9 hw'
      have c2 := Later.out hw'
      clear hw' q1 q2
      replace P1 := P1.calm c2
      replace Q1 := Q1.calm c2
      replace cc := cc.trans c2
      clear c2
      go_wp2_with fail
      have q3 : ∀ x : Later W9, x.w.cell? ⟨C, 0, none⟩ = some (.int .i64 z) := fun x => x.cell (Q1 0 _ rfl).1
      have q4 : ∀ x : Later W9, x.w.cell? ⟨C, 1, none⟩ = some (.int .i64 r) := fun x => x.cell (Q1 1 _ rfl).1
      have g12 : ((W : Int) == (W : Int)) = true := by simp
      have g13 : (((gt X z r : Nat) : Int) == ((gt W z r : Nat) : Int)) = true := by rw [lx.out]; simp
      refine wp_region_calm (by kernel_rfl) (by kernel_rfl) ?_
      repeat (go_big_quiet_step ((go_at_call 14; exact Calls.calm_of (get_nat _ _ _ (by assumption) hr1 hr2 _))))
      refine wpQuiet_nil ?_
      intro Wa hw'
      have c2 := Later.out hw'
      clear hw' q3 q4
      go_wp2
      go_ret
      exact ⟨rfl, Calm.below (cc.trans c2)⟩

end Go.Proofs.Ytlocklcldalklaa
