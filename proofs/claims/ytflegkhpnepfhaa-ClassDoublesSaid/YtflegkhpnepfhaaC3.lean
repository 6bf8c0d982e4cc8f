/- ClassDoubles, ClassNext return true, whatever the input. -/
import Derived.Test.YtflegkhpnepfhaaLaw04
set_option linter.unusedSimpArgs false
set_option linter.unusedVariables false
namespace Go.Proofs.Ytflegkhpnepfhaa
open Go.RowKit Go.Shelf

theorem rnd_double {m : Int} (h4 : 4 ≤ m) (h : m ≤ 32768) : rnd (2 * m) = 2 * rnd m := by
  unfold rnd; rw [cls_double h4 h, sz_step]

theorem rnd_next {m : Int} (h1 : 1 ≤ m) (h : m ≤ 32768) : 2 * rnd (rnd m + 1) = 3 * rnd m ∨ 3 * rnd (rnd m + 1) = 4 * rnd m := by
  have := cls_next h1 h
  rcases sz_next (cls m) with e | e
  · left; unfold rnd at *; rw [this]; exact e
  · right; unfold rnd at *; rw [this]; exact e

theorem rnd_small {m : Int} (h : m ≤ 32768) : rnd m ≤ 32768 := by
  have := rnd_mono h (by omega)
  have e : rnd 32768 = 32768 := by
    have : cls 32768 = 26 := cls_eq (by decide) (by decide) (fun j hj => by have := sz_strict hj; have : sz 26 = 32768 := by decide
                                                                            omega)
    unfold rnd; rw [this]; decide
  omega

set_option maxHeartbeats 1000000 in
theorem classDoubles_walk (n : Int) (hn : I64 n) (w : World) :
    Calls Try.prog 5 #[.int .i64 n] w fun e w' => e = .returned (.bool true) ∧ Below w.heap.size w w' := by
  have hp := pk_range n (n := 32765) (by omega)
  obtain ⟨a, ha⟩ : ∃ a, pk n 32765 = a := ⟨_, rfl⟩
  rw [ha] at hp
  have HA : Hid (pk n 32765 = a) := ha
  clear ha
  obtain ⟨p1, p2⟩ := hp
  obtain ⟨x, k, HX, HY, HK, HL, x1, x2⟩ : ∃ x : Int, ∃ k : Nat, Hid (rnd (4 + a) = x) ∧ Hid (rnd (2 * (4 + a)) = 2 * x) ∧ Hid (cls (4 + a) = k) ∧ Hid (cls (2 * (4 + a)) = k + 2) ∧ 4 ≤ x ∧ x ≤ 65536 :=
    ⟨_, _, rfl, rnd_double (by omega) (by omega), rfl, cls_double (by omega) (by omega), (rnd_spec (by omega)).2.1, (rnd_spec (by omega)).2.2⟩
  have kb : k ≤ 28 := by have := (cls_spec (n := 4 + a) (by omega)).1; rw [HK.out] at this; exact this
  go_enter Try.func5, Try.ntmps5
  go_wp2_with fail
  refine (awake04 _).mono ?_
  rintro e w1 ⟨rfl, c1⟩
  go_wp2_with fail
  refine (pick04 n 32765 _ hn (by omega)).mono ?_
  rintro e w1' ⟨rfl, rfl⟩
  rw [HA.out]
  go_wp2_with fail
  refine (round_yes _ (by omega) (by omega) _).mono ?_
  rintro e w2 ⟨rfl, c2⟩
  rw [HX.out]
  go_wp2_with fail
  refine (round_yes _ (by omega) (by omega) _).mono ?_
  rintro e w3 ⟨rfl, c3⟩
  rw [HY.out]
  go_wp2_with fail
  refine (class_yes _ (by omega) (by omega) _).mono ?_
  rintro e w4 ⟨rfl, c4⟩
  rw [HK.out]
  go_wp2_with fail
  refine (class_yes _ (by omega) (by omega) _).mono ?_
  rintro e w5 ⟨rfl, c5⟩
  rw [HL.out]
  go_wp2
  go_ret
  exact ⟨by simp, Calm.below ((((c1.trans c2).trans c3).trans c4).trans c5)⟩

set_option maxHeartbeats 1000000 in
theorem classNext_walk (n : Int) (hn : I64 n) (w : World) :
    Calls Try.prog 6 #[.int .i64 n] w fun e w' => e = .returned (.bool true) ∧ Below w.heap.size w w' := by
  have hp := pk_range n (n := 32768) (by omega)
  obtain ⟨a, ha⟩ : ∃ a, pk n 32768 = a := ⟨_, rfl⟩
  rw [ha] at hp
  have HA : Hid (pk n 32768 = a) := ha
  clear ha
  obtain ⟨p1, p2⟩ := hp
  obtain ⟨x, y, k, HX, HY, HK, HL, x1, x2, HE⟩ : ∃ x y : Int, ∃ k : Nat, Hid (rnd (1 + a) = x) ∧ Hid (rnd (x + 1) = y) ∧ Hid (cls (1 + a) = k) ∧ Hid (cls (x + 1) = k + 1) ∧ 4 ≤ x ∧ x ≤ 32768 ∧ Hid (2 * y = 3 * x ∨ 3 * y = 4 * x) :=
    ⟨_, _, _, rfl, rfl, rfl, cls_next (by omega) (by omega), (rnd_spec (by omega)).2.1, rnd_small (by omega), rnd_next (by omega) (by omega)⟩
  have yb := rnd_spec (n := x + 1) (by omega)
  rw [HY.out] at yb
  obtain ⟨y1, y2, y3⟩ := yb
  have kb : k ≤ 28 := by have := (cls_spec (n := 1 + a) (by omega)).1; rw [HK.out] at this; exact this
  rcases (show (2 * y == 3 * x) = true ∨ ((2 * y == 3 * x) = false ∧ (3 * y == 4 * x) = true) by
    have := HE.out; by_cases e : 2 * y = 3 * x
    · left; simpa using e
    · right; exact ⟨by simpa using e, by simp; omega⟩) with hc | ⟨hc, hc2⟩
  all_goals
    go_enter Try.func6, Try.ntmps6
    go_wp2_with fail
    refine (awake04 _).mono ?_
    rintro e w1 ⟨rfl, c1⟩
    go_wp2_with fail
    refine (pick04 n 32768 _ hn (by omega)).mono ?_
    rintro e w1' ⟨rfl, rfl⟩
    rw [HA.out]
    go_wp2_with fail
    refine (round_yes _ (by omega) (by omega) _).mono ?_
    rintro e w2 ⟨rfl, c2⟩
    rw [HX.out]
    go_wp2_with fail
    refine (round_yes _ (by omega) (by omega) _).mono ?_
    rintro e w3 ⟨rfl, c3⟩
    rw [HY.out]
    go_wp2_with fail
    refine (class_yes _ (by omega) (by omega) _).mono ?_
    rintro e w4 ⟨rfl, c4⟩
    rw [HK.out]
    go_wp2_with fail
    refine (class_yes _ (by omega) (by omega) _).mono ?_
    rintro e w5 ⟨rfl, c5⟩
    rw [HL.out]
    go_wp2
    go_ret
    exact ⟨by simp, Calm.below ((((c1.trans c2).trans c3).trans c4).trans c5)⟩

end Go.Proofs.Ytflegkhpnepfhaa
