/- Layer 6's small helpers: pick, Fit, the example. -/
import Derived.Test.YtiomemdmhcdpbaaHead
set_option linter.unusedSimpArgs false
set_option linter.unusedVariables false
namespace Go.Proofs.Ytiomemdmhcdpbaa
open Go.RowKit Go.Shelf

theorem pick06 (c n : Int) (w : World) (hc : I64 c) (hn : 0 < n) :
    Calls Try.prog 51 #[.int .i64 c, .int .i64 n] w fun e w' => e = .returned (.int .i64 (pk c n)) ∧ w = w' := by
  obtain ⟨h1, h2⟩ := hc
  have hn0 : (n == 0) = false := by simp; omega
  by_cases h : c < 0
  · have h0 : 0 ≤ -(c + 1) := by omega
    have hp : Hid (pk c n = (-(c + 1)) % n) := by unfold pk; rw [if_pos h]; rfl
    go_enter Try.func51, Try.ntmps51
    go_wp2
    go_ret
    refine ⟨?_, rfl⟩
    show Ending.returned (.int .i64 (-(Int.tmod (c + 1) n))) = _
    rw [hp.out, ← Int.neg_tmod, Int.tmod_eq_emod_of_nonneg h0]
  · have h0 : 0 ≤ c := by omega
    have hp : Hid (pk c n = c % n) := by unfold pk; rw [if_neg h]; rfl
    go_enter Try.func51, Try.ntmps51
    go_wp2
    go_ret
    exact ⟨by rw [hp.out]; rfl, rfl⟩

/-- A raw shape is a right one. -/
def FitPost (w : World) (e : Ending) (w' : World) : Prop := ∃ (p d : Nat) (wk fn : Bool), okS p d wk fn ∧ e = .returned (shV p d wk fn) ∧ Calm w w'

set_option maxHeartbeats 400000 in
theorem fit06 (a b c : Int) (ha : I64 a) (hb : I64 b) (hc : I64 c) (w : World) :
    Calls Try.prog 14 #[.int .i64 a, .int .i64 b, .int .i64 c] w (FitPost w) := by
  have ra := pk_range a (n := 9) (by omega)
  have rb := pk_range b (n := 9) (by omega)
  have rc := pk_range c (n := 5) (by omega)
  obtain ⟨x, hx⟩ : ∃ x, pk a 9 = x := ⟨_, rfl⟩
  obtain ⟨y, hy⟩ : ∃ y, pk b 9 = y := ⟨_, rfl⟩
  obtain ⟨z, hz⟩ : ∃ z, pk c 5 = z := ⟨_, rfl⟩
  rw [hx] at ra
  rw [hy] at rb
  rw [hz] at rc
  have HX : Hid (pk a 9 = x) := hx
  have HY : Hid (pk b 9 = y) := hy
  have HZ : Hid (pk c 5 = z) := hz
  clear hx hy hz
  obtain ⟨x1, x2⟩ := ra
  obtain ⟨y1, y2⟩ := rb
  obtain ⟨X, rfl⟩ := Int.eq_ofNat_of_zero_le x1
  obtain ⟨Y, rfl⟩ := Int.eq_ofNat_of_zero_le y1
  by_cases h4 : z = 4
  · subst h4
    go_enter Try.func14, Try.ntmps14
    go_wp2_with fail
    refine (pick06 c 5 _ hc (by omega)).mono ?_
    rintro e w' ⟨rfl, rfl⟩
    rw [HZ.out]
    go_wp2
    refine bodyPost_ret (v := shV 1 0 true false) (by simp [results, Try.f14, go_sem]) rfl ⟨1, 0, true, false, ⟨by decide, by decide, fun _ => ⟨rfl, rfl, rfl⟩⟩, rfl, ?_⟩
    exact Fr.alloc (Fr.refl _ _) _
  · have hz4 : (z == 4) = false := by simpa using h4
    go_enter Try.func14, Try.ntmps14
    go_wp2_with fail
    refine (pick06 c 5 _ hc (by omega)).mono ?_
    rintro e w' ⟨rfl, rfl⟩
    rw [HZ.out]
    go_wp2_with fail
    refine (pick06 a 9 _ ha (by omega)).mono ?_
    rintro e w' ⟨rfl, rfl⟩
    rw [HX.out]
    go_wp2_with fail
    refine (pick06 b 9 _ hb (by omega)).mono ?_
    rintro e w' ⟨rfl, rfl⟩
    rw [HY.out]
    go_wp2_with fail
    refine (pick06 c 5 _ hc (by omega)).mono ?_
    rintro e w' ⟨rfl, rfl⟩
    rw [HZ.out]
    go_wp2
    refine bodyPost_ret (v := shV X Y false (z == 3)) (by simp [results, Try.f14, go_sem]) rfl ⟨X, Y, false, z == 3, ⟨by omega, by omega, fun h => by cases h⟩, rfl, ?_⟩
    exact Fr.alloc (Fr.refl _ _) _


end Go.Proofs.Ytiomemdmhcdpbaa
