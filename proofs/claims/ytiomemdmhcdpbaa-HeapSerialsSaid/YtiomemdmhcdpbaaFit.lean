/- Fit: which shape a raw one is. -/
import Derived.Test.YtiomemdmhcdpbaaLaw06
set_option linter.unusedSimpArgs false
set_option linter.unusedVariables false
namespace Go.Proofs.Ytiomemdmhcdpbaa
open Go.RowKit Go.Shelf

/-- What shape a raw one is. -/
def IsFit (a b c : Int) (p d : Nat) (wk fn : Bool) : Prop :=
  (pk c 5 = 4 ∧ p = 1 ∧ d = 0 ∧ wk = true ∧ fn = false) ∨ (pk c 5 ≠ 4 ∧ p = (pk a 9).toNat ∧ d = (pk b 9).toNat ∧ wk = false ∧ fn = (pk c 5 == 3))
theorem IsFit.eq {a b c : Int} {p d p' d' : Nat} {wk fn wk' fn' : Bool} (h : IsFit a b c p d wk fn) (h' : IsFit a b c p' d' wk' fn') : p = p' ∧ d = d' ∧ wk = wk' ∧ fn = fn' := by
  rcases h with ⟨h0, h1, h2, h3, h4⟩ | ⟨h0, h1, h2, h3, h4⟩ <;> rcases h' with ⟨k0, k1, k2, k3, k4⟩ | ⟨k0, k1, k2, k3, k4⟩
  · exact ⟨h1.trans k1.symm, h2.trans k2.symm, h3.trans k3.symm, h4.trans k4.symm⟩
  · exact absurd h0 k0
  · exact absurd k0 h0
  · exact ⟨h1.trans k1.symm, h2.trans k2.symm, h3.trans k3.symm, h4.trans k4.symm⟩
def FitD (a b c : Int) (w : World) (e : Ending) (w' : World) : Prop := ∃ (p d : Nat) (wk fn : Bool), okS p d wk fn ∧ e = .returned (shV p d wk fn) ∧ Calm w w' ∧ IsFit a b c p d wk fn

set_option maxHeartbeats 400000 in
theorem fit06d (a b c : Int) (ha : I64 a) (hb : I64 b) (hc : I64 c) (w : World) :
    Calls Try.prog 14 #[.int .i64 a, .int .i64 b, .int .i64 c] w (FitD a b c w) := by
  have ra := pk_range a (n := 9) (by omega)
  have rb := pk_range b (n := 9) (by omega)
  have rc := pk_range c (n := 5) (by omega)
  obtain ⟨x, hx⟩ : ∃ x, pk a 9 = x := ⟨_, rfl⟩
  obtain ⟨y, hy⟩ : ∃ y, pk b 9 = y := ⟨_, rfl⟩
  obtain ⟨z, hz⟩ : ∃ z, pk c 5 = z := ⟨_, rfl⟩
  rw [hx] at ra
  rw [hy] at rb
  rw [hz] at rc
  have HX : Hid (pk a 9 = x) := hx
  have HY : Hid (pk b 9 = y) := hy
  have HZ : Hid (pk c 5 = z) := hz
  clear hx hy hz
  obtain ⟨x1, x2⟩ := ra
  obtain ⟨y1, y2⟩ := rb
  obtain ⟨X, rfl⟩ := Int.eq_ofNat_of_zero_le x1
  obtain ⟨Y, rfl⟩ := Int.eq_ofNat_of_zero_le y1
  by_cases h4 : z = 4
  · subst h4
    go_enter Try.func14, Try.ntmps14
    go_wp2_with fail
    refine (pick06 c 5 _ hc (by omega)).mono ?_
    rintro e w' ⟨rfl, rfl⟩
    rw [HZ.out]
    go_wp2
    refine bodyPost_ret (v := shV 1 0 true false) (by simp [results, Try.f14, go_sem]) rfl ⟨1, 0, true, false, ⟨by decide, by decide, fun _ => ⟨rfl, rfl, rfl⟩⟩, rfl, Fr.alloc (Fr.refl _ _) _, .inl ⟨HZ.out, rfl, rfl, rfl, rfl⟩⟩
  · have hz4 : (z == 4) = false := by simpa using h4
    go_enter Try.func14, Try.ntmps14
    go_wp2_with fail
    refine (pick06 c 5 _ hc (by omega)).mono ?_
    rintro e w' ⟨rfl, rfl⟩
    rw [HZ.out]
    go_wp2_with fail
    refine (pick06 a 9 _ ha (by omega)).mono ?_
    rintro e w' ⟨rfl, rfl⟩
    rw [HX.out]
    go_wp2_with fail
    refine (pick06 b 9 _ hb (by omega)).mono ?_
    rintro e w' ⟨rfl, rfl⟩
    rw [HY.out]
    go_wp2_with fail
    refine (pick06 c 5 _ hc (by omega)).mono ?_
    rintro e w' ⟨rfl, rfl⟩
    rw [HZ.out]
    go_wp2
    refine bodyPost_ret (v := shV X Y false (z == 3)) (by simp [results, Try.f14, go_sem]) rfl ⟨X, Y, false, z == 3, ⟨by omega, by omega, fun h => by cases h⟩, rfl, Fr.alloc (Fr.refl _ _) _, .inr ⟨by rw [HZ.out]; exact h4, by rw [HX.out]; rfl, by rw [HY.out]; rfl, rfl, by rw [HZ.out]⟩⟩

end Go.Proofs.Ytiomemdmhcdpbaa
