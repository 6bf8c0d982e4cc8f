/- Layer 1's examples. -/
import Derived.Test.YtlocklcldalklaaLaw01
set_option linter.unusedSimpArgs false
set_option linter.unusedVariables false
namespace Go.Proofs.Ytlocklcldalklaa
open Go.RowKit Go.Shelf
attribute [local go_sem] Oper.semAt_some

theorem fits34 : Fits [3, 4] := ⟨fun k hk => by
  match k, hk with
  | 0, _ => decide
  | 1, _ => decide, by decide⟩
theorem small34 : Small [3, 4] [5, 9] := fun k hk => by
  match k, hk with
  | 0, _ => decide
  | 1, _ => decide

theorem awake01 (w : World) :
    Calls Try.prog 10 #[] w fun e w' => e = .returned (.bool true) ∧ Calm w w' := by
  have pe : Hid (packed [3, 4] [5, 9] 2 = 77) := by show packed [3, 4] [5, 9] 2 = 77; decide
  have ue : Hid (unpk [3, 4] 77 2 = [5, 9]) := by show unpk [3, 4] 77 2 = [5, 9]; decide
  have ae : Hid (77 &&& (18446744073709551615 - allm [3, 4] 2) = 0) := by show 77 &&& (18446744073709551615 - allm [3, 4] 2) = 0; decide
  go_enter Try.func10, Try.ntmps10
  go_wp2_with fail
  have r1 : Row (w.alloc (.cells ([3, 4].map (Value.int .i64)).toArray 3)) (.slice (some ⟨w.heap.size, 0, none⟩) 2 2) ([3, 4].map (Value.int .i64)) := Row.new w _ _ 2
  have r2 : Row ((w.alloc (.cells ([3, 4].map (Value.int .i64)).toArray 3)).alloc (.cells ([5, 9].map wV).toArray 22)) (.slice (some ⟨w.heap.size + 1, 0, none⟩) 2 2) ([5, 9].map wV) := by
    have := Row.new (w.alloc (.cells ([3, 4].map (Value.int .i64)).toArray 3)) ([5, 9].map wV) 22 2
    rwa [World.size_alloc] at this
  refine (pack_yes [3, 4] [5, 9] fits34 small34 rfl (by decide) _ _ _ (r1.calm (Fr.alloc (Fr.refl _ _) _)) r2).mono ?_
  rintro e w1 ⟨rfl, c1⟩
  rw [show ([3, 4] : List Int).length = 2 from rfl, pe.out]
  replace c1 := (((Fr.refl (fun _ => False) w).alloc _).alloc _).trans c1
  clear r1 r2
  go_wp2_with fail
  have r1 : Row (w1.alloc (.cells ([3, 4].map (Value.int .i64)).toArray 3)) (.slice (some ⟨w1.heap.size, 0, none⟩) 2 2) ([3, 4].map (Value.int .i64)) := Row.new w1 _ _ 2
  refine (unpack_yes [3, 4] 77 (by decide) fits34 (by decide) _ _ r1).mono ?_
  rintro e w2 ⟨c2, ⟨h, _⟩ | ⟨_, r, rfl, hr⟩⟩
  · exact absurd ae.out h
  rw [show ([3, 4] : List Int).length = 2 from rfl, ue.out] at hr
  replace c2 := ((Fr.refl (fun _ => False) w1).alloc _).trans c2
  clear r1
  go_wp2_with fail
  refine (same01 r _ [5, 9] [5, 9] _ (hr.calm (Fr.alloc (Fr.refl _ _) _)) (Row.new w2 ([5, 9].map (Value.int .u64)) 22 2) (by decide) (by decide)).mono ?_
  rintro e w3 ⟨rfl, c3⟩
  rw [show (decide (([5, 9] : List Int) = [5, 9])) = true from rfl]
  replace c3 := ((Fr.refl (fun _ => False) w2).alloc _).trans c3
  go_wp2_with fail
  refine (zig_is (-1) _ ⟨by decide, by decide⟩).mono ?_
  rintro e w4 ⟨rfl, c4⟩
  rw [show (if (0 : Int) ≤ -1 then 2 * (-1 : Int) else -2 * -1 - 1) = 1 from by decide]
  go_wp2_with fail
  refine (zag_is 1 _ (by decide)).mono ?_
  rintro e w5 ⟨rfl, c5⟩
  rw [show (if 1 % 2 = 1 then -((1 / 2 : Nat) : Int) - 1 else (1 / 2 : Nat)) = (-1 : Int) from by decide]
  go_wp2_with fail
  refine (get_yes 77 (by decide) 3 4 _ (by decide) (by decide) (by decide)).mono ?_
  rintro e w6 ⟨rfl, c6⟩
  rw [show gt 77 (Int.toNat 3) (Int.toNat 4) = 9 from by decide]
  go_wp2_with fail
  refine (right_yes 0 64 _ (by decide) (by decide) (by decide)).mono ?_
  rintro e w7 ⟨rfl, c7⟩
  go_wp2_with fail
  refine (mask_yes 1 2 _ (by decide) (by decide) (by decide)).mono ?_
  rintro e w8 ⟨rfl, c8⟩
  rw [show mk (Int.toNat 1) (Int.toNat 2) = 6 from by decide]
  go_wp2
  go_ret
  exact ⟨rfl, ((((((c1.trans c2).trans c3).trans c4).trans c5).trans c6).trans c7).trans c8⟩

end Go.Proofs.Ytlocklcldalklaa
