/- Layer 7's small helpers: pick, the example, row. -/
import Derived.Test.YtoonimdohkbfgaaObject
import Derived.Test.YtoonimdohkbfgaaHead
set_option linter.unusedSimpArgs false
set_option linter.unusedVariables false
namespace Go.Proofs.Ytoonimdohkbfgaa
open Go.RowKit Go.Shelf

theorem pick07 (c n : Int) (w : World) (hc : I64 c) (hn : 0 < n) :
    Calls Try.prog 7 #[.int .i64 c, .int .i64 n] w fun e w' => e = .returned (.int .i64 (pk c n)) ∧ w = w' := by
  obtain ⟨h1, h2⟩ := hc
  have hn0 : (n == 0) = false := by simp; omega
  by_cases h : c < 0
  · have h0 : 0 ≤ -(c + 1) := by omega
    have hp : Hid (pk c n = (-(c + 1)) % n) := by unfold pk; rw [if_pos h]; rfl
    go_enter Try.func7, Try.ntmps7
    go_wp2
    go_ret
    refine ⟨?_, rfl⟩
    show Ending.returned (.int .i64 (-(Int.tmod (c + 1) n))) = _
    rw [hp.out, ← Int.neg_tmod, Int.tmod_eq_emod_of_nonneg h0]
  · have h0 : 0 ≤ c := by omega
    have hp : Hid (pk c n = c % n) := by unfold pk; rw [if_neg h]; rfl
    go_enter Try.func7, Try.ntmps7
    go_wp2
    go_ret
    exact ⟨by rw [hp.out]; rfl, rfl⟩

theorem aw07_1 : made (List.replicate 9 0) 0 1 1 false false 7 = [35, 0, 7, 0, 0, 0, 0, 0, 0] := by decide
theorem aw07_2 : At [35, 0, 7, 0, 0, 0, 0, 0, 0] 0 (Ob.new 1 1 false false 7) := by
  have := made_at (xs := List.replicate 9 0) (a := 0) (p := 1) (d := 1) (wk := false) (fn := false) (ser := 7) ⟨by decide, by decide, fun h => by cases h⟩ (by decide) (by decide)
  rwa [aw07_1] at this
theorem aw07_3 : At [35, 0, 7, 0, 5, 0, 0, 0, 0] 0 { Ob.new 1 1 false false 7 with ns := [5] } := by
  have := aw07_2.setNum (i := 0) (v := 5) (by decide) (by decide)
  exact this

set_option maxRecDepth 100000 in
set_option maxHeartbeats 1000000 in
theorem awake07 (w : World) :
    Calls Try.prog 5 #[] w fun e w' => e = .returned (.bool true) ∧ Calm w w' := by
  have ok : Hid (okS 1 1 false false) := ⟨by decide, by decide, fun h => by cases h⟩
  go_enter Try.func5, Try.ntmps5
  go_wp2_with fail
  refine (new_yes _ 9 (by decide) (by decide)).mono ?_
  rintro e w1 ⟨b, c, rfl, a1, c1, lb, lc⟩
  replace a1 := hid a1
  go_wp2_with fail
  refine (omake_yes _ b c _ a1.out 0 1 1 false false 7 ok.out (by decide) (by decide)).mono ?_
  rintro e w2 ⟨rfl, a2, f2⟩
  rw [aw07_1] at a2
  replace c1 := c1.join f2 (fun k hk e => by omega)
  replace a2 := hid a2
  clear f2 a1
  go_wp2_with fail
  refine (at_setnum a2.out aw07_2 (i := 0) (v := -3) (by decide) ⟨by decide, by decide⟩).mono ?_
  rintro e w3 ⟨rfl, a3, f3⟩
  replace c1 := c1.join f3 (fun k hk e => by omega)
  replace a3 : Hid (Ar w3 b c [35, 0, 7, 0, 5, 0, 0, 0, 0]) := a3
  clear f3 a2
  go_wp2_with fail
  refine (at_num a3.out aw07_3 (i := 0) (by decide)).mono ?_
  rintro e w4 ⟨rfl, c4⟩
  rw [show zt (List.getD [5] 0 0) = -3 from by decide]
  replace a3 := hid (a3.out.calm c4)
  replace c1 := c1.trans c4
  clear c4
  go_wp2_with fail
  refine (at_serial a3.out aw07_3).mono ?_
  rintro e w5 ⟨rfl, c5⟩
  rw [show ((Ob.new 1 1 false false 7).ser : Int) = 7 from rfl]
  replace a3 := hid (a3.out.calm c5)
  replace c1 := c1.trans c5
  clear c5
  go_wp2_with fail
  refine (load_yes _ b c _ a3.out 0 (by decide)).mono ?_
  rintro e w6 ⟨rfl, rfl⟩
  rw [show (List.getD [35, 0, 7, 0, 5, 0, 0, 0, 0] 0 0) = 35 from rfl]
  go_wp2_with fail
  refine (at_ptr_no a3.out aw07_3 (i := 1) (.inr (by decide))).mono ?_
  rintro e w7 ⟨rfl, c7⟩
  replace a3 := hid (a3.out.calm c7)
  replace c1 := c1.trans c7
  clear c7
  go_wp2_with fail
  refine (oshape_none _ b c _ a3.out 1 (by decide) (by decide) (fun p d wk fn fr h => by have := isHead_odd h; revert this; decide)).mono ?_
  rintro e w8 ⟨rfl, c8⟩
  replace c1 := c1.trans c8
  clear c8
  go_wp2
  go_ret
  exact ⟨rfl, c1.alloc _⟩

end Go.Proofs.Ytoonimdohkbfgaa
