/- Layer 5's small helpers: pick, Fit, the example. -/
import Derived.Test.YtflegkhpnepfhaaSpace
import Derived.Test.YtflegkhpnepfhaaTail
set_option linter.unusedSimpArgs false
set_option linter.unusedVariables false
namespace Go.Proofs.Ytflegkhpnepfhaa
open Go.RowKit Go.Shelf

theorem pick05 (c n : Int) (w : World) (hc : I64 c) (hn : 0 < n) :
    Calls Try.prog 18 #[.int .i64 c, .int .i64 n] w fun e w' => e = .returned (.int .i64 (pk c n)) ∧ w = w' := by
  obtain ⟨h1, h2⟩ := hc
  have hn0 : (n == 0) = false := by simp; omega
  by_cases h : c < 0
  · have h0 : 0 ≤ -(c + 1) := by omega
    have hp : Hid (pk c n = (-(c + 1)) % n) := by unfold pk; rw [if_pos h]; rfl
    go_enter Try.func18, Try.ntmps18
    go_wp2
    go_ret
    refine ⟨?_, rfl⟩
    show Ending.returned (.int .i64 (-(Int.tmod (c + 1) n))) = _
    rw [hp.out, ← Int.neg_tmod, Int.tmod_eq_emod_of_nonneg h0]
  · have h0 : 0 ≤ c := by omega
    have hp : Hid (pk c n = c % n) := by unfold pk; rw [if_neg h]; rfl
    go_enter Try.func18, Try.ntmps18
    go_wp2
    go_ret
    exact ⟨by rw [hp.out]; rfl, rfl⟩

/-- A raw space is a right one, and small. -/
def Fit5Post (w : World) (e : Ending) (w' : World) : Prop := ∃ b s t : Int, (0 ≤ b ∧ b < 1000 ∧ 0 ≤ s ∧ s < 300 ∧ b ≤ t ∧ t ≤ b + s) ∧ e = .returned (spV b s t) ∧ Calm w w'

set_option maxHeartbeats 1000000 in
theorem fit05 (a b c : Int) (ha : I64 a) (hb : I64 b) (hc : I64 c) (w : World) :
    Calls Try.prog 16 #[.int .i64 a, .int .i64 b, .int .i64 c] w (Fit5Post w) := by
  have ra := pk_range a (n := 1000) (by omega)
  have rb := pk_range b (n := 300) (by omega)
  obtain ⟨x, hx⟩ : ∃ x, pk a 1000 = x := ⟨_, rfl⟩
  obtain ⟨y, hy⟩ : ∃ y, pk b 300 = y := ⟨_, rfl⟩
  rw [hx] at ra
  rw [hy] at rb
  obtain ⟨x1, x2⟩ := ra
  obtain ⟨y1, y2⟩ := rb
  have rc := pk_range c (n := y + 1) (by omega)
  obtain ⟨z, hz⟩ : ∃ z, pk c (y + 1) = z := ⟨_, rfl⟩
  rw [hz] at rc
  obtain ⟨z1, z2⟩ := rc
  have HX : Hid (pk a 1000 = x) := hx
  have HY : Hid (pk b 300 = y) := hy
  have HZ : Hid (pk c (y + 1) = z) := hz
  clear hx hy hz
  go_enter Try.func16, Try.ntmps16
  go_wp2_with fail
  refine (pick05 a 1000 _ ha (by omega)).mono ?_
  rintro e w' ⟨rfl, rfl⟩
  rw [HX.out]
  go_wp2_with fail
  refine (pick05 b 300 _ hb (by omega)).mono ?_
  rintro e w' ⟨rfl, rfl⟩
  rw [HY.out]
  go_wp2_with fail
  have r : OwnL ((w.alloc (.cells #[.int .i64 0, .int .i64 0, .int .i64 0] 30)).alloc (.cells #[.int .i64 x, .int .i64 y, .int .i64 0] 30)) w.heap.size [.int .i64 0, .int .i64 0, .int .i64 0] := (OwnL.new w [.int .i64 0, .int .i64 0, .int .i64 0] _).alloc _
  have o : OwnL ((w.alloc (.cells #[.int .i64 0, .int .i64 0, .int .i64 0] 30)).alloc (.cells #[.int .i64 x, .int .i64 y, .int .i64 0] 30)) (w.heap.size + 1) [.int .i64 x, .int .i64 y, .int .i64 0] := OwnL.at (w.alloc _) [.int .i64 x, .int .i64 y, .int .i64 0] _ _ (by simp)
  obtain ⟨W1, hW1⟩ : ∃ W1, (w.alloc (.cells #[.int .i64 0, .int .i64 0, .int .i64 0] 30)).alloc (.cells #[.int .i64 x, .int .i64 y, .int .i64 0] 30) = W1 := ⟨_, rfl⟩
  have k1 : Calm w W1 := by rw [← hW1]; exact (Fr.alloc (Fr.refl _ _) _).alloc _
  rw [hW1] at o r ⊢
  clear hW1
  obtain ⟨B, hB⟩ : ∃ B, w.heap.size = B := ⟨_, rfl⟩
  have HB : Hid (w.heap.size = B) := hB
  rw [hB] at o r ⊢
  clear hB
  have q0 : ∀ x : Later W1, x.w.cell? ⟨B + 1, 0, none⟩ = some _ := fun x => x.cell (o 0 _ rfl).1
  have q1 : ∀ x : Later W1, x.w.cell? ⟨B + 1, 1, none⟩ = some _ := fun x => x.cell (o 1 _ rfl).1
  have hp : ∀ W : World, Calls Try.prog 18 #[.int .i64 c, .int .i64 (y + 1)] W fun e w' => e = .returned (.int .i64 z) ∧ Calm W w' := fun W => (pick05 c (y + 1) W hc (by omega)).mono (fun _ _ h => ⟨by rw [← HZ.out]; exact h.1, by rw [h.2]; exact Fr.refl _ _⟩)
  have HP := hid hp
  clear hp
  have hw1 : IntKind.i64.wrap (x + z) = x + z := IntWalk.i64_in _ (by omega)
  refine wp_region_calm_tail 9 (by kernel_rfl) (by kernel_rfl) ?_
  simp only [List.take_succ_cons, List.take_zero, List.drop_succ_cons, List.drop_zero]
  repeat (go_big_quiet_step ((go_at_call 18; exact Calls.calm_of (HP.out _))))
  refine wpQuiet_nil ?_
  intro w2 hw'
  have c2 := Later.out hw'
  clear hw' q0 q1 hw1
  replace o := o.calm c2
  replace r := r.calm c2
  have k2 := k1.trans c2
  have o0 := (o 0 _ rfl).1
  have o1 := (o 1 _ rfl).1
  have o2 := (o 2 _ rfl).1
  have o2' := (o 2 _ rfl).2
  have r0 := (r 0 _ rfl).1
  have r1 := (r 1 _ rfl).1
  have r2 := (r 2 _ rfl).1
  have r0' := (r 0 _ rfl).2
  have r1' := (r 1 _ rfl).2
  have r2' := (r 2 _ rfl).2
  go_wp2
  obtain ⟨t0, tf⟩ := (r.far ⟨B + 1, 2, none⟩ (.int .i64 (x + z)) (by simp)).set3 (.int .i64 x) (.int .i64 y) (.int .i64 (x + z))
  have k3 := k2.setCell (p := ⟨B + 1, 2, none⟩) (.inr (by have := HB.out; simp; omega)) (.int .i64 (x + z))
  refine bodyPost_ret (v := spV x y (x + z)) ?_ rfl ⟨x, y, x + z, ⟨by omega, by omega, by omega, by omega, by omega, by omega⟩, rfl, k3.join tf (by have := HB.out; intro k h1 h2; omega)⟩
  simp [results, Try.f16, go_sem, (t0 0 _ rfl).1, (t0 1 _ rfl).1, (t0 2 _ rfl).1]

set_option maxRecDepth 100000 in
set_option maxHeartbeats 1000000 in
theorem awake05 (w : World) :
    Calls Try.prog 15 #[] w fun e w' => e = .returned (.bool true) ∧ Calm w w' := by
  have r5 : Hid (rnd 5 = 6) := by show rnd 5 = 6; decide
  go_enter Try.func15, Try.ntmps15
  go_wp2_with fail
  refine (make_yes 10 20 _ (by decide) (by decide) (by decide) (by decide)).mono ?_
  rintro e w1 ⟨rfl, c1⟩
  go_wp2_with fail
  refine (take_yes 10 20 10 5 _ ⟨by decide, by decide, by decide, by decide, by decide, by decide⟩ (by decide) (by decide) (by rw [r5.out]; decide)).mono ?_
  rintro e w2 ⟨rfl, c2⟩
  rw [r5.out, show (10 : Int) + 6 = 16 from rfl]
  go_wp2_with fail
  refine (take_yes 10 20 16 5 _ ⟨by decide, by decide, by decide, by decide, by decide, by decide⟩ (by decide) (by decide) (by rw [r5.out]; decide)).mono ?_
  rintro e w3 ⟨rfl, c3⟩
  rw [r5.out, show (16 : Int) + 6 = 22 from rfl]
  have k3 : Calm w w3 := (c1.trans ((Fr.alloc (Fr.refl _ _) _).trans c2)).trans ((Fr.alloc (Fr.refl _ _) _).trans c3)
  clear c1 c2 c3
  go_wp2_with fail
  have ok : okP 10 20 22 := ⟨by decide, by decide, by decide, by decide, by decide, by decide⟩
  have OK : Hid (okP 10 20 22) := ok
  clear ok
  have o : OwnL (w3.alloc (.cells #[.int .i64 10, .int .i64 20, .int .i64 22] 30)) w3.heap.size [.int .i64 10, .int .i64 20, .int .i64 22] := OwnL.new w3 [.int .i64 10, .int .i64 20, .int .i64 22] _
  have k4 := Fr.alloc k3 (.cells #[.int .i64 10, .int .i64 20, .int .i64 22] 30)
  refine (used_any 10 20 22 _ OK.out).mono ?_
  rintro e w5 ⟨rfl, c5⟩
  rw [show (22 : Int) - 10 = 12 from rfl]
  replace o := o.calm c5
  have k5 := k4.trans c5
  clear k3 k4 c5
  have o0 := (o 0 _ rfl).1
  have o1 := (o 1 _ rfl).1
  have o2 := (o 2 _ rfl).1
  go_wp2_with fail
  clear o0 o1 o2
  refine (left_any 10 20 22 _ OK.out).mono ?_
  rintro e w6 ⟨rfl, c6⟩
  rw [show (20 : Int) - (22 - 10) = 8 from rfl]
  replace o := o.calm c6
  have k6 := k5.trans c6
  clear k5 c6
  have o0 := (o 0 _ rfl).1
  have o1 := (o 1 _ rfl).1
  have o2 := (o 2 _ rfl).1
  go_wp2_with fail
  clear o0 o1 o2
  refine (has_yes 10 20 22 21 _ OK.out (by decide) (by decide)).mono ?_
  rintro e w7 ⟨rfl, c7⟩
  replace o := o.calm c7
  have k7 := k6.trans c7
  clear k6 c7
  have o0 := (o 0 _ rfl).1
  have o1 := (o 1 _ rfl).1
  have o2 := (o 2 _ rfl).1
  go_wp2_with fail
  clear o0 o1 o2
  refine (has_no 10 20 22 22 _ OK.out (by decide)).mono ?_
  rintro e w8 ⟨rfl, c8⟩
  go_wp2
  go_ret
  exact ⟨rfl, k7.trans c8⟩

end Go.Proofs.Ytflegkhpnepfhaa
