/- What the functions of package space return, for right spaces. -/
import Derived.Test.YtiomemdmhcdpbaaClass
set_option linter.unusedSimpArgs false
set_option linter.unusedVariables false
namespace Go.Proofs.Ytiomemdmhcdpbaa
open Go.RowKit Go.Shelf

/-- A space, as a value. -/
abbrev spV (b s t : Int) : Value := .agg #[.int .i64 b, .int .i64 s, .int .i64 t]
/-- A space may be. -/
def okP (b s t : Int) : Prop := 0 ≤ b ∧ b ≤ 65536 ∧ 0 ≤ s ∧ s ≤ 65536 ∧ b ≤ t ∧ t ≤ b + s

theorem fit_yes (b s t : Int) (w : World) (h : okP b s t) :
    Calls Try.prog 106 #[spV b s t] w fun e w' => e = .returned (spV b s t) ∧ Calm w w' := by
  obtain ⟨h1, h2, h3, h4, h5, h6⟩ := h
  go_enter Try.func106, Try.ntmps106
  go_wp2
  exact bodyPost_ret (v := spV b s t) (by simp [results, Try.f106, go_sem]) rfl ⟨rfl, (Fr.alloc (Fr.refl _ _) _).alloc _⟩

theorem sright_yes (b s t : Int) (w : World) (h : okP b s t) :
    Calls Try.prog 79 #[spV b s t] w fun e w' => e = .returned (.bool true) ∧ Calm w w' := by
  go_enter Try.func79, Try.ntmps79
  go_wp2_with fail
  obtain ⟨W1, hW1⟩ : ∃ W1, w.alloc (.cells #[.int .i64 b, .int .i64 s, .int .i64 t] 78) = W1 := ⟨_, rfl⟩
  obtain ⟨B, hB⟩ : ∃ B, w.heap.size = B := ⟨_, rfl⟩
  have q0 : ∀ x : Later W1, x.w.cell? ⟨B, 0, none⟩ = some (.int .i64 b) := fun x => x.cell (by rw [← hW1, ← hB]; exact World.cell?_alloc_new w _ _ 0)
  have q1 : ∀ x : Later W1, x.w.cell? ⟨B, 1, none⟩ = some (.int .i64 s) := fun x => x.cell (by rw [← hW1, ← hB]; exact World.cell?_alloc_new w _ _ 1)
  have q2 : ∀ x : Later W1, x.w.cell? ⟨B, 2, none⟩ = some (.int .i64 t) := fun x => x.cell (by rw [← hW1, ← hB]; exact World.cell?_alloc_new w _ _ 2)
  have k1 : Calm w W1 := by rw [← hW1]; exact Fr.alloc (Fr.refl _ _) _
  rw [hW1, hB]
  clear hW1 hB
  refine wp_region_calm (by kernel_rfl) (by kernel_rfl) ?_
  repeat (go_big_quiet_step ((go_at_call 106; exact Calls.calm_of (fit_yes b s t _ h))))
  refine wpQuiet_nil ?_
  intro w2 hw'
  have c2 := Later.out hw'
  clear hw'
  go_wp2
  go_ret
  exact ⟨by simp, k1.trans c2⟩

theorem used_any (b s t : Int) (w : World) (h : okP b s t) :
    Calls Try.prog 54 #[spV b s t] w fun e w' => e = .returned (.int .i64 (t - b)) ∧ Calm w w' := by
  have H : Hid (okP b s t) := h
  obtain ⟨h1, h2, h3, h4, h5, h6⟩ := h
  go_enter Try.func54, Try.ntmps54
  go_wp2_with fail
  refine (sright_yes b s t _ H.out).mono ?_
  rintro e w1 ⟨rfl, c1⟩
  have b0 := ((Own.new w #[.int .i64 b, .int .i64 s, .int .i64 t] 78 0 rfl).fr c1 id).1
  have b1 := ((Own.new w #[.int .i64 b, .int .i64 s, .int .i64 t] 78 1 rfl).fr c1 id).1
  have b2 := ((Own.new w #[.int .i64 b, .int .i64 s, .int .i64 t] 78 2 rfl).fr c1 id).1
  go_wp2
  go_ret
  exact ⟨rfl, Fr.trans (Fr.alloc (Fr.refl _ _) _) c1⟩

theorem left_any (b s t : Int) (w : World) (h : okP b s t) :
    Calls Try.prog 63 #[spV b s t] w fun e w' => e = .returned (.int .i64 (s - (t - b))) ∧ Calm w w' := by
  have H : Hid (okP b s t) := h
  obtain ⟨h1, h2, h3, h4, h5, h6⟩ := h
  go_enter Try.func63, Try.ntmps63
  go_wp2_with fail
  refine (sright_yes b s t _ H.out).mono ?_
  rintro e w1 ⟨rfl, c1⟩
  have b0 := ((Own.new w #[.int .i64 b, .int .i64 s, .int .i64 t] 78 0 rfl).fr c1 id).1
  have b1 := ((Own.new w #[.int .i64 b, .int .i64 s, .int .i64 t] 78 1 rfl).fr c1 id).1
  have b2 := ((Own.new w #[.int .i64 b, .int .i64 s, .int .i64 t] 78 2 rfl).fr c1 id).1
  go_wp2_with fail
  have q0 : ∀ x : Later w1, x.w.cell? ⟨w.heap.size, 0, none⟩ = some (.int .i64 b) := fun x => x.cell b0
  have q1 : ∀ x : Later w1, x.w.cell? ⟨w.heap.size, 1, none⟩ = some (.int .i64 s) := fun x => x.cell b1
  have q2 : ∀ x : Later w1, x.w.cell? ⟨w.heap.size, 2, none⟩ = some (.int .i64 t) := fun x => x.cell b2
  refine wp_region_calm (by kernel_rfl) (by kernel_rfl) ?_
  repeat (go_big_quiet_step ((go_at_call 54; exact Calls.calm_of (used_any b s t _ H.out))))
  refine wpQuiet_nil ?_
  intro w2 hw'
  have c2 := Later.out hw'
  clear hw'
  go_wp2
  go_ret
  exact ⟨rfl, (Fr.trans (Fr.alloc (Fr.refl _ _) _) c1).trans c2⟩



set_option maxHeartbeats 1000000 in
theorem empty_any (b s t : Int) (w : World) (h : okP b s t) :
    Calls Try.prog 53 #[spV b s t] w fun e w' => e = .returned (spV b s b) ∧ Calm w w' := by
  have H : Hid (okP b s t) := h
  obtain ⟨h1, h2, h3, h4, h5, h6⟩ := h
  go_enter Try.func53, Try.ntmps53
  go_wp2_with fail
  have o := fun i v h => (Own.new w #[.int .i64 b, .int .i64 s, .int .i64 t] 78 i (v := v) h).alloc (.cells #[.int .i64 0, .int .i64 0, .int .i64 0] 78)
  have r := fun i v h => Own.at (w.alloc (.cells #[.int .i64 b, .int .i64 s, .int .i64 t] 78)) #[.int .i64 0, .int .i64 0, .int .i64 0] 78 (w.heap.size + 1) i (v := v) (by simp) h
  obtain ⟨W1, hW1⟩ : ∃ W1, (w.alloc (.cells #[.int .i64 b, .int .i64 s, .int .i64 t] 78)).alloc (.cells #[.int .i64 0, .int .i64 0, .int .i64 0] 78) = W1 := ⟨_, rfl⟩
  have k1 : Calm w W1 := by rw [← hW1]; exact (Fr.alloc (Fr.refl _ _) _).alloc _
  rw [hW1] at o r ⊢
  clear hW1
  obtain ⟨B, hB⟩ : ∃ B, w.heap.size = B := ⟨_, rfl⟩
  have HB : Hid (w.heap.size = B) := hB
  rw [hB] at o r ⊢
  clear hB
  refine (sright_yes b s t _ H.out).mono ?_
  rintro e w1 ⟨rfl, c1⟩
  have o0 := ((o 0 _ rfl).fr c1 id)
  have o1 := ((o 1 _ rfl).fr c1 id)
  have o2 := ((o 2 _ rfl).fr c1 id)
  have r0 := ((r 0 _ rfl).fr c1 id)
  have r1 := ((r 1 _ rfl).fr c1 id)
  have r2 := ((r 2 _ rfl).fr c1 id)
  clear o r
  have o0a := o0.1
  have o0b := o0.2
  have o1a := o1.1
  have o1b := o1.2
  have o2a := o2.1
  have o2b := o2.2
  have r0a := r0.1
  have r0b := r0.2
  have r1a := r1.1
  have r1b := r1.2
  have r2a := r2.1
  have r2b := r2.2
  go_wp2
  obtain ⟨s0, s1, s2, sf⟩ := own_set3 (r0.far ⟨B, 2, none⟩ (.int .i64 b) (by simp)) (r1.far ⟨B, 2, none⟩ (.int .i64 b) (by simp)) (r2.far ⟨B, 2, none⟩ (.int .i64 b) (by simp)) (.int .i64 b) (.int .i64 s) (.int .i64 b)
  have kf : Calm w (w1.setCell ⟨B, 2, none⟩ (.int .i64 b)) := (k1.trans c1).setCell (.inr (by have := HB.out; simp; omega)) _
  refine bodyPost_ret (v := spV b s b) ?_ rfl ⟨rfl, kf.join sf (by have := HB.out; intro k h1 h2; omega)⟩
  simp [results, Try.f53, go_sem, s0.1, s1.1, s2.1]


set_option maxHeartbeats 1000000 in
theorem make_yes (b s : Int) (w : World) (h1 : 0 ≤ b) (h2 : b ≤ 65536) (h3 : 0 ≤ s) (h4 : s ≤ 65536) :
    Calls Try.prog 46 #[.int .i64 b, .int .i64 s] w fun e w' => e = .returned (.tuple #[spV b s b, .bool true]) ∧ Calm w w' := by
  go_enter Try.func46, Try.ntmps46
  go_wp2_with fail
  have r : OwnL ((w.alloc (.cells #[.int .i64 0, .int .i64 0, .int .i64 0] 78)).alloc (.cells #[.int .i64 b, .int .i64 s, .int .i64 b] 78)) w.heap.size [.int .i64 0, .int .i64 0, .int .i64 0] := (OwnL.new w [.int .i64 0, .int .i64 0, .int .i64 0] _).alloc _
  have o : OwnL ((w.alloc (.cells #[.int .i64 0, .int .i64 0, .int .i64 0] 78)).alloc (.cells #[.int .i64 b, .int .i64 s, .int .i64 b] 78)) (w.heap.size + 1) [.int .i64 b, .int .i64 s, .int .i64 b] := OwnL.at (w.alloc _) [.int .i64 b, .int .i64 s, .int .i64 b] _ _ (by simp)
  refine (sright_yes b s b _ ⟨by omega, by omega, by omega, by omega, by omega, by omega⟩).mono ?_
  rintro e w1 ⟨rfl, c1⟩
  replace r := r.calm c1
  replace o := o.calm c1
  have k1 : Calm w w1 := ((Fr.alloc (Fr.refl _ _) _).alloc _).trans c1
  clear c1
  obtain ⟨B, hB⟩ : ∃ B, w.heap.size = B := ⟨_, rfl⟩
  have HB : Hid (w.heap.size = B) := hB
  rw [hB] at o r ⊢
  clear hB
  have o0 := (o 0 _ rfl).1
  have o1 := (o 1 _ rfl).1
  have o2 := (o 2 _ rfl).1
  have r0 := (r 0 _ rfl).1
  have r1 := (r 1 _ rfl).1
  have r2 := (r 2 _ rfl).1
  have s0 := (r 0 _ rfl).2
  have s1 := (r 1 _ rfl).2
  have s2 := (r 2 _ rfl).2
  go_wp2
  obtain ⟨t0, tf⟩ := r.set3 (.int .i64 b) (.int .i64 s) (.int .i64 b)
  refine bodyPost_ret (v := .tuple #[spV b s b, .bool true]) ?_ rfl ⟨rfl, k1.join tf (by have := HB.out; intro k h1 h2; omega)⟩
  simp [results, Try.f46, go_sem, (t0 0 _ rfl).1, (t0 1 _ rfl).1, (t0 2 _ rfl).1]

set_option maxHeartbeats 1000000 in
theorem take_yes (b s t n : Int) (w : World) (h : okP b s t) (n1 : 1 ≤ n) (n2 : n ≤ 65536) (hl : rnd n ≤ s - (t - b)) :
    Calls Try.prog 48 #[spV b s t, .int .i64 n] w fun e w' => e = .returned (.tuple #[spV b s (t + rnd n), .int .i64 t, .bool true]) ∧ Calm w w' := by
  have rb := rnd_spec n2
  obtain ⟨x, hx⟩ : ∃ x, rnd n = x := ⟨_, rfl⟩
  rw [hx] at hl rb
  obtain ⟨rb1, rb2, rb3⟩ := rb
  rw [hx]
  have HR : Hid (rnd n = x) := hx
  clear hx
  have H : Hid (okP b s t) := h
  obtain ⟨h1, h2, h3, h4, h5, h6⟩ := h
  go_enter Try.func48, Try.ntmps48
  go_wp2_with fail
  have o : OwnL ((w.alloc (.cells #[.int .i64 b, .int .i64 s, .int .i64 t] 78)).alloc (.cells #[.int .i64 0, .int .i64 0, .int .i64 0] 78)) w.heap.size [.int .i64 b, .int .i64 s, .int .i64 t] := (OwnL.new w [.int .i64 b, .int .i64 s, .int .i64 t] _).alloc _
  have r : OwnL ((w.alloc (.cells #[.int .i64 b, .int .i64 s, .int .i64 t] 78)).alloc (.cells #[.int .i64 0, .int .i64 0, .int .i64 0] 78)) (w.heap.size + 1) [.int .i64 0, .int .i64 0, .int .i64 0] := OwnL.at (w.alloc _) [.int .i64 0, .int .i64 0, .int .i64 0] _ _ (by simp)
  refine (sright_yes b s t _ H.out).mono ?_
  rintro e w1 ⟨rfl, c1⟩
  replace r := r.calm c1
  replace o := o.calm c1
  have k1 : Calm w w1 := ((Fr.alloc (Fr.refl _ _) _).alloc _).trans c1
  clear c1
  obtain ⟨B, hB⟩ : ∃ B, w.heap.size = B := ⟨_, rfl⟩
  have HB : Hid (w.heap.size = B) := hB
  rw [hB] at o r ⊢
  clear hB
  go_wp2_with fail
  refine (round_yes n n1 n2 _).mono ?_
  rintro e w2 ⟨rfl, c2⟩
  replace r := r.calm c2
  replace o := o.calm c2
  have k2 := k1.trans c2
  clear c2 k1
  rw [HR.out]
  have o0 := (o 0 _ rfl).1
  have o1 := (o 1 _ rfl).1
  have o2 := (o 2 _ rfl).1
  go_wp2_with fail
  clear o0 o1 o2
  refine (left_any b s t _ H.out).mono ?_
  rintro e w3 ⟨rfl, c3⟩
  replace r := r.calm c3
  replace o := o.calm c3
  have k3 := k2.trans c3
  clear c3 k2
  have o0 := (o 0 _ rfl).1
  have o0f := (o 0 _ rfl).2
  have o1 := (o 1 _ rfl).1
  have o1f := (o 1 _ rfl).2
  have o2 := (o 2 _ rfl).1
  have o2f := (o 2 _ rfl).2
  have r0 := (r 0 _ rfl).1
  have r0f := (r 0 _ rfl).2
  have r1 := (r 1 _ rfl).1
  have r1f := (r 1 _ rfl).2
  have r2 := (r 2 _ rfl).1
  have r2f := (r 2 _ rfl).2
  go_wp2
  have o' := (o.set 2 (.int .i64 (t + x)) (by simp))
  obtain ⟨t0, tf⟩ := (r.far ⟨B, 2, none⟩ (.int .i64 (t + x)) (by simp)).set3 (.int .i64 b) (.int .i64 s) (.int .i64 (t + x))
  have k4 := k3.setCell (p := ⟨B, 2, none⟩) (.inr (by have := HB.out; simp; omega)) (.int .i64 (t + x))
  refine bodyPost_ret (v := .tuple #[spV b s (t + x), .int .i64 t, .bool true]) ?_ rfl ⟨rfl, k4.join tf (by have := HB.out; intro k h1 h2; omega)⟩
  simp [results, Try.f48, go_sem, (t0 0 _ rfl).1, (t0 1 _ rfl).1, (t0 2 _ rfl).1]

set_option maxHeartbeats 1000000 in
theorem take_full (b s t n : Int) (w : World) (h : okP b s t) (n1 : 1 ≤ n) (n2 : n ≤ 65536) (hl : s - (t - b) < rnd n) :
    Calls Try.prog 48 #[spV b s t, .int .i64 n] w fun e w' => e = .returned (.tuple #[spV b s t, .int .i64 0, .bool false]) ∧ Calm w w' := by
  have rb := rnd_spec n2
  obtain ⟨x, hx⟩ : ∃ x, rnd n = x := ⟨_, rfl⟩
  rw [hx] at hl rb
  obtain ⟨rb1, rb2, rb3⟩ := rb
  have HR : Hid (rnd n = x) := hx
  clear hx
  have H : Hid (okP b s t) := h
  obtain ⟨h1, h2, h3, h4, h5, h6⟩ := h
  go_enter Try.func48, Try.ntmps48
  go_wp2_with fail
  have o : OwnL ((w.alloc (.cells #[.int .i64 b, .int .i64 s, .int .i64 t] 78)).alloc (.cells #[.int .i64 0, .int .i64 0, .int .i64 0] 78)) w.heap.size [.int .i64 b, .int .i64 s, .int .i64 t] := (OwnL.new w [.int .i64 b, .int .i64 s, .int .i64 t] _).alloc _
  have r : OwnL ((w.alloc (.cells #[.int .i64 b, .int .i64 s, .int .i64 t] 78)).alloc (.cells #[.int .i64 0, .int .i64 0, .int .i64 0] 78)) (w.heap.size + 1) [.int .i64 0, .int .i64 0, .int .i64 0] := OwnL.at (w.alloc _) [.int .i64 0, .int .i64 0, .int .i64 0] _ _ (by simp)
  refine (sright_yes b s t _ H.out).mono ?_
  rintro e w1 ⟨rfl, c1⟩
  replace r := r.calm c1
  replace o := o.calm c1
  have k1 : Calm w w1 := ((Fr.alloc (Fr.refl _ _) _).alloc _).trans c1
  clear c1
  obtain ⟨B, hB⟩ : ∃ B, w.heap.size = B := ⟨_, rfl⟩
  have HB : Hid (w.heap.size = B) := hB
  rw [hB] at o r ⊢
  clear hB
  go_wp2_with fail
  refine (round_yes n n1 n2 _).mono ?_
  rintro e w2 ⟨rfl, c2⟩
  replace r := r.calm c2
  replace o := o.calm c2
  have k2 := k1.trans c2
  clear c2 k1
  rw [HR.out]
  have o0 := (o 0 _ rfl).1
  have o1 := (o 1 _ rfl).1
  have o2 := (o 2 _ rfl).1
  go_wp2_with fail
  clear o0 o1 o2
  refine (left_any b s t _ H.out).mono ?_
  rintro e w3 ⟨rfl, c3⟩
  replace r := r.calm c3
  replace o := o.calm c3
  have k3 := k2.trans c3
  clear c3 k2
  have o0 := (o 0 _ rfl).1
  have o0f := (o 0 _ rfl).2
  have o1 := (o 1 _ rfl).1
  have o1f := (o 1 _ rfl).2
  have o2 := (o 2 _ rfl).1
  have o2f := (o 2 _ rfl).2
  have r0 := (r 0 _ rfl).1
  have r0f := (r 0 _ rfl).2
  have r1 := (r 1 _ rfl).1
  have r1f := (r 1 _ rfl).2
  have r2 := (r 2 _ rfl).1
  have r2f := (r 2 _ rfl).2
  go_wp2
  obtain ⟨t0, tf⟩ := r.set3 (.int .i64 b) (.int .i64 s) (.int .i64 t)
  refine bodyPost_ret (v := .tuple #[spV b s t, .int .i64 0, .bool false]) ?_ rfl ⟨rfl, k3.join tf (by have := HB.out; intro k h1 h2; omega)⟩
  simp [results, Try.f48, go_sem, (t0 0 _ rfl).1, (t0 1 _ rfl).1, (t0 2 _ rfl).1]

set_option maxHeartbeats 1000000 in
theorem take_bad (b s t n : Int) (w : World) (h : okP b s t) (hn : n < 1 ∨ 65536 < n) :
    Calls Try.prog 48 #[spV b s t, .int .i64 n] w fun e w' => e = .returned (.tuple #[spV b s t, .int .i64 0, .bool false]) ∧ Calm w w' := by
  have HN : Hid (n < 1 ∨ 65536 < n) := hn
  clear hn
  have H : Hid (okP b s t) := h
  obtain ⟨h1, h2, h3, h4, h5, h6⟩ := h
  go_enter Try.func48, Try.ntmps48
  go_wp2_with fail
  have o : OwnL ((w.alloc (.cells #[.int .i64 b, .int .i64 s, .int .i64 t] 78)).alloc (.cells #[.int .i64 0, .int .i64 0, .int .i64 0] 78)) w.heap.size [.int .i64 b, .int .i64 s, .int .i64 t] := (OwnL.new w [.int .i64 b, .int .i64 s, .int .i64 t] _).alloc _
  have r : OwnL ((w.alloc (.cells #[.int .i64 b, .int .i64 s, .int .i64 t] 78)).alloc (.cells #[.int .i64 0, .int .i64 0, .int .i64 0] 78)) (w.heap.size + 1) [.int .i64 0, .int .i64 0, .int .i64 0] := OwnL.at (w.alloc _) [.int .i64 0, .int .i64 0, .int .i64 0] _ _ (by simp)
  refine (sright_yes b s t _ H.out).mono ?_
  rintro e w1 ⟨rfl, c1⟩
  replace r := r.calm c1
  replace o := o.calm c1
  have k1 : Calm w w1 := ((Fr.alloc (Fr.refl _ _) _).alloc _).trans c1
  clear c1
  obtain ⟨B, hB⟩ : ∃ B, w.heap.size = B := ⟨_, rfl⟩
  have HB : Hid (w.heap.size = B) := hB
  rw [hB] at o r ⊢
  clear hB
  go_wp2_with fail
  refine (round_no n HN.out _).mono ?_
  rintro e w2 ⟨rfl, c2⟩
  replace r := r.calm c2
  replace o := o.calm c2
  have k2 := k1.trans c2
  clear c2 k1
  have o0 := (o 0 _ rfl).1
  have o0f := (o 0 _ rfl).2
  have o1 := (o 1 _ rfl).1
  have o1f := (o 1 _ rfl).2
  have o2 := (o 2 _ rfl).1
  have o2f := (o 2 _ rfl).2
  have r0 := (r 0 _ rfl).1
  have r0f := (r 0 _ rfl).2
  have r1 := (r 1 _ rfl).1
  have r1f := (r 1 _ rfl).2
  have r2 := (r 2 _ rfl).1
  have r2f := (r 2 _ rfl).2
  go_wp2
  obtain ⟨t0, tf⟩ := r.set3 (.int .i64 b) (.int .i64 s) (.int .i64 t)
  refine bodyPost_ret (v := .tuple #[spV b s t, .int .i64 0, .bool false]) ?_ rfl ⟨rfl, k2.join tf (by have := HB.out; intro k h1 h2; omega)⟩
  simp [results, Try.f48, go_sem, (t0 0 _ rfl).1, (t0 1 _ rfl).1, (t0 2 _ rfl).1]

end Go.Proofs.Ytiomemdmhcdpbaa
