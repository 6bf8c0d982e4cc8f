/- HeaderApart, HeaderWrong return true, whatever the input. -/
import Derived.Test.YteenndihmgmbfaaLaw06
set_option linter.unusedSimpArgs false
set_option linter.unusedVariables false
namespace Go.Proofs.Yteenndihmgmbfaa
open Go.RowKit Go.Shelf

/-- Three ints of an array. -/
theorem arr3 {xs : List Int} (h : xs.length = 3) (hb : ∀ x ∈ xs, I64 x) : ∃ a b c : Int, xs = [a, b, c] ∧ I64 a ∧ I64 b ∧ I64 c := by
  match xs, h with
  | [a, b, c], _ => exact ⟨a, b, c, rfl, hb a (by simp), hb b (by simp), hb c (by simp)⟩

set_option maxRecDepth 100000 in
set_option maxHeartbeats 1000000 in
theorem headerApart_walk (xs : List Int) (hx : xs.length = 3) (hxb : ∀ x ∈ xs, I64 x) (ys : List Int) (hy : ys.length = 3) (hyb : ∀ x ∈ ys, I64 x) (fr : Bool) (w : World) :
    Calls Try.prog 4 #[.agg (xs.map (Value.int .i64)).toArray, .agg (ys.map (Value.int .i64)).toArray, .bool fr] w fun e w' => e = .returned (.bool true) ∧ Below w.heap.size w w' := by
  obtain ⟨a0, a1, a2, rfl, A0, A1, A2⟩ := arr3 hx hxb
  obtain ⟨b0, b1, b2, rfl, B0, B1, B2⟩ := arr3 hy hyb
  clear hx hy hxb hyb
  simp only [List.map_cons, List.map_nil]
  go_enter Try.func4, Try.ntmps4
  go_wp2_with fail
  refine (awake06 _).mono ?_
  rintro e w1 ⟨rfl, c1⟩
  have oa := fun i v h => ((Own.new w #[.int .i64 a0, .int .i64 a1, .int .i64 a2] 30 i (v := v) h).alloc (.cells #[.int .i64 b0, .int .i64 b1, .int .i64 b2] 30)).fr c1 id
  have ob := fun i v h => (Own.at (w.alloc (.cells #[.int .i64 a0, .int .i64 a1, .int .i64 a2] 30)) #[.int .i64 b0, .int .i64 b1, .int .i64 b2] 30 (w.heap.size + 1) i (v := v) (by simp) h).fr c1 id
  have x0 := (oa 0 _ rfl).1
  have x1 := (oa 1 _ rfl).1
  have x2 := (oa 2 _ rfl).1
  have y0 := (ob 0 _ rfl).1
  have y1 := (ob 1 _ rfl).1
  have y2 := (ob 2 _ rfl).1
  have k1 : Calm w w1 := ((Fr.refl _ w).alloc _).alloc _ |>.trans c1
  clear oa ob c1
  go_wp2_with fail
  refine (fit06 a0 a1 a2 A0 A1 A2 _).mono ?_
  rintro e w2 ⟨p, d, wk, fn, ok, rfl, c2⟩
  have OK : Hid (okS p d wk fn) := ok
  clear ok
  replace y0 := c2.cellAt y0 id
  replace y1 := c2.cellAt y1 id
  replace y2 := c2.cellAt y2 id
  have yl : w.heap.size + 1 < w2.heap.size := World.block_lt_of_cell? w2 _ y0
  clear x0 x1 x2
  have k2 := k1.trans c2
  clear k1 c2
  go_wp2_with fail
  refine (fit06 b0 b1 b2 B0 B1 B2 _).mono ?_
  rintro e w3 ⟨p', d', wk', fn', ok, rfl, c3⟩
  have OK' : Hid (okS p' d' wk' fn') := ok
  clear ok y0 y1 y2
  obtain ⟨V1, hV1⟩ : ∃ V, hd p d wk fn fr = V := ⟨_, rfl⟩
  obtain ⟨V2, hV2⟩ : ∃ V, hd p' d' wk' fn' fr = V := ⟨_, rfl⟩
  obtain ⟨V3, hV3⟩ : ∃ V, hd p d wk fn (!fr) = V := ⟨_, rfl⟩
  have l1 : V1 < 4096 := by rw [← hV1]; exact hd_lt OK.out
  have l2 : V2 < 4096 := by rw [← hV2]; exact hd_lt OK'.out
  have l3 : V3 < 4096 := by rw [← hV3]; exact hd_lt OK.out
  have n13 : V1 ≠ V3 := by
    intro e; rw [← hV1, ← hV3] at e
    have := (hd_inj OK.out OK.out e).2.2.2.2
    cases fr <;> simp at this
  have n13b : ((V1 : Int) != (V3 : Int)) = true := by simp; omega
  have n13c : ((V1 : Int) == (V3 : Int)) = false := by simp; omega
  have n12 : (p = p' ∧ d = d' ∧ wk = wk' ∧ fn = fn' ∧ V1 = V2) ∨ (¬ (p = p' ∧ d = d' ∧ wk = wk' ∧ fn = fn') ∧ ((V1 : Int) == (V2 : Int)) = false) := by
    by_cases h : p = p' ∧ d = d' ∧ wk = wk' ∧ fn = fn'
    · obtain ⟨rfl, rfl, rfl, rfl⟩ := h
      exact .inl ⟨rfl, rfl, rfl, rfl, hV1.symm.trans hV2⟩
    · refine .inr ⟨h, ?_⟩
      have : V1 ≠ V2 := by
        intro e; rw [← hV1, ← hV2] at e
        have := hd_inj OK.out OK'.out e
        exact h ⟨this.1, this.2.1, this.2.2.1, this.2.2.2.1⟩
      simp; omega
  have HV1 : Hid (hd p d wk fn fr = V1) := hV1
  have HV2 : Hid (hd p' d' wk' fn' fr = V2) := hV2
  have HV3 : Hid (hd p d wk fn (!fr) = V3) := hV3
  clear hV1 hV2 hV3 n13
  have oa := fun i v h => (Own.new w2 #[.int .i64 p, .int .i64 d, .bool wk, .bool fn] 32 i (v := v) h).fr c3 id
  have x0 := (oa 0 _ rfl).1
  have x1 := (oa 1 _ rfl).1
  have x2 := (oa 2 _ rfl).1
  have x3 := (oa 3 _ rfl).1
  have xl : w2.heap.size < w3.heap.size := World.block_lt_of_cell? w3 _ x0
  have k3 := (Fr.alloc k2 _).trans c3
  clear k2 c3 oa
  rcases n12 with ⟨rfl, rfl, rfl, rfl, rfl⟩ | ⟨hne, n12⟩
  · go_wp2_with fail
    refine (head_yes p d wk fn fr OK.out _).mono ?_
    rintro e w4 ⟨rfl, c4⟩
    rw [HV1.out]
    have ob := fun i v h => (Own.new w3 #[.int .i64 p, .int .i64 d, .bool wk, .bool fn] 32 i (v := v) h).fr c4 id
    have y0 := (ob 0 _ rfl).1
    have y1 := (ob 1 _ rfl).1
    have y2 := (ob 2 _ rfl).1
    have y3 := (ob 3 _ rfl).1
    have yl' : w3.heap.size < w4.heap.size := World.block_lt_of_cell? w4 _ y0
    have c4' : Calm w3 w4 := (Fr.alloc (Fr.refl _ _) _).trans c4
    replace x0 := c4'.cellAt x0 id
    replace x1 := c4'.cellAt x1 id
    replace x2 := c4'.cellAt x2 id
    replace x3 := c4'.cellAt x3 id
    have k4 := k3.trans c4'
    clear k3 c4 c4' ob
    go_wp2_with fail
    refine (head_yes p d wk fn fr OK'.out _).mono ?_
    rintro e w5 ⟨rfl, c5⟩
    rw [HV2.out]
    replace x0 := c5.cellAt x0 id
    replace x1 := c5.cellAt x1 id
    replace x2 := c5.cellAt x2 id
    replace x3 := c5.cellAt x3 id
    replace y0 := c5.cellAt y0 id
    replace y1 := c5.cellAt y1 id
    replace y2 := c5.cellAt y2 id
    replace y3 := c5.cellAt y3 id
    have k5 := k4.trans c5
    clear k4 c5
    go_wp2_with fail
    refine (head_yes p d wk fn (!fr) OK.out _).mono ?_
    rintro e w6 ⟨rfl, c6⟩
    rw [HV3.out]
    replace x0 := c6.cellAt x0 id
    replace x1 := c6.cellAt x1 id
    replace x2 := c6.cellAt x2 id
    replace x3 := c6.cellAt x3 id
    replace y0 := c6.cellAt y0 id
    replace y1 := c6.cellAt y1 id
    replace y2 := c6.cellAt y2 id
    replace y3 := c6.cellAt y3 id
    have k6 := k5.trans c6
    clear k5 c6
    go_wp2
    go_ret
    exact ⟨by simp [n13c], Calm.below k6⟩
  · have HNE : Hid (¬ (p = p' ∧ d = d' ∧ wk = wk' ∧ fn = fn')) := hne
    clear hne
    go_wp2_with fail
    refine (head_yes p d wk fn fr OK.out _).mono ?_
    rintro e w4 ⟨rfl, c4⟩
    rw [HV1.out]
    have ob := fun i v h => (Own.new w3 #[.int .i64 p', .int .i64 d', .bool wk', .bool fn'] 32 i (v := v) h).fr c4 id
    have y0 := (ob 0 _ rfl).1
    have y1 := (ob 1 _ rfl).1
    have y2 := (ob 2 _ rfl).1
    have y3 := (ob 3 _ rfl).1
    have yl' : w3.heap.size < w4.heap.size := World.block_lt_of_cell? w4 _ y0
    have c4' : Calm w3 w4 := (Fr.alloc (Fr.refl _ _) _).trans c4
    replace x0 := c4'.cellAt x0 id
    replace x1 := c4'.cellAt x1 id
    replace x2 := c4'.cellAt x2 id
    replace x3 := c4'.cellAt x3 id
    have k4 := k3.trans c4'
    clear k3 c4 c4' ob
    go_wp2_with fail
    refine (head_yes p' d' wk' fn' fr OK'.out _).mono ?_
    rintro e w5 ⟨rfl, c5⟩
    rw [HV2.out]
    replace x0 := c5.cellAt x0 id
    replace x1 := c5.cellAt x1 id
    replace x2 := c5.cellAt x2 id
    replace x3 := c5.cellAt x3 id
    replace y0 := c5.cellAt y0 id
    replace y1 := c5.cellAt y1 id
    replace y2 := c5.cellAt y2 id
    replace y3 := c5.cellAt y3 id
    have k5 := k4.trans c5
    clear k4 c5
    go_wp2_with fail
    refine (head_yes p d wk fn (!fr) OK.out _).mono ?_
    rintro e w6 ⟨rfl, c6⟩
    rw [HV3.out]
    replace x0 := c6.cellAt x0 id
    replace x1 := c6.cellAt x1 id
    replace x2 := c6.cellAt x2 id
    replace x3 := c6.cellAt x3 id
    replace y0 := c6.cellAt y0 id
    replace y1 := c6.cellAt y1 id
    replace y2 := c6.cellAt y2 id
    replace y3 := c6.cellAt y3 id
    have k6 := k5.trans c6
    clear k5 c6
    go_wp2
    all_goals
      first
        | exact absurd ⟨by omega, by omega, by assumption, by assumption⟩ HNE.out
        | (go_ret; exact ⟨by simp [n13c], Calm.below k6⟩)

set_option maxRecDepth 100000 in
set_option maxHeartbeats 1000000 in
theorem headerWrong_walk (xs : List Int) (hx : xs.length = 3) (hxb : ∀ x ∈ xs, I64 x) (by_ : Int) (hb : I64 by_) (how : Int) (hh : I64 how) (w : World) :
    Calls Try.prog 5 #[.agg (xs.map (Value.int .i64)).toArray, .int .i64 by_, .int .i64 how] w fun e w' => e = .returned (.bool true) ∧ Below w.heap.size w w' := by
  obtain ⟨a0, a1, a2, rfl, A0, A1, A2⟩ := arr3 hx hxb
  clear hx hxb
  simp only [List.map_cons, List.map_nil]
  have rh := pk_range how (n := 4) (by omega)
  have rb := pk_range by_ (n := 1000) (by omega)
  have rc := pk_range by_ (n := 7) (by omega)
  obtain ⟨h, hh'⟩ : ∃ h, pk how 4 = h := ⟨_, rfl⟩
  obtain ⟨b, hb'⟩ : ∃ h, pk by_ 1000 = h := ⟨_, rfl⟩
  obtain ⟨c, hc'⟩ : ∃ h, pk by_ 7 = h := ⟨_, rfl⟩
  rw [hh'] at rh
  rw [hb'] at rb
  rw [hc'] at rc
  have HH : Hid (pk how 4 = h) := hh'
  have HB : Hid (pk by_ 1000 = b) := hb'
  have HC : Hid (pk by_ 7 = c) := hc'
  clear hh' hb' hc'
  obtain ⟨rh1, rh2⟩ := rh
  obtain ⟨rb1, rb2⟩ := rb
  obtain ⟨rc1, rc2⟩ := rc
  have cases4 : h = 0 ∨ h = 1 ∨ h = 2 ∨ h = 3 := by omega
  clear rh1 rh2
  rcases cases4 with rfl | rfl | rfl | rfl
  · go_enter Try.func5, Try.ntmps5
    go_wp2_with fail
    refine (awake06 _).mono ?_
    rintro e w1 ⟨rfl, c1⟩
    have oa := fun i v h => (Own.new w #[.int .i64 a0, .int .i64 a1, .int .i64 a2] 30 i (v := v) h).fr c1 id
    have x0 := (oa 0 _ rfl).1
    have x1 := (oa 1 _ rfl).1
    have x2 := (oa 2 _ rfl).1
    have k1 : Calm w w1 := ((Fr.refl _ w).alloc _).trans c1
    clear oa c1
    go_wp2_with fail
    refine (fit06 a0 a1 a2 A0 A1 A2 _).mono ?_
    rintro e w2 ⟨p, d, wk, fn, ok, rfl, c2⟩
    have OK : Hid (okS p d wk fn) := ok
    have p8 : p ≤ 8 := ok.1
    have d8 : d ≤ 8 := ok.2.1
    have k2 := k1.trans c2
    clear x0 x1 x2 ok k1 c2
    go_wp2_with fail
    refine (pick06 how 4 _ hh (by omega)).mono ?_
    rintro e w' ⟨rfl, rfl⟩
    rw [HH.out]
    go_wp2_with fail
    refine (pick06 by_ 1000 _ hb (by omega)).mono ?_
    rintro e w' ⟨rfl, rfl⟩
    rw [HB.out]
    go_wp2_with fail
    have BAD : Hid (badS (9 + b) d wk fn) := by right; left; omega
    refine (size_no (9 + b) d wk fn BAD.out _).mono ?_
    rintro e w3 ⟨rfl, c3⟩
    have ob := fun i v h => (Own.new w2 #[.int .i64 (9 + b), .int .i64 d, .bool wk, .bool fn] 32 i (v := v) h).fr c3 id
    have y0 := (ob 0 _ rfl).1
    have y1 := (ob 1 _ rfl).1
    have y2 := (ob 2 _ rfl).1
    have y3 := (ob 3 _ rfl).1
    have k3 := (Fr.alloc k2 _).trans c3
    clear ob c3 k2
    go_wp2_with fail
    refine (head_no (9 + b) d wk fn false BAD.out _).mono ?_
    rintro e w4 ⟨rfl, c4⟩
    replace y0 := c4.cellAt y0 id
    replace y1 := c4.cellAt y1 id
    replace y2 := c4.cellAt y2 id
    replace y3 := c4.cellAt y3 id
    have k4 := k3.trans c4
    clear k3 c4
    go_wp2_with fail
    refine (hright_no (9 + b) d wk fn BAD.out _).mono ?_
    rintro e w5 ⟨rfl, c5⟩
    go_wp2
    go_ret
    exact ⟨by simp, Calm.below (k4.trans c5)⟩
  · go_enter Try.func5, Try.ntmps5
    go_wp2_with fail
    refine (awake06 _).mono ?_
    rintro e w1 ⟨rfl, c1⟩
    have oa := fun i v h => (Own.new w #[.int .i64 a0, .int .i64 a1, .int .i64 a2] 30 i (v := v) h).fr c1 id
    have x0 := (oa 0 _ rfl).1
    have x1 := (oa 1 _ rfl).1
    have x2 := (oa 2 _ rfl).1
    have k1 : Calm w w1 := ((Fr.refl _ w).alloc _).trans c1
    clear oa c1
    go_wp2_with fail
    refine (fit06 a0 a1 a2 A0 A1 A2 _).mono ?_
    rintro e w2 ⟨p, d, wk, fn, ok, rfl, c2⟩
    have OK : Hid (okS p d wk fn) := ok
    have p8 : p ≤ 8 := ok.1
    have d8 : d ≤ 8 := ok.2.1
    have k2 := k1.trans c2
    clear x0 x1 x2 ok k1 c2
    go_wp2_with fail
    refine (pick06 how 4 _ hh (by omega)).mono ?_
    rintro e w' ⟨rfl, rfl⟩
    rw [HH.out]
    go_wp2_with fail
    refine (pick06 by_ 1000 _ hb (by omega)).mono ?_
    rintro e w' ⟨rfl, rfl⟩
    rw [HB.out]
    go_wp2_with fail
    have BAD : Hid (badS p (-1 - b) wk fn) := by right; right; left; omega
    refine (size_no p (-1 - b) wk fn BAD.out _).mono ?_
    rintro e w3 ⟨rfl, c3⟩
    have ob := fun i v h => (Own.new w2 #[.int .i64 p, .int .i64 (-1 - b), .bool wk, .bool fn] 32 i (v := v) h).fr c3 id
    have y0 := (ob 0 _ rfl).1
    have y1 := (ob 1 _ rfl).1
    have y2 := (ob 2 _ rfl).1
    have y3 := (ob 3 _ rfl).1
    have k3 := (Fr.alloc k2 _).trans c3
    clear ob c3 k2
    go_wp2_with fail
    refine (head_no p (-1 - b) wk fn false BAD.out _).mono ?_
    rintro e w4 ⟨rfl, c4⟩
    replace y0 := c4.cellAt y0 id
    replace y1 := c4.cellAt y1 id
    replace y2 := c4.cellAt y2 id
    replace y3 := c4.cellAt y3 id
    have k4 := k3.trans c4
    clear k3 c4
    go_wp2_with fail
    refine (hright_no p (-1 - b) wk fn BAD.out _).mono ?_
    rintro e w5 ⟨rfl, c5⟩
    go_wp2
    go_ret
    exact ⟨by simp, Calm.below (k4.trans c5)⟩
  · go_enter Try.func5, Try.ntmps5
    go_wp2_with fail
    refine (awake06 _).mono ?_
    rintro e w1 ⟨rfl, c1⟩
    have oa := fun i v h => (Own.new w #[.int .i64 a0, .int .i64 a1, .int .i64 a2] 30 i (v := v) h).fr c1 id
    have x0 := (oa 0 _ rfl).1
    have x1 := (oa 1 _ rfl).1
    have x2 := (oa 2 _ rfl).1
    have k1 : Calm w w1 := ((Fr.refl _ w).alloc _).trans c1
    clear oa c1
    go_wp2_with fail
    refine (fit06 a0 a1 a2 A0 A1 A2 _).mono ?_
    rintro e w2 ⟨p, d, wk, fn, ok, rfl, c2⟩
    have OK : Hid (okS p d wk fn) := ok
    have p8 : p ≤ 8 := ok.1
    have d8 : d ≤ 8 := ok.2.1
    have k2 := k1.trans c2
    clear x0 x1 x2 ok k1 c2
    go_wp2_with fail
    refine (pick06 how 4 _ hh (by omega)).mono ?_
    rintro e w' ⟨rfl, rfl⟩
    rw [HH.out]
    go_wp2_with fail
    refine (pick06 by_ 7 _ hb (by omega)).mono ?_
    rintro e w' ⟨rfl, rfl⟩
    rw [HC.out]
    go_wp2_with fail
    have BAD : Hid (badS (2 + c) 0 true false) := by right; right; right; right; exact ⟨rfl, .inl (by omega)⟩
    refine (size_no (2 + c) 0 true false BAD.out _).mono ?_
    rintro e w3 ⟨rfl, c3⟩
    have ob := fun i v h => (Own.new w2 #[.int .i64 (2 + c), .int .i64 0, .bool true, .bool false] 32 i (v := v) h).fr c3 id
    have y0 := (ob 0 _ rfl).1
    have y1 := (ob 1 _ rfl).1
    have y2 := (ob 2 _ rfl).1
    have y3 := (ob 3 _ rfl).1
    have k3 := (Fr.alloc k2 _).trans c3
    clear ob c3 k2
    go_wp2_with fail
    refine (head_no (2 + c) 0 true false false BAD.out _).mono ?_
    rintro e w4 ⟨rfl, c4⟩
    replace y0 := c4.cellAt y0 id
    replace y1 := c4.cellAt y1 id
    replace y2 := c4.cellAt y2 id
    replace y3 := c4.cellAt y3 id
    have k4 := k3.trans c4
    clear k3 c4
    go_wp2_with fail
    refine (hright_no (2 + c) 0 true false BAD.out _).mono ?_
    rintro e w5 ⟨rfl, c5⟩
    go_wp2
    go_ret
    exact ⟨by simp, Calm.below (k4.trans c5)⟩
  · go_enter Try.func5, Try.ntmps5
    go_wp2_with fail
    refine (awake06 _).mono ?_
    rintro e w1 ⟨rfl, c1⟩
    have oa := fun i v h => (Own.new w #[.int .i64 a0, .int .i64 a1, .int .i64 a2] 30 i (v := v) h).fr c1 id
    have x0 := (oa 0 _ rfl).1
    have x1 := (oa 1 _ rfl).1
    have x2 := (oa 2 _ rfl).1
    have k1 : Calm w w1 := ((Fr.refl _ w).alloc _).trans c1
    clear oa c1
    go_wp2_with fail
    refine (fit06 a0 a1 a2 A0 A1 A2 _).mono ?_
    rintro e w2 ⟨p, d, wk, fn, ok, rfl, c2⟩
    have OK : Hid (okS p d wk fn) := ok
    have p8 : p ≤ 8 := ok.1
    have d8 : d ≤ 8 := ok.2.1
    have k2 := k1.trans c2
    clear x0 x1 x2 ok k1 c2
    go_wp2_with fail
    refine (pick06 how 4 _ hh (by omega)).mono ?_
    rintro e w' ⟨rfl, rfl⟩
    rw [HH.out]
    go_wp2_with fail
    have BAD : Hid (badS 1 0 true true) := by right; right; right; right; exact ⟨rfl, .inr (.inr rfl)⟩
    refine (size_no 1 0 true true BAD.out _).mono ?_
    rintro e w3 ⟨rfl, c3⟩
    have ob := fun i v h => (Own.new w2 #[.int .i64 1, .int .i64 0, .bool true, .bool true] 32 i (v := v) h).fr c3 id
    have y0 := (ob 0 _ rfl).1
    have y1 := (ob 1 _ rfl).1
    have y2 := (ob 2 _ rfl).1
    have y3 := (ob 3 _ rfl).1
    have k3 := (Fr.alloc k2 _).trans c3
    clear ob c3 k2
    go_wp2_with fail
    refine (head_no 1 0 true true false BAD.out _).mono ?_
    rintro e w4 ⟨rfl, c4⟩
    replace y0 := c4.cellAt y0 id
    replace y1 := c4.cellAt y1 id
    replace y2 := c4.cellAt y2 id
    replace y3 := c4.cellAt y3 id
    have k4 := k3.trans c4
    clear k3 c4
    go_wp2_with fail
    refine (hright_no 1 0 true true BAD.out _).mono ?_
    rintro e w5 ⟨rfl, c5⟩
    go_wp2
    go_ret
    exact ⟨by simp, Calm.below (k4.trans c5)⟩

end Go.Proofs.Yteenndihmgmbfaa
