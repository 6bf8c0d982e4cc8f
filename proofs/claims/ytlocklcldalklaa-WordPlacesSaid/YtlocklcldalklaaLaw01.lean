/- Layer 1's small helpers: pick, same, Fit, Widths. -/
import Derived.Test.YtlocklcldalklaaWord6
import Derived.LoopN
import Derived.OwnWalk
set_option linter.unusedSimpArgs false
set_option linter.unusedVariables false
namespace Go.Proofs.Ytlocklcldalklaa
open Go.RowKit Go.Shelf
attribute [local go_sem] Oper.semAt_some

theorem pick01 (c n : Int) (w : World) (hc : I64 c) (hn : 0 < n) :
    Calls Try.prog 19 #[.int .i64 c, .int .i64 n] w fun e w' => e = .returned (.int .i64 (pk c n)) ∧ w = w' := by
  obtain ⟨h1, h2⟩ := hc
  have hn0 : (n == 0) = false := by simp; omega
  by_cases h : c < 0
  · have h0 : 0 ≤ -(c + 1) := by omega
    have hp : Hid (pk c n = (-(c + 1)) % n) := by unfold pk; rw [if_pos h]; rfl
    go_enter Try.func19, Try.ntmps19
    go_wp2
    go_ret
    refine ⟨?_, rfl⟩
    show Ending.returned (.int .i64 (-(Int.tmod (c + 1) n))) = _
    rw [hp.out, ← Int.neg_tmod, Int.tmod_eq_emod_of_nonneg h0]
  · have h0 : 0 ≤ c := by omega
    have hp : Hid (pk c n = c % n) := by unfold pk; rw [if_neg h]; rfl
    go_enter Try.func19, Try.ntmps19
    go_wp2
    go_ret
    exact ⟨by rw [hp.out]; rfl, rfl⟩

theorem same01_ne (a b : Option Addr) (n m ca cb : Nat) (w : World) (h : n ≠ m) (_hn : n ≤ 1000000) (_hm : m ≤ 1000000) :
    Calls Try.prog 18 #[.slice a n ca, .slice b m cb] w fun e w' => e = .returned (.bool false) ∧ Calm w w' := by
  have hne : ((n : Int) == (m : Int)) = false := by simp; omega
  have hne2 : ((n : Int) != (m : Int)) = true := by simp; omega
  go_enter Try.func18, Try.ntmps18
  go_wp2
  go_ret
  exact ⟨rfl, Fr.refl _ _⟩

def SamePost (xs ys : List Int) (w : World) (e : Ending) (w' : World) : Prop := e = .returned (.bool (decide (xs = ys))) ∧ Calm w w'

set_option maxHeartbeats 400000 in
theorem same01_eq (b0 o0 b1 o1 ca cb : Nat) (a0 a1 : Option Addr) (xs ys : List Int) (n : Nat) (w : World) (hx : xs.length = n) (hy : ys.length = n) (hn : n ≤ 1000000)
    (h0 : 0 < n → a0 = some ⟨b0, o0, none⟩) (h1 : 0 < n → a1 = some ⟨b1, o1, none⟩)
    (hc0 : ∀ i, i < n → w.cell? ⟨b0, o0 + i, none⟩ = some (.int .u64 (xs.getD i 0))) (hc1 : ∀ i, i < n → w.cell? ⟨b1, o1 + i, none⟩ = some (.int .u64 (ys.getD i 0))) :
    Calls Try.prog 18 #[.slice a0 n ca, .slice a1 n cb] w (SamePost xs ys w) := by
  have HX : Hid (xs.length = n) := hx
  have HY : Hid (ys.length = n) := hy
  have H0 : Hid (0 < n → a0 = some ⟨b0, o0, none⟩) := h0
  have H1 : Hid (0 < n → a1 = some ⟨b1, o1, none⟩) := h1
  have C0 : Hid (∀ i, i < n → w.cell? ⟨b0, o0 + i, none⟩ = some (.int .u64 (xs.getD i 0))) := hc0
  have C1 : Hid (∀ i, i < n → w.cell? ⟨b1, o1 + i, none⟩ = some (.int .u64 (ys.getD i 0))) := hc1
  clear hx hy h0 h1 hc0 hc1
  have hne : ((n : Int) == (n : Int)) = true := by simp
  have hne2 : ((n : Int) != (n : Int)) = false := by simp
  go_enter Try.func18, Try.ntmps18
  go_wp2
  go_loopw [5] (fun i wr => ∃ k : Nat, k ≤ n ∧ i = .int .i64 k ∧ Calm w wr ∧ ∀ j, j < k → xs.getD j 0 = ys.getD j 0) (fun i _ => n - (intOf i).toNat)
  case atStart => exact ⟨0, by omega, rfl, Fr.refl _ _, fun j hj => absurd hj (by omega)⟩
  case round =>
    obtain ⟨k, hk, rfl, hc, he⟩ := hrel
    have HE : Hid (∀ j, j < k → xs.getD j 0 = ys.getD j 0) := he
    clear he
    by_cases hlt : k < n
    · have q0 := H0.out (by omega)
      have q1 := H1.out (by omega)
      subst q0 q1
      have d0 : wr.cell? ⟨b0, o0 + k, none⟩ = some (.int .u64 (xs.getD k 0)) := hc.cellAt (C0.out k hlt) id
      have d1 : wr.cell? ⟨b1, o1 + k, none⟩ = some (.int .u64 (ys.getD k 0)) := hc.cellAt (C1.out k hlt) id
      obtain ⟨x, hx⟩ : ∃ x, xs.getD k 0 = x := ⟨_, rfl⟩
      obtain ⟨y, hy⟩ : ∃ y, ys.getD k 0 = y := ⟨_, rfl⟩
      rw [hx] at d0
      rw [hy] at d1
      have HX1 : Hid (xs.getD k 0 = x) := hx
      have HY1 : Hid (ys.getD k 0 = y) := hy
      clear hx hy
      by_cases hxy : x = y
      · subst hxy
        go_wp2
        go_quiet (fail)
        go_wp2
        go_roundw
        case rel => exact ⟨k + 1, by omega, by go_num, hc.drewN _, fun j hj => by
          by_cases e : j = k
          · subst e; rw [HX1.out, HY1.out]
          · exact HE.out j (by omega)⟩
        case measure => simp [intOf]; omega
      · have hb : (x == y) = false := by simpa using hxy
        have hb2 : (x != y) = true := by simpa using hxy
        go_wp2
        go_quiet (fail)
        go_wp2
        go_ret
        refine ⟨?_, ?_⟩
        · have : decide (xs = ys) = false := by simp; rintro rfl; exact hxy (HX1.out.symm.trans HY1.out)
          rw [this]; rfl
        · exact hc.drewN _
    · obtain rfl : k = n := by omega
      go_wp2
      go_ret
      have : decide (xs = ys) = true := by
        simp
        refine List.ext_getElem (by rw [HX.out, HY.out]) (fun i h1 h2 => ?_)
        have := HE.out i (by rw [← HX.out]; exact h1)
        simpa [List.getD, h1, h2] using this
      exact ⟨by rw [this]; rfl, hc⟩

theorem same01 (a b : Value) (xs ys : List Int) (w : World) (ha : Row w a (xs.map (Value.int .u64))) (hb : Row w b (ys.map (Value.int .u64))) (hx : xs.length ≤ 1000000) (hy : ys.length ≤ 1000000) :
    Calls Try.prog 18 #[a, b] w (SamePost xs ys w) := by
  obtain ⟨b0, o0, c0, ha, hca⟩ := ha.ints
  obtain ⟨b1, o1, c1, hb, hcb⟩ := hb.ints
  by_cases hl : xs.length = ys.length
  · obtain ⟨a0, c0', rfl, hp0⟩ : ∃ a0 c0', a = .slice a0 xs.length c0' ∧ (0 < xs.length → a0 = some ⟨b0, o0, none⟩) := by
      rcases ha with rfl | ⟨a', rfl, rfl⟩
      · exact ⟨_, _, rfl, fun _ => rfl⟩
      · exact ⟨a', _, rfl, fun h => by simp at h⟩
    obtain ⟨a1, c1', rfl, hp1⟩ : ∃ a1 c1', b = .slice a1 xs.length c1' ∧ (0 < xs.length → a1 = some ⟨b1, o1, none⟩) := by
      rcases hb with rfl | ⟨b', rfl, rfl⟩
      · exact ⟨_, _, by rw [hl], fun _ => rfl⟩
      · simp at hl; subst hl; exact ⟨b', _, rfl, fun h => by simp at h⟩
    exact same01_eq b0 o0 b1 o1 _ _ a0 a1 xs ys xs.length w rfl hl.symm hx hp0 hp1 hca (fun i hi => hcb i (by omega))
  · obtain ⟨a0, c0', rfl⟩ : ∃ a0 c0', a = .slice a0 xs.length c0' := by
      rcases ha with rfl | ⟨a', rfl, rfl⟩
      · exact ⟨_, _, rfl⟩
      · exact ⟨a', _, rfl⟩
    obtain ⟨a1, c1', rfl⟩ : ∃ a1 c1', b = .slice a1 ys.length c1' := by
      rcases hb with rfl | ⟨b', rfl, rfl⟩
      · exact ⟨_, _, rfl⟩
      · exact ⟨b', _, rfl⟩
    refine (same01_ne a0 a1 _ _ _ _ w hl hx hy).mono ?_
    rintro e w' ⟨rfl, hc⟩
    have : decide (xs = ys) = false := by simp; rintro rfl; exact hl rfl
    exact ⟨by rw [this], hc⟩


theorem fit01 (a b : Int) (ha : I64 a) (hb : I64 b) (w : World) :
    Calls Try.prog 11 #[.int .i64 a, .int .i64 b] w fun e w' => e = .returned (partV (pk a 64) (1 + pk b (64 - pk a 64))) ∧ Calm w w' := by
  go_enter Try.func11, Try.ntmps11
  go_wp2_with fail
  refine (pick01 a 64 _ ha (by decide)).mono ?_
  rintro e w1 ⟨rfl, rfl⟩
  obtain ⟨p1, p2⟩ := pk_range a (n := 64) (by decide)
  generalize hs : pk a 64 = s at *
  go_wp2_with fail
  refine (pick01 b (64 - s) _ hb (by omega)).mono ?_
  rintro e w1 ⟨rfl, rfl⟩
  obtain ⟨r1, r2⟩ := pk_range b (n := 64 - s) (by omega)
  generalize hd : pk b (64 - s) = d at *
  replace hs := hid hs
  replace hd := hid hd
  go_wp2
  refine bodyPost_ret (v := partV s (1 + d)) (by simp [results, Try.f11, go_sem]) rfl ⟨by rw [hs.out, hd.out], Fr.alloc (Fr.refl _ _) _⟩

/-- What Widths makes of the first k raw numbers. -/
def wid (raw : List Int) : Nat → List Int × Int
  | 0 => ([], 0)
  | k + 1 => if (wid raw k).2 + (1 + pk (raw.getD k 0) 20) ≤ 64 then ((wid raw k).1 ++ [1 + pk (raw.getD k 0) 20], (wid raw k).2 + (1 + pk (raw.getD k 0) 20)) else wid raw k

theorem ofs_append (ws : List Int) (x : Int) : ∀ {k : Nat}, k ≤ ws.length → ofs (ws ++ [x]) k = ofs ws k
  | 0, _ => rfl
  | k + 1, h => by
    show ofs (ws ++ [x]) k + (ws ++ [x]).getD k 0 = ofs ws k + ws.getD k 0
    rw [ofs_append ws x (by omega)]
    simp [List.getD, List.getElem?_append_left (show k < ws.length by omega)]

theorem wid_fits (raw : List Int) : ∀ k, Fits (wid raw k).1 ∧ ofs (wid raw k).1 (wid raw k).1.length = (wid raw k).2 ∧ 0 ≤ (wid raw k).2 ∧ (wid raw k).2 ≤ 64 ∧ (wid raw k).1.length ≤ k
  | 0 => ⟨⟨by simp [wid], by simp [wid, ofs]⟩, rfl, by simp [wid], by simp [wid], by simp [wid]⟩
  | k + 1 => by
    obtain ⟨hf, ho, h0, h6, hl⟩ := wid_fits raw k
    obtain ⟨p1, p2⟩ := pk_range (raw.getD k 0) (n := 20) (by decide)
    simp only [wid]
    split
    · rename_i h
      have e : ofs ((wid raw k).1 ++ [1 + pk (raw.getD k 0) 20]) ((wid raw k).1 ++ [1 + pk (raw.getD k 0) 20]).length = (wid raw k).2 + (1 + pk (raw.getD k 0) 20) := by
        rw [List.length_append]
        show ofs _ (wid raw k).1.length + ((wid raw k).1 ++ [1 + pk (raw.getD k 0) 20]).getD (wid raw k).1.length 0 = _
        rw [ofs_append _ _ (Nat.le_refl _), ho]
        simp [List.getD]
      refine ⟨⟨fun i hi => ?_, by rw [e]; exact h⟩, e, by show 0 ≤ (wid raw k).2 + _; omega, h, by simp; omega⟩
      rw [List.length_append] at hi
      simp at hi
      rcases Nat.lt_or_ge i (wid raw k).1.length with h' | h'
      · have := hf.pos i h'
        simp only [List.getD, List.getElem?_append_left h'] at this ⊢
        exact this
      · obtain rfl : i = (wid raw k).1.length := by omega
        have : ((wid raw k).1 ++ [1 + pk (raw.getD k 0) 20]).getD (wid raw k).1.length 0 = 1 + pk (raw.getD k 0) 20 := by simp [List.getD]
        rw [this]; omega
    · exact ⟨hf, ho, h0, h6, by omega⟩

theorem info_int01 : (Try.prog.info? 3).map (fun i => (i.zero, i.size, i.bytes)) = some (some (.int .i64 0), 1, 8) := by kernel_rfl

set_option maxHeartbeats 1000000 in
theorem widths_is (v : Value) (l : List Int) (w : World) (hl : ∀ x ∈ l, I64 x) (hm : l.length ≤ maxLen) (hr : Row w v (l.map (Value.int .i64))) :
    Calls Try.prog 15 #[v] w fun e w' => ∃ r, e = .returned r ∧ Row w' r ((wid l (min l.length 20)).1.map (Value.int .i64)) ∧ Calm w w' := by
  obtain ⟨i0, hi, hz0, hz1, hz2⟩ := info_parts info_int01
  obtain ⟨a, cap, rfl, hrow⟩ := hr.at
  simp only [List.length_map] at hr hrow ⊢
  have HR : Hid (∀ i (h : i < l.length), ∃ b off, a = some ⟨b, off, none⟩ ∧ w.cell? ⟨b, off + i, none⟩ = some (.int .i64 (l.getD i 0))) := fun i h => by
    obtain ⟨b, off, h1, h2⟩ := hrow i h
    exact ⟨b, off, h1, by rw [h2]; simp [List.getD, h]⟩
  clear hrow
  have hm' : (l.length : Int) ≤ 9223372036854775807 := by unfold maxLen at hm; omega
  go_enter Try.func15, Try.ntmps15
  go_wp2
  go_loopw [3, 4, 5] (fun o n i wr => ∃ k : Nat, k ≤ l.length ∧ k ≤ 20 ∧ i = .int .i64 k ∧ n = .int .i64 (wid l k).2 ∧ wr.ownsRow w.heap.size 3 1 o (wid l k).1.length ((wid l k).1.map (Value.int .i64)) ∧ Calm w wr) (fun _ _ i _ => 20 - (intOf i).toNat)
  case atStart => exact ⟨0, by omega, by omega, rfl, rfl, World.ownsRow_nil _ _ _ _, Fr.refl _ _⟩
  case round =>
    obtain ⟨k, hk, hk2, rfl, rfl, ho, hc⟩ := hrel
    obtain ⟨hf, hof, h0, h6, hlen⟩ := wid_fits l k
    have HW : Hid (wid l (k + 1) = if (wid l k).2 + (1 + pk (l.getD k 0) 20) ≤ 64 then ((wid l k).1 ++ [1 + pk (l.getD k 0) 20], (wid l k).2 + (1 + pk (l.getD k 0) 20)) else wid l k) := rfl
    have HO := hid ho
    clear hf hof ho
    by_cases hlt : k < l.length ∧ k < 20
    · obtain ⟨hl1, hl2⟩ := hlt
      obtain ⟨b, off, rfl, hcell⟩ := HR.out k hl1
      have hx := hl (l.getD k 0) (by simp [List.getD, hl1])
      have hcell' := hc.cellAt hcell id
      obtain ⟨q1, q2⟩ := pk_range (l.getD k 0) (n := 20) (by decide)
      have hs : w.heap.size ≤ wr.heap.size := hc.size
      clear HR hcell hl hr
      generalize hX : l.getD k 0 = X at *
      generalize hN : (wid l k).2 = N at *
      generalize hP : pk X 20 = p at *
      replace hP := hid hP
      replace hs := hid hs
      obtain ⟨o0, on, oc, rfl⟩ : ∃ va vn vc, u3 = .slice va vn vc := by
        obtain ⟨va, vc, h, _⟩ := Row.of_owns HO.out
        exact ⟨va, _, vc, h⟩
      go_wp2_with fail
      refine (pick01 X 20 _ hx (by decide)).mono ?_
      rintro e w1 ⟨rfl, rfl⟩
      rw [hP.out]
      by_cases hfit : N + (1 + p) ≤ 64
      · go_wp2_with (at_builtin; refine wpList_append_own _ rfl _ _ 33 rfl w.heap.size 3 i0 (.int .i64 0) 1 8 Try.underlying33 hi hz0 hz1 hz2 rfl (by decide) _ _ _ rfl (HO.out.alloc _) ⟨wr.heap.size, 0, none⟩ 1 1 [.int .i64 (1 + p)] rfl rfl (cell_one_new _ _ _) (by simp [Value.oneCell']) (by unfold maxLen; omega) (by omega) (by have := hs.out; simp; omega) ?_; intro v' w1 hown' hgrow _; obtain ⟨g', cap', rfl⟩ := ownsRow_succ hown'; have hF := hid (Fr.append1 HO.out hgrow); clear hgrow; replace hown' := hid hown')
        go_roundw
        case rel =>
          refine ⟨k + 1, by omega, by omega, by go_num, ?_, ?_, hc.join hF.out (by intros; omega)⟩
          · rw [HW.out, if_pos hfit]
          · rw [HW.out, if_pos hfit, List.length_append, List.map_append]; exact hown'.out
        case measure => simp [intOf]; omega
      · go_wp2
        go_roundw
        case rel =>
          refine ⟨k + 1, by omega, by omega, by go_num, ?_, ?_, hc⟩
          · rw [HW.out, if_neg (by omega), hN]
          · rw [HW.out, if_neg (by omega)]; exact HO.out
        case measure => simp [intOf]; omega
    · have hmin : Hid (min l.length 20 = k) := by show min l.length 20 = k; omega
      obtain ⟨o0, on, oc, rfl⟩ : ∃ va vn vc, u3 = .slice va vn vc := by
        obtain ⟨va, vc, h, _⟩ := Row.of_owns HO.out
        exact ⟨va, _, vc, h⟩
      clear HR hl hr
      by_cases hl1 : k < l.length
      · obtain rfl : k = 20 := by omega
        clear hlt hlen h0 h6 HW
        go_wp2
        go_ret
        exact ⟨_, rfl, by rw [hmin.out]; exact Row.of_owns HO.out, hc⟩
      · obtain rfl : k = l.length := by omega
        clear hlt hlen h0 h6 HW hl1 hk
        go_wp2
        go_ret
        exact ⟨_, rfl, by rw [hmin.out]; exact Row.of_owns HO.out, hc⟩

end Go.Proofs.Ytlocklcldalklaa
