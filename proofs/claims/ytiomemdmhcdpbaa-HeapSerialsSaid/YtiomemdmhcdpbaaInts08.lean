/- Layer 8's small helpers: pick, Ints. -/
import Derived.Test.YtiomemdmhcdpbaaWord
import Derived.LoopN
set_option linter.unusedSimpArgs false
set_option linter.unusedVariables false
namespace Go.Proofs.Ytiomemdmhcdpbaa
open Go.RowKit Go.Shelf

theorem ints08_ne (a b : Option Addr) (n m ca cb : Nat) (w : World) (h : n ≠ m) (_hn : n ≤ 1000000) (_hm : m ≤ 1000000) :
    Calls Try.prog 58 #[.slice a n ca, .slice b m cb] w fun e w' => e = .returned (.bool false) ∧ Calm w w' := by
  have hne : ((n : Int) == (m : Int)) = false := by simp; omega
  have hne2 : ((n : Int) != (m : Int)) = true := by simp; omega
  go_enter Try.func58, Try.ntmps58
  go_wp2
  go_ret
  exact ⟨rfl, Fr.refl _ _⟩

def SamePost (xs ys : List Int) (w : World) (e : Ending) (w' : World) : Prop := e = .returned (.bool (decide (xs = ys))) ∧ Calm w w'

set_option maxHeartbeats 400000 in
theorem ints08_eq (b0 o0 b1 o1 ca cb : Nat) (a0 a1 : Option Addr) (xs ys : List Int) (n : Nat) (w : World) (hx : xs.length = n) (hy : ys.length = n) (hn : n ≤ 1000000)
    (h0 : 0 < n → a0 = some ⟨b0, o0, none⟩) (h1 : 0 < n → a1 = some ⟨b1, o1, none⟩)
    (hc0 : ∀ i, i < n → w.cell? ⟨b0, o0 + i, none⟩ = some (.int .i64 (xs.getD i 0))) (hc1 : ∀ i, i < n → w.cell? ⟨b1, o1 + i, none⟩ = some (.int .i64 (ys.getD i 0))) :
    Calls Try.prog 58 #[.slice a0 n ca, .slice a1 n cb] w (SamePost xs ys w) := by
  have HX : Hid (xs.length = n) := hx
  have HY : Hid (ys.length = n) := hy
  have H0 : Hid (0 < n → a0 = some ⟨b0, o0, none⟩) := h0
  have H1 : Hid (0 < n → a1 = some ⟨b1, o1, none⟩) := h1
  have C0 : Hid (∀ i, i < n → w.cell? ⟨b0, o0 + i, none⟩ = some (.int .i64 (xs.getD i 0))) := hc0
  have C1 : Hid (∀ i, i < n → w.cell? ⟨b1, o1 + i, none⟩ = some (.int .i64 (ys.getD i 0))) := hc1
  clear hx hy h0 h1 hc0 hc1
  have hne : ((n : Int) == (n : Int)) = true := by simp
  have hne2 : ((n : Int) != (n : Int)) = false := by simp
  go_enter Try.func58, Try.ntmps58
  go_wp2
  go_loopw [5] (fun i wr => ∃ k : Nat, k ≤ n ∧ i = .int .i64 k ∧ Calm w wr ∧ ∀ j, j < k → xs.getD j 0 = ys.getD j 0) (fun i _ => n - (intOf i).toNat)
  case atStart => exact ⟨0, by omega, rfl, Fr.refl _ _, fun j hj => absurd hj (by omega)⟩
  case round =>
    obtain ⟨k, hk, rfl, hc, he⟩ := hrel
    have HE : Hid (∀ j, j < k → xs.getD j 0 = ys.getD j 0) := he
    clear he
    by_cases hlt : k < n
    · have q0 := H0.out (by omega)
      have q1 := H1.out (by omega)
      subst q0 q1
      have d0 : wr.cell? ⟨b0, o0 + k, none⟩ = some (.int .i64 (xs.getD k 0)) := hc.cellAt (C0.out k hlt) id
      have d1 : wr.cell? ⟨b1, o1 + k, none⟩ = some (.int .i64 (ys.getD k 0)) := hc.cellAt (C1.out k hlt) id
      obtain ⟨x, hx⟩ : ∃ x, xs.getD k 0 = x := ⟨_, rfl⟩
      obtain ⟨y, hy⟩ : ∃ y, ys.getD k 0 = y := ⟨_, rfl⟩
      rw [hx] at d0
      rw [hy] at d1
      have HX1 : Hid (xs.getD k 0 = x) := hx
      have HY1 : Hid (ys.getD k 0 = y) := hy
      clear hx hy
      by_cases hxy : x = y
      · subst hxy
        go_wp2
        go_quiet (fail)
        go_wp2
        go_roundw
        case rel => exact ⟨k + 1, by omega, by go_num, hc.drewN _, fun j hj => by
          by_cases e : j = k
          · subst e; rw [HX1.out, HY1.out]
          · exact HE.out j (by omega)⟩
        case measure => simp [intOf]; omega
      · have hb : (x == y) = false := by simpa using hxy
        have hb2 : (x != y) = true := by simpa using hxy
        go_wp2
        go_quiet (fail)
        go_wp2
        go_ret
        refine ⟨?_, ?_⟩
        · have : decide (xs = ys) = false := by simp; rintro rfl; exact hxy (HX1.out.symm.trans HY1.out)
          rw [this]; rfl
        · exact hc.drewN _
    · obtain rfl : k = n := by omega
      go_wp2
      go_ret
      have : decide (xs = ys) = true := by
        simp
        refine List.ext_getElem (by rw [HX.out, HY.out]) (fun i h1 h2 => ?_)
        have := HE.out i (by rw [← HX.out]; exact h1)
        simpa [List.getD, h1, h2] using this
      exact ⟨by rw [this]; rfl, hc⟩

theorem ints08 (a b : Value) (xs ys : List Int) (w : World) (ha : Row w a (xs.map (Value.int .i64))) (hb : Row w b (ys.map (Value.int .i64))) (hx : xs.length ≤ 1000000) (hy : ys.length ≤ 1000000) :
    Calls Try.prog 58 #[a, b] w (SamePost xs ys w) := by
  obtain ⟨b0, o0, c0, ha, hca⟩ := ha.ints
  obtain ⟨b1, o1, c1, hb, hcb⟩ := hb.ints
  by_cases hl : xs.length = ys.length
  · obtain ⟨a0, c0', rfl, hp0⟩ : ∃ a0 c0', a = .slice a0 xs.length c0' ∧ (0 < xs.length → a0 = some ⟨b0, o0, none⟩) := by
      rcases ha with rfl | ⟨a', rfl, rfl⟩
      · exact ⟨_, _, rfl, fun _ => rfl⟩
      · exact ⟨a', _, rfl, fun h => by simp at h⟩
    obtain ⟨a1, c1', rfl, hp1⟩ : ∃ a1 c1', b = .slice a1 xs.length c1' ∧ (0 < xs.length → a1 = some ⟨b1, o1, none⟩) := by
      rcases hb with rfl | ⟨b', rfl, rfl⟩
      · exact ⟨_, _, by rw [hl], fun _ => rfl⟩
      · simp at hl; subst hl; exact ⟨b', _, rfl, fun h => by simp at h⟩
    exact ints08_eq b0 o0 b1 o1 _ _ a0 a1 xs ys xs.length w rfl hl.symm hx hp0 hp1 hca (fun i hi => hcb i (by omega))
  · obtain ⟨a0, c0', rfl⟩ : ∃ a0 c0', a = .slice a0 xs.length c0' := by
      rcases ha with rfl | ⟨a', rfl, rfl⟩
      · exact ⟨_, _, rfl⟩
      · exact ⟨a', _, rfl⟩
    obtain ⟨a1, c1', rfl⟩ : ∃ a1 c1', b = .slice a1 ys.length c1' := by
      rcases hb with rfl | ⟨b', rfl, rfl⟩
      · exact ⟨_, _, rfl⟩
      · exact ⟨b', _, rfl⟩
    refine (ints08_ne a0 a1 _ _ _ _ w hl hx hy).mono ?_
    rintro e w' ⟨rfl, hc⟩
    have : decide (xs = ys) = false := by simp; rintro rfl; exact hl rfl
    exact ⟨by rw [this], hc⟩

end Go.Proofs.Ytiomemdmhcdpbaa
