/- What the functions of package arena return. -/
import Derived.Test.YtiomemdmhcdpbaaWord
import Derived.Test.YtiomemdmhcdpbaaTail
import Derived.LoopN
import Derived.Laws.Rows
set_option linter.unusedSimpArgs false
set_option linter.unusedVariables false
namespace Go.Proofs.Ytiomemdmhcdpbaa
open Go.RowKit Go.Shelf

/-- A block of one's own, known whole. -/
def Whole (w : World) (c : Nat) (vs : List Value) : Prop := ∃ t, w.heap[c]? = some (.cells vs.toArray t (0, 0))
theorem Whole.own {w : World} {c : Nat} {vs : List Value} (h : Whole w c vs) : OwnL w c vs := by
  obtain ⟨t, hg⟩ := h
  intro i v hv
  exact ⟨by simp [World.cell?, hg, hv], by simp [World.frozen?, hg]⟩
theorem Whole.fr {S : Nat → Prop} {w w' : World} {c : Nat} {vs : List Value} (h : Whole w c vs) (f : Fr S w w') (hs : ¬ S c) : Whole w' c vs := by
  obtain ⟨t, hg⟩ := h
  exact ⟨t, f.heapAt hg hs⟩
theorem Whole.set {w : World} {c : Nat} {vs : List Value} (h : Whole w c vs) (k : Nat) (u : Value) : Whole (w.setCell ⟨c, k, none⟩ u) c (vs.set k u) := by
  obtain ⟨t, hg⟩ := h
  exact ⟨t, by rw [heap_setCell_same _ _ _ _ _ _ hg]; simp⟩

/-- An arena: its struct's block p, its words' block c, its words. -/
def Ar (w : World) (p c : Nat) (xs : List Nat) : Prop :=
  Own w p 0 (.slice (some ⟨c, 0, none⟩) xs.length xs.length) ∧ Whole w c (xs.map wV) ∧ p ≠ c ∧ xs.length ≤ 65536

/-- An arena's pointer. -/
abbrev arV (p : Nat) : Value := .pointer (some ⟨p, 0, none⟩)

theorem Ar.fr {S : Nat → Prop} {w w' : World} {p c : Nat} {xs : List Nat} (h : Ar w p c xs) (f : Fr S w w') (hp : ¬ S p) (hc : ¬ S c) : Ar w' p c xs :=
  ⟨h.1.fr f hp, h.2.1.fr f hc, h.2.2⟩
theorem Ar.calm {w w' : World} {p c : Nat} {xs : List Nat} (h : Ar w p c xs) (f : Calm w w') : Ar w' p c xs := h.fr f id id
theorem Ar.cell {w : World} {p c : Nat} {xs : List Nat} (h : Ar w p c xs) {k : Nat} (hk : k < xs.length) : Own w c k (wV (xs.getD k 0)) :=
  h.2.1.own k _ (by simp [List.getD, hk])
theorem Ar.set {w : World} {p c : Nat} {xs : List Nat} (h : Ar w p c xs) {k : Nat} (hk : k < xs.length) (v : Nat) : Ar (w.setCell ⟨c, k, none⟩ (wV v)) p c (xs.set k v) := by
  obtain ⟨h1, h2, h3, h4⟩ := h
  refine ⟨?_, ?_, h3, by simpa using h4⟩
  · rw [List.length_set]; exact h1.far _ _ (fun e => h3 e.symm)
  · have := h2.set k (wV v)
    rwa [← List.map_set] at this
theorem Ar.lt {w : World} {p c : Nat} {xs : List Nat} (h : Ar w p c xs) : p < w.heap.size := h.1.lt

theorem len_is (w : World) (p c : Nat) (xs : List Nat) (h : Ar w p c xs) :
    Calls Try.prog 86 #[arV p] w fun e w' => e = .returned (.int .i64 xs.length) ∧ w' = w := by
  obtain ⟨h1, _, _, h4⟩ := h
  have b1 := h1.1
  go_enter Try.func86, Try.ntmps86
  go_wp2
  go_ret
  exact ⟨rfl, rfl⟩

theorem load_yes (w : World) (p c : Nat) (xs : List Nat) (h : Ar w p c xs) (k : Nat) (hk : k < xs.length) :
    Calls Try.prog 85 #[arV p, .int .i64 k] w fun e w' => e = .returned (.tuple #[wV (xs.getD k 0), .int .i64 0]) ∧ w' = w := by
  have b1 := h.1.1
  have b2 := (h.cell hk).1
  have h4 := h.2.2.2
  generalize xs.getD k 0 = x at *
  have HA := hid h
  clear h
  go_enter Try.func85, Try.ntmps85
  go_wp2_with fail
  refine (len_is _ p c xs HA.out).mono ?_
  rintro e w' ⟨rfl, rfl⟩
  go_wp2
  exact bodyPost_ret (v := .tuple #[wV x, .int .i64 0]) (by simp [results, Try.f85, go_sem]) rfl ⟨rfl, rfl⟩

theorem load_no (w : World) (p c : Nat) (xs : List Nat) (h : Ar w p c xs) (k : Int) (hk : k < 0 ∨ xs.length ≤ k) (hk64 : I64 k) :
    Calls Try.prog 85 #[arV p, .int .i64 k] w fun e w' => e = .returned (.tuple #[wV 0, .int .i64 20]) ∧ w' = w := by
  have HA := hid h
  have b1 := h.1.1
  have h4 := h.2.2.2
  clear h
  obtain ⟨k1, k2⟩ := hk64
  by_cases hneg : k < 0
  · go_enter Try.func85, Try.ntmps85
    go_wp2
    exact bodyPost_ret (v := .tuple #[wV 0, .int .i64 20]) (by simp [results, Try.f85, go_sem]) rfl ⟨rfl, rfl⟩
  · have hge : (xs.length : Int) ≤ k := by omega
    clear hk
    go_enter Try.func85, Try.ntmps85
    go_wp2_with fail
    refine (len_is _ p c xs HA.out).mono ?_
    rintro e w' ⟨rfl, rfl⟩
    go_wp2
    exact bodyPost_ret (v := .tuple #[wV 0, .int .i64 20]) (by simp [results, Try.f85, go_sem]) rfl ⟨rfl, rfl⟩

theorem store_yes (w : World) (p c : Nat) (xs : List Nat) (h : Ar w p c xs) (k : Nat) (hk : k < xs.length) (v : Nat) :
    Calls Try.prog 84 #[arV p, .int .i64 k, wV v] w fun e w' => e = .returned (.int .i64 0) ∧ w' = w.setCell ⟨c, k, none⟩ (wV v) := by
  have b1 := h.1.1
  have b2 := (h.cell hk).1
  have b3 := (h.cell hk).2
  have h4 := h.2.2.2
  generalize xs.getD k 0 = x at *
  have HA := hid h
  clear h
  go_enter Try.func84, Try.ntmps84
  go_wp2_with fail
  refine (len_is _ p c xs HA.out).mono ?_
  rintro e w' ⟨rfl, rfl⟩
  go_wp2
  go_ret
  exact ⟨rfl, rfl⟩

theorem store_no (w : World) (p c : Nat) (xs : List Nat) (h : Ar w p c xs) (k : Int) (hk : k < 0 ∨ xs.length ≤ k) (hk64 : I64 k) (v : Nat) :
    Calls Try.prog 84 #[arV p, .int .i64 k, wV v] w fun e w' => e = .returned (.int .i64 20) ∧ w' = w := by
  have HA := hid h
  have b1 := h.1.1
  have h4 := h.2.2.2
  clear h
  obtain ⟨k1, k2⟩ := hk64
  by_cases hneg : k < 0
  · go_enter Try.func84, Try.ntmps84
    go_wp2
    go_ret
    exact ⟨rfl, rfl⟩
  · have hge : (xs.length : Int) ≤ k := by omega
    clear hk
    go_enter Try.func84, Try.ntmps84
    go_wp2_with fail
    refine (len_is _ p c xs HA.out).mono ?_
    rintro e w' ⟨rfl, rfl⟩
    go_wp2
    go_ret
    exact ⟨rfl, rfl⟩

end Go.Proofs.Ytiomemdmhcdpbaa
