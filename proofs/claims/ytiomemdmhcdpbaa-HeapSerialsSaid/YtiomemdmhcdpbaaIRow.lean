/- Own rows of ints, told apart by their blocks; append of one int, as a law. -/
import Derived.Test.YtiomemdmhcdpbaaMover2
import Derived.Maps.AppendAt
import Derived.Maps.OwnIn
set_option linter.unusedSimpArgs false
set_option linter.unusedVariables false
namespace Go.Proofs.Ytiomemdmhcdpbaa
open Go.RowKit Go.Shelf

/-- The block in which a row lies is b. -/
def InB (v : Value) (b : Nat) : Prop := v.ownBlock = some b
theorem InB.nil (b : Nat) : ¬ InB (.slice none 0 0) b := by simp [InB, Value.ownBlock]
theorem InB.mk {g n c b : Nat} : InB (.slice (some ⟨g, 0, none⟩) n c) b ↔ b = g := by simp [InB, Value.ownBlock, eq_comm]
theorem InB.mk1 {g n c b : Nat} (h : InB (.slice (some ⟨g, 0, none⟩) n c) b) : b = g := InB.mk.1 h
theorem ORow.lt {w : World} {base : Nat} {v : Value} {l : List Int} (h : ORow w base v l) {b : Nat} (hb : InB v b) : base ≤ b ∧ b < w.heap.size := World.ownsRow.lt h b hb
theorem ORow.frB {S : Nat → Prop} {w w' : World} {base : Nat} {v : Value} {l : List Int} (h : ORow w base v l) (f : Fr S w w') (hs : ∀ b, InB v b → ¬ S b) : ORow w' base v l := by
  refine ⟨h.1, ?_⟩
  rcases h.2 with hn | ⟨g, cap, cur, hv, hb, hgg, rest⟩
  · exact .inl hn
  · exact .inr ⟨g, cap, cur, hv, hb, f.heapAt hgg (hs _ (by rw [hv]; rfl)), rest⟩
/-- A row known by its block may be said to lie from its block on. -/
theorem ORow.base {w : World} {base base' : Nat} {v : Value} {l : List Int} (h : ORow w base v l) (hb : ∀ b, InB v b → base' ≤ b) : ORow w base' v l := by
  refine ⟨h.1, ?_⟩
  rcases h.2 with hn | ⟨g, cap, cur, hv, hb', rest⟩
  · exact .inl hn
  · exact .inr ⟨g, cap, cur, hv, hb _ (by rw [hv]; rfl), rest⟩
/-- The element k of a row. -/
theorem ORow.get {w : World} {base : Nat} {v : Value} {l : List Int} (h : ORow w base v l) {k : Nat} (hk : k < l.length) : ∃ g c, v = .slice (some ⟨g, 0, none⟩) l.length c ∧ base ≤ g ∧ Own w g k (.int .i64 (l.getD k 0)) := by
  obtain ⟨hl, ⟨_, h0⟩ | ⟨g, cap, cur, rfl, hb, hg, hn, hcm, hcur, hx⟩⟩ := h
  · omega
  · refine ⟨g, cap, rfl, hb, ?_, ?_⟩
    · have h2 : cur.toList[k]? = (iVs l)[k]? := by rw [← hx, List.getElem?_take]; simp; omega
      have : w.cell? ⟨g, k, none⟩ = cur[k]? := by simp [World.cell?, hg]
      rw [this, ← Array.getElem?_toList, h2]; simp [hk]
    · simp [World.frozen?, hg]
/-- An element is written. -/
theorem ORow.set {w : World} {base : Nat} {l : List Int} {g n c : Nat} (h : ORow w base (.slice (some ⟨g, 0, none⟩) n c) l) {k : Nat} (hk : k < l.length) (y : Int) : ORow (w.setCell ⟨g, k, none⟩ (.int .i64 y)) base (.slice (some ⟨g, 0, none⟩) n c) (l.set k y) := by
  obtain ⟨hl, ⟨h1, h0⟩ | ⟨g', cap, cur, hv, hb, hg, hn, hcm, hcur, hx⟩⟩ := h
  · cases h1
  · cases hv
    refine ⟨by simp, .inr ⟨g, c, cur.set! k (.int .i64 y), by simp, hb, ?_, by simpa using hn, hcm, by simpa using hcur, ?_⟩⟩
    · have hlt : g < w.heap.size := (Array.getElem?_eq_some_iff.1 hg).1
      rw [heap_setCell_same _ _ _ _ _ _ hg]; simp
    · have hc : k < cur.size := by rw [hcur]; omega
      simp only [Array.set!_eq_setIfInBounds, Array.toList_setIfInBounds, List.length_set, iVs, List.map_set]
      have hx' := hx
      simp only [iVs] at hx'
      rw [List.take_set, hx']

theorem Own.calm {w w' : World} {b i : Nat} {v : Value} (h : Own w b i v) (f : Calm w w') : Own w' b i v := h.fr f id

theorem fr_of_grown1 {w w' : World} {v : Value} {o : Obj} (hg : (w.alloc o).grownBy w' v.ownBlock) : Fr (InB v) w w' :=
  Fr.grown (Fr.alloc (Fr.refl _ _) _) hg (fun k hk => .inl hk)

theorem wpList_app1 {ops : Array Oper} {rest : List Oper} {o : Oper} {a : Act} {Q : Exit → Act → World → Prop} {w : World} (hgd : o.guard = none) (s x : Operand)
    (ho : o.op = .call { callee := .builtin .append, args := #[s, x], argTypes := #[23, 23] })
    (base : Nat) (v : Value) (l : List Int) (hown : ORow w base v l) (hs : a.eval s = v) (y : Int) (hx : a.eval x = .slice (some ⟨w.heap.size, 0, none⟩) 1 1) (hl : l.length ≤ 1000000) (hbase : base ≤ w.heap.size)
    (h : ∀ g c w', ORow w' base (.slice (some ⟨g, 0, none⟩) (l.length + 1) c) (l ++ [y]) → Fr (InB v) w w' → (InB v g ∨ w.heap.size ≤ g) → wpList Try.prog ops Q rest (a.put o.dst (.slice (some ⟨g, 0, none⟩) (l.length + 1) c)) w') :
    wpList Try.prog ops Q (o :: rest) a (w.alloc (.cells #[.int .i64 y] 3)) := by
  obtain ⟨i0, hi, hz0, hz1, hz2⟩ := info_parts info_int
  refine wpList_append_own_at _ hgd s x 23 ho base 3 i0 (.int .i64 0) 1 8 Try.underlying23 hi hz0 hz1 hz2 rfl (by decide) v l.length (iVs l) hs (World.ownsRow.alloc hown _) ⟨w.heap.size, 0, none⟩ 1 1 [.int .i64 y] hx rfl (cell_one_new _ _ _) (by simp [Value.oneCell']) (by unfold maxLen; omega) (by omega) (by simp; omega) ?_
  intro v' w' hown' hgrow _ hloc
  obtain ⟨g, c, rfl⟩ := ownsRow_succ hown'
  refine h g c w' ?_ (fr_of_grown1 hgrow) ?_
  · show World.ownsRow _ _ _ _ _ _ _
    rw [List.length_append, iVs, List.map_append]
    exact hown'
  · rcases hloc with hloc | hloc
    · exact .inl (hloc.symm.trans rfl)
    · right; simp [Value.ownBlock] at hloc; omega

theorem wpList_app1b {ops : Array Oper} {rest : List Oper} {o : Oper} {a : Act} {Q : Exit → Act → World → Prop} {w : World} (hgd : o.guard = none) (s x : Operand)
    (ho : o.op = .call { callee := .builtin .append, args := #[s, x], argTypes := #[23, 23] })
    (base : Nat) (v : Value) (l : List Int) (hown : ORow w base v l) (hs : a.eval s = v) (y : Int) (nb : Nat) (hx : a.eval x = .slice (some ⟨nb, 0, none⟩) 1 1) (hnb : nb = w.heap.size) (hl : l.length ≤ 1000000) (hbase : base ≤ w.heap.size)
    (h : ∀ g c w', ORow w' base (.slice (some ⟨g, 0, none⟩) (l.length + 1) c) (l ++ [y]) → Fr (InB v) w w' → (InB v g ∨ w.heap.size ≤ g) → wpList Try.prog ops Q rest (a.put o.dst (.slice (some ⟨g, 0, none⟩) (l.length + 1) c)) w') :
    wpList Try.prog ops Q (o :: rest) a (w.alloc (.cells #[.int .i64 y] 3)) := by
  subst hnb
  exact wpList_app1 hgd s x ho base v l hown hs y hx hl hbase h

theorem wpListIn_app1 {F : Fence} {nF : Nat} {ops : Array Oper} {rest : List Oper} {o : Oper} {a : Act} {Q : Exit → Act → World → Prop} {w : World} (hgd : o.guard = none) (s x : Operand)
    (ho : o.op = .call { callee := .builtin .append, args := #[s, x], argTypes := #[23, 23] })
    (base : Nat) (v : Value) (l : List Int) (hown : ORow w base v l) (hs : a.eval s = v) (y : Int) (hx : a.eval x = .slice (some ⟨w.heap.size, 0, none⟩) 1 1) (hl : l.length ≤ 1000000) (hbase : base ≤ w.heap.size)
    (h : ∀ g c w', ORow w' base (.slice (some ⟨g, 0, none⟩) (l.length + 1) c) (l ++ [y]) → Fr (InB v) w w' → (InB v g ∨ w.heap.size ≤ g) → wpListIn F nF Try.prog ops Q rest (a.put o.dst (.slice (some ⟨g, 0, none⟩) (l.length + 1) c)) w') :
    wpListIn F nF Try.prog ops Q (o :: rest) a (w.alloc (.cells #[.int .i64 y] 3)) := by
  obtain ⟨i0, hi, hz0, hz1, hz2⟩ := info_parts info_int
  refine wpListIn_append_own_at _ hgd s x 23 ho base 3 i0 (.int .i64 0) 1 8 Try.underlying23 hi hz0 hz1 hz2 rfl (by decide) v l.length (iVs l) hs (World.ownsRow.alloc hown _) ⟨w.heap.size, 0, none⟩ 1 1 [.int .i64 y] hx rfl (cell_one_new _ _ _) (by simp [Value.oneCell']) (by unfold maxLen; omega) (by omega) (by simp; omega) ?_
  intro v' w' hown' hgrow _ hloc
  obtain ⟨g, c, rfl⟩ := ownsRow_succ hown'
  refine h g c w' ?_ (fr_of_grown1 hgrow) ?_
  · show World.ownsRow _ _ _ _ _ _ _
    rw [List.length_append, iVs, List.map_append]
    exact hown'
  · rcases hloc with hloc | hloc
    · exact .inl (hloc.symm.trans rfl)
    · right; simp [Value.ownBlock] at hloc; omega

end Go.Proofs.Ytiomemdmhcdpbaa
