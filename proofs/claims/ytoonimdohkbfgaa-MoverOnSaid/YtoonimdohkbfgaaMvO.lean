/- Rows of shapes: for MoverOn. -/
import Derived.Test.YtoonimdohkbfgaaWds
import Derived.Test.YtoonimdohkbfgaaCome
set_option linter.unusedSimpArgs false
set_option linter.unusedVariables false
namespace Go.Proofs.Ytoonimdohkbfgaa
open Go.RowKit Go.Shelf

theorem info_shp : (Try.prog.info? 27).map (fun i => (i.zero, i.size, i.bytes)) = some (some (.agg #[.int .i64 0, .int .i64 0, .bool false, .bool false]), 4, 24) := by kernel_rfl
/-- An object's shape, as cells. -/
def shC (o : Ob) : List Value := [.int .i64 o.p, .int .i64 o.d, .bool o.wk, .bool o.fn]
def SRow (w : World) (base : Nat) (v : Value) (ls : List Ob) : Prop := w.ownsRow base 27 4 v ls.length (ls.flatMap shC)
theorem SRow.nil (w : World) (base : Nat) : SRow w base (.slice none 0 0) [] := World.ownsRow_nil _ _ _ _
/-- One shape more. -/
theorem wpList_appS {ops : Array Oper} {rest : List Oper} {o : Oper} {a : Act} {Q : Exit → Act → World → Prop} {w : World} (hgd : o.guard = none) (s x : Operand)
    (ho : o.op = .call { callee := .builtin .append, args := #[s, x], argTypes := #[40, 40] })
    (base : Nat) (v : Value) (ls : List Ob) (hown : SRow w base v ls) (hs : a.eval s = v) (y : Ob)
    (nb : Nat) (hx : a.eval x = .slice (some ⟨nb, 0, none⟩) 1 1) (hnb : nb = w.heap.size) (hl : ls.length ≤ 1000000) (hbase : base ≤ w.heap.size)
    (h : ∀ g c w', SRow w' base (.slice (some ⟨g, 0, none⟩) (ls.length + 1) c) (ls ++ [y]) → Fr (InB v) w w' → (InB v g ∨ w.heap.size ≤ g) → wpList Try.prog ops Q rest (a.put o.dst (.slice (some ⟨g, 0, none⟩) (ls.length + 1) c)) w') :
    wpList Try.prog ops Q (o :: rest) a (w.alloc (.cells #[.int .i64 y.p, .int .i64 y.d, .bool y.wk, .bool y.fn] 27)) := by
  subst hnb
  obtain ⟨i0, hi, hz0, hz1, hz2⟩ := info_parts info_shp
  have hc : #[Value.int .i64 (y.p : Int), .int .i64 (y.d : Int), .bool y.wk, .bool y.fn] = (shC y).toArray := rfl
  rw [hc]
  refine wpList_append_own_at _ hgd s x 40 ho base 27 i0 _ 4 24 Try.underlying40 hi hz0 hz1 hz2 rfl (by decide) v ls.length (ls.flatMap shC) hs (World.ownsRow.alloc hown _) ⟨w.heap.size, 0, none⟩ 1 1 (shC y) hx rfl (fun j u hj => by
    rw [show ((⟨w.heap.size, 0, none⟩ : Addr).add j) = ⟨w.heap.size, j, none⟩ by rw [addr_at]; simp]
    rw [World.cell?_alloc_new]; simpa using hj) (by simp [shC, Value.oneCell']) (by unfold maxLen; omega) (by omega) (by simp; omega) ?_
  intro v' w' hown' hgrow _ hloc
  obtain ⟨g, c, rfl⟩ := ownsRow_succ hown'
  have hf : Fr (InB v) w w' := fr_of_grown1 hgrow
  refine h g c w' (by unfold SRow; simpa using hown') hf ?_
  rcases hloc with hloc | hloc
  · exact .inl (hloc.symm.trans rfl)
  · right; simp [Value.ownBlock] at hloc; omega

theorem info_ww : (Try.prog.info? 53).map (fun i => (i.zero, i.size, i.bytes)) = some (some (.slice none 0 0), 1, 24) := by kernel_rfl
/-- No block is both rows'. -/
def Apr2 (a b : Value) : Prop := ∀ k, InB a k → ¬ InB b k
/-- A row of slices of words. -/
structure WWR (w : World) (base : Nat) (v : Value) (ls : List (Value × List Nat)) : Prop where
  own : w.ownsRow base 53 1 v ls.length (ls.map (·.1))
  item : ∀ x ∈ ls, WRow w base x.1 x.2
  apart : ∀ x ∈ ls, Apr2 v x.1
theorem WWR.nil (w : World) (base : Nat) : WWR w base (.slice none 0 0) [] := ⟨World.ownsRow_nil _ _ _ _, by simp, by simp⟩
theorem WRow.frB {S : Nat → Prop} {w w' : World} {base : Nat} {v : Value} {l : List Nat} (h : WRow w base v l) (f : Fr S w w') (hs : ∀ b, InB v b → ¬ S b) : WRow w' base v l := by
  refine ⟨h.1, ?_⟩
  rcases h.2 with hn | ⟨g, cap, cur, hv, hb, hgg, rest⟩
  · exact .inl hn
  · exact .inr ⟨g, cap, cur, hv, hb, f.heapAt hgg (hs _ (by rw [hv]; rfl)), rest⟩
theorem WRow.ltB {w : World} {base : Nat} {v : Value} {l : List Nat} (h : WRow w base v l) {b : Nat} (hb : InB v b) : base ≤ b ∧ b < w.heap.size := World.ownsRow.lt h b hb
/-- One slice of words more. -/
theorem wpList_appWW {ops : Array Oper} {rest : List Oper} {o : Oper} {a : Act} {Q : Exit → Act → World → Prop} {w : World} (hgd : o.guard = none) (s x : Operand)
    (ho : o.op = .call { callee := .builtin .append, args := #[s, x], argTypes := #[52, 52] })
    (base : Nat) (v : Value) (ls : List (Value × List Nat)) (hown : WWR w base v ls) (hs : a.eval s = v) (ya : Option Addr) (yn yc : Nat) (yl : List Nat) (hy : WRow w base (.slice ya yn yc) yl) (hap : Apr2 v (.slice ya yn yc))
    (nb : Nat) (hx : a.eval x = .slice (some ⟨nb, 0, none⟩) 1 1) (hnb : nb = w.heap.size) (hl : ls.length ≤ 1000000) (hbase : base ≤ w.heap.size)
    (h : ∀ g c w', WWR w' base (.slice (some ⟨g, 0, none⟩) (ls.length + 1) c) (ls ++ [(.slice ya yn yc, yl)]) → Fr (InB v) w w' → (InB v g ∨ w.heap.size ≤ g) → wpList Try.prog ops Q rest (a.put o.dst (.slice (some ⟨g, 0, none⟩) (ls.length + 1) c)) w') :
    wpList Try.prog ops Q (o :: rest) a (w.alloc (.cells #[.slice ya yn yc] 53)) := by
  subst hnb
  obtain ⟨i0, hi, hz0, hz1, hz2⟩ := info_parts info_ww
  refine wpList_append_own_at _ hgd s x 52 ho base 53 i0 _ 1 24 Try.underlying52 hi hz0 hz1 hz2 rfl (by decide) v ls.length (ls.map (·.1)) hs (World.ownsRow.alloc hown.own _) ⟨w.heap.size, 0, none⟩ 1 1 [.slice ya yn yc] hx rfl (cell_one_new _ _ _) (by simp [Value.oneCell']) (by unfold maxLen; omega) (by omega) (by simp; omega) ?_
  intro v' w' hown' hgrow _ hloc
  obtain ⟨g, c, rfl⟩ := ownsRow_succ hown'
  have hf : Fr (InB v) w w' := fr_of_grown1 hgrow
  have hg : InB v g ∨ w.heap.size ≤ g := by
    rcases hloc with hloc | hloc
    · exact .inl (hloc.symm.trans rfl)
    · right; simp [Value.ownBlock] at hloc; omega
  have hnew : ∀ z l, Apr2 v z → WRow w base z l → Apr2 (.slice (some ⟨g, 0, none⟩) (ls.length + 1) c) z := fun z l hz hw k hk hk2 => by
    obtain rfl := InB.mk1 hk
    rcases hg with hg | hg
    · exact hz _ hg hk2
    · have := (hw.ltB hk2).2; omega
  refine h g c w' ⟨by simpa using hown', fun z hz => ?_, fun z hz => ?_⟩ hf hg
  · rcases List.mem_append.1 hz with hz | hz
    · exact (hown.item z hz).frB hf (fun b hb hv => hown.apart z hz b hv hb)
    · rw [List.mem_singleton.1 hz]
      exact hy.frB hf (fun b hb hv => hap b hv hb)
  · rcases List.mem_append.1 hz with hz | hz
    · exact hnew _ _ (hown.apart z hz) (hown.item z hz)
    · rw [List.mem_singleton.1 hz]
      exact hnew _ _ hap hy

end Go.Proofs.Ytoonimdohkbfgaa
