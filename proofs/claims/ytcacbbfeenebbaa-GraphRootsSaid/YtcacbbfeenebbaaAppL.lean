/- append of a whole row of ints, as a law; rows that are written out. -/
import Derived.Test.YtcacbbfeenebbaaIRow
set_option linter.unusedSimpArgs false
set_option linter.unusedVariables false
namespace Go.Proofs.Ytcacbbfeenebbaa
open Go.RowKit Go.Shelf

theorem ORow.lit (w : World) (base : Nat) (l : List Int) (hb : base ≤ w.heap.size) (hl : l.length ≤ 1000000) : ORow (w.alloc (.cells (iVs l).toArray 3)) base (.slice (some ⟨w.heap.size, 0, none⟩) l.length l.length) l :=
  ⟨by simp, .inr ⟨w.heap.size, l.length, (iVs l).toArray, rfl, hb, World.alloc_heap_new w _, Nat.le_refl _, by unfold maxLen; omega, by simp, List.take_of_length_le (by simp)⟩⟩

theorem run_app_none {w : World} {base : Nat} {v : Value} {l : List Int} (hown : ORow w base v l) (ty : TypeId) (c : Nat) : (Builtin.append_ #[58, 58] ty #[v, .slice none 0 c]).run Try.prog w = .ok v w := by
  obtain ⟨i0, hi, hz0, hz1, hz2⟩ := info_parts info_int
  rcases hown.2 with ⟨rfl, _⟩ | ⟨g, cap, cur, rfl, _, _, hn, _⟩
  · simp [Builtin.append_, run_underlying Try.underlying58, sizeOf, typeInfo, hi, Builtin.lenOf, Builtin.firstCells]
  · simp [Builtin.append_, run_underlying Try.underlying58, sizeOf, typeInfo, hi, Builtin.lenOf, Builtin.firstCells, hn, storeCells]

theorem wpList_appL {ops : Array Oper} {rest : List Oper} {o : Oper} {a : Act} {Q : Exit → Act → World → Prop} {w : World} (hgd : o.guard = none) (s x : Operand)
    (ho : o.op = .call { callee := .builtin .append, args := #[s, x], argTypes := #[58, 58] })
    (base : Nat) (v : Value) (l : List Int) (hown : ORow w base v l) (hs : a.eval s = v) (u : Value) (r : List Int) (hr : Row w u (iVs r)) (hx : a.eval x = u) (hl : l.length + r.length ≤ 1000000) (hbase : base ≤ w.heap.size)
    (h : ∀ v' w', ORow w' base v' (l ++ r) → Fr (InB v) w w' → (∀ b, InB v' b → InB v b ∨ w.heap.size ≤ b) → wpList Try.prog ops Q rest (a.put o.dst v') w') :
    wpList Try.prog ops Q (o :: rest) a w := by
  obtain ⟨A, c, rfl, hA⟩ := hr
  have hlen : (iVs r).length = r.length := by simp
  rw [hlen] at hx
  rcases A with _ | ad
  · obtain rfl : r = [] := by
      rcases hA with hA | ⟨b, off, hb, _⟩
      · simpa using hA
      · cases hb
    refine wpList_plain hgd fun K hK => ?_
    have hrun := run_app_none hown o.type c
    unfold Oper.wp execOp
    simp only [ho, resolve, invoke, builtin, Sem.run_bind, Sem.run_pure, Result.andThen_ok, List.map_toArray, List.map_cons, List.map_nil, hs, hx, List.length_nil, hrun]
    exact hK _ _ (h v w (by simpa using hown) (Fr.refl _ _) (fun b hb => .inl hb))
  · obtain ⟨i0, hi, hz0, hz1, hz2⟩ := info_parts info_int
    refine wpList_append_own_at _ hgd s x 58 ho base 3 i0 (.int .i64 0) 1 8 Try.underlying58 hi hz0 hz1 hz2 rfl (by decide) v l.length (iVs l) hs hown ad r.length c (iVs r) hx (by simp) ?_ (by simp [Value.oneCell']) (by unfold maxLen; omega) (by omega) hbase ?_
    · intro j y hj
      have hjl : j < (iVs r).length := (List.getElem?_eq_some_iff.1 hj).1
      rcases hA with hA | ⟨b, off, hb, hc⟩
      · rw [hA] at hjl; simp at hjl
      · cases hb
        rw [addr_at, hc j hjl]
        rw [List.getElem?_eq_getElem hjl] at hj
        exact hj
    · intro v' w' hown' hgrow _ hloc
      refine h v' w' ?_ (Fr.grown (Fr.refl _ _) hgrow (fun k hk => .inl hk)) ?_
      · show World.ownsRow _ _ _ _ _ _ _
        rw [List.length_append, iVs, List.map_append]
        exact hown'
      · intro b hb
        rcases hloc with hloc | hloc
        · exact .inl (hloc.symm.trans hb)
        · right
          have : some w.heap.size = some b := hloc.symm.trans hb
          injection this with this; omega

end Go.Proofs.Ytcacbbfeenebbaa
