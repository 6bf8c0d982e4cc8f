/- Sets of places in maps from int to bool. -/
import Derived.Test.YtcacbbfeenebbaaCome
set_option linter.unusedSimpArgs false
set_option linter.unusedVariables false
namespace Go.Proofs.Ytcacbbfeenebbaa
open Go.RowKit Go.Shelf Go.Maps

def setR : List Nat → DataW Unit | [] => .map [] | p :: l => (setR l).put (.int .i64 p) (.lit (.bool true))
def setB (L : List Nat) : DataW Unit := setR L.reverse
theorem setB_snoc (L : List Nat) (p : Nat) : setB (L ++ [p]) = (setB L).put (.int .i64 p) (.lit (.bool true)) := by simp [setB, setR]
theorem isMap_setR : ∀ l, IsMap (setR l) | [] => isMap_empty | _ :: l => (isMap_setR l).put _ _
theorem at_setR (p : Nat) : ∀ l, (setR l).atKey (.int .i64 p) (.lit (.bool false)) = .lit (.bool (decide (p ∈ l)))
  | [] => by simp [setR, DataW.atKey]
  | q :: l => by
    by_cases e : p = q
    · subst e; rw [setR, atKey_put_same (isMap_setR l) (key_i _)]; simp
    · rw [setR, atKey_put_other (key_ne (by omega)), at_setR p l]; simp [e]
theorem at_setB (L : List Nat) (p : Nat) : (setB L).atKey (.int .i64 p) (.lit (.bool false)) = .lit (.bool (decide (p ∈ L))) := by
  have := at_setR p L.reverse; simpa [setB] using this

/-- The map of the set L. -/
def BMap (w : World) (m : Nat) (L : List Nat) : Prop := w.ownsMap (H := Unit) Try.prog 3 (plainElem Try.prog 4) m L.length (setB L)
theorem zero_b (w : World) : (zeroValue 4).run Try.prog w = .ok (.bool false) w := by kernel_rfl
theorem BMap.fr {S : Nat → Prop} {w w' : World} {m : Nat} {L : List Nat} (h : BMap w m L) (f : Fr S w w') (hs : ¬ S m) : BMap w' m L := by
  obtain ⟨es, clock, hb, r⟩ := h
  exact ⟨es, clock, f.heapAt hb hs, r⟩
theorem BMap.calm {w w' : World} {m : Nat} {L : List Nat} (h : BMap w m L) (f : Calm w w') : BMap w' m L := h.fr f id
theorem BMap.lt {w : World} {m : Nat} {L : List Nat} (h : BMap w m L) : m < w.heap.size := World.ownsMap.lt h
theorem plainElem_bool_inv {P : Program} {e : TypeId} (he : P.underlying e = some .bool) {v : Value} {z : DataW Unit × List MemPlace} (h : plainElem P e v = some z) : ∃ x, v = .bool x ∧ z = (.lit (.bool x), []) := by
  unfold plainElem at h
  rw [he] at h
  cases v <;> simp at h
  exact ⟨_, rfl, h.symm⟩
theorem BMap.look {w : World} {b : Nat} {L : List Nat} (hown : BMap w b L) (q : Nat) (hq : q ≤ 1000000) {B : Bool} (hi : decide (q ∈ L) = B) :
    (Instr.lookup 79 (.map (some b)) (.int .i64 q) false).run Try.prog w = .ok (.bool B) w := by
  obtain ⟨v, ps, hrun, hv⟩ := World.ownsMap.lookup hown mlaw Try.underlying79 (zero_b w) (plainElem_bool Try.underlying4 false) (key_of (n := q) ⟨by omega, by omega⟩)
  obtain ⟨y, rfl, hz⟩ := plainElem_bool_inv Try.underlying4 hv
  rw [at_setB, hi] at hz
  simp only [Prod.mk.injEq, DataW.lit.injEq, Lit.bool.injEq] at hz
  obtain ⟨rfl, _⟩ := hz
  exact hrun

theorem wpList_blook {ops : Array Oper} {rest : List Oper} {o : Oper} {a : Act} {Q : Exit → Act → World → Prop} {w : World} (hg : o.guard = none) (m x : Operand) (hop : o.op = Op.lookup 79 m x false)
    (b : Nat) (L : List Nat) (hm : a.eval m = .map (some b)) (hown : BMap w b L) (q : Nat) (hq : q ≤ 1000000) (hx : a.eval x = .int .i64 q) (B : Bool) (hi : decide (q ∈ L) = B)
    (h : wpList Try.prog ops Q rest (a.put o.dst (.bool B)) w) : wpList Try.prog ops Q (o :: rest) a w := by
  have hrun := hown.look q hq hi
  refine wpList_plain hg fun K' hK' => ?_
  unfold Oper.wp
  simp [execOp, hop, hm, hx, hrun, Result.andThen]
  exact hK' _ _ h
theorem wpList_bput {ops : Array Oper} {rest : List Oper} {o : Oper} {a : Act} {Q : Exit → Act → World → Prop} {w : World} (hg : o.guard = none) (m x v : Operand) (hop : o.op = Op.mapUpdate 79 m x v)
    (b : Nat) (L : List Nat) (hm : a.eval m = .map (some b)) (hown : BMap w b L) (hl : L.length ≤ 1000000) (q : Nat) (hq : q ≤ 1000000) (hx : a.eval x = .int .i64 q) (hv : a.eval v = .bool true)
    (h : ∀ w', BMap w' b (L ++ [q]) → Fr (fun k => k = b) w w' → wpList Try.prog ops Q rest (a.put o.dst undef) w') : wpList Try.prog ops Q (o :: rest) a w := by
  refine wpList_mapUpdate_own w hg m x v _ hop 3 4 mlaw Try.underlying79 _ b _ _ hm hown (by unfold maxLen; omega) _ _ (.int .i64 q) hx hv (key_of ⟨by omega, by omega⟩) _ [] (plainElem_bool Try.underlying4 true) ?_
  intro w' h1 h2
  refine h w' ?_ (Fr.grown (Fr.refl _ _) h2 (fun k hk => .inl (by simpa using hk.symm)))
  unfold BMap
  rw [setB_snoc, List.length_append]
  exact h1
theorem BMap.made (w : World) : BMap (w.alloc (.map #[] 0)) w.heap.size [] := World.ownsMap_made w Try.prog 3 _

end Go.Proofs.Ytcacbbfeenebbaa
