/- Plain laws: pointers turned to where objects are now. -/
import Derived.Test.YtcacbbfeenebbaaG1
import Derived.Test.YtcacbbfeenebbaaIsoL
set_option linter.unusedSimpArgs false
set_option linter.unusedVariables false
namespace Go.Proofs.Ytcacbbfeenebbaa
open Go.RowKit Go.Maps

/-- The first m turned. -/
def turnL (f : Nat → Nat) (m : Nat) (l : List Nat) : List Nat := (l.take m).map f ++ l.drop m
theorem turnL_zero (f : Nat → Nat) (l : List Nat) : turnL f 0 l = l := rfl
theorem turnL_length (f : Nat → Nat) (m : Nat) (l : List Nat) : (turnL f m l).length = l.length := by simp [turnL]; omega
theorem turnL_all (f : Nat → Nat) {m : Nat} {l : List Nat} (h : l.length ≤ m) : turnL f m l = l.map f := by rw [turnL, List.take_of_length_le h, List.drop_eq_nil_of_le h]; simp
theorem turnL_getD (f : Nat → Nat) (m : Nat) (l : List Nat) {j : Nat} (hj : j < l.length) : (turnL f m l).getD j 0 = if j < m then f (l.getD j 0) else l.getD j 0 := by
  unfold turnL
  by_cases h : j < m
  · rw [if_pos h]; simp [List.getD, List.getElem?_append, h, hj]
    rw [if_pos (by omega)]; simp
  · rw [if_neg h]; simp [List.getD, List.getElem?_append, h, hj]
    rw [if_neg (by omega)]
    have e1 : min m l.length = m := by omega
    rw [e1, show m + (j - m) = j by omega]; simp [hj]
theorem turnL_succ (f : Nat → Nat) {m : Nat} {l : List Nat} (h : m < l.length) : (turnL f m l).set m (f (l.getD m 0)) = turnL f (m + 1) l := by
  apply List.ext_getElem (by simp [turnL_length])
  intro j h1 h2
  have hj : j < l.length := by simpa [turnL_length] using h1
  have e1 := turnL_getD f m l hj
  have e2 := turnL_getD f (m + 1) l hj
  simp only [List.getD, List.getElem?_eq_getElem, h2, turnL_length, hj, Option.getD_some] at e1 e2
  rw [List.getElem_set]
  by_cases e : m = j
  · subst e
    rw [if_pos rfl, e2, if_pos (by omega)]; simp [List.getD, hj]
  · rw [if_neg e, e2]
    have h3 : j < (turnL f m l).length := by rw [turnL_length]; exact hj
    rw [e1]
    by_cases e3 : j < m
    · rw [if_pos e3, if_pos (by omega)]
    · rw [if_neg e3, if_neg (by omega)]
def Ob.turn (f : Nat → Nat) (m : Nat) (o : Ob) : Ob := { o with ps := turnL f m o.ps }
theorem Ob.turn_all (f : Nat → Nat) {m : Nat} {o : Ob} (h : o.Ok) (hm : o.p ≤ m) : o.turn f m = { o with ps := o.ps.map f } := by
  unfold Ob.turn; rw [turnL_all f (by rw [h.lp]; exact hm)]

/-- While the objects' pointers are turned: the object i's first m. -/
structure TurnR (ps ts : List Nat) (obs : List Ob) (f : Nat → Nat) (i m : Nat) (X : List Nat) : Prop where
  len : X.length = 400
  zero : X.getD 0 0 = 0
  at_ : ∀ j, j < ps.length → At X (ts.getD j 0) ((obs.getD j (Ob.new 0 0 false false 0)).turn f (if j < i then 8 else if j = i then m else 0))
  lo : ∀ j, j < ps.length → 200 ≤ ts.getD j 0
  apart : ∀ j k, j < ps.length → k < ps.length → j ≠ k → ts.getD j 0 + (obs.getD j (Ob.new 0 0 false false 0)).size ≤ ts.getD k 0 ∨ ts.getD k 0 + (obs.getD k (Ob.new 0 0 false false 0)).size ≤ ts.getD j 0
  gone : ∀ j, j < ps.length → Gone X (ps.getD j 0) (ts.getD j 0)
  hi : ∀ x ∈ ps, x < 200
theorem TurnR.next {ps ts : List Nat} {obs : List Ob} {f : Nat → Nat} {i m : Nat} {X : List Nat} (h : TurnR ps ts obs f i m X) (hi : i < ps.length) (hm : (obs.getD i (Ob.new 0 0 false false 0)).p ≤ m) : TurnR ps ts obs f (i + 1) 0 X := by
  refine ⟨h.len, h.zero, fun j hj => ?_, h.lo, h.apart, h.gone, h.hi⟩
  have ha := h.at_ j hj
  by_cases e1 : j < i
  · rw [if_pos e1] at ha; rw [if_pos (by omega)]; exact ha
  · by_cases e2 : j = i
    · subst e2
      rw [if_neg e1, if_pos rfl] at ha
      rw [if_pos (by omega)]
      have hok := ha.ok
      have hlp : (obs.getD j (Ob.new 0 0 false false 0)).ps.length = (obs.getD j (Ob.new 0 0 false false 0)).p := by
        have := hok.lp; simpa [Ob.turn, turnL_length] using this
      have h8 : (obs.getD j (Ob.new 0 0 false false 0)).p ≤ 8 := hok.sh.1
      have : (obs.getD j (Ob.new 0 0 false false 0)).turn f m = (obs.getD j (Ob.new 0 0 false false 0)).turn f 8 := by
        unfold Ob.turn; rw [turnL_all f (by omega), turnL_all f (by omega)]
      rw [← this]; exact ha
    · rw [if_neg e1, if_neg e2] at ha
      rw [if_neg (by omega)]
      have : (if j = i + 1 then 0 else 0) = (0 : Nat) := by split <;> rfl
      rw [this]; exact ha
theorem TurnR.step {ps ts : List Nat} {obs : List Ob} {f : Nat → Nat} {i m : Nat} {X : List Nat} (h : TurnR ps ts obs f i m X) (hi : i < ps.length) (hm : m < (obs.getD i (Ob.new 0 0 false false 0)).p) (hb : f ((obs.getD i (Ob.new 0 0 false false 0)).ps.getD m 0) ≤ 131072) :
    TurnR ps ts obs f i (m + 1) (X.set (ts.getD i 0 + 3 + m) (f ((obs.getD i (Ob.new 0 0 false false 0)).ps.getD m 0))) := by
  have ha := h.at_ i hi
  rw [if_neg (Nat.lt_irrefl _), if_pos rfl] at ha
  have hok := ha.ok
  have hlp : (obs.getD i (Ob.new 0 0 false false 0)).ps.length = (obs.getD i (Ob.new 0 0 false false 0)).p := by
    have := hok.lp; simpa [Ob.turn, turnL_length] using this
  have hset := ha.setPtr (i := m) (v := f ((obs.getD i (Ob.new 0 0 false false 0)).ps.getD m 0)) hm hb
  have hsz : (obs.getD i (Ob.new 0 0 false false 0)).size = 3 + (obs.getD i (Ob.new 0 0 false false 0)).p + (obs.getD i (Ob.new 0 0 false false 0)).d := rfl
  have hlo := h.lo i hi
  refine ⟨by rw [List.length_set]; exact h.len, ?_, fun j hj => ?_, h.lo, h.apart, fun j hj => ?_, h.hi⟩
  · rw [getD_set, if_neg (by omega)]; exact h.zero
  · by_cases e : j = i
    · subst e
      rw [if_neg (Nat.lt_irrefl _), if_pos rfl]
      have e2 : ((obs.getD j (Ob.new 0 0 false false 0)).turn f (m + 1)) = { ((obs.getD j (Ob.new 0 0 false false 0)).turn f m) with ps := ((obs.getD j (Ob.new 0 0 false false 0)).turn f m).ps.set m (f ((obs.getD j (Ob.new 0 0 false false 0)).ps.getD m 0)) } := by
        show _ = ({ (obs.getD j (Ob.new 0 0 false false 0)) with ps := (turnL f m (obs.getD j (Ob.new 0 0 false false 0)).ps).set m (f ((obs.getD j (Ob.new 0 0 false false 0)).ps.getD m 0)) } : Ob)
        rw [turnL_succ f (by rw [hlp]; exact hm)]
        rfl
      rw [e2]; exact hset
    · have hj2 := h.at_ j hj
      have he : (if j = i then m else 0) = (0 : Nat) := if_neg e
      have he2 : (if j = i then m + 1 else 0) = (0 : Nat) := if_neg e
      rw [he] at hj2
      rw [he2]
      refine hj2.far ?_
      have hs : ∀ k, ((obs.getD j (Ob.new 0 0 false false 0)).turn f k).size = (obs.getD j (Ob.new 0 0 false false 0)).size := fun _ => rfl
      rw [hs]
      have := h.apart j i hj hi e
      omega
  · have hg := h.gone j hj
    have hp : ps.getD j 0 < 200 := h.hi _ (by simp [List.getD, hj])
    exact hg.congr (by simp) (by rw [getD_set, if_neg (by omega)])

end Go.Proofs.Ytcacbbfeenebbaa
