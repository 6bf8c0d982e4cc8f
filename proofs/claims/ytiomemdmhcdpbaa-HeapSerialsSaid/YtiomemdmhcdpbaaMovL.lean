/- What a Copy does to objects: plain lists. -/
import Derived.Test.YtiomemdmhcdpbaaMover5
set_option linter.unusedSimpArgs false
set_option linter.unusedVariables false
namespace Go.Proofs.Ytiomemdmhcdpbaa

/-- The words behind a Copy. -/
def cpd (xs : List Nat) (a T n : Nat) : List Nat := (mv xs a T n).set a (T * 4 + 2)
theorem cpd_length {xs : List Nat} {a T n : Nat} (h : T + n ≤ xs.length) : (cpd xs a T n).length = xs.length := by
  rw [cpd, List.length_set, mv_length h]
theorem cpd_getD {xs : List Nat} {a T n : Nat} (h : T + n ≤ xs.length) (ha : a < xs.length) (j : Nat) :
    (cpd xs a T n).getD j 0 = if j = a then T * 4 + 2 else if T ≤ j ∧ j < T + n then xs.getD (a + (j - T)) 0 else xs.getD j 0 := by
  rw [cpd, getD_set, mv_length h, mv_getD h]
  by_cases e : j = a
  · rw [if_pos (by omega), if_pos e]
  · rw [if_neg (by omega), if_neg e]

/-- The object lies there, as it was. -/
theorem cpd_at {xs : List Nat} {a T : Nat} {o : Ob} (ho : At xs a o) (hr : T + o.size ≤ xs.length) (hd : a + o.size ≤ T ∨ T + o.size ≤ a) : At (cpd xs a T o.size) T o := by
  have hs : 3 ≤ o.size := by simp only [Ob.size]; omega
  refine ho.of_eq (by rw [cpd_length hr]; exact hr) fun i hi => ?_
  rw [cpd_getD hr ho.lt, if_neg (by omega), if_pos (by omega), show T + i - T = i by omega]
theorem cpd_gone {xs : List Nat} {a T : Nat} {o : Ob} (ho : At xs a o) (hr : T + o.size ≤ xs.length) (hT : 1 ≤ T) (hT2 : T ≤ 131072) : Gone (cpd xs a T o.size) a T :=
  ⟨by rw [cpd_length hr]; exact ho.lt, hT, hT2, by rw [cpd_getD hr ho.lt, if_pos rfl]⟩
/-- Another object. -/
theorem cpd_far {xs : List Nat} {a T n : Nat} (hr : T + n ≤ xs.length) (ha : a < xs.length) {b : Nat} {p : Ob} (hp : At xs b p) (h1 : a < b ∨ b + p.size ≤ a) (h2 : T + n ≤ b ∨ b + p.size ≤ T) : At (cpd xs a T n) b p := by
  refine hp.of_eq (by rw [cpd_length hr]; exact hp.room) fun i hi => ?_
  rw [cpd_getD hr ha, if_neg (by omega), if_neg (by omega)]
theorem cpd_gone_far {xs : List Nat} {a T n : Nat} (hr : T + n ≤ xs.length) (ha : a < xs.length) {b t : Nat} (hg : Gone xs b t) (h1 : b ≠ a) (h2 : b < T ∨ T + n ≤ b) : Gone (cpd xs a T n) b t :=
  ⟨by rw [cpd_length hr]; exact hg.lt, hg.pos, hg.le, by rw [cpd_getD hr ha, if_neg h1, if_neg (by omega)]; exact hg.word⟩

end Go.Proofs.Ytiomemdmhcdpbaa
