/- Plain facts for collections step by step. -/
import Derived.Test.YtiomemdmhcdpbaaPDoes1
import Derived.Test.YtiomemdmhcdpbaaPAlike
set_option linter.unusedSimpArgs false
set_option linter.unusedVariables false
namespace Go.Proofs.Ytiomemdmhcdpbaa
open Go.RowKit Go.Shelf

theorem Grew.same {σ σ' : Nat → Nat} {A B A' B' : HS} (h : Grew σ A B σ' A' B') (e : A.ser = B.ser) (hs : ∀ m, m ≤ B.ser → σ m = m) : A'.ser = B'.ser ∧ B'.ser ≤ B.ser + 1 ∧ ∀ m, m ≤ B'.ser → σ' m = m := by
  rcases h with ⟨rfl, h1, h2⟩ | ⟨rfl, h1, h2⟩
  · exact ⟨by omega, by omega, fun m hm => hs m (by omega)⟩
  · refine ⟨by omega, by omega, fun m hm => ?_⟩
    unfold snx
    split
    · omega
    · exact hs m (by omega)
theorem GoesL.of_nil' {s s' : HS} {l l' : List Nat} (g : GoesL s l s' l') : l = [] → s' = s ∧ l' = [] := by
  cases g with
  | nil => intro _; exact ⟨rfl, rfl⟩
  | snoc h g => intro e; simp at e
theorem GoesL.of_nil {s s' : HS} {l' : List Nat} (g : GoesL s [] s' l') : s' = s ∧ l' = [] := g.of_nil' rfl
theorem GoesL.snoc_inv' {s s2 : HS} {l l0 l2 : List Nat} {p : Nat} (g : GoesL s l0 s2 l2) : l0 = l ++ [p] → ∃ l' s1 q, GoesL s l s1 l' ∧ Goes s1 p s2 q ∧ l2 = l' ++ [q] := by
  cases g with
  | nil => intro e; simp at e
  | snoc h g =>
    intro e
    obtain ⟨e1, e2⟩ := List.append_inj' e rfl
    subst e1
    injection e2 with e2
    subst e2
    exact ⟨_, _, _, h, g, rfl⟩
theorem GoesL.snoc_inv {s s2 : HS} {l l2 : List Nat} {p : Nat} (g : GoesL s (l ++ [p]) s2 l2) : ∃ l' s1 q, GoesL s l s1 l' ∧ Goes s1 p s2 q ∧ l2 = l' ++ [q] := g.snoc_inv' rfl
/-- A heap that moves is one whose collection has come somewhere. -/
theorem PhS.any {σ : Nat → Nat} {A B : HS} {R S : List Nat} {m : Nat} (h : Pair σ A B R S m) (hm : A.mv = true) : ∃ k, PhS σ A B R S m (plc A.cur) k := by
  obtain ⟨k, k1, k2, _⟩ := h.ca.scan hm
  exact ⟨k, h, fun q hq => .root hq hq, ⟨k1, k2⟩, hm⟩
theorem PhS.flip {σ : Nat → Nat} {A B : HS} {R S X : List Nat} (h : Pair σ A B R S 4) (hA : HRep A X) (hm : A.mv = false) : PhS σ A.flip B R S 0 [] 0 :=
  ⟨h.flip hA hm, Gath.flip, Prog.flip, rfl⟩
theorem PhS.moved {σ : Nat → Nat} {A A' B : HS} {R S G X : List Nat} {m k q : Nat} (h : PhS σ A B R S m G k) (hA : HRep A X) (hm : m < 4) (g : Goes A (R.getD m 0) A' q) : PhS σ A' B (R.set m q) S (m + 1) (G ++ [q]) k :=
  ⟨h.pr.moved hA hm g, h.ga.goes g, h.pg.goes g, g.same.2.2.1.trans h.mv⟩
/-- The registers moved, one behind the other. -/
theorem PhS.movedK {σ : Nat → Nat} {A B : HS} {R S G X : List Nat} {k : Nat} (h : PhS σ A B R S 0 G k) (hA : HRep A X) : ∀ m, m ≤ 4 → ∀ {A' : HS} {l' : List Nat}, GoesL A (R.take m) A' l' → PhS σ A' B (l' ++ R.drop m) S m (G ++ l') k
  | 0, _, A', l', g => by
    rw [List.take_zero] at g
    obtain ⟨rfl, rfl⟩ := g.of_nil
    simpa using h
  | m + 1, hm, A', l', g => by
    have hlr := h.pr.rg.lr
    have hmr : m < R.length := by omega
    rw [take_succ_getD R hmr] at g
    obtain ⟨l1, s1, q, g1, g2, rfl⟩ := g.snoc_inv
    obtain ⟨X1, h1⟩ := g1.rep hA
    have ih := PhS.movedK h hA m (by omega) g1
    have hl1 : l1.length = m := by rw [g1.len, List.length_take]; omega
    have e1 : (l1 ++ R.drop m).getD m 0 = R.getD m 0 := by
      rw [List.drop_eq_getElem_cons hmr]
      simp [List.getD, List.getElem?_append_right, hl1, hmr]
    have g3 : Goes s1 ((l1 ++ R.drop m).getD m 0) A' q := by rw [e1]; exact g2
    have h2 := ih.moved h1 (by omega) g3
    have e2 : (l1 ++ R.drop m).set m q = (l1 ++ [q]) ++ R.drop (m + 1) := by
      rw [List.drop_eq_getElem_cons hmr, List.set_append_right _ _ (by omega), hl1, Nat.sub_self, List.set_cons_zero, List.append_assoc]
      rfl
    rw [e2, List.append_assoc G] at h2
    exact h2
theorem PhS.movedL {σ : Nat → Nat} {A A' B : HS} {R R' S G X : List Nat} {k : Nat} (h : PhS σ A B R S 0 G k) (hA : HRep A X) (g : GoesL A R A' R') : PhS σ A' B R' S 4 (G ++ R') k := by
  have hlr := h.pr.rg.lr
  have h2 := h.movedK hA 4 (by omega) (A' := A') (l' := R') (by rw [List.take_of_length_le (by omega)]; exact g)
  rw [List.drop_eq_nil_of_le (by omega), List.append_nil] at h2
  exact h2
theorem PhS.goesL {σ : Nat → Nat} {A A' B : HS} {R S G X l l' : List Nat} {m k : Nat} (h : PhS σ A B R S m G k) (hA : HRep A X) (g : GoesL A l A' l') : PhS σ A' B R S m (G ++ l') k :=
  ⟨h.pr.goesL hA g, h.ga.goesL g, h.pg.goesL g, g.same.2.2.1.trans h.mv⟩

end Go.Proofs.Ytiomemdmhcdpbaa
