/- What the functions of package mover return: objects, Walk. What the functions of package mover return: Walk. -/
import Derived.Test.YtiomemdmhcdpbaaMover2
import Derived.Test.YtiomemdmhcdpbaaTail
import Derived.OwnWalkIn
set_option linter.unusedSimpArgs false
set_option linter.unusedVariables false
namespace Go.Proofs.Ytiomemdmhcdpbaa
open Go.RowKit Go.Shelf
attribute [local go_sem] Oper.semAt_some

theorem Own.keeps {keep : Nat → Prop} {w w' : World} {b i : Nat} {v : Value} (h : Own w b i v) (k : Keeps keep w w') (hb : keep b) : Own w' b i v :=
  ⟨(World.cell?_of_block (w := w) (a := ⟨b, i, none⟩) (k.2 b hb)).trans h.1, (World.frozen?_of_block (w := w) (a := ⟨b, i, none⟩) (k.2 b hb)).trans h.2⟩
theorem Ar.keeps {keep : Nat → Prop} {w w' : World} {p c : Nat} {xs : List Nat} (h : Ar w p c xs) (k : Keeps keep w w') (hp : keep p) (hc : keep c) : Ar w' p c xs := by
  obtain ⟨h1, ⟨t, h2⟩, h3⟩ := h
  exact ⟨h1.keeps k hp, ⟨t, (k.2 c hc).trans h2⟩, h3⟩

/-- The places of objects. -/
abbrev plc (l : List (Nat × Ob)) : List Nat := l.map (·.1)
/-- Where the object k begins. -/
def begs (b : Nat) (l : List (Nat × Ob)) : Nat → Nat
  | 0 => b
  | k + 1 => begs b l k + (l.getD k (0, Ob.new 0 0 false false 0)).2.took
theorem begs_cons (b : Nat) (x : Nat × Ob) (l : List (Nat × Ob)) : ∀ k, begs b (x :: l) (k + 1) = begs (b + x.2.took) l k
  | 0 => rfl
  | k + 1 => by
    show begs b (x :: l) (k + 1) + _ = begs (b + x.2.took) l k + _
    rw [begs_cons b x l k]; rfl
theorem Lie.at {xs : List Nat} : ∀ {l : List (Nat × Ob)} {b e : Nat}, Lie xs b e l → ∀ k, k < l.length →
    (l.getD k (0, Ob.new 0 0 false false 0)).1 = begs b l k ∧ (l.getD k (0, Ob.new 0 0 false false 0)).2.Ok ∧ Was xs (begs b l k) (l.getD k (0, Ob.new 0 0 false false 0)).2 ∧ begs b l (k + 1) ≤ e
  | (a, o) :: l, b, e, ⟨h0, h1, h2, h3⟩, 0, _ => ⟨h0, h1, h0 ▸ h2, by have := h3.le; show b + o.took ≤ e; omega⟩
  | (a, o) :: l, b, e, ⟨h0, h1, h2, h3⟩, k + 1, hk => by
    have := Lie.at h3 k (by simpa using hk)
    rw [begs_cons, begs_cons]
    exact this
theorem Lie.end {xs : List Nat} : ∀ {l : List (Nat × Ob)} {b e : Nat}, Lie xs b e l → begs b l l.length = e
  | [], b, e, h => h
  | (a, o) :: l, b, e, ⟨h0, h1, h2, h3⟩ => by
    show begs b ((a, o) :: l) (l.length + 1) = e
    rw [begs_cons]; exact Lie.end h3

/-- What the walk leans on. -/
def walkKeep (b c sb ab : Nat) (k : Nat) : Prop := k = b ∨ k = c ∨ k = sb ∨ k = ab

end Go.Proofs.Ytiomemdmhcdpbaa

namespace Go.Proofs.Ytiomemdmhcdpbaa
open Go.RowKit Go.Shelf
attribute [local go_sem] Oper.semAt_some

def WalkI (w : World) (l : List (Nat × Ob)) (k : Nat) (W : World) : Prop :=
  (∃ v, Own W (w.heap.size + 1) 0 v ∧ ORow W (w.heap.size + 6) v (nI (plc (l.take k)))) ∧ Calm w W ∧ k ≤ l.length
theorem WalkI.fr {S : Nat → Prop} {w A A' : World} {l : List (Nat × Ob)} {k : Nat} (h : WalkI w l k A) (f : Fr S A A') (hs : ∀ j, S j → j = w.heap.size + 4 ∨ j = w.heap.size + 5) : WalkI w l k A' := by
  obtain ⟨⟨v, h1, h2⟩, h3, h4⟩ := h
  exact ⟨⟨v, h1.fr f (fun hh => by have := hs _ hh; omega), h2.fr f (fun j hj hh => by have := hs _ hh; omega)⟩, h3.join f (fun j hj hh => by have := hs _ hh; omega), h4⟩

theorem plc_succ (l : List (Nat × Ob)) {xs : List Nat} {B T : Nat} (hl : Lie xs B T l) {k : Nat} (hk : k < l.length) : nI (plc (l.take (k + 1))) = nI (plc (l.take k)) ++ [((begs B l k : Nat) : Int)] := by
  have := (Lie.at hl k hk).1
  rw [List.take_succ_eq_append_getElem hk]
  simp [List.getD, hk] at this
  simp only [plc, nI, List.map_append, List.map_cons, List.map_nil, this]

def WalkPost (w : World) (l : List (Nat × Ob)) (e : Ending) (w' : World) : Prop := ∃ v, e = .returned v ∧ ORow w' w.heap.size v (nI (plc l)) ∧ Calm w w'

end Go.Proofs.Ytiomemdmhcdpbaa
