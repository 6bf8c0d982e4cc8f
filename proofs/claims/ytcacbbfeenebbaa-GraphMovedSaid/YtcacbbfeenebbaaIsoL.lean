/- Plain laws: places that are named otherwise; no program in sight. -/
import Derived.Test.YtcacbbfeenebbaaGraphL
set_option linter.unusedSimpArgs false
set_option linter.unusedVariables false
namespace Go.Proofs.Ytcacbbfeenebbaa
open Go.RowKit Go.Maps

/-- Places named otherwise: nothing stays nothing; on S no two places have one name. -/
structure Names (f : Nat → Nat) (S : Nat → Prop) : Prop where
  zero : f 0 = 0
  pos : ∀ x, S x → x ≠ 0 ∧ f x ≠ 0
  inj : ∀ x y, S x → S y → f x = f y → x = y
theorem Names.mem {f : Nat → Nat} {S : Nat → Prop} (h : Names f S) {L : List Nat} (hL : ∀ x ∈ L, S x) {p : Nat} (hp : S p) : f p ∈ L.map f ↔ p ∈ L := by
  rw [List.mem_map]
  constructor
  · rintro ⟨y, hy, e⟩
    rw [← h.inj _ _ (hL y hy) hp e]; exact hy
  · intro h; exact ⟨p, h, rfl⟩
theorem Names.addTo {f : Nat → Nat} {S : Nat → Prop} (h : Names f S) {L : List Nat} (hL : ∀ x ∈ L, S x) {p : Nat} (hp : p = 0 ∨ S p) : addTo (L.map f) (f p) = (addTo L p).map f ∧ ∀ x ∈ Go.Proofs.Ytcacbbfeenebbaa.addTo L p, S x := by
  rcases hp with rfl | hp
  · rw [h.zero]
    exact ⟨by simp [Go.Proofs.Ytcacbbfeenebbaa.addTo], by simpa [Go.Proofs.Ytcacbbfeenebbaa.addTo] using hL⟩
  · obtain ⟨p0, f0⟩ := h.pos p hp
    unfold Go.Proofs.Ytcacbbfeenebbaa.addTo
    by_cases hm : p ∈ L
    · rw [if_pos (.inr ((h.mem hL hp).2 hm)), if_pos (.inr hm)]
      exact ⟨rfl, hL⟩
    · rw [if_neg (by rw [not_or]; exact ⟨f0, fun e => hm ((h.mem hL hp).1 e)⟩), if_neg (by rw [not_or]; exact ⟨p0, hm⟩)]
      refine ⟨by simp, fun x hx => ?_⟩
      rcases List.mem_append.1 hx with hx | hx
      · exact hL x hx
      · simp at hx; subst hx; exact hp
theorem Names.addAll {f : Nat → Nat} {S : Nat → Prop} (h : Names f S) : ∀ (ps L : List Nat), (∀ x ∈ L, S x) → (∀ x ∈ ps, x = 0 ∨ S x) → addAll (L.map f) (ps.map f) = (addAll L ps).map f ∧ ∀ x ∈ Go.Proofs.Ytcacbbfeenebbaa.addAll L ps, S x
  | [], L, hL, _ => ⟨rfl, hL⟩
  | p :: ps, L, hL, hp => by
    obtain ⟨h1, h2⟩ := h.addTo hL (hp p (by simp))
    rw [List.map_cons, addAll_cons, h1, addAll_cons]
    exact h.addAll ps _ h2 (fun x hx => hp x (by simp [hx]))
theorem Names.bfs {f : Nat → Nat} {S : Nat → Prop} (h : Names f S) {str str' : Nat → List Nat} (hs : ∀ x, S x → str' (f x) = (str x).map f ∧ ∀ q ∈ str x, q = 0 ∨ S q) {L : List Nat} {i : Nat} {R : List Nat} (hb : Bfs str L i R) (hL : ∀ x ∈ L, S x) :
    Bfs str' (L.map f) i (R.map f) ∧ ∀ x ∈ R, S x := by
  induction hb with
  | done hl => exact ⟨.done (by simpa using hl), hL⟩
  | @step L i R hi _ ih =>
    have hx : S (L.getD i 0) := hL _ (by simp [List.getD, hi])
    obtain ⟨e1, e2⟩ := hs _ hx
    obtain ⟨e3, e4⟩ := h.addAll _ L hL e2
    obtain ⟨h1, h2⟩ := ih e4
    refine ⟨.step (by simpa using hi) ?_, h2⟩
    have e5 : (L.map f).getD i 0 = f (L.getD i 0) := by simp [List.getD, hi]
    rw [e5, e1, e3]
    exact h1
theorem Names.idx {f : Nat → Nat} {S : Nat → Prop} (h : Names f S) : ∀ (R : List Nat), (∀ x ∈ R, S x) → ∀ p, S p → (R.map f).idxOf (f p) = R.idxOf p
  | [], _, _, _ => rfl
  | a :: R, hR, p, hp => by
    rw [List.map_cons, List.idxOf_cons, List.idxOf_cons, h.idx R (fun x hx => hR x (by simp [hx])) p hp]
    by_cases e : a = p
    · subst e; simp only [beq_self_eq_true]
    · have h1 : (f a == f p) = false := beq_eq_false_iff_ne.2 (fun e2 => e (h.inj _ _ (hR a (by simp)) hp e2))
      have h2 : (a == p) = false := beq_eq_false_iff_ne.2 e
      rw [h1, h2]

end Go.Proofs.Ytcacbbfeenebbaa
