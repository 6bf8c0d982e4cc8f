/- MoverRoom returns true, whatever the input. -/
import Derived.Test.YtoonimdohkbfgaaLay2
set_option linter.unusedSimpArgs false
set_option linter.unusedVariables false
namespace Go.Proofs.Ytoonimdohkbfgaa
open Go.RowKit Go.Shelf

/-- A slice of words of the call's own. -/
def WRow (w : World) (base : Nat) (v : Value) (l : List Nat) : Prop := w.ownsRow base 33 1 v l.length (l.map wV)
theorem WRow.nil (w : World) (base : Nat) : WRow w base (.slice none 0 0) [] := World.ownsRow_nil _ _ _ _
theorem WRow.row {w : World} {base : Nat} {v : Value} {l : List Nat} (h : WRow w base v l) : Row w v (l.map wV) := Row.of_owns h
theorem WRow.fr {S : Nat → Prop} {w w' : World} {base : Nat} {v : Value} {l : List Nat} (h : WRow w base v l) (f : Fr S w w') (hs : ∀ k, base ≤ k → ¬ S k) : WRow w' base v l := ownsRow_fr h f hs
theorem WRow.calm {w w' : World} {base : Nat} {v : Value} {l : List Nat} (h : WRow w base v l) (f : Calm w w') : WRow w' base v l := ownsRow_fr h f (fun _ _ => id)
theorem WRow.letters {w : World} {base : Nat} {v : Value} {l : List Nat} (h : WRow w base v l) : ∃ a n c, v = .slice a n c := by
  obtain ⟨a, c, h, _⟩ := h.row
  exact ⟨a, _, c, h⟩
theorem take_succ_getDN (l : List Nat) {k : Nat} (hk : k < l.length) : l.take (k + 1) = l.take k ++ [l.getD k 0] := by
  rw [List.take_succ_eq_append_getElem hk]; simp [List.getD, hk]

theorem Row.words {w : World} {v : Value} {X : List Nat} (h : Row w v (X.map wV)) (h0 : 0 < X.length) :
    ∃ b off cap, v = .slice (some ⟨b, off, none⟩) X.length cap ∧ ∀ i, i < X.length → w.cell? ⟨b, off + i, none⟩ = some (wV (X.getD i 0)) := by
  obtain ⟨a, cap, rfl, h⟩ := h
  rcases h with h | ⟨b, off, rfl, hc⟩
  · have := congrArg List.length h; simp at this; subst this; simp at h0
  · exact ⟨b, off, cap, by simp, fun i hi => by rw [hc i (by simpa using hi)]; simp [List.getD, hi]⟩

/-- Where the object k lies. -/
theorem plc_get {xs : List Nat} {b e : Nat} {l : List (Nat × Ob)} (h : Lie xs b e l) {k : Nat} (hk : k < l.length) : (nI (plc l)).getD k 0 = (begs b l k : Nat) := by
  have := (Lie.at h k hk).1
  simp [List.getD, hk] at this
  simp [plc, List.getD, hk, this]

end Go.Proofs.Ytoonimdohkbfgaa
