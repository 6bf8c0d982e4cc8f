/- A slice of ints opened, its length told by the datum. -/
import Derived.Test.YtcacbbfeenebbaaOpen
import Derived.SizedLaws
set_option linter.unusedSimpArgs false
set_option linter.unusedVariables false
namespace Go.Proofs.Ytcacbbfeenebbaa
open Go.ChangeShapes Go.WideShapes Go.ChangeAt Go.RowKit
section
variable {H : Type} {enc : TypeId × Value → H} {P : Program} {w : World} {base : Nat} {spare : Nat → Bool} {held : Bool}
/-- .. its length told by the datum. -/
theorem open_rowS {r : Reach} {b0 : Nat} {t e : TypeId} {k : IntKind} {v : Value} {d : DataW H} {p : List MemPlace} (ht : P.underlying t = some (.slice e)) (he : P.underlying e = some (.int k)) (hE : P.cellsOf e = 1)
    (hv : Value.okWide P w r b0 t v) (h : DataW.Trod enc P w base (fun _ => true) held t v d p) : ∃ xs : List Int, Row w v (xs.map (Value.int k)) ∧ (∀ x ∈ xs, (Lit.int k x).wf = true) ∧ (xs.length = 0 ∨ ∃ el sp, d = .slice el sp ∧ xs.length = el.length) := by
  obtain ⟨xs, h1, h2, _⟩ := open_row ht he hE hv h
  refine ⟨xs, h1, h2, ?_⟩
  obtain ⟨a0, len, cap, rfl⟩ := okWide_slice ht hv
  obtain ⟨fuel, hf⟩ := h
  have hlen : len = xs.length := by
    obtain ⟨a, c, hv2, _⟩ := h1
    injection hv2 with _ e2 _
    simpa using e2
  rcases open_ints ht he hE hf with ⟨hcs, _⟩ | ⟨x, l, c, zs, hcs, _, hl, hm, hz, hx, hcell, hwz⟩
  · simp [Value.cells] at hcs
    left; rw [← hlen]; exact hcs.2.1
  · right
    simp [Value.cells] at hcs
    obtain ⟨rfl, rfl, rfl⟩ := hcs
    simp at hz
    injection hx with hx1 hx2
    refine ⟨_, _, hx1, ?_⟩
    rw [← hlen]
    simp [lits]; omega
end

end Go.Proofs.Ytcacbbfeenebbaa
