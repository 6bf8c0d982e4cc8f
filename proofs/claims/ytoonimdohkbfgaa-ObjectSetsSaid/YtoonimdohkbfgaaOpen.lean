/- Arguments opened: what a call's inputs are. -/
import Derived.Test.YtoonimdohkbfgaaKit
import Derived.ProofKit
import Derived.OpenShut
import Derived.ShutString
import Derived.ChangeOld
import Derived.Below
set_option linter.unusedSimpArgs false
set_option linter.unusedVariables false
namespace Go.Proofs.Ytoonimdohkbfgaa
open Go.ChangeShapes Go.WideShapes Go.ChangeAt Go.RowKit

section
variable {H : Type} {enc : TypeId × Value → H} {P : Program} {w : World} {base : Nat} {spare : Nat → Bool} {held : Bool}

theorem i64_of_wf {n : Int} (h : (Lit.int .i64 n).wf = true) : I64 n := bounds_i64 h

/-- A word is in its bounds. -/
abbrev U64 (n : Int) : Prop := 0 ≤ n ∧ n ≤ 18446744073709551615
theorem u64_of_wf {n : Int} (h : (Lit.int .u64 n).wf = true) : U64 n := bounds_u64 h

/-- An array of n integers. -/
theorem open_arr {r : Reach} {b0 : Nat} {t e : TypeId} {k : IntKind} {n : Nat} {v : Value} {d : DataW H} {p : List MemPlace} (ht : P.underlying t = some (.array n e)) (he : P.underlying e = some (.int k)) (hE : P.cellsOf e = 1) (hC : P.cellsOf t = n)
    (hv : Value.okWide P w r b0 t v) (h : DataW.Trod enc P w base spare held t v d p) : ∃ xs : List Int, xs.length = n ∧ v = .agg (xs.map (Value.int k)).toArray ∧ ∀ x ∈ xs, (Lit.int k x).wf = true := by
  obtain ⟨cs, rfl, hsz⟩ : ∃ cs, v = .agg cs ∧ cs.size = n := by
    simp only [Value.okWide, ht] at hv
    obtain ⟨cs, rfl, hs, _⟩ := hv
    exact ⟨cs, rfl, by rw [hs, hC]⟩
  obtain ⟨fuel, hf⟩ := h
  obtain ⟨ys, m, _, _, _, hl, hx⟩ := DataW.trod_array ht hf
  have each : ∀ i, i < n → ∃ x, cs[i]? = some (.int k x) ∧ (Lit.int k x).wf = true := by
    intro i hi
    have hh := hx i hi
    rw [hE] at hh
    have hy : ys[i]? = some (ys[i]'(by omega)) := by simp [hl, hi]
    rw [hy] at hh
    obtain ⟨x, hc, _, hw⟩ := DataW.trod_int he hh
    refine ⟨x, ?_, hw⟩
    simp only [Value.cells, Nat.mul_one] at hc
    have hi' : i < cs.size := by omega
    have : (cs.toList.drop i).take 1 = [cs[i]] := by
      rw [List.drop_eq_getElem_cons (by simpa using hi')]; simp
    rw [this] at hc
    simp at hc
    simp [hi', hc]
  have hL : ∃ xs : List Int, xs.length = n ∧ (∀ i, i < n → cs[i]? = some (.int k (xs.getD i 0)) ∧ (Lit.int k (xs.getD i 0)).wf = true) := by
    refine ⟨(List.range n).map (fun i => if h : i < n then (each i h).choose else 0), by simp, fun i hi => ?_⟩
    have := (each i hi).choose_spec
    simpa [List.getD, hi] using this
  obtain ⟨xs, hxl, hxs⟩ := hL
  refine ⟨xs, hxl, ?_, fun x hx => ?_⟩
  · congr 1
    refine Array.ext (by simp [hsz, hxl]) (fun i h1 h2 => ?_)
    have h := (hxs i (by omega)).1
    have hi : i < xs.length := by omega
    simp [List.getD, hi, h1] at h
    simp [h]
  · obtain ⟨i, hi, rfl⟩ := List.mem_iff_getElem.1 hx
    have h := (hxs i (by omega)).2
    simpa [List.getD, hi] using h

/-- A slice of integers. -/
theorem open_row {r : Reach} {b0 : Nat} {t e : TypeId} {k : IntKind} {v : Value} {d : DataW H} {p : List MemPlace} (ht : P.underlying t = some (.slice e)) (he : P.underlying e = some (.int k)) (hE : P.cellsOf e = 1)
    (hv : Value.okWide P w r b0 t v) (h : DataW.Trod enc P w base (fun _ => true) held t v d p) : ∃ xs : List Int, Row w v (xs.map (Value.int k)) ∧ (∀ x ∈ xs, (Lit.int k x).wf = true) ∧ xs.length ≤ maxLen := by
  obtain ⟨a0, len, cap, rfl⟩ := okWide_slice ht hv
  obtain ⟨fuel, hf⟩ := h
  rcases open_ints ht he hE hf with ⟨hcs, _⟩ | ⟨x, l, c, zs, hcs, _, hl, hm, hz, _, hcell, hwz⟩
  · simp [Value.cells] at hcs
    obtain ⟨rfl, rfl, rfl⟩ := hcs
    exact ⟨[], Row.nil w, by simp, by simp⟩
  · simp [Value.cells] at hcs
    obtain ⟨rfl, rfl, rfl⟩ := hcs
    simp at hz
    refine ⟨zs.take len, ⟨some x, cap, by simp; omega, ?_⟩, fun y hy => hwz y (List.mem_of_mem_take hy), by simp; omega⟩
    by_cases h0 : len = 0
    · left; simp [h0]
    · right
      obtain ⟨b, off, spot⟩ := x
      have hspot : spot = none := by simpa [Addr.add] using World.cell?_spot (hcell 0 (by omega))
      subst hspot
      refine ⟨b, off, rfl, fun i hi => ?_⟩
      have := hcell i (by simp at hi; omega)
      simp at hi
      have hi2 : i < zs.length := by omega
      by_cases h0 : i = 0
      · subst h0; simpa [Addr.add, List.getD, hi2] using this
      · simpa [Addr.add, List.getD, hi2, h0] using this
end

end Go.Proofs.Ytoonimdohkbfgaa
