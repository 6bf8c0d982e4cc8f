/- GraphMoved returns true, and leaves what was handed in as it was: the given statement, out of the walk. The conditions: none. -/
import Derived.Test.YtcacbbfeenebbaaOpenS
import Derived.Test.YtcacbbfeenebbaaG3
import Derived.Test.YtcacbbfeenebbaaOpen2
namespace Go.Proofs.Ytcacbbfeenebbaa.graphMoved
open Go.ChangeShapes Go.WideShapes Go.ChangeAt Go.RowKit
set_option linter.unusedVariables false

theorem own : ownKnob Try.prog.godebug = none := by kernel_rfl
theorem laidOut : laidOutB Try.prog = true := by kernel_rfl

set_option maxRecDepth 100000 in
theorem lifted (os : Os) (started : os.Started) (H : Type) (enc : TypeId × Value → H) :
    ReturnsInHanded {} Try.checked os 11 .any (Rows.graphMovedSpec.pre6 enc Try.prog Try.f11 Rows.graphMovedRow.domain false) (Rows.graphMovedSpec.post enc Try.prog Try.f11 false true false false) := by
  refine returnsInHanded_of_change_sized (C := Try.checked) own started (by kernel_rfl) Try.func11
    (ChangeSpec.witness6 (enc := enc) (C := Try.checked) false ⟨#[], #[.slice none 0 0, .slice none 0 0, .slice none 0 0], []⟩ 8 (by kernel_rfl) (by kernel_rfl) (by kernel_rfl) (by kernel_rfl)) ?_
  intro W base args ds gs before hval0 hW hcnd hsz _
  have hval : ∀ (j : Nat) t v, Try.f11.params[j]? = some t → args[j]? = some v → Value.okWide Try.prog W .any base t v := hval0
  have hW' := hW
  obtain ⟨p, q, hA0, hV, rfl, hfz, hnd⟩ := hW
  have hA : DataW.TrodAll enc Try.prog W 0 (fun _ => true) true Try.f11.params.toList args.toList ds p := hA0
  rw [Try.params11] at hA hval
  obtain ⟨v0, vs0, d0, ds0, p0, q0, hargs, rfl, rfl, h0, r0⟩ := trodAll_cons hA
  obtain ⟨v1, vs1, d1, ds1, p1, q1, rfl, rfl, rfl, h1, r1⟩ := trodAll_cons r0
  obtain ⟨v2, vs2, d2, ds2, p2, q2, rfl, rfl, rfl, h2, r2⟩ := trodAll_cons r1
  obtain ⟨rfl, rfl, rfl⟩ := trodAll_nil r2
  obtain rfl : args = #[v0, v1, v2] := by cases args; simp_all
  obtain ⟨rfl, rfl⟩ := trodVars_none hV
  have k0 := h0
  have lt0 : ∀ x ∈ p0, x.block < W.heap.size := by obtain ⟨m, hm⟩ := k0; exact DataW.trod_lt m _ _ _ hm
  have k1 := h1
  have lt1 : ∀ x ∈ p1, x.block < W.heap.size := by obtain ⟨m, hm⟩ := k1; exact DataW.trod_lt m _ _ _ hm
  have k2 := h2
  have lt2 : ∀ x ∈ p2, x.block < W.heap.size := by obtain ⟨m, hm⟩ := k2; exact DataW.trod_lt m _ _ _ hm
  obtain ⟨a0, o0, b0, m0⟩ := open_raw8 (hval 0 57 v0 rfl rfl) h0
  obtain ⟨a1, o1, w1, m1⟩ := open_row Try.underlying58 Try.underlying3 (by kernel_rfl) (hval 1 58 v1 rfl rfl) h1
  have b1 := fun x hx => i64_of_wf (w1 x hx)
  obtain ⟨a2, o2, w2, s2⟩ := open_rowS Try.underlying58 Try.underlying3 (by kernel_rfl) (hval 2 58 v2 rfl rfl) h2
  have b2 := fun x hx => i64_of_wf (w2 x hx)
  have m2 : a2.length ≤ 1000000000000000 := by
    rcases s2 with s2 | ⟨el, sp, s2, s2'⟩
    · omega
    · have h8 : Try.prog.bytesOf 3 = 8 := by kernel_rfl
      have hz : (el.length + sp.length) * Try.prog.bytesOf 3 ≤ reachBytes := sized_slice hsz (j := 2) (t := 58) (e := 3) (elems := el) (spare := sp) rfl (by rw [s2]; rfl) Try.underlying58
      rw [h8] at hz
      have := reachBytes_lt
      omega
  refine (graphMoved_walk v0 a0 m0 v1 a1 b1 m1 v2 a2 b2 m2 W o0 b0 o1 o2).mono fun e W' ⟨he, bel⟩ => ?_
  subst he
  exact ⟨_, rfl, _, _, _, [], _, [], hW', trodAll_mk1 (shut_bool Try.underlying4 _), (trodAll_cons_mk (Below.trod laidOut (by kernel_rfl) (of_decide_eq_true (by kernel_rfl)) k0 bel lt0) (trodAll_cons_mk (Below.trod laidOut (by kernel_rfl) (of_decide_eq_true (by kernel_rfl)) k1 bel lt1) (trodAll_cons_mk (Below.trod laidOut (by kernel_rfl) (of_decide_eq_true (by kernel_rfl)) k2 bel lt2) trodAll_mk0))), rfl, bel.frame _, fun h => by cases h⟩

theorem over : Rows.graphMovedRow.holds Try.pinned (OpenSpec.ofChange Rows.graphMovedSpec) :=
  OpenClaim.holds_of_wide 11 Try.f11 rfl rfl rfl rfl rfl rfl rfl ⟨rfl, rfl, rfl, rfl, rfl⟩ rfl rfl rfl rfl rfl (by kernel_rfl) Try.func11 (by kernel_rfl)
    (of_decide_eq_true (by kernel_rfl)) (by unfold Func.isWrapper; first | (rw [if_pos (by decide +kernel)]; kernel_rfl) | (rw [if_neg (by decide +kernel)]; exact ⟨rfl, rfl⟩))
    (fun os started H enc _ => lifted os started H enc)

/-- The statement. -/
theorem proved : Rows.GraphMovedSaid := over
#print axioms proved
end Go.Proofs.Ytcacbbfeenebbaa.graphMoved
