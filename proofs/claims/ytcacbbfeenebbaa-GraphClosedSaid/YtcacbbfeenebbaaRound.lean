/- Regions that draw their order, inside a round of a range over a function. -/
import Derived.Test.YtcacbbfeenebbaaKit
import Derived.Test.YtcacbbfeenebbaaTail
import Derived.OrdersIn
import Derived.RangeFuncLeaves
import Derived.TacticsInMore
import Derived.OwnWalkIn
set_option linter.unusedSimpArgs false
set_option linter.unusedVariables false
namespace Go.Proofs.Ytcacbbfeenebbaa
open Go.RowKit

section
variable {P : Program} {ops : Array Oper} {md : Region.Mode} {Q : Exit → Act → World → Prop} {r n : Nat}

theorem oper_wpIn_of {o : Oper} {a : Act} {w : World} {K : Act → World → Prop} (hnd : ∀ c, o.op ≠ .defer c) (h : o.wp P a w K Q) : o.wpIn (Fence.wide.inRound r) n P a w K Q := by
  unfold Oper.wpIn
  refine ⟨fun _ _ => trivial, ?_⟩
  show Oper.uponIn _ _ _ _ _ _ _ ((o.semAt (some r) a.eval).run P w)
  rw [Oper.semAt_some r _ _ hnd]
  unfold Oper.wp at h
  generalize (execOp a.eval o).run P w = x at *
  cases x with
  | ok x w' =>
    cases x <;> simp only [Oper.upon, Oper.uponIn] at h ⊢
    all_goals first
      | exact h
      | exact ⟨fun h => Bool.noConfusion h, callsIn_wide.2 h⟩
      | exact ⟨fun h => Bool.noConfusion h, fun c cs _ => let ⟨v, w', r, s⟩ := h c cs; ⟨v, w', r, stepsIn_wide.2 s⟩⟩
  | halt x w' => cases x <;> exact h

def noDefer (ops : Array Oper) : Bool := ops.all fun o => match o.op with | .defer _ => false | _ => true

theorem noDefer_at {i : Nat} {o : Oper} (h : noDefer ops = true) (hi : ops[i]? = some o) : ∀ c, o.op ≠ .defer c := by
  intro c hc
  have hm := Array.mem_of_getElem? hi
  have := (Array.all_eq_true_iff_forall_mem.1 h) o hm
  rw [hc] at this
  exact Bool.noConfusion this

theorem wpAnyIn_of_any (hnd : noDefer ops = true) (hQ : ¬ LetsOut Q) : ∀ (fuel : Nat) (listed : Array Bool) (a : Act) (w : World), wpAny P md ops Q fuel listed a w → wpAnyIn (Fence.wide.inRound r) n P md ops Q fuel listed a w
  | 0, _, _, _, h => h
  | fuel + 1, listed, a, w, h => ⟨h.1, fun i hi => by
      have h2 := wpOp_mono (fun a' w' h' => wpAnyIn_of_any hnd hQ fuel _ a' w' h') (h.2 i hi)
      unfold wpOp at h2
      unfold wpOpIn
      cases ho : ops[i]? with
      | none => simpa [ho] using h2
      | some o =>
        simp only [ho] at h2 ⊢
        by_cases hw : Region.wanted o (yielded ops a.tmps) = true
        · simp only [hw, if_true] at h2 ⊢
          rcases h2 with h2 | ⟨_, h2⟩
          · exact oper_wpIn_of (noDefer_at hnd ho) h2
          · exact (hQ h2).elim
        · simp only [hw, if_false, Bool.false_eq_true] at h2 ⊢
          exact ⟨fun _ _ => trivial, h2⟩⟩
end

theorem wpIn_region_calm {P : Program} {r n id : Nat} {Q : Exit → Act → World → Prop} {a : Act} {w : World} {l : List Oper} (hnd : noDefer l.toArray = true) (hQ : ¬ LetsOut Q) (hm : P.follows .mixedOrders = true) (hB : Region.lexB .any l.toArray = true)
    (h : wpQuiet P l.toArray (fun w' => ∃ x : Later w, w' = x.w) (fun a' => ∀ w', (∃ x : Later w, w' = x.w) → Q .normal a' w') l a) : (Code.region id l.toArray true).wpIn (Fence.wide.inRound r) n P Q a w := by
  simp only [Region.lexB, Bool.and_eq_true] at hB
  refine wpIn_region_any hm (wpAnyIn_of_any hnd hQ _ _ _ _ ?_)
  refine wpAny_of_quiet (C := fun w' => ∃ x : Later w, w' = x.w) (Q := fun a' => ∀ w', (∃ x : Later w, w' = x.w) → Q .normal a' w') (fun _ w' hw' h => h w' hw') _ _ _ _ ⟨⟨w.drew, (Fr.refl _ w).drew⟩, rfl⟩ ?_
  have := wpAnyQ_lex (C := fun w' => ∃ x : Later w, w' = x.w) (md := .any) hB.1 l 0 (Array.replicate l.toArray.size false) a (by simp) (by simpa using hB.2) h
  simpa using this

theorem wpIn_region_calm_tail {P : Program} {r m id : Nat} {Q : Exit → Act → World → Prop} {a : Act} {w : World} {l : List Oper} (n : Nat) (hnd : noDefer l.toArray = true) (hQ : ¬ LetsOut Q) (hm : P.follows .mixedOrders = true) (hB : Region.lexTailB .any l.toArray n = true)
    (h : wpQuiet P l.toArray (fun w' => ∃ x : Later w, w' = x.w) (fun a' => ∀ w', (∃ x : Later w, w' = x.w) → wpList P l.toArray Q (l.drop n) a' w') (l.take n) a) : (Code.region id l.toArray true).wpIn (Fence.wide.inRound r) m P Q a w :=
  wpIn_region_any hm (wpAnyIn_of_any hnd hQ _ _ _ _ (wpAny_calm_tail n hB h))

/-! ### A row, while a loop goes on -/

theorem Row.at {w : World} {v : Value} {xs : List Value} (h : Row w v xs) : ∃ a cap, v = .slice a xs.length cap ∧ ∀ i (hi : i < xs.length), ∃ b off, a = some ⟨b, off, none⟩ ∧ w.cell? ⟨b, off + i, none⟩ = some xs[i] := by
  obtain ⟨a, cap, hv, h⟩ := h
  refine ⟨a, cap, hv, fun i hi => ?_⟩
  rcases h with h | ⟨b, off, ha, hc⟩
  · subst h; simp at hi
  · exact ⟨b, off, ha, hc i hi⟩

/-- The row's own block. -/
def inRow (v : Value) (k : Nat) : Prop := ∃ off n cap, v = .slice (some ⟨k, off, none⟩) n cap

theorem cell_keeps {w w' : World} {keep : Nat → Prop} {p : Addr} {u : Value} (h : w.cell? p = some u) (hk : Keeps keep w w') (hp : keep p.block) : w'.cell? p = some u :=
  (World.cell?_of_block (w := w) (hk.2 p.block hp)).trans h

theorem Row.keeps {w w' : World} {keep : Nat → Prop} {v : Value} {xs : List Value} (h : Row w v xs) (hk : Keeps keep w w') (hb : ∀ k, k < w.heap.size → inRow v k → keep k) : Row w' v xs := by
  obtain ⟨a, cap, hv, h⟩ := h
  refine ⟨a, cap, hv, ?_⟩
  rcases h with h | ⟨b, off, ha, hc⟩
  · exact .inl h
  · refine .inr ⟨b, off, ha, fun i hi => cell_keeps (hc i hi) hk (hb b (World.block_lt_of_cell? w _ (hc i hi)) ⟨off, _, cap, by rw [hv, ha]⟩)⟩

end Go.Proofs.Ytcacbbfeenebbaa
