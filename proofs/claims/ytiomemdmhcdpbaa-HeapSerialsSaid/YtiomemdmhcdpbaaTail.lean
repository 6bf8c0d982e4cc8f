/- A region that draws its order: first operations that read, or call what makes but new blocks, in whatever order; behind them a last few in one forced order (a store, say). Regions that draw their order, inside a round of a range over a function. A region that draws its order: loads, taken first; then a call and what makes memory, in one forced order, while what the loads read stands; then a few more in forced order (an append, a store). -/
import Derived.Test.YtiomemdmhcdpbaaKit
import Derived.StillTail
import Derived.OrdersIn
import Derived.RangeFuncLeaves
import Derived.TacticsInMore
import Derived.OwnWalkIn
import Derived.OrdersHeld
set_option linter.unusedSimpArgs false
set_option linter.unusedVariables false
namespace Go.Proofs.Ytiomemdmhcdpbaa
open Go.RowKit

section
variable {P : Program} {ops : Array Oper} {md : Region.Mode} {C : World → Prop}

/-- Whatever order is picked, till the first n operations are through: L then. -/
def headQ (P : Program) (md : Region.Mode) (ops : Array Oper) (C : World → Prop) (n : Nat) (L : Array Bool → Act → Prop) : Nat → Array Bool → Act → Prop
  | 0, done, a => L done a
  | f + 1, done, a => Region.ready md ops done ≠ [] ∧ ∀ i ∈ Region.ready md ops done, i < n ∧ qOp P ops C i (headQ P md ops C n L f (done.setIfInBounds i true)) a

theorem any_of_headQ {n g : Nat} {L : Array Bool → Act → Prop} {Q : Exit → Act → World → Prop} (hL : ∀ done a w, C w → L done a → wpAny P md ops Q g done a w) :
    ∀ (f : Nat) (done : Array Bool) (a : Act) (w : World), C w → headQ P md ops C n L f done a → wpAny P md ops Q (f + g) done a w
  | 0, done, a, w, hw, h => by rw [Nat.zero_add]; exact hL _ _ _ hw h
  | f + 1, done, a, w, hw, h => by
    rw [show f + 1 + g = (f + g) + 1 by omega]
    exact ⟨fun h0 => absurd h0 h.1, fun i hi => wpOp_of_qOp hw (fun a' w' hw' h' => any_of_headQ hL f _ a' w' hw' h') (h.2 i hi).2⟩

theorem headQ_first {n i : Nat} {oi : Oper} {v : Value} {L : Array Bool → Act → Prop} (hi : ops[i]? = some oi) (hsel : ∀ (j : Nat) (o : Oper) cs b, ops[j]? = some o → o.op ≠ .select cs b)
    (hs : Region.sinkB md ops n = true) (hc : Region.chainB md ops n = true) (hn : n < ops.size) (hin : i < n) (hdone : ∀ done a, L done a → ∀ j ∈ Region.ready md ops done, n ≤ j) :
    ∀ (f : Nat) (done : Array Bool) (a : Act), HeadInv md ops n done →
      (∀ j oj, ops[j]? = some oj → j ≠ i → done.getD j true = false → (∀ e ∈ oj.after, Region.binds md e = true → e.on ≠ i) → oi.apart ops oj = true) →
      i ∈ Region.ready md ops done → YieldsIn P ops C oi v a →
      headQ P md ops C n L f (done.setIfInBounds i true) (a.put oi.dst v) → headQ P md ops C n L (f + 1) done a := by
  intro f
  induction f with
  | zero =>
    intro done a inv _ hr hy H
    have hun := (mem_ready.1 hr).1
    refine ⟨fun h => (by rw [h] at hr; cases hr), fun j hj => ?_⟩
    have hjn : j < n := by
      rcases Nat.lt_or_ge j n with h | h
      · exact h
      · exact absurd hj (tail_waits hs hc hn inv _ i rfl hin hun j h)
    refine ⟨hjn, ?_⟩
    by_cases hji : j = i
    · subst hji; exact hy.qOp hi H
    · have := hdone _ _ H j (ready_mono hj hji)
      omega
  | succ f ih =>
    intro done a inv hfree hr hy H
    have hun := (mem_ready.1 hr).1
    refine ⟨fun h => (by rw [h] at hr; cases hr), fun j hj => ?_⟩
    have hjn : j < n := by
      rcases Nat.lt_or_ge j n with h | h
      · exact h
      · exact absurd hj (tail_waits hs hc hn inv _ i rfl hin hun j h)
    refine ⟨hjn, ?_⟩
    by_cases hji : j = i
    · subst hji; exact hy.qOp hi H
    · have h1 := (H.2 j (ready_mono hj hji)).2
      obtain ⟨hjun, oj, hoj, hall⟩ := mem_ready.1 hj
      have hnot : ∀ e ∈ oj.after, Region.binds md e = true → e.on ≠ i := fun e he hb heq => by
        have h1 := hall e he hb
        rw [heq, getD_both hun] at h1
        cases h1
      have h2 := qOp_put hoj (hfree j oj hoj hji hjun hnot) (fun cs b => hsel i oi cs b hi) (fun cs b => hsel j oj cs b hoj) hy h1
      have hfree' : ∀ k ok, ops[k]? = some ok → k ≠ i → (done.setIfInBounds j true).getD k true = false →
          (∀ e ∈ ok.after, Region.binds md e = true → e.on ≠ i) → oi.apart ops ok = true := fun k ok hk hki hun hno => by
        refine hfree k ok hk hki ?_ hno
        by_cases hjk : j = k
        · subst hjk; exact hjun
        · rw [getD_set_ne true hjk] at hun; exact hun
      refine qOp_mono (fun a' h3 => ih (done.setIfInBounds j true) a' (inv.set hj hjn) hfree' (ready_mono hr (Ne.symm hji)) h3.1 ?_) h2
      rw [Array.setIfInBounds_comm _ _ hji]
      exact h3.2

theorem headQ_lex {n g : Nat} {Lq : Act → Prop} (hsel : Region.noSelect ops = true) (hs : Region.sinkB md ops n = true) (hc : Region.chainB md ops n = true) (hn : n < ops.size) :
    ∀ (l : List Oper) (k : Nat) (done : Array Bool) (a : Act), (∀ j, j < l.length → l[j]? = ops[k + j]?) → k + l.length = n → HeadInv md ops n done →
    Region.lexHead md ops g l.length k done = true → wpQuiet P ops C Lq l a →
    headQ P md ops C n (fun done' a' => Region.seqB md ops g n done' = true ∧ Lq a') l.length done a
  | [], k, done, a, _, hk, _, hB, h => by
    have : k = n := by simpa using hk
    subst this
    exact ⟨by simpa [Region.lexHead] using hB, h⟩
  | o :: l, k, done, a, hl, hk, inv, hB, h => by
    have h0 : ops[k]? = some o := by simpa using (hl 0 (by simp)).symm
    simp only [List.length_cons, Region.lexHead, Bool.and_eq_true] at hB
    obtain ⟨⟨hr, hf⟩, hB'⟩ := hB
    have hkn : k < n := by simp only [List.length_cons] at hk; omega
    have hr' : k ∈ Region.ready md ops done := by simpa using hr
    have hst : qOp P ops C k (wpQuiet P ops C Lq l) a := by unfold qOp; simp only [h0]; exact h
    obtain ⟨v, hy, hK⟩ := yieldsIn_of_qOp h0 hst
    exact headQ_first h0 (Region.noSelect_spec hsel) hs hc hn hkn (fun done' a' hL => seqB_ready hL.1) l.length done a inv (Region.free_spec h0 hf) hr' hy
      (headQ_lex hsel hs hc hn l (k + 1) _ _ (fun j hj => by have := hl (j + 1) (by simp; omega); simpa [Nat.add_assoc, Nat.add_comm 1 j] using this) (by simp only [List.length_cons] at hk; omega) (inv.set hr' hkn) hB' hK)

end

theorem wpAny_calm_tail {P : Program} {Q : Exit → Act → World → Prop} {a : Act} {w : World} {l : List Oper} (n : Nat) (hB : Region.lexTailB .any l.toArray n = true)
    (h : wpQuiet P l.toArray (fun w' => ∃ x : Later w, w' = x.w) (fun a' => ∀ w', (∃ x : Later w, w' = x.w) → wpList P l.toArray Q (l.drop n) a' w') (l.take n) a) :
    wpAny P .any l.toArray Q l.toArray.size (Array.replicate l.toArray.size false) a { w with drawn := w.drawn + 1 } := by
  simp only [Region.lexTailB, Bool.and_eq_true, decide_eq_true_eq] at hB
  obtain ⟨⟨⟨⟨hsel, hn⟩, hs⟩, hc⟩, hlex⟩ := hB
  have hn' : n < l.length := by simpa using hn
  have htl : (l.take n).length = n := by simp; omega
  have hdl : (l.drop n).length = l.toArray.size - n := by simp
  have inv0 : HeadInv .any l.toArray n (Array.replicate l.toArray.size false) :=
    ⟨by simp, fun j oj _ hl => (by rw [getD_replicate_false] at hl; cases hl), fun t _ ht => getD_in (by simpa using ht) (getD_replicate_false _ _)⟩
  have H := headQ_lex (md := .any) (g := l.toArray.size - n) hsel hs hc hn (l.take n) 0 _ a (fun j hj => by
    have hj' : j < n := by rw [htl] at hj; exact hj
    simp [hj']) (by simpa using htl) inv0 (by rw [htl]; exact hlex) h
  have := any_of_headQ (Q := Q) (g := l.toArray.size - n) (fun done a' w' hw' hL => by
    have := wpAny_of_seq (Q' := Q) (l.drop n) n done a' w' (fun j => by simp) (by rw [hdl]; exact hL.1) (hL.2 w' hw')
    rwa [hdl] at this) (l.take n).length _ a { w with drawn := w.drawn + 1 } ⟨⟨w.drew, (Fr.refl _ w).drew⟩, rfl⟩ H
  rw [htl] at this
  simpa [Nat.add_sub_cancel' (Nat.le_of_lt hn')] using this

/-- The region's law: the first n operations read, or make but new blocks; the rest are walked in their order, from whatever such world. -/
theorem wp_region_calm_tail {P : Program} {id : Nat} {Q : Exit → Act → World → Prop} {a : Act} {w : World} {l : List Oper} (n : Nat) (hm : P.follows .mixedOrders = true) (hB : Region.lexTailB .any l.toArray n = true)
    (h : wpQuiet P l.toArray (fun w' => ∃ x : Later w, w' = x.w) (fun a' => ∀ w', (∃ x : Later w, w' = x.w) → wpList P l.toArray Q (l.drop n) a' w') (l.take n) a) : (Code.region id l.toArray true).wp P Q a w :=
  wp_region_any hm (wpAny_calm_tail n hB h)

end Go.Proofs.Ytiomemdmhcdpbaa

namespace Go.Proofs.Ytiomemdmhcdpbaa
open Go.RowKit

section
variable {P : Program} {ops : Array Oper} {md : Region.Mode} {Q : Exit → Act → World → Prop} {r n : Nat}

theorem oper_wpIn_of {o : Oper} {a : Act} {w : World} {K : Act → World → Prop} (hnd : ∀ c, o.op ≠ .defer c) (h : o.wp P a w K Q) : o.wpIn (Fence.wide.inRound r) n P a w K Q := by
  unfold Oper.wpIn
  refine ⟨fun _ _ => trivial, ?_⟩
  show Oper.uponIn _ _ _ _ _ _ _ ((o.semAt (some r) a.eval).run P w)
  rw [Oper.semAt_some r _ _ hnd]
  unfold Oper.wp at h
  generalize (execOp a.eval o).run P w = x at *
  cases x with
  | ok x w' =>
    cases x <;> simp only [Oper.upon, Oper.uponIn] at h ⊢
    all_goals first
      | exact h
      | exact ⟨fun h => Bool.noConfusion h, callsIn_wide.2 h⟩
      | exact ⟨fun h => Bool.noConfusion h, fun c cs _ => let ⟨v, w', r, s⟩ := h c cs; ⟨v, w', r, stepsIn_wide.2 s⟩⟩
  | halt x w' => cases x <;> exact h

def noDefer (ops : Array Oper) : Bool := ops.all fun o => match o.op with | .defer _ => false | _ => true

theorem noDefer_at {i : Nat} {o : Oper} (h : noDefer ops = true) (hi : ops[i]? = some o) : ∀ c, o.op ≠ .defer c := by
  intro c hc
  have hm := Array.mem_of_getElem? hi
  have := (Array.all_eq_true_iff_forall_mem.1 h) o hm
  rw [hc] at this
  exact Bool.noConfusion this

theorem wpAnyIn_of_any (hnd : noDefer ops = true) (hQ : ¬ LetsOut Q) : ∀ (fuel : Nat) (listed : Array Bool) (a : Act) (w : World), wpAny P md ops Q fuel listed a w → wpAnyIn (Fence.wide.inRound r) n P md ops Q fuel listed a w
  | 0, _, _, _, h => h
  | fuel + 1, listed, a, w, h => ⟨h.1, fun i hi => by
      have h2 := wpOp_mono (fun a' w' h' => wpAnyIn_of_any hnd hQ fuel _ a' w' h') (h.2 i hi)
      unfold wpOp at h2
      unfold wpOpIn
      cases ho : ops[i]? with
      | none => simpa [ho] using h2
      | some o =>
        simp only [ho] at h2 ⊢
        by_cases hw : Region.wanted o (yielded ops a.tmps) = true
        · simp only [hw, if_true] at h2 ⊢
          rcases h2 with h2 | ⟨_, h2⟩
          · exact oper_wpIn_of (noDefer_at hnd ho) h2
          · exact (hQ h2).elim
        · simp only [hw, if_false, Bool.false_eq_true] at h2 ⊢
          exact ⟨fun _ _ => trivial, h2⟩⟩
end

theorem wpIn_region_calm {P : Program} {r n id : Nat} {Q : Exit → Act → World → Prop} {a : Act} {w : World} {l : List Oper} (hnd : noDefer l.toArray = true) (hQ : ¬ LetsOut Q) (hm : P.follows .mixedOrders = true) (hB : Region.lexB .any l.toArray = true)
    (h : wpQuiet P l.toArray (fun w' => ∃ x : Later w, w' = x.w) (fun a' => ∀ w', (∃ x : Later w, w' = x.w) → Q .normal a' w') l a) : (Code.region id l.toArray true).wpIn (Fence.wide.inRound r) n P Q a w := by
  simp only [Region.lexB, Bool.and_eq_true] at hB
  refine wpIn_region_any hm (wpAnyIn_of_any hnd hQ _ _ _ _ ?_)
  refine wpAny_of_quiet (C := fun w' => ∃ x : Later w, w' = x.w) (Q := fun a' => ∀ w', (∃ x : Later w, w' = x.w) → Q .normal a' w') (fun _ w' hw' h => h w' hw') _ _ _ _ ⟨⟨w.drew, (Fr.refl _ w).drew⟩, rfl⟩ ?_
  have := wpAnyQ_lex (C := fun w' => ∃ x : Later w, w' = x.w) (md := .any) hB.1 l 0 (Array.replicate l.toArray.size false) a (by simp) (by simpa using hB.2) h
  simpa using this

theorem wpIn_region_calm_tail {P : Program} {r m id : Nat} {Q : Exit → Act → World → Prop} {a : Act} {w : World} {l : List Oper} (n : Nat) (hnd : noDefer l.toArray = true) (hQ : ¬ LetsOut Q) (hm : P.follows .mixedOrders = true) (hB : Region.lexTailB .any l.toArray n = true)
    (h : wpQuiet P l.toArray (fun w' => ∃ x : Later w, w' = x.w) (fun a' => ∀ w', (∃ x : Later w, w' = x.w) → wpList P l.toArray Q (l.drop n) a' w') (l.take n) a) : (Code.region id l.toArray true).wpIn (Fence.wide.inRound r) m P Q a w :=
  wpIn_region_any hm (wpAnyIn_of_any hnd hQ _ _ _ _ (wpAny_calm_tail n hB h))

/-! ### A row, while a loop goes on -/

theorem Row.at {w : World} {v : Value} {xs : List Value} (h : Row w v xs) : ∃ a cap, v = .slice a xs.length cap ∧ ∀ i (hi : i < xs.length), ∃ b off, a = some ⟨b, off, none⟩ ∧ w.cell? ⟨b, off + i, none⟩ = some xs[i] := by
  obtain ⟨a, cap, hv, h⟩ := h
  refine ⟨a, cap, hv, fun i hi => ?_⟩
  rcases h with h | ⟨b, off, ha, hc⟩
  · subst h; simp at hi
  · exact ⟨b, off, ha, hc i hi⟩

/-- The row's own block. -/
def inRow (v : Value) (k : Nat) : Prop := ∃ off n cap, v = .slice (some ⟨k, off, none⟩) n cap

theorem cell_keeps {w w' : World} {keep : Nat → Prop} {p : Addr} {u : Value} (h : w.cell? p = some u) (hk : Keeps keep w w') (hp : keep p.block) : w'.cell? p = some u :=
  (World.cell?_of_block (w := w) (hk.2 p.block hp)).trans h

theorem Row.keeps {w w' : World} {keep : Nat → Prop} {v : Value} {xs : List Value} (h : Row w v xs) (hk : Keeps keep w w') (hb : ∀ k, k < w.heap.size → inRow v k → keep k) : Row w' v xs := by
  obtain ⟨a, cap, hv, h⟩ := h
  refine ⟨a, cap, hv, ?_⟩
  rcases h with h | ⟨b, off, ha, hc⟩
  · exact .inl h
  · refine .inr ⟨b, off, ha, fun i hi => cell_keeps (hc i hi) hk (hb b (World.block_lt_of_cell? w _ (hc i hi)) ⟨off, _, cap, by rw [hv, ha]⟩)⟩

end Go.Proofs.Ytiomemdmhcdpbaa

namespace Go.Proofs.Ytiomemdmhcdpbaa
open Go.RowKit

section
variable {P : Program} {ops : Array Oper} {Q : Exit → Act → World → Prop} {md : Region.Mode} {S : World → Prop}

def heldHead (P : Program) (md : Region.Mode) (ops : Array Oper) (Q : Exit → Act → World → Prop) (S : World → Prop) (n : Nat) (L : Array Bool → Act → World → Prop) : Nat → Array Bool → Act → World → Prop
  | 0, done, a, w => L done a w
  | f + 1, done, a, w => Region.ready md ops done ≠ [] ∧ ∀ i ∈ Region.ready md ops done, i < n ∧ wpOp P ops Q i (fun a' w' => S w' ∧ heldHead P md ops Q S n L f (done.setIfInBounds i true) a' w') a w

theorem any_of_heldHead {n g : Nat} {L : Array Bool → Act → World → Prop} (hL : ∀ done a w, L done a w → wpAny P md ops Q g done a w) :
    ∀ (f : Nat) (done : Array Bool) (a : Act) (w : World), heldHead P md ops Q S n L f done a w → wpAny P md ops Q (f + g) done a w
  | 0, done, a, w, h => by rw [Nat.zero_add]; exact hL _ _ _ h
  | f + 1, done, a, w, h => by
    rw [show f + 1 + g = (f + g) + 1 by omega]
    exact ⟨fun h0 => absurd h0 h.1, fun i hi => wpOp_mono (fun a' w' h' => any_of_heldHead hL f _ a' w' h'.2) (h.2 i hi).2⟩

theorem held_first {n i : Nat} {oi : Oper} {v : Value} {L : Array Bool → Act → World → Prop} (hi : ops[i]? = some oi) (hsel : ∀ (j : Nat) (o : Oper) cs b, ops[j]? = some o → o.op ≠ .select cs b)
    (hs : Region.sinkB md ops n = true) (hc : Region.chainB md ops n = true) (hn : n < ops.size) (hin : i < n) (hQ : ∀ c a w, Q (.panic c) (a.put oi.dst v) w → Q (.panic c) a w)
    (hdone : ∀ done a w, L done a w → ∀ j ∈ Region.ready md ops done, n ≤ j) :
    ∀ (f : Nat) (done : Array Bool) (a : Act) (w : World), HeadInv md ops n done →
      (∀ j oj, ops[j]? = some oj → j ≠ i → done.getD j true = false → (∀ e ∈ oj.after, Region.binds md e = true → e.on ≠ i) → oi.apart ops oj = true) →
      i ∈ Region.ready md ops done → YieldsIf P ops S oi v a → S w →
      heldHead P md ops Q S n L f (done.setIfInBounds i true) (a.put oi.dst v) w → heldHead P md ops Q S n L (f + 1) done a w := by
  intro f
  induction f with
  | zero =>
    intro done a w inv _ hr hy hS H
    have hun := (mem_ready.1 hr).1
    refine ⟨fun h => (by rw [h] at hr; cases hr), fun j hj => ?_⟩
    have hjn : j < n := by
      rcases Nat.lt_or_ge j n with h | h
      · exact h
      · exact absurd hj (tail_waits hs hc hn inv _ i rfl hin hun j h)
    refine ⟨hjn, ?_⟩
    by_cases hji : j = i
    · subst hji; exact hy.wpOp hi hS ⟨hS, H⟩
    · have := hdone _ _ _ H j (ready_mono hj hji)
      omega
  | succ f ih =>
    intro done a w inv hfree hr hy hS H
    have hun := (mem_ready.1 hr).1
    refine ⟨fun h => (by rw [h] at hr; cases hr), fun j hj => ?_⟩
    have hjn : j < n := by
      rcases Nat.lt_or_ge j n with h | h
      · exact h
      · exact absurd hj (tail_waits hs hc hn inv _ i rfl hin hun j h)
    refine ⟨hjn, ?_⟩
    by_cases hji : j = i
    · subst hji; exact hy.wpOp hi hS ⟨hS, H⟩
    · have h1 := (H.2 j (ready_mono hj hji)).2
      obtain ⟨hjun, oj, hoj, hall⟩ := mem_ready.1 hj
      have hnot : ∀ e ∈ oj.after, Region.binds md e = true → e.on ≠ i := fun e he hb heq => by
        have h1 := hall e he hb
        rw [heq, getD_both hun] at h1
        cases h1
      have h2 := wpOp_putIf hoj (hfree j oj hoj hji hjun hnot) (fun cs b => hsel i oi cs b hi) (fun cs b => hsel j oj cs b hoj) hQ hy h1
      have hfree' : ∀ k ok, ops[k]? = some ok → k ≠ i → (done.setIfInBounds j true).getD k true = false →
          (∀ e ∈ ok.after, Region.binds md e = true → e.on ≠ i) → oi.apart ops ok = true := fun k ok hk hki hun hno => by
        refine hfree k ok hk hki ?_ hno
        by_cases hjk : j = k
        · subst hjk; exact hjun
        · rw [getD_set_ne true hjk] at hun; exact hun
      refine wpOp_mono (fun a' w' h3 => ⟨h3.2.1, ih (done.setIfInBounds j true) a' w' (inv.set hj hjn) hfree' (ready_mono hr (Ne.symm hji)) h3.1 h3.2.1 ?_⟩) h2
      rw [Array.setIfInBounds_comm _ _ hji]
      exact h3.2.2

/-- In their order, what the loads read standing behind each of the first c. -/
def heldSeq (P : Program) (ops : Array Oper) (Q : Exit → Act → World → Prop) (S : World → Prop) : Nat → List Oper → Act → World → Prop
  | 0, l, a, w => wpList P ops Q l a w
  | _ + 1, [], _, _ => False
  | c + 1, o :: l, a, w => if Region.wanted o (yielded ops a.tmps) then o.wp P a w (fun a' w' => S w' ∧ heldSeq P ops Q S c l a' w') Q ∨ (o.asks P a w ∧ LetsOut Q) else S w ∧ heldSeq P ops Q S c l (a.put o.dst undef) w

theorem heldSeq_step {c : Nat} {o : Oper} {l : List Oper} {a : Act} {w : World} (hw : Region.wanted o (yielded ops a.tmps) = true) (h : o.wp P a w (fun a' w' => S w' ∧ heldSeq P ops Q S c l a' w') Q) : heldSeq P ops Q S (c + 1) (o :: l) a w := by
  rw [heldSeq, if_pos hw]; exact .inl h

/-- The loads, one by one. -/
def heldList (P : Program) (ops : Array Oper) (Q : Exit → Act → World → Prop) (S : World → Prop) (c : Nat) : Nat → List Oper → Act → World → Prop
  | 0, l, a, w => heldSeq P ops Q S c l a w
  | _ + 1, [], _, _ => False
  | m + 1, o :: l, a, w => ∃ v, YieldsIf P ops S o v a ∧ (∀ c a w, Q (.panic c) (a.put o.dst v) w → Q (.panic c) a w) ∧ heldList P ops Q S c m l (a.put o.dst v) w

theorem heldList_step {c m : Nat} {o : Oper} {l : List Oper} {a : Act} {w : World} (v : Value) (hw : Region.wanted o (yielded ops a.tmps) = true) (hy : ∀ w, S w → (execOp a.eval o).run P w = .ok (.value v) w) (hQ : ∀ c a w, Q (.panic c) (a.put o.dst v) w → Q (.panic c) a w)
    (h : heldList P ops Q S c m l (a.put o.dst v) w) : heldList P ops Q S c (m + 1) (o :: l) a w := ⟨v, .inl ⟨hw, hy⟩, hQ, h⟩

def heldB (md : Region.Mode) (ops : Array Oper) (m n : Nat) : Bool :=
  Region.noSelect ops && decide (m ≤ n) && decide (n < ops.size) && Region.sinkB md ops n && Region.chainB md ops n && Region.lexHead md ops (ops.size - m) m 0 (Array.replicate ops.size false)

theorem seq_drop : ∀ (c g k : Nat) (done : Array Bool), Region.seqB md ops (c + g) k done = true → c = 0 ∨ (Region.ready md ops done = [k] ∧ Region.seqB md ops (c - 1 + g) (k + 1) (done.setIfInBounds k true) = true)
  | 0, _, _, _, _ => .inl rfl
  | c + 1, g, k, done, h => by
    rw [show c + 1 + g = (c + g) + 1 by omega] at h
    simp only [Region.seqB, Bool.and_eq_true, decide_eq_true_eq] at h
    exact .inr ⟨h.1, by simpa using h.2⟩

/-- What is left, behind the first n. -/
def heldLeaf (P : Program) (md : Region.Mode) (ops : Array Oper) (Q : Exit → Act → World → Prop) (l : List Oper) (n : Nat) (done : Array Bool) (a : Act) (w : World) : Prop :=
  Region.seqB md ops (ops.size - n) n done = true ∧ wpList P ops Q (l.drop n) a w

theorem held_seq {l : List Oper} (hl : l.toArray = ops) {n : Nat} (hn : n < ops.size) : ∀ (c k : Nat) (done : Array Bool) (a : Act) (w : World), k + c = n → Region.seqB md ops (ops.size - k) k done = true →
    heldSeq P ops Q S c (l.drop k) a w → heldHead P md ops Q S n (heldLeaf P md ops Q l n) c done a w
  | 0, k, done, a, w, hk, hB, h => by
    obtain rfl : k = n := by omega
    exact ⟨hB, h⟩
  | c + 1, k, done, a, w, hk, hB, h => by
    have hkl : k < l.length := by rw [← hl] at hn; simp at hn; omega
    have h0 : ops[k]? = some l[k] := by rw [← hl]; simp [hkl]
    rw [List.drop_eq_getElem_cons hkl] at h
    simp only [heldSeq] at h
    rw [show ops.size - k = (ops.size - (k + 1)) + 1 by omega] at hB
    simp only [Region.seqB, Bool.and_eq_true, decide_eq_true_eq] at hB
    refine ⟨fun h1 => (by rw [hB.1] at h1; cases h1), fun i hi => ?_⟩
    rw [hB.1] at hi
    have hik : i = k := by simpa using hi
    subst hik
    refine ⟨by omega, ?_⟩
    have ih := fun a' w' => held_seq hl hn c (i + 1) (done.setIfInBounds i true) a' w' (by omega) hB.2
    unfold wpOp
    simp only [h0]
    split
    · rename_i hw
      simp only [hw, if_true] at h
      exact h.imp (Oper.wp_mono fun a' w' h' => ⟨h'.1, ih a' w' h'.2⟩) id
    · rename_i hw
      simp only [hw, if_false, Bool.false_eq_true] at h
      exact ⟨h.1, ih _ _ h.2⟩

theorem held_lex {l : List Oper} (hl : l.toArray = ops) {n : Nat} (hsel : Region.noSelect ops = true) (hs : Region.sinkB md ops n = true) (hc : Region.chainB md ops n = true) (hn : n < ops.size) :
    ∀ (m k : Nat) (done : Array Bool) (a : Act) (w : World), k + m ≤ n → HeadInv md ops n done → Region.lexHead md ops (ops.size - (k + m)) m k done = true → S w →
    heldList P ops Q S (n - (k + m)) m (l.drop k) a w → heldHead P md ops Q S n (heldLeaf P md ops Q l n) (n - k) done a w
  | 0, k, done, a, w, hk, _, hB, _, h => held_seq hl hn (n - k) k done a w (by omega) (by simpa [Region.lexHead] using hB) (by simpa [heldList] using h)
  | m + 1, k, done, a, w, hk, inv, hB, hS, h => by
    have hkl : k < l.length := by rw [← hl] at hn; simp at hn; omega
    have h0 : ops[k]? = some l[k] := by rw [← hl]; simp [hkl]
    rw [List.drop_eq_getElem_cons hkl] at h
    simp only [heldList] at h
    obtain ⟨v, hy, hQ, h⟩ := h
    simp only [Region.lexHead, Bool.and_eq_true] at hB
    obtain ⟨⟨hr, hf⟩, hB'⟩ := hB
    have hr' : k ∈ Region.ready md ops done := by simpa using hr
    rw [show n - k = (n - (k + 1)) + 1 by omega]
    refine held_first h0 (Region.noSelect_spec hsel) hs hc hn (by omega) hQ (fun done' a' w' hL => seqB_ready hL.1) _ done a w inv (Region.free_spec h0 hf) hr' hy hS ?_
    exact held_lex hl hsel hs hc hn m (k + 1) _ _ w (by omega) (inv.set hr' (by omega)) (by rw [show k + 1 + m = k + (m + 1) by omega]; exact hB') hS (by rw [show k + 1 + m = k + (m + 1) by omega]; exact h)

theorem wpAny_held {a : Act} {w : World} {l : List Oper} (m n : Nat) (S : World → Prop) (hB : heldB .any l.toArray m n = true) (hS : S { w with drawn := w.drawn + 1 })
    (h : heldList P l.toArray Q S (n - m) m l a { w with drawn := w.drawn + 1 }) :
    wpAny P .any l.toArray Q l.toArray.size (Array.replicate l.toArray.size false) a { w with drawn := w.drawn + 1 } := by
  simp only [heldB, Bool.and_eq_true, decide_eq_true_eq] at hB
  obtain ⟨⟨⟨⟨⟨hsel, hmn⟩, hn⟩, hs⟩, hc⟩, hlex⟩ := hB
  have inv0 : HeadInv .any l.toArray n (Array.replicate l.toArray.size false) :=
    ⟨by simp, fun j oj _ hl => (by rw [getD_replicate_false] at hl; cases hl), fun t _ ht => getD_in (by simpa using ht) (getD_replicate_false _ _)⟩
  have H := held_lex (P := P) (Q := Q) (S := S) (l := l) rfl hsel hs hc hn m 0 _ a { w with drawn := w.drawn + 1 } (by omega) inv0 (by simpa using hlex) hS (by simpa using h)
  have hdl : (l.drop n).length = l.toArray.size - n := by simp
  have := any_of_heldHead (Q := Q) (g := l.toArray.size - n) (fun done a' w' hL => by
    have := wpAny_of_seq (Q' := Q) (l.drop n) n done a' w' (fun j => by simp) (by rw [hdl]; exact hL.1) hL.2
    rwa [hdl] at this) _ _ _ _ H
  rw [Nat.sub_zero, Nat.add_sub_cancel' (Nat.le_of_lt hn)] at this
  exact this
end

theorem wpIn_region_held {P : Program} {r f id : Nat} {Q : Exit → Act → World → Prop} {a : Act} {w : World} {l : List Oper} (m n : Nat) (S : World → Prop) (hnd : noDefer l.toArray = true) (hQ : ¬ LetsOut Q) (hm : P.follows .mixedOrders = true) (hB : heldB .any l.toArray m n = true) (hS : S w.drew)
    (h : heldList P l.toArray Q S (n - m) m l a w.drew) : (Code.region id l.toArray true).wpIn (Fence.wide.inRound r) f P Q a w :=
  wpIn_region_any hm (wpAnyIn_of_any hnd hQ _ _ _ _ (wpAny_held m n S hB hS h))

theorem wp_region_helds {P : Program} {id : Nat} {Q : Exit → Act → World → Prop} {a : Act} {w : World} {l : List Oper} (m n : Nat) (S : World → Prop) (hm : P.follows .mixedOrders = true) (hB : heldB .any l.toArray m n = true) (hS : S w.drew)
    (h : heldList P l.toArray Q S (n - m) m l a w.drew) : (Code.region id l.toArray true).wp P Q a w :=
  wp_region_any hm (wpAny_held m n S hB hS h)

end Go.Proofs.Ytiomemdmhcdpbaa
