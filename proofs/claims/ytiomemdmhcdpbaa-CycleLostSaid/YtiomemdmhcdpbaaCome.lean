/- Plain laws of what one comes to from roots: no program in sight. Plain laws: places that are named otherwise; no program in sight. Own rows of ints, told apart by their blocks; append of one int, as a law. append of a whole row of ints, as a law; rows that are written out. What package graph's come does: to, index. What package graph's from does. -/
import Derived.Test.YtiomemdmhcdpbaaKit
import Derived.Maps.OwnSet
import Derived.Test.YtiomemdmhcdpbaaMover
import Derived.Maps.AppendAt
import Derived.Maps.OwnIn
set_option linter.unusedSimpArgs false
set_option linter.unusedVariables false
namespace Go.Proofs.Ytiomemdmhcdpbaa
open Go.RowKit Go.Maps

/-- One place more, unless one has come there. -/
def addTo (L : List Nat) (p : Nat) : List Nat := if p = 0 ∨ p ∈ L then L else L ++ [p]
def addAll (L : List Nat) (ps : List Nat) : List Nat := ps.foldl addTo L
theorem addAll_nil (L : List Nat) : addAll L [] = L := rfl
theorem addAll_cons (L : List Nat) (p : Nat) (ps : List Nat) : addAll L (p :: ps) = addAll (addTo L p) ps := rfl
theorem addAll_snoc (L : List Nat) (ps : List Nat) (p : Nat) : addAll L (ps ++ [p]) = addTo (addAll L ps) p := by simp [addAll, List.foldl_append]
theorem addAll_append (L : List Nat) (ps qs : List Nat) : addAll L (ps ++ qs) = addAll (addAll L ps) qs := by simp [addAll, List.foldl_append]
theorem mem_addTo {L : List Nat} {p x : Nat} : x ∈ addTo L p ↔ x ∈ L ∨ (x = p ∧ p ≠ 0) := by
  unfold addTo; split
  · rename_i h; constructor
    · exact .inl
    · rintro (h1 | ⟨rfl, h1⟩)
      · exact h1
      · rcases h with h | h
        · exact absurd h h1
        · exact h
  · rename_i h; rw [not_or] at h; simp [h.1]
theorem mem_addAll {ps : List Nat} : ∀ {L : List Nat} {x : Nat}, x ∈ addAll L ps ↔ x ∈ L ∨ (x ∈ ps ∧ x ≠ 0) := by
  induction ps with
  | nil => intro L x; simp [addAll_nil]
  | cons p ps ih =>
    intro L x
    rw [addAll_cons, ih, mem_addTo]
    constructor
    · rintro ((h | ⟨rfl, h⟩) | ⟨h, h'⟩)
      · exact .inl h
      · exact .inr ⟨by simp, h⟩
      · exact .inr ⟨by simp [h], h'⟩
    · rintro (h | ⟨h, h'⟩)
      · exact .inl (.inl h)
      · rcases List.mem_cons.1 h with rfl | h
        · exact .inl (.inr ⟨rfl, h'⟩)
        · exact .inr ⟨h, h'⟩
theorem addTo_prefix (L : List Nat) (p : Nat) : ∃ M, addTo L p = L ++ M ∧ ∀ x ∈ M, x = p := by
  unfold addTo; split
  · exact ⟨[], by simp⟩
  · exact ⟨[p], rfl, by simp⟩
theorem addAll_prefix (ps : List Nat) : ∀ L : List Nat, ∃ M, addAll L ps = L ++ M ∧ ∀ x ∈ M, x ∈ ps := by
  induction ps with
  | nil => intro L; exact ⟨[], by simp [addAll_nil]⟩
  | cons p ps ih =>
    intro L
    obtain ⟨M, hM, h1⟩ := addTo_prefix L p
    obtain ⟨M', hM', h2⟩ := ih (addTo L p)
    refine ⟨M ++ M', by rw [addAll_cons, hM', hM, List.append_assoc], fun x hx => ?_⟩
    rcases List.mem_append.1 hx with hx | hx
    · simp [h1 x hx]
    · simp [h2 x hx]
theorem addTo_length (L : List Nat) (p : Nat) : (addTo L p).length ≤ L.length + 1 := by
  unfold addTo; split <;> simp
theorem addTo_nodup {L : List Nat} (h : L.Nodup) (p : Nat) : (addTo L p).Nodup := by
  unfold addTo; split
  · exact h
  · rename_i hp; rw [not_or] at hp
    rw [List.nodup_append]
    refine ⟨h, by simp, ?_⟩
    intro a ha b hb e
    simp at hb; subst hb; subst e; exact hp.2 ha
theorem addAll_nodup (ps : List Nat) : ∀ {L : List Nat}, L.Nodup → (addAll L ps).Nodup := by
  induction ps with
  | nil => intro L h; exact h
  | cons p ps ih => intro L h; exact ih (addTo_nodup h p)
theorem addTo_pos {L : List Nat} (h : 0 ∉ L) (p : Nat) : 0 ∉ addTo L p := by rw [mem_addTo]; rintro (h1 | ⟨rfl, h1⟩); exact h h1; exact h1 rfl
theorem addAll_pos {L : List Nat} (h : 0 ∉ L) (ps : List Nat) : 0 ∉ addAll L ps := by rw [mem_addAll]; rintro (h1 | ⟨_, h1⟩); exact h h1; exact h1 rfl

/-- From L, of which the first i have been asked, one comes to R. -/
inductive Bfs (str : Nat → List Nat) : List Nat → Nat → List Nat → Prop
  | done {L : List Nat} {i : Nat} : L.length ≤ i → Bfs str L i L
  | step {L : List Nat} {i : Nat} {R : List Nat} : i < L.length → Bfs str (addAll L (str (L.getD i 0))) (i + 1) R → Bfs str L i R

theorem Bfs.unique {str : Nat → List Nat} {L : List Nat} {i : Nat} {R R' : List Nat} (h : Bfs str L i R) (h' : Bfs str L i R') : R = R' := by
  induction h with
  | done hl => cases h' with
    | done => rfl
    | step hs _ => omega
  | step hs _ ih => cases h' with
    | done => omega
    | step _ h2 => exact ih h2
theorem Bfs.pref {str : Nat → List Nat} {L : List Nat} {i : Nat} {R : List Nat} (h : Bfs str L i R) : ∃ M, R = L ++ M := by
  induction h with
  | done hl => exact ⟨[], by simp⟩
  | @step L i R hs _ ih =>
    obtain ⟨M, hM⟩ := ih
    obtain ⟨M', hM', hmem⟩ := addAll_prefix (str (L.getD i 0)) L
    exact ⟨M' ++ M, by rw [hM, hM', List.append_assoc]⟩
theorem Bfs.sub {str : Nat → List Nat} {L : List Nat} {i : Nat} {R : List Nat} (h : Bfs str L i R) : ∀ x ∈ L, x ∈ R := by
  obtain ⟨M, rfl⟩ := h.pref; intro x hx; simp [hx]
theorem Bfs.nodup {str : Nat → List Nat} {L : List Nat} {i : Nat} {R : List Nat} (h : Bfs str L i R) (hn : L.Nodup) : R.Nodup := by
  induction h with
  | done => exact hn
  | step _ _ ih => exact ih (addAll_nodup _ hn)
theorem Bfs.pos {str : Nat → List Nat} {L : List Nat} {i : Nat} {R : List Nat} (h : Bfs str L i R) (hn : 0 ∉ L) : 0 ∉ R := by
  induction h with
  | done => exact hn
  | step _ _ ih => exact ih (addAll_pos hn _)
/-- Closed behind i. -/
theorem Bfs.closed {str : Nat → List Nat} {L : List Nat} {i : Nat} {R : List Nat} (h : Bfs str L i R) : ∀ j, i ≤ j → j < R.length → ∀ q ∈ str (R.getD j 0), q ≠ 0 → q ∈ R := by
  induction h with
  | done hl => intro j h1 h2; omega
  | @step L i R hs hb ih =>
    intro j h1 h2 q hq h0
    by_cases e : i = j
    · subst e
      obtain ⟨M, hM⟩ := hb.pref
      obtain ⟨M', hM', hmem⟩ := addAll_prefix (str (L.getD i 0)) L
      have : R.getD i 0 = L.getD i 0 := by rw [hM, hM']; simp [List.getD, List.getElem?_append, hs]
      rw [this] at hq
      exact hb.sub _ (mem_addAll.2 (.inr ⟨hq, h0⟩))
    · exact ih j (by omega) h2 q hq h0
theorem Bfs.within {str : Nat → List Nat} {U : Nat → Prop} (hU : ∀ x, U x → ∀ q ∈ str x, q ≠ 0 → U q) {L : List Nat} {i : Nat} {R : List Nat} (h : Bfs str L i R) (hl : ∀ x ∈ L, U x) : ∀ x ∈ R, U x := by
  induction h with
  | done => exact hl
  | @step L i R hs _ ih =>
    refine ih (fun x hx => ?_)
    rcases mem_addAll.1 hx with hx | ⟨hx, h0⟩
    · exact hl x hx
    · exact hU (L.getD i 0) (hl _ (by simp [List.getD, hs])) x hx h0
/-- Whatever is in it was in L, or is what one ahead of it tells. -/
theorem Bfs.why {str : Nat → List Nat} {L : List Nat} {i : Nat} {R : List Nat} (h : Bfs str L i R) : ∀ j, L.length ≤ j → j < R.length → ∃ k, k < j ∧ R.getD j 0 ∈ str (R.getD k 0) := by
  induction h with
  | done hl => intro j h1 h2; omega
  | @step L i R hs hb ih =>
    intro j h1 h2
    by_cases hj : (addAll L (str (L.getD i 0))).length ≤ j
    · exact ih j hj h2
    · obtain ⟨M, hM⟩ := hb.pref
      obtain ⟨M', hM', hmem⟩ := addAll_prefix (str (L.getD i 0)) L
      have e1 : R.getD i 0 = L.getD i 0 := by rw [hM, hM']; simp [List.getD, List.getElem?_append, hs]
      have e2 : R.getD j 0 = M'.getD (j - L.length) 0 := by
        rw [hM'] at hj; simp at hj
        rw [hM, hM']; simp [List.getD, List.getElem?_append, show ¬ j < L.length by omega, hj, show j - L.length < M'.length by omega]
      refine ⟨i, by omega, ?_⟩
      rw [e1, e2]
      apply hmem
      have : j - L.length < M'.length := by rw [hM'] at hj; simp at hj; omega
      simp [List.getD, this]

/-- A place's order among others. -/
def ordR : List Nat → DataW Unit | [] => .map [] | p :: l => (ordR l).put (.int .i64 p) (.lit (.int .i64 l.length))
def ordD (L : List Nat) : DataW Unit := ordR L.reverse
theorem ordD_snoc (L : List Nat) (p : Nat) : ordD (L ++ [p]) = (ordD L).put (.int .i64 p) (.lit (.int .i64 L.length)) := by simp [ordD, ordR]
theorem isMap_ordR : ∀ l, IsMap (ordR l) | [] => isMap_empty | _ :: l => (isMap_ordR l).put _ _
theorem key_i (p : Nat) : WideAt.IsKeyLit (.int .i64 p) := by first | trivial | exact rfl | simp [WideAt.IsKeyLit]
theorem key_ne {a b : Int} (h : a ≠ b) : (Lit.int .i64 a) ≠ (Lit.int .i64 b) := by simpa using h
theorem has_ordR (p : Nat) : ∀ l, Maps.has (ordR l) (.int .i64 p) = decide (p ∈ l)
  | [] => by simp [ordR, Maps.has]
  | q :: l => by
    by_cases e : p = q
    · subst e; rw [ordR, has_put_same (isMap_ordR l) (key_i _)]; simp
    · rw [ordR, has_put_other (key_ne (by omega)), has_ordR p l]; simp [e]
theorem has_ordD (L : List Nat) (p : Nat) : Maps.has (ordD L) (.int .i64 p) = decide (p ∈ L) := by simp [ordD, has_ordR]
theorem at_ordR (p : Nat) (z : DataW Unit) : ∀ l, l.Nodup → (ordR l).atKey (.int .i64 p) z = if p ∈ l then .lit (.int .i64 (l.reverse.idxOf p : Nat)) else z
  | [], _ => by simp [ordR, DataW.atKey]
  | q :: l, hn => by
    rw [List.nodup_cons] at hn
    by_cases e : p = q
    · subst e
      rw [ordR, atKey_put_same (isMap_ordR l) (key_i _)]
      simp [List.idxOf_append, hn.1]
    · rw [ordR, atKey_put_other (key_ne (by omega)), at_ordR p z l hn.2]
      by_cases hp : p ∈ l
      · simp [hp, List.idxOf_append]
      · simp [hp, e]
theorem at_ordD {L : List Nat} (h : L.Nodup) (p : Nat) (z : DataW Unit) : (ordD L).atKey (.int .i64 p) z = if p ∈ L then .lit (.int .i64 (L.idxOf p : Nat)) else z := by
  have := at_ordR p z L.reverse (by unfold List.Nodup; rw [List.pairwise_reverse]; exact h.imp (fun h => Ne.symm h))
  simpa [ordD] using this
end Go.Proofs.Ytiomemdmhcdpbaa

namespace Go.Proofs.Ytiomemdmhcdpbaa
open Go.RowKit Go.Maps

/-- Places named otherwise: nothing stays nothing; on S no two places have one name. -/
structure Names (f : Nat → Nat) (S : Nat → Prop) : Prop where
  zero : f 0 = 0
  pos : ∀ x, S x → x ≠ 0 ∧ f x ≠ 0
  inj : ∀ x y, S x → S y → f x = f y → x = y
theorem Names.mem {f : Nat → Nat} {S : Nat → Prop} (h : Names f S) {L : List Nat} (hL : ∀ x ∈ L, S x) {p : Nat} (hp : S p) : f p ∈ L.map f ↔ p ∈ L := by
  rw [List.mem_map]
  constructor
  · rintro ⟨y, hy, e⟩
    rw [← h.inj _ _ (hL y hy) hp e]; exact hy
  · intro h; exact ⟨p, h, rfl⟩
theorem Names.addTo {f : Nat → Nat} {S : Nat → Prop} (h : Names f S) {L : List Nat} (hL : ∀ x ∈ L, S x) {p : Nat} (hp : p = 0 ∨ S p) : addTo (L.map f) (f p) = (addTo L p).map f ∧ ∀ x ∈ Go.Proofs.Ytiomemdmhcdpbaa.addTo L p, S x := by
  rcases hp with rfl | hp
  · rw [h.zero]
    exact ⟨by simp [Go.Proofs.Ytiomemdmhcdpbaa.addTo], by simpa [Go.Proofs.Ytiomemdmhcdpbaa.addTo] using hL⟩
  · obtain ⟨p0, f0⟩ := h.pos p hp
    unfold Go.Proofs.Ytiomemdmhcdpbaa.addTo
    by_cases hm : p ∈ L
    · rw [if_pos (.inr ((h.mem hL hp).2 hm)), if_pos (.inr hm)]
      exact ⟨rfl, hL⟩
    · rw [if_neg (by rw [not_or]; exact ⟨f0, fun e => hm ((h.mem hL hp).1 e)⟩), if_neg (by rw [not_or]; exact ⟨p0, hm⟩)]
      refine ⟨by simp, fun x hx => ?_⟩
      rcases List.mem_append.1 hx with hx | hx
      · exact hL x hx
      · simp at hx; subst hx; exact hp
theorem Names.addAll {f : Nat → Nat} {S : Nat → Prop} (h : Names f S) : ∀ (ps L : List Nat), (∀ x ∈ L, S x) → (∀ x ∈ ps, x = 0 ∨ S x) → addAll (L.map f) (ps.map f) = (addAll L ps).map f ∧ ∀ x ∈ Go.Proofs.Ytiomemdmhcdpbaa.addAll L ps, S x
  | [], L, hL, _ => ⟨rfl, hL⟩
  | p :: ps, L, hL, hp => by
    obtain ⟨h1, h2⟩ := h.addTo hL (hp p (by simp))
    rw [List.map_cons, addAll_cons, h1, addAll_cons]
    exact h.addAll ps _ h2 (fun x hx => hp x (by simp [hx]))
theorem Names.bfs {f : Nat → Nat} {S : Nat → Prop} (h : Names f S) {str str' : Nat → List Nat} (hs : ∀ x, S x → str' (f x) = (str x).map f ∧ ∀ q ∈ str x, q = 0 ∨ S q) {L : List Nat} {i : Nat} {R : List Nat} (hb : Bfs str L i R) (hL : ∀ x ∈ L, S x) :
    Bfs str' (L.map f) i (R.map f) ∧ ∀ x ∈ R, S x := by
  induction hb with
  | done hl => exact ⟨.done (by simpa using hl), hL⟩
  | @step L i R hi _ ih =>
    have hx : S (L.getD i 0) := hL _ (by simp [List.getD, hi])
    obtain ⟨e1, e2⟩ := hs _ hx
    obtain ⟨e3, e4⟩ := h.addAll _ L hL e2
    obtain ⟨h1, h2⟩ := ih e4
    refine ⟨.step (by simpa using hi) ?_, h2⟩
    have e5 : (L.map f).getD i 0 = f (L.getD i 0) := by simp [List.getD, hi]
    rw [e5, e1, e3]
    exact h1
theorem Names.idx {f : Nat → Nat} {S : Nat → Prop} (h : Names f S) : ∀ (R : List Nat), (∀ x ∈ R, S x) → ∀ p, S p → (R.map f).idxOf (f p) = R.idxOf p
  | [], _, _, _ => rfl
  | a :: R, hR, p, hp => by
    rw [List.map_cons, List.idxOf_cons, List.idxOf_cons, h.idx R (fun x hx => hR x (by simp [hx])) p hp]
    by_cases e : a = p
    · subst e; simp only [beq_self_eq_true]
    · have h1 : (f a == f p) = false := beq_eq_false_iff_ne.2 (fun e2 => e (h.inj _ _ (hR a (by simp)) hp e2))
      have h2 : (a == p) = false := beq_eq_false_iff_ne.2 e
      rw [h1, h2]

end Go.Proofs.Ytiomemdmhcdpbaa

namespace Go.Proofs.Ytiomemdmhcdpbaa
open Go.RowKit Go.Shelf

/-- The block in which a row lies is b. -/
def InB (v : Value) (b : Nat) : Prop := v.ownBlock = some b
theorem InB.nil (b : Nat) : ¬ InB (.slice none 0 0) b := by simp [InB, Value.ownBlock]
theorem InB.mk {g n c b : Nat} : InB (.slice (some ⟨g, 0, none⟩) n c) b ↔ b = g := by simp [InB, Value.ownBlock, eq_comm]
theorem InB.mk1 {g n c b : Nat} (h : InB (.slice (some ⟨g, 0, none⟩) n c) b) : b = g := InB.mk.1 h
theorem ORow.lt {w : World} {base : Nat} {v : Value} {l : List Int} (h : ORow w base v l) {b : Nat} (hb : InB v b) : base ≤ b ∧ b < w.heap.size := World.ownsRow.lt h b hb
theorem ORow.frB {S : Nat → Prop} {w w' : World} {base : Nat} {v : Value} {l : List Int} (h : ORow w base v l) (f : Fr S w w') (hs : ∀ b, InB v b → ¬ S b) : ORow w' base v l := by
  refine ⟨h.1, ?_⟩
  rcases h.2 with hn | ⟨g, cap, cur, hv, hb, hgg, rest⟩
  · exact .inl hn
  · exact .inr ⟨g, cap, cur, hv, hb, f.heapAt hgg (hs _ (by rw [hv]; rfl)), rest⟩
/-- A row known by its block may be said to lie from its block on. -/
theorem ORow.base {w : World} {base base' : Nat} {v : Value} {l : List Int} (h : ORow w base v l) (hb : ∀ b, InB v b → base' ≤ b) : ORow w base' v l := by
  refine ⟨h.1, ?_⟩
  rcases h.2 with hn | ⟨g, cap, cur, hv, hb', rest⟩
  · exact .inl hn
  · exact .inr ⟨g, cap, cur, hv, hb _ (by rw [hv]; rfl), rest⟩
/-- The element k of a row. -/
theorem ORow.get {w : World} {base : Nat} {v : Value} {l : List Int} (h : ORow w base v l) {k : Nat} (hk : k < l.length) : ∃ g c, v = .slice (some ⟨g, 0, none⟩) l.length c ∧ base ≤ g ∧ Own w g k (.int .i64 (l.getD k 0)) := by
  obtain ⟨hl, ⟨_, h0⟩ | ⟨g, cap, cur, rfl, hb, hg, hn, hcm, hcur, hx⟩⟩ := h
  · omega
  · refine ⟨g, cap, rfl, hb, ?_, ?_⟩
    · have h2 : cur.toList[k]? = (iVs l)[k]? := by rw [← hx, List.getElem?_take]; simp; omega
      have : w.cell? ⟨g, k, none⟩ = cur[k]? := by simp [World.cell?, hg]
      rw [this, ← Array.getElem?_toList, h2]; simp [hk]
    · simp [World.frozen?, hg]
/-- An element is written. -/
theorem ORow.set {w : World} {base : Nat} {l : List Int} {g n c : Nat} (h : ORow w base (.slice (some ⟨g, 0, none⟩) n c) l) {k : Nat} (hk : k < l.length) (y : Int) : ORow (w.setCell ⟨g, k, none⟩ (.int .i64 y)) base (.slice (some ⟨g, 0, none⟩) n c) (l.set k y) := by
  obtain ⟨hl, ⟨h1, h0⟩ | ⟨g', cap, cur, hv, hb, hg, hn, hcm, hcur, hx⟩⟩ := h
  · cases h1
  · cases hv
    refine ⟨by simp, .inr ⟨g, c, cur.set! k (.int .i64 y), by simp, hb, ?_, by simpa using hn, hcm, by simpa using hcur, ?_⟩⟩
    · have hlt : g < w.heap.size := (Array.getElem?_eq_some_iff.1 hg).1
      rw [heap_setCell_same _ _ _ _ _ _ hg]; simp
    · have hc : k < cur.size := by rw [hcur]; omega
      simp only [Array.set!_eq_setIfInBounds, Array.toList_setIfInBounds, List.length_set, iVs, List.map_set]
      have hx' := hx
      simp only [iVs] at hx'
      rw [List.take_set, hx']

theorem Own.calm {w w' : World} {b i : Nat} {v : Value} (h : Own w b i v) (f : Calm w w') : Own w' b i v := h.fr f id

theorem fr_of_grown1 {w w' : World} {v : Value} {o : Obj} (hg : (w.alloc o).grownBy w' v.ownBlock) : Fr (InB v) w w' :=
  Fr.grown (Fr.alloc (Fr.refl _ _) _) hg (fun k hk => .inl hk)

theorem wpList_app1 {ops : Array Oper} {rest : List Oper} {o : Oper} {a : Act} {Q : Exit → Act → World → Prop} {w : World} (hgd : o.guard = none) (s x : Operand)
    (ho : o.op = .call { callee := .builtin .append, args := #[s, x], argTypes := #[23, 23] })
    (base : Nat) (v : Value) (l : List Int) (hown : ORow w base v l) (hs : a.eval s = v) (y : Int) (hx : a.eval x = .slice (some ⟨w.heap.size, 0, none⟩) 1 1) (hl : l.length ≤ 1000000) (hbase : base ≤ w.heap.size)
    (h : ∀ g c w', ORow w' base (.slice (some ⟨g, 0, none⟩) (l.length + 1) c) (l ++ [y]) → Fr (InB v) w w' → (InB v g ∨ w.heap.size ≤ g) → wpList Try.prog ops Q rest (a.put o.dst (.slice (some ⟨g, 0, none⟩) (l.length + 1) c)) w') :
    wpList Try.prog ops Q (o :: rest) a (w.alloc (.cells #[.int .i64 y] 3)) := by
  obtain ⟨i0, hi, hz0, hz1, hz2⟩ := info_parts info_int
  refine wpList_append_own_at _ hgd s x 23 ho base 3 i0 (.int .i64 0) 1 8 Try.underlying23 hi hz0 hz1 hz2 rfl (by decide) v l.length (iVs l) hs (World.ownsRow.alloc hown _) ⟨w.heap.size, 0, none⟩ 1 1 [.int .i64 y] hx rfl (cell_one_new _ _ _) (by simp [Value.oneCell']) (by unfold maxLen; omega) (by omega) (by simp; omega) ?_
  intro v' w' hown' hgrow _ hloc
  obtain ⟨g, c, rfl⟩ := ownsRow_succ hown'
  refine h g c w' ?_ (fr_of_grown1 hgrow) ?_
  · show World.ownsRow _ _ _ _ _ _ _
    rw [List.length_append, iVs, List.map_append]
    exact hown'
  · rcases hloc with hloc | hloc
    · exact .inl (hloc.symm.trans rfl)
    · right; simp [Value.ownBlock] at hloc; omega

theorem wpList_app1b {ops : Array Oper} {rest : List Oper} {o : Oper} {a : Act} {Q : Exit → Act → World → Prop} {w : World} (hgd : o.guard = none) (s x : Operand)
    (ho : o.op = .call { callee := .builtin .append, args := #[s, x], argTypes := #[23, 23] })
    (base : Nat) (v : Value) (l : List Int) (hown : ORow w base v l) (hs : a.eval s = v) (y : Int) (nb : Nat) (hx : a.eval x = .slice (some ⟨nb, 0, none⟩) 1 1) (hnb : nb = w.heap.size) (hl : l.length ≤ 1000000) (hbase : base ≤ w.heap.size)
    (h : ∀ g c w', ORow w' base (.slice (some ⟨g, 0, none⟩) (l.length + 1) c) (l ++ [y]) → Fr (InB v) w w' → (InB v g ∨ w.heap.size ≤ g) → wpList Try.prog ops Q rest (a.put o.dst (.slice (some ⟨g, 0, none⟩) (l.length + 1) c)) w') :
    wpList Try.prog ops Q (o :: rest) a (w.alloc (.cells #[.int .i64 y] 3)) := by
  subst hnb
  exact wpList_app1 hgd s x ho base v l hown hs y hx hl hbase h

theorem wpListIn_app1 {F : Fence} {nF : Nat} {ops : Array Oper} {rest : List Oper} {o : Oper} {a : Act} {Q : Exit → Act → World → Prop} {w : World} (hgd : o.guard = none) (s x : Operand)
    (ho : o.op = .call { callee := .builtin .append, args := #[s, x], argTypes := #[23, 23] })
    (base : Nat) (v : Value) (l : List Int) (hown : ORow w base v l) (hs : a.eval s = v) (y : Int) (hx : a.eval x = .slice (some ⟨w.heap.size, 0, none⟩) 1 1) (hl : l.length ≤ 1000000) (hbase : base ≤ w.heap.size)
    (h : ∀ g c w', ORow w' base (.slice (some ⟨g, 0, none⟩) (l.length + 1) c) (l ++ [y]) → Fr (InB v) w w' → (InB v g ∨ w.heap.size ≤ g) → wpListIn F nF Try.prog ops Q rest (a.put o.dst (.slice (some ⟨g, 0, none⟩) (l.length + 1) c)) w') :
    wpListIn F nF Try.prog ops Q (o :: rest) a (w.alloc (.cells #[.int .i64 y] 3)) := by
  obtain ⟨i0, hi, hz0, hz1, hz2⟩ := info_parts info_int
  refine wpListIn_append_own_at _ hgd s x 23 ho base 3 i0 (.int .i64 0) 1 8 Try.underlying23 hi hz0 hz1 hz2 rfl (by decide) v l.length (iVs l) hs (World.ownsRow.alloc hown _) ⟨w.heap.size, 0, none⟩ 1 1 [.int .i64 y] hx rfl (cell_one_new _ _ _) (by simp [Value.oneCell']) (by unfold maxLen; omega) (by omega) (by simp; omega) ?_
  intro v' w' hown' hgrow _ hloc
  obtain ⟨g, c, rfl⟩ := ownsRow_succ hown'
  refine h g c w' ?_ (fr_of_grown1 hgrow) ?_
  · show World.ownsRow _ _ _ _ _ _ _
    rw [List.length_append, iVs, List.map_append]
    exact hown'
  · rcases hloc with hloc | hloc
    · exact .inl (hloc.symm.trans rfl)
    · right; simp [Value.ownBlock] at hloc; omega

end Go.Proofs.Ytiomemdmhcdpbaa

namespace Go.Proofs.Ytiomemdmhcdpbaa
open Go.RowKit Go.Shelf

theorem ORow.lit (w : World) (base : Nat) (l : List Int) (hb : base ≤ w.heap.size) (hl : l.length ≤ 1000000) : ORow (w.alloc (.cells (iVs l).toArray 3)) base (.slice (some ⟨w.heap.size, 0, none⟩) l.length l.length) l :=
  ⟨by simp, .inr ⟨w.heap.size, l.length, (iVs l).toArray, rfl, hb, World.alloc_heap_new w _, Nat.le_refl _, by unfold maxLen; omega, by simp, List.take_of_length_le (by simp)⟩⟩

theorem run_app_none {w : World} {base : Nat} {v : Value} {l : List Int} (hown : ORow w base v l) (ty : TypeId) (c : Nat) : (Builtin.append_ #[23, 23] ty #[v, .slice none 0 c]).run Try.prog w = .ok v w := by
  obtain ⟨i0, hi, hz0, hz1, hz2⟩ := info_parts info_int
  rcases hown.2 with ⟨rfl, _⟩ | ⟨g, cap, cur, rfl, _, _, hn, _⟩
  · simp [Builtin.append_, run_underlying Try.underlying23, sizeOf, typeInfo, hi, Builtin.lenOf, Builtin.firstCells]
  · simp [Builtin.append_, run_underlying Try.underlying23, sizeOf, typeInfo, hi, Builtin.lenOf, Builtin.firstCells, hn, storeCells]

theorem wpList_appL {ops : Array Oper} {rest : List Oper} {o : Oper} {a : Act} {Q : Exit → Act → World → Prop} {w : World} (hgd : o.guard = none) (s x : Operand)
    (ho : o.op = .call { callee := .builtin .append, args := #[s, x], argTypes := #[23, 23] })
    (base : Nat) (v : Value) (l : List Int) (hown : ORow w base v l) (hs : a.eval s = v) (u : Value) (r : List Int) (hr : Row w u (iVs r)) (hx : a.eval x = u) (hl : l.length + r.length ≤ 1000000) (hbase : base ≤ w.heap.size)
    (h : ∀ v' w', ORow w' base v' (l ++ r) → Fr (InB v) w w' → (∀ b, InB v' b → InB v b ∨ w.heap.size ≤ b) → wpList Try.prog ops Q rest (a.put o.dst v') w') :
    wpList Try.prog ops Q (o :: rest) a w := by
  obtain ⟨A, c, rfl, hA⟩ := hr
  have hlen : (iVs r).length = r.length := by simp
  rw [hlen] at hx
  rcases A with _ | ad
  · obtain rfl : r = [] := by
      rcases hA with hA | ⟨b, off, hb, _⟩
      · simpa using hA
      · cases hb
    refine wpList_plain hgd fun K hK => ?_
    have hrun := run_app_none hown o.type c
    unfold Oper.wp execOp
    simp only [ho, resolve, invoke, builtin, Sem.run_bind, Sem.run_pure, Result.andThen_ok, List.map_toArray, List.map_cons, List.map_nil, hs, hx, List.length_nil, hrun]
    exact hK _ _ (h v w (by simpa using hown) (Fr.refl _ _) (fun b hb => .inl hb))
  · obtain ⟨i0, hi, hz0, hz1, hz2⟩ := info_parts info_int
    refine wpList_append_own_at _ hgd s x 23 ho base 3 i0 (.int .i64 0) 1 8 Try.underlying23 hi hz0 hz1 hz2 rfl (by decide) v l.length (iVs l) hs hown ad r.length c (iVs r) hx (by simp) ?_ (by simp [Value.oneCell']) (by unfold maxLen; omega) (by omega) hbase ?_
    · intro j y hj
      have hjl : j < (iVs r).length := (List.getElem?_eq_some_iff.1 hj).1
      rcases hA with hA | ⟨b, off, hb, hc⟩
      · rw [hA] at hjl; simp at hjl
      · cases hb
        rw [addr_at, hc j hjl]
        rw [List.getElem?_eq_getElem hjl] at hj
        exact hj
    · intro v' w' hown' hgrow _ hloc
      refine h v' w' ?_ (Fr.grown (Fr.refl _ _) hgrow (fun k hk => .inl hk)) ?_
      · show World.ownsRow _ _ _ _ _ _ _
        rw [List.length_append, iVs, List.map_append]
        exact hown'
      · intro b hb
        rcases hloc with hloc | hloc
        · exact .inl (hloc.symm.trans hb)
        · right
          have : some w.heap.size = some b := hloc.symm.trans hb
          injection this with this; omega

end Go.Proofs.Ytiomemdmhcdpbaa

namespace Go.Proofs.Ytiomemdmhcdpbaa
open Go.RowKit Go.Shelf Go.Maps

/-- The map of the orders of L. -/
def OMap (w : World) (m : Nat) (L : List Nat) : Prop := w.ownsMap (H := Unit) Try.prog 3 (plainElem Try.prog 3) m L.length (ordD L)
theorem mlaw : Keyed Try.prog 3 := int_keyed Try.underlying3
theorem zero_i (w : World) : (zeroValue 3).run Try.prog w = .ok (.int .i64 0) w := by kernel_rfl
theorem key_of {n : Int} (h : I64 n) : keyOf Try.prog 3 (.int .i64 n) = some (.int .i64 n) := keyOf_int_mk Try.underlying3 (WalkArith.wf_i64 (by omega))
theorem OMap.fr {S : Nat → Prop} {w w' : World} {m : Nat} {L : List Nat} (h : OMap w m L) (f : Fr S w w') (hs : ¬ S m) : OMap w' m L := by
  obtain ⟨es, clock, hb, r⟩ := h
  exact ⟨es, clock, f.heapAt hb hs, r⟩
theorem OMap.lt {w : World} {m : Nat} {L : List Nat} (h : OMap w m L) : m < w.heap.size := World.ownsMap.lt h

theorem wpList_look_yes {ops : Array Oper} {rest : List Oper} {o : Oper} {a : Act} {Q : Exit → Act → World → Prop} {w : World} (hg : o.guard = none) (m x : Operand) (hop : o.op = Op.lookup 139 m x true)
    (b : Nat) (L : List Nat) (hn : L.Nodup) (hm : a.eval m = .map (some b)) (hown : OMap w b L) (q : Nat) (hq : q ≤ 1000000) (hx : a.eval x = .int .i64 q) (hi : q ∈ L)
    (h : wpList Try.prog ops Q rest (a.put o.dst (.tuple #[.int .i64 (L.idxOf q : Nat), .bool true])) w) : wpList Try.prog ops Q (o :: rest) a w := by
  refine wpList_lookup_own_ok_int w hg m x _ hop 3 3 .i64 mlaw Try.underlying139 Try.underlying3 (zero_i w) b _ _ hm hown _ (.int .i64 q) hx (key_of ⟨by omega, by omega⟩) ?_
  intro c hc hw
  rw [at_ordD hn, if_pos hi] at hc
  rw [has_ordD]
  simp [hi]
  have : c = (L.idxOf q : Nat) := by simpa using hc.symm
  rw [this]; exact h
theorem wpList_look_no {ops : Array Oper} {rest : List Oper} {o : Oper} {a : Act} {Q : Exit → Act → World → Prop} {w : World} (hg : o.guard = none) (m x : Operand) (hop : o.op = Op.lookup 139 m x true)
    (b : Nat) (L : List Nat) (hn : L.Nodup) (hm : a.eval m = .map (some b)) (hown : OMap w b L) (q : Nat) (hq : q ≤ 1000000) (hx : a.eval x = .int .i64 q) (hi : q ∉ L)
    (h : wpList Try.prog ops Q rest (a.put o.dst (.tuple #[.int .i64 0, .bool false])) w) : wpList Try.prog ops Q (o :: rest) a w := by
  refine wpList_lookup_own_ok_int w hg m x _ hop 3 3 .i64 mlaw Try.underlying139 Try.underlying3 (zero_i w) b _ _ hm hown _ (.int .i64 q) hx (key_of ⟨by omega, by omega⟩) ?_
  intro c hc hw
  rw [at_ordD hn, if_neg hi] at hc
  rw [has_ordD]
  simp [hi]
  have : c = 0 := by simpa using hc.symm
  rw [this]; exact h
theorem wpList_omap_put {ops : Array Oper} {rest : List Oper} {o : Oper} {a : Act} {Q : Exit → Act → World → Prop} {w : World} (hg : o.guard = none) (m x v : Operand) (hop : o.op = Op.mapUpdate 139 m x v)
    (b : Nat) (L : List Nat) (hm : a.eval m = .map (some b)) (hown : OMap w b L) (hl : L.length ≤ 1000000) (q : Nat) (hq : q ≤ 1000000) (hx : a.eval x = .int .i64 q) (hv : a.eval v = .int .i64 L.length)
    (h : ∀ w', OMap w' b (L ++ [q]) → Fr (fun k => k = b) w w' → wpList Try.prog ops Q rest (a.put o.dst undef) w') : wpList Try.prog ops Q (o :: rest) a w := by
  refine wpList_mapUpdate_own w hg m x v _ hop 3 3 mlaw Try.underlying139 _ b _ _ hm hown (by unfold maxLen; omega) _ _ (.int .i64 q) hx hv (key_of ⟨by omega, by omega⟩) _ [] (plainElem_int Try.underlying3 (WalkArith.wf_i64 (by omega))) ?_
  intro w' h1 h2
  refine h w' ?_ (Fr.grown (Fr.refl _ _) h2 (fun k hk => .inl (by simpa using hk.symm)))
  unfold OMap
  rw [ordD_snoc, List.length_append]
  exact h1

/-- What one has come to: the struct's block p, its map's block m, its places' slice v, the places. -/
structure Cm (w : World) (p m : Nat) (v : Value) (L : List Nat) : Prop where
  places : Own w p 0 v
  order : Own w p 1 (.map (some m))
  row : ORow w 0 v (nI L)
  map : OMap w m L
  ap : ¬ InB v p
  am : ¬ InB v m
  mp : m ≠ p
  nodup : L.Nodup
theorem Cm.fr {S : Nat → Prop} {w w' : World} {p m : Nat} {v : Value} {L : List Nat} (h : Cm w p m v L) (f : Fr S w w') (h1 : ¬ S p) (h2 : ¬ S m) (h3 : ∀ b, InB v b → ¬ S b) : Cm w' p m v L :=
  ⟨h.places.fr f h1, h.order.fr f h1, h.row.frB f h3, h.map.fr f h2, h.ap, h.am, h.mp, h.nodup⟩
theorem Cm.calm {w w' : World} {p m : Nat} {v : Value} {L : List Nat} (h : Cm w p m v L) (f : Calm w w') : Cm w' p m v L := h.fr f id id (fun _ _ => id)
/-- The blocks of it. -/
def CmB (p m : Nat) (v : Value) (b : Nat) : Prop := b = p ∨ b = m ∨ InB v b

def ToPost (w : World) (p m : Nat) (v : Value) (L : List Nat) (q : Nat) (e : Ending) (w' : World) : Prop :=
  e = .returned (.tuple #[]) ∧ ∃ v', Cm w' p m v' (addTo L q) ∧ Fr (CmB p m v) w w' ∧ ∀ b, InB v' b → InB v b ∨ w.heap.size ≤ b

set_option maxHeartbeats 1000000 in
theorem to_is {w : World} {p m : Nat} {v : Value} {L : List Nat} (h : Cm w p m v L) (q : Nat) (hq : q ≤ 131072) (hl : L.length ≤ 100000) :
    Calls Try.prog 112 #[.pointer (some ⟨p, 0, none⟩), .int .i64 q] w (ToPost w p m v L q) := by
  have H := hid h
  have hlt := h.map.lt
  have hlp := h.places.lt
  have p0 := h.places.1
  have p0' := h.places.2
  have p1 := h.order.1
  obtain ⟨sa, sn, sc, rfl⟩ := h.row.letters
  have hm := hid h.map
  have hn := hid h.nodup
  have hr := hid h.row
  clear h
  by_cases h0 : q = 0
  · subst h0
    have hadd : Hid (addTo L 0 = L) := by show addTo L 0 = L; simp [addTo]
    go_enter Try.func112, Try.ntmps112
    go_wp2
    refine bodyPost_ret (v := .tuple #[]) (by simp [results, Try.f112, go_sem]) rfl ⟨rfl, _, by rw [hadd.out]; exact H.out, Fr.refl _ _, fun b hb => .inl hb⟩
  have hq0 : ((q : Int) == 0) = false := by simp; omega
  by_cases hi : q ∈ L
  · have hadd : Hid (addTo L q = L) := by show addTo L q = L; simp [addTo, hi]
    replace hi := hid hi
    clear h0
    go_enter Try.func112, Try.ntmps112
    go_wp2_with (at_lookup; refine wpList_look_yes rfl _ _ rfl m L hn.out rfl hm.out q (by omega) rfl hi.out ?_)
    refine bodyPost_ret (v := .tuple #[]) (by simp [results, Try.f112, go_sem]) rfl ⟨rfl, _, by rw [hadd.out]; exact H.out, Fr.refl _ _, fun b hb => .inl hb⟩
  · have hadd : Hid (addTo L q = L ++ [q]) := by show addTo L q = L ++ [q]; simp [addTo, hi, h0]
    replace hi := hid hi
    clear h0
    obtain rfl : sn = L.length := by have := hr.out.slice; obtain ⟨_, _, e⟩ := this; injection e with e1 e2 e3; simpa using e2
    have q0 : ∀ x : Later w, x.w.cell? ⟨p, 0, none⟩ = some (.slice sa L.length sc) := fun x => x.cell p0
    have q1 : ∀ x : Later w, x.w.cell? ⟨p, 0 + 1, none⟩ = some (.map (some m)) := fun x => x.cell p1
    go_enter Try.func112, Try.ntmps112
    go_wp2_with (at_lookup; refine wpList_look_no rfl _ _ rfl m L hn.out rfl hm.out q (by omega) rfl hi.out ?_)
    refine wp_region_calm_tail 10 (by kernel_rfl) (by kernel_rfl) ?_
    simp only [List.take_succ_cons, List.take_zero, List.drop_succ_cons, List.drop_zero]
    repeat (go_big_quiet_step (fail))
    refine wpQuiet_nil ?_
    intro w2 hw'
    have c2 := Later.out hw'
    clear hw' q0 q1 p0 p0' p1
    refine wpList_omap_put rfl _ _ _ rfl m L rfl (hm.out.fr c2 id) (by omega) q (by omega) rfl rfl ?_
    intro w3 hm3 f3
    have hmp := H.out.mp
    have hap := H.out.ap
    have ham := H.out.am
    have o3 := ((H.out.places.calm c2).fr f3 (by omega))
    have r3 := (hr.out.calm c2).frB f3 (by rintro b hb rfl; exact ham hb)
    have k3 : Fr (CmB p m (.slice sa L.length sc)) w w3 := (Calm.any c2).trans (f3.mono (fun k _ hk => .inr (.inl hk)))
    have u0 := o3.1
    have u1 := o3.2
    replace hap := hid hap
    replace ham := hid ham
    replace hmp := hid hmp
    replace f3 := hid f3
    replace hm3 := hid hm3
    replace r3 := hid r3
    replace k3 := hid k3
    have p1' := H.out.order.2
    replace H := H.out.order.1
    go_wp2_with (at_builtin; refine wpList_app1 rfl _ _ rfl 0 _ _ r3.out rfl q rfl (by simp; omega) (Nat.zero_le _) ?_; intro g c w4 hr4 f4 hg; have v0 := (o3.fr f4 hap.out).1; have v1 := (o3.fr f4 hap.out).2; replace f4 := hid f4; replace hr4 := hid hr4)
    have k4 := k3.out.trans (f4.out.mono (fun k _ hk => .inr (.inr hk)))
    have hgp : p ≠ g := by
      rcases hg with hg | hg
      · rintro rfl; exact hap.out hg
      · have := k3.out.size; omega
    have hgm : m ≠ g := by
      rcases hg with hg | hg
      · rintro rfl; exact ham.out hg
      · have := k3.out.size; omega
    refine bodyPost_end (by simp [results, Try.f112, go_sem]) rfl ⟨rfl, .slice (some ⟨g, 0, none⟩) (L.length + 1) c, ?_, k4.setCell (.inl (.inl rfl)) _, ?_⟩
    · rw [hadd.out]
      have fs : Fr (fun b => b = p) w4 (w4.setCell ⟨p, 0, none⟩ (.slice (some ⟨g, 0, none⟩) (L.length + 1) c)) := (Fr.refl (fun b => b = p) w4).setCell (p := ⟨p, 0, none⟩) (.inl rfl) _
      refine ⟨Own.set ⟨v0, v1⟩ _, ?_, ?_, ?_, ?_, ?_, hmp.out, ?_⟩
      · have h1 : Own w p 1 (.map (some m)) := ⟨H, p1'⟩
        exact (((h1.calm c2).fr f3.out (by simpa using Ne.symm hmp.out)).fr f4.out hap.out).other _ _ (.inr (by simp))
      · have := hr4.out
        simp only [List.length_map] at this
        rw [show nI (L ++ [q]) = nI L ++ [(q : Int)] by simp]
        exact this.frB fs (by intro b hb; rw [InB.mk1 hb]; exact fun h => hgp h.symm)
      · exact (hm3.out.fr f4.out ham.out).fr fs (by simpa using hmp.out)
      · intro h; exact hgp (InB.mk1 h)
      · intro h; exact hgm (InB.mk1 h)
      · rw [← hadd.out]; exact addTo_nodup hn.out q
    · intro b hb
      obtain rfl := InB.mk1 hb
      rcases hg with hg | hg
      · exact .inl hg
      · right; have := k3.out.size; omega


/-- Where a place stands: the number that index tells. -/
def ixOf (L : List Nat) (q : Nat) : Int := if q = 0 then -1 else if q ∈ L then (L.idxOf q : Nat) else -2

set_option maxHeartbeats 1000000 in
theorem index_is {w : World} {p m : Nat} {v : Value} {L : List Nat} (h : Cm w p m v L) (q : Nat) (hq : q ≤ 131072) :
    Calls Try.prog 99 #[.pointer (some ⟨p, 0, none⟩), .int .i64 q] w fun e w' => e = .returned (.int .i64 (ixOf L q)) ∧ w = w' := by
  have p1 := h.order.1
  have hm := hid h.map
  have hn := hid h.nodup
  clear h
  by_cases h0 : q = 0
  · subst h0
    have hx : Hid (ixOf L 0 = -1) := by show ixOf L 0 = -1; simp [ixOf]
    go_enter Try.func99, Try.ntmps99
    go_wp2
    go_ret
    exact ⟨by rw [hx.out]; rfl, rfl⟩
  have hq0 : ((q : Int) == 0) = false := by simp; omega
  by_cases hi : q ∈ L
  · have hx : Hid (ixOf L q = (L.idxOf q : Nat)) := by show ixOf L q = _; simp [ixOf, hi, h0]
    replace hi := hid hi
    clear h0
    go_enter Try.func99, Try.ntmps99
    go_wp2_with (at_lookup; refine wpList_look_yes rfl _ _ rfl m L hn.out rfl hm.out q (by omega) rfl hi.out ?_)
    go_ret
    exact ⟨by rw [hx.out]; rfl, rfl⟩
  · have hx : Hid (ixOf L q = -2) := by show ixOf L q = _; simp [ixOf, hi, h0]
    replace hi := hid hi
    clear h0
    go_enter Try.func99, Try.ntmps99
    go_wp2_with (at_lookup; refine wpList_look_no rfl _ _ rfl m L hn.out rfl hm.out q (by omega) rfl hi.out ?_)
    go_ret
    exact ⟨by rw [hx.out]; rfl, rfl⟩

end Go.Proofs.Ytiomemdmhcdpbaa

namespace Go.Proofs.Ytiomemdmhcdpbaa
open Go.RowKit Go.Shelf Go.Maps

theorem nodup_length : ∀ {L U : List Nat}, L.Nodup → (∀ x ∈ L, x ∈ U) → L.length ≤ U.length
  | [], U, _, _ => Nat.zero_le _
  | a :: L, U, hn, hs => by
    rw [List.nodup_cons] at hn
    have h1 := nodup_length (L := L) (U := U.erase a) hn.2 (fun x hx => (List.mem_erase_of_ne (by rintro rfl; exact hn.1 hx)).2 (hs x (by simp [hx])))
    have h2 : a ∈ U := hs a (by simp)
    rw [List.length_erase_of_mem h2] at h1
    have := List.length_pos_of_mem h2
    simp only [List.length_cons]; omega

/-- The objects of a heap: at each place of U one; their strong pointers lead to nothing or into U. -/
structure Objs (xs : List Nat) (U : List Nat) (obj : Nat → Ob) : Prop where
  at_ : ∀ x ∈ U, At xs x (obj x)
  str : ∀ x ∈ U, ∀ q ∈ (obj x).strong, q ≠ 0 → q ∈ U
  le : ∀ x ∈ U, x ≤ 131072
  len : U.length ≤ 100000
abbrev strs (obj : Nat → Ob) (x : Nat) : List Nat := (obj x).strong
theorem Ob.strong_bound {o : Ob} (h : o.Ok) : ∀ x ∈ o.strong, x ≤ 131072 := by
  unfold Ob.strong; split
  · simp
  · exact h.ps

/-- A slice's elements, opened for a loop. -/
theorem Row.loop {w : World} {v : Value} {l : List Int} (h : Row w v (iVs l)) : ∃ a c, v = .slice a l.length c ∧ ∀ k, k < l.length → ∃ b off, a = some ⟨b, off, none⟩ ∧ b < w.heap.size ∧ w.cell? ⟨b, off + k, none⟩ = some (.int .i64 (l.getD k 0)) := by
  obtain ⟨a, cap, hv, h⟩ := h
  refine ⟨a, cap, by simpa using hv, fun k hk => ?_⟩
  rcases h with h | ⟨b, off, ha, hc⟩
  · simp at h; subst h; simp at hk
  · have := hc k (by simpa using hk)
    refine ⟨b, off, ha, World.block_lt_of_cell? w _ this, ?_⟩
    rw [this]; simp [List.getD, hk]

def RootI (w : World) (p m : Nat) (rs : List Nat) (k : Nat) (wr : World) : Prop := ∃ v, Cm wr p m v (addAll [] (rs.take k)) ∧ Calm w wr ∧ ∀ b, InB v b → w.heap.size ≤ b
/-- The places so far, of which i have been asked. -/
def AskI (w : World) (p m : Nat) (obj : Nat → Ob) (U L0 : List Nat) (i : Nat) (wr : World) : Prop :=
  ∃ v L, Cm wr p m v L ∧ Calm w wr ∧ (∀ b, InB v b → w.heap.size ≤ b) ∧ i ≤ L.length ∧ (∀ x ∈ L, x ∈ U) ∧ ∀ R, Bfs (strs obj) L i R → Bfs (strs obj) L0 0 R
/-- .. while what one of them tells is added. -/
def AddI (w : World) (p m : Nat) (vs : Value) (l L : List Nat) (j : Nat) (wr : World) : Prop :=
  ∃ v, Cm wr p m v (addAll L (l.take j)) ∧ Calm w wr ∧ (∀ b, InB v b → w.heap.size ≤ b) ∧ ORow wr 0 vs (nI l) ∧ ∀ b, InB vs b → ¬ CmB p m v b

def FromPost (w : World) (obj : Nat → Ob) (rs : List Nat) (e : Ending) (w' : World) : Prop :=
  ∃ p m v R, e = .returned (.tuple #[.pointer (some ⟨p, 0, none⟩), .int .i64 0]) ∧ Cm w' p m v R ∧ Bfs (strs obj) (addAll [] rs) 0 R ∧ Calm w w' ∧ ∀ b, CmB p m v b → w.heap.size ≤ b

set_option maxRecDepth 4000 in
set_option maxHeartbeats 2000000 in
theorem from_yes {w : World} {b c : Nat} {xs : List Nat} (h : Ar w b c xs) {U : List Nat} {obj : Nat → Ob} (ho : Objs xs U obj) {rv : Value} {rs : List Nat} (hr : Row w rv (iVs (nI rs))) (hl : rs.length ≤ 100000) (hu : ∀ x ∈ rs, x ≠ 0 → x ∈ U) :
    Calls Try.prog 97 #[arV b, rv] w (FromPost w obj rs) := by
  have hmm := @run_makeMap Try.prog
  have HA := hid h
  have HO := hid ho
  have HU := hid hu
  obtain ⟨ra, rc, rfl, hrk⟩ := hr.loop
  have HR := hid hrk
  have hln : Hid ((nI rs).length = rs.length) := by show (nI rs).length = rs.length; simp
  rw [hln.out]
  obtain ⟨n, hn⟩ : ∃ n, rs.length = n := ⟨_, rfl⟩
  rw [hn] at hl ⊢
  replace hn := hid hn
  clear h ho hu hr hrk
  go_enter Try.func97, Try.ntmps97
  go_wp2
  obtain ⟨W0, hW0⟩ : ∃ W0, (w.alloc (Obj.map #[] 0)).alloc (Obj.cells #[Value.slice none 0 0, Value.map (some w.heap.size)] 141) = W0 := ⟨_, rfl⟩
  have hc0 : Cm W0 (w.heap.size + 1) w.heap.size (.slice none 0 0) [] := by
    rw [← hW0]
    exact ⟨Own.at _ _ _ _ 0 (by simp) rfl, Own.at _ _ _ _ 1 (by simp) rfl, ORow.nil _ _, World.ownsMap.alloc (World.ownsMap_made w Try.prog 3 _) _, InB.nil _, InB.nil _, by omega, List.nodup_nil⟩
  have k0 : Calm w W0 := by rw [← hW0]; exact ((Fr.refl _ _).alloc _).alloc _
  rw [hW0]
  have hs0 : RootI w (w.heap.size + 1) w.heap.size rs 0 W0 := ⟨_, hc0, k0, fun b hb => absurd hb (InB.nil b)⟩
  clear hW0 hc0 k0
  go_loopw [19] (fun i wr => ∃ k : Nat, k ≤ n ∧ i = .int .i64 k ∧ RootI w (w.heap.size + 1) w.heap.size rs k wr) (fun i _ => n - (intOf i).toNat)
  case atStart => exact ⟨0, Nat.zero_le _, rfl, hs0⟩
  case round =>
    obtain ⟨k, hk, rfl, hI⟩ := hrel
    clear hs0
    rcases Nat.lt_or_ge k n with hlt | hge
    · obtain ⟨v, hcm, hcalm, hnew⟩ := hI
      obtain ⟨rb, roff, rfl, hrb, hcell⟩ := HR.out k (by rw [hln.out, hn.out]; omega)
      replace hcell := hcalm.cellAt (p := ⟨rb, roff + k, none⟩) hcell id
      have hmem : rs.getD k 0 ∈ rs := by have := hn.out; simp [List.getD, show k < rs.length by omega]
      have hq : rs.getD k 0 ≤ 131072 := by
        by_cases e : rs.getD k 0 = 0
        · omega
        · exact HO.out.le _ (HU.out _ hmem e)
      have hstep : Hid (addAll [] (rs.take (k + 1)) = addTo (addAll [] (rs.take k)) (rs.getD k 0)) := by
        show addAll [] (rs.take (k + 1)) = _
        rw [take_succ_getD rs (by have := hn.out; omega), addAll_snoc]
      rw [show (nI rs).getD k 0 = ((rs.getD k 0 : Nat) : Int) by have := hn.out; simp [List.getD, show k < rs.length by omega]] at hcell
      have hlen : (addAll [] (rs.take k)).length ≤ 100000 := Nat.le_trans (nodup_length hcm.nodup (fun x hx => by
        rcases mem_addAll.1 hx with h | ⟨h1, h2⟩
        · cases h
        · exact HU.out x (List.mem_of_mem_take h1) h2)) HO.out.len
      replace hcm := hid hcm
      generalize addAll [] (rs.take k) = L at *
      generalize rs.getD k 0 = q at *
      clear hmem
      go_wp2_with fail
      refine (to_is hcm.out q hq hlen).mono ?_
      rintro e w2 ⟨rfl, v', hcm2, hf2, hn2⟩
      replace hcm2 := hid hcm2
      replace hf2 := hid hf2
      replace hn2 := hid hn2
      go_wp2
      go_roundw
      case rel =>
        refine ⟨k + 1, by omega, by go_num, v', by rw [hstep.out]; exact hcm2.out, hcalm.join hf2.out (fun j h1 h2 => ?_), fun b hb => ?_⟩
        · rcases h2 with rfl | rfl | h2
          · omega
          · omega
          · have := hnew _ h2; omega
        · rcases hn2.out b hb with h2 | h2
          · exact hnew b h2
          · have := hcalm.size; omega
      case measure => simp [intOf]; omega
    · obtain rfl : k = n := by omega
      have hL0 : Hid (rs.take k = rs) := List.take_of_length_le (by rw [hn.out]; omega)
      obtain ⟨v, hcm, hcalm, hnew⟩ := hI
      rw [hL0.out] at hcm
      have hA : AskI w (w.heap.size + 1) w.heap.size obj U (addAll [] rs) 0 wr := ⟨v, _, hcm, hcalm, hnew, Nat.zero_le _, fun x hx => by
        rcases mem_addAll.1 hx with h | ⟨h1, h2⟩
        · cases h
        · exact HU.out x h1 h2, fun R h => h⟩
      clear hcm hcalm hnew v
      obtain ⟨L0, hL00⟩ : ∃ L0, addAll [] rs = L0 := ⟨_, rfl⟩
      rw [hL00] at hA
      replace hL00 := hid hL00
      clear hge
      go_wp2
      go_loopw [9] (fun i wr => ∃ k : Nat, i = .int .i64 k ∧ AskI w (w.heap.size + 1) w.heap.size obj U L0 k wr) (fun i _ => U.length + 1 - (intOf i).toNat)
      case atStart => exact ⟨0, rfl, hA⟩
      case round =>
        clear hA
        obtain ⟨i, rfl, v, L, hcm, hcalm, hnew, hil, hsub, hbfs⟩ := hrel
        have hlu := nodup_length hcm.nodup hsub
        have hul := HO.out.len
        obtain ⟨sa, sc, rfl⟩ := hcm.row.sliceN (n := L.length) (by simp)
        have p0 := hcm.places.1
        rcases Nat.lt_or_ge i L.length with hlt | hge
        · obtain ⟨g, c', hv, _, hg0, _⟩ := hcm.row.get (k := i) (by simpa using hlt)
          injection hv with hv1 hv2 hv3
          subst hv1
          rw [show (nI L).getD i 0 = ((L.getD i 0 : Nat) : Int) by simp [List.getD, hlt]] at hg0
          have hx : L.getD i 0 ∈ U := hsub _ (by simp [List.getD, hlt])
          replace hbfs : Hid (∀ R, Bfs (strs obj) (addAll L (obj (L.getD i 0)).strong) (i + 1) R → Bfs (strs obj) L0 0 R) := fun R h => hbfs R (.step hlt h)
          have hst := hid (HO.out.str _ hx)
          replace hcm := hid hcm
          replace hsub := hid hsub
          have hS := hid (strong_yes (HA.out.calm hcalm) (HO.out.at_ _ hx))
          have hsb := hid (Ob.strong_bound (HO.out.at_ _ hx).ok)
          have hsp := Ob.strong_le (HO.out.at_ _ hx).ok
          have hsp8 := (HO.out.at_ _ hx).ok.sh.1
          clear hv2 hv3 hk
          generalize L.getD i 0 = x at *
          generalize (obj x).strong = l at *
          go_wp2_with fail
          refine (hS.out).mono ?_
          rintro e w2 ⟨vs, rfl, hrow, c2⟩
          obtain ⟨va, vc, rfl⟩ := hrow.sliceN (n := l.length) (by simp)
          have hI : AddI w (w.heap.size + 1) w.heap.size (.slice va l.length vc) l L 0 w2 := ⟨_, hcm.out.calm c2, hcalm.trans c2, hnew, hrow.base (fun _ _ => Nat.zero_le _), fun b hb => by
            have := hrow.lt hb
            rintro (rfl | rfl | h2)
            · have := hcm.out.places.lt; omega
            · have := hcm.out.map.lt; omega
            · have := hcm.out.row.lt h2; omega⟩
          have hLL : Hid (∀ j, j ≤ l.length → (addAll L (l.take j)).length ≤ 100000 ∨ True) := fun _ _ => .inr trivial
          clear hrow p0 hg0 hS c2 hLL hcm hnew hcalm
          obtain ⟨m, hm⟩ : ∃ m, l.length = m := ⟨_, rfl⟩
          rw [hm] at hI hsp ⊢
          replace hm := hid hm
          go_wp2
          go_loopw [53] (fun i wr => ∃ j : Nat, j ≤ m ∧ i = .int .i64 j ∧ AddI w (w.heap.size + 1) w.heap.size (.slice va m vc) l L j wr) (fun i _ => m - (intOf i).toNat)
          case atStart => exact ⟨0, Nat.zero_le _, rfl, hI⟩
          case round =>
            clear hI
            obtain ⟨j, hj, rfl, v, hcm, hcalm, hnew, hrow, hap⟩ := hrel
            rcases Nat.lt_or_ge j m with hlt2 | hge2
            · obtain ⟨g2, c2, hv, _, hg0, _⟩ := hrow.get (k := j) (by simp; rw [hm.out]; exact hlt2)
              injection hv with hv1 hv2 hv3
              subst hv1
              have hjl : j < l.length := by rw [hm.out]; exact hlt2
              rw [show (nI l).getD j 0 = ((l.getD j 0 : Nat) : Int) by simp [List.getD, hjl]] at hg0
              have hstep : Hid (addAll L (l.take (j + 1)) = addTo (addAll L (l.take j)) (l.getD j 0)) := by
                show addAll L (l.take (j + 1)) = _
                rw [take_succ_getD l hjl, addAll_snoc]
              have hq := hsb.out (l.getD j 0) (by simp [List.getD, hjl])
              have hlen : (addAll L (l.take j)).length ≤ 100000 := Nat.le_trans (nodup_length hcm.nodup (fun x hx => by
                rcases mem_addAll.1 hx with h | ⟨h1, h2⟩
                · exact hsub.out x h
                · exact hst.out x (List.mem_of_mem_take h1) h2)) hul
              replace hcm := hid hcm
              replace hrow := hid hrow
              replace hap := hid hap
              clear hv2 hv3 hjl
              generalize addAll L (l.take j) = L' at *
              generalize l.getD j 0 = q at *
              go_wp2_with fail
              refine (to_is hcm.out q hq hlen).mono ?_
              rintro e w3 ⟨rfl, v', hcm2, hf2, hn2⟩
              replace hcm2 := hid hcm2
              replace hf2 := hid hf2
              replace hn2 := hid hn2
              go_wp2
              go_roundw
              case rel =>
                refine ⟨j + 1, by omega, by go_num, v', by rw [hstep.out]; exact hcm2.out, hcalm.join hf2.out (fun j h1 h2 => ?_), fun b hb => ?_, hrow.out.frB hf2.out (fun b hb => hap.out b hb), fun b hb => ?_⟩
                · rcases h2 with rfl | rfl | h2
                  · omega
                  · omega
                  · have := hnew _ h2; omega
                · rcases hn2.out b hb with h2 | h2
                  · exact hnew b h2
                  · have := hcalm.size; omega
                · have h5 := hap.out b hb
                  have h6 := (hrow.out.lt hb).2
                  rintro (h7 | h7 | h7)
                  · exact h5 (.inl h7)
                  · exact h5 (.inr (.inl h7))
                  · rcases hn2.out b h7 with h8 | h8
                    · exact h5 (.inr (.inr h8))
                    · omega
              case measure => simp [intOf]; omega
            · obtain rfl : j = m := by omega
              have hT : l.take j = l := List.take_of_length_le (by rw [hm.out]; omega)
              rw [hT] at hcm
              have hA : AskI w (w.heap.size + 1) w.heap.size obj U L0 (i + 1) wr := ⟨v, _, hcm, hcalm, hnew, by
                obtain ⟨M, hM, _⟩ := addAll_prefix l L
                rw [hM]; simp; omega, fun x hx => by
                rcases mem_addAll.1 hx with h | ⟨h1, h2⟩
                · exact hsub.out x h
                · exact hst.out x h1 h2, hbfs.out⟩
              clear hT hcm hcalm hnew hrow hap
              go_wp2
              go_roundw
              case rel => exact ⟨i + 1, by go_num, hA⟩
              case measure => simp [intOf]; omega
        · have hB := hid (hbfs _ (.done hge))
          replace hcm := hid hcm
          replace hsub := hid hsub
          replace hnew := hid hnew
          clear hbfs
          go_wp2
          go_ret2
          refine ⟨_, _, _, L, rfl, hcm.out, by rw [hL00.out]; exact hB.out, hcalm, ?_⟩
          rintro b (rfl | rfl | hb)
          · omega
          · omega
          · exact hnew.out b hb

end Go.Proofs.Ytiomemdmhcdpbaa
