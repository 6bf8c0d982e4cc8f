/- Plain laws of what one comes to from roots: no program in sight. Plain laws: places that are named otherwise; no program in sight. Own rows of ints, told apart by their blocks; append of one int, as a law. append of a whole row of ints, as a law; rows that are written out. What package graph's come does: to, index. What package graph's from does. -/
import Derived.Test.YtoonimdohkbfgaaKit
import Derived.Maps.OwnSet
import Derived.Test.YtoonimdohkbfgaaMover
import Derived.Maps.AppendAt
import Derived.Maps.OwnIn
set_option linter.unusedSimpArgs false
set_option linter.unusedVariables false
namespace Go.Proofs.Ytoonimdohkbfgaa
open Go.RowKit Go.Maps

/-- One place more, unless one has come there. -/
def addTo (L : List Nat) (p : Nat) : List Nat := if p = 0 ∨ p ∈ L then L else L ++ [p]
def addAll (L : List Nat) (ps : List Nat) : List Nat := ps.foldl addTo L
theorem addAll_nil (L : List Nat) : addAll L [] = L := rfl
theorem addAll_cons (L : List Nat) (p : Nat) (ps : List Nat) : addAll L (p :: ps) = addAll (addTo L p) ps := rfl
theorem addAll_snoc (L : List Nat) (ps : List Nat) (p : Nat) : addAll L (ps ++ [p]) = addTo (addAll L ps) p := by simp [addAll, List.foldl_append]
theorem addAll_append (L : List Nat) (ps qs : List Nat) : addAll L (ps ++ qs) = addAll (addAll L ps) qs := by simp [addAll, List.foldl_append]
theorem mem_addTo {L : List Nat} {p x : Nat} : x ∈ addTo L p ↔ x ∈ L ∨ (x = p ∧ p ≠ 0) := by
  unfold addTo; split
  · rename_i h; constructor
    · exact .inl
    · rintro (h1 | ⟨rfl, h1⟩)
      · exact h1
      · rcases h with h | h
        · exact absurd h h1
        · exact h
  · rename_i h; rw [not_or] at h; simp [h.1]
theorem mem_addAll {ps : List Nat} : ∀ {L : List Nat} {x : Nat}, x ∈ addAll L ps ↔ x ∈ L ∨ (x ∈ ps ∧ x ≠ 0) := by
  induction ps with
  | nil => intro L x; simp [addAll_nil]
  | cons p ps ih =>
    intro L x
    rw [addAll_cons, ih, mem_addTo]
    constructor
    · rintro ((h | ⟨rfl, h⟩) | ⟨h, h'⟩)
      · exact .inl h
      · exact .inr ⟨by simp, h⟩
      · exact .inr ⟨by simp [h], h'⟩
    · rintro (h | ⟨h, h'⟩)
      · exact .inl (.inl h)
      · rcases List.mem_cons.1 h with rfl | h
        · exact .inl (.inr ⟨rfl, h'⟩)
        · exact .inr ⟨h, h'⟩
theorem addTo_prefix (L : List Nat) (p : Nat) : ∃ M, addTo L p = L ++ M ∧ ∀ x ∈ M, x = p := by
  unfold addTo; split
  · exact ⟨[], by simp⟩
  · exact ⟨[p], rfl, by simp⟩
theorem addAll_prefix (ps : List Nat) : ∀ L : List Nat, ∃ M, addAll L ps = L ++ M ∧ ∀ x ∈ M, x ∈ ps := by
  induction ps with
  | nil => intro L; exact ⟨[], by simp [addAll_nil]⟩
  | cons p ps ih =>
    intro L
    obtain ⟨M, hM, h1⟩ := addTo_prefix L p
    obtain ⟨M', hM', h2⟩ := ih (addTo L p)
    refine ⟨M ++ M', by rw [addAll_cons, hM', hM, List.append_assoc], fun x hx => ?_⟩
    rcases List.mem_append.1 hx with hx | hx
    · simp [h1 x hx]
    · simp [h2 x hx]
theorem addTo_length (L : List Nat) (p : Nat) : (addTo L p).length ≤ L.length + 1 := by
  unfold addTo; split <;> simp
theorem addTo_nodup {L : List Nat} (h : L.Nodup) (p : Nat) : (addTo L p).Nodup := by
  unfold addTo; split
  · exact h
  · rename_i hp; rw [not_or] at hp
    rw [List.nodup_append]
    refine ⟨h, by simp, ?_⟩
    intro a ha b hb e
    simp at hb; subst hb; subst e; exact hp.2 ha
theorem addAll_nodup (ps : List Nat) : ∀ {L : List Nat}, L.Nodup → (addAll L ps).Nodup := by
  induction ps with
  | nil => intro L h; exact h
  | cons p ps ih => intro L h; exact ih (addTo_nodup h p)
theorem addTo_pos {L : List Nat} (h : 0 ∉ L) (p : Nat) : 0 ∉ addTo L p := by rw [mem_addTo]; rintro (h1 | ⟨rfl, h1⟩); exact h h1; exact h1 rfl
theorem addAll_pos {L : List Nat} (h : 0 ∉ L) (ps : List Nat) : 0 ∉ addAll L ps := by rw [mem_addAll]; rintro (h1 | ⟨_, h1⟩); exact h h1; exact h1 rfl

/-- From L, of which the first i have been asked, one comes to R. -/
inductive Bfs (str : Nat → List Nat) : List Nat → Nat → List Nat → Prop
  | done {L : List Nat} {i : Nat} : L.length ≤ i → Bfs str L i L
  | step {L : List Nat} {i : Nat} {R : List Nat} : i < L.length → Bfs str (addAll L (str (L.getD i 0))) (i + 1) R → Bfs str L i R

theorem Bfs.unique {str : Nat → List Nat} {L : List Nat} {i : Nat} {R R' : List Nat} (h : Bfs str L i R) (h' : Bfs str L i R') : R = R' := by
  induction h with
  | done hl => cases h' with
    | done => rfl
    | step hs _ => omega
  | step hs _ ih => cases h' with
    | done => omega
    | step _ h2 => exact ih h2
theorem Bfs.pref {str : Nat → List Nat} {L : List Nat} {i : Nat} {R : List Nat} (h : Bfs str L i R) : ∃ M, R = L ++ M := by
  induction h with
  | done hl => exact ⟨[], by simp⟩
  | @step L i R hs _ ih =>
    obtain ⟨M, hM⟩ := ih
    obtain ⟨M', hM', hmem⟩ := addAll_prefix (str (L.getD i 0)) L
    exact ⟨M' ++ M, by rw [hM, hM', List.append_assoc]⟩
theorem Bfs.sub {str : Nat → List Nat} {L : List Nat} {i : Nat} {R : List Nat} (h : Bfs str L i R) : ∀ x ∈ L, x ∈ R := by
  obtain ⟨M, rfl⟩ := h.pref; intro x hx; simp [hx]
theorem Bfs.nodup {str : Nat → List Nat} {L : List Nat} {i : Nat} {R : List Nat} (h : Bfs str L i R) (hn : L.Nodup) : R.Nodup := by
  induction h with
  | done => exact hn
  | step _ _ ih => exact ih (addAll_nodup _ hn)
theorem Bfs.pos {str : Nat → List Nat} {L : List Nat} {i : Nat} {R : List Nat} (h : Bfs str L i R) (hn : 0 ∉ L) : 0 ∉ R := by
  induction h with
  | done => exact hn
  | step _ _ ih => exact ih (addAll_pos hn _)
/-- Closed behind i. -/
theorem Bfs.closed {str : Nat → List Nat} {L : List Nat} {i : Nat} {R : List Nat} (h : Bfs str L i R) : ∀ j, i ≤ j → j < R.length → ∀ q ∈ str (R.getD j 0), q ≠ 0 → q ∈ R := by
  induction h with
  | done hl => intro j h1 h2; omega
  | @step L i R hs hb ih =>
    intro j h1 h2 q hq h0
    by_cases e : i = j
    · subst e
      obtain ⟨M, hM⟩ := hb.pref
      obtain ⟨M', hM', hmem⟩ := addAll_prefix (str (L.getD i 0)) L
      have : R.getD i 0 = L.getD i 0 := by rw [hM, hM']; simp [List.getD, List.getElem?_append, hs]
      rw [this] at hq
      exact hb.sub _ (mem_addAll.2 (.inr ⟨hq, h0⟩))
    · exact ih j (by omega) h2 q hq h0
theorem Bfs.within {str : Nat → List Nat} {U : Nat → Prop} (hU : ∀ x, U x → ∀ q ∈ str x, q ≠ 0 → U q) {L : List Nat} {i : Nat} {R : List Nat} (h : Bfs str L i R) (hl : ∀ x ∈ L, U x) : ∀ x ∈ R, U x := by
  induction h with
  | done => exact hl
  | @step L i R hs _ ih =>
    refine ih (fun x hx => ?_)
    rcases mem_addAll.1 hx with hx | ⟨hx, h0⟩
    · exact hl x hx
    · exact hU (L.getD i 0) (hl _ (by simp [List.getD, hs])) x hx h0
/-- Whatever is in it was in L, or is what one ahead of it tells. -/
theorem Bfs.why {str : Nat → List Nat} {L : List Nat} {i : Nat} {R : List Nat} (h : Bfs str L i R) : ∀ j, L.length ≤ j → j < R.length → ∃ k, k < j ∧ R.getD j 0 ∈ str (R.getD k 0) := by
  induction h with
  | done hl => intro j h1 h2; omega
  | @step L i R hs hb ih =>
    intro j h1 h2
    by_cases hj : (addAll L (str (L.getD i 0))).length ≤ j
    · exact ih j hj h2
    · obtain ⟨M, hM⟩ := hb.pref
      obtain ⟨M', hM', hmem⟩ := addAll_prefix (str (L.getD i 0)) L
      have e1 : R.getD i 0 = L.getD i 0 := by rw [hM, hM']; simp [List.getD, List.getElem?_append, hs]
      have e2 : R.getD j 0 = M'.getD (j - L.length) 0 := by
        rw [hM'] at hj; simp at hj
        rw [hM, hM']; simp [List.getD, List.getElem?_append, show ¬ j < L.length by omega, hj, show j - L.length < M'.length by omega]
      refine ⟨i, by omega, ?_⟩
      rw [e1, e2]
      apply hmem
      have : j - L.length < M'.length := by rw [hM'] at hj; simp at hj; omega
      simp [List.getD, this]

/-- A place's order among others. -/
def ordR : List Nat → DataW Unit | [] => .map [] | p :: l => (ordR l).put (.int .i64 p) (.lit (.int .i64 l.length))
def ordD (L : List Nat) : DataW Unit := ordR L.reverse
theorem ordD_snoc (L : List Nat) (p : Nat) : ordD (L ++ [p]) = (ordD L).put (.int .i64 p) (.lit (.int .i64 L.length)) := by simp [ordD, ordR]
theorem isMap_ordR : ∀ l, IsMap (ordR l) | [] => isMap_empty | _ :: l => (isMap_ordR l).put _ _
theorem key_i (p : Nat) : WideAt.IsKeyLit (.int .i64 p) := by first | trivial | exact rfl | simp [WideAt.IsKeyLit]
theorem key_ne {a b : Int} (h : a ≠ b) : (Lit.int .i64 a) ≠ (Lit.int .i64 b) := by simpa using h
theorem has_ordR (p : Nat) : ∀ l, Maps.has (ordR l) (.int .i64 p) = decide (p ∈ l)
  | [] => by simp [ordR, Maps.has]
  | q :: l => by
    by_cases e : p = q
    · subst e; rw [ordR, has_put_same (isMap_ordR l) (key_i _)]; simp
    · rw [ordR, has_put_other (key_ne (by omega)), has_ordR p l]; simp [e]
theorem has_ordD (L : List Nat) (p : Nat) : Maps.has (ordD L) (.int .i64 p) = decide (p ∈ L) := by simp [ordD, has_ordR]
theorem at_ordR (p : Nat) (z : DataW Unit) : ∀ l, l.Nodup → (ordR l).atKey (.int .i64 p) z = if p ∈ l then .lit (.int .i64 (l.reverse.idxOf p : Nat)) else z
  | [], _ => by simp [ordR, DataW.atKey]
  | q :: l, hn => by
    rw [List.nodup_cons] at hn
    by_cases e : p = q
    · subst e
      rw [ordR, atKey_put_same (isMap_ordR l) (key_i _)]
      simp [List.idxOf_append, hn.1]
    · rw [ordR, atKey_put_other (key_ne (by omega)), at_ordR p z l hn.2]
      by_cases hp : p ∈ l
      · simp [hp, List.idxOf_append]
      · simp [hp, e]
theorem at_ordD {L : List Nat} (h : L.Nodup) (p : Nat) (z : DataW Unit) : (ordD L).atKey (.int .i64 p) z = if p ∈ L then .lit (.int .i64 (L.idxOf p : Nat)) else z := by
  have := at_ordR p z L.reverse (by unfold List.Nodup; rw [List.pairwise_reverse]; exact h.imp (fun h => Ne.symm h))
  simpa [ordD] using this
end Go.Proofs.Ytoonimdohkbfgaa

namespace Go.Proofs.Ytoonimdohkbfgaa
open Go.RowKit Go.Maps

/-- Places named otherwise: nothing stays nothing; on S no two places have one name. -/
structure Names (f : Nat → Nat) (S : Nat → Prop) : Prop where
  zero : f 0 = 0
  pos : ∀ x, S x → x ≠ 0 ∧ f x ≠ 0
  inj : ∀ x y, S x → S y → f x = f y → x = y
theorem Names.mem {f : Nat → Nat} {S : Nat → Prop} (h : Names f S) {L : List Nat} (hL : ∀ x ∈ L, S x) {p : Nat} (hp : S p) : f p ∈ L.map f ↔ p ∈ L := by
  rw [List.mem_map]
  constructor
  · rintro ⟨y, hy, e⟩
    rw [← h.inj _ _ (hL y hy) hp e]; exact hy
  · intro h; exact ⟨p, h, rfl⟩
theorem Names.addTo {f : Nat → Nat} {S : Nat → Prop} (h : Names f S) {L : List Nat} (hL : ∀ x ∈ L, S x) {p : Nat} (hp : p = 0 ∨ S p) : addTo (L.map f) (f p) = (addTo L p).map f ∧ ∀ x ∈ Go.Proofs.Ytoonimdohkbfgaa.addTo L p, S x := by
  rcases hp with rfl | hp
  · rw [h.zero]
    exact ⟨by simp [Go.Proofs.Ytoonimdohkbfgaa.addTo], by simpa [Go.Proofs.Ytoonimdohkbfgaa.addTo] using hL⟩
  · obtain ⟨p0, f0⟩ := h.pos p hp
    unfold Go.Proofs.Ytoonimdohkbfgaa.addTo
    by_cases hm : p ∈ L
    · rw [if_pos (.inr ((h.mem hL hp).2 hm)), if_pos (.inr hm)]
      exact ⟨rfl, hL⟩
    · rw [if_neg (by rw [not_or]; exact ⟨f0, fun e => hm ((h.mem hL hp).1 e)⟩), if_neg (by rw [not_or]; exact ⟨p0, hm⟩)]
      refine ⟨by simp, fun x hx => ?_⟩
      rcases List.mem_append.1 hx with hx | hx
      · exact hL x hx
      · simp at hx; subst hx; exact hp
theorem Names.addAll {f : Nat → Nat} {S : Nat → Prop} (h : Names f S) : ∀ (ps L : List Nat), (∀ x ∈ L, S x) → (∀ x ∈ ps, x = 0 ∨ S x) → addAll (L.map f) (ps.map f) = (addAll L ps).map f ∧ ∀ x ∈ Go.Proofs.Ytoonimdohkbfgaa.addAll L ps, S x
  | [], L, hL, _ => ⟨rfl, hL⟩
  | p :: ps, L, hL, hp => by
    obtain ⟨h1, h2⟩ := h.addTo hL (hp p (by simp))
    rw [List.map_cons, addAll_cons, h1, addAll_cons]
    exact h.addAll ps _ h2 (fun x hx => hp x (by simp [hx]))
theorem Names.bfs {f : Nat → Nat} {S : Nat → Prop} (h : Names f S) {str str' : Nat → List Nat} (hs : ∀ x, S x → str' (f x) = (str x).map f ∧ ∀ q ∈ str x, q = 0 ∨ S q) {L : List Nat} {i : Nat} {R : List Nat} (hb : Bfs str L i R) (hL : ∀ x ∈ L, S x) :
    Bfs str' (L.map f) i (R.map f) ∧ ∀ x ∈ R, S x := by
  induction hb with
  | done hl => exact ⟨.done (by simpa using hl), hL⟩
  | @step L i R hi _ ih =>
    have hx : S (L.getD i 0) := hL _ (by simp [List.getD, hi])
    obtain ⟨e1, e2⟩ := hs _ hx
    obtain ⟨e3, e4⟩ := h.addAll _ L hL e2
    obtain ⟨h1, h2⟩ := ih e4
    refine ⟨.step (by simpa using hi) ?_, h2⟩
    have e5 : (L.map f).getD i 0 = f (L.getD i 0) := by simp [List.getD, hi]
    rw [e5, e1, e3]
    exact h1
theorem Names.idx {f : Nat → Nat} {S : Nat → Prop} (h : Names f S) : ∀ (R : List Nat), (∀ x ∈ R, S x) → ∀ p, S p → (R.map f).idxOf (f p) = R.idxOf p
  | [], _, _, _ => rfl
  | a :: R, hR, p, hp => by
    rw [List.map_cons, List.idxOf_cons, List.idxOf_cons, h.idx R (fun x hx => hR x (by simp [hx])) p hp]
    by_cases e : a = p
    · subst e; simp only [beq_self_eq_true]
    · have h1 : (f a == f p) = false := beq_eq_false_iff_ne.2 (fun e2 => e (h.inj _ _ (hR a (by simp)) hp e2))
      have h2 : (a == p) = false := beq_eq_false_iff_ne.2 e
      rw [h1, h2]

end Go.Proofs.Ytoonimdohkbfgaa

namespace Go.Proofs.Ytoonimdohkbfgaa
open Go.RowKit Go.Shelf

/-- The block in which a row lies is b. -/
def InB (v : Value) (b : Nat) : Prop := v.ownBlock = some b
theorem InB.nil (b : Nat) : ¬ InB (.slice none 0 0) b := by simp [InB, Value.ownBlock]
theorem InB.mk {g n c b : Nat} : InB (.slice (some ⟨g, 0, none⟩) n c) b ↔ b = g := by simp [InB, Value.ownBlock, eq_comm]
theorem InB.mk1 {g n c b : Nat} (h : InB (.slice (some ⟨g, 0, none⟩) n c) b) : b = g := InB.mk.1 h
theorem ORow.lt {w : World} {base : Nat} {v : Value} {l : List Int} (h : ORow w base v l) {b : Nat} (hb : InB v b) : base ≤ b ∧ b < w.heap.size := World.ownsRow.lt h b hb
theorem ORow.frB {S : Nat → Prop} {w w' : World} {base : Nat} {v : Value} {l : List Int} (h : ORow w base v l) (f : Fr S w w') (hs : ∀ b, InB v b → ¬ S b) : ORow w' base v l := by
  refine ⟨h.1, ?_⟩
  rcases h.2 with hn | ⟨g, cap, cur, hv, hb, hgg, rest⟩
  · exact .inl hn
  · exact .inr ⟨g, cap, cur, hv, hb, f.heapAt hgg (hs _ (by rw [hv]; rfl)), rest⟩
/-- A row known by its block may be said to lie from its block on. -/
theorem ORow.base {w : World} {base base' : Nat} {v : Value} {l : List Int} (h : ORow w base v l) (hb : ∀ b, InB v b → base' ≤ b) : ORow w base' v l := by
  refine ⟨h.1, ?_⟩
  rcases h.2 with hn | ⟨g, cap, cur, hv, hb', rest⟩
  · exact .inl hn
  · exact .inr ⟨g, cap, cur, hv, hb _ (by rw [hv]; rfl), rest⟩
/-- The element k of a row. -/
theorem ORow.get {w : World} {base : Nat} {v : Value} {l : List Int} (h : ORow w base v l) {k : Nat} (hk : k < l.length) : ∃ g c, v = .slice (some ⟨g, 0, none⟩) l.length c ∧ base ≤ g ∧ Own w g k (.int .i64 (l.getD k 0)) := by
  obtain ⟨hl, ⟨_, h0⟩ | ⟨g, cap, cur, rfl, hb, hg, hn, hcm, hcur, hx⟩⟩ := h
  · omega
  · refine ⟨g, cap, rfl, hb, ?_, ?_⟩
    · have h2 : cur.toList[k]? = (iVs l)[k]? := by rw [← hx, List.getElem?_take]; simp; omega
      have : w.cell? ⟨g, k, none⟩ = cur[k]? := by simp [World.cell?, hg]
      rw [this, ← Array.getElem?_toList, h2]; simp [hk]
    · simp [World.frozen?, hg]
/-- An element is written. -/
theorem ORow.set {w : World} {base : Nat} {l : List Int} {g n c : Nat} (h : ORow w base (.slice (some ⟨g, 0, none⟩) n c) l) {k : Nat} (hk : k < l.length) (y : Int) : ORow (w.setCell ⟨g, k, none⟩ (.int .i64 y)) base (.slice (some ⟨g, 0, none⟩) n c) (l.set k y) := by
  obtain ⟨hl, ⟨h1, h0⟩ | ⟨g', cap, cur, hv, hb, hg, hn, hcm, hcur, hx⟩⟩ := h
  · cases h1
  · cases hv
    refine ⟨by simp, .inr ⟨g, c, cur.set! k (.int .i64 y), by simp, hb, ?_, by simpa using hn, hcm, by simpa using hcur, ?_⟩⟩
    · have hlt : g < w.heap.size := (Array.getElem?_eq_some_iff.1 hg).1
      rw [heap_setCell_same _ _ _ _ _ _ hg]; simp
    · have hc : k < cur.size := by rw [hcur]; omega
      simp only [Array.set!_eq_setIfInBounds, Array.toList_setIfInBounds, List.length_set, iVs, List.map_set]
      have hx' := hx
      simp only [iVs] at hx'
      rw [List.take_set, hx']

theorem Own.calm {w w' : World} {b i : Nat} {v : Value} (h : Own w b i v) (f : Calm w w') : Own w' b i v := h.fr f id

theorem fr_of_grown1 {w w' : World} {v : Value} {o : Obj} (hg : (w.alloc o).grownBy w' v.ownBlock) : Fr (InB v) w w' :=
  Fr.grown (Fr.alloc (Fr.refl _ _) _) hg (fun k hk => .inl hk)

theorem wpList_app1 {ops : Array Oper} {rest : List Oper} {o : Oper} {a : Act} {Q : Exit → Act → World → Prop} {w : World} (hgd : o.guard = none) (s x : Operand)
    (ho : o.op = .call { callee := .builtin .append, args := #[s, x], argTypes := #[50, 50] })
    (base : Nat) (v : Value) (l : List Int) (hown : ORow w base v l) (hs : a.eval s = v) (y : Int) (hx : a.eval x = .slice (some ⟨w.heap.size, 0, none⟩) 1 1) (hl : l.length ≤ 1000000) (hbase : base ≤ w.heap.size)
    (h : ∀ g c w', ORow w' base (.slice (some ⟨g, 0, none⟩) (l.length + 1) c) (l ++ [y]) → Fr (InB v) w w' → (InB v g ∨ w.heap.size ≤ g) → wpList Try.prog ops Q rest (a.put o.dst (.slice (some ⟨g, 0, none⟩) (l.length + 1) c)) w') :
    wpList Try.prog ops Q (o :: rest) a (w.alloc (.cells #[.int .i64 y] 3)) := by
  obtain ⟨i0, hi, hz0, hz1, hz2⟩ := info_parts info_int
  refine wpList_append_own_at _ hgd s x 50 ho base 3 i0 (.int .i64 0) 1 8 Try.underlying50 hi hz0 hz1 hz2 rfl (by decide) v l.length (iVs l) hs (World.ownsRow.alloc hown _) ⟨w.heap.size, 0, none⟩ 1 1 [.int .i64 y] hx rfl (cell_one_new _ _ _) (by simp [Value.oneCell']) (by unfold maxLen; omega) (by omega) (by simp; omega) ?_
  intro v' w' hown' hgrow _ hloc
  obtain ⟨g, c, rfl⟩ := ownsRow_succ hown'
  refine h g c w' ?_ (fr_of_grown1 hgrow) ?_
  · show World.ownsRow _ _ _ _ _ _ _
    rw [List.length_append, iVs, List.map_append]
    exact hown'
  · rcases hloc with hloc | hloc
    · exact .inl (hloc.symm.trans rfl)
    · right; simp [Value.ownBlock] at hloc; omega

theorem wpList_app1b {ops : Array Oper} {rest : List Oper} {o : Oper} {a : Act} {Q : Exit → Act → World → Prop} {w : World} (hgd : o.guard = none) (s x : Operand)
    (ho : o.op = .call { callee := .builtin .append, args := #[s, x], argTypes := #[50, 50] })
    (base : Nat) (v : Value) (l : List Int) (hown : ORow w base v l) (hs : a.eval s = v) (y : Int) (nb : Nat) (hx : a.eval x = .slice (some ⟨nb, 0, none⟩) 1 1) (hnb : nb = w.heap.size) (hl : l.length ≤ 1000000) (hbase : base ≤ w.heap.size)
    (h : ∀ g c w', ORow w' base (.slice (some ⟨g, 0, none⟩) (l.length + 1) c) (l ++ [y]) → Fr (InB v) w w' → (InB v g ∨ w.heap.size ≤ g) → wpList Try.prog ops Q rest (a.put o.dst (.slice (some ⟨g, 0, none⟩) (l.length + 1) c)) w') :
    wpList Try.prog ops Q (o :: rest) a (w.alloc (.cells #[.int .i64 y] 3)) := by
  subst hnb
  exact wpList_app1 hgd s x ho base v l hown hs y hx hl hbase h

theorem wpListIn_app1 {F : Fence} {nF : Nat} {ops : Array Oper} {rest : List Oper} {o : Oper} {a : Act} {Q : Exit → Act → World → Prop} {w : World} (hgd : o.guard = none) (s x : Operand)
    (ho : o.op = .call { callee := .builtin .append, args := #[s, x], argTypes := #[50, 50] })
    (base : Nat) (v : Value) (l : List Int) (hown : ORow w base v l) (hs : a.eval s = v) (y : Int) (hx : a.eval x = .slice (some ⟨w.heap.size, 0, none⟩) 1 1) (hl : l.length ≤ 1000000) (hbase : base ≤ w.heap.size)
    (h : ∀ g c w', ORow w' base (.slice (some ⟨g, 0, none⟩) (l.length + 1) c) (l ++ [y]) → Fr (InB v) w w' → (InB v g ∨ w.heap.size ≤ g) → wpListIn F nF Try.prog ops Q rest (a.put o.dst (.slice (some ⟨g, 0, none⟩) (l.length + 1) c)) w') :
    wpListIn F nF Try.prog ops Q (o :: rest) a (w.alloc (.cells #[.int .i64 y] 3)) := by
  obtain ⟨i0, hi, hz0, hz1, hz2⟩ := info_parts info_int
  refine wpListIn_append_own_at _ hgd s x 50 ho base 3 i0 (.int .i64 0) 1 8 Try.underlying50 hi hz0 hz1 hz2 rfl (by decide) v l.length (iVs l) hs (World.ownsRow.alloc hown _) ⟨w.heap.size, 0, none⟩ 1 1 [.int .i64 y] hx rfl (cell_one_new _ _ _) (by simp [Value.oneCell']) (by unfold maxLen; omega) (by omega) (by simp; omega) ?_
  intro v' w' hown' hgrow _ hloc
  obtain ⟨g, c, rfl⟩ := ownsRow_succ hown'
  refine h g c w' ?_ (fr_of_grown1 hgrow) ?_
  · show World.ownsRow _ _ _ _ _ _ _
    rw [List.length_append, iVs, List.map_append]
    exact hown'
  · rcases hloc with hloc | hloc
    · exact .inl (hloc.symm.trans rfl)
    · right; simp [Value.ownBlock] at hloc; omega

end Go.Proofs.Ytoonimdohkbfgaa

namespace Go.Proofs.Ytoonimdohkbfgaa
open Go.RowKit Go.Shelf

theorem ORow.lit (w : World) (base : Nat) (l : List Int) (hb : base ≤ w.heap.size) (hl : l.length ≤ 1000000) : ORow (w.alloc (.cells (iVs l).toArray 3)) base (.slice (some ⟨w.heap.size, 0, none⟩) l.length l.length) l :=
  ⟨by simp, .inr ⟨w.heap.size, l.length, (iVs l).toArray, rfl, hb, World.alloc_heap_new w _, Nat.le_refl _, by unfold maxLen; omega, by simp, List.take_of_length_le (by simp)⟩⟩

theorem run_app_none {w : World} {base : Nat} {v : Value} {l : List Int} (hown : ORow w base v l) (ty : TypeId) (c : Nat) : (Builtin.append_ #[50, 50] ty #[v, .slice none 0 c]).run Try.prog w = .ok v w := by
  obtain ⟨i0, hi, hz0, hz1, hz2⟩ := info_parts info_int
  rcases hown.2 with ⟨rfl, _⟩ | ⟨g, cap, cur, rfl, _, _, hn, _⟩
  · simp [Builtin.append_, run_underlying Try.underlying50, sizeOf, typeInfo, hi, Builtin.lenOf, Builtin.firstCells]
  · simp [Builtin.append_, run_underlying Try.underlying50, sizeOf, typeInfo, hi, Builtin.lenOf, Builtin.firstCells, hn, storeCells]

theorem wpList_appL {ops : Array Oper} {rest : List Oper} {o : Oper} {a : Act} {Q : Exit → Act → World → Prop} {w : World} (hgd : o.guard = none) (s x : Operand)
    (ho : o.op = .call { callee := .builtin .append, args := #[s, x], argTypes := #[50, 50] })
    (base : Nat) (v : Value) (l : List Int) (hown : ORow w base v l) (hs : a.eval s = v) (u : Value) (r : List Int) (hr : Row w u (iVs r)) (hx : a.eval x = u) (hl : l.length + r.length ≤ 1000000) (hbase : base ≤ w.heap.size)
    (h : ∀ v' w', ORow w' base v' (l ++ r) → Fr (InB v) w w' → (∀ b, InB v' b → InB v b ∨ w.heap.size ≤ b) → wpList Try.prog ops Q rest (a.put o.dst v') w') :
    wpList Try.prog ops Q (o :: rest) a w := by
  obtain ⟨A, c, rfl, hA⟩ := hr
  have hlen : (iVs r).length = r.length := by simp
  rw [hlen] at hx
  rcases A with _ | ad
  · obtain rfl : r = [] := by
      rcases hA with hA | ⟨b, off, hb, _⟩
      · simpa using hA
      · cases hb
    refine wpList_plain hgd fun K hK => ?_
    have hrun := run_app_none hown o.type c
    unfold Oper.wp execOp
    simp only [ho, resolve, invoke, builtin, Sem.run_bind, Sem.run_pure, Result.andThen_ok, List.map_toArray, List.map_cons, List.map_nil, hs, hx, List.length_nil, hrun]
    exact hK _ _ (h v w (by simpa using hown) (Fr.refl _ _) (fun b hb => .inl hb))
  · obtain ⟨i0, hi, hz0, hz1, hz2⟩ := info_parts info_int
    refine wpList_append_own_at _ hgd s x 50 ho base 3 i0 (.int .i64 0) 1 8 Try.underlying50 hi hz0 hz1 hz2 rfl (by decide) v l.length (iVs l) hs hown ad r.length c (iVs r) hx (by simp) ?_ (by simp [Value.oneCell']) (by unfold maxLen; omega) (by omega) hbase ?_
    · intro j y hj
      have hjl : j < (iVs r).length := (List.getElem?_eq_some_iff.1 hj).1
      rcases hA with hA | ⟨b, off, hb, hc⟩
      · rw [hA] at hjl; simp at hjl
      · cases hb
        rw [addr_at, hc j hjl]
        rw [List.getElem?_eq_getElem hjl] at hj
        exact hj
    · intro v' w' hown' hgrow _ hloc
      refine h v' w' ?_ (Fr.grown (Fr.refl _ _) hgrow (fun k hk => .inl hk)) ?_
      · show World.ownsRow _ _ _ _ _ _ _
        rw [List.length_append, iVs, List.map_append]
        exact hown'
      · intro b hb
        rcases hloc with hloc | hloc
        · exact .inl (hloc.symm.trans hb)
        · right
          have : some w.heap.size = some b := hloc.symm.trans hb
          injection this with this; omega

end Go.Proofs.Ytoonimdohkbfgaa

namespace Go.Proofs.Ytoonimdohkbfgaa
open Go.RowKit Go.Shelf Go.Maps

/-- The map of the orders of L. -/
def OMap (w : World) (m : Nat) (L : List Nat) : Prop := w.ownsMap (H := Unit) Try.prog 3 (plainElem Try.prog 3) m L.length (ordD L)
theorem mlaw : Keyed Try.prog 3 := int_keyed Try.underlying3
theorem zero_i (w : World) : (zeroValue 3).run Try.prog w = .ok (.int .i64 0) w := by kernel_rfl
theorem key_of {n : Int} (h : I64 n) : keyOf Try.prog 3 (.int .i64 n) = some (.int .i64 n) := keyOf_int_mk Try.underlying3 (WalkArith.wf_i64 (by omega))
theorem OMap.fr {S : Nat → Prop} {w w' : World} {m : Nat} {L : List Nat} (h : OMap w m L) (f : Fr S w w') (hs : ¬ S m) : OMap w' m L := by
  obtain ⟨es, clock, hb, r⟩ := h
  exact ⟨es, clock, f.heapAt hb hs, r⟩
theorem OMap.lt {w : World} {m : Nat} {L : List Nat} (h : OMap w m L) : m < w.heap.size := World.ownsMap.lt h

/-- What one has come to: the struct's block p, its map's block m, its places' slice v, the places. -/
structure Cm (w : World) (p m : Nat) (v : Value) (L : List Nat) : Prop where
  places : Own w p 0 v
  order : Own w p 1 (.map (some m))
  row : ORow w 0 v (nI L)
  map : OMap w m L
  ap : ¬ InB v p
  am : ¬ InB v m
  mp : m ≠ p
  nodup : L.Nodup
theorem Cm.fr {S : Nat → Prop} {w w' : World} {p m : Nat} {v : Value} {L : List Nat} (h : Cm w p m v L) (f : Fr S w w') (h1 : ¬ S p) (h2 : ¬ S m) (h3 : ∀ b, InB v b → ¬ S b) : Cm w' p m v L :=
  ⟨h.places.fr f h1, h.order.fr f h1, h.row.frB f h3, h.map.fr f h2, h.ap, h.am, h.mp, h.nodup⟩
theorem Cm.calm {w w' : World} {p m : Nat} {v : Value} {L : List Nat} (h : Cm w p m v L) (f : Calm w w') : Cm w' p m v L := h.fr f id id (fun _ _ => id)
/-- The blocks of it. -/
def CmB (p m : Nat) (v : Value) (b : Nat) : Prop := b = p ∨ b = m ∨ InB v b

def ToPost (w : World) (p m : Nat) (v : Value) (L : List Nat) (q : Nat) (e : Ending) (w' : World) : Prop :=
  e = .returned (.tuple #[]) ∧ ∃ v', Cm w' p m v' (addTo L q) ∧ Fr (CmB p m v) w w' ∧ ∀ b, InB v' b → InB v b ∨ w.heap.size ≤ b

/-- Where a place stands: the number that index tells. -/
def ixOf (L : List Nat) (q : Nat) : Int := if q = 0 then -1 else if q ∈ L then (L.idxOf q : Nat) else -2

end Go.Proofs.Ytoonimdohkbfgaa

namespace Go.Proofs.Ytoonimdohkbfgaa
open Go.RowKit Go.Shelf Go.Maps

theorem nodup_length : ∀ {L U : List Nat}, L.Nodup → (∀ x ∈ L, x ∈ U) → L.length ≤ U.length
  | [], U, _, _ => Nat.zero_le _
  | a :: L, U, hn, hs => by
    rw [List.nodup_cons] at hn
    have h1 := nodup_length (L := L) (U := U.erase a) hn.2 (fun x hx => (List.mem_erase_of_ne (by rintro rfl; exact hn.1 hx)).2 (hs x (by simp [hx])))
    have h2 : a ∈ U := hs a (by simp)
    rw [List.length_erase_of_mem h2] at h1
    have := List.length_pos_of_mem h2
    simp only [List.length_cons]; omega

/-- The objects of a heap: at each place of U one; their strong pointers lead to nothing or into U. -/
structure Objs (xs : List Nat) (U : List Nat) (obj : Nat → Ob) : Prop where
  at_ : ∀ x ∈ U, At xs x (obj x)
  str : ∀ x ∈ U, ∀ q ∈ (obj x).strong, q ≠ 0 → q ∈ U
  le : ∀ x ∈ U, x ≤ 131072
  len : U.length ≤ 100000
abbrev strs (obj : Nat → Ob) (x : Nat) : List Nat := (obj x).strong
theorem Ob.strong_bound {o : Ob} (h : o.Ok) : ∀ x ∈ o.strong, x ≤ 131072 := by
  unfold Ob.strong; split
  · simp
  · exact h.ps

/-- A slice's elements, opened for a loop. -/
theorem Row.loop {w : World} {v : Value} {l : List Int} (h : Row w v (iVs l)) : ∃ a c, v = .slice a l.length c ∧ ∀ k, k < l.length → ∃ b off, a = some ⟨b, off, none⟩ ∧ b < w.heap.size ∧ w.cell? ⟨b, off + k, none⟩ = some (.int .i64 (l.getD k 0)) := by
  obtain ⟨a, cap, hv, h⟩ := h
  refine ⟨a, cap, by simpa using hv, fun k hk => ?_⟩
  rcases h with h | ⟨b, off, ha, hc⟩
  · simp at h; subst h; simp at hk
  · have := hc k (by simpa using hk)
    refine ⟨b, off, ha, World.block_lt_of_cell? w _ this, ?_⟩
    rw [this]; simp [List.getD, hk]

def RootI (w : World) (p m : Nat) (rs : List Nat) (k : Nat) (wr : World) : Prop := ∃ v, Cm wr p m v (addAll [] (rs.take k)) ∧ Calm w wr ∧ ∀ b, InB v b → w.heap.size ≤ b
/-- The places so far, of which i have been asked. -/
def AskI (w : World) (p m : Nat) (obj : Nat → Ob) (U L0 : List Nat) (i : Nat) (wr : World) : Prop :=
  ∃ v L, Cm wr p m v L ∧ Calm w wr ∧ (∀ b, InB v b → w.heap.size ≤ b) ∧ i ≤ L.length ∧ (∀ x ∈ L, x ∈ U) ∧ ∀ R, Bfs (strs obj) L i R → Bfs (strs obj) L0 0 R
/-- .. while what one of them tells is added. -/
def AddI (w : World) (p m : Nat) (vs : Value) (l L : List Nat) (j : Nat) (wr : World) : Prop :=
  ∃ v, Cm wr p m v (addAll L (l.take j)) ∧ Calm w wr ∧ (∀ b, InB v b → w.heap.size ≤ b) ∧ ORow wr 0 vs (nI l) ∧ ∀ b, InB vs b → ¬ CmB p m v b

def FromPost (w : World) (obj : Nat → Ob) (rs : List Nat) (e : Ending) (w' : World) : Prop :=
  ∃ p m v R, e = .returned (.tuple #[.pointer (some ⟨p, 0, none⟩), .int .i64 0]) ∧ Cm w' p m v R ∧ Bfs (strs obj) (addAll [] rs) 0 R ∧ Calm w w' ∧ ∀ b, CmB p m v b → w.heap.size ≤ b

end Go.Proofs.Ytoonimdohkbfgaa
