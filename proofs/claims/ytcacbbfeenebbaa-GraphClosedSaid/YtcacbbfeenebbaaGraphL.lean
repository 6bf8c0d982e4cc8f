/- Plain laws of what one comes to from roots: no program in sight. -/
import Derived.Test.YtcacbbfeenebbaaKit
import Derived.Maps.OwnSet
set_option linter.unusedSimpArgs false
set_option linter.unusedVariables false
namespace Go.Proofs.Ytcacbbfeenebbaa
open Go.RowKit Go.Maps

/-- One place more, unless one has come there. -/
def addTo (L : List Nat) (p : Nat) : List Nat := if p = 0 ∨ p ∈ L then L else L ++ [p]
def addAll (L : List Nat) (ps : List Nat) : List Nat := ps.foldl addTo L
theorem addAll_nil (L : List Nat) : addAll L [] = L := rfl
theorem addAll_cons (L : List Nat) (p : Nat) (ps : List Nat) : addAll L (p :: ps) = addAll (addTo L p) ps := rfl
theorem addAll_snoc (L : List Nat) (ps : List Nat) (p : Nat) : addAll L (ps ++ [p]) = addTo (addAll L ps) p := by simp [addAll, List.foldl_append]
theorem addAll_append (L : List Nat) (ps qs : List Nat) : addAll L (ps ++ qs) = addAll (addAll L ps) qs := by simp [addAll, List.foldl_append]
theorem mem_addTo {L : List Nat} {p x : Nat} : x ∈ addTo L p ↔ x ∈ L ∨ (x = p ∧ p ≠ 0) := by
  unfold addTo; split
  · rename_i h; constructor
    · exact .inl
    · rintro (h1 | ⟨rfl, h1⟩)
      · exact h1
      · rcases h with h | h
        · exact absurd h h1
        · exact h
  · rename_i h; rw [not_or] at h; simp [h.1]
theorem mem_addAll {ps : List Nat} : ∀ {L : List Nat} {x : Nat}, x ∈ addAll L ps ↔ x ∈ L ∨ (x ∈ ps ∧ x ≠ 0) := by
  induction ps with
  | nil => intro L x; simp [addAll_nil]
  | cons p ps ih =>
    intro L x
    rw [addAll_cons, ih, mem_addTo]
    constructor
    · rintro ((h | ⟨rfl, h⟩) | ⟨h, h'⟩)
      · exact .inl h
      · exact .inr ⟨by simp, h⟩
      · exact .inr ⟨by simp [h], h'⟩
    · rintro (h | ⟨h, h'⟩)
      · exact .inl (.inl h)
      · rcases List.mem_cons.1 h with rfl | h
        · exact .inl (.inr ⟨rfl, h'⟩)
        · exact .inr ⟨h, h'⟩
theorem addTo_prefix (L : List Nat) (p : Nat) : ∃ M, addTo L p = L ++ M ∧ ∀ x ∈ M, x = p := by
  unfold addTo; split
  · exact ⟨[], by simp⟩
  · exact ⟨[p], rfl, by simp⟩
theorem addAll_prefix (ps : List Nat) : ∀ L : List Nat, ∃ M, addAll L ps = L ++ M ∧ ∀ x ∈ M, x ∈ ps := by
  induction ps with
  | nil => intro L; exact ⟨[], by simp [addAll_nil]⟩
  | cons p ps ih =>
    intro L
    obtain ⟨M, hM, h1⟩ := addTo_prefix L p
    obtain ⟨M', hM', h2⟩ := ih (addTo L p)
    refine ⟨M ++ M', by rw [addAll_cons, hM', hM, List.append_assoc], fun x hx => ?_⟩
    rcases List.mem_append.1 hx with hx | hx
    · simp [h1 x hx]
    · simp [h2 x hx]
theorem addTo_length (L : List Nat) (p : Nat) : (addTo L p).length ≤ L.length + 1 := by
  unfold addTo; split <;> simp
theorem addTo_nodup {L : List Nat} (h : L.Nodup) (p : Nat) : (addTo L p).Nodup := by
  unfold addTo; split
  · exact h
  · rename_i hp; rw [not_or] at hp
    rw [List.nodup_append]
    refine ⟨h, by simp, ?_⟩
    intro a ha b hb e
    simp at hb; subst hb; subst e; exact hp.2 ha
theorem addAll_nodup (ps : List Nat) : ∀ {L : List Nat}, L.Nodup → (addAll L ps).Nodup := by
  induction ps with
  | nil => intro L h; exact h
  | cons p ps ih => intro L h; exact ih (addTo_nodup h p)
theorem addTo_pos {L : List Nat} (h : 0 ∉ L) (p : Nat) : 0 ∉ addTo L p := by rw [mem_addTo]; rintro (h1 | ⟨rfl, h1⟩); exact h h1; exact h1 rfl
theorem addAll_pos {L : List Nat} (h : 0 ∉ L) (ps : List Nat) : 0 ∉ addAll L ps := by rw [mem_addAll]; rintro (h1 | ⟨_, h1⟩); exact h h1; exact h1 rfl

/-- From L, of which the first i have been asked, one comes to R. -/
inductive Bfs (str : Nat → List Nat) : List Nat → Nat → List Nat → Prop
  | done {L : List Nat} {i : Nat} : L.length ≤ i → Bfs str L i L
  | step {L : List Nat} {i : Nat} {R : List Nat} : i < L.length → Bfs str (addAll L (str (L.getD i 0))) (i + 1) R → Bfs str L i R

theorem Bfs.unique {str : Nat → List Nat} {L : List Nat} {i : Nat} {R R' : List Nat} (h : Bfs str L i R) (h' : Bfs str L i R') : R = R' := by
  induction h with
  | done hl => cases h' with
    | done => rfl
    | step hs _ => omega
  | step hs _ ih => cases h' with
    | done => omega
    | step _ h2 => exact ih h2
theorem Bfs.pref {str : Nat → List Nat} {L : List Nat} {i : Nat} {R : List Nat} (h : Bfs str L i R) : ∃ M, R = L ++ M := by
  induction h with
  | done hl => exact ⟨[], by simp⟩
  | @step L i R hs _ ih =>
    obtain ⟨M, hM⟩ := ih
    obtain ⟨M', hM', hmem⟩ := addAll_prefix (str (L.getD i 0)) L
    exact ⟨M' ++ M, by rw [hM, hM', List.append_assoc]⟩
theorem Bfs.sub {str : Nat → List Nat} {L : List Nat} {i : Nat} {R : List Nat} (h : Bfs str L i R) : ∀ x ∈ L, x ∈ R := by
  obtain ⟨M, rfl⟩ := h.pref; intro x hx; simp [hx]
theorem Bfs.nodup {str : Nat → List Nat} {L : List Nat} {i : Nat} {R : List Nat} (h : Bfs str L i R) (hn : L.Nodup) : R.Nodup := by
  induction h with
  | done => exact hn
  | step _ _ ih => exact ih (addAll_nodup _ hn)
theorem Bfs.pos {str : Nat → List Nat} {L : List Nat} {i : Nat} {R : List Nat} (h : Bfs str L i R) (hn : 0 ∉ L) : 0 ∉ R := by
  induction h with
  | done => exact hn
  | step _ _ ih => exact ih (addAll_pos hn _)
/-- Closed behind i. -/
theorem Bfs.closed {str : Nat → List Nat} {L : List Nat} {i : Nat} {R : List Nat} (h : Bfs str L i R) : ∀ j, i ≤ j → j < R.length → ∀ q ∈ str (R.getD j 0), q ≠ 0 → q ∈ R := by
  induction h with
  | done hl => intro j h1 h2; omega
  | @step L i R hs hb ih =>
    intro j h1 h2 q hq h0
    by_cases e : i = j
    · subst e
      obtain ⟨M, hM⟩ := hb.pref
      obtain ⟨M', hM', hmem⟩ := addAll_prefix (str (L.getD i 0)) L
      have : R.getD i 0 = L.getD i 0 := by rw [hM, hM']; simp [List.getD, List.getElem?_append, hs]
      rw [this] at hq
      exact hb.sub _ (mem_addAll.2 (.inr ⟨hq, h0⟩))
    · exact ih j (by omega) h2 q hq h0
theorem Bfs.within {str : Nat → List Nat} {U : Nat → Prop} (hU : ∀ x, U x → ∀ q ∈ str x, q ≠ 0 → U q) {L : List Nat} {i : Nat} {R : List Nat} (h : Bfs str L i R) (hl : ∀ x ∈ L, U x) : ∀ x ∈ R, U x := by
  induction h with
  | done => exact hl
  | @step L i R hs _ ih =>
    refine ih (fun x hx => ?_)
    rcases mem_addAll.1 hx with hx | ⟨hx, h0⟩
    · exact hl x hx
    · exact hU (L.getD i 0) (hl _ (by simp [List.getD, hs])) x hx h0
/-- Whatever is in it was in L, or is what one ahead of it tells. -/
theorem Bfs.why {str : Nat → List Nat} {L : List Nat} {i : Nat} {R : List Nat} (h : Bfs str L i R) : ∀ j, L.length ≤ j → j < R.length → ∃ k, k < j ∧ R.getD j 0 ∈ str (R.getD k 0) := by
  induction h with
  | done hl => intro j h1 h2; omega
  | @step L i R hs hb ih =>
    intro j h1 h2
    by_cases hj : (addAll L (str (L.getD i 0))).length ≤ j
    · exact ih j hj h2
    · obtain ⟨M, hM⟩ := hb.pref
      obtain ⟨M', hM', hmem⟩ := addAll_prefix (str (L.getD i 0)) L
      have e1 : R.getD i 0 = L.getD i 0 := by rw [hM, hM']; simp [List.getD, List.getElem?_append, hs]
      have e2 : R.getD j 0 = M'.getD (j - L.length) 0 := by
        rw [hM'] at hj; simp at hj
        rw [hM, hM']; simp [List.getD, List.getElem?_append, show ¬ j < L.length by omega, hj, show j - L.length < M'.length by omega]
      refine ⟨i, by omega, ?_⟩
      rw [e1, e2]
      apply hmem
      have : j - L.length < M'.length := by rw [hM'] at hj; simp at hj; omega
      simp [List.getD, this]

/-- A place's order among others. -/
def ordR : List Nat → DataW Unit | [] => .map [] | p :: l => (ordR l).put (.int .i64 p) (.lit (.int .i64 l.length))
def ordD (L : List Nat) : DataW Unit := ordR L.reverse
theorem ordD_snoc (L : List Nat) (p : Nat) : ordD (L ++ [p]) = (ordD L).put (.int .i64 p) (.lit (.int .i64 L.length)) := by simp [ordD, ordR]
theorem isMap_ordR : ∀ l, IsMap (ordR l) | [] => isMap_empty | _ :: l => (isMap_ordR l).put _ _
theorem key_i (p : Nat) : WideAt.IsKeyLit (.int .i64 p) := by first | trivial | exact rfl | simp [WideAt.IsKeyLit]
theorem key_ne {a b : Int} (h : a ≠ b) : (Lit.int .i64 a) ≠ (Lit.int .i64 b) := by simpa using h
theorem has_ordR (p : Nat) : ∀ l, Maps.has (ordR l) (.int .i64 p) = decide (p ∈ l)
  | [] => by simp [ordR, Maps.has]
  | q :: l => by
    by_cases e : p = q
    · subst e; rw [ordR, has_put_same (isMap_ordR l) (key_i _)]; simp
    · rw [ordR, has_put_other (key_ne (by omega)), has_ordR p l]; simp [e]
theorem has_ordD (L : List Nat) (p : Nat) : Maps.has (ordD L) (.int .i64 p) = decide (p ∈ L) := by simp [ordD, has_ordR]
theorem at_ordR (p : Nat) (z : DataW Unit) : ∀ l, l.Nodup → (ordR l).atKey (.int .i64 p) z = if p ∈ l then .lit (.int .i64 (l.reverse.idxOf p : Nat)) else z
  | [], _ => by simp [ordR, DataW.atKey]
  | q :: l, hn => by
    rw [List.nodup_cons] at hn
    by_cases e : p = q
    · subst e
      rw [ordR, atKey_put_same (isMap_ordR l) (key_i _)]
      simp [List.idxOf_append, hn.1]
    · rw [ordR, atKey_put_other (key_ne (by omega)), at_ordR p z l hn.2]
      by_cases hp : p ∈ l
      · simp [hp, List.idxOf_append]
      · simp [hp, e]
theorem at_ordD {L : List Nat} (h : L.Nodup) (p : Nat) (z : DataW Unit) : (ordD L).atKey (.int .i64 p) z = if p ∈ L then .lit (.int .i64 (L.idxOf p : Nat)) else z := by
  have := at_ordR p z L.reverse (by unfold List.Nodup; rw [List.pairwise_reverse]; exact h.imp (fun h => Ne.symm h))
  simpa [ordD] using this
end Go.Proofs.Ytcacbbfeenebbaa
