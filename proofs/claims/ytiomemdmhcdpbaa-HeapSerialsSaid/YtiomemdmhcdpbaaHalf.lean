/- Plain laws: objects of which some are gone elsewhere; no program in sight. -/
import Derived.Test.YtiomemdmhcdpbaaLay
set_option linter.unusedSimpArgs false
set_option linter.unusedVariables false
namespace Go.Proofs.Ytiomemdmhcdpbaa
open Go.RowKit

theorem begs_ge (b : Nat) (ls : List (Nat × Ob)) : ∀ i, b ≤ begs b ls i
  | 0 => Nat.le_refl _
  | i + 1 => Nat.le_trans (begs_ge b ls i) (Nat.le_add_right _ _)
theorem begs_mono (b : Nat) (ls : List (Nat × Ob)) {i j : Nat} (h : i ≤ j) : begs b ls i ≤ begs b ls j := by
  induction h with
  | refl => exact Nat.le_refl _
  | step _ ih => exact Nat.le_trans ih (Nat.le_add_right _ _)

abbrev oo : Nat × Ob × Option Nat := (0, Ob.new 0 0 false false 0, none)
/-- Objects one behind the other, as they were before some of them went. -/
def OldL (X : List Nat) : Nat → Nat → List (Nat × Ob × Option Nat) → Prop
  | b, e, [] => b = e
  | b, e, (a, o, m) :: l => a = b ∧ o.Ok ∧ (match m with | none => At X a o | some t => Gone X a t) ∧ OldL X (b + o.took) e l
theorem OldL.of_laid {X : List Nat} : ∀ {l : List (Nat × Ob)} {b e : Nat}, Laid X b e l → OldL X b e (l.map fun x => (x.1, x.2, none))
  | [], _, _, h => h
  | (a, o) :: l, b, e, ⟨h1, h2, h3⟩ => ⟨h1, h2.ok, h2, OldL.of_laid h3⟩
theorem OldL.le {X : List Nat} : ∀ {l : List (Nat × Ob × Option Nat)} {b e : Nat}, OldL X b e l → b + 4 * l.length ≤ e
  | [], b, e, h => by have h : b = e := h; simp; omega
  | (a, o, m) :: l, b, e, ⟨h1, h2, _, h3⟩ => by
    have := OldL.le h3
    obtain ⟨_, _, q3, _⟩ := Ob.took_eq h2
    simp only [List.length_cons]; omega
/-- The entry i. -/
theorem OldL.at {X : List Nat} : ∀ {l : List (Nat × Ob × Option Nat)} {b e : Nat}, OldL X b e l → ∀ i, i < l.length →
    b ≤ (l.getD i oo).1 ∧ (l.getD i oo).1 + (l.getD i oo).2.1.took ≤ e ∧ (l.getD i oo).2.1.Ok ∧ (match (l.getD i oo).2.2 with | none => At X (l.getD i oo).1 (l.getD i oo).2.1 | some t => Gone X (l.getD i oo).1 t)
  | (a, o, m) :: l, b, e, ⟨h1, h2, h3, h4⟩, 0, _ => by
    have := OldL.le h4
    subst h1
    exact ⟨Nat.le_refl _, by show a + o.took ≤ e; omega, h2, h3⟩
  | (a, o, m) :: l, b, e, ⟨h1, h2, h3, h4⟩, i + 1, hi => by
    obtain ⟨k1, k2, k3, k4⟩ := OldL.at h4 i (by simpa using hi)
    exact ⟨by show b ≤ (l.getD i oo).1; omega, k2, k3, k4⟩
/-- Two entries lie apart. -/
theorem OldL.apart {X : List Nat} : ∀ {l : List (Nat × Ob × Option Nat)} {b e : Nat}, OldL X b e l → ∀ i j, i < j → j < l.length → (l.getD i oo).1 + (l.getD i oo).2.1.took ≤ (l.getD j oo).1
  | (a, o, m) :: l, b, e, ⟨h1, h2, h3, h4⟩, 0, j + 1, _, hj => by
    have := (OldL.at h4 j (by simpa using hj)).1
    subst h1; exact this
  | (a, o, m) :: l, b, e, ⟨h1, h2, h3, h4⟩, i + 1, j + 1, hij, hj => OldL.apart h4 i j (by omega) (by simpa using hj)
theorem Gone.congr {X Y : List Nat} {a t : Nat} (h : Gone X a t) (hl : Y.length = X.length) (he : Y.getD a 0 = X.getD a 0) : Gone Y a t := ⟨by rw [hl]; exact h.lt, h.pos, h.le, by rw [he]; exact h.word⟩
theorem OldL.congr {X Y : List Nat} (hl : Y.length = X.length) : ∀ {l : List (Nat × Ob × Option Nat)} {b e : Nat}, OldL X b e l → (∀ j, b ≤ j → j < e → Y.getD j 0 = X.getD j 0) → OldL Y b e l
  | [], _, _, h, _ => h
  | (a, o, m) :: l, b, e, ⟨h1, h2, h3, h4⟩, hj => by
    have := OldL.le h4
    obtain ⟨_, q2, q3, _⟩ := Ob.took_eq h2
    subst h1
    refine ⟨rfl, h2, ?_, OldL.congr hl h4 (fun j k1 k2 => hj j (by omega) k2)⟩
    cases m with
    | none => exact At.of_eq h3 (by rw [hl]; exact h3.room) (fun i hi => hj _ (by omega) (by omega))
    | some t => exact Gone.congr h3 hl (hj _ (by omega) (by omega))
/-- The entry i goes. -/
theorem OldL.go {X Y : List Nat} (hl : Y.length = X.length) {t : Nat} : ∀ {l : List (Nat × Ob × Option Nat)} {b e : Nat} {i : Nat}, OldL X b e l → i < l.length → Gone Y (l.getD i oo).1 t →
    (∀ j, b ≤ j → j < e → j ≠ (l.getD i oo).1 → Y.getD j 0 = X.getD j 0) → OldL Y b e (l.set i ((l.getD i oo).1, (l.getD i oo).2.1, some t))
  | (a, o, m) :: l, b, e, 0, ⟨h1, h2, h3, h4⟩, _, hg, hj => by
    subst h1
    obtain ⟨_, q2, q3, _⟩ := Ob.took_eq h2
    have hh : ∀ j, a + o.took ≤ j → j < e → Y.getD j 0 = X.getD j 0 := fun j k1 k2 => hj j (by omega) k2 (fun (e : j = a) => by omega)
    exact ⟨rfl, h2, hg, OldL.congr hl h4 hh⟩
  | (a, o, m) :: l, b, e, i + 1, ⟨h1, h2, h3, h4⟩, hi, hg, hj => by
    subst h1
    obtain ⟨_, q2, q3, _⟩ := Ob.took_eq h2
    have hi2 : i < l.length := by simpa using hi
    have hb := (OldL.at h4 i hi2).1
    have hle := OldL.le h4
    have hne : ∀ j, j < a + o.took → j ≠ (l.getD i oo).1 := fun j h => by omega
    refine ⟨rfl, h2, ?_, OldL.go hl h4 hi2 hg (fun j k1 k2 k3 => hj j (by omega) k2 k3)⟩
    cases m with
    | none => exact At.of_eq h3 (by rw [hl]; exact h3.room) (fun k hk => hj _ (by omega) (by omega) (hne _ (by omega)))
    | some t' => exact Gone.congr h3 hl (hj _ (by omega) (by omega) (hne _ (by omega)))

/-- Places from bo on of which some are gone to places from bn on. -/
structure Half (Rel : Ob → Ob → Prop) (X : List Nat) (bo eo : Nat) (old : List (Nat × Ob × Option Nat)) (bn en : Nat) (cur : List (Nat × Ob)) : Prop where
  ol : OldL X bo eo old
  cl : Laid X bn en cur
  gone : ∀ i, i < old.length → ∀ t, (old.getD i oo).2.2 = some t → ∃ j, j < cur.length ∧ begs bn cur j = t ∧ Rel (old.getD i oo).2.1 (cur.getD j (0, Ob.new 0 0 false false 0)).2
  inj : ∀ i j t, i < old.length → j < old.length → (old.getD i oo).2.2 = some t → (old.getD j oo).2.2 = some t → i = j

theorem getD_snoc {α : Type} (l : List α) (x d : α) {i : Nat} (h : i < l.length) : (l ++ [x]).getD i d = l.getD i d := by simp [List.getD, List.getElem?_append, h]
theorem getD_snoc' {α : Type} (l : List α) (x d : α) : (l ++ [x]).getD l.length d = x := by simp [List.getD]
theorem begs_snoc (b : Nat) (l : List (Nat × Ob)) (x : Nat × Ob) : ∀ {i : Nat}, i ≤ l.length → begs b (l ++ [x]) i = begs b l i
  | 0, _ => rfl
  | i + 1, h => by
    show begs b (l ++ [x]) i + _ = begs b l i + _
    rw [begs_snoc b l x (by omega), getD_snoc l x _ (by omega)]

/-- One more goes. -/
theorem Half.go {Rel : Ob → Ob → Prop} (hrel : ∀ o, Rel o o) {X : List Nat} {bo eo : Nat} {old : List (Nat × Ob × Option Nat)} {bn en : Nat} {cur : List (Nat × Ob)} (h : Half Rel X bo eo old bn en cur) {i : Nat} (hi : i < old.length) {a : Nat} {o : Ob} (hg : old.getD i oo = (a, o, none))
    {lim : Nat} (hlim : en + o.took ≤ lim) (hX : lim ≤ X.length) (hap : eo ≤ bn ∨ lim ≤ bo) (h1 : 1 ≤ en) (h2 : en ≤ 131072) :
    Half Rel (cpd X a en o.size) bo eo (old.set i (a, o, some en)) bn (en + o.took) (cur ++ [(en, o)]) ∧ At X a o := by
  have hat := OldL.at h.ol i hi
  rw [hg] at hat
  obtain ⟨k1, k2, k3, k4⟩ := hat
  have k1 : bo ≤ a := k1
  have k2 : a + o.took ≤ eo := k2
  have k3 : o.Ok := k3
  have k4 : At X a o := k4
  have hend := Lie.end h.cl.lie
  have hbn : bn ≤ en := by rw [← hend]; exact begs_ge _ _ _
  obtain ⟨_, q2, q3, _⟩ := Ob.took_eq k3
  have hr : en + o.size ≤ X.length := by omega
  have hd : a + o.size ≤ en ∨ en + o.size ≤ a := by omega
  have hal := k4.lt
  have hlen := cpd_length (xs := X) (a := a) hr
  have hA := cpd_at k4 hr hd
  have hG := cpd_gone k4 hr h1 h2
  have hw := cpd_getD (a := a) hr hal
  generalize cpd X a en o.size = Y at *
  refine ⟨⟨?_, ?_, ?_, ?_⟩, k4⟩
  · have := OldL.go (Y := Y) hlen (t := en) h.ol hi (by rw [hg]; exact hG) (fun j j1 j2 j3 => by
      rw [hg] at j3
      have j3 : j ≠ a := j3
      rw [hw, if_neg j3, if_neg (by omega)])
    rw [hg] at this
    exact this
  · refine Laid.snoc (Laid.congr hlen h.cl (fun j j1 j2 => ?_)) hA
    rw [hw, if_neg (by omega), if_neg (by omega)]
  · intro j hj t ht
    rw [List.length_set] at hj
    by_cases e : j = i
    · subst e
      have this : (old.set j (a, o, some en)).getD j oo = (a, o, some en) := by simp [List.getD, hj]
      rw [this] at ht
      have ht : some en = some t := ht
      injection ht with ht
      subst ht
      exact ⟨cur.length, by simp, by rw [begs_snoc _ _ _ (Nat.le_refl _)]; exact hend, by rw [getD_snoc', this]; exact hrel o⟩
    · have : (old.set i (a, o, some en)).getD j oo = old.getD j oo := by simp [List.getD, List.getElem?_set_ne (Ne.symm e)]
      rw [this] at ht ⊢
      obtain ⟨k, k5, k6, k7⟩ := h.gone j hj t ht
      exact ⟨k, by simp; omega, by rw [begs_snoc _ _ _ (by omega)]; exact k6, by rw [getD_snoc _ _ _ k5]; exact k7⟩
  · have hlow : ∀ j, j < old.length → (old.getD j oo).2.2 ≠ some en := fun j hj e => by
      obtain ⟨k, k5, k6, _⟩ := h.gone j hj en e
      obtain ⟨_, k8, _, k9⟩ := Lie.at h.cl.lie k k5
      obtain ⟨_, _, k10, _⟩ := Ob.took_eq k8
      have : begs bn cur k + (cur.getD k (0, Ob.new 0 0 false false 0)).2.took ≤ en := k9
      omega
    have hset : ∀ j, j < old.length → j ≠ i → (old.set i (a, o, some en)).getD j oo = old.getD j oo := fun j hj e => by simp [List.getD, List.getElem?_set_ne (Ne.symm e)]
    have hself : (old.set i (a, o, some en)).getD i oo = (a, o, some en) := by simp [List.getD, hi]
    intro j k t hj hk h3 h4
    rw [List.length_set] at hj hk
    by_cases e1 : j = i
    · by_cases e2 : k = i
      · rw [e1, e2]
      · rw [e1, hself] at h3
        rw [hset k hk e2] at h4
        have h3 : some en = some t := h3
        injection h3 with h3; subst h3
        exact absurd h4 (hlow k hk)
    · rw [hset j hj e1] at h3
      by_cases e2 : k = i
      · rw [e2, hself] at h4
        have h4 : some en = some t := h4
        injection h4 with h4; subst h4
        exact absurd h3 (hlow j hj)
      · rw [hset k hk e2] at h4
        exact h.inj j k t hj hk h3 h4

/-- How many words are still to go. -/
def owed : List (Nat × Ob × Option Nat) → Nat
  | [] => 0
  | (_, o, none) :: l => o.took + owed l
  | (_, _, some _) :: l => owed l
theorem owed_go {t : Nat} : ∀ {l : List (Nat × Ob × Option Nat)} {i : Nat} {a : Nat} {o : Ob}, i < l.length → l.getD i oo = (a, o, none) → owed (l.set i (a, o, some t)) + o.took = owed l
  | (a', o', m) :: l, 0, a, o, _, h => by
    have h : (a', o', m) = (a, o, none) := h
    injection h with h1 h2; injection h2 with h2 h3; subst h1; subst h2; subst h3
    show owed l + o'.took = o'.took + owed l
    omega
  | (a', o', m) :: l, i + 1, a, o, hi, h => by
    have ih := owed_go (t := t) (l := l) (i := i) (a := a) (o := o) (by simpa using hi) h
    cases m with
    | none => show o'.took + owed (l.set i (a, o, some t)) + o.took = o'.took + owed l; omega
    | some t' => exact ih
theorem owed_laid {X : List Nat} : ∀ {l : List (Nat × Ob)} {b e : Nat}, Laid X b e l → b + owed (l.map fun x => (x.1, x.2, none)) = e
  | [], b, e, h => h
  | (a, o) :: l, b, e, ⟨h1, h2, h3⟩ => by
    have := owed_laid h3
    show b + (o.took + owed (l.map fun x => (x.1, x.2, none))) = e
    omega
theorem Half.start {Rel : Ob → Ob → Prop} {X : List Nat} {b e bn : Nat} {l : List (Nat × Ob)} (h : Laid X b e l) : Half Rel X b e (l.map fun x => (x.1, x.2, none)) bn bn [] := by
  have hn : ∀ i, i < (l.map fun x : Nat × Ob => (x.1, x.2, (none : Option Nat))).length → ((l.map fun x : Nat × Ob => (x.1, x.2, (none : Option Nat))).getD i oo).2.2 = none := fun i hi => by
    have : i < l.length := by simpa using hi
    simp [List.getD, this]
  exact ⟨OldL.of_laid h, rfl, (fun i hi t ht => by rw [hn i hi] at ht; cases ht), (fun i j t hi hj h1 h2 => by rw [hn i hi] at h1; cases h1)⟩

abbrev o0 : Nat × Ob := (0, Ob.new 0 0 false false 0)
/-- One object turned, its size kept. -/
theorem Laid.upd {X X' : List Nat} {o' : Ob} (hl : X'.length = X.length) : ∀ {ls : List (Nat × Ob)} {b e i : Nat}, Laid X b e ls → i < ls.length → At X' (begs b ls i) o' → o'.took = (ls.getD i o0).2.took →
    (∀ j, j < begs b ls i ∨ begs b ls i + o'.took ≤ j → X'.getD j 0 = X.getD j 0) → Laid X' b e (ls.set i (begs b ls i, o'))
  | (a, o) :: ls, b, e, 0, ⟨h1, h2, h3⟩, _, ha, ht, hj => by
    have ht : o'.took = o.took := ht
    show Laid X' b e ((b, o') :: ls)
    refine ⟨rfl, ha, ?_⟩
    rw [ht]
    exact Laid.congr hl h3 (fun j k1 k2 => hj j (.inr (by show b + o'.took ≤ j; omega)))
  | (a, o) :: ls, b, e, i + 1, ⟨h1, h2, h3⟩, hi, ha, ht, hj => by
    rw [begs_cons] at ha hj ⊢
    have hb : b + o.took ≤ begs (b + o.took) ls i := begs_ge _ _ _
    have hr := h2.room
    obtain ⟨_, q2, _, _⟩ := Ob.took_eq h2.ok
    refine ⟨h1, h2.of_eq (by rw [hl]; exact hr) (fun k hk => hj _ (.inl (by simp only at hb ⊢; omega))), ?_⟩
    exact Laid.upd hl h3 (by simpa using hi) ha ht hj

theorem plc_set {X : List Nat} {b e i : Nat} {ls : List (Nat × Ob)} (h : Laid X b e ls) (hi : i < ls.length) (o : Ob) : plc (ls.set i (begs b ls i, o)) = plc ls := by
  have := (Lie.at h.lie i hi).1
  simp only [plc, List.map_set]
  rw [← this]
  apply List.ext_getElem (by simp)
  intro j h1 h2
  rw [List.getElem_set]
  split
  · rename_i e; subst e; simp [List.getD, hi]
  · rfl
theorem getD_set_self {α : Type} (l : List α) {i : Nat} (x d : α) (h : i < l.length) : (l.set i x).getD i d = x := by simp [List.getD, h]
theorem getD_set_ne {α : Type} (l : List α) {i j : Nat} (x d : α) (h : i ≠ j) : (l.set i x).getD j d = l.getD j d := by simp [List.getD, List.getElem?_set_ne h]

end Go.Proofs.Ytiomemdmhcdpbaa
