/- Plain laws of the heap: objects in two spaces; no program in sight. -/
import Derived.Test.YtiomemdmhcdpbaaHalf
set_option linter.unusedSimpArgs false
set_option linter.unusedVariables false
namespace Go.Proofs.Ytiomemdmhcdpbaa
open Go.RowKit

/-- What stays when an object is moved or changed: its shape and its serial. -/
def SameK (o o' : Ob) : Prop := o'.p = o.p ∧ o'.d = o.d ∧ o'.wk = o.wk ∧ o'.fn = o.fn ∧ o'.ser = o.ser
theorem SameK.refl (o : Ob) : SameK o o := ⟨rfl, rfl, rfl, rfl, rfl⟩
theorem SameK.trans {a b c : Ob} (h : SameK a b) (k : SameK b c) : SameK a c := ⟨k.1.trans h.1, k.2.1.trans h.2.1, k.2.2.1.trans h.2.2.1, k.2.2.2.1.trans h.2.2.2.1, k.2.2.2.2.trans h.2.2.2.2⟩
theorem SameK.took {a b : Ob} (h : SameK a b) : b.took = a.took := by unfold Ob.took Ob.size; rw [h.1, h.2.1]
theorem SameK.size {a b : Ob} (h : SameK a b) : b.size = a.size := by unfold Ob.size; rw [h.1, h.2.1]

/-- A heap: the words of a space, which space is in use, whether objects go over, the objects of the space in use, those of the other one (gone where), where scanning stands, the last serial, the weak objects' places, those to be finalized. -/
structure HS where
  n : Nat
  u : Bool
  mv : Bool
  cur : List (Nat × Ob)
  old : List (Nat × Ob × Option Nat)
  scan : Nat
  ser : Nat
  weak : List Nat
  fin : List Nat
/-- Where a space begins. -/
def HS.base (s : HS) (b : Bool) : Nat := bif b then 1 + s.n else 1
def tookC : List (Nat × Ob) → Nat | [] => 0 | (_, o) :: l => o.took + tookC l
def tookO : List (Nat × Ob × Option Nat) → Nat | [] => 0 | (_, o, _) :: l => o.took + tookO l
/-- Where the space in use, and the other one, end. -/
def HS.top (s : HS) : Nat := s.base s.u + tookC s.cur
def HS.otop (s : HS) : Nat := s.base (!s.u) + tookO s.old
def HS.room (s : HS) : Int := (s.n : Int) - tookC s.cur - owed s.old
abbrev opl (l : List (Nat × Ob × Option Nat)) : List Nat := l.map (·.1)
theorem tookC_snoc (l : List (Nat × Ob)) (x : Nat × Ob) : tookC (l ++ [x]) = tookC l + x.2.took := by
  induction l with
  | nil => show x.2.took + 0 = 0 + x.2.took; omega
  | cons y l ih => show y.2.took + tookC (l ++ [x]) = y.2.took + tookC l + x.2.took; omega
theorem Laid.top {X : List Nat} : ∀ {l : List (Nat × Ob)} {b e : Nat}, Laid X b e l → b + tookC l = e
  | [], b, e, h => h
  | (a, o) :: l, b, e, ⟨_, _, h⟩ => by have := Laid.top h; show b + (o.took + tookC l) = e; omega
theorem OldL.top {X : List Nat} : ∀ {l : List (Nat × Ob × Option Nat)} {b e : Nat}, OldL X b e l → b + tookO l = e
  | [], b, e, h => h
  | (a, o, m) :: l, b, e, ⟨_, _, _, h⟩ => by have := OldL.top h; show b + (o.took + tookO l) = e; omega
theorem owed_le : ∀ l : List (Nat × Ob × Option Nat), owed l ≤ tookO l
  | [] => Nat.le_refl _
  | (_, o, none) :: l => by have := owed_le l; show o.took + owed l ≤ o.took + tookO l; omega
  | (_, o, some _) :: l => by have := owed_le l; show owed l ≤ o.took + tookO l; omega
theorem tookO_fresh (l : List (Nat × Ob)) : tookO (l.map fun x => (x.1, x.2, (none : Option Nat))) = tookC l := by
  induction l with
  | nil => rfl
  | cons x l ih => show x.2.took + _ = x.2.took + _; omega
theorem owed_fresh (l : List (Nat × Ob)) : owed (l.map fun x => (x.1, x.2, (none : Option Nat))) = tookC l := by
  induction l with
  | nil => rfl
  | cons x l ih => show x.2.took + _ = x.2.took + _; omega

/-- The words X hold the heap s. -/
structure HRep (s : HS) (X : List Nat) : Prop where
  n1 : 16 ≤ s.n
  n2 : s.n ≤ 16384
  len : X.length = 2 * s.n + 1
  zero : X.getD 0 0 = 0
  half : Half SameK X (s.base (!s.u)) s.otop s.old (s.base s.u) s.top s.cur
  oroom : tookO s.old ≤ s.n
  room : tookC s.cur + owed s.old ≤ s.n
  still : s.mv = false → s.old = []
  ser : s.ser ≤ 1099511627776
  few : s.weak.length ≤ 100000 ∧ s.fin.length ≤ 100000

/-- The object at a place of the space in use. -/
theorem HRep.at_ {s : HS} {X : List Nat} (h : HRep s X) {i : Nat} (hi : i < s.cur.length) : At X (s.cur.getD i (0, Ob.new 0 0 false false 0)).1 (s.cur.getD i (0, Ob.new 0 0 false false 0)).2 := by
  have h1 := h.half.cl.at i hi
  rw [← (Lie.at h.half.cl.lie i hi).1] at h1
  exact h1
theorem base_sep (s : HS) : (s.u = true → s.base s.u = 1 + s.n ∧ s.base (!s.u) = 1) ∧ (s.u = false → s.base s.u = 1 ∧ s.base (!s.u) = 1 + s.n) := by
  constructor <;> intro h <;> rw [h] <;> exact ⟨rfl, rfl⟩
/-- The two spaces lie apart. -/
theorem HRep.sep {s : HS} {X : List Nat} (h : HRep s X) : (s.base s.u + s.n ≤ s.base (!s.u) ∨ s.base (!s.u) + s.n ≤ s.base s.u) ∧ s.base s.u + s.n ≤ X.length ∧ s.base (!s.u) + s.n ≤ X.length ∧ 1 ≤ s.base s.u ∧ 1 ≤ s.base (!s.u) := by
  have h1 := base_sep s
  have h2 := h.len
  cases hu : s.u
  · obtain ⟨e1, e2⟩ := h1.2 hu; rw [hu] at e1 e2; rw [e1, e2]; omega
  · obtain ⟨e1, e2⟩ := h1.1 hu; rw [hu] at e1 e2; rw [e1, e2]; omega
theorem HRep.top_le {s : HS} {X : List Nat} (h : HRep s X) : s.top + owed s.old ≤ s.base s.u + s.n ∧ s.otop ≤ s.base (!s.u) + s.n := by
  have h1 := h.room; have h2 := h.oroom
  unfold HS.top HS.otop; omega

/-- An object of the space in use is turned, its shape and serial kept. -/
def HS.upd (s : HS) (i : Nat) (o : Ob) : HS := { s with cur := s.cur.set i ((s.cur.getD i (0, Ob.new 0 0 false false 0)).1, o) }
theorem tookC_set : ∀ (l : List (Nat × Ob)) (i : Nat) (x : Nat × Ob), i < l.length → x.2.took = (l.getD i (0, Ob.new 0 0 false false 0)).2.took → tookC (l.set i x) = tookC l
  | y :: l, 0, x, _, h => by
    have h : x.2.took = y.2.took := h
    show x.2.took + tookC l = y.2.took + tookC l; omega
  | y :: l, i + 1, x, hi, h => by
    have := tookC_set l i x (by simpa using hi) h
    show y.2.took + tookC (l.set i x) = y.2.took + tookC l; omega
theorem Half.upd {X X' : List Nat} {bo eo bn en : Nat} {old : List (Nat × Ob × Option Nat)} {cur : List (Nat × Ob)} (h : Half SameK X bo eo old bn en cur) (hap : eo ≤ bn ∨ en ≤ bo) {i : Nat} (hi : i < cur.length) {o' : Ob} (hl : X'.length = X.length)
    (ha : At X' (begs bn cur i) o') (hs : SameK (cur.getD i (0, Ob.new 0 0 false false 0)).2 o') (hj : ∀ j, j < begs bn cur i ∨ begs bn cur i + o'.took ≤ j → X'.getD j 0 = X.getD j 0) :
    Half SameK X' bo eo old bn en (cur.set i (begs bn cur i, o')) := by
  have hb := begs_ge bn cur i
  obtain ⟨_, h8, _, h9⟩ := Lie.at h.cl.lie i hi
  have h9 : begs bn cur i + (cur.getD i (0, Ob.new 0 0 false false 0)).2.took ≤ en := h9
  have ht := hs.took
  refine ⟨OldL.congr hl h.ol (fun j j1 j2 => hj j (by omega)), Laid.upd hl h.cl hi ha ht hj, fun k hk t ht2 => ?_, h.inj⟩
  obtain ⟨q, q1, q2, q3⟩ := h.gone k hk t ht2
  refine ⟨q, by simpa using q1, ?_, ?_⟩
  · rw [← q2]
    have : ∀ m, m ≤ cur.length → begs bn (cur.set i (begs bn cur i, o')) m = begs bn cur m := by
      intro m
      induction m with
      | zero => intro _; rfl
      | succ m ih =>
        intro hm
        show begs bn (cur.set i (begs bn cur i, o')) m + _ = begs bn cur m + _
        rw [ih (by omega)]
        by_cases e : m = i
        · subst e; rw [getD_set_self _ _ _ hi]; show _ + o'.took = _; rw [ht]
        · rw [getD_set_ne _ _ _ (Ne.symm e)]
    exact this q (by omega)
  · by_cases e : q = i
    · subst e
      rw [getD_set_self _ _ _ hi]
      exact q3.trans hs
    · rw [getD_set_ne _ _ _ (Ne.symm e)]; exact q3

abbrev ob0 : Nat × Ob := (0, Ob.new 0 0 false false 0)
theorem HRep.apart {s : HS} {X : List Nat} (h : HRep s X) : s.otop ≤ s.base s.u ∨ s.base s.u + s.n ≤ s.base (!s.u) := by
  have h1 := h.sep; have h2 := h.top_le; omega
theorem HRep.place {s : HS} {X : List Nat} (h : HRep s X) {i : Nat} (hi : i < s.cur.length) : (s.cur.getD i ob0).1 = begs (s.base s.u) s.cur i ∧ s.base s.u ≤ (s.cur.getD i ob0).1 ∧ (s.cur.getD i ob0).1 + (s.cur.getD i ob0).2.took ≤ s.top := by
  obtain ⟨h1, _, _, h2⟩ := Lie.at h.half.cl.lie i hi
  exact ⟨h1, by rw [h1]; exact begs_ge _ _ _, by rw [h1]; exact h2⟩

/-- An object of the space in use is turned. -/
theorem HRep.upd {s : HS} {X X' : List Nat} (h : HRep s X) {i : Nat} (hi : i < s.cur.length) {o' : Ob} (hl : X'.length = X.length) (ha : At X' (s.cur.getD i ob0).1 o') (hs : SameK (s.cur.getD i ob0).2 o')
    (hj : ∀ j, j < (s.cur.getD i ob0).1 ∨ (s.cur.getD i ob0).1 + (s.cur.getD i ob0).2.size ≤ j → X'.getD j 0 = X.getD j 0) : HRep (s.upd i o') X' := by
  obtain ⟨hp, hb, ht⟩ := h.place hi
  have hsep := h.sep
  have htop := h.top_le
  have hok := (h.at_ hi).ok
  have e1 : tookC (s.cur.set i ((s.cur.getD i ob0).1, o')) = tookC s.cur := tookC_set _ _ _ hi hs.took
  obtain ⟨_, q2, _, _⟩ := Ob.took_eq hok
  have hsz := hs.took
  refine ⟨h.n1, h.n2, by rw [hl]; exact h.len, by rw [hj 0 (by omega)]; exact h.zero, ?_, h.oroom, ?_, h.still, h.ser, h.few⟩
  · have e2 : (s.upd i o').top = s.top := by unfold HS.top; show s.base s.u + tookC (s.cur.set i ((s.cur.getD i ob0).1, o')) = _; rw [e1]
    rw [e2]
    have q3 : (s.cur.getD i ob0).2.size ≤ o'.took := by rw [hsz]; exact q2
    have hj' : ∀ j, j < begs (s.base s.u) s.cur i ∨ begs (s.base s.u) s.cur i + o'.took ≤ j → X'.getD j 0 = X.getD j 0 := fun j k => hj j (by
      rw [hp]; omega)
    have := Half.upd h.half (by have := h.apart; omega) hi hl (by rw [← hp]; exact ha) hs hj'
    rw [← hp] at this
    exact this
  · show tookC (s.cur.set i ((s.cur.getD i ob0).1, o')) + _ ≤ _
    rw [e1]; exact h.room

/-- An object is laid. -/
def HS.alloc (s : HS) (p d : Nat) (wk fn : Bool) : HS :=
  { s with cur := s.cur ++ [(s.top, Ob.new p d wk fn (s.ser + 1))], ser := s.ser + 1, weak := bif wk then s.weak ++ [s.top] else s.weak, fin := bif fn then s.fin ++ [s.top] else s.fin }
theorem HRep.alloc {s : HS} {X : List Nat} (h : HRep s X) {p d : Nat} {wk fn : Bool} (hok : okS p d wk fn) (hr : rnd ((3 + p + d : Nat) : Int) ≤ s.room) (hs : s.ser < 1099511627776) (hf : s.weak.length < 100000 ∧ s.fin.length < 100000) :
    HRep (s.alloc p d wk fn) (made X s.top p d wk fn (s.ser + 1)) ∧ s.top + (3 + p + d) ≤ X.length := by
  have hO : (Ob.new p d wk fn (s.ser + 1)).Ok := Ob.new_ok hok (by omega)
  obtain ⟨q1, q2, q3, q4⟩ := Ob.took_eq hO
  have hsz : (Ob.new p d wk fn (s.ser + 1)).size = 3 + p + d := rfl
  rw [hsz] at q1 q2
  have hsep := h.sep
  have htop := h.top_le
  have hap := h.apart
  have hrm := h.room
  have hor := h.oroom
  unfold HS.room at hr
  have htk : s.top + (Ob.new p d wk fn (s.ser + 1)).took + owed s.old ≤ s.base s.u + s.n := by unfold HS.top; omega
  have hb : s.base s.u ≤ s.top := by unfold HS.top; omega
  have hX : s.top + (3 + p + d) ≤ X.length := by omega
  have hg := made_getD (wk := wk) (fn := fn) (ser := s.ser + 1) hX
  have hA := made_at (xs := X) hok (by omega : s.ser + 1 ≤ 1099511627776) hX
  have hlen := made_length X s.top p d wk fn (s.ser + 1)
  have hout : ∀ j, j < s.top ∨ s.top + (3 + p + d) ≤ j → (made X s.top p d wk fn (s.ser + 1)).getD j 0 = X.getD j 0 := fun j hj => by
    rw [hg, if_neg (by omega), if_neg (by omega), if_neg (by omega)]
  have e2 : (s.alloc p d wk fn).top = s.top + (Ob.new p d wk fn (s.ser + 1)).took := by
    show s.base s.u + tookC (s.cur ++ [(s.top, Ob.new p d wk fn (s.ser + 1))]) = _
    rw [tookC_snoc]
    show s.base s.u + (tookC s.cur + (Ob.new p d wk fn (s.ser + 1)).took) = s.base s.u + tookC s.cur + (Ob.new p d wk fn (s.ser + 1)).took
    omega
  refine ⟨⟨h.n1, h.n2, by rw [hlen]; exact h.len, by rw [hout 0 (by omega)]; exact h.zero, ⟨?_, ?_, fun i hi t ht => ?_, h.half.inj⟩, h.oroom, ?_, h.still, by show s.ser + 1 ≤ _; omega, ?_⟩, hX⟩
  · refine OldL.congr hlen h.half.ol (fun j j1 j2 => hout j ?_)
    have j1' : s.base (!s.u) ≤ j := j1
    have j2' : j < s.otop := j2
    omega
  · rw [e2]
    exact Laid.snoc (Laid.congr hlen h.half.cl (fun j j1 j2 => hout j (.inl j2))) hA
  · obtain ⟨j, k5, k6, k7⟩ := h.half.gone i hi t ht
    exact ⟨j, by show j < (s.cur ++ [_]).length; simp; omega, by show begs _ (s.cur ++ [_]) j = t; rw [begs_snoc _ _ _ (by omega)]; exact k6, by show SameK _ ((s.cur ++ [_]).getD j _).2; rw [getD_snoc _ _ _ k5]; exact k7⟩
  · show tookC (s.cur ++ [_]) + owed s.old ≤ s.n
    rw [tookC_snoc]
    show tookC s.cur + (Ob.new p d wk fn (s.ser + 1)).took + owed s.old ≤ s.n
    omega
  · show (bif wk then s.weak ++ [s.top] else s.weak).length ≤ _ ∧ (bif fn then s.fin ++ [s.top] else s.fin).length ≤ _
    cases wk <;> cases fn <;> simp <;> omega

/-- The spaces change their parts. -/
def HS.flip (s : HS) : HS := { s with u := !s.u, mv := true, cur := [], old := s.cur.map fun x => (x.1, x.2, none), scan := s.base (!s.u) }
theorem HRep.flip {s : HS} {X : List Nat} (h : HRep s X) (hm : s.mv = false) : HRep s.flip X := by
  have hold := h.still hm
  have hrm := h.room
  have hb : s.flip.base (!s.flip.u) = s.base s.u := by show s.base (!!s.u) = _; rw [Bool.not_not]
  refine ⟨h.n1, h.n2, h.len, h.zero, ?_, ?_, ?_, (fun e => by cases e), h.ser, h.few⟩
  · rw [hb]
    have e1 : s.flip.otop = s.top := by
      show s.flip.base (!s.flip.u) + tookO (s.cur.map fun x => (x.1, x.2, none)) = _
      rw [hb, tookO_fresh]; rfl
    have e2 : s.flip.top = s.flip.base s.flip.u := rfl
    rw [e1, e2]
    exact Half.start h.half.cl
  · show tookO (s.cur.map fun x => (x.1, x.2, none)) ≤ _
    rw [tookO_fresh]; show tookC s.cur ≤ s.n; omega
  · show 0 + owed (s.cur.map fun x => (x.1, x.2, none)) ≤ _
    rw [owed_fresh]; show 0 + tookC s.cur ≤ s.n; omega

/-- An object goes over. -/
def HS.move (s : HS) (i : Nat) : HS := { s with cur := s.cur ++ [(s.top, (s.old.getD i oo).2.1)], old := s.old.set i ((s.old.getD i oo).1, (s.old.getD i oo).2.1, some s.top) }
theorem tookO_set : ∀ (l : List (Nat × Ob × Option Nat)) (i : Nat) (x : Nat × Ob × Option Nat), i < l.length → x.2.1.took = (l.getD i oo).2.1.took → tookO (l.set i x) = tookO l
  | (a, o, m) :: l, 0, (a', o', m'), _, h => by
    have h : o'.took = o.took := h
    show o'.took + tookO l = o.took + tookO l; omega
  | (a, o, m) :: l, i + 1, x, hi, h => by
    have := tookO_set l i x (by simpa using hi) h
    show o.took + tookO (l.set i x) = o.took + tookO l; omega
theorem HRep.move {s : HS} {X : List Nat} (h : HRep s X) {i : Nat} (hi : i < s.old.length) {a : Nat} {o : Ob} (hg : s.old.getD i oo = (a, o, none)) :
    HRep (s.move i) (cpd X a s.top o.size) ∧ At X a o ∧ s.top + o.took ≤ s.base s.u + s.n ∧ owed (s.move i).old + o.took = owed s.old := by
  have how := owed_go (t := s.top) hi hg
  have hsep := h.sep
  have hap := h.apart
  have hrm := h.room
  have hn2 := h.n2
  have hlen := h.len
  have hb : s.base s.u ≤ s.top := by unfold HS.top; omega
  have e0 : s.move i = { s with cur := s.cur ++ [(s.top, o)], old := s.old.set i (a, o, some s.top) } := by unfold HS.move; rw [hg]
  have htk : s.top + o.took ≤ s.base s.u + s.n := by unfold HS.top; omega
  obtain ⟨h1, h2⟩ := h.half.go SameK.refl hi hg (lim := s.base s.u + s.n) htk (by omega) hap (by omega) (by omega)
  obtain ⟨q1, q2, q3, q4⟩ := Ob.took_eq h2.ok
  obtain ⟨k1, k2, _, _⟩ := h.half.ol.at i hi
  rw [hg] at k1
  have k1 : s.base (!s.u) ≤ a := k1
  have hr : s.top + o.size ≤ X.length := by omega
  have e2 : (s.move i).top = s.top + o.took := by
    rw [e0]; show s.base s.u + tookC (s.cur ++ [(s.top, o)]) = _
    rw [tookC_snoc]
    show s.base s.u + (tookC s.cur + o.took) = s.base s.u + tookC s.cur + o.took
    omega
  have e3 : (s.move i).otop = s.otop := by
    rw [e0]; show s.base (!s.u) + tookO (s.old.set i (a, o, some s.top)) = _
    rw [tookO_set _ _ _ hi (by rw [hg])]; rfl
  refine ⟨⟨h.n1, h.n2, ?_, ?_, ?_, ?_, ?_, fun e => ?_, h.ser, h.few⟩, h2, htk, by rw [e0]; exact how⟩
  · rw [cpd_length hr]; exact h.len
  · rw [cpd_getD hr h2.lt, if_neg (by omega), if_neg (by omega)]; exact h.zero
  · rw [e2, e3]; rw [e0]; exact h1
  · rw [e0]; show tookO (s.old.set i (a, o, some s.top)) ≤ s.n
    rw [tookO_set _ _ _ hi (by rw [hg])]; exact h.oroom
  · rw [e0]; show tookC (s.cur ++ [(s.top, o)]) + owed (s.old.set i (a, o, some s.top)) ≤ s.n
    rw [tookC_snoc]; show tookC s.cur + o.took + _ ≤ _; omega
  · rw [e0] at e
    have := h.still e
    rw [this] at hi; simp at hi

/-- What stayed behind is let go of. -/
def HS.drop (s : HS) : HS := { s with mv := false, old := [] }
theorem HRep.drop {s : HS} {X : List Nat} (h : HRep s X) : HRep s.drop X :=
  ⟨h.n1, h.n2, h.len, h.zero, ⟨rfl, h.half.cl, fun i hi => by simp [HS.drop] at hi, fun i j t hi => by simp [HS.drop] at hi⟩, Nat.zero_le _, by have := h.room; show tookC s.cur + 0 ≤ s.n; omega, fun _ => rfl, h.ser, h.few⟩

end Go.Proofs.Ytiomemdmhcdpbaa
