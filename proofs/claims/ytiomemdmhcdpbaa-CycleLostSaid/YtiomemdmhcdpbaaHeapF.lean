/- Plain laws of a heap's view: pointers told anew. What view returns. What Canon returns. -/
import Derived.Test.YtiomemdmhcdpbaaHeapE
import Derived.Test.YtiomemdmhcdpbaaHeapL
import Derived.Test.YtiomemdmhcdpbaaCanon
set_option linter.unusedSimpArgs false
set_option linter.unusedVariables false
namespace Go.Proofs.Ytiomemdmhcdpbaa
open Go.RowKit Go.Shelf

/-- An object that lies, or lay, at a place. -/
def Entry (s : HS) (p : Nat) (o : Ob) : Prop := (p, o) ∈ s.cur ∨ ∃ m, (p, o, m) ∈ s.old
theorem Live.entry {s : HS} {p : Nat} {o : Ob} (h : Live s p o) : Entry s p o := h.imp id (fun h => ⟨none, h⟩)
theorem Entry.sep {s : HS} {X : List Nat} (h : HRep s X) {p q : Nat} {o u : Ob} (hp : Entry s p o) (hq : Entry s q u) (hne : p ≠ q) : p + o.took ≤ q ∨ q + u.took ≤ p := by
  have hap := h.apart
  have htop := h.top_le
  rcases hp with hp | ⟨m, hp⟩ <;> rcases hq with hq | ⟨m', hq⟩
  · obtain ⟨i, hi, e1⟩ := mem_get ob0 hp
    obtain ⟨j, hj, e2⟩ := mem_get ob0 hq
    rcases Nat.lt_trichotomy i j with hl | rfl | hl
    · have := h.cur_lt hl hj; rw [e1, e2] at this; exact .inl this
    · rw [e1] at e2; cases e2; exact absurd rfl hne
    · have := h.cur_lt hl hi; rw [e1, e2] at this; exact .inr this
  · obtain ⟨_, a1, a2, _⟩ := h.cur_ok hp
    obtain ⟨_, b1, b2⟩ := h.old_ok hq
    simp only at a1 a2 b1 b2
    omega
  · obtain ⟨_, a1, a2⟩ := h.old_ok hp
    obtain ⟨_, b1, b2, _⟩ := h.cur_ok hq
    simp only at a1 a2 b1 b2
    omega
  · obtain ⟨i, hi, e1⟩ := mem_get oo hp
    obtain ⟨j, hj, e2⟩ := mem_get oo hq
    rcases Nat.lt_trichotomy i j with hl | rfl | hl
    · have := h.half.ol.apart i j hl hj; rw [e1, e2] at this; exact .inl this
    · rw [e1] at e2; cases e2; exact absurd rfl hne
    · have := h.half.ol.apart j i hl hi; rw [e1, e2] at this; exact .inr this
theorem Entry.ok {s : HS} {X : List Nat} (h : HRep s X) {p : Nat} {o : Ob} (hp : Entry s p o) : o.Ok ∧ 1 ≤ p ∧ 4 ≤ o.took := by
  have hsep := h.sep
  rcases hp with hp | ⟨m, hp⟩
  · obtain ⟨a0, a1, a2, _⟩ := h.cur_ok hp
    obtain ⟨_, _, q, _⟩ := Ob.took_eq a0
    exact ⟨a0, by simp only at a1; omega, q⟩
  · obtain ⟨a0, a1, a2⟩ := h.old_ok hp
    obtain ⟨_, _, q, _⟩ := Ob.took_eq a0
    exact ⟨a0, by simp only at a1; omega, q⟩
theorem Live.at_ {s : HS} {X : List Nat} (h : HRep s X) {p : Nat} {o : Ob} (hl : Live s p o) : At X p o := by
  rcases hl with hl | hl
  · exact (h.cur_ok hl).2.2.2
  · obtain ⟨i, hi, e⟩ := mem_get oo hl
    have := (h.half.ol.at i hi).2.2.2
    rw [e] at this; exact this
theorem Entry.unique {s : HS} {X : List Nat} (h : HRep s X) {p : Nat} {o u : Ob} (hp : (p, o) ∈ s.cur) : ¬ ∃ m, (p, u, m) ∈ s.old := by
  rintro ⟨m, hq⟩
  have hap := h.apart
  have htop := h.top_le
  obtain ⟨a0, a1, a2, _⟩ := h.cur_ok hp
  obtain ⟨b0, b1, b2⟩ := h.old_ok hq
  obtain ⟨_, _, q1, _⟩ := Ob.took_eq a0
  obtain ⟨_, _, q2, _⟩ := Ob.took_eq b0
  simp only at a1 a2 b1 b2 q1 q2
  omega
/-- The object of the place q has gone to t. -/
def GoneTo (s : HS) (q t : Nat) : Prop := ∃ i o, OldAt s i q o (some t)
theorem OldAt.mem' {s : HS} {i a : Nat} {o : Ob} {m : Option Nat} (c : OldAt s i a o m) : (a, o, m) ∈ s.old := by rw [← c.get]; exact get_mem' _ c.lt
theorem old_same {s : HS} {X : List Nat} (h : HRep s X) {x y : Nat × Ob × Option Nat} (hx : x ∈ s.old) (hy : y ∈ s.old) (e : x.1 = y.1) : x = y := by
  obtain ⟨i, hi, rfl⟩ := mem_get oo hx
  obtain ⟨j, hj, rfl⟩ := mem_get oo hy
  obtain ⟨_, _, k1, _⟩ := h.half.ol.at i hi
  obtain ⟨_, _, k2, _⟩ := h.half.ol.at j hj
  obtain ⟨_, _, q1, _⟩ := Ob.took_eq k1
  obtain ⟨_, _, q2, _⟩ := Ob.took_eq k2
  rcases Nat.lt_trichotomy i j with hl | rfl | hl
  · have := h.half.ol.apart i j hl hj; omega
  · rfl
  · have := h.half.ol.apart j i hl hi; omega
theorem GoneTo.unique {s : HS} {X : List Nat} (h : HRep s X) {q t t' : Nat} (h1 : GoneTo s q t) (h2 : GoneTo s q t') : t = t' := by
  obtain ⟨i, o, c⟩ := h1
  obtain ⟨j, u, d⟩ := h2
  have := old_same h c.mem' d.mem' rfl
  cases this; rfl
theorem GoneTo.gone {s : HS} {X : List Nat} (h : HRep s X) {q t : Nat} (g : GoneTo s q t) : Gone X q t := by
  obtain ⟨i, o, c⟩ := g
  have := (h.half.ol.at i c.lt).2.2.2
  rw [c.get] at this; exact this
theorem GoneTo.cur {s : HS} {X : List Nat} (h : HRep s X) {q t : Nat} (g : GoneTo s q t) : t ∈ plc s.cur := by
  obtain ⟨i, o, c⟩ := g; exact c.gone_cur h
/-- Where a place leads. -/
noncomputable def fwd (s : HS) (q : Nat) : Nat := open Classical in if h : ∃ t, GoneTo s q t then h.choose else q
theorem fwd_gone {s : HS} {X : List Nat} (h : HRep s X) {q t : Nat} (g : GoneTo s q t) : fwd s q = t := by
  unfold fwd
  have hx : ∃ t, GoneTo s q t := ⟨t, g⟩
  rw [dif_pos hx]
  exact GoneTo.unique h hx.choose_spec g
theorem fwd_not {s : HS} {q : Nat} (g : ¬ ∃ t, GoneTo s q t) : fwd s q = q := by unfold fwd; rw [dif_neg g]
theorem fwd_cur {s : HS} {X : List Nat} (h : HRep s X) {q : Nat} (hq : q ∈ plc s.cur) : fwd s q = q := by
  refine fwd_not ?_
  rintro ⟨t, i, o, c⟩
  obtain ⟨x, hx, rfl⟩ := List.mem_map.1 hq
  exact Entry.unique h (o := x.2) (u := o) (by exact hx) ⟨some t, c.mem'⟩
theorem fwd_idem {s : HS} {X : List Nat} (h : HRep s X) (q : Nat) : fwd s (fwd s q) = fwd s q := by
  by_cases g : ∃ t, GoneTo s q t
  · obtain ⟨t, g⟩ := g
    rw [fwd_gone h g]; exact fwd_cur h (g.cur h)
  · rw [fwd_not g, fwd_not g]
noncomputable def Ob.fw (s : HS) (o : Ob) : Ob := { o with ps := o.ps.map (fwd s) }
noncomputable def Ob.fwK (s : HS) (o : Ob) (k : Nat) : Ob := { o with ps := (o.ps.take k).map (fwd s) ++ o.ps.drop k }
theorem Ob.fwK_zero (s : HS) (o : Ob) : o.fwK s 0 = o := by simp [Ob.fwK]
theorem Ob.fwK_all (s : HS) (o : Ob) : o.fwK s o.ps.length = o.fw s := by simp [Ob.fwK, Ob.fw]
theorem Ob.fwK_succ (s : HS) (o : Ob) {k : Nat} (hk : k < o.ps.length) : o.fwK s (k + 1) = { o.fwK s k with ps := (o.fwK s k).ps.set k (fwd s (o.ps.getD k 0)) } := by
  unfold Ob.fwK
  have : (o.ps.take (k + 1)).map (fwd s) ++ o.ps.drop (k + 1) = ((o.ps.take k).map (fwd s) ++ o.ps.drop k).set k (fwd s (o.ps.getD k 0)) := by
    have e := List.drop_eq_getElem_cons hk
    rw [take_succ_getD o.ps hk, e, List.set_append_right _ _ (by simp; omega)]
    have e2 : k - ((o.ps.take k).map (fwd s)).length = 0 := by simp; omega
    rw [e2, List.set_cons_zero, List.map_append, List.append_assoc]; rfl
  rw [this]
theorem Ob.fwK_get (s : HS) (o : Ob) {k : Nat} (hk : k < o.ps.length) : (o.fwK s k).ps.getD k 0 = o.ps.getD k 0 := by
  unfold Ob.fwK
  simp only [List.getD]
  rw [List.getElem?_append_right (by simp; omega)]
  simp [hk, Nat.min_eq_left (Nat.le_of_lt hk)]
theorem Ob.fwK_stay (s : HS) (o : Ob) {k : Nat} (hk : k < o.ps.length) (e : fwd s (o.ps.getD k 0) = o.ps.getD k 0) : o.fwK s (k + 1) = o.fwK s k := by
  rw [Ob.fwK_succ s o hk, e]
  have : (o.fwK s k).ps.set k (o.ps.getD k 0) = (o.fwK s k).ps := by
    rw [← Ob.fwK_get s o hk]
    apply List.ext_getElem (by simp)
    intro j h1 h2
    rw [List.getElem_set]
    split
    · rename_i e; subst e; simp [List.getD, h2]
    · rfl
  rw [this]
theorem Ob.fw_fw {s : HS} {X : List Nat} (h : HRep s X) (o : Ob) : (o.fw s).fw s = o.fw s := by
  unfold Ob.fw
  simp only [List.map_map]
  congr 1
  exact List.map_congr_left (fun q _ => fwd_idem h q)

/-- What the object at a place is, some places having been told anew. -/
noncomputable def nowOb (s : HS) (done : List Nat) (p : Nat) (o : Ob) : Ob := if p ∈ done then o.fw s else o
theorem nowOb_fw {s : HS} {X : List Nat} (h : HRep s X) (done : List Nat) (p : Nat) (o : Ob) : (nowOb s done p o).fw s = o.fw s := by
  unfold nowOb; split
  · exact Ob.fw_fw h o
  · rfl
theorem nowOb_same (s : HS) (done : List Nat) (p : Nat) (o : Ob) : (nowOb s done p o).size = o.size ∧ (nowOb s done p o).p = o.p ∧ (nowOb s done p o).ps.length = o.ps.length := by
  unfold nowOb; split
  · exact ⟨rfl, rfl, by simp [Ob.fw]⟩
  · exact ⟨rfl, rfl, rfl⟩
/-- The view's words, when the places of 'done' have been told anew, and the first k pointers of the object at p0. -/
structure VI (s : HS) (n : Nat) (done : List Nat) (p0 k : Nat) (X' : List Nat) : Prop where
  len : X'.length = n
  zero : X'.getD 0 0 = 0
  live : ∀ p o, Live s p o → At X' p (if p = p0 then (nowOb s done p o).fwK s k else nowOb s done p o)
  gone : ∀ a t, GoneTo s a t → Gone X' a t
theorem VI.start {s : HS} {X : List Nat} (h : HRep s X) : VI s X.length [] 0 0 X :=
  ⟨rfl, h.zero, fun p o hl => by
    have e : (if p = 0 then (nowOb s [] p o).fwK s 0 else nowOb s [] p o) = o := by simp [nowOb, Ob.fwK_zero]
    rw [e]; exact hl.at_ h, fun a t g => g.gone h⟩
theorem VI.begin {s : HS} {X' : List Nat} {n p1 : Nat} {done : List Nat} (h : VI s n done p1 0 X') (p0 : Nat) : VI s n done p0 0 X' :=
  ⟨h.len, h.zero, fun p o hl => by
    have := h.live p o hl
    rw [Ob.fwK_zero] at this ⊢
    simpa using this, h.gone⟩
theorem VI.skip {s : HS} {X' : List Nat} {n p1 : Nat} {done : List Nat} (h : VI s n done p1 0 X') {p0 : Nat} (hn : ∀ o, ¬ Live s p0 o) : VI s n (done ++ [p0]) p0 0 X' :=
  ⟨h.len, h.zero, fun p o hl => by
    have := h.live p o hl
    rw [Ob.fwK_zero] at this ⊢
    have hne : p ≠ p0 := fun e => hn o (e ▸ hl)
    have e : nowOb s (done ++ [p0]) p o = nowOb s done p o := by simp [nowOb, hne]
    rw [e]; simpa using this, h.gone⟩
theorem VI.end {s : HS} {X X' : List Nat} (hr : HRep s X) {n p0 k : Nat} {done : List Nat} (h : VI s n done p0 k X') {o : Ob} (hl : Live s p0 o) (hk : k = o.p) : VI s n (done ++ [p0]) p0 0 X' :=
  ⟨h.len, h.zero, fun p u hu => by
    have := h.live p u hu
    rw [Ob.fwK_zero]
    by_cases e : p = p0
    · subst e
      rw [if_pos rfl] at this ⊢
      have hlp := (hu.at_ hr).ok.lp
      have hp : u.p = o.p := by
        have h1 := hu.entry; have h2 := hl.entry
        rcases hu with hu | hu <;> rcases hl with hl | hl
        · obtain ⟨i, hi, e1⟩ := mem_get ob0 hu
          obtain ⟨j, hj, e2⟩ := mem_get ob0 hl
          by_cases hij : i = j
          · subst hij; rw [e1] at e2; cases e2; rfl
          · exfalso
            obtain ⟨_, _, q1⟩ := h1.ok hr
            obtain ⟨_, _, q2⟩ := h2.ok hr
            rcases Nat.lt_or_gt_of_ne hij with hlt | hlt
            · have := hr.cur_lt hlt hj; rw [e1, e2] at this; simp only at this; omega
            · have := hr.cur_lt hlt hi; rw [e1, e2] at this; simp only at this; omega
        · exact absurd ⟨none, hl⟩ (Entry.unique hr hu)
        · exact absurd ⟨none, hu⟩ (Entry.unique hr hl)
        · have := old_same hr hu hl rfl; cases this; rfl
      have e3 : k = (nowOb s done p u).ps.length := by rw [(nowOb_same s done p u).2.2, hlp, hp]; exact hk
      rw [e3, Ob.fwK_all, nowOb_fw hr] at this
      have e4 : nowOb s (done ++ [p]) p u = u.fw s := by simp [nowOb]
      rw [e4]; exact this
    · rw [if_neg e] at this ⊢
      have e4 : nowOb s (done ++ [p0]) p u = nowOb s done p u := by simp [nowOb, e]
      rw [e4]; exact this, h.gone⟩
theorem VI.stay {s : HS} {X X' : List Nat} (hr : HRep s X) {n p0 k : Nat} {done : List Nat} (h : VI s n done p0 k X') {o : Ob} (hl : Live s p0 o) (hk : k < o.p) (hu : ∀ u, Live s p0 u → u = o) (e : fwd s ((nowOb s done p0 o).ps.getD k 0) = (nowOb s done p0 o).ps.getD k 0) : VI s n done p0 (k + 1) X' :=
  ⟨h.len, h.zero, fun p u hu' => by
    have := h.live p u hu'
    by_cases e1 : p = p0
    · subst e1
      rw [if_pos rfl] at this ⊢
      have := hu u hu'; subst this
      rw [Ob.fwK_stay s _ (by rw [(nowOb_same s done p u).2.2, (hl.at_ hr).ok.lp]; exact hk) e]
      assumption
    · rw [if_neg e1] at this ⊢; exact this, h.gone⟩
theorem VI.set {s : HS} {X X' : List Nat} (hr : HRep s X) {n p0 k : Nat} {done : List Nat} (h : VI s n done p0 k X') {o : Ob} (hl : Live s p0 o) (hk : k < o.p) (hu : ∀ u, Live s p0 u → u = o) {v : Nat} (e : fwd s ((nowOb s done p0 o).ps.getD k 0) = v) (hv : v ≤ 131072) : VI s n done p0 (k + 1) (X'.set (p0 + 3 + k) v) := by
  obtain ⟨_, h1, h4⟩ := hl.entry.ok hr
  have hok := (hl.at_ hr).ok
  obtain ⟨_, hts, _, _⟩ := Ob.took_eq hok
  have hsz : o.size = 3 + o.p + o.d := rfl
  refine ⟨by rw [List.length_set]; exact h.len, by rw [getD_set, if_neg (by omega)]; exact h.zero, fun p u hu' => ?_, fun a t g => ?_⟩
  · have hat := h.live p u hu'
    by_cases e1 : p = p0
    · subst e1
      rw [if_pos rfl] at hat ⊢
      have e2 := hu u hu'; subst e2
      rw [Ob.fwK_succ s _ (by rw [(nowOb_same s done p u).2.2, hok.lp]; exact hk), e]
      exact hat.setPtr (i := k) (by show k < (nowOb s done p u).p; rw [(nowOb_same s done p u).2.1]; exact hk) hv
    · rw [if_neg e1] at hat ⊢
      refine hat.far ?_
      rw [(nowOb_same s done p u).1]
      have hs := Entry.sep hr hu'.entry hl.entry e1
      obtain ⟨_, hts2, _, _⟩ := Ob.took_eq (hu'.at_ hr).ok
      omega
  · have hg := h.gone a t g
    obtain ⟨i, u, c⟩ := g
    have hea : Entry s a u := .inr ⟨_, c.mem'⟩
    have hne : a ≠ p0 := fun e => by
      subst e
      rcases hl with hl | hl
      · exact Entry.unique hr hl ⟨_, c.mem'⟩
      · have := old_same hr hl c.mem' rfl; cases this
    have hs := Entry.sep hr hea hl.entry hne
    obtain ⟨_, _, q4⟩ := hea.ok hr
    exact hg.congr (by simp) (by rw [getD_set, if_neg (by omega)])
theorem live_unique {s : HS} {X : List Nat} (hr : HRep s X) {p : Nat} {o u : Ob} (h1 : Live s p o) (h2 : Live s p u) : u = o := by
  rcases h1 with h1 | h1 <;> rcases h2 with h2 | h2
  · obtain ⟨i, hi, e1⟩ := mem_get ob0 h1
    obtain ⟨j, hj, e2⟩ := mem_get ob0 h2
    obtain ⟨_, _, q1⟩ := Entry.ok hr (show Entry s p o from .inl h1)
    obtain ⟨_, _, q2⟩ := Entry.ok hr (show Entry s p u from .inl h2)
    by_cases hij : i = j
    · subst hij; rw [e1] at e2; cases e2; rfl
    · exfalso
      rcases Nat.lt_or_gt_of_ne hij with hlt | hlt
      · have := hr.cur_lt hlt hj; rw [e1, e2] at this; simp only at this; omega
      · have := hr.cur_lt hlt hi; rw [e1, e2] at this; simp only at this; omega
  · exact absurd ⟨none, h2⟩ (Entry.unique hr h1)
  · exact absurd ⟨none, h1⟩ (Entry.unique hr h2)
  · have := old_same hr h1 h2 rfl; cases this; rfl

end Go.Proofs.Ytiomemdmhcdpbaa

namespace Go.Proofs.Ytiomemdmhcdpbaa
open Go.RowKit Go.Shelf

def PtrOk (s : HS) (q : Nat) : Prop := q = 0 ∨ (∃ u, Live s q u) ∨ ∃ t, GoneTo s q t
theorem Place.ptr {s : HS} {q : Nat} (h : Place s q) : PtrOk s q := by
  rcases h with h | h | h
  · exact .inl h
  · obtain ⟨x, hx, rfl⟩ := List.mem_map.1 h
    exact .inr (.inl ⟨x.2, .inl hx⟩)
  · obtain ⟨i, o, m, c⟩ := OldAt.of_mem h
    cases m with
    | none => exact .inr (.inl ⟨o, .inr c.mem'⟩)
    | some t => exact .inr (.inr ⟨t, i, o, c⟩)
theorem PtrOk.fwd {s : HS} {X : List Nat} (hr : HRep s X) {q : Nat} (h : PtrOk s q) : PtrOk s (fwd s q) := by
  by_cases g : ∃ t, GoneTo s q t
  · obtain ⟨t, g⟩ := g
    rw [fwd_gone hr g]
    obtain ⟨x, hx, e⟩ := List.mem_map.1 (g.cur hr)
    exact .inr (.inl ⟨x.2, .inl (by rw [← e]; exact hx)⟩)
  · rw [fwd_not g]; exact h
theorem nowOb_ptr {s : HS} {X : List Nat} (hr : HRep s X) {done : List Nat} {p : Nat} {o : Ob} (h : ∀ q ∈ o.ps, PtrOk s q) : ∀ q ∈ (nowOb s done p o).ps, PtrOk s q := by
  unfold nowOb
  split
  · intro q hq
    obtain ⟨x, hx, rfl⟩ := List.mem_map.1 hq
    exact (h x hx).fwd hr
  · exact h
theorem GoneTo.not_live {s : HS} {X : List Nat} (hr : HRep s X) {a t : Nat} (g : GoneTo s a t) (o : Ob) : ¬ Live s a o := by
  obtain ⟨i, u, c⟩ := g
  rintro (h | h)
  · exact Entry.unique hr h ⟨_, c.mem'⟩
  · have := old_same hr h c.mem' rfl; cases this
theorem Gone.head {X : List Nat} {a t : Nat} (h : Gone X a t) : X.getD a 0 < 18446744073709551616 ∧ ∀ p d wk fn fr, ¬ isHead (X.getD a 0) p d wk fn fr := by
  have h1 := h.word; have h2 := h.le
  refine ⟨by omega, fun p d wk fn fr hh => ?_⟩
  have := isHead_odd hh
  omega
theorem l0_ptr {s : HS} {X : List Nat} (hr : HRep s X) : (∀ a ∈ l0 s, (∃ u, Live s a u) ∨ ∃ t, GoneTo s a t) ∧ (∀ a ∈ l1 s, (∃ u, Live s a u) ∨ ∃ t, GoneTo s a t) ∧ (∀ p o, Live s p o → p ∈ l0 s ++ l1 s) ∧ (l0 s).length ≤ 4096 ∧ (l1 s).length ≤ 4096 := by
  have hc : ∀ a ∈ plc s.cur, (∃ u, Live s a u) ∨ ∃ t, GoneTo s a t := fun a ha => by
    obtain ⟨x, hx, rfl⟩ := List.mem_map.1 ha
    exact .inl ⟨x.2, .inl hx⟩
  have ho : ∀ a ∈ opl s.old, (∃ u, Live s a u) ∨ ∃ t, GoneTo s a t := fun a ha => by
    obtain ⟨i, o, m, c⟩ := OldAt.of_mem ha
    cases m with
    | none => exact .inl ⟨o, .inr c.mem'⟩
    | some t => exact .inr ⟨t, i, o, c⟩
  have hf := hr.few_cur
  have hl : ∀ p o, Live s p o → p ∈ plc s.cur ∨ p ∈ opl s.old := fun p o h => by
    rcases h with h | h
    · exact .inl (List.mem_map.2 ⟨_, h, rfl⟩)
    · exact .inr (List.mem_map.2 ⟨_, h, rfl⟩)
  cases hu : s.u
  · simp only [l0, l1, hu, cond_false]
    exact ⟨hc, ho, fun p o h => by simp only [List.mem_append]; exact hl p o h, by simpa using hf.1, by simpa using hf.2⟩
  · simp only [l0, l1, hu, cond_true]
    exact ⟨ho, hc, fun p o h => by simp only [List.mem_append]; exact (hl p o h).symm, by simpa using hf.2, by simpa using hf.1⟩
def ViewS (w : World) (p c : Nat) (s : HS) (n : Nat) (done : List Nat) (p0 k : Nat) (wr : World) : Prop := ∃ X', VI s n done p0 k X' ∧ Ar wr p c X' ∧ Calm w wr
/-- What view leaves. -/
def ViewPost (w : World) (s : HS) (n : Nat) (e : Ending) (w' : World) : Prop :=
  ∃ p c X2, e = .returned (.tuple #[arV p, .int .i64 0]) ∧ Ar w' p c X2 ∧ Calm w w' ∧ X2.length = n ∧ X2.getD 0 0 = 0 ∧ ∀ p o, Live s p o → At X2 p (o.fw s)
theorem copy_step (X : List Nat) {n k : Nat} (hn : X.length = n) (hk : k < n) : (X.take k ++ List.replicate (n - k) 0).set k (X.getD k 0) = X.take (k + 1) ++ List.replicate (n - (k + 1)) 0 := by
  rw [take_succ_getD X (by omega), List.set_append_right _ _ (by simp; omega), List.append_assoc]
  have e2 : k - (X.take k).length = 0 := by simp; omega
  rw [e2, show n - k = (n - (k + 1)) + 1 by omega, List.replicate_succ, List.set_cons_zero]; rfl

theorem index2_0 (x y : Value) (W : World) : (Instr.index 82 (.agg #[x, y]) (.int .i64 (0 : Int))).run Try.prog W = .ok x W := by
  simp [Instr.index, run_underlying Try.underlying82, asIntOf, go_sem]
theorem index2_1 (x y : Value) (W : World) : (Instr.index 82 (.agg #[x, y]) (.int .i64 (1 : Int))).run Try.prog W = .ok y W := by
  simp [Instr.index, run_underlying Try.underlying82, asIntOf, go_sem]

set_option maxRecDepth 4000 in
set_option maxHeartbeats 8000000 in
theorem view_is {w : World} {B : HB} {s : HS} {X : List Nat} (h : HAt w B s X) (hp : ∀ p o, Live s p o → ∀ q ∈ o.ps, PtrOk s q) :
    Calls Try.prog 71 #[hpV B] w (ViewPost w s X.length) := by
  obtain ⟨n, hn⟩ : ∃ n, X.length = n := ⟨_, rfl⟩
  have hnb : n ≤ 65536 := by rw [← hn]; exact h.ar.2.2.2
  have hn1 : 1 ≤ n := by have := h.rep.len; have := h.rep.n1; omega
  rw [hn]
  obtain ⟨k0, k1, kl, kn0, kn1⟩ := l0_ptr h.rep
  have H := hid h
  have y0 := (h.own (i := 0) (v := arV B.ap) rfl).1
  have y7 := (h.own (i := 7) (v := B.v0) rfl).1
  have y8 := (h.own (i := 8) (v := B.v1) rfl).1
  have hlen := hid (len_is w B.ap B.ac X h.ar)
  rw [hn] at hlen
  have hr0 := h.r0
  have hr1 := h.r1
  obtain ⟨M0, hM0⟩ : ∃ M, (l0 s).length = M := ⟨_, rfl⟩
  obtain ⟨M1, hM1⟩ : ∃ M, (l1 s).length = M := ⟨_, rfl⟩
  obtain ⟨a0, c0, e0⟩ := hr0.sliceN (n := M0) (by simp [hM0])
  obtain ⟨a1, c1, e1⟩ := hr1.sliceN (n := M1) (by simp [hM1])
  rw [e0] at hr0 y7
  rw [e1] at hr1 y8
  rw [hM0] at kn0
  rw [hM1] at kn1
  replace hp := hid hp
  replace hn := hid hn
  replace k0 := hid k0
  replace k1 := hid k1
  replace kl := hid kl
  replace hr0 := hid hr0
  replace hr1 := hid hr1
  replace hM0 := hid hM0
  replace hM1 := hid hM1
  replace e0 := hid e0
  replace e1 := hid e1
  obtain ⟨L0, hL0⟩ : ∃ L, l0 s = L := ⟨_, rfl⟩
  obtain ⟨L1, hL1⟩ : ∃ L, l1 s = L := ⟨_, rfl⟩
  rw [hL0] at k0 kl hr0 hM0
  rw [hL1] at k1 kl hr1 hM1
  clear h hL0 hL1
  go_enter Try.func71, Try.ntmps71
  go_wp2_with fail
  refine (hlen.out).mono ?_
  rintro e w1 ⟨rfl, rfl⟩
  go_wp2_with fail
  refine (new_yes w1 n hn1 hnb).mono ?_
  rintro e w2 ⟨p, c, rfl, har, c2, hpn, hcn⟩
  have y0' := c2.cellAt y0 id
  go_wp2_with fail
  refine (len_is w2 p c _ har).mono ?_
  rintro e w2' ⟨rfl, rfl⟩
  have hrl : (List.replicate n 0).length = n := by simp
  rw [hrl]
  replace har := hid har
  clear hrl hlen
  go_wp2_with fail
  go_loopw [35] (fun i wr => ∃ k : Nat, k ≤ n ∧ i = .int .i64 k ∧ Hid (Ar wr p c (X.take k ++ List.replicate (n - k) 0)) ∧ Calm w1 wr) (fun i _ => n - (intOf i).toNat)
  case atStart => exact ⟨0, by omega, rfl, by simpa using har, c2⟩
  case round =>
    obtain ⟨k, hk, rfl, hA, ck⟩ := hrel
    rcases Nat.lt_or_ge k n with hlt | hge
    · have ylo := hid (fun W (cw : Calm w1 W) => load_yes W B.ap B.ac X (H.out.ar.calm cw) k (by rw [hn.out]; exact hlt))
      have yst := hid (fun v => store_yes wr p c _ hA.out k (by simp [hn.out]; omega) v)
      have yset := hid (hA.out.set (k := k) (by simp [hn.out]; omega) (X.getD k 0))
      rw [copy_step X hn.out hlt] at yset
      have y0k := ck.cellAt y0 id
      clear hA
      generalize X.getD k 0 = x at *
      go_wp2_with fail
      refine (ylo.out _ ck).mono ?_
      rintro e w3 ⟨rfl, rfl⟩
      go_wp2_with fail
      refine (yst.out x).mono ?_
      rintro e w4 ⟨rfl, rfl⟩
      go_wp2_with fail
      go_roundw
      case rel => exact ⟨k + 1, by omega, by go_num, yset, ck.join ((Fr.refl (fun j => j = c) _).setCell (p := ⟨c, k, none⟩) (.inl rfl) _) (fun j h1 h2 => by omega)⟩
      case measure => simp [intOf]; omega
    · obtain rfl : k = n := by omega
      have hA1 : Ar wr p c X := by
        have := hA.out
        rw [List.take_of_length_le (by rw [hn.out]; exact Nat.le_refl _), Nat.sub_self, List.replicate_zero, List.append_nil] at this
        exact this
      have y7a := ck.cellAt y7 id
      have y8a := ck.cellAt y8 id
      have hV0 : Hid (ViewS w1 p c s k [] 0 0 wr) := ⟨X, hn.out ▸ VI.start H.out.rep, hA1, ck⟩
      clear hA hA1 har c2 y0 y0' y7 y8
      go_wp2_with fail
      go_loopw [56] (fun i wx => ∃ u : Nat, u ≤ 2 ∧ i = .int .i64 u ∧ ViewS w1 p c s k (if u = 0 then [] else if u = 1 then L0 else L0 ++ L1) 0 0 wx) (fun i _ => 2 - (intOf i).toNat)
      case atStart => exact ⟨0, by omega, rfl, hV0.out⟩
      case round =>
        clear hV0 ck y7a y8a
        obtain ⟨u, hu, rfl, hV⟩ := hrel
        have hu3 : u = 0 ∨ u = 1 ∨ u = 2 := by omega
        rcases hu3 with rfl | rfl | rfl
        · replace hV : Hid (ViewS w1 p c s k ([] : List Nat) 0 0 wr) := hV
          rw [show ((0 : Nat) : Int) = 0 from rfl]
          have hix := fun W => index2_0 (.slice a0 M0 c0) (.slice a1 M1 c1) W
          go_wp2_with fail
          go_loopw [61] (fun i wy => ∃ j : Nat, j ≤ M0 ∧ i = .int .i64 j ∧ ViewS w1 p c s k (([] : List Nat) ++ L0.take j) 0 0 wy) (fun i _ => M0 - (intOf i).toNat)
          case atStart => exact ⟨0, by omega, rfl, by simpa using hV.out⟩
          case round =>
            clear hV
            obtain ⟨j, hj, rfl, X', hVI, hA, hc⟩ := hrel
            rcases Nat.lt_or_ge j M0 with hlt | hge
            · have hjl : j < L0.length := by rw [hM0.out]; exact hlt
              obtain ⟨g, gc, hv', _, hg0, _⟩ := (hr0.out.calm hc).get (k := j) (by simpa using hjl)
              injection hv' with hv1 hv2 hv3
              subst hv1
              rw [show (nI L0).getD j 0 = ((L0.getD j 0 : Nat) : Int) by simp [List.getD, hjl]] at hg0
              have hcl := k0.out (L0.getD j 0) (by simp [List.getD, hjl])
              have htk := hid (take_succ_getD L0 hjl)
              clear hv2 hv3 hjl
              generalize L0.getD j 0 = a at *
              generalize hdn : ([] : List Nat) ++ L0.take j = dn at *
              rcases hcl with ⟨o, hl⟩ | ⟨t, hg⟩
              · have hsh := hid (at_shape hA ((hVI.begin a).live a o hl))
                rw [if_pos rfl, Ob.fwK_zero] at hsh
                have hnsh : (nowOb s dn a o).p = o.p ∧ (nowOb s dn a o).d = o.d ∧ (nowOb s dn a o).wk = o.wk ∧ (nowOb s dn a o).fn = o.fn ∧ (nowOb s dn a o).fr = o.fr := by unfold nowOb; split <;> exact ⟨rfl, rfl, rfl, rfl, rfl⟩
                rw [hnsh.1, hnsh.2.1, hnsh.2.2.1, hnsh.2.2.2.1, hnsh.2.2.2.2] at hsh
                have ho8 : o.p ≤ 8 := (hl.at_ H.out.rep).ok.sh.1
                have hV2 := hid (hVI.begin a)
                replace hA := hid hA
                replace hl := hid hl
                replace hdn := hid hdn
                clear hVI hnsh
                go_wp2_with fail
                refine (hsh.out).mono ?_
                rintro e w3 ⟨rfl, c3⟩
                have o13 := OwnL.new w3 [.int .i64 o.p, .int .i64 o.d, .bool o.wk, .bool o.fn] 32
                have c4 : Calm wr (w3.alloc (.cells #[.int .i64 o.p, .int .i64 o.d, .bool o.wk, .bool o.fn] 32)) := c3.alloc _
                have x0 := (o13 0 _ rfl).1
                have hV4 : Hid (ViewS w1 p c s k dn a 0 (w3.alloc (.cells #[.int .i64 o.p, .int .i64 o.d, .bool o.wk, .bool o.fn] 32))) := ⟨X', hV2.out, hA.out.calm c4, hc.trans c4⟩
                clear o13 c3 c4 hA hV2 hsh hg0
                go_wp2_with fail
                clear x0
                go_loopw [76] (fun i wz => ∃ m : Nat, m ≤ o.p ∧ i = .int .i64 m ∧ ViewS w1 p c s k dn a m wz) (fun i _ => o.p - (intOf i).toNat)
                case atStart => exact ⟨0, by omega, rfl, hV4.out⟩
                case round =>
                  clear hV4 hc
                  obtain ⟨m, hm, rfl, X3, hVI, hA, hc⟩ := hrel
                  rcases Nat.lt_or_ge m o.p with hlt3 | hge3
                  · have hlp : (nowOb s dn a o).ps.length = o.p := by rw [(nowOb_same s dn a o).2.2, (hl.out.at_ H.out.rep).ok.lp]
                    have hat := hVI.live a o hl.out
                    rw [if_pos rfl] at hat
                    have hq := nowOb_ptr H.out.rep (done := dn) (p := a) (hp.out a o hl.out) ((nowOb s dn a o).ps.getD m 0) (get_mem' 0 (by omega))
                    have hap := at_ptr hA hat (i := m) (by show m < (nowOb s dn a o).p; rw [(nowOb_same s dn a o).2.1]; exact hlt3)
                    rw [Ob.fwK_get s _ (by omega)] at hap
                    by_cases hgn : ∃ t, GoneTo s ((nowOb s dn a o).ps.getD m 0) t
                    · obtain ⟨t, hgn⟩ := hgn
                      have ht := H.out.rep.plc_le (hgn.cur H.out.rep)
                      have hma := hid (fun W (cw : Calm wr W) => mat_gone W p c X3 (hA.calm cw) _ t (hVI.gone _ _ hgn))
                      have hset := hid (fun W (cw : Calm wr W) => at_setptr (hA.calm cw) hat (i := m) (v := t) (by show m < (nowOb s dn a o).p; rw [(nowOb_same s dn a o).2.1]; exact hlt3) ht)
                      have hV2 := hid (hVI.set H.out.rep hl.out hlt3 (fun u hu => live_unique H.out.rep hl.out hu) (fwd_gone H.out.rep hgn) ht)
                      replace hap := hid hap
                      replace hA := hid hA
                      clear hVI hat hq hgn hlp
                      generalize (nowOb s dn a o).ps.getD m 0 = q at *
                      go_wp2_with fail
                      refine (hap.out).mono ?_
                      rintro e w5 ⟨rfl, c5⟩
                      go_wp2_with fail
                      refine (hma.out _ c5).mono ?_
                      rintro e w6 ⟨rfl, rfl⟩
                      go_wp2_with fail
                      refine (hset.out _ c5).mono ?_
                      rintro e w7 ⟨rfl, ar7, f7⟩
                      replace ar7 := hid ar7
                      go_wp2_with fail
                      go_roundw
                      case rel => exact ⟨m + 1, by omega, by go_num, _, hV2.out, ar7.out, (hc.trans c5).join f7 (fun j h1 h2 => by omega)⟩
                      case measure => simp [intOf]; omega
                    · have hma : Hid (∀ W (cw : Calm wr W), Calls Try.prog 69 #[arV p, .int .i64 ((nowOb s dn a o).ps.getD m 0 : Nat)] W fun e w' => e = .returned (.tuple #[.int .i64 0, .bool false]) ∧ w' = W) := fun W cw => by
                        rcases hq with hq | ⟨u, hq⟩ | hq
                        · rw [hq]; exact mat_no W p c X3 (hA.calm cw) 0 (by rw [hVI.len]; omega) (by rw [hVI.zero]; omega) (by rw [hVI.zero]; omega)
                        · exact mat_here W p c X3 (hA.calm cw) _ _ (hVI.live _ u hq)
                        · exact absurd hq hgn
                      have hV2 := hid (hVI.stay H.out.rep hl.out hlt3 (fun u hu => live_unique H.out.rep hl.out hu) (fwd_not hgn))
                      replace hap := hid hap
                      replace hA := hid hA
                      clear hVI hat hq hgn hlp
                      generalize (nowOb s dn a o).ps.getD m 0 = q at *
                      go_wp2_with fail
                      refine (hap.out).mono ?_
                      rintro e w5 ⟨rfl, c5⟩
                      go_wp2_with fail
                      refine (hma.out _ c5).mono ?_
                      rintro e w6 ⟨rfl, rfl⟩
                      go_wp2_with fail
                      go_roundw
                      case rel => exact ⟨m + 1, by omega, by go_num, _, hV2.out, hA.out.calm c5, hc.trans c5⟩
                      case measure => simp [intOf]; omega
                  · have hV2 := hid (hVI.end H.out.rep hl.out (show m = o.p by omega))
                    have hA2 := hid hA
                    clear hVI hA
                    go_wp2_with fail
                    go_roundw
                    case rel => exact ⟨j + 1, by omega, by go_num, X3, by rw [htk.out, ← List.append_assoc, hdn.out]; exact hV2.out.begin 0, hA2.out, hc⟩
                    case measure => simp [intOf]; omega
              · have hgn := hVI.gone a t hg
                obtain ⟨hh1, hh2⟩ := hgn.head
                have hsh := hid (oshape_none wr p c X' hA a hgn.lt hh1 hh2)
                have hV2 := hid (hVI.skip (p0 := a) (hg.not_live H.out.rep))
                replace hA := hid hA
                replace hdn := hid hdn
                clear hVI hgn hh1 hh2 hg
                go_wp2_with fail
                refine (hsh.out).mono ?_
                rintro e w3 ⟨rfl, c3⟩
                have c4 : Calm wr (w3.alloc (.cells #[.int .i64 0, .int .i64 0, .bool false, .bool false] 32)) := c3.alloc _
                go_wp2_with fail
                go_roundw
                case rel => exact ⟨j + 1, by omega, by go_num, X', by rw [htk.out, ← List.append_assoc, hdn.out]; exact hV2.out.begin 0, hA.out.calm c4, hc.trans c4⟩
                case measure => simp [intOf]; omega
            · obtain rfl : j = M0 := by omega
              rw [List.take_of_length_le (by rw [hM0.out]; exact Nat.le_refl _)] at hVI
              have hV2 := hid hVI
              have hA2 := hid hA
              clear hVI hA
              go_wp2_with fail
              go_roundw
              case rel => exact ⟨0 + 1, by omega, by go_num, X', by simpa using hV2.out, hA2.out, hc⟩
              case measure => simp [intOf]
        · replace hV : Hid (ViewS w1 p c s k L0 0 0 wr) := hV
          rw [show ((1 : Nat) : Int) = 1 from rfl]
          have hix := fun W => index2_1 (.slice a0 M0 c0) (.slice a1 M1 c1) W
          go_wp2_with fail
          go_loopw [61] (fun i wy => ∃ j : Nat, j ≤ M1 ∧ i = .int .i64 j ∧ ViewS w1 p c s k (L0 ++ L1.take j) 0 0 wy) (fun i _ => M1 - (intOf i).toNat)
          case atStart => exact ⟨0, by omega, rfl, by simpa using hV.out⟩
          case round =>
            clear hV
            obtain ⟨j, hj, rfl, X', hVI, hA, hc⟩ := hrel
            rcases Nat.lt_or_ge j M1 with hlt | hge
            · have hjl : j < L1.length := by rw [hM1.out]; exact hlt
              obtain ⟨g, gc, hv', _, hg0, _⟩ := (hr1.out.calm hc).get (k := j) (by simpa using hjl)
              injection hv' with hv1 hv2 hv3
              subst hv1
              rw [show (nI L1).getD j 0 = ((L1.getD j 0 : Nat) : Int) by simp [List.getD, hjl]] at hg0
              have hcl := k1.out (L1.getD j 0) (by simp [List.getD, hjl])
              have htk := hid (take_succ_getD L1 hjl)
              clear hv2 hv3 hjl
              generalize L1.getD j 0 = a at *
              generalize hdn : L0 ++ L1.take j = dn at *
              rcases hcl with ⟨o, hl⟩ | ⟨t, hg⟩
              · have hsh := hid (at_shape hA ((hVI.begin a).live a o hl))
                rw [if_pos rfl, Ob.fwK_zero] at hsh
                have hnsh : (nowOb s dn a o).p = o.p ∧ (nowOb s dn a o).d = o.d ∧ (nowOb s dn a o).wk = o.wk ∧ (nowOb s dn a o).fn = o.fn ∧ (nowOb s dn a o).fr = o.fr := by unfold nowOb; split <;> exact ⟨rfl, rfl, rfl, rfl, rfl⟩
                rw [hnsh.1, hnsh.2.1, hnsh.2.2.1, hnsh.2.2.2.1, hnsh.2.2.2.2] at hsh
                have ho8 : o.p ≤ 8 := (hl.at_ H.out.rep).ok.sh.1
                have hV2 := hid (hVI.begin a)
                replace hA := hid hA
                replace hl := hid hl
                replace hdn := hid hdn
                clear hVI hnsh
                go_wp2_with fail
                refine (hsh.out).mono ?_
                rintro e w3 ⟨rfl, c3⟩
                have o13 := OwnL.new w3 [.int .i64 o.p, .int .i64 o.d, .bool o.wk, .bool o.fn] 32
                have c4 : Calm wr (w3.alloc (.cells #[.int .i64 o.p, .int .i64 o.d, .bool o.wk, .bool o.fn] 32)) := c3.alloc _
                have x0 := (o13 0 _ rfl).1
                have hV4 : Hid (ViewS w1 p c s k dn a 0 (w3.alloc (.cells #[.int .i64 o.p, .int .i64 o.d, .bool o.wk, .bool o.fn] 32))) := ⟨X', hV2.out, hA.out.calm c4, hc.trans c4⟩
                clear o13 c3 c4 hA hV2 hsh hg0
                go_wp2_with fail
                clear x0
                go_loopw [76] (fun i wz => ∃ m : Nat, m ≤ o.p ∧ i = .int .i64 m ∧ ViewS w1 p c s k dn a m wz) (fun i _ => o.p - (intOf i).toNat)
                case atStart => exact ⟨0, by omega, rfl, hV4.out⟩
                case round =>
                  clear hV4 hc
                  obtain ⟨m, hm, rfl, X3, hVI, hA, hc⟩ := hrel
                  rcases Nat.lt_or_ge m o.p with hlt3 | hge3
                  · have hlp : (nowOb s dn a o).ps.length = o.p := by rw [(nowOb_same s dn a o).2.2, (hl.out.at_ H.out.rep).ok.lp]
                    have hat := hVI.live a o hl.out
                    rw [if_pos rfl] at hat
                    have hq := nowOb_ptr H.out.rep (done := dn) (p := a) (hp.out a o hl.out) ((nowOb s dn a o).ps.getD m 0) (get_mem' 0 (by omega))
                    have hap := at_ptr hA hat (i := m) (by show m < (nowOb s dn a o).p; rw [(nowOb_same s dn a o).2.1]; exact hlt3)
                    rw [Ob.fwK_get s _ (by omega)] at hap
                    by_cases hgn : ∃ t, GoneTo s ((nowOb s dn a o).ps.getD m 0) t
                    · obtain ⟨t, hgn⟩ := hgn
                      have ht := H.out.rep.plc_le (hgn.cur H.out.rep)
                      have hma := hid (fun W (cw : Calm wr W) => mat_gone W p c X3 (hA.calm cw) _ t (hVI.gone _ _ hgn))
                      have hset := hid (fun W (cw : Calm wr W) => at_setptr (hA.calm cw) hat (i := m) (v := t) (by show m < (nowOb s dn a o).p; rw [(nowOb_same s dn a o).2.1]; exact hlt3) ht)
                      have hV2 := hid (hVI.set H.out.rep hl.out hlt3 (fun u hu => live_unique H.out.rep hl.out hu) (fwd_gone H.out.rep hgn) ht)
                      replace hap := hid hap
                      replace hA := hid hA
                      clear hVI hat hq hgn hlp
                      generalize (nowOb s dn a o).ps.getD m 0 = q at *
                      go_wp2_with fail
                      refine (hap.out).mono ?_
                      rintro e w5 ⟨rfl, c5⟩
                      go_wp2_with fail
                      refine (hma.out _ c5).mono ?_
                      rintro e w6 ⟨rfl, rfl⟩
                      go_wp2_with fail
                      refine (hset.out _ c5).mono ?_
                      rintro e w7 ⟨rfl, ar7, f7⟩
                      replace ar7 := hid ar7
                      go_wp2_with fail
                      go_roundw
                      case rel => exact ⟨m + 1, by omega, by go_num, _, hV2.out, ar7.out, (hc.trans c5).join f7 (fun j h1 h2 => by omega)⟩
                      case measure => simp [intOf]; omega
                    · have hma : Hid (∀ W (cw : Calm wr W), Calls Try.prog 69 #[arV p, .int .i64 ((nowOb s dn a o).ps.getD m 0 : Nat)] W fun e w' => e = .returned (.tuple #[.int .i64 0, .bool false]) ∧ w' = W) := fun W cw => by
                        rcases hq with hq | ⟨u, hq⟩ | hq
                        · rw [hq]; exact mat_no W p c X3 (hA.calm cw) 0 (by rw [hVI.len]; omega) (by rw [hVI.zero]; omega) (by rw [hVI.zero]; omega)
                        · exact mat_here W p c X3 (hA.calm cw) _ _ (hVI.live _ u hq)
                        · exact absurd hq hgn
                      have hV2 := hid (hVI.stay H.out.rep hl.out hlt3 (fun u hu => live_unique H.out.rep hl.out hu) (fwd_not hgn))
                      replace hap := hid hap
                      replace hA := hid hA
                      clear hVI hat hq hgn hlp
                      generalize (nowOb s dn a o).ps.getD m 0 = q at *
                      go_wp2_with fail
                      refine (hap.out).mono ?_
                      rintro e w5 ⟨rfl, c5⟩
                      go_wp2_with fail
                      refine (hma.out _ c5).mono ?_
                      rintro e w6 ⟨rfl, rfl⟩
                      go_wp2_with fail
                      go_roundw
                      case rel => exact ⟨m + 1, by omega, by go_num, _, hV2.out, hA.out.calm c5, hc.trans c5⟩
                      case measure => simp [intOf]; omega
                  · have hV2 := hid (hVI.end H.out.rep hl.out (show m = o.p by omega))
                    have hA2 := hid hA
                    clear hVI hA
                    go_wp2_with fail
                    go_roundw
                    case rel => exact ⟨j + 1, by omega, by go_num, X3, by rw [htk.out, ← List.append_assoc, hdn.out]; exact hV2.out.begin 0, hA2.out, hc⟩
                    case measure => simp [intOf]; omega
              · have hgn := hVI.gone a t hg
                obtain ⟨hh1, hh2⟩ := hgn.head
                have hsh := hid (oshape_none wr p c X' hA a hgn.lt hh1 hh2)
                have hV2 := hid (hVI.skip (p0 := a) (hg.not_live H.out.rep))
                replace hA := hid hA
                replace hdn := hid hdn
                clear hVI hgn hh1 hh2 hg
                go_wp2_with fail
                refine (hsh.out).mono ?_
                rintro e w3 ⟨rfl, c3⟩
                have c4 : Calm wr (w3.alloc (.cells #[.int .i64 0, .int .i64 0, .bool false, .bool false] 32)) := c3.alloc _
                go_wp2_with fail
                go_roundw
                case rel => exact ⟨j + 1, by omega, by go_num, X', by rw [htk.out, ← List.append_assoc, hdn.out]; exact hV2.out.begin 0, hA.out.calm c4, hc.trans c4⟩
                case measure => simp [intOf]; omega
            · obtain rfl : j = M1 := by omega
              rw [List.take_of_length_le (by rw [hM1.out]; exact Nat.le_refl _)] at hVI
              have hV2 := hid hVI
              have hA2 := hid hA
              clear hVI hA
              go_wp2_with fail
              go_roundw
              case rel => exact ⟨1 + 1, by omega, by go_num, X', by simpa using hV2.out, hA2.out, hc⟩
              case measure => simp [intOf]
        · obtain ⟨X', hVI, hA, hc⟩ := hV
          have hV2 : Hid (VI s k (L0 ++ L1) 0 0 X') := hVI
          have hA2 := hid hA
          clear hVI hA
          go_wp2_with fail
          go_ret2
          refine ⟨p, c, X', rfl, hA2.out, hc, hV2.out.len, hV2.out.zero, fun p o hl => ?_⟩
          have := hV2.out.live p o hl
          rw [Ob.fwK_zero, ite_self] at this
          unfold nowOb at this
          rw [if_pos (kl.out p o hl)] at this
          exact this

end Go.Proofs.Ytiomemdmhcdpbaa

namespace Go.Proofs.Ytiomemdmhcdpbaa
open Go.RowKit Go.Shelf

/-- The object at a place. -/
noncomputable def obAt (s : HS) (x : Nat) : Ob := open Classical in if h : ∃ o, Live s x o then h.choose else Ob.new 0 0 false false 0
theorem obAt_eq {s : HS} {X : List Nat} (hr : HRep s X) {x : Nat} {o : Ob} (h : Live s x o) : obAt s x = o := by
  unfold obAt
  have hx : ∃ o, Live s x o := ⟨o, h⟩
  rw [dif_pos hx]
  exact live_unique hr h hx.choose_spec
/-- The places of objects that are not gone. -/
def liveU (s : HS) : List Nat := plc s.cur ++ (s.old.filter fun x => x.2.2 == none).map (·.1)
theorem mem_liveU {s : HS} {x : Nat} : x ∈ liveU s ↔ ∃ o, Live s x o := by
  unfold liveU
  rw [List.mem_append]
  constructor
  · rintro (h | h)
    · obtain ⟨y, hy, rfl⟩ := List.mem_map.1 h
      exact ⟨y.2, .inl hy⟩
    · obtain ⟨y, hy, rfl⟩ := List.mem_map.1 h
      obtain ⟨h1, h2⟩ := List.mem_filter.1 hy
      obtain ⟨a, o, m⟩ := y
      simp at h2
      subst h2
      exact ⟨o, .inr h1⟩
  · rintro ⟨o, h | h⟩
    · exact .inl (List.mem_map.2 ⟨_, h, rfl⟩)
    · exact .inr (List.mem_map.2 ⟨_, List.mem_filter.2 ⟨h, by simp⟩, rfl⟩)
theorem liveU_len {s : HS} {X : List Nat} (hr : HRep s X) : (liveU s).length ≤ 8192 := by
  have h1 := hr.few_cur
  unfold liveU
  rw [List.length_append, List.length_map, List.length_map]
  have := List.length_filter_le (fun x : Nat × Ob × Option Nat => x.2.2 == none) s.old
  omega
/-- What one comes to: the object at a place, its pointers told anew. -/
noncomputable def nowAt (s : HS) (x : Nat) : Ob := (obAt s x).fw s
theorem strong_fw (s : HS) (o : Ob) : (o.fw s).strong = o.strong.map (fwd s) := by
  unfold Ob.strong Ob.fw; simp only; split <;> simp
theorem objs_of {s : HS} {X X2 : List Nat} (hr : HRep s X) (hx : ∀ p o, Live s p o → At X2 p (o.fw s)) (hp : ∀ p o, Live s p o → ∀ q ∈ o.ps, PtrOk s q) : Objs X2 (liveU s) (nowAt s) := by
  refine ⟨fun x h => ?_, fun x h q hq h0 => ?_, fun x h => ?_, by have := liveU_len hr; omega⟩
  · obtain ⟨o, ho⟩ := mem_liveU.1 h
    unfold nowAt; rw [obAt_eq hr ho]; exact hx x o ho
  · obtain ⟨o, ho⟩ := mem_liveU.1 h
    unfold nowAt at hq
    rw [obAt_eq hr ho, strong_fw] at hq
    obtain ⟨z, hz, rfl⟩ := List.mem_map.1 hq
    have hz2 : z ∈ o.ps := by
      unfold Ob.strong at hz; split at hz
      · cases hz
      · exact hz
    rcases (hp x o ho z hz2).fwd hr with h | h | ⟨t, h⟩
    · exact absurd h h0
    · exact mem_liveU.2 h
    · exfalso
      by_cases g : ∃ t, GoneTo s z t
      · obtain ⟨t', g⟩ := g
        rw [fwd_gone hr g] at h
        obtain ⟨y, hy, e⟩ := List.mem_map.1 (g.cur hr)
        exact h.not_live hr y.2 (.inl (by rw [← e]; exact hy))
      · rw [fwd_not g] at h; exact g ⟨t, h⟩
  · obtain ⟨o, ho⟩ := mem_liveU.1 h
    have h1 := (hx x o ho).lt
    have h2 := (ho.at_ hr).lt
    have h3 := hr.len; have h4 := hr.n2
    omega
theorem fw_still {s : HS} (h : s.old = []) (o : Ob) : o.fw s = o := by
  have : ∀ q, fwd s q = q := fun q => fwd_not (by rintro ⟨t, i, u, c⟩; have := c.lt; rw [h] at this; simp at this)
  unfold Ob.fw
  have e : o.ps.map (fwd s) = o.ps := by rw [show fwd s = id from funext this]; simp
  rw [e]

set_option maxRecDepth 4000 in
set_option maxHeartbeats 4000000 in
theorem hcanon {w : World} {B : HB} {s : HS} {X : List Nat} (h : HAt w B s X) (hp : ∀ p o, Live s p o → ∀ q ∈ o.ps, PtrOk s q) {rv : Value} {rs : List Nat} (hr : Row w rv (iVs (nI rs))) (hl : rs.length ≤ 100000) (hu : ∀ x ∈ rs, Placed s x) :
    Calls Try.prog 36 #[hpV B, rv] w (CanonPost w (nowAt s) rs) := by
  have hrow := hr
  obtain ⟨ra, rc, rfl, hrk⟩ := hr.loop
  have hln : (nI rs).length = rs.length := by simp
  rw [hln] at hrk hrow ⊢
  obtain ⟨n, hn⟩ : ∃ n, rs.length = n := ⟨_, rfl⟩
  rw [hn] at hl hrk hrow ⊢
  have H := hid h
  have y0 := (h.own (i := 0) (v := arV B.ap) rfl).1
  have y10 := (h.own (i := 10) (v := .bool s.mv) rfl).1
  replace hrk := hid hrk
  replace hn := hid hn
  replace hu := hid hu
  replace hp := hid hp
  replace hrow := hid hrow
  clear h hr hln
  go_enter Try.func36, Try.ntmps36
  go_wp2_with fail
  go_loopw [13] (fun i wr => ∃ k : Nat, k ≤ n ∧ i = .int .i64 k ∧ Calm w wr) (fun i _ => n - (intOf i).toNat)
  case atStart => exact ⟨0, by omega, rfl, Fr.refl _ _⟩
  case round =>
    obtain ⟨k, hk, rfl, ck⟩ := hrel
    rcases Nat.lt_or_ge k n with hlt | hge
    · have hkl : k < rs.length := by rw [hn.out]; exact hlt
      obtain ⟨b, off, rfl, hb, hg0⟩ := hrk.out k hlt
      replace hg0 := ck.cellAt (p := ⟨b, off + k, none⟩) hg0 id
      rw [show (nI rs).getD k 0 = ((rs.getD k 0 : Nat) : Int) by simp [List.getD, hkl]] at hg0
      have hx := hu.out (rs.getD k 0) (by simp [List.getD, hkl])
      clear hkl
      generalize rs.getD k 0 = x at *
      by_cases hz : x = 0
      · subst hz
        clear hx
        go_wp2
        go_roundw
        case rel => exact ⟨k + 1, by omega, by go_num, ck⟩
        case measure => simp [intOf]; omega
      · have hh := hid (here_yes (H.out.calm ck) (hx.resolve_left hz) (H.out.rep.plc_le (hx.resolve_left hz)))
        have hz1 : ¬ ((x : Int) = 0) := by omega
        clear hx hz
        go_wp2_with fail
        refine (hh.out).mono ?_
        rintro e w2 ⟨rfl, c2⟩
        go_wp2
        go_roundw
        case rel => exact ⟨k + 1, by omega, by go_num, ck.trans c2⟩
        case measure => simp [intOf]; omega
    · obtain rfl : k = n := by omega
      have hul : ∀ x ∈ rs, x ≠ 0 → x ∈ liveU s := fun x hx h0 => by
        have := (hu.out x hx).resolve_left h0
        unfold liveU; exact List.mem_append.2 (.inl this)
      have y0a := ck.cellAt y0 id
      have y10a := ck.cellAt y10 id
      cases hm : s.mv
      · rw [hm] at y10a
        have ho := H.out.rep.still hm
        have hob : Objs X (liveU s) (nowAt s) := objs_of H.out.rep (fun p o hl => by rw [fw_still ho]; exact hl.at_ H.out.rep) hp.out
        have hca := hid (canon_yes (H.out.ar.calm ck) hob (hrow.out.calm ck) (by rw [hn.out]; exact hl) hul)
        clear y0 y10 hob hul ho
        go_wp2_with fail
        refine (hca.out).mono ?_
        rintro e w2 ⟨vn, vs, R, ls, B2, rfl, q1, q2, q3, q4, q5, q6, q7⟩
        have q2 := hid q2; have q4 := hid q4; have q5 := hid q5; have q3 := hid q3; have q1 := hid q1
        go_wp2
        go_ret3
        exact ⟨vn, vs, R, ls, B2, rfl, q1.out, q2.out.mono ck.size, q3.out, q4.out, q5.out, Nat.le_trans ck.size q6, ck.trans q7⟩
      · rw [hm] at y10a
        have hvw := hid (view_is (H.out.calm ck) hp.out)
        replace hul := hid hul
        clear y0 y10
        go_wp2_with fail
        refine (hvw.out).mono ?_
        rintro e w2 ⟨p, c, X2, rfl, ar2, c2, hl2, hz2, hlive⟩
        have hob : Objs X2 (liveU s) (nowAt s) := objs_of H.out.rep hlive hp.out
        replace c2 := ck.trans c2
        have hca := hid (canon_yes ar2 hob (hrow.out.calm c2) (by rw [hn.out]; exact hl) hul.out)
        clear hlive hob ar2 hvw ck hl2 hz2 y0a y10a
        go_wp2_with fail
        refine (hca.out).mono ?_
        rintro e w3 ⟨vn, vs, R, ls, B2, rfl, q1, q2, q3, q4, q5, q6, q7⟩
        have q2 := hid q2; have q4 := hid q4; have q5 := hid q5; have q3 := hid q3; have q1 := hid q1
        go_wp2
        go_ret3
        exact ⟨vn, vs, R, ls, B2, rfl, q1.out, q2.out.mono c2.size, q3.out, q4.out, q5.out, Nat.le_trans c2.size q6, c2.trans q7⟩

end Go.Proofs.Ytiomemdmhcdpbaa
