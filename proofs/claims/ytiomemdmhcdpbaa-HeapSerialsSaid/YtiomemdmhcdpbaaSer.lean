/- HeapSerials returns true: its walk. -/
import Derived.Test.YtiomemdmhcdpbaaLaw10
import Derived.Test.YtiomemdmhcdpbaaOpen2
set_option linter.unusedSimpArgs false
set_option linter.unusedVariables false
namespace Go.Proofs.Ytiomemdmhcdpbaa
open Go.RowKit Go.Shelf

theorem cell_lt {w : World} {b i : Nat} {v : Value} (h : w.cell? ⟨b, i, none⟩ = some v) : b < w.heap.size := by
  rcases Nat.lt_or_ge b w.heap.size with hl | hg
  · exact hl
  · simp [World.cell?, Array.getElem?_eq_none hg] at h
/-- A fresh heap with k objects. -/
structure SerI (s : HS) (k : Nat) : Prop where
  n : s.n = 500
  mv : s.mv = false
  old : s.old = []
  ser : s.ser = k
  len : s.cur.length = k
  took : tookC s.cur ≤ 24 * k
  few : s.weak.length ≤ k ∧ s.fin.length ≤ k
  sers : ∀ j, j < k → (s.cur.getD j ob0).2.ser = j + 1
theorem SerI.start : SerI (HS.start 500) 0 := ⟨rfl, rfl, rfl, rfl, rfl, by decide, by decide, fun j h => by omega⟩
theorem SerI.room {s : HS} {k : Nat} (h : SerI s k) (hk : k < 10) {p d : Nat} {wk fn : Bool} (hok : okS p d wk fn) : rnd ((3 + p + d : Nat) : Int) ≤ s.room ∧ s.ser < 1099511627776 ∧ s.weak.length < 100000 ∧ s.fin.length < 100000 := by
  obtain ⟨t1, _, _, t4⟩ := Ob.took_eq (Ob.new_ok (ser := 1) hok (by omega))
  have e : ((Ob.new p d wk fn 1).size : Int) = ((3 + p + d : Nat) : Int) := rfl
  rw [e] at t1
  have h1 := h.took; have h2 := h.n; have h3 := h.ser; have h4 := h.few
  have ho : owed s.old = 0 := by rw [h.old]; rfl
  refine ⟨?_, by omega, by omega, by omega⟩
  unfold HS.room
  rw [ho]; omega
theorem SerI.alloc {s : HS} {k : Nat} (h : SerI s k) {p d : Nat} {wk fn : Bool} (hok : okS p d wk fn) : SerI (s.alloc p d wk fn) (k + 1) := by
  have h3 := h.ser
  have e : (s.alloc p d wk fn).cur = s.cur ++ [(s.top, Ob.new p d wk fn (s.ser + 1))] := rfl
  refine ⟨h.n, h.mv, h.old, by show s.ser + 1 = k + 1; omega, by rw [e, List.length_append, h.len]; rfl, ?_, ?_, fun j hj => ?_⟩
  · rw [e, tookC_snoc]
    by_cases hs : s.ser + 1 ≤ 1099511627776
    · obtain ⟨_, _, _, t4⟩ := Ob.took_eq (Ob.new_ok (ser := s.ser + 1) hok hs)
      have := h.took
      simp only; omega
    · have t := Ob.took_eq (Ob.new_ok (ser := 1) hok (by omega))
      have e2 : (Ob.new p d wk fn (s.ser + 1)).took = (Ob.new p d wk fn 1).took := rfl
      have := h.took
      simp only [e2]; omega
  · have hf := h.few
    constructor
    · show (bif wk then s.weak ++ [s.top] else s.weak).length ≤ k + 1
      cases wk <;> simp <;> omega
    · show (bif fn then s.fin ++ [s.top] else s.fin).length ≤ k + 1
      cases fn <;> simp <;> omega
  · rw [e]
    rcases Nat.lt_or_ge j k with hj2 | hj2
    · rw [getD_snoc _ _ _ (by rw [h.len]; exact hj2)]; exact h.sers j hj2
    · obtain rfl : j = s.cur.length := by rw [h.len]; omega
      rw [getD_snoc']
      show s.ser + 1 = _; rw [h3, h.len]
def SerS (w : World) (hp : Nat) (v : Value) (k : Nat) (wr : World) : Prop :=
  ∃ s B X, SerI s k ∧ HAt wr B s X ∧ B.hp = hp ∧ (∀ b, HBlk B b → w.heap.size ≤ b) ∧ ORow wr w.heap.size v (nI (plc s.cur)) ∧ (∀ b, InB v b → ¬ HBlk B b) ∧ Calm w wr

/-- The old place a held the object with the serial n. -/
def OldSer (s : HS) (a n : Nat) : Prop := ∃ i o m, OldAt s i a o m ∧ o.ser = n
theorem OldAt.keep {s : HS} {i j a b : Nat} {o u : Ob} {m : Option Nat} (c : OldAt s i a o m) (d : OldAt s j b u none) : ∃ m', OldAt (s.move j) i a o m' := by
  have e : (s.move j).old = s.old.set j (b, u, some s.top) := by unfold HS.move; rw [d.get]
  by_cases h : i = j
  · subst h
    have h1 := c.get; rw [d.get] at h1; cases h1
    exact ⟨some s.top, by rw [e, List.length_set]; exact c.lt, by rw [e]; simp [List.getD, c.lt]⟩
  · refine ⟨m, by rw [e, List.length_set]; exact c.lt, ?_⟩
    rw [e]
    have h1 := c.get
    simp only [List.getD, List.getElem?_set, if_neg (Ne.symm h)] at h1 ⊢
    exact h1
theorem Goes.oldSer {s s' : HS} {p q : Nat} (g : Goes s p s' q) {a n : Nat} (h : OldSer s a n) : OldSer s' a n := by
  cases g with
  | stay _ => exact h
  | gone _ => exact h
  | move d =>
    obtain ⟨i, o, m, c, e⟩ := h
    obtain ⟨m', c'⟩ := c.keep d
    exact ⟨i, o, m', c', e⟩
theorem Goes.result {s s' : HS} {X : List Nat} (hr : HRep s X) {p q n : Nat} (g : Goes s p s' q) (h : OldSer s p n) : (∃ i o, CurAt s' i q o ∧ o.ser = n) ∧ GoneTo s' p q := by
  obtain ⟨i, o, m, c, e⟩ := h
  cases g with
  | stay hn => exact absurd c.mem hn
  | @gone j t u d =>
    have := old_same hr c.mem' d.mem' rfl
    cases this
    refine ⟨?_, j, _, d⟩
    obtain ⟨k, h1, h2, h3⟩ := hr.half.gone _ d.lt _ (by rw [d.get])
    rw [d.get] at h3
    refine ⟨k, (s.cur.getD k ob0).2, ⟨h1, ?_⟩, ?_⟩
    · have := (hr.place h1).1
      rw [h2] at this
      exact Prod.ext this rfl
    · exact h3.2.2.2.2.trans e
  | @move j u d =>
    have := old_same hr c.mem' d.mem' rfl
    cases this
    have ec : (s.move j).cur = s.cur ++ [(s.top, (s.old.getD j oo).2.1)] := rfl
    have eo : (s.move j).old = s.old.set j (p, o, some s.top) := by unfold HS.move; rw [d.get]
    refine ⟨⟨s.cur.length, o, ⟨by rw [ec]; simp, ?_⟩, e⟩, j, o, ⟨by rw [eo, List.length_set]; exact d.lt, by rw [eo]; simp [List.getD, d.lt]⟩⟩
    rw [ec, d.get, getD_snoc']
theorem Goes.again {s s' : HS} {X : List Nat} (hr : HRep s X) {p q t : Nat} (g : Goes s p s' q) (h : GoneTo s p t) : s' = s ∧ q = t := by
  obtain ⟨i, o, c⟩ := h
  cases g with
  | stay hn => exact absurd c.mem hn
  | gone d => exact ⟨rfl, GoneTo.unique hr ⟨_, _, d⟩ ⟨_, _, c⟩⟩
  | move d => have := old_same hr c.mem' d.mem' rfl; cases this
theorem cur_not_old {s : HS} {X : List Nat} (hr : HRep s X) {q : Nat} (h : q ∈ plc s.cur) : q ∉ opl s.old := fun e => by
  obtain ⟨x, hx, rfl⟩ := List.mem_map.1 h
  obtain ⟨i, o, m, c⟩ := OldAt.of_mem e
  exact Entry.unique hr (o := x.2) (u := o) (by exact hx) ⟨m, c.mem'⟩
structure SerJ (s : HS) (at_ : List Nat) : Prop where
  sers : ∀ j, j < at_.length → OldSer s (at_.getD j 0) (j + 1)
theorem SerJ.start {s : HS} {k : Nat} (h : SerI s k) : SerJ s.flip (plc s.cur) := by
  refine ⟨fun j hj => ?_⟩
  have hj2 : j < s.cur.length := by simpa using hj
  refine ⟨j, (s.cur.getD j ob0).2, none, ⟨by show j < (s.cur.map _).length; simpa using hj2, ?_⟩, h.sers j (by rw [← h.len]; exact hj2)⟩
  show (s.cur.map fun x => (x.1, x.2, (none : Option Nat))).getD j oo = _
  simp [List.getD, hj2]
structure SerU (w : World) (v : Value) (at_ : List Nat) (wr : World) (s : HS) (B : HB) (X : List Nat) : Prop where
  jn : SerJ s at_
  hat : HAt wr B s X
  blk : ∀ b, HBlk B b → w.heap.size ≤ b
  row : ORow wr w.heap.size v (nI at_)
  apr : ∀ b, InB v b → ¬ HBlk B b
  fc : Calm w wr
def SerT (w : World) (hp : Nat) (v : Value) (at_ : List Nat) (wr : World) : Prop := ∃ s B X, SerU w v at_ wr s B X ∧ B.hp = hp
theorem SerU.next {w wr w2 : World} {v : Value} {at_ : List Nat} {s s2 : HS} {B B2 : HB} {X X2 : List Nat} (h : SerU w v at_ wr s B X) (hJ : SerJ s2 at_) (hA2 : HAt w2 B2 s2 X2) (hK : HKeep wr B w2 B2) : SerU w v at_ w2 s2 B2 X2 := by
  refine ⟨hJ, hA2, fun b hb => ?_, h.row.frB hK.fr h.apr, fun b h1 h2 => ?_, h.fc.join hK.fr (fun k hk h2 => absurd (h.blk k h2) (by omega))⟩
  · rcases hK.new b hb with h1 | h1
    · exact h.blk b h1
    · have := h.fc.size; omega
  · rcases hK.new b h2 with h3 | h3
    · exact h.apr b h1 h3
    · have := (h.row.lt h1).2; omega
theorem SerU.calm {w wr w2 : World} {v : Value} {at_ : List Nat} {s : HS} {B : HB} {X : List Nat} (h : SerU w v at_ wr s B X) (c : Calm wr w2) : SerU w v at_ w2 s B X :=
  ⟨h.jn, h.hat.calm c, h.blk, h.row.calm c, h.apr, h.fc.trans c⟩
theorem SerJ.goes {s s2 : HS} {at_ : List Nat} (h : SerJ s at_) {p q : Nat} (g : Goes s p s2 q) : SerJ s2 at_ := ⟨fun j hj => g.oldSer (h.sers j hj)⟩
theorem OldSer.le {s : HS} {X : List Nat} (hr : HRep s X) {a n : Nat} (h : OldSer s a n) : a ≤ 131072 := by
  obtain ⟨i, o, m, c, _⟩ := h
  exact Place.le hr (.inr (.inr c.mem))

set_option maxRecDepth 100000 in
set_option maxHeartbeats 8000000 in
theorem heapSerials_walk (v : Value) (l : List Raw3) (hm : l.length ≤ maxLen) (vo : Value) (lo : List Int) (hlo : ∀ x ∈ lo, I64 x) (hmo : lo.length ≤ maxLen) (w : World)
    (hr : RowK w v 3 (l.map Raw3.cells)) (hl : ∀ o ∈ l, o.Ok) (hro : Row w vo (iVs lo)) :
    Calls Try.prog 3 #[v, vo] w fun e w' => e = .returned (.bool true) ∧ Below w.heap.size w w' := by
  obtain ⟨ra, rc, rfl, hrk⟩ := hr.cells
  obtain ⟨oa, oc, rfl, hok⟩ := hro.loop
  obtain ⟨n, hn⟩ : ∃ n, l.length = n := ⟨_, rfl⟩
  obtain ⟨no, hno⟩ : ∃ n, lo.length = n := ⟨_, rfl⟩
  rw [hn] at hm ⊢
  rw [hno] at hmo hok ⊢
  unfold maxLen at hm hmo
  replace hrk := hid hrk
  replace hok := hid hok
  replace hl := hid hl
  replace hlo := hid hlo
  replace hn := hid hn
  replace hno := hid hno
  have hmn : (n : Int) ≤ 9223372036854775807 := by omega
  have hmo2 : (no : Int) ≤ 9223372036854775807 := by omega
  replace hm := hid hm
  replace hmo := hid hmo
  replace hmn := hid hmn
  replace hmo2 := hid hmo2
  clear hr hro
  go_enter Try.func3, Try.ntmps3
  go_wp2_with fail
  refine (awake10 _).mono ?_
  rintro e w0 ⟨rfl, c0⟩
  go_wp2_with fail
  refine (hnew_yes _ 500 (by decide) (by decide)).mono ?_
  rintro e w1 ⟨B, rfl, h1, c1, n1⟩
  have hS0 : Hid (SerS w B.hp (.slice none 0 0) 0 w1) := ⟨_, B, _, SerI.start, h1, rfl, fun b hb => by have := n1 b hb; have := c0.size; omega, ORow.nil _ _, fun b h => (InB.nil b h).elim, c0.trans c1⟩
  clear h1 n1 c0 c1
  go_wp2_with fail
  go_loopw [8, 9] (fun va i wr => ∃ k : Nat, k ≤ n ∧ k ≤ 10 ∧ i = .int .i64 k ∧ SerS w B.hp va k wr) (fun _ i _ => 10 - (intOf i).toNat)
  case atStart => exact ⟨0, by omega, by omega, rfl, hS0.out⟩
  case round =>
    clear hS0
    obtain ⟨k, hk, hk10, rfl, s, B1, X, hI, hA, hp, hB, hv, hnB, hc⟩ := hrel
    obtain ⟨va, vn, vc, rfl⟩ := hv.letters
    by_cases hlt : k < n ∧ k < 10
    · obtain ⟨hlt, hlt10⟩ := hlt
      have hkl : k < l.length := by rw [hn.out]; exact hlt
      obtain ⟨b, off, rfl, hcell⟩ := hrk.out k l[k] (by simp [hkl])
      obtain ⟨z0, z1, z2⟩ := hl.out l[k] (List.getElem_mem hkl)
      have hbw := cell_lt (hcell 0 _ rfl)
      have hg0 := hc.cellAt (p := ⟨b, off + k * 3 + 0, none⟩) (hcell 0 _ rfl) id
      have hg1 := hc.cellAt (p := ⟨b, off + k * 3 + 1, none⟩) (hcell 1 _ rfl) id
      have hg2 := hc.cellAt (p := ⟨b, off + k * 3 + 2, none⟩) (hcell 2 _ rfl) id
      rw [Nat.add_zero] at hg0
      clear hcell
      generalize l[k].s0 = x0 at *
      generalize l[k].s1 = x1 at *
      generalize l[k].s2 = x2 at *
      have hfit := hid (fun W => fit06d x0 x1 x2 z0 z1 z2 W)
      have hal := hid (fun W (cw : Calm wr W) (p d : Nat) (wk fn : Bool) (h : okS p d wk fn) => halloc_yes (hA.calm cw) h (hI.room hlt10 h).1 (hI.room hlt10 h).2.1 (hI.room hlt10 h).2.2)
      have hbB : ¬ HBlk B1 b := fun e => by have := hB b e; omega
      replace hbB := hid hbB
      replace hA := hid hA
      replace hI := hid hI
      replace hB := hid hB
      replace hv := hid hv
      replace hnB := hid hnB
      rw [hpe hp] at hal
      clear hkl z0 z1 z2
      go_wp2_with fail
      go_region_held3 (fun w' => w'.cell? ⟨b, off + k * 3, none⟩ = some (.int .i64 x0) ∧ w'.cell? ⟨b, off + k * 3 + 1, none⟩ = some (.int .i64 x1) ∧ w'.cell? ⟨b, off + k * 3 + 2, none⟩ = some (.int .i64 x2)) (go_keep)
        (first | (go_at_call 14; refine (hfit.out _).mono ?_; rintro e w5 ⟨p, d, wk, fn, okp, rfl, c5, -⟩; have ka : Calm wr w5 := Fr.trans (by first | exact Fr.refl _ _ | exact (Fr.refl _ _).drew | exact ((Fr.refl _ _).drew).alloc _ | exact ((Fr.refl _ _).alloc _).drew) c5; have q0 := ka.cellAt hg0 id; have q1 := ka.cellAt hg1 id; have q2 := ka.cellAt hg2 id) | (go_at_call 13; refine (hal.out _ (by first | exact ka | exact ka.drew) p d wk fn okp).mono ?_; rintro e w6 ⟨rfl, B6, X6, hA6, hK6⟩; have r0 := hK6.fr.cellAt q0 hbB.out; have r1 := hK6.fr.cellAt q1 hbB.out; have r2 := hK6.fr.cellAt q2 hbB.out))
      have hkB : B6.hp = B.hp := hK6.hp.trans hp
      have hI6 := hI.out.alloc okp
      have hcu : CurAt (s.alloc p d wk fn) k s.top (Ob.new p d wk fn (s.ser + 1)) := ⟨by rw [hI6.len]; omega, by
        have e : (s.alloc p d wk fn).cur = s.cur ++ [(s.top, Ob.new p d wk fn (s.ser + 1))] := rfl
        have e2 : k = s.cur.length := hI.out.len.symm
        rw [e, e2, getD_snoc']⟩
      have hse := hserial_yes hA6 hcu
      rw [hpe hkB, show ((Ob.new p d wk fn (s.ser + 1)).ser : Int) = (k : Int) + 1 by show ((s.ser + 1 : Nat) : Int) = _; rw [hI.out.ser]; push_cast; rfl] at hse
      replace hse := hid hse
      have hv6 : ORow w6 w.heap.size (.slice va vn vc) (nI (plc s.cur)) := ((hv.out.calm (by first | exact ka | exact ka.drew)).frB hK6.fr (fun b h1 h2 => hnB.out b h1 h2))
      have hc6 : Calm w w6 := (hc.trans (by first | exact ka | exact ka.drew)).join hK6.fr (fun j h1 h2 => by have := hB.out j h2; omega)
      have hnB6 : Hid (∀ b, InB (.slice va vn vc) b → ¬ HBlk B6 b) := fun b h1 h2 => (hK6.new b h2).elim (fun h => hnB.out b h1 h) (fun h => by have := (hv.out.lt h1).2; have := ka.size; first | omega | (have h' : w5.heap.size ≤ b := h; omega))
      have hB6 : Hid (∀ b, HBlk B6 b → w.heap.size ≤ b) := fun b h2 => (hK6.new b h2).elim (fun h => hB.out b h) (fun h => by have := ka.size; have := hc.size; first | omega | (have h' : w5.heap.size ≤ b := h; omega))
      have hpl : nI (plc (s.alloc p d wk fn).cur) = nI (plc s.cur) ++ [((s.top : Nat) : Int)] := by
        show nI ((s.cur ++ [(s.top, Ob.new p d wk fn (s.ser + 1))]).map (·.1)) = _
        simp [plc]
      have hll : Hid ((nI (plc s.cur)).length ≤ 1000000) := by show (nI (plc s.cur)).length ≤ 1000000; simp [hI.out.len]; omega
      replace hI6 := hid hI6
      replace hA6 := hid hA6
      replace hpl := hid hpl
      replace hv6 := hid hv6
      clear hK6 hal hfit hA hcu hg0 hg1 hg2 q0 q1 q2 r0 r1 r2 hv hI ka c5
      generalize nI (plc s.cur) = L at *
      obtain ⟨s6, hs6⟩ : ∃ s6, s.alloc p d wk fn = s6 := ⟨_, rfl⟩
      rw [hs6] at hI6 hA6 hpl
      obtain ⟨T, hT⟩ : ∃ T, s.top = T := ⟨_, rfl⟩
      rw [hT] at hse hpl ⊢
      clear hs6 hT
      go_wp2_with fail
      refine (hse.out).mono ?_
      rintro e w7 ⟨rfl, c7⟩
      have hv7 := hid (hv6.out.calm c7)
      have hsz7 : Hid (w.heap.size ≤ w7.heap.size) := Nat.le_trans hc6.size c7.size
      go_wp2_with (at_builtin; go_must (refine wpList_app1 rfl _ _ rfl _ _ L hv7.out rfl (T : Int) rfl hll.out hsz7.out ?_); intro g4 c4 w4 hN4 hF4 hg4; replace hN4 := hid hN4; replace hF4 := hid hF4; replace hg4 := hid hg4)
      go_roundw
      case rel =>
        refine ⟨k + 1, by omega, by omega, by go_num, s6, B6, X6, hI6.out, (hA6.out.calm c7).fr hF4.out (fun b h1 h2 => hnB6.out b h2 h1), hkB, hB6.out, by rw [hpl.out]; exact hN4.out, fun b h1 h2 => ?_, (hc6.trans c7).join hF4.out (fun j h1 h2 => absurd (hv7.out.lt h2).1 (by omega))⟩
        have := InB.mk1 h1
        subst this
        exact hg4.out.elim (fun h => hnB6.out _ h h2) (fun h => by have := (hA6.out.calm c7).lt _ h2; omega)
      case measure => simp [intOf]; omega
    · rcases Nat.lt_or_ge k n with hlt2 | hge2
      · have hge10 : 10 ≤ k := by omega
        clear hlt
        have hal : (plc s.cur).length = k := by simp [hI.len]
        have C := hflip_yes hA hI.mv
        rw [hpe hp] at C
        have hT0 := fun w2 (hA2 : HAt w2 (B1.flip s.u) s.flip X) (hK2 : HKeep wr B1 w2 (B1.flip s.u)) => (⟨s.flip, B1.flip s.u, X, ⟨SerJ.start hI, hA2, fun b hb => (hK2.new b hb).elim (fun h => hB b h) (fun h => by have := hc.size; omega), hv.frB hK2.fr hnB, fun b h1 h2 => (hK2.new b h2).elim (fun h => hnB b h1 h) (fun h => by have := (hv.lt h1).2; omega), hc.join hK2.fr (fun j hj h => by have := hB j h; omega)⟩, hK2.hp.trans hp⟩ : SerT w B.hp (.slice va vn vc) (plc s.cur) w2)
        replace C := hid C
        replace hT0 := hid hT0
        obtain ⟨va2, vc2, hve⟩ := hv.sliceN (n := k) (by simp [hI.len])
        have hn9 : vn = k := by cases hve; rfl
        subst hn9
        clear hve hA hI hv hB hnB hc hp
        generalize hat : plc s.cur = at_ at *
        replace hal := hid hal
        clear hat
        go_wp2_with fail
        refine (C.out).mono ?_
        rintro e w2 ⟨rfl, hA2, hK2⟩
        have hT1 := hid (hT0.out w2 hA2 hK2)
        clear hT0 hA2 hK2 C
        go_wp2_with fail
        go_loopw [14] (fun i wr => ∃ j : Nat, j ≤ no ∧ j ≤ 10 ∧ i = .int .i64 j ∧ SerT w B.hp (.slice va vn vc) at_ wr) (fun i _ => 10 - (intOf i).toNat)
        case atStart => exact ⟨0, by omega, by omega, rfl, hT1.out⟩
        case round =>
          clear hT1
          obtain ⟨j, hj, hj10, rfl, s2, B2, X2, hU, hp⟩ := hrel
          rcases Nat.lt_or_ge j no with hlt | hge
          · rcases Nat.lt_or_ge j 10 with hlt10 | hge10
            · rcases Nat.eq_zero_or_pos vn with hz | hpos
              · omega
              · obtain ⟨ob, ooff, rfl, _, hcell⟩ := hok.out j hlt
                replace hcell := hU.fc.cellAt (p := ⟨ob, ooff + j, none⟩) hcell id
                have hx := hlo.out (lo.getD j 0) (by have : j < lo.length := (by rw [hno.out]; exact hlt); simp [List.getD, this])
                generalize lo.getD j 0 = x at *
                have hpr := pk_range x (n := vn) (by omega)
                have hpk := hid (fun W => pick10 x vn W hx (by omega))
                obtain ⟨m, hm0⟩ : ∃ m : Nat, pk x vn = m := ⟨(pk x vn).toNat, by omega⟩
                rw [hm0] at hpk
                have hmv : m < vn := by omega
                have hml : m < at_.length := by rw [hal.out]; exact hmv
                obtain ⟨g, gc, hv', _, hg0, _⟩ := hU.row.get (k := m) (by simpa using hml)
                injection hv' with hv1 hv2 hv3
                subst hv1
                rw [show (nI at_).getD m 0 = ((at_.getD m 0 : Nat) : Int) by simp [List.getD, hml]] at hg0
                have hos := hU.jn.sers m hml
                have C := hmoved hU.hat (hos.le hU.hat.rep)
                rw [hpe hp] at C
                have hres := hid (fun (s3 : HS) (q : Nat) (g : Goes s2 (at_.getD m 0) s3 q) => g.result hU.hat.rep hos)
                have hgB : Hid (¬ HBlk B2 g) := hU.apr g rfl
                have hp2 : Hid (at_.getD m 0 ≤ 131072) := hos.le hU.hat.rep
                replace C := hid C
                replace hp := hid hp
                replace hU := hid hU
                clear hv2 hv3 hml hos hpr hm0
                generalize at_.getD m 0 = p at *
                go_wp2_with fail
                refine (hpk.out _).mono ?_
                rintro e w3 ⟨rfl, rfl⟩
                go_wp2_with fail
                refine (C.out).mono ?_
                rintro e w3 ⟨s3, q, g3, rfl, B3, X3, h3, k3⟩
                obtain ⟨⟨ii, o, c3, ho⟩, hgo⟩ := hres.out _ _ g3
                have hU3 := hid (hU.out.next (hU.out.jn.goes g3) h3 k3)
                have hp3 : B3.hp = B.hp := k3.hp.trans hp.out
                have hg3 := k3.fr.cellAt hg0 hgB.out
                have C1 := hserial_yes h3 c3
                rw [hpe hp3, show ((o.ser : Nat) : Int) = (m : Int) + 1 by rw [ho]; push_cast; rfl] at C1
                have C2 : ∀ W (cw : Calm w3 W), Calls Try.prog 18 #[hpV B3, .int .i64 p] W fun e w' => e = .returned (.int .i64 (q : Nat)) ∧ ∃ B4 X4, HAt w' B4 s3 X4 ∧ HKeep W B3 w' B4 := fun W cw => (hmoved (h3.calm cw) hp2.out).mono (fun e w' (h : MovedPost _ _ _ _ _ _) => by
                  obtain ⟨s4, q4, g4, h4, B4, X4, h5, k5⟩ := h
                  obtain ⟨rfl, rfl⟩ := g4.again (h3.calm cw).rep hgo
                  exact ⟨h4, B4, X4, h5, k5⟩)
                rw [hpe hp3] at C2
                have hqn := cur_not_old h3.rep c3.mem
                have hql := c3.le h3.rep
                have C3 := fun W B4 X4 (h4 : HAt W B4 s3 X4) => hmoved_not h4 (a := q) ⟨by omega, by omega⟩ (fun e => hqn (mem_nI.1 e))
                replace C1 := hid C1
                replace C2 := hid C2
                replace C3 := hid C3
                replace hp3 := hid hp3
                have hmw : IntKind.i64.wrap ((m : Int) + 1) = (m : Int) + 1 := IntWalk.i64_in _ (by omega)
                clear C hres h3 k3 g3 hgo c3 ho hg0 hqn hql hgB hU
                go_wp2_with fail
                refine (C1.out).mono ?_
                rintro e w4 ⟨rfl, c4⟩
                have hg4 := c4.cellAt hg3 id
                go_wp2_with fail
                refine (C2.out _ c4).mono ?_
                rintro e w5 ⟨rfl, B5, X5, h5, k5⟩
                have C4 := C3.out _ _ _ h5
                rw [hpe (k5.hp.trans hp3.out)] at C4
                have hU5 := hid ((hU3.out.calm c4).next hU3.out.jn h5 k5)
                have hp5 := hid (k5.hp.trans hp3.out)
                replace C4 := hid C4
                clear h5 k5 C3 C2 C1 hU3
                go_wp2_with fail
                refine (C4.out).mono ?_
                rintro e w6 ⟨rfl, c6⟩
                go_wp2
                go_roundw
                case rel => exact ⟨j + 1, by omega, by omega, by go_num, s3, B5, X5, hU5.out.calm c6, hp5.out⟩
                case measure => simp [intOf]; omega
            · skip
              replace hU := hid hU
              go_wp2
              go_ret
              exact ⟨rfl, hU.out.fc.below⟩
          · skip
            replace hU := hid hU
            go_wp2
            go_ret
            exact ⟨rfl, hU.out.fc.below⟩
      · clear hlt
        have hal : (plc s.cur).length = k := by simp [hI.len]
        have C := hflip_yes hA hI.mv
        rw [hpe hp] at C
        have hT0 := fun w2 (hA2 : HAt w2 (B1.flip s.u) s.flip X) (hK2 : HKeep wr B1 w2 (B1.flip s.u)) => (⟨s.flip, B1.flip s.u, X, ⟨SerJ.start hI, hA2, fun b hb => (hK2.new b hb).elim (fun h => hB b h) (fun h => by have := hc.size; omega), hv.frB hK2.fr hnB, fun b h1 h2 => (hK2.new b h2).elim (fun h => hnB b h1 h) (fun h => by have := (hv.lt h1).2; omega), hc.join hK2.fr (fun j hj h => by have := hB j h; omega)⟩, hK2.hp.trans hp⟩ : SerT w B.hp (.slice va vn vc) (plc s.cur) w2)
        replace C := hid C
        replace hT0 := hid hT0
        obtain ⟨va2, vc2, hve⟩ := hv.sliceN (n := k) (by simp [hI.len])
        have hn9 : vn = k := by cases hve; rfl
        subst hn9
        clear hve hA hI hv hB hnB hc hp
        generalize hat : plc s.cur = at_ at *
        replace hal := hid hal
        clear hat
        go_wp2_with fail
        refine (C.out).mono ?_
        rintro e w2 ⟨rfl, hA2, hK2⟩
        have hT1 := hid (hT0.out w2 hA2 hK2)
        clear hT0 hA2 hK2 C
        go_wp2_with fail
        go_loopw [14] (fun i wr => ∃ j : Nat, j ≤ no ∧ j ≤ 10 ∧ i = .int .i64 j ∧ SerT w B.hp (.slice va vn vc) at_ wr) (fun i _ => 10 - (intOf i).toNat)
        case atStart => exact ⟨0, by omega, by omega, rfl, hT1.out⟩
        case round =>
          clear hT1
          obtain ⟨j, hj, hj10, rfl, s2, B2, X2, hU, hp⟩ := hrel
          rcases Nat.lt_or_ge j no with hlt | hge
          · rcases Nat.lt_or_ge j 10 with hlt10 | hge10
            · rcases Nat.eq_zero_or_pos vn with hz | hpos
              · subst hz
                replace hU := hid hU
                go_wp2
                go_ret
                exact ⟨rfl, hU.out.fc.below⟩
              · obtain ⟨ob, ooff, rfl, _, hcell⟩ := hok.out j hlt
                replace hcell := hU.fc.cellAt (p := ⟨ob, ooff + j, none⟩) hcell id
                have hx := hlo.out (lo.getD j 0) (by have : j < lo.length := (by rw [hno.out]; exact hlt); simp [List.getD, this])
                generalize lo.getD j 0 = x at *
                have hpr := pk_range x (n := vn) (by omega)
                have hpk := hid (fun W => pick10 x vn W hx (by omega))
                obtain ⟨m, hm0⟩ : ∃ m : Nat, pk x vn = m := ⟨(pk x vn).toNat, by omega⟩
                rw [hm0] at hpk
                have hmv : m < vn := by omega
                have hml : m < at_.length := by rw [hal.out]; exact hmv
                obtain ⟨g, gc, hv', _, hg0, _⟩ := hU.row.get (k := m) (by simpa using hml)
                injection hv' with hv1 hv2 hv3
                subst hv1
                rw [show (nI at_).getD m 0 = ((at_.getD m 0 : Nat) : Int) by simp [List.getD, hml]] at hg0
                have hos := hU.jn.sers m hml
                have C := hmoved hU.hat (hos.le hU.hat.rep)
                rw [hpe hp] at C
                have hres := hid (fun (s3 : HS) (q : Nat) (g : Goes s2 (at_.getD m 0) s3 q) => g.result hU.hat.rep hos)
                have hgB : Hid (¬ HBlk B2 g) := hU.apr g rfl
                have hp2 : Hid (at_.getD m 0 ≤ 131072) := hos.le hU.hat.rep
                replace C := hid C
                replace hp := hid hp
                replace hU := hid hU
                clear hv2 hv3 hml hos hpr hm0
                generalize at_.getD m 0 = p at *
                go_wp2_with fail
                refine (hpk.out _).mono ?_
                rintro e w3 ⟨rfl, rfl⟩
                go_wp2_with fail
                refine (C.out).mono ?_
                rintro e w3 ⟨s3, q, g3, rfl, B3, X3, h3, k3⟩
                obtain ⟨⟨ii, o, c3, ho⟩, hgo⟩ := hres.out _ _ g3
                have hU3 := hid (hU.out.next (hU.out.jn.goes g3) h3 k3)
                have hp3 : B3.hp = B.hp := k3.hp.trans hp.out
                have hg3 := k3.fr.cellAt hg0 hgB.out
                have C1 := hserial_yes h3 c3
                rw [hpe hp3, show ((o.ser : Nat) : Int) = (m : Int) + 1 by rw [ho]; push_cast; rfl] at C1
                have C2 : ∀ W (cw : Calm w3 W), Calls Try.prog 18 #[hpV B3, .int .i64 p] W fun e w' => e = .returned (.int .i64 (q : Nat)) ∧ ∃ B4 X4, HAt w' B4 s3 X4 ∧ HKeep W B3 w' B4 := fun W cw => (hmoved (h3.calm cw) hp2.out).mono (fun e w' (h : MovedPost _ _ _ _ _ _) => by
                  obtain ⟨s4, q4, g4, h4, B4, X4, h5, k5⟩ := h
                  obtain ⟨rfl, rfl⟩ := g4.again (h3.calm cw).rep hgo
                  exact ⟨h4, B4, X4, h5, k5⟩)
                rw [hpe hp3] at C2
                have hqn := cur_not_old h3.rep c3.mem
                have hql := c3.le h3.rep
                have C3 := fun W B4 X4 (h4 : HAt W B4 s3 X4) => hmoved_not h4 (a := q) ⟨by omega, by omega⟩ (fun e => hqn (mem_nI.1 e))
                replace C1 := hid C1
                replace C2 := hid C2
                replace C3 := hid C3
                replace hp3 := hid hp3
                have hmw : IntKind.i64.wrap ((m : Int) + 1) = (m : Int) + 1 := IntWalk.i64_in _ (by omega)
                clear C hres h3 k3 g3 hgo c3 ho hg0 hqn hql hgB hU
                go_wp2_with fail
                refine (C1.out).mono ?_
                rintro e w4 ⟨rfl, c4⟩
                have hg4 := c4.cellAt hg3 id
                go_wp2_with fail
                refine (C2.out _ c4).mono ?_
                rintro e w5 ⟨rfl, B5, X5, h5, k5⟩
                have C4 := C3.out _ _ _ h5
                rw [hpe (k5.hp.trans hp3.out)] at C4
                have hU5 := hid ((hU3.out.calm c4).next hU3.out.jn h5 k5)
                have hp5 := hid (k5.hp.trans hp3.out)
                replace C4 := hid C4
                clear h5 k5 C3 C2 C1 hU3
                go_wp2_with fail
                refine (C4.out).mono ?_
                rintro e w6 ⟨rfl, c6⟩
                go_wp2
                go_roundw
                case rel => exact ⟨j + 1, by omega, by omega, by go_num, s3, B5, X5, hU5.out.calm c6, hp5.out⟩
                case measure => simp [intOf]; omega
            · skip
              replace hU := hid hU
              go_wp2
              go_ret
              exact ⟨rfl, hU.out.fc.below⟩
          · skip
            replace hU := hid hU
            go_wp2
            go_ret
            exact ⟨rfl, hU.out.fc.below⟩

end Go.Proofs.Ytiomemdmhcdpbaa
