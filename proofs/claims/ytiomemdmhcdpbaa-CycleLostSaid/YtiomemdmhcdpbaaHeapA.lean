/- A heap in memory. What slices.BinarySearch at []int returns. What package heap's functions return: Room, Moving, Here, there. What package heap's functions return: Shape, Serial, Num, and the setters. -/
import Derived.Test.YtiomemdmhcdpbaaHeapL
import Derived.Test.YtiomemdmhcdpbaaCanon
import Derived.Test.YtiomemdmhcdpbaaSpace
import Derived.Test.YtiomemdmhcdpbaaObject
set_option linter.unusedSimpArgs false
set_option linter.unusedVariables false
namespace Go.Proofs.Ytiomemdmhcdpbaa
open Go.RowKit Go.Shelf

/-- The blocks of a heap: its struct, its arena's, its words'; its four slices. -/
structure HB where
  hp : Nat
  ap : Nat
  ac : Nat
  v0 : Value
  v1 : Value
  vw : Value
  vf : Value
def HB.vs (B : HB) : List Value := [B.v0, B.v1, B.vw, B.vf]
/-- What is laid in the spaces. -/
def l0 (s : HS) : List Nat := bif s.u then opl s.old else plc s.cur
def l1 (s : HS) : List Nat := bif s.u then plc s.cur else opl s.old
def hcells (B : HB) (s : HS) : List Value :=
  [arV B.ap, .int .i64 1, .int .i64 s.n, .int .i64 ((bif s.u then s.otop else s.top : Nat) : Int), .int .i64 (1 + s.n), .int .i64 s.n, .int .i64 ((bif s.u then s.top else s.otop : Nat) : Int), B.v0, B.v1,
   .int .i64 (bif s.u then 1 else 0), .bool s.mv, .int .i64 (owed s.old : Nat), .int .i64 s.scan, .int .i64 s.ser, B.vw, B.vf]
/-- The blocks. -/
def HBlk (B : HB) (k : Nat) : Prop := k = B.hp ∨ k = B.ap ∨ k = B.ac ∨ ∃ v ∈ B.vs, InB v k
/-- The heap s lies in memory. -/
structure HAt (w : World) (B : HB) (s : HS) (X : List Nat) : Prop where
  cs : OwnL w B.hp (hcells B s)
  ar : Ar w B.ap B.ac X
  r0 : ORow w 0 B.v0 (nI (l0 s))
  r1 : ORow w 0 B.v1 (nI (l1 s))
  rw : ORow w 0 B.vw (nI s.weak)
  rf : ORow w 0 B.vf (nI s.fin)
  rep : HRep s X
  hap : B.hp ≠ B.ap
  hac : B.hp ≠ B.ac
  apart : B.vs.Pairwise Aprt
  none_ : ∀ v ∈ B.vs, ¬ InB v B.hp ∧ ¬ InB v B.ap ∧ ¬ InB v B.ac
abbrev hpV (B : HB) : Value := .pointer (some ⟨B.hp, 0, none⟩)
theorem HAt.fr {S : Nat → Prop} {w w' : World} {B : HB} {s : HS} {X : List Nat} (h : HAt w B s X) (f : Fr S w w') (hs : ∀ k, HBlk B k → ¬ S k) : HAt w' B s X := by
  have hv : ∀ v ∈ B.vs, ∀ k, InB v k → ¬ S k := fun v hv k hk => hs k (.inr (.inr (.inr ⟨v, hv, hk⟩)))
  exact ⟨h.cs.fr f (hs _ (.inl rfl)), h.ar.fr f (hs _ (.inr (.inl rfl))) (hs _ (.inr (.inr (.inl rfl)))), h.r0.frB f (hv _ (by simp [HB.vs])), h.r1.frB f (hv _ (by simp [HB.vs])), h.rw.frB f (hv _ (by simp [HB.vs])), h.rf.frB f (hv _ (by simp [HB.vs])), h.rep, h.hap, h.hac, h.apart, h.none_⟩
theorem HAt.calm {w w' : World} {B : HB} {s : HS} {X : List Nat} (h : HAt w B s X) (f : Calm w w') : HAt w' B s X := h.fr f (fun _ _ => id)
theorem HAt.lt {w : World} {B : HB} {s : HS} {X : List Nat} (h : HAt w B s X) : ∀ k, HBlk B k → k < w.heap.size := by
  have hc : B.ac < w.heap.size := by obtain ⟨_, ⟨t, ht⟩, _⟩ := h.ar; exact (Array.getElem?_eq_some_iff.1 ht).1
  rintro k (rfl | rfl | rfl | ⟨v, hv, hk⟩)
  · exact h.cs.lt (by simp [hcells])
  · exact h.ar.lt
  · exact hc
  · simp [HB.vs] at hv
    rcases hv with rfl | rfl | rfl | rfl
    · exact (h.r0.lt hk).2
    · exact (h.r1.lt hk).2
    · exact (h.rw.lt hk).2
    · exact (h.rf.lt hk).2
/-- What a call leaves of a heap's blocks. -/
structure HKeep (w : World) (B : HB) (w' : World) (B' : HB) : Prop where
  fr : Fr (HBlk B) w w'
  new : ∀ k, HBlk B' k → HBlk B k ∨ w.heap.size ≤ k
  hp : B'.hp = B.hp
theorem HKeep.refl (w : World) (B : HB) : HKeep w B w B := ⟨Fr.refl _ _, fun _ h => .inl h, rfl⟩
theorem HKeep.calm {w w' : World} (B : HB) (c : Calm w w') : HKeep w B w' B := ⟨c.any, fun _ h => .inl h, rfl⟩
theorem HKeep.trans {w w' w'' : World} {B B' B'' : HB} (h : HKeep w B w' B') (k : HKeep w' B' w'' B'') : HKeep w B w'' B'' :=
  ⟨h.fr.join k.fr (fun j hj hb => (h.new j hb).resolve_right (by omega)), fun j hj => by
    rcases k.new j hj with h1 | h1
    · exact h.new j h1
    · right; have := h.fr.size; omega, k.hp.trans h.hp⟩

/-- The words alone have turned. -/
theorem HAt.words {w w' : World} {B : HB} {s s' : HS} {X X' : List Nat} (h : HAt w B s X) (ar : Ar w' B.ap B.ac X') (f : Fr (fun k => k = B.ac) w w') (rep : HRep s' X') (hc : hcells B s' = hcells B s) (e0 : l0 s' = l0 s) (e1 : l1 s' = l1 s) (ew : s'.weak = s.weak) (ef : s'.fin = s.fin) :
    HAt w' B s' X' ∧ HKeep w B w' B := by
  have hn : ∀ v ∈ B.vs, ∀ k, InB v k → ¬ k = B.ac := fun v hv k hk e => (h.none_ v hv).2.2 (e ▸ hk)
  refine ⟨⟨by rw [hc]; exact h.cs.fr f h.hac, ar, by rw [e0]; exact h.r0.frB f (hn _ (by simp [HB.vs])), by rw [e1]; exact h.r1.frB f (hn _ (by simp [HB.vs])), by rw [ew]; exact h.rw.frB f (hn _ (by simp [HB.vs])), by rw [ef]; exact h.rf.frB f (hn _ (by simp [HB.vs])), rep, h.hap, h.hac, h.apart, h.none_⟩, f.mono (fun k _ e => .inr (.inr (.inl e))), fun _ h => .inl h, rfl⟩
theorem plc_upd (s : HS) (i : Nat) (o : Ob) : plc (s.upd i o).cur = plc s.cur := by
  show plc (s.cur.set i _) = plc s.cur
  simp only [plc, List.map_set]
  apply List.ext_getElem (by simp)
  intro j h1 h2
  rw [List.getElem_set]
  split
  · rename_i e; subst e
    have : i < s.cur.length := by simpa using h2
    simp [List.getD, this]
  · rfl
theorem upd_cells (B : HB) (s : HS) {i : Nat} {o : Ob} (hi : i < s.cur.length) (h : SameK (s.cur.getD i ob0).2 o) : hcells B (s.upd i o) = hcells B s ∧ l0 (s.upd i o) = l0 s ∧ l1 (s.upd i o) = l1 s := by
  have e1 : tookC (s.upd i o).cur = tookC s.cur := tookC_set _ _ _ hi h.took
  have e2 : (s.upd i o).top = s.top := by unfold HS.top; rw [e1]; rfl
  refine ⟨?_, ?_, ?_⟩
  · unfold hcells; rw [e2]; rfl
  · unfold l0; rw [plc_upd]; rfl
  · unfold l1; rw [plc_upd]; rfl

/-- Rising places. -/
def Rise (l : List Int) : Prop := ∀ i j, i < j → j < l.length → l.getD i 0 < l.getD j 0
theorem rise_cur {s : HS} {X : List Nat} (h : HRep s X) : Rise (nI (plc s.cur)) := by
  intro i j hij hj
  have hj2 : j < s.cur.length := by simpa using hj
  have hi2 : i < s.cur.length := by omega
  obtain ⟨p1, _, p2⟩ := h.place hi2
  obtain ⟨r1, _, _⟩ := h.place hj2
  obtain ⟨_, k8, _, _⟩ := Lie.at h.half.cl.lie i hi2
  obtain ⟨_, _, k9, _⟩ := Ob.took_eq k8
  have e1 : (nI (plc s.cur)).getD i 0 = ((s.cur.getD i ob0).1 : Nat) := by simp [List.getD, hi2]
  have e2 : (nI (plc s.cur)).getD j 0 = ((s.cur.getD j ob0).1 : Nat) := by simp [List.getD, hj2]
  have := begs_mono (s.base s.u) s.cur (show i + 1 ≤ j from hij)
  have h3 : begs (s.base s.u) s.cur (i + 1) = begs (s.base s.u) s.cur i + (s.cur.getD i (0, Ob.new 0 0 false false 0)).2.took := rfl
  rw [e1, e2, p1, r1]; omega
theorem rise_old {s : HS} {X : List Nat} (h : HRep s X) : Rise (nI (opl s.old)) := by
  intro i j hij hj
  have hj2 : j < s.old.length := by simpa using hj
  have hi2 : i < s.old.length := by omega
  have := h.half.ol.apart i j hij hj2
  obtain ⟨_, _, k8, _⟩ := h.half.ol.at i hi2
  obtain ⟨_, _, k9, _⟩ := Ob.took_eq k8
  have e1 : (nI (opl s.old)).getD i 0 = ((s.old.getD i oo).1 : Nat) := by simp [List.getD, hi2]
  have e2 : (nI (opl s.old)).getD j 0 = ((s.old.getD j oo).1 : Nat) := by simp [List.getD, hj2]
  rw [e1, e2]; omega

end Go.Proofs.Ytiomemdmhcdpbaa

namespace Go.Proofs.Ytiomemdmhcdpbaa
open Go.RowKit Go.Shelf

theorem cnan_is (x : Int) (w : World) : Calls Try.prog 114 #[.int .i64 x] w fun e w' => e = .returned (.bool false) ∧ w = w' := by
  have hb : (x == x) = true := by simp
  have hb2 : (x != x) = false := by simp
  go_enter Try.func114, Try.ntmps114
  go_wp2
  go_ret
  exact ⟨rfl, rfl⟩
theorem snan_is (x : Int) (w : World) : Calls Try.prog 102 #[.int .i64 x] w fun e w' => e = .returned (.bool false) ∧ w = w' := by
  have hb : (x == x) = true := by simp
  have hb2 : (x != x) = false := by simp
  go_enter Try.func102, Try.ntmps102
  go_wp2
  go_ret
  exact ⟨rfl, rfl⟩
set_option maxHeartbeats 400000 in
theorem less_is (x y : Int) (w : World) : Calls Try.prog 101 #[.int .i64 x, .int .i64 y] w fun e w' => e = .returned (.bool (decide (x < y))) ∧ w = w' := by
  go_enter Try.func101, Try.ntmps101
  go_wp2_with fail
  refine (cnan_is x _).mono ?_
  rintro e w' ⟨rfl, rfl⟩
  go_wp2
  go_ret
  exact ⟨rfl, rfl⟩

/-- Where it would stand. -/
def binI (l : List Int) (a : Int) : Nat := (l.filter (fun x => decide (x < a))).length
def BinPost (w : World) (l : List Int) (a : Int) (e : Ending) (w' : World) : Prop := e = .returned (.tuple #[.int .i64 (binI l a : Nat), .bool (decide (a ∈ l))]) ∧ Calm w w'

set_option maxRecDepth 100000 in
set_option maxHeartbeats 1000000 in
theorem bin_is {w : World} {v : Value} {l : List Int} (hr : Row w v (iVs l)) (hs : Rise l) (hn : l.length ≤ 1000000) (a : Int) (ha : I64 a) :
    Calls Try.prog 73 #[v, .int .i64 a] w (BinPost w l a) := by
  obtain ⟨ra, rc, rfl, hl⟩ := hr.loop
  obtain ⟨n, hnn⟩ : ∃ n, l.length = n := ⟨_, rfl⟩
  rw [hnn] at hn ⊢
  replace hl := hid hl
  replace hs := hid hs
  replace hnn := hid hnn
  have h0 : Hid (∀ k, k < 0 → l.getD k 0 < a) := fun k hk => by omega
  have h1 : Hid (∀ k, n ≤ k → k < n → a ≤ l.getD k 0) := fun k hk1 hk2 => by omega
  clear hr
  go_enter Try.func73, Try.ntmps73
  go_wp2
  go_loopw [7, 8] (fun i j wr => ∃ i0 j0 : Nat, i0 ≤ j0 ∧ j0 ≤ n ∧ i = .int .i64 i0 ∧ j = .int .i64 j0 ∧ Hid (∀ k, k < i0 → l.getD k 0 < a) ∧ Hid (∀ k, j0 ≤ k → k < n → a ≤ l.getD k 0) ∧ Calm w wr) (fun i j _ => (intOf j).toNat - (intOf i).toNat)
  case atStart => exact ⟨0, n, Nat.zero_le _, Nat.le_refl _, rfl, rfl, h0, h1, Fr.refl _ _⟩
  case round =>
    clear h0 h1
    obtain ⟨i, j, hij, hj, rfl, rfl, h0, h1, hc⟩ := hrel
    rcases Nat.lt_or_ge i j with hlt | hge
    · obtain ⟨m, hm⟩ : ∃ m : Nat, ((i : Int) + (j : Int)) / 2 = (m : Int) := ⟨(i + j) / 2, by omega⟩
      have m1 : i ≤ m := by omega
      have m2 : m < j := by omega
      have m3 : m < n := by omega
      obtain ⟨rb, roff, rfl, hrb, hcell⟩ := hl.out m (by rw [hnn.out]; exact m3)
      replace hcell := hc.cellAt (p := ⟨rb, roff + m, none⟩) hcell id
      obtain ⟨x, hx⟩ : ∃ x, l.getD m 0 = x := ⟨_, rfl⟩
      rw [hx] at hcell
      replace hx := hid hx
      by_cases hxa : x < a
      · have hd : decide (x < a) = true := by simpa using hxa
        go_wp2_with (go_at_call 101; refine (less_is x a _).mono ?_; rintro e w' ⟨rfl, rfl⟩)
        go_roundw
        case rel =>
          refine ⟨m + 1, j, by omega, hj, by go_num, rfl, fun k hk => ?_, h1, hc⟩
          by_cases e : k = m
          · subst e; rw [hx.out]; exact hxa
          · have := hs.out k m (by omega) (by rw [hnn.out]; exact m3); rw [hx.out] at this; omega
        case measure => simp [intOf]; omega
      · have hd : decide (x < a) = false := by simpa using hxa
        go_wp2_with (go_at_call 101; refine (less_is x a _).mono ?_; rintro e w' ⟨rfl, rfl⟩)
        go_roundw
        case rel =>
          refine ⟨i, m, m1, by omega, rfl, rfl, h0, fun k hk1 hk2 => ?_, hc⟩
          by_cases e : k = m
          · subst e; rw [hx.out]; omega
          · have := hs.out m k (by omega) (by rw [hnn.out]; exact hk2); rw [hx.out] at this; omega
        case measure => simp [intOf]; omega
    · obtain rfl : i = j := by omega
      have hix : Hid (binI l a = i) := by
        show binI l a = i
        unfold binI
        have e1 : l = l.take i ++ l.drop i := (List.take_append_drop i l).symm
        rw [e1, List.filter_append, List.length_append]
        have f1 : (l.take i).filter (fun x => decide (x < a)) = l.take i := by
          rw [List.filter_eq_self]
          intro x hx
          obtain ⟨k, hk, rfl⟩ := List.getElem_of_mem hx
          have hk2 : k < i := by simp at hk; omega
          have := h0.out k hk2
          simp at hk
          simpa [List.getD, show k < l.length by omega] using this
        have f2 : (l.drop i).filter (fun x => decide (x < a)) = [] := by
          rw [List.filter_eq_nil_iff]
          intro x hx
          obtain ⟨k, hk, rfl⟩ := List.getElem_of_mem hx
          simp at hk
          have := h1.out (i + k) (by omega) (by rw [← hnn.out]; omega)
          simp [List.getD, show i + k < l.length by omega] at this
          simpa using this
        rw [f1, f2]; simp; rw [hnn.out]; omega
      clear hij
      rcases Nat.lt_or_ge i n with hlt | hge2
      · obtain ⟨rb, roff, rfl, hrb, hcell⟩ := hl.out i (by rw [hnn.out]; exact hlt)
        replace hcell := hc.cellAt (p := ⟨rb, roff + i, none⟩) hcell id
        obtain ⟨x, hx⟩ : ∃ x, l.getD i 0 = x := ⟨_, rfl⟩
        rw [hx] at hcell
        have hmem : x ∈ l := by rw [← hx]; have := hnn.out; simp [List.getD, show i < l.length by omega]
        by_cases hxa : x = a
        · subst hxa
          have hd : Hid (decide (x ∈ l) = true) := decide_eq_true hmem
          have hb : (x == x) = true := by simp
          clear hx hmem
          go_wp2
          go_ret2
          exact ⟨by rw [hd.out, hix.out]; rfl, hc⟩
        · have hd : Hid (decide (a ∈ l) = false) := by
            show _ = false
            rw [decide_eq_false_iff_not]
            intro hm
            obtain ⟨k, hk, e⟩ := List.getElem_of_mem hm
            have e2 : l.getD k 0 = a := by simp [List.getD, hk, e]
            rcases Nat.lt_trichotomy k i with hl2 | rfl | hl2
            · have := h0.out k hl2; omega
            · exact hxa (hx.symm.trans e2)
            · have := hs.out i k hl2 hk; have := h1.out i (Nat.le_refl _) hlt; omega
          have hb : (x == a) = false := by simpa using hxa
          clear hx hmem
          go_wp2_with (go_at_call 102; refine (snan_is x _).mono ?_; rintro e w' ⟨rfl, rfl⟩)
          go_ret2
          exact ⟨by rw [hd.out, hix.out]; rfl, hc⟩
      · have hd : Hid (decide (a ∈ l) = false) := by
          show _ = false
          rw [decide_eq_false_iff_not]
          intro hm
          obtain ⟨k, hk, e⟩ := List.getElem_of_mem hm
          have e2 : l.getD k 0 = a := by simp [List.getD, hk, e]
          have := h0.out k (by have := hnn.out; omega); omega
        go_wp2
        go_ret2
        exact ⟨by rw [hd.out, hix.out]; rfl, hc⟩

end Go.Proofs.Ytiomemdmhcdpbaa

namespace Go.Proofs.Ytiomemdmhcdpbaa
open Go.RowKit Go.Shelf

theorem HAt.own {w : World} {B : HB} {s : HS} {X : List Nat} (h : HAt w B s X) {i : Nat} {v : Value} (hv : (hcells B s)[i]? = some v) : Own w B.hp i v := h.cs i v hv
theorem HAt.lt_hp {w : World} {B : HB} {s : HS} {X : List Nat} (h : HAt w B s X) : B.hp < w.heap.size := h.lt _ (.inl rfl)
/-- A cell of the heap's struct, in whatever later world. -/
theorem HAt.rd {w : World} {B : HB} {s : HS} {X : List Nat} (h : HAt w B s X) (i : Nat) (v : Value) (hv : (hcells B s)[i]? = some v) : ∀ x : Later w, x.w.cell? ⟨B.hp, i, none⟩ = some v := fun x => x.cell (h.own hv).1
theorem HAt.rowC {w : World} {B : HB} {s : HS} {X : List Nat} (h : HAt w B s X) : ORow w 0 (bif s.u then B.v1 else B.v0) (nI (plc s.cur)) := by
  have h0 := h.r0; have h1 := h.r1
  cases hu : s.u
  · simpa [l0, hu] using h0
  · simpa [l1, hu] using h1
theorem HAt.rowO {w : World} {B : HB} {s : HS} {X : List Nat} (h : HAt w B s X) : ORow w 0 (bif s.u then B.v0 else B.v1) (nI (opl s.old)) := by
  have h0 := h.r0; have h1 := h.r1
  cases hu : s.u
  · simpa [l1, hu] using h1
  · simpa [l0, hu] using h0
/-- Few objects. -/
theorem HRep.few_cur {s : HS} {X : List Nat} (h : HRep s X) : s.cur.length ≤ 4096 ∧ s.old.length ≤ 4096 := by
  have h1 := h.half.cl.lie.le
  have h2 := h.half.ol.le
  have h3 := h.top_le
  have h4 := h.n2
  omega
theorem okP_cur {s : HS} {X : List Nat} (h : HRep s X) : okP (s.base s.u : Nat) s.n (s.top : Nat) := by
  have h1 := h.top_le; have h2 := h.n2; have h3 := h.sep; have h4 := h.len
  refine ⟨by omega, by omega, by omega, by omega, ?_, by omega⟩
  unfold HS.top; omega
theorem okP_old {s : HS} {X : List Nat} (h : HRep s X) : okP (s.base (!s.u) : Nat) s.n (s.otop : Nat) := by
  have h1 := h.top_le; have h2 := h.n2; have h3 := h.sep; have h4 := h.len
  refine ⟨by omega, by omega, by omega, by omega, ?_, by omega⟩
  unfold HS.otop; omega

theorem moving_is {w : World} {B : HB} {s : HS} {X : List Nat} (h : HAt w B s X) :
    Calls Try.prog 35 #[hpV B] w fun e w' => e = .returned (.bool s.mv) ∧ w = w' := by
  have y := (h.own (i := 10) (v := .bool s.mv) rfl).1
  clear h
  go_enter Try.func35, Try.ntmps35
  go_wp2
  go_ret
  exact ⟨rfl, rfl⟩

set_option maxHeartbeats 1000000 in
theorem room_is {w : World} {B : HB} {s : HS} {X : List Nat} (h : HAt w B s X) :
    Calls Try.prog 27 #[hpV B] w fun e w' => e = .returned (.int .i64 s.room) ∧ Calm w w' := by
  have hr1 := h.rep.room
  have hr2 := h.rep.n2
  have hok := okP_cur h.rep
  have hrm : Hid (((s.n : Int) - ((s.top : Nat) - (s.base s.u : Nat))) - (owed s.old : Nat) = s.room) := by
    show _ = s.room
    unfold HS.room HS.top; push_cast; omega
  have hof : (owed s.old : Int) ≤ 16384 := by omega
  have htop := h.rep.top_le
  have yo := h.rd 11 (.int .i64 (owed s.old : Nat)) rfl
  have hbs := base_sep s
  have hw1 : IntKind.i64.wrap (((s.n : Int) - ((s.top : Nat) - (s.base s.u : Nat))) - (owed s.old : Nat)) = ((s.n : Int) - ((s.top : Nat) - (s.base s.u : Nat))) - (owed s.old : Nat) := IntWalk.i64_in _ (by rw [hrm.out]; unfold HS.room; omega)
  cases hu : s.u
  · have y9 := h.rd 9 (.int .i64 0) (by simp [hcells, hu])
    have y1 := h.rd 1 (.int .i64 1) (by simp [hcells, hu])
    have y2 := h.rd 2 (.int .i64 s.n) (by simp [hcells, hu])
    have y3 := h.rd 3 (.int .i64 s.top) (by simp [hcells, hu])
    have eb : ((s.base s.u : Nat) : Int) = 1 := by rw [(hbs.2 hu).1]; rfl
    rw [eb] at hok hrm hw1
    have hle := hid (fun W => left_any _ _ _ W hok)
    clear h hbs htop hok eb hu
    go_enter Try.func27, Try.ntmps27
    go_wp2
    refine wp_region_calm (by kernel_rfl) (by kernel_rfl) ?_
    repeat (go_big_quiet_step ((go_at_call 63; exact Calls.calm_of (hle.out _))))
    refine wpQuiet_nil ?_
    intro w2 hw'
    have c2 := Later.out hw'
    clear hw' y9 y1 y2 y3 yo hw1
    go_wp2
    go_ret
    exact ⟨congrArg (fun z => Ending.returned (.int .i64 z)) hrm.out, c2⟩
  · have y9 := h.rd 9 (.int .i64 1) (by simp [hcells, hu])
    have y1 := h.rd 4 (.int .i64 (1 + s.n)) (by simp [hcells, hu])
    have y2 := h.rd 5 (.int .i64 s.n) (by simp [hcells, hu])
    have y3 := h.rd 6 (.int .i64 s.top) (by simp [hcells, hu])
    have eb : ((s.base s.u : Nat) : Int) = 1 + s.n := by rw [(hbs.1 hu).1]; push_cast; rfl
    rw [eb] at hok hrm hw1
    have hle := hid (fun W => left_any _ _ _ W hok)
    clear h hbs htop hok eb hu
    go_enter Try.func27, Try.ntmps27
    go_wp2
    refine wp_region_calm (by kernel_rfl) (by kernel_rfl) ?_
    repeat (go_big_quiet_step ((go_at_call 63; exact Calls.calm_of (hle.out _))))
    refine wpQuiet_nil ?_
    intro w2 hw'
    have c2 := Later.out hw'
    clear hw' y9 y1 y2 y3 yo hw1
    go_wp2
    go_ret
    exact ⟨congrArg (fun z => Ending.returned (.int .i64 z)) hrm.out, c2⟩

/-- Whether an object lies there, in the space in use. -/
theorem here_is {w : World} {B : HB} {s : HS} {X : List Nat} (h : HAt w B s X) (a : Int) (ha : I64 a) :
    Calls Try.prog 38 #[hpV B, .int .i64 a] w fun e w' => e = .returned (.bool (decide (a ∈ nI (plc s.cur)))) ∧ Calm w w' := by
  have hrow := h.rowC
  have hrise := rise_cur h.rep
  have hfew := h.rep.few_cur
  obtain ⟨D, hD⟩ : ∃ D, decide (a ∈ nI (plc s.cur)) = D := ⟨_, rfl⟩
  obtain ⟨bi, hbi⟩ : ∃ bi, binI (nI (plc s.cur)) a = bi := ⟨_, rfl⟩
  have hb : Hid (∀ x : Later w, Calls Try.prog 73 #[bif s.u then B.v1 else B.v0, .int .i64 a] x.w fun e w' => e = .returned (.tuple #[.int .i64 (bi : Nat), .bool D]) ∧ Calm x.w w') := fun x => by
    rw [← hD, ← hbi]
    exact bin_is (hrow.calm x.calm).row hrise (by simp; omega) a ha
  rw [hD]
  clear hD hbi
  have hv0 := h.rd 7 B.v0 rfl
  have hv1 := h.rd 8 B.v1 rfl
  cases hu : s.u
  · have y9 := h.rd 9 (.int .i64 0) (by simp [hcells, hu])
    rw [hu] at hb
    simp only [cond_false] at hb
    clear h hrow hrise hu
    go_enter Try.func38, Try.ntmps38
    go_wp2
    refine wp_region_calm (by kernel_rfl) (by kernel_rfl) ?_
    repeat (go_big_quiet_step ((go_at_call 73; exact Calls.calm_of (hb.out _))))
    refine wpQuiet_nil ?_
    intro w2 hw'
    have c2 := Later.out hw'
    clear hw' y9 hv0 hv1
    go_wp2
    go_ret
    exact ⟨rfl, c2⟩
  · have y9 := h.rd 9 (.int .i64 1) (by simp [hcells, hu])
    rw [hu] at hb
    simp only [cond_true] at hb
    clear h hrow hrise hu
    go_enter Try.func38, Try.ntmps38
    go_wp2
    refine wp_region_calm (by kernel_rfl) (by kernel_rfl) ?_
    repeat (go_big_quiet_step ((go_at_call 73; exact Calls.calm_of (hb.out _))))
    refine wpQuiet_nil ?_
    intro w2 hw'
    have c2 := Later.out hw'
    clear hw' y9 hv0 hv1
    go_wp2
    go_ret
    exact ⟨rfl, c2⟩

/-- Whether an object lay there, in the other space. -/
theorem there_is {w : World} {B : HB} {s : HS} {X : List Nat} (h : HAt w B s X) (a : Int) (ha : I64 a) :
    Calls Try.prog 55 #[hpV B, .int .i64 a] w fun e w' => e = .returned (.bool (decide (a ∈ nI (opl s.old)))) ∧ Calm w w' := by
  have hmv := hid (moving_is h)
  cases hm : s.mv
  · have ho := h.rep.still hm
    have hd : Hid (decide (a ∈ nI (opl s.old)) = false) := by show _ = false; rw [ho]; simp
    rw [hm] at hmv
    clear h ho hm
    go_enter Try.func55, Try.ntmps55
    go_wp2_with fail
    refine (hmv.out).mono ?_
    rintro e w' ⟨rfl, rfl⟩
    go_wp2
    go_ret
    exact ⟨by rw [hd.out]; rfl, Fr.refl _ _⟩
  · have hrow := h.rowO
    have hrise := rise_old h.rep
    have hfew := h.rep.few_cur
    obtain ⟨D, hD⟩ : ∃ D, decide (a ∈ nI (opl s.old)) = D := ⟨_, rfl⟩
    obtain ⟨bi, hbi⟩ : ∃ bi, binI (nI (opl s.old)) a = bi := ⟨_, rfl⟩
    have hb : Hid (∀ x : Later w, Calls Try.prog 73 #[bif s.u then B.v0 else B.v1, .int .i64 a] x.w fun e w' => e = .returned (.tuple #[.int .i64 (bi : Nat), .bool D]) ∧ Calm x.w w') := fun x => by
      rw [← hD, ← hbi]
      exact bin_is (hrow.calm x.calm).row hrise (by simp; omega) a ha
    rw [hD]
    clear hD hbi
    have hv0 := h.rd 7 B.v0 rfl
    have hv1 := h.rd 8 B.v1 rfl
    rw [hm] at hmv
    cases hu : s.u
    · have y9 := h.rd 9 (.int .i64 0) (by simp [hcells, hu])
      rw [hu] at hb
      simp only [cond_false] at hb
      clear h hrow hrise hu hm
      go_enter Try.func55, Try.ntmps55
      go_wp2_with fail
      refine (hmv.out).mono ?_
      rintro e w' ⟨rfl, rfl⟩
      go_wp2_with fail
      refine wp_region_calm (by kernel_rfl) (by kernel_rfl) ?_
      repeat (go_big_quiet_step ((go_at_call 73; exact Calls.calm_of (hb.out _))))
      refine wpQuiet_nil ?_
      intro w2 hw'
      have c2 := Later.out hw'
      clear hw' y9 hv0 hv1
      go_wp2
      go_ret
      exact ⟨rfl, c2⟩
    · have y9 := h.rd 9 (.int .i64 1) (by simp [hcells, hu])
      rw [hu] at hb
      simp only [cond_true] at hb
      clear h hrow hrise hu hm
      go_enter Try.func55, Try.ntmps55
      go_wp2_with fail
      refine (hmv.out).mono ?_
      rintro e w' ⟨rfl, rfl⟩
      go_wp2_with fail
      refine wp_region_calm (by kernel_rfl) (by kernel_rfl) ?_
      repeat (go_big_quiet_step ((go_at_call 73; exact Calls.calm_of (hb.out _))))
      refine wpQuiet_nil ?_
      intro w2 hw'
      have c2 := Later.out hw'
      clear hw' y9 hv0 hv1
      go_wp2
      go_ret
      exact ⟨rfl, c2⟩

end Go.Proofs.Ytiomemdmhcdpbaa

namespace Go.Proofs.Ytiomemdmhcdpbaa
open Go.RowKit Go.Shelf

/-- The object i of the space in use. -/
structure CurAt (s : HS) (i a : Nat) (o : Ob) : Prop where
  lt : i < s.cur.length
  get : s.cur.getD i ob0 = (a, o)
theorem CurAt.mem {s : HS} {i a : Nat} {o : Ob} (c : CurAt s i a o) : a ∈ plc s.cur := by
  have h1 : s.cur[i]'c.lt = (a, o) := by have := c.get; simpa [List.getD, c.lt] using this
  exact List.mem_map.2 ⟨(a, o), h1 ▸ List.getElem_mem _, rfl⟩
theorem CurAt.at_ {s : HS} {X : List Nat} (h : HRep s X) {i a : Nat} {o : Ob} (c : CurAt s i a o) : At X a o := by
  have := h.at_ c.lt
  have e : s.cur.getD i (0, Ob.new 0 0 false false 0) = (a, o) := c.get
  rw [e] at this; exact this
theorem CurAt.of_mem {s : HS} {a : Nat} (h : a ∈ plc s.cur) : ∃ i o, CurAt s i a o := by
  obtain ⟨x, hx, rfl⟩ := List.mem_map.1 h
  obtain ⟨i, hi, e⟩ := List.getElem_of_mem hx
  exact ⟨i, x.2, hi, by simp [List.getD, hi, e]⟩
theorem mem_nI {a : Nat} {l : List Nat} : ((a : Nat) : Int) ∈ nI l ↔ a ∈ l := by
  constructor
  · intro h
    obtain ⟨x, hx, e⟩ := List.mem_map.1 h
    have : x = a := by omega
    exact this ▸ hx
  · intro h; exact List.mem_map.2 ⟨a, h, rfl⟩
theorem here_yes {w : World} {B : HB} {s : HS} {X : List Nat} (h : HAt w B s X) {a : Nat} (hm : a ∈ plc s.cur) (hb : a ≤ 131072) :
    Calls Try.prog 38 #[hpV B, .int .i64 a] w fun e w' => e = .returned (.bool true) ∧ Calm w w' := by
  refine (here_is h a ⟨by omega, by omega⟩).mono (fun e w' ⟨h1, h2⟩ => ⟨?_, h2⟩)
  rw [h1, decide_eq_true (mem_nI.2 hm)]
theorem here_no {w : World} {B : HB} {s : HS} {X : List Nat} (h : HAt w B s X) {a : Int} (ha : I64 a) (hm : a ∉ nI (plc s.cur)) :
    Calls Try.prog 38 #[hpV B, .int .i64 a] w fun e w' => e = .returned (.bool false) ∧ Calm w w' := by
  refine (here_is h a ha).mono (fun e w' ⟨h1, h2⟩ => ⟨?_, h2⟩)
  rw [h1, decide_eq_false hm]
theorem CurAt.le {s : HS} {X : List Nat} (h : HRep s X) {i a : Nat} {o : Ob} (c : CurAt s i a o) : a ≤ 131072 := by
  have h1 := (c.at_ h).lt
  have h2 := h.len
  have h3 := h.n2
  omega
/-- Whatever was done to the object's words alone. -/
theorem HAt.turn {w w' : World} {B : HB} {s : HS} {X X' : List Nat} (h : HAt w B s X) {i a : Nat} {o o' : Ob} (c : CurAt s i a o) (ar : Ar w' B.ap B.ac X') (f : Fr (fun k => k = B.ac) w w') (hl : X'.length = X.length) (ha : At X' a o') (hs : SameK o o')
    (hj : ∀ j, j < a ∨ a + o.size ≤ j → X'.getD j 0 = X.getD j 0) : HAt w' B (s.upd i o') X' ∧ HKeep w B w' B := by
  have hr := h.rep.upd c.lt (o' := o') hl (by rw [c.get]; exact ha) (by rw [c.get]; exact hs) (by rw [c.get]; exact hj)
  obtain ⟨e1, e2, e3⟩ := upd_cells B s c.lt (o := o') (by rw [c.get]; exact hs)
  exact h.words ar f hr e1 e2 e3 rfl rfl
theorem upd_same {s : HS} {i a : Nat} {o : Ob} (c : CurAt s i a o) : s.upd i o = s := by
  unfold HS.upd
  have e : s.cur.getD i (0, Ob.new 0 0 false false 0) = (a, o) := c.get
  rw [e]
  have : s.cur.set i (a, o) = s.cur := by
    apply List.ext_getElem (by simp)
    intro j h1 h2
    rw [List.getElem_set]
    split
    · rename_i e2; subst e2
      have := c.get; simp [List.getD, c.lt] at this; exact this.symm
    · rfl
  rw [this]
def Ob.setn (o : Ob) (bp : Bool) (k v : Int) : Ob := bif bp then { o with ns := o.ns.set k.toNat (zg v) } else o
def Ob.setp (o : Ob) (bp : Bool) (k : Int) (v : Nat) : Ob := bif bp then { o with ps := o.ps.set k.toNat v } else o
theorem Ob.setn_same (o : Ob) (bp : Bool) (k v : Int) : SameK o (o.setn bp k v) := by cases bp <;> exact ⟨rfl, rfl, rfl, rfl, rfl⟩
theorem Ob.setp_same (o : Ob) (bp : Bool) (k : Int) (v : Nat) : SameK o (o.setp bp k v) := by cases bp <;> exact ⟨rfl, rfl, rfl, rfl, rfl⟩

section
variable {w : World} {B : HB} {s : HS} {X : List Nat}

theorem hserial_no (h : HAt w B s X) {a : Int} (ha : I64 a) (hm : a ∉ nI (plc s.cur)) :
    Calls Try.prog 15 #[hpV B, .int .i64 a] w fun e w' => e = .returned (.tuple #[.int .i64 0, .int .i64 70]) ∧ Calm w w' := by
  have hh := hid (here_no h ha hm)
  clear h hm
  go_enter Try.func15, Try.ntmps15
  go_wp2_with fail
  refine (hh.out).mono ?_
  rintro e w1 ⟨rfl, c1⟩
  go_wp2
  go_ret2
  exact ⟨rfl, c1⟩

theorem hnum_no (h : HAt w B s X) {a : Int} (ha : I64 a) (hm : a ∉ nI (plc s.cur)) (k : Int) :
    Calls Try.prog 41 #[hpV B, .int .i64 a, .int .i64 k] w fun e w' => e = .returned (.tuple #[.int .i64 0, .int .i64 70]) ∧ Calm w w' := by
  have hh := hid (here_no h ha hm)
  clear h hm
  go_enter Try.func41, Try.ntmps41
  go_wp2_with fail
  refine (hh.out).mono ?_
  rintro e w1 ⟨rfl, c1⟩
  go_wp2
  go_ret2
  exact ⟨rfl, c1⟩

theorem hsetnum_no (h : HAt w B s X) {a : Int} (ha : I64 a) (hm : a ∉ nI (plc s.cur)) (k v : Int) :
    Calls Try.prog 42 #[hpV B, .int .i64 a, .int .i64 k, .int .i64 v] w fun e w' => e = .returned (.int .i64 70) ∧ Calm w w' := by
  have hh := hid (here_no h ha hm)
  clear h hm
  go_enter Try.func42, Try.ntmps42
  go_wp2_with fail
  refine (hh.out).mono ?_
  rintro e w1 ⟨rfl, c1⟩
  go_wp2
  go_ret
  exact ⟨rfl, c1⟩

theorem hsetfreed_no (h : HAt w B s X) {a : Int} (ha : I64 a) (hm : a ∉ nI (plc s.cur)) (v : Bool) :
    Calls Try.prog 43 #[hpV B, .int .i64 a, .bool v] w fun e w' => e = .returned (.int .i64 70) ∧ Calm w w' := by
  have hh := hid (here_no h ha hm)
  clear h hm
  go_enter Try.func43, Try.ntmps43
  go_wp2_with fail
  refine (hh.out).mono ?_
  rintro e w1 ⟨rfl, c1⟩
  go_wp2
  go_ret
  exact ⟨rfl, c1⟩

theorem hsetsecond_no (h : HAt w B s X) {a : Int} (ha : I64 a) (hm : a ∉ nI (plc s.cur)) (v : Nat) :
    Calls Try.prog 44 #[hpV B, .int .i64 a, wV v] w fun e w' => e = .returned (.int .i64 70) ∧ Calm w w' := by
  have hh := hid (here_no h ha hm)
  clear h hm
  go_enter Try.func44, Try.ntmps44
  go_wp2_with fail
  refine (hh.out).mono ?_
  rintro e w1 ⟨rfl, c1⟩
  go_wp2
  go_ret
  exact ⟨rfl, c1⟩

theorem hptr_no (h : HAt w B s X) {a : Int} (ha : I64 a) (hm : a ∉ nI (plc s.cur)) (k : Int) :
    Calls Try.prog 26 #[hpV B, .int .i64 a, .int .i64 k] w fun e w' => e = .returned (.tuple #[.int .i64 0, .int .i64 70]) ∧ Calm w w' := by
  have hh := hid (here_no h ha hm)
  clear h hm
  go_enter Try.func26, Try.ntmps26
  go_wp2_with fail
  refine (hh.out).mono ?_
  rintro e w1 ⟨rfl, c1⟩
  go_wp2
  go_ret2
  exact ⟨rfl, c1⟩

theorem hsetptr_no (h : HAt w B s X) {a : Int} (ha : I64 a) (hm : a ∉ nI (plc s.cur)) (k v : Int) :
    Calls Try.prog 21 #[hpV B, .int .i64 a, .int .i64 k, .int .i64 v] w fun e w' => e = .returned (.int .i64 70) ∧ Calm w w' := by
  have hh := hid (here_no h ha hm)
  clear h hm
  go_enter Try.func21, Try.ntmps21
  go_wp2_with fail
  refine (hh.out).mono ?_
  rintro e w1 ⟨rfl, c1⟩
  go_wp2
  go_ret
  exact ⟨rfl, c1⟩

theorem hserial_yes (h : HAt w B s X) {i a : Nat} {o : Ob} (c : CurAt s i a o) :
    Calls Try.prog 15 #[hpV B, .int .i64 a] w fun e w' => e = .returned (.tuple #[.int .i64 o.ser, .int .i64 0]) ∧ Calm w w' := by
  have hh := hid (here_yes h c.mem (c.le h.rep))
  have y0 := (h.own (i := 0) (v := arV B.ap) rfl).1
  have ha := hid (c.at_ h.rep)
  have H := hid h
  clear h
  go_enter Try.func15, Try.ntmps15
  go_wp2_with fail
  refine (hh.out).mono ?_
  rintro e w1 ⟨rfl, c1⟩
  replace y0 := c1.cellAt y0 id
  replace H := hid (H.out.calm c1)
  go_wp2_with fail
  refine (at_serial H.out.ar ha.out).mono ?_
  rintro e w2 ⟨rfl, c2⟩
  go_wp2
  go_ret2
  exact ⟨rfl, c1.trans c2⟩

theorem hnum_if (h : HAt w B s X) {i a : Nat} {o : Ob} (c : CurAt s i a o) {bp : Bool} {k : Int} (hk : Has bp k o.d) :
    Calls Try.prog 41 #[hpV B, .int .i64 a, .int .i64 k] w fun e w' => e = .returned (.tuple #[.int .i64 (bif bp then zt (o.ns.getD k.toNat 0) else 0), .int .i64 (bif bp then 0 else 71)]) ∧ Calm w w' := by
  replace hk := hid hk
  have hh := hid (here_yes h c.mem (c.le h.rep))
  have y0 := (h.own (i := 0) (v := arV B.ap) rfl).1
  have ha := hid (c.at_ h.rep)
  have H := hid h
  clear h
  go_enter Try.func41, Try.ntmps41
  go_wp2_with fail
  refine (hh.out).mono ?_
  rintro e w1 ⟨rfl, c1⟩
  replace y0 := c1.cellAt y0 id
  replace H := hid (H.out.calm c1)
  go_wp2_with fail
  refine (at_num_if H.out.ar ha.out hk.out).mono ?_
  rintro e w2 ⟨rfl, c2⟩
  go_wp2
  go_ret2
  exact ⟨rfl, c1.trans c2⟩

theorem hsetnum_if (h : HAt w B s X) {i a : Nat} {o : Ob} (c : CurAt s i a o) {bp : Bool} {k v : Int} (hk : Has bp k o.d) (hv : I64 v) :
    Calls Try.prog 42 #[hpV B, .int .i64 a, .int .i64 k, .int .i64 v] w fun e w' => e = .returned (.int .i64 (bif bp then 0 else 71)) ∧ ∃ X', HAt w' B (s.upd i (o.setn bp k v)) X' ∧ HKeep w B w' B := by
  replace hk := hid hk
  replace hv := hid hv
  have hh := hid (here_yes h c.mem (c.le h.rep))
  have y0 := (h.own (i := 0) (v := arV B.ap) rfl).1
  have ha := hid (c.at_ h.rep)
  have H := hid h
  clear h
  go_enter Try.func42, Try.ntmps42
  go_wp2_with fail
  refine (hh.out).mono ?_
  rintro e w1 ⟨rfl, c1⟩
  replace y0 := c1.cellAt y0 id
  replace H := hid (H.out.calm c1)
  go_wp2_with fail
  refine (at_setnum_if H.out.ar ha.out hk.out hv.out).mono ?_
  rintro e w2 ⟨rfl, ar2, f2⟩
  have ht := hid (H.out.turn c ar2 f2 (o' := o.setn bp k v) (by cases bp <;> simp) (Has.at_num ha.out hk.out hv.out) (o.setn_same bp k v) (fun j hj => by have hk := hk.out; simp only [Ob.size] at hj; rcases hk with ⟨rfl, h1, h2⟩ | ⟨rfl, h1⟩ <;> simp only [cond_true, cond_false]; rw [getD_set, if_neg (by omega)]))
  have hk0 := HKeep.calm B c1
  go_wp2
  go_ret
  exact ⟨rfl, _, ht.out.1, hk0.trans ht.out.2⟩

theorem hsetfreed_yes (h : HAt w B s X) {i a : Nat} {o : Ob} (c : CurAt s i a o) (fr' : Bool) :
    Calls Try.prog 43 #[hpV B, .int .i64 a, .bool fr'] w fun e w' => e = .returned (.int .i64 0) ∧ ∃ X', HAt w' B (s.upd i ({ o with fr := fr' })) X' ∧ HKeep w B w' B := by
  have hh := hid (here_yes h c.mem (c.le h.rep))
  have y0 := (h.own (i := 0) (v := arV B.ap) rfl).1
  have ha := hid (c.at_ h.rep)
  have H := hid h
  clear h
  go_enter Try.func43, Try.ntmps43
  go_wp2_with fail
  refine (hh.out).mono ?_
  rintro e w1 ⟨rfl, c1⟩
  replace y0 := c1.cellAt y0 id
  replace H := hid (H.out.calm c1)
  go_wp2_with fail
  refine (at_setfreed H.out.ar ha.out fr').mono ?_
  rintro e w2 ⟨rfl, ar2, f2⟩
  have ht := hid (H.out.turn c ar2 f2 (o' := { o with fr := fr' }) (by simp) (ha.out.setHead fr') (⟨rfl, rfl, rfl, rfl, rfl⟩) (fun j hj => by simp only [Ob.size] at hj; rw [getD_set, if_neg (by omega)]))
  have hk0 := HKeep.calm B c1
  go_wp2
  go_ret
  exact ⟨rfl, _, ht.out.1, hk0.trans ht.out.2⟩

theorem hsetsecond_yes (h : HAt w B s X) {i a : Nat} {o : Ob} (c : CurAt s i a o) (v : Nat) :
    Calls Try.prog 44 #[hpV B, .int .i64 a, wV v] w fun e w' => e = .returned (.int .i64 0) ∧ ∃ X', HAt w' B (s.upd i ({ o with snd := v })) X' ∧ HKeep w B w' B := by
  have hh := hid (here_yes h c.mem (c.le h.rep))
  have y0 := (h.own (i := 0) (v := arV B.ap) rfl).1
  have ha := hid (c.at_ h.rep)
  have H := hid h
  clear h
  go_enter Try.func44, Try.ntmps44
  go_wp2_with fail
  refine (hh.out).mono ?_
  rintro e w1 ⟨rfl, c1⟩
  replace y0 := c1.cellAt y0 id
  replace H := hid (H.out.calm c1)
  go_wp2_with fail
  refine (at_setsecond H.out.ar ha.out v).mono ?_
  rintro e w2 ⟨rfl, ar2, f2⟩
  have ht := hid (H.out.turn c ar2 f2 (o' := { o with snd := v }) (by simp) (ha.out.setSnd v) (⟨rfl, rfl, rfl, rfl, rfl⟩) (fun j hj => by simp only [Ob.size] at hj; rw [getD_set, if_neg (by omega)]))
  have hk0 := HKeep.calm B c1
  go_wp2
  go_ret
  exact ⟨rfl, _, ht.out.1, hk0.trans ht.out.2⟩

end

end Go.Proofs.Ytiomemdmhcdpbaa
