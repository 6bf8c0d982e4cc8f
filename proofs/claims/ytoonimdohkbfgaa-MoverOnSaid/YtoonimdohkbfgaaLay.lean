/- Layer 8's small helpers: pick, Ints. Layer 8's example. Layer 8's Lay: what it lays. Plain laws: objects of which some are gone elsewhere; no program in sight. -/
import Derived.Test.YtoonimdohkbfgaaWord
import Derived.LoopN
import Derived.Test.YtoonimdohkbfgaaMover
import Derived.Test.YtoonimdohkbfgaaHead
import Derived.Test.YtoonimdohkbfgaaOpen2
import Derived.Deep.CutBlock
set_option linter.unusedSimpArgs false
set_option linter.unusedVariables false
namespace Go.Proofs.Ytoonimdohkbfgaa
open Go.RowKit Go.Shelf

theorem pick08 (c n : Int) (w : World) (hc : I64 c) (hn : 0 < n) :
    Calls Try.prog 40 #[.int .i64 c, .int .i64 n] w fun e w' => e = .returned (.int .i64 (pk c n)) ∧ w = w' := by
  obtain ⟨h1, h2⟩ := hc
  have hn0 : (n == 0) = false := by simp; omega
  by_cases h : c < 0
  · have h0 : 0 ≤ -(c + 1) := by omega
    have hp : Hid (pk c n = (-(c + 1)) % n) := by unfold pk; rw [if_pos h]; rfl
    go_enter Try.func40, Try.ntmps40
    go_wp2
    go_ret
    refine ⟨?_, rfl⟩
    show Ending.returned (.int .i64 (-(Int.tmod (c + 1) n))) = _
    rw [hp.out, ← Int.neg_tmod, Int.tmod_eq_emod_of_nonneg h0]
  · have h0 : 0 ≤ c := by omega
    have hp : Hid (pk c n = c % n) := by unfold pk; rw [if_neg h]; rfl
    go_enter Try.func40, Try.ntmps40
    go_wp2
    go_ret
    exact ⟨by rw [hp.out]; rfl, rfl⟩

theorem ints08_ne (a b : Option Addr) (n m ca cb : Nat) (w : World) (h : n ≠ m) (_hn : n ≤ 1000000) (_hm : m ≤ 1000000) :
    Calls Try.prog 21 #[.slice a n ca, .slice b m cb] w fun e w' => e = .returned (.bool false) ∧ Calm w w' := by
  have hne : ((n : Int) == (m : Int)) = false := by simp; omega
  have hne2 : ((n : Int) != (m : Int)) = true := by simp; omega
  go_enter Try.func21, Try.ntmps21
  go_wp2
  go_ret
  exact ⟨rfl, Fr.refl _ _⟩

def SamePost (xs ys : List Int) (w : World) (e : Ending) (w' : World) : Prop := e = .returned (.bool (decide (xs = ys))) ∧ Calm w w'

set_option maxHeartbeats 400000 in
theorem ints08_eq (b0 o0 b1 o1 ca cb : Nat) (a0 a1 : Option Addr) (xs ys : List Int) (n : Nat) (w : World) (hx : xs.length = n) (hy : ys.length = n) (hn : n ≤ 1000000)
    (h0 : 0 < n → a0 = some ⟨b0, o0, none⟩) (h1 : 0 < n → a1 = some ⟨b1, o1, none⟩)
    (hc0 : ∀ i, i < n → w.cell? ⟨b0, o0 + i, none⟩ = some (.int .i64 (xs.getD i 0))) (hc1 : ∀ i, i < n → w.cell? ⟨b1, o1 + i, none⟩ = some (.int .i64 (ys.getD i 0))) :
    Calls Try.prog 21 #[.slice a0 n ca, .slice a1 n cb] w (SamePost xs ys w) := by
  have HX : Hid (xs.length = n) := hx
  have HY : Hid (ys.length = n) := hy
  have H0 : Hid (0 < n → a0 = some ⟨b0, o0, none⟩) := h0
  have H1 : Hid (0 < n → a1 = some ⟨b1, o1, none⟩) := h1
  have C0 : Hid (∀ i, i < n → w.cell? ⟨b0, o0 + i, none⟩ = some (.int .i64 (xs.getD i 0))) := hc0
  have C1 : Hid (∀ i, i < n → w.cell? ⟨b1, o1 + i, none⟩ = some (.int .i64 (ys.getD i 0))) := hc1
  clear hx hy h0 h1 hc0 hc1
  have hne : ((n : Int) == (n : Int)) = true := by simp
  have hne2 : ((n : Int) != (n : Int)) = false := by simp
  go_enter Try.func21, Try.ntmps21
  go_wp2
  go_loopw [5] (fun i wr => ∃ k : Nat, k ≤ n ∧ i = .int .i64 k ∧ Calm w wr ∧ ∀ j, j < k → xs.getD j 0 = ys.getD j 0) (fun i _ => n - (intOf i).toNat)
  case atStart => exact ⟨0, by omega, rfl, Fr.refl _ _, fun j hj => absurd hj (by omega)⟩
  case round =>
    obtain ⟨k, hk, rfl, hc, he⟩ := hrel
    have HE : Hid (∀ j, j < k → xs.getD j 0 = ys.getD j 0) := he
    clear he
    by_cases hlt : k < n
    · have q0 := H0.out (by omega)
      have q1 := H1.out (by omega)
      subst q0 q1
      have d0 : wr.cell? ⟨b0, o0 + k, none⟩ = some (.int .i64 (xs.getD k 0)) := hc.cellAt (C0.out k hlt) id
      have d1 : wr.cell? ⟨b1, o1 + k, none⟩ = some (.int .i64 (ys.getD k 0)) := hc.cellAt (C1.out k hlt) id
      obtain ⟨x, hx⟩ : ∃ x, xs.getD k 0 = x := ⟨_, rfl⟩
      obtain ⟨y, hy⟩ : ∃ y, ys.getD k 0 = y := ⟨_, rfl⟩
      rw [hx] at d0
      rw [hy] at d1
      have HX1 : Hid (xs.getD k 0 = x) := hx
      have HY1 : Hid (ys.getD k 0 = y) := hy
      clear hx hy
      by_cases hxy : x = y
      · subst hxy
        go_wp2
        go_quiet (fail)
        go_wp2
        go_roundw
        case rel => exact ⟨k + 1, by omega, by go_num, hc.drewN _, fun j hj => by
          by_cases e : j = k
          · subst e; rw [HX1.out, HY1.out]
          · exact HE.out j (by omega)⟩
        case measure => simp [intOf]; omega
      · have hb : (x == y) = false := by simpa using hxy
        have hb2 : (x != y) = true := by simpa using hxy
        go_wp2
        go_quiet (fail)
        go_wp2
        go_ret
        refine ⟨?_, ?_⟩
        · have : decide (xs = ys) = false := by simp; rintro rfl; exact hxy (HX1.out.symm.trans HY1.out)
          rw [this]; rfl
        · exact hc.drewN _
    · obtain rfl : k = n := by omega
      go_wp2
      go_ret
      have : decide (xs = ys) = true := by
        simp
        refine List.ext_getElem (by rw [HX.out, HY.out]) (fun i h1 h2 => ?_)
        have := HE.out i (by rw [← HX.out]; exact h1)
        simpa [List.getD, h1, h2] using this
      exact ⟨by rw [this]; rfl, hc⟩

theorem ints08 (a b : Value) (xs ys : List Int) (w : World) (ha : Row w a (xs.map (Value.int .i64))) (hb : Row w b (ys.map (Value.int .i64))) (hx : xs.length ≤ 1000000) (hy : ys.length ≤ 1000000) :
    Calls Try.prog 21 #[a, b] w (SamePost xs ys w) := by
  obtain ⟨b0, o0, c0, ha, hca⟩ := ha.ints
  obtain ⟨b1, o1, c1, hb, hcb⟩ := hb.ints
  by_cases hl : xs.length = ys.length
  · obtain ⟨a0, c0', rfl, hp0⟩ : ∃ a0 c0', a = .slice a0 xs.length c0' ∧ (0 < xs.length → a0 = some ⟨b0, o0, none⟩) := by
      rcases ha with rfl | ⟨a', rfl, rfl⟩
      · exact ⟨_, _, rfl, fun _ => rfl⟩
      · exact ⟨a', _, rfl, fun h => by simp at h⟩
    obtain ⟨a1, c1', rfl, hp1⟩ : ∃ a1 c1', b = .slice a1 xs.length c1' ∧ (0 < xs.length → a1 = some ⟨b1, o1, none⟩) := by
      rcases hb with rfl | ⟨b', rfl, rfl⟩
      · exact ⟨_, _, by rw [hl], fun _ => rfl⟩
      · simp at hl; subst hl; exact ⟨b', _, rfl, fun h => by simp at h⟩
    exact ints08_eq b0 o0 b1 o1 _ _ a0 a1 xs ys xs.length w rfl hl.symm hx hp0 hp1 hca (fun i hi => hcb i (by omega))
  · obtain ⟨a0, c0', rfl⟩ : ∃ a0 c0', a = .slice a0 xs.length c0' := by
      rcases ha with rfl | ⟨a', rfl, rfl⟩
      · exact ⟨_, _, rfl⟩
      · exact ⟨a', _, rfl⟩
    obtain ⟨a1, c1', rfl⟩ : ∃ a1 c1', b = .slice a1 ys.length c1' := by
      rcases hb with rfl | ⟨b', rfl, rfl⟩
      · exact ⟨_, _, rfl⟩
      · exact ⟨b', _, rfl⟩
    refine (ints08_ne a0 a1 _ _ _ _ w hl hx hy).mono ?_
    rintro e w' ⟨rfl, hc⟩
    have : decide (xs = ys) = false := by simp; rintro rfl; exact hl rfl
    exact ⟨by rw [this], hc⟩

end Go.Proofs.Ytoonimdohkbfgaa

namespace Go.Proofs.Ytoonimdohkbfgaa
open Go.RowKit Go.Shelf

def o08 : Ob := Ob.new 1 1 false false 3
def x08 : List Nat := made (List.replicate 60 0) 1 1 1 false false 3
def y08 : List Nat := cpd x08 1 20 o08.size
theorem x08_len : x08.length = 60 := by rw [x08, made_length]; simp
theorem o08_size : o08.size = 5 := rfl
theorem x08_at : At x08 1 o08 := made_at ⟨by decide, by decide, fun h => by cases h⟩ (by decide) (by decide)
theorem y08_at : At y08 20 o08 := cpd_at x08_at (by rw [x08_len, o08_size]; decide) (.inl (by rw [o08_size]; decide))
theorem y08_gone : Gone y08 1 20 := cpd_gone x08_at (by rw [x08_len, o08_size]; decide) (by decide) (by decide)
theorem rnd5 : rnd 5 = 6 := by decide
theorem o08_took : o08.took = 6 := by rw [Ob.took, o08_size]; exact congrArg Int.toNat rnd5
theorem y08_lie : Lie y08 20 26 [(20, o08)] := ⟨rfl, x08_at.ok, .inl y08_at, by show 20 + o08.took = 26; rw [o08_took]⟩

set_option maxRecDepth 100000 in
set_option maxHeartbeats 2000000 in
theorem awake08 (w : World) :
    Calls Try.prog 15 #[] w fun e w' => e = .returned (.bool true) ∧ Calm w w' := by
  have ok : Hid (okS 1 1 false false) := ⟨by decide, by decide, fun h => by cases h⟩
  go_enter Try.func15, Try.ntmps15
  go_wp2_with fail
  refine (new_yes _ 60 (by decide) (by decide)).mono ?_
  rintro e w1 ⟨b, c, rfl, ar, c1, lb, lc⟩
  go_wp2_with fail
  refine (omake_yes _ b c _ ar 1 1 1 false false 3 ok.out (by simp) (by decide)).mono ?_
  rintro e w2 ⟨rfl, ar, f2⟩
  replace ar : Ar w2 b c x08 := ar
  replace c1 := c1.join f2 (fun k hk (e : k = c) => absurd hk (by omega))
  clear f2
  go_wp2_with fail
  refine (make_yes 20 30 _ (by decide) (by decide) (by decide) (by decide)).mono ?_
  rintro e w3 ⟨rfl, c3⟩
  have o3 := OwnL.new w3 [.int .i64 20, .int .i64 30, .int .i64 20] 56
  replace c3 := c3.alloc (.cells #[.int .i64 20, .int .i64 30, .int .i64 20] 56)
  replace ar := ar.calm c3
  replace c1 := c1.trans c3
  clear c3
  have x0 := (o3 0 _ rfl).1
  have x1 := (o3 1 _ rfl).1
  have x2 := (o3 2 _ rfl).1
  go_wp2_with fail
  have hcp := copy_yes _ b c x08 ar 1 o08 x08_at 20 30 20 ⟨by decide, by decide, by decide, by decide, by decide, by decide⟩ (by rw [o08_size]; show rnd 5 ≤ 30 - (20 - 20); rw [rnd5]; decide) (by decide) (by rw [x08_len, o08_size]; decide)
  rw [show ((20 : Nat) : Int) + rnd o08.size = 26 from by rw [o08_size]; show (20 : Int) + rnd 5 = 26; rw [rnd5]; rfl] at hcp
  refine (hcp).mono ?_
  rintro e w4 ⟨rfl, ar, f4⟩
  replace ar : Ar w4 b c y08 := ar
  replace c1 := c1.join f4 (fun k hk (e : k = c) => absurd hk (by omega))
  clear f4 hcp x0 x1 x2 o3
  have o5 := OwnL.new w4 [.int .i64 20, .int .i64 30, .int .i64 26] 56
  have c5 : Calm w4 (w4.alloc (.cells #[.int .i64 20, .int .i64 30, .int .i64 26] 56)) := (Fr.refl _ _).alloc _
  replace ar := ar.calm c5
  replace c1 := c1.trans c5
  clear c5
  go_wp2_with fail
  refine (mat_gone _ b c y08 ar 1 20 y08_gone).mono ?_
  rintro e w' ⟨rfl, rfl⟩
  go_wp2_with fail
  refine (at_serial ar y08_at).mono ?_
  rintro e w6 ⟨rfl, c6⟩
  rw [show (o08.ser : Int) = 3 from rfl]
  replace ar := ar.calm c6
  replace o5 := o5.calm c6
  replace c1 := c1.trans c6
  clear c6
  have x0 := (o5 0 _ rfl).1
  have x1 := (o5 1 _ rfl).1
  have x2 := (o5 2 _ rfl).1
  go_wp2_with fail
  refine (used_any 20 30 26 _ ⟨by decide, by decide, by decide, by decide, by decide, by decide⟩).mono ?_
  rintro e w7 ⟨rfl, c7⟩
  replace ar := ar.calm c7
  replace o5 := o5.calm c7
  replace c1 := c1.trans c7
  clear c7 x0 x1 x2
  have x0 := (o5 0 _ rfl).1
  have x1 := (o5 1 _ rfl).1
  have x2 := (o5 2 _ rfl).1
  go_wp2_with fail
  refine (walk_is ar 20 30 26 ⟨by decide, by decide, by decide, by decide, by decide, by decide⟩ _ y08_lie).mono ?_
  rintro e w8 ⟨v, rfl, rv, c8⟩
  replace c1 := c1.trans c8
  go_wp2_with fail
  refine (ints08 v _ [20] [20] _ (rv.row.calm ((Fr.refl _ _).alloc _)) (Row.new w8 (iVs [20]) 3 1) (by decide) (by decide)).mono ?_
  rintro e w9 ⟨rfl, c9⟩
  go_wp2
  go_ret
  exact ⟨by simp, (c1.alloc _).trans c9⟩

end Go.Proofs.Ytoonimdohkbfgaa

namespace Go.Proofs.Ytoonimdohkbfgaa
open Go.RowKit Go.Shelf

/-- Objects one behind the other, none of them gone. -/
def Laid (xs : List Nat) : Nat → Nat → List (Nat × Ob) → Prop
  | b, e, [] => b = e
  | b, e, (a, o) :: l => a = b ∧ At xs a o ∧ Laid xs (b + o.took) e l
theorem Laid.lie {xs : List Nat} : ∀ {l : List (Nat × Ob)} {b e : Nat}, Laid xs b e l → Lie xs b e l
  | [], _, _, h => h
  | (_, _) :: _, _, _, ⟨h1, h2, h3⟩ => ⟨h1, h2.ok, .inl h2, h3.lie⟩
theorem Laid.congr {xs ys : List Nat} (hl : ys.length = xs.length) : ∀ {l : List (Nat × Ob)} {b e : Nat}, Laid xs b e l → (∀ j, b ≤ j → j < e → ys.getD j 0 = xs.getD j 0) → Laid ys b e l
  | [], _, _, h, _ => h
  | (a, o) :: l, b, e, ⟨h1, h2, h3⟩, hj => by
    have := h3.lie.le
    obtain ⟨_, q2, q3, _⟩ := Ob.took_eq h2.ok
    refine ⟨h1, h2.of_eq (by rw [hl]; exact h2.room) (fun i hi => hj _ (by omega) (by omega)), Laid.congr hl h3 (fun j k1 k2 => hj j (by omega) k2)⟩
theorem Laid.snoc {xs : List Nat} {o : Ob} : ∀ {l : List (Nat × Ob)} {b e : Nat}, Laid xs b e l → At xs e o → Laid xs b (e + o.took) (l ++ [(e, o)])
  | [], b, e, h, ho => by
    have h : b = e := h
    subst h
    exact ⟨rfl, ho, rfl⟩
  | (a, p) :: l, b, e, ⟨h1, h2, h3⟩, ho => ⟨h1, h2, h3.snoc ho⟩
theorem Laid.at {xs : List Nat} : ∀ {l : List (Nat × Ob)} {b e : Nat}, Laid xs b e l → ∀ k, k < l.length → At xs (begs b l k) (l.getD k (0, Ob.new 0 0 false false 0)).2
  | (a, o) :: l, b, e, ⟨h1, h2, h3⟩, 0, _ => h1 ▸ h2
  | (a, o) :: l, b, e, ⟨h1, h2, h3⟩, k + 1, hk => by
    rw [begs_cons]
    exact Laid.at h3 k (by simpa using hk)

/-- What was laid so far. -/
structure LayO (xs X : List Nat) (e : Nat) (l : List (Nat × Ob)) : Prop where
  len : X.length = xs.length
  laid : Laid X 1 e l
  le : e ≤ 151
  ser : ∀ i, i < l.length → (l.getD i (0, Ob.new 0 0 false false 0)).2.ser = i + 1
  out : ∀ j, j < 1 ∨ 151 ≤ j → X.getD j 0 = xs.getD j 0

/-- The object that is being filled. -/
structure LayJ (X0 X : List Nat) (e : Nat) (o0 o : Ob) : Prop where
  at_ : At X e o
  len : X.length = X0.length
  p : o.p = o0.p
  d : o.d = o0.d
  ser : o.ser = o0.ser
  out : ∀ j, j < e ∨ e + o0.size ≤ j → X.getD j 0 = X0.getD j 0

theorem LayJ.ptr {X0 X : List Nat} {e : Nat} {o0 o : Ob} (h : LayJ X0 X e o0 o) {bp : Bool} {k : Int} {v : Nat} (hk : Has bp k o.p) (hv : v ≤ 131072) :
    LayJ X0 (bif bp then X.set (e + 3 + k.toNat) v else X) e o0 (bif bp then { o with ps := o.ps.set k.toNat v } else o) := by
  have := Has.at_ptr h.at_ hk hv
  rcases hk with ⟨rfl, h1, h2⟩ | ⟨rfl, h1⟩
  · refine ⟨this, by rw [cond_true, List.length_set]; exact h.len, h.p, h.d, h.ser, fun j hj => ?_⟩
    rw [cond_true, getD_set, if_neg (by have := h.p; have := h.d; simp only [Ob.size] at hj; omega)]
    exact h.out j hj
  · exact h
theorem LayJ.num {X0 X : List Nat} {e : Nat} {o0 o : Ob} (h : LayJ X0 X e o0 o) {bp : Bool} {k v : Int} (hk : Has bp k o.d) (hv : I64 v) :
    LayJ X0 (bif bp then X.set (e + 3 + o.p + k.toNat) (zg v) else X) e o0 (bif bp then { o with ns := o.ns.set k.toNat (zg v) } else o) := by
  have := Has.at_num h.at_ hk hv
  rcases hk with ⟨rfl, h1, h2⟩ | ⟨rfl, h1⟩
  · refine ⟨this, by rw [cond_true, List.length_set]; exact h.len, h.p, h.d, h.ser, fun j hj => ?_⟩
    rw [cond_true, getD_set, if_neg (by have := h.p; have := h.d; simp only [Ob.size] at hj; omega)]
    exact h.out j hj
  · exact h
theorem LayJ.freed {X0 X : List Nat} {e : Nat} {o0 o : Ob} (h : LayJ X0 X e o0 o) (fr : Bool) : LayJ X0 (X.set e (hd o.p o.d o.wk o.fn fr)) e o0 { o with fr := fr } := by
  refine ⟨h.at_.setHead fr, by rw [List.length_set]; exact h.len, h.p, h.d, h.ser, fun j hj => ?_⟩
  rw [getD_set, if_neg (by simp only [Ob.size] at hj; omega)]
  exact h.out j hj

theorem LayO.step {xs X Y : List Nat} {e : Nat} {l : List (Nat × Ob)} (h : LayO xs X e l) {p d : Nat} {wk fn : Bool} (hok : okS p d wk fn) {o : Ob} (hn : e + (rnd (3 + p + d : Nat)).toNat ≤ 151) (hx : 151 ≤ xs.length)
    (hj : LayJ (made X e p d wk fn (l.length + 1)) Y e (Ob.new p d wk fn (l.length + 1)) o) : LayO xs Y (e + (rnd (3 + p + d : Nat)).toNat) (l ++ [(e, o)]) := by
  have h1 := h.laid.lie.le
  have hs : o.size = 3 + p + d := by simp only [Ob.size, hj.p, hj.d, Ob.new]
  have ht : o.took = (rnd (3 + p + d : Nat)).toNat := by rw [Ob.took, hs]
  obtain ⟨q1, q2, q3, q4⟩ := Ob.took_eq hj.at_.ok
  have hr : e + (3 + p + d) ≤ X.length := by rw [h.len]; omega
  have hm : ∀ j, j < e ∨ e + (3 + p + d) ≤ j → (made X e p d wk fn (l.length + 1)).getD j 0 = X.getD j 0 := fun j hj => by
    rw [made_getD hr, if_neg (by omega), if_neg (by omega), if_neg (by omega)]
  have ho : ∀ j, j < e ∨ e + (3 + p + d) ≤ j → Y.getD j 0 = X.getD j 0 := fun j hj2 => (hj.out j (by simpa [Ob.size, Ob.new] using hj2)).trans (hm j hj2)
  have hlY : Y.length = X.length := by rw [hj.len, made_length]
  refine ⟨by rw [hlY, h.len], ?_, hn, fun i hi => ?_, fun j hj2 => (ho j (by omega)).trans (h.out j hj2)⟩
  · rw [← ht]
    exact (h.laid.congr hlY (fun j k1 k2 => ho j (.inl k2))).snoc hj.at_
  · simp at hi
    by_cases hi2 : i < l.length
    · have := h.ser i hi2
      simpa [List.getD, List.getElem?_append, hi2] using this
    · obtain rfl : i = l.length := by omega
      simpa [List.getD, Ob.new] using hj.ser

end Go.Proofs.Ytoonimdohkbfgaa

namespace Go.Proofs.Ytoonimdohkbfgaa
open Go.RowKit

theorem begs_ge (b : Nat) (ls : List (Nat × Ob)) : ∀ i, b ≤ begs b ls i
  | 0 => Nat.le_refl _
  | i + 1 => Nat.le_trans (begs_ge b ls i) (Nat.le_add_right _ _)
theorem begs_mono (b : Nat) (ls : List (Nat × Ob)) {i j : Nat} (h : i ≤ j) : begs b ls i ≤ begs b ls j := by
  induction h with
  | refl => exact Nat.le_refl _
  | step _ ih => exact Nat.le_trans ih (Nat.le_add_right _ _)

abbrev oo : Nat × Ob × Option Nat := (0, Ob.new 0 0 false false 0, none)
/-- Objects one behind the other, as they were before some of them went. -/
def OldL (X : List Nat) : Nat → Nat → List (Nat × Ob × Option Nat) → Prop
  | b, e, [] => b = e
  | b, e, (a, o, m) :: l => a = b ∧ o.Ok ∧ (match m with | none => At X a o | some t => Gone X a t) ∧ OldL X (b + o.took) e l
theorem OldL.of_laid {X : List Nat} : ∀ {l : List (Nat × Ob)} {b e : Nat}, Laid X b e l → OldL X b e (l.map fun x => (x.1, x.2, none))
  | [], _, _, h => h
  | (a, o) :: l, b, e, ⟨h1, h2, h3⟩ => ⟨h1, h2.ok, h2, OldL.of_laid h3⟩
theorem OldL.le {X : List Nat} : ∀ {l : List (Nat × Ob × Option Nat)} {b e : Nat}, OldL X b e l → b + 4 * l.length ≤ e
  | [], b, e, h => by have h : b = e := h; simp; omega
  | (a, o, m) :: l, b, e, ⟨h1, h2, _, h3⟩ => by
    have := OldL.le h3
    obtain ⟨_, _, q3, _⟩ := Ob.took_eq h2
    simp only [List.length_cons]; omega
/-- The entry i. -/
theorem OldL.at {X : List Nat} : ∀ {l : List (Nat × Ob × Option Nat)} {b e : Nat}, OldL X b e l → ∀ i, i < l.length →
    b ≤ (l.getD i oo).1 ∧ (l.getD i oo).1 + (l.getD i oo).2.1.took ≤ e ∧ (l.getD i oo).2.1.Ok ∧ (match (l.getD i oo).2.2 with | none => At X (l.getD i oo).1 (l.getD i oo).2.1 | some t => Gone X (l.getD i oo).1 t)
  | (a, o, m) :: l, b, e, ⟨h1, h2, h3, h4⟩, 0, _ => by
    have := OldL.le h4
    subst h1
    exact ⟨Nat.le_refl _, by show a + o.took ≤ e; omega, h2, h3⟩
  | (a, o, m) :: l, b, e, ⟨h1, h2, h3, h4⟩, i + 1, hi => by
    obtain ⟨k1, k2, k3, k4⟩ := OldL.at h4 i (by simpa using hi)
    exact ⟨by show b ≤ (l.getD i oo).1; omega, k2, k3, k4⟩
/-- Two entries lie apart. -/
theorem OldL.apart {X : List Nat} : ∀ {l : List (Nat × Ob × Option Nat)} {b e : Nat}, OldL X b e l → ∀ i j, i < j → j < l.length → (l.getD i oo).1 + (l.getD i oo).2.1.took ≤ (l.getD j oo).1
  | (a, o, m) :: l, b, e, ⟨h1, h2, h3, h4⟩, 0, j + 1, _, hj => by
    have := (OldL.at h4 j (by simpa using hj)).1
    subst h1; exact this
  | (a, o, m) :: l, b, e, ⟨h1, h2, h3, h4⟩, i + 1, j + 1, hij, hj => OldL.apart h4 i j (by omega) (by simpa using hj)
theorem Gone.congr {X Y : List Nat} {a t : Nat} (h : Gone X a t) (hl : Y.length = X.length) (he : Y.getD a 0 = X.getD a 0) : Gone Y a t := ⟨by rw [hl]; exact h.lt, h.pos, h.le, by rw [he]; exact h.word⟩
theorem OldL.congr {X Y : List Nat} (hl : Y.length = X.length) : ∀ {l : List (Nat × Ob × Option Nat)} {b e : Nat}, OldL X b e l → (∀ j, b ≤ j → j < e → Y.getD j 0 = X.getD j 0) → OldL Y b e l
  | [], _, _, h, _ => h
  | (a, o, m) :: l, b, e, ⟨h1, h2, h3, h4⟩, hj => by
    have := OldL.le h4
    obtain ⟨_, q2, q3, _⟩ := Ob.took_eq h2
    subst h1
    refine ⟨rfl, h2, ?_, OldL.congr hl h4 (fun j k1 k2 => hj j (by omega) k2)⟩
    cases m with
    | none => exact At.of_eq h3 (by rw [hl]; exact h3.room) (fun i hi => hj _ (by omega) (by omega))
    | some t => exact Gone.congr h3 hl (hj _ (by omega) (by omega))
/-- The entry i goes. -/
theorem OldL.go {X Y : List Nat} (hl : Y.length = X.length) {t : Nat} : ∀ {l : List (Nat × Ob × Option Nat)} {b e : Nat} {i : Nat}, OldL X b e l → i < l.length → Gone Y (l.getD i oo).1 t →
    (∀ j, b ≤ j → j < e → j ≠ (l.getD i oo).1 → Y.getD j 0 = X.getD j 0) → OldL Y b e (l.set i ((l.getD i oo).1, (l.getD i oo).2.1, some t))
  | (a, o, m) :: l, b, e, 0, ⟨h1, h2, h3, h4⟩, _, hg, hj => by
    subst h1
    obtain ⟨_, q2, q3, _⟩ := Ob.took_eq h2
    have hh : ∀ j, a + o.took ≤ j → j < e → Y.getD j 0 = X.getD j 0 := fun j k1 k2 => hj j (by omega) k2 (fun (e : j = a) => by omega)
    exact ⟨rfl, h2, hg, OldL.congr hl h4 hh⟩
  | (a, o, m) :: l, b, e, i + 1, ⟨h1, h2, h3, h4⟩, hi, hg, hj => by
    subst h1
    obtain ⟨_, q2, q3, _⟩ := Ob.took_eq h2
    have hi2 : i < l.length := by simpa using hi
    have hb := (OldL.at h4 i hi2).1
    have hle := OldL.le h4
    have hne : ∀ j, j < a + o.took → j ≠ (l.getD i oo).1 := fun j h => by omega
    refine ⟨rfl, h2, ?_, OldL.go hl h4 hi2 hg (fun j k1 k2 k3 => hj j (by omega) k2 k3)⟩
    cases m with
    | none => exact At.of_eq h3 (by rw [hl]; exact h3.room) (fun k hk => hj _ (by omega) (by omega) (hne _ (by omega)))
    | some t' => exact Gone.congr h3 hl (hj _ (by omega) (by omega) (hne _ (by omega)))

/-- Places from bo on of which some are gone to places from bn on. -/
structure Half (Rel : Ob → Ob → Prop) (X : List Nat) (bo eo : Nat) (old : List (Nat × Ob × Option Nat)) (bn en : Nat) (cur : List (Nat × Ob)) : Prop where
  ol : OldL X bo eo old
  cl : Laid X bn en cur
  gone : ∀ i, i < old.length → ∀ t, (old.getD i oo).2.2 = some t → ∃ j, j < cur.length ∧ begs bn cur j = t ∧ Rel (old.getD i oo).2.1 (cur.getD j (0, Ob.new 0 0 false false 0)).2
  inj : ∀ i j t, i < old.length → j < old.length → (old.getD i oo).2.2 = some t → (old.getD j oo).2.2 = some t → i = j

theorem getD_snoc {α : Type} (l : List α) (x d : α) {i : Nat} (h : i < l.length) : (l ++ [x]).getD i d = l.getD i d := by simp [List.getD, List.getElem?_append, h]
theorem getD_snoc' {α : Type} (l : List α) (x d : α) : (l ++ [x]).getD l.length d = x := by simp [List.getD]
theorem begs_snoc (b : Nat) (l : List (Nat × Ob)) (x : Nat × Ob) : ∀ {i : Nat}, i ≤ l.length → begs b (l ++ [x]) i = begs b l i
  | 0, _ => rfl
  | i + 1, h => by
    show begs b (l ++ [x]) i + _ = begs b l i + _
    rw [begs_snoc b l x (by omega), getD_snoc l x _ (by omega)]

/-- One more goes. -/
theorem Half.go {Rel : Ob → Ob → Prop} (hrel : ∀ o, Rel o o) {X : List Nat} {bo eo : Nat} {old : List (Nat × Ob × Option Nat)} {bn en : Nat} {cur : List (Nat × Ob)} (h : Half Rel X bo eo old bn en cur) {i : Nat} (hi : i < old.length) {a : Nat} {o : Ob} (hg : old.getD i oo = (a, o, none))
    {lim : Nat} (hlim : en + o.took ≤ lim) (hX : lim ≤ X.length) (hap : eo ≤ bn ∨ lim ≤ bo) (h1 : 1 ≤ en) (h2 : en ≤ 131072) :
    Half Rel (cpd X a en o.size) bo eo (old.set i (a, o, some en)) bn (en + o.took) (cur ++ [(en, o)]) ∧ At X a o := by
  have hat := OldL.at h.ol i hi
  rw [hg] at hat
  obtain ⟨k1, k2, k3, k4⟩ := hat
  have k1 : bo ≤ a := k1
  have k2 : a + o.took ≤ eo := k2
  have k3 : o.Ok := k3
  have k4 : At X a o := k4
  have hend := Lie.end h.cl.lie
  have hbn : bn ≤ en := by rw [← hend]; exact begs_ge _ _ _
  obtain ⟨_, q2, q3, _⟩ := Ob.took_eq k3
  have hr : en + o.size ≤ X.length := by omega
  have hd : a + o.size ≤ en ∨ en + o.size ≤ a := by omega
  have hal := k4.lt
  have hlen := cpd_length (xs := X) (a := a) hr
  have hA := cpd_at k4 hr hd
  have hG := cpd_gone k4 hr h1 h2
  have hw := cpd_getD (a := a) hr hal
  generalize cpd X a en o.size = Y at *
  refine ⟨⟨?_, ?_, ?_, ?_⟩, k4⟩
  · have := OldL.go (Y := Y) hlen (t := en) h.ol hi (by rw [hg]; exact hG) (fun j j1 j2 j3 => by
      rw [hg] at j3
      have j3 : j ≠ a := j3
      rw [hw, if_neg j3, if_neg (by omega)])
    rw [hg] at this
    exact this
  · refine Laid.snoc (Laid.congr hlen h.cl (fun j j1 j2 => ?_)) hA
    rw [hw, if_neg (by omega), if_neg (by omega)]
  · intro j hj t ht
    rw [List.length_set] at hj
    by_cases e : j = i
    · subst e
      have this : (old.set j (a, o, some en)).getD j oo = (a, o, some en) := by simp [List.getD, hj]
      rw [this] at ht
      have ht : some en = some t := ht
      injection ht with ht
      subst ht
      exact ⟨cur.length, by simp, by rw [begs_snoc _ _ _ (Nat.le_refl _)]; exact hend, by rw [getD_snoc', this]; exact hrel o⟩
    · have : (old.set i (a, o, some en)).getD j oo = old.getD j oo := by simp [List.getD, List.getElem?_set_ne (Ne.symm e)]
      rw [this] at ht ⊢
      obtain ⟨k, k5, k6, k7⟩ := h.gone j hj t ht
      exact ⟨k, by simp; omega, by rw [begs_snoc _ _ _ (by omega)]; exact k6, by rw [getD_snoc _ _ _ k5]; exact k7⟩
  · have hlow : ∀ j, j < old.length → (old.getD j oo).2.2 ≠ some en := fun j hj e => by
      obtain ⟨k, k5, k6, _⟩ := h.gone j hj en e
      obtain ⟨_, k8, _, k9⟩ := Lie.at h.cl.lie k k5
      obtain ⟨_, _, k10, _⟩ := Ob.took_eq k8
      have : begs bn cur k + (cur.getD k (0, Ob.new 0 0 false false 0)).2.took ≤ en := k9
      omega
    have hset : ∀ j, j < old.length → j ≠ i → (old.set i (a, o, some en)).getD j oo = old.getD j oo := fun j hj e => by simp [List.getD, List.getElem?_set_ne (Ne.symm e)]
    have hself : (old.set i (a, o, some en)).getD i oo = (a, o, some en) := by simp [List.getD, hi]
    intro j k t hj hk h3 h4
    rw [List.length_set] at hj hk
    by_cases e1 : j = i
    · by_cases e2 : k = i
      · rw [e1, e2]
      · rw [e1, hself] at h3
        rw [hset k hk e2] at h4
        have h3 : some en = some t := h3
        injection h3 with h3; subst h3
        exact absurd h4 (hlow k hk)
    · rw [hset j hj e1] at h3
      by_cases e2 : k = i
      · rw [e2, hself] at h4
        have h4 : some en = some t := h4
        injection h4 with h4; subst h4
        exact absurd h3 (hlow j hj)
      · rw [hset k hk e2] at h4
        exact h.inj j k t hj hk h3 h4

/-- How many words are still to go. -/
def owed : List (Nat × Ob × Option Nat) → Nat
  | [] => 0
  | (_, o, none) :: l => o.took + owed l
  | (_, _, some _) :: l => owed l
theorem owed_go {t : Nat} : ∀ {l : List (Nat × Ob × Option Nat)} {i : Nat} {a : Nat} {o : Ob}, i < l.length → l.getD i oo = (a, o, none) → owed (l.set i (a, o, some t)) + o.took = owed l
  | (a', o', m) :: l, 0, a, o, _, h => by
    have h : (a', o', m) = (a, o, none) := h
    injection h with h1 h2; injection h2 with h2 h3; subst h1; subst h2; subst h3
    show owed l + o'.took = o'.took + owed l
    omega
  | (a', o', m) :: l, i + 1, a, o, hi, h => by
    have ih := owed_go (t := t) (l := l) (i := i) (a := a) (o := o) (by simpa using hi) h
    cases m with
    | none => show o'.took + owed (l.set i (a, o, some t)) + o.took = o'.took + owed l; omega
    | some t' => exact ih
theorem owed_laid {X : List Nat} : ∀ {l : List (Nat × Ob)} {b e : Nat}, Laid X b e l → b + owed (l.map fun x => (x.1, x.2, none)) = e
  | [], b, e, h => h
  | (a, o) :: l, b, e, ⟨h1, h2, h3⟩ => by
    have := owed_laid h3
    show b + (o.took + owed (l.map fun x => (x.1, x.2, none))) = e
    omega
theorem Half.start {Rel : Ob → Ob → Prop} {X : List Nat} {b e bn : Nat} {l : List (Nat × Ob)} (h : Laid X b e l) : Half Rel X b e (l.map fun x => (x.1, x.2, none)) bn bn [] := by
  have hn : ∀ i, i < (l.map fun x : Nat × Ob => (x.1, x.2, (none : Option Nat))).length → ((l.map fun x : Nat × Ob => (x.1, x.2, (none : Option Nat))).getD i oo).2.2 = none := fun i hi => by
    have : i < l.length := by simpa using hi
    simp [List.getD, this]
  exact ⟨OldL.of_laid h, rfl, (fun i hi t ht => by rw [hn i hi] at ht; cases ht), (fun i j t hi hj h1 h2 => by rw [hn i hi] at h1; cases h1)⟩

abbrev o0 : Nat × Ob := (0, Ob.new 0 0 false false 0)
/-- One object turned, its size kept. -/
theorem Laid.upd {X X' : List Nat} {o' : Ob} (hl : X'.length = X.length) : ∀ {ls : List (Nat × Ob)} {b e i : Nat}, Laid X b e ls → i < ls.length → At X' (begs b ls i) o' → o'.took = (ls.getD i o0).2.took →
    (∀ j, j < begs b ls i ∨ begs b ls i + o'.took ≤ j → X'.getD j 0 = X.getD j 0) → Laid X' b e (ls.set i (begs b ls i, o'))
  | (a, o) :: ls, b, e, 0, ⟨h1, h2, h3⟩, _, ha, ht, hj => by
    have ht : o'.took = o.took := ht
    show Laid X' b e ((b, o') :: ls)
    refine ⟨rfl, ha, ?_⟩
    rw [ht]
    exact Laid.congr hl h3 (fun j k1 k2 => hj j (.inr (by show b + o'.took ≤ j; omega)))
  | (a, o) :: ls, b, e, i + 1, ⟨h1, h2, h3⟩, hi, ha, ht, hj => by
    rw [begs_cons] at ha hj ⊢
    have hb : b + o.took ≤ begs (b + o.took) ls i := begs_ge _ _ _
    have hr := h2.room
    obtain ⟨_, q2, _, _⟩ := Ob.took_eq h2.ok
    refine ⟨h1, h2.of_eq (by rw [hl]; exact hr) (fun k hk => hj _ (.inl (by simp only at hb ⊢; omega))), ?_⟩
    exact Laid.upd hl h3 (by simpa using hi) ha ht hj

theorem plc_set {X : List Nat} {b e i : Nat} {ls : List (Nat × Ob)} (h : Laid X b e ls) (hi : i < ls.length) (o : Ob) : plc (ls.set i (begs b ls i, o)) = plc ls := by
  have := (Lie.at h.lie i hi).1
  simp only [plc, List.map_set]
  rw [← this]
  apply List.ext_getElem (by simp)
  intro j h1 h2
  rw [List.getElem_set]
  split
  · rename_i e; subst e; simp [List.getD, hi]
  · rfl
theorem getD_set_self {α : Type} (l : List α) {i : Nat} (x d : α) (h : i < l.length) : (l.set i x).getD i d = x := by simp [List.getD, h]
theorem getD_set_ne {α : Type} (l : List α) {i j : Nat} (x d : α) (h : i ≠ j) : (l.set i x).getD j d = l.getD j d := by simp [List.getD, List.getElem?_set_ne h]

end Go.Proofs.Ytoonimdohkbfgaa
