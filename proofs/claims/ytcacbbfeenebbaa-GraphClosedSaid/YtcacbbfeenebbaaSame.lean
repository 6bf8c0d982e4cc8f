/- What slices.Equal at []int, and package graph's Same, return. -/
import Derived.Test.YtcacbbfeenebbaaNRow
import Derived.Test.YtcacbbfeenebbaaInts08
set_option linter.unusedSimpArgs false
set_option linter.unusedVariables false
namespace Go.Proofs.Ytcacbbfeenebbaa
open Go.RowKit Go.Shelf Go.Maps

theorem ieq_ne (a b : Option Addr) (n m ca cb : Nat) (w : World) (h : n ≠ m) (_hn : n ≤ 1000000) (_hm : m ≤ 1000000) :
    Calls Try.prog 76 #[.slice a n ca, .slice b m cb] w fun e w' => e = .returned (.bool false) ∧ Calm w w' := by
  have hne : ((n : Int) == (m : Int)) = false := by simp; omega
  have hne2 : ((n : Int) != (m : Int)) = true := by simp; omega
  go_enter Try.func76, Try.ntmps76
  go_wp2
  go_ret
  exact ⟨rfl, Fr.refl _ _⟩

set_option maxHeartbeats 400000 in
theorem ieq_eq (b0 o0 b1 o1 ca cb : Nat) (a0 a1 : Option Addr) (xs ys : List Int) (n : Nat) (w : World) (hx : xs.length = n) (hy : ys.length = n) (hn : n ≤ 1000000)
    (h0 : 0 < n → a0 = some ⟨b0, o0, none⟩) (h1 : 0 < n → a1 = some ⟨b1, o1, none⟩)
    (hc0 : ∀ i, i < n → w.cell? ⟨b0, o0 + i, none⟩ = some (.int .i64 (xs.getD i 0))) (hc1 : ∀ i, i < n → w.cell? ⟨b1, o1 + i, none⟩ = some (.int .i64 (ys.getD i 0))) :
    Calls Try.prog 76 #[.slice a0 n ca, .slice a1 n cb] w (SamePost xs ys w) := by
  have HX : Hid (xs.length = n) := hx
  have HY : Hid (ys.length = n) := hy
  have H0 : Hid (0 < n → a0 = some ⟨b0, o0, none⟩) := h0
  have H1 : Hid (0 < n → a1 = some ⟨b1, o1, none⟩) := h1
  have C0 : Hid (∀ i, i < n → w.cell? ⟨b0, o0 + i, none⟩ = some (.int .i64 (xs.getD i 0))) := hc0
  have C1 : Hid (∀ i, i < n → w.cell? ⟨b1, o1 + i, none⟩ = some (.int .i64 (ys.getD i 0))) := hc1
  clear hx hy h0 h1 hc0 hc1
  have hne : ((n : Int) == (n : Int)) = true := by simp
  have hne2 : ((n : Int) != (n : Int)) = false := by simp
  go_enter Try.func76, Try.ntmps76
  go_wp2
  go_loopw [13] (fun i wr => ∃ k : Nat, k ≤ n ∧ i = .int .i64 k ∧ Calm w wr ∧ ∀ j, j < k → xs.getD j 0 = ys.getD j 0) (fun i _ => n - (intOf i).toNat)
  case atStart => exact ⟨0, by omega, rfl, Fr.refl _ _, fun j hj => absurd hj (by omega)⟩
  case round =>
    obtain ⟨k, hk, rfl, hc, he⟩ := hrel
    have HE : Hid (∀ j, j < k → xs.getD j 0 = ys.getD j 0) := he
    clear he
    by_cases hlt : k < n
    · have q0 := H0.out (by omega)
      have q1 := H1.out (by omega)
      subst q0 q1
      have d0 : wr.cell? ⟨b0, o0 + k, none⟩ = some (.int .i64 (xs.getD k 0)) := hc.cellAt (C0.out k hlt) id
      have d1 : wr.cell? ⟨b1, o1 + k, none⟩ = some (.int .i64 (ys.getD k 0)) := hc.cellAt (C1.out k hlt) id
      obtain ⟨x, hx⟩ : ∃ x, xs.getD k 0 = x := ⟨_, rfl⟩
      obtain ⟨y, hy⟩ : ∃ y, ys.getD k 0 = y := ⟨_, rfl⟩
      rw [hx] at d0
      rw [hy] at d1
      have HX1 : Hid (xs.getD k 0 = x) := hx
      have HY1 : Hid (ys.getD k 0 = y) := hy
      clear hx hy
      by_cases hxy : x = y
      · subst hxy
        go_wp2
        go_quiet (fail)
        go_wp2
        go_roundw
        case rel => exact ⟨k + 1, by omega, by go_num, hc.drewN _, fun j hj => by
          by_cases e : j = k
          · subst e; rw [HX1.out, HY1.out]
          · exact HE.out j (by omega)⟩
        case measure => simp [intOf]; omega
      · have hb : (x == y) = false := by simpa using hxy
        have hb2 : (x != y) = true := by simpa using hxy
        go_wp2
        go_quiet (fail)
        go_wp2
        go_ret
        refine ⟨?_, ?_⟩
        · have : decide (xs = ys) = false := by simp; rintro rfl; exact hxy (HX1.out.symm.trans HY1.out)
          rw [this]; rfl
        · exact hc.drewN _
    · obtain rfl : k = n := by omega
      go_wp2
      go_ret
      have : decide (xs = ys) = true := by
        simp
        refine List.ext_getElem (by rw [HX.out, HY.out]) (fun i h1 h2 => ?_)
        have := HE.out i (by rw [← HX.out]; exact h1)
        simpa [List.getD, h1, h2] using this
      exact ⟨by rw [this]; rfl, hc⟩

theorem ieq (a b : Value) (xs ys : List Int) (w : World) (ha : Row w a (xs.map (Value.int .i64))) (hb : Row w b (ys.map (Value.int .i64))) (hx : xs.length ≤ 1000000) (hy : ys.length ≤ 1000000) :
    Calls Try.prog 76 #[a, b] w (SamePost xs ys w) := by
  obtain ⟨b0, o0, c0, ha, hca⟩ := ha.ints
  obtain ⟨b1, o1, c1, hb, hcb⟩ := hb.ints
  by_cases hl : xs.length = ys.length
  · obtain ⟨a0, c0', rfl, hp0⟩ : ∃ a0 c0', a = .slice a0 xs.length c0' ∧ (0 < xs.length → a0 = some ⟨b0, o0, none⟩) := by
      rcases ha with rfl | ⟨a', rfl, rfl⟩
      · exact ⟨_, _, rfl, fun _ => rfl⟩
      · exact ⟨a', _, rfl, fun h => by simp at h⟩
    obtain ⟨a1, c1', rfl, hp1⟩ : ∃ a1 c1', b = .slice a1 xs.length c1' ∧ (0 < xs.length → a1 = some ⟨b1, o1, none⟩) := by
      rcases hb with rfl | ⟨b', rfl, rfl⟩
      · exact ⟨_, _, by rw [hl], fun _ => rfl⟩
      · simp at hl; subst hl; exact ⟨b', _, rfl, fun h => by simp at h⟩
    exact ieq_eq b0 o0 b1 o1 _ _ a0 a1 xs ys xs.length w rfl hl.symm hx hp0 hp1 hca (fun i hi => hcb i (by omega))
  · obtain ⟨a0, c0', rfl⟩ : ∃ a0 c0', a = .slice a0 xs.length c0' := by
      rcases ha with rfl | ⟨a', rfl, rfl⟩
      · exact ⟨_, _, rfl⟩
      · exact ⟨a', _, rfl⟩
    obtain ⟨a1, c1', rfl⟩ : ∃ a1 c1', b = .slice a1 ys.length c1' := by
      rcases hb with rfl | ⟨b', rfl, rfl⟩
      · exact ⟨_, _, rfl⟩
      · exact ⟨b', _, rfl⟩
    refine (ieq_ne a0 a1 _ _ _ _ w hl hx hy).mono ?_
    rintro e w' ⟨rfl, hc⟩
    have : decide (xs = ys) = false := by simp; rintro rfl; exact hl rfl
    exact ⟨by rw [this], hc⟩



def Nd.val (x : Nd) (vp vn : Value) : Value := ndV x.ser x.p x.d x.wk x.fn x.fr vp vn
def NdPost (x y : Nd) (w : World) (e : Ending) (w' : World) : Prop := e = .returned (.bool (decide (x = y))) ∧ Calm w w'

set_option maxHeartbeats 2000000 in
theorem ndeq_is {w : World} (x y : Nd) {xp xn yp yn : Value} (h1 : Row w xp (iVs x.ps)) (h2 : Row w xn (iVs x.ns)) (h3 : Row w yp (iVs y.ps)) (h4 : Row w yn (iVs y.ns))
    (l1 : x.ps.length ≤ 1000000) (l2 : x.ns.length ≤ 1000000) (l3 : y.ps.length ≤ 1000000) (l4 : y.ns.length ≤ 1000000) :
    Calls Try.prog 75 #[x.val xp xn, y.val yp yn] w (NdPost x y w) := by
  obtain ⟨xpa, xpc, rfl, -⟩ := h1.loop
  obtain ⟨xna, xnc, rfl, -⟩ := h2.loop
  obtain ⟨ypa, ypc, rfl, -⟩ := h3.loop
  obtain ⟨yna, ync, rfl, -⟩ := h4.loop
  replace h1 := hid h1
  replace h2 := hid h2
  replace h3 := hid h3
  replace h4 := hid h4
  obtain ⟨s, p, d, wk, fn, fr, ps, ns⟩ := x
  obtain ⟨s', p', d', wk', fn', fr', ps', ns'⟩ := y
  simp only at h1 h2 h3 h4 l1 l2 l3 l4
  simp only [Nd.val]
  by_cases e1 : s = s'
  rotate_left
  · have hd : Hid (decide ((⟨s, p, d, wk, fn, fr, ps, ns⟩ : Nd) = ⟨s', p', d', wk', fn', fr', ps', ns'⟩) = false) := by show _ = false; simp [e1]
    have b1 : (s == s') = false := by simpa using e1
    clear e1
    go_enter Try.func75, Try.ntmps75
    go_wp2
    go_ret
    exact ⟨by rw [hd.out]; rfl, ((Fr.refl _ _).alloc _).alloc _⟩
  subst e1
  by_cases e1 : p = p'
  rotate_left
  · have hd : Hid (decide ((⟨s, p, d, wk, fn, fr, ps, ns⟩ : Nd) = ⟨s, p', d', wk', fn', fr', ps', ns'⟩) = false) := by show _ = false; simp [e1]
    have b1 : ((p : Int) == (p' : Int)) = false := by simp; omega
    clear e1
    go_enter Try.func75, Try.ntmps75
    go_wp2
    go_ret
    exact ⟨by rw [hd.out]; rfl, ((Fr.refl _ _).alloc _).alloc _⟩
  subst e1
  by_cases e1 : d = d'
  rotate_left
  · have hd : Hid (decide ((⟨s, p, d, wk, fn, fr, ps, ns⟩ : Nd) = ⟨s, p, d', wk', fn', fr', ps', ns'⟩) = false) := by show _ = false; simp [e1]
    have b1 : ((d : Int) == (d' : Int)) = false := by simp; omega
    clear e1
    go_enter Try.func75, Try.ntmps75
    go_wp2
    go_ret
    exact ⟨by rw [hd.out]; rfl, ((Fr.refl _ _).alloc _).alloc _⟩
  subst e1
  by_cases e1 : wk = wk'
  rotate_left
  · have hd : Hid (decide ((⟨s, p, d, wk, fn, fr, ps, ns⟩ : Nd) = ⟨s, p, d, wk', fn', fr', ps', ns'⟩) = false) := by show _ = false; simp [e1]
    cases wk <;> cases wk' <;> simp only [not_true_eq_false, reduceCtorEq, not_false_eq_true] at e1
    all_goals
      clear e1
      go_enter Try.func75, Try.ntmps75
      go_wp2
      go_ret
      exact ⟨by rw [hd.out]; rfl, ((Fr.refl _ _).alloc _).alloc _⟩
  subst e1
  by_cases e1 : fn = fn'
  rotate_left
  · have hd : Hid (decide ((⟨s, p, d, wk, fn, fr, ps, ns⟩ : Nd) = ⟨s, p, d, wk, fn', fr', ps', ns'⟩) = false) := by show _ = false; simp [e1]
    cases fn <;> cases fn' <;> simp only [not_true_eq_false, reduceCtorEq, not_false_eq_true] at e1
    all_goals
      clear e1
      go_enter Try.func75, Try.ntmps75
      go_wp2
      go_ret
      exact ⟨by rw [hd.out]; rfl, ((Fr.refl _ _).alloc _).alloc _⟩
  subst e1
  by_cases e1 : fr = fr'
  rotate_left
  · have hd : Hid (decide ((⟨s, p, d, wk, fn, fr, ps, ns⟩ : Nd) = ⟨s, p, d, wk, fn, fr', ps', ns'⟩) = false) := by show _ = false; simp [e1]
    cases fr <;> cases fr' <;> simp only [not_true_eq_false, reduceCtorEq, not_false_eq_true] at e1
    all_goals
      clear e1
      go_enter Try.func75, Try.ntmps75
      go_wp2
      go_ret
      exact ⟨by rw [hd.out]; rfl, ((Fr.refl _ _).alloc _).alloc _⟩
  subst e1
  go_enter Try.func75, Try.ntmps75
  go_wp2_with fail
  have k1 : Calm w ((w.alloc (.cells #[.int .i64 s, .int .i64 p, .int .i64 d, .bool wk, .bool fn, .bool fr, .slice xpa ps.length xpc, .slice xna ns.length xnc] 118)).alloc (.cells #[.int .i64 s, .int .i64 p, .int .i64 d, .bool wk, .bool fn, .bool fr, .slice ypa ps'.length ypc, .slice yna ns'.length ync] 118)) := ((Fr.refl _ _).alloc _).alloc _
  have o2 := (OwnL.new w (ndC s p d wk fn fr (.slice xpa ps.length xpc) (.slice xna ns.length xnc)) 118).alloc (.cells #[.int .i64 s, .int .i64 p, .int .i64 d, .bool wk, .bool fn, .bool fr, .slice ypa ps'.length ypc, .slice yna ns'.length ync] 118)
  have o3 := OwnL.at (w.alloc (.cells #[.int .i64 s, .int .i64 p, .int .i64 d, .bool wk, .bool fn, .bool fr, .slice xpa ps.length xpc, .slice xna ns.length xnc] 118)) (ndC s p d wk fn fr (.slice ypa ps'.length ypc) (.slice yna ns'.length ync)) 118 (w.heap.size + 1) (by simp)
  refine (ieq _ _ _ _ _ (h1.out.calm k1) (h3.out.calm k1) l1 l3).mono ?_
  rintro e w2 ⟨rfl, c2⟩
  replace o2 := o2.calm c2
  replace o3 := o3.calm c2
  replace k1 := k1.trans c2
  have x7 := (o2 7 _ rfl).1
  have y7 := (o3 7 _ rfl).1
  clear o2 o3 c2
  by_cases e1 : ps = ps'
  · have b1 : decide (ps = ps') = true := by simp [e1]
    rw [b1]
    have hb := hid b1
    clear b1
    replace e1 := hid e1
    go_wp2_with fail
    refine (ieq _ _ _ _ _ (h2.out.calm k1) (h4.out.calm k1) l2 l4).mono ?_
    rintro e w3 ⟨rfl, c3⟩
    replace k1 := k1.trans c3
    have hd : Hid (decide ((⟨s, p, d, wk, fn, fr, ps, ns⟩ : Nd) = ⟨s, p, d, wk, fn, fr, ps', ns'⟩) = decide (ns = ns')) := by show _ = _; simp [e1.out]
    generalize decide (ns = ns') = B at *
    go_wp2
    go_ret
    exact ⟨by rw [hd.out]; rfl, k1⟩
  · have b1 : decide (ps = ps') = false := by simp [e1]
    have hd : Hid (decide ((⟨s, p, d, wk, fn, fr, ps, ns⟩ : Nd) = ⟨s, p, d, wk, fn, fr, ps', ns'⟩) = false) := by show _ = _; simp [e1]
    rw [b1]
    clear b1 e1
    go_wp2
    go_ret
    exact ⟨by rw [hd.out]; rfl, k1⟩

end Go.Proofs.Ytcacbbfeenebbaa
