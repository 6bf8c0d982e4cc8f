/- What slices.Equal at []int, and package graph's Same, return. What package graph's Same returns. -/
import Derived.Test.YtcacbbfeenebbaaNRow
import Derived.Test.YtcacbbfeenebbaaInts08
set_option linter.unusedSimpArgs false
set_option linter.unusedVariables false
namespace Go.Proofs.Ytcacbbfeenebbaa
open Go.RowKit Go.Shelf Go.Maps

theorem ieq_ne (a b : Option Addr) (n m ca cb : Nat) (w : World) (h : n ≠ m) (_hn : n ≤ 1000000) (_hm : m ≤ 1000000) :
    Calls Try.prog 76 #[.slice a n ca, .slice b m cb] w fun e w' => e = .returned (.bool false) ∧ Calm w w' := by
  have hne : ((n : Int) == (m : Int)) = false := by simp; omega
  have hne2 : ((n : Int) != (m : Int)) = true := by simp; omega
  go_enter Try.func76, Try.ntmps76
  go_wp2
  go_ret
  exact ⟨rfl, Fr.refl _ _⟩

set_option maxHeartbeats 400000 in
theorem ieq_eq (b0 o0 b1 o1 ca cb : Nat) (a0 a1 : Option Addr) (xs ys : List Int) (n : Nat) (w : World) (hx : xs.length = n) (hy : ys.length = n) (hn : n ≤ 1000000)
    (h0 : 0 < n → a0 = some ⟨b0, o0, none⟩) (h1 : 0 < n → a1 = some ⟨b1, o1, none⟩)
    (hc0 : ∀ i, i < n → w.cell? ⟨b0, o0 + i, none⟩ = some (.int .i64 (xs.getD i 0))) (hc1 : ∀ i, i < n → w.cell? ⟨b1, o1 + i, none⟩ = some (.int .i64 (ys.getD i 0))) :
    Calls Try.prog 76 #[.slice a0 n ca, .slice a1 n cb] w (SamePost xs ys w) := by
  have HX : Hid (xs.length = n) := hx
  have HY : Hid (ys.length = n) := hy
  have H0 : Hid (0 < n → a0 = some ⟨b0, o0, none⟩) := h0
  have H1 : Hid (0 < n → a1 = some ⟨b1, o1, none⟩) := h1
  have C0 : Hid (∀ i, i < n → w.cell? ⟨b0, o0 + i, none⟩ = some (.int .i64 (xs.getD i 0))) := hc0
  have C1 : Hid (∀ i, i < n → w.cell? ⟨b1, o1 + i, none⟩ = some (.int .i64 (ys.getD i 0))) := hc1
  clear hx hy h0 h1 hc0 hc1
  have hne : ((n : Int) == (n : Int)) = true := by simp
  have hne2 : ((n : Int) != (n : Int)) = false := by simp
  go_enter Try.func76, Try.ntmps76
  go_wp2
  go_loopw [13] (fun i wr => ∃ k : Nat, k ≤ n ∧ i = .int .i64 k ∧ Calm w wr ∧ ∀ j, j < k → xs.getD j 0 = ys.getD j 0) (fun i _ => n - (intOf i).toNat)
  case atStart => exact ⟨0, by omega, rfl, Fr.refl _ _, fun j hj => absurd hj (by omega)⟩
  case round =>
    obtain ⟨k, hk, rfl, hc, he⟩ := hrel
    have HE : Hid (∀ j, j < k → xs.getD j 0 = ys.getD j 0) := he
    clear he
    by_cases hlt : k < n
    · have q0 := H0.out (by omega)
      have q1 := H1.out (by omega)
      subst q0 q1
      have d0 : wr.cell? ⟨b0, o0 + k, none⟩ = some (.int .i64 (xs.getD k 0)) := hc.cellAt (C0.out k hlt) id
      have d1 : wr.cell? ⟨b1, o1 + k, none⟩ = some (.int .i64 (ys.getD k 0)) := hc.cellAt (C1.out k hlt) id
      obtain ⟨x, hx⟩ : ∃ x, xs.getD k 0 = x := ⟨_, rfl⟩
      obtain ⟨y, hy⟩ : ∃ y, ys.getD k 0 = y := ⟨_, rfl⟩
      rw [hx] at d0
      rw [hy] at d1
      have HX1 : Hid (xs.getD k 0 = x) := hx
      have HY1 : Hid (ys.getD k 0 = y) := hy
      clear hx hy
      by_cases hxy : x = y
      · subst hxy
        go_wp2
        go_quiet (fail)
        go_wp2
        go_roundw
        case rel => exact ⟨k + 1, by omega, by go_num, hc.drewN _, fun j hj => by
          by_cases e : j = k
          · subst e; rw [HX1.out, HY1.out]
          · exact HE.out j (by omega)⟩
        case measure => simp [intOf]; omega
      · have hb : (x == y) = false := by simpa using hxy
        have hb2 : (x != y) = true := by simpa using hxy
        go_wp2
        go_quiet (fail)
        go_wp2
        go_ret
        refine ⟨?_, ?_⟩
        · have : decide (xs = ys) = false := by simp; rintro rfl; exact hxy (HX1.out.symm.trans HY1.out)
          rw [this]; rfl
        · exact hc.drewN _
    · obtain rfl : k = n := by omega
      go_wp2
      go_ret
      have : decide (xs = ys) = true := by
        simp
        refine List.ext_getElem (by rw [HX.out, HY.out]) (fun i h1 h2 => ?_)
        have := HE.out i (by rw [← HX.out]; exact h1)
        simpa [List.getD, h1, h2] using this
      exact ⟨by rw [this]; rfl, hc⟩

theorem ieq (a b : Value) (xs ys : List Int) (w : World) (ha : Row w a (xs.map (Value.int .i64))) (hb : Row w b (ys.map (Value.int .i64))) (hx : xs.length ≤ 1000000) (hy : ys.length ≤ 1000000) :
    Calls Try.prog 76 #[a, b] w (SamePost xs ys w) := by
  obtain ⟨b0, o0, c0, ha, hca⟩ := ha.ints
  obtain ⟨b1, o1, c1, hb, hcb⟩ := hb.ints
  by_cases hl : xs.length = ys.length
  · obtain ⟨a0, c0', rfl, hp0⟩ : ∃ a0 c0', a = .slice a0 xs.length c0' ∧ (0 < xs.length → a0 = some ⟨b0, o0, none⟩) := by
      rcases ha with rfl | ⟨a', rfl, rfl⟩
      · exact ⟨_, _, rfl, fun _ => rfl⟩
      · exact ⟨a', _, rfl, fun h => by simp at h⟩
    obtain ⟨a1, c1', rfl, hp1⟩ : ∃ a1 c1', b = .slice a1 xs.length c1' ∧ (0 < xs.length → a1 = some ⟨b1, o1, none⟩) := by
      rcases hb with rfl | ⟨b', rfl, rfl⟩
      · exact ⟨_, _, by rw [hl], fun _ => rfl⟩
      · simp at hl; subst hl; exact ⟨b', _, rfl, fun h => by simp at h⟩
    exact ieq_eq b0 o0 b1 o1 _ _ a0 a1 xs ys xs.length w rfl hl.symm hx hp0 hp1 hca (fun i hi => hcb i (by omega))
  · obtain ⟨a0, c0', rfl⟩ : ∃ a0 c0', a = .slice a0 xs.length c0' := by
      rcases ha with rfl | ⟨a', rfl, rfl⟩
      · exact ⟨_, _, rfl⟩
      · exact ⟨a', _, rfl⟩
    obtain ⟨a1, c1', rfl⟩ : ∃ a1 c1', b = .slice a1 ys.length c1' := by
      rcases hb with rfl | ⟨b', rfl, rfl⟩
      · exact ⟨_, _, rfl⟩
      · exact ⟨b', _, rfl⟩
    refine (ieq_ne a0 a1 _ _ _ _ w hl hx hy).mono ?_
    rintro e w' ⟨rfl, hc⟩
    have : decide (xs = ys) = false := by simp; rintro rfl; exact hl rfl
    exact ⟨by rw [this], hc⟩



def Nd.val (x : Nd) (vp vn : Value) : Value := ndV x.ser x.p x.d x.wk x.fn x.fr vp vn
def NdPost (x y : Nd) (w : World) (e : Ending) (w' : World) : Prop := e = .returned (.bool (decide (x = y))) ∧ Calm w w'

set_option maxHeartbeats 2000000 in
theorem ndeq_is {w : World} (x y : Nd) {xp xn yp yn : Value} (h1 : Row w xp (iVs x.ps)) (h2 : Row w xn (iVs x.ns)) (h3 : Row w yp (iVs y.ps)) (h4 : Row w yn (iVs y.ns))
    (l1 : x.ps.length ≤ 1000000) (l2 : x.ns.length ≤ 1000000) (l3 : y.ps.length ≤ 1000000) (l4 : y.ns.length ≤ 1000000) :
    Calls Try.prog 75 #[x.val xp xn, y.val yp yn] w (NdPost x y w) := by
  obtain ⟨xpa, xpc, rfl, -⟩ := h1.loop
  obtain ⟨xna, xnc, rfl, -⟩ := h2.loop
  obtain ⟨ypa, ypc, rfl, -⟩ := h3.loop
  obtain ⟨yna, ync, rfl, -⟩ := h4.loop
  replace h1 := hid h1
  replace h2 := hid h2
  replace h3 := hid h3
  replace h4 := hid h4
  obtain ⟨s, p, d, wk, fn, fr, ps, ns⟩ := x
  obtain ⟨s', p', d', wk', fn', fr', ps', ns'⟩ := y
  simp only at h1 h2 h3 h4 l1 l2 l3 l4
  simp only [Nd.val]
  by_cases e1 : s = s'
  rotate_left
  · have hd : Hid (decide ((⟨s, p, d, wk, fn, fr, ps, ns⟩ : Nd) = ⟨s', p', d', wk', fn', fr', ps', ns'⟩) = false) := by show _ = false; simp [e1]
    have b1 : (s == s') = false := by simpa using e1
    clear e1
    go_enter Try.func75, Try.ntmps75
    go_wp2
    go_ret
    exact ⟨by rw [hd.out]; rfl, ((Fr.refl _ _).alloc _).alloc _⟩
  subst e1
  by_cases e1 : p = p'
  rotate_left
  · have hd : Hid (decide ((⟨s, p, d, wk, fn, fr, ps, ns⟩ : Nd) = ⟨s, p', d', wk', fn', fr', ps', ns'⟩) = false) := by show _ = false; simp [e1]
    have b1 : ((p : Int) == (p' : Int)) = false := by simp; omega
    clear e1
    go_enter Try.func75, Try.ntmps75
    go_wp2
    go_ret
    exact ⟨by rw [hd.out]; rfl, ((Fr.refl _ _).alloc _).alloc _⟩
  subst e1
  by_cases e1 : d = d'
  rotate_left
  · have hd : Hid (decide ((⟨s, p, d, wk, fn, fr, ps, ns⟩ : Nd) = ⟨s, p, d', wk', fn', fr', ps', ns'⟩) = false) := by show _ = false; simp [e1]
    have b1 : ((d : Int) == (d' : Int)) = false := by simp; omega
    clear e1
    go_enter Try.func75, Try.ntmps75
    go_wp2
    go_ret
    exact ⟨by rw [hd.out]; rfl, ((Fr.refl _ _).alloc _).alloc _⟩
  subst e1
  by_cases e1 : wk = wk'
  rotate_left
  · have hd : Hid (decide ((⟨s, p, d, wk, fn, fr, ps, ns⟩ : Nd) = ⟨s, p, d, wk', fn', fr', ps', ns'⟩) = false) := by show _ = false; simp [e1]
    cases wk <;> cases wk' <;> simp only [not_true_eq_false, reduceCtorEq, not_false_eq_true] at e1
    all_goals
      clear e1
      go_enter Try.func75, Try.ntmps75
      go_wp2
      go_ret
      exact ⟨by rw [hd.out]; rfl, ((Fr.refl _ _).alloc _).alloc _⟩
  subst e1
  by_cases e1 : fn = fn'
  rotate_left
  · have hd : Hid (decide ((⟨s, p, d, wk, fn, fr, ps, ns⟩ : Nd) = ⟨s, p, d, wk, fn', fr', ps', ns'⟩) = false) := by show _ = false; simp [e1]
    cases fn <;> cases fn' <;> simp only [not_true_eq_false, reduceCtorEq, not_false_eq_true] at e1
    all_goals
      clear e1
      go_enter Try.func75, Try.ntmps75
      go_wp2
      go_ret
      exact ⟨by rw [hd.out]; rfl, ((Fr.refl _ _).alloc _).alloc _⟩
  subst e1
  by_cases e1 : fr = fr'
  rotate_left
  · have hd : Hid (decide ((⟨s, p, d, wk, fn, fr, ps, ns⟩ : Nd) = ⟨s, p, d, wk, fn, fr', ps', ns'⟩) = false) := by show _ = false; simp [e1]
    cases fr <;> cases fr' <;> simp only [not_true_eq_false, reduceCtorEq, not_false_eq_true] at e1
    all_goals
      clear e1
      go_enter Try.func75, Try.ntmps75
      go_wp2
      go_ret
      exact ⟨by rw [hd.out]; rfl, ((Fr.refl _ _).alloc _).alloc _⟩
  subst e1
  go_enter Try.func75, Try.ntmps75
  go_wp2_with fail
  have k1 : Calm w ((w.alloc (.cells #[.int .i64 s, .int .i64 p, .int .i64 d, .bool wk, .bool fn, .bool fr, .slice xpa ps.length xpc, .slice xna ns.length xnc] 118)).alloc (.cells #[.int .i64 s, .int .i64 p, .int .i64 d, .bool wk, .bool fn, .bool fr, .slice ypa ps'.length ypc, .slice yna ns'.length ync] 118)) := ((Fr.refl _ _).alloc _).alloc _
  have o2 := (OwnL.new w (ndC s p d wk fn fr (.slice xpa ps.length xpc) (.slice xna ns.length xnc)) 118).alloc (.cells #[.int .i64 s, .int .i64 p, .int .i64 d, .bool wk, .bool fn, .bool fr, .slice ypa ps'.length ypc, .slice yna ns'.length ync] 118)
  have o3 := OwnL.at (w.alloc (.cells #[.int .i64 s, .int .i64 p, .int .i64 d, .bool wk, .bool fn, .bool fr, .slice xpa ps.length xpc, .slice xna ns.length xnc] 118)) (ndC s p d wk fn fr (.slice ypa ps'.length ypc) (.slice yna ns'.length ync)) 118 (w.heap.size + 1) (by simp)
  refine (ieq _ _ _ _ _ (h1.out.calm k1) (h3.out.calm k1) l1 l3).mono ?_
  rintro e w2 ⟨rfl, c2⟩
  replace o2 := o2.calm c2
  replace o3 := o3.calm c2
  replace k1 := k1.trans c2
  have x7 := (o2 7 _ rfl).1
  have y7 := (o3 7 _ rfl).1
  clear o2 o3 c2
  by_cases e1 : ps = ps'
  · have b1 : decide (ps = ps') = true := by simp [e1]
    rw [b1]
    have hb := hid b1
    clear b1
    replace e1 := hid e1
    go_wp2_with fail
    refine (ieq _ _ _ _ _ (h2.out.calm k1) (h4.out.calm k1) l2 l4).mono ?_
    rintro e w3 ⟨rfl, c3⟩
    replace k1 := k1.trans c3
    have hd : Hid (decide ((⟨s, p, d, wk, fn, fr, ps, ns⟩ : Nd) = ⟨s, p, d, wk, fn, fr, ps', ns'⟩) = decide (ns = ns')) := by show _ = _; simp [e1.out]
    generalize decide (ns = ns') = B at *
    go_wp2
    go_ret
    exact ⟨by rw [hd.out]; rfl, k1⟩
  · have b1 : decide (ps = ps') = false := by simp [e1]
    have hd : Hid (decide ((⟨s, p, d, wk, fn, fr, ps, ns⟩ : Nd) = ⟨s, p, d, wk, fn, fr, ps', ns'⟩) = false) := by show _ = _; simp [e1]
    rw [b1]
    clear b1 e1
    go_wp2
    go_ret
    exact ⟨by rw [hd.out]; rfl, k1⟩

end Go.Proofs.Ytcacbbfeenebbaa

namespace Go.Proofs.Ytcacbbfeenebbaa
open Go.RowKit Go.Shelf Go.Maps

instance : Inhabited NI := ⟨⟨⟨0, 0, 0, false, false, false, [], []⟩, undef, undef⟩⟩
/-- A slice of nodes, to be read. -/
structure NItem (w : World) (b at_ : Nat) (x : NI) : Prop where
  c0 : w.cell? ⟨b, at_, none⟩ = some (.int .i64 x.nd.ser)
  c1 : w.cell? ⟨b, at_ + 1, none⟩ = some (.int .i64 x.nd.p)
  c2 : w.cell? ⟨b, at_ + 2, none⟩ = some (.int .i64 x.nd.d)
  c3 : w.cell? ⟨b, at_ + 3, none⟩ = some (.bool x.nd.wk)
  c4 : w.cell? ⟨b, at_ + 4, none⟩ = some (.bool x.nd.fn)
  c5 : w.cell? ⟨b, at_ + 5, none⟩ = some (.bool x.nd.fr)
  c6 : w.cell? ⟨b, at_ + 6, none⟩ = some x.vp
  c7 : w.cell? ⟨b, at_ + 7, none⟩ = some x.vn
  p : Row w x.vp (iVs x.nd.ps)
  n : Row w x.vn (iVs x.nd.ns)
theorem NItem.calm {w w' : World} {b a : Nat} {x : NI} (h : NItem w b a x) (f : Calm w w') : NItem w' b a x :=
  ⟨f.cellAt h.c0 id, f.cellAt h.c1 id, f.cellAt h.c2 id, f.cellAt h.c3 id, f.cellAt h.c4 id, f.cellAt h.c5 id, f.cellAt h.c6 id, f.cellAt h.c7 id, h.p.calm f, h.n.calm f⟩
def NSee (w : World) (v : Value) (ls : List NI) : Prop :=
  ∃ a c, v = .slice a ls.length c ∧ ∀ k, k < ls.length → ∃ b off, a = some ⟨b, off, none⟩ ∧ NItem w b (off + k * 8) (ls.getD k default)
theorem NSee.calm {w w' : World} {v : Value} {ls : List NI} (h : NSee w v ls) (f : Calm w w') : NSee w' v ls := by
  obtain ⟨a, c, hv, h⟩ := h
  exact ⟨a, c, hv, fun k hk => by obtain ⟨b, off, ha, hi⟩ := h k hk; exact ⟨b, off, ha, hi.calm f⟩⟩
/-- Not too long. -/
def NFew (ls : List NI) : Prop := ls.length ≤ 1000000 ∧ ∀ x ∈ ls, x.nd.ps.length ≤ 1000000 ∧ x.nd.ns.length ≤ 1000000

theorem NFew.of_map {ls : List NI} {nds : List Nd} (h : ls.map NI.nd = nds) (h1 : nds.length ≤ 1000000) (h2 : ∀ x ∈ nds, x.ps.length ≤ 1000000 ∧ x.ns.length ≤ 1000000) : NFew ls :=
  ⟨by rw [← h] at h1; simpa using h1, fun x hx => h2 x.nd (by rw [← h]; exact List.mem_map_of_mem hx)⟩

theorem flat_get : ∀ (ls : List NI) (k : Nat), k < ls.length → ∀ j, j < 8 → (ls.flatMap NI.cells)[k * 8 + j]? = (ls.getD k default).cells[j]?
  | [], k, h, _, _ => by simp at h
  | x :: ls, 0, _, j, hj => by
    rw [List.flatMap_cons, Nat.zero_mul, Nat.zero_add, List.getElem?_append_left (by rw [NI.cells_length]; exact hj)]; rfl
  | x :: ls, k + 1, h, j, hj => by
    rw [List.flatMap_cons, List.getElem?_append_right (by rw [NI.cells_length]; omega), NI.cells_length, show (k + 1) * 8 + j - 8 = k * 8 + j by omega, flat_get ls k (by simpa using h) j hj]; rfl
theorem NRow.see {w : World} {base : Nat} {v : Value} {ls : List NI} (h : NRow w base v ls) : NSee w v ls := by
  obtain ⟨a, c, hv⟩ := h.slice
  refine ⟨a, c, hv, fun k hk => ?_⟩
  rcases h.own.2 with ⟨_, h0⟩ | ⟨g, cap, cur, hv2, _, hg, hn, _, hcur, hx⟩
  · omega
  · rw [hv] at hv2
    injection hv2 with h1
    have hc : ∀ j, j < 8 → w.cell? ⟨g, k * 8 + j, none⟩ = (ls.getD k default).cells[j]? := fun j hj => by
      have : w.cell? ⟨g, k * 8 + j, none⟩ = cur[k * 8 + j]? := by simp [World.cell?, hg]
      rw [this, ← flat_get ls k hk j hj, ← hx, List.getElem?_take, if_pos (by omega)]; simp
    have hm : ls.getD k default ∈ ls := by simp [List.getD, hk]
    refine ⟨g, 0, h1, ?_⟩
    rw [Nat.zero_add]
    exact ⟨hc 0 (by omega), hc 1 (by omega), hc 2 (by omega), hc 3 (by omega), hc 4 (by omega), hc 5 (by omega), hc 6 (by omega), hc 7 (by omega), (h.item _ hm).1.row, (h.item _ hm).2.row⟩

def NdsPost (la lb : List NI) (w : World) (e : Ending) (w' : World) : Prop := e = .returned (.bool (decide (la.map NI.nd = lb.map NI.nd))) ∧ Calm w w'

set_option maxRecDepth 4000 in
set_option maxHeartbeats 2000000 in
theorem eqf_is {w : World} {a b : Value} {la lb : List NI} (h1 : NSee w a la) (h2 : NSee w b lb) (l1 : NFew la) (l2 : NFew lb) :
    Calls Try.prog 74 #[a, b, .func (.func 75) #[] #[]] w (NdsPost la lb w) := by
  obtain ⟨aa, ac, rfl, ha⟩ := h1
  obtain ⟨ba, bc, rfl, hb⟩ := h2
  have la1 := l1.1
  have lb1 := l2.1
  replace ha := hid ha
  replace hb := hid hb
  replace l1 := hid l1
  replace l2 := hid l2
  by_cases hl : la.length = lb.length
  · obtain ⟨n, hn⟩ : ∃ n, la.length = n := ⟨_, rfl⟩
    rw [← hl, hn]
    rw [hn] at la1
    have hm : lb.length = n := by rw [← hl]; exact hn
    clear lb1 hl
    replace hn := hid hn
    replace hm := hid hm
    have hne : ((n : Int) == (n : Int)) = true := by simp
    have hne2 : ((n : Int) != (n : Int)) = false := by simp
    go_enter Try.func74, Try.ntmps74
    go_wp2
    go_loopw [17] (fun i wr => ∃ k : Nat, k ≤ n ∧ i = .int .i64 k ∧ Calm w wr ∧ Hid (∀ j, j < k → (la.getD j default).nd = (lb.getD j default).nd)) (fun i _ => n - (intOf i).toNat)
    case atStart => exact ⟨0, Nat.zero_le _, rfl, Fr.refl _ _, fun j hj => absurd hj (by omega)⟩
    case round =>
      obtain ⟨k, hk, rfl, hc, he⟩ := hrel
      rcases Nat.lt_or_ge k n with hlt | hge
      · obtain ⟨b1, o1, rfl, i1⟩ := ha.out k (by rw [hn.out]; exact hlt)
        obtain ⟨b2, o2, rfl, i2⟩ := hb.out k (by rw [hm.out]; exact hlt)
        replace i1 := i1.calm hc
        replace i2 := i2.calm hc
        have f1 := l1.out.2 (la.getD k default) (by have := hn.out; simp [List.getD, show k < la.length by omega])
        have f2 := l2.out.2 (lb.getD k default) (by have := hm.out; simp [List.getD, show k < lb.length by omega])
        obtain ⟨x, hx⟩ : ∃ x, la.getD k default = x := ⟨_, rfl⟩
        obtain ⟨y, hy⟩ : ∃ y, lb.getD k default = y := ⟨_, rfl⟩
        rw [hx] at i1 f1
        rw [hy] at i2 f2
        replace hx := hid hx
        replace hy := hid hy
        replace f1 := hid f1
        replace f2 := hid f2
        obtain ⟨xpa, xpc, xp, -⟩ := i1.p.loop
        obtain ⟨xna, xnc, xn, -⟩ := i1.n.loop
        obtain ⟨ypa, ypc, yp, -⟩ := i2.p.loop
        obtain ⟨yna, ync, yn, -⟩ := i2.n.loop
        have u0 := i1.c0; have u1 := i1.c1; have u2 := i1.c2; have u3 := i1.c3; have u4 := i1.c4; have u5 := i1.c5; have u6 := i1.c6; have u7 := i1.c7
        have v0 := i2.c0; have v1 := i2.c1; have v2 := i2.c2; have v3 := i2.c3; have v4 := i2.c4; have v5 := i2.c5; have v6 := i2.c6; have v7 := i2.c7
        rw [xp] at u6; rw [xn] at u7; rw [yp] at v6; rw [yn] at v7
        have hS := hid (fun W (cw : Calm wr W) => ndeq_is x.nd y.nd (i1.p.calm cw) (i1.n.calm cw) (i2.p.calm cw) (i2.n.calm cw) f1.out.1 f1.out.2 f2.out.1 f2.out.2)
        simp only [Nd.val, xp, xn, yp, yn] at hS
        have lt1 := World.block_lt_of_cell? wr _ i1.c0
        have lt2 := World.block_lt_of_cell? wr _ i2.c0
        clear xp xn yp yn i1 i2
        go_wp2_with fail
        refine (hS.out _ (((Fr.refl _ _).alloc _).alloc _)).mono ?_
        rintro e w2 ⟨rfl, c2⟩
        have k2 : Calm w w2 := hc.trans (Fr.trans (((Fr.refl _ _).alloc _).alloc _) c2)
        clear c2 hS
        by_cases hxy : x.nd = y.nd
        · have hd : decide (x.nd = y.nd) = true := by simp [hxy]
          rw [hd]
          replace hd := hid hd
          replace hxy := hid hxy
          go_wp2
          go_roundw
          case rel => exact ⟨k + 1, by omega, by go_num, k2, fun j hj => by
            by_cases e : j = k
            · subst e; rw [hx.out, hy.out]; exact hxy.out
            · exact he.out j (by omega)⟩
          case measure => simp [intOf]; omega
        · have hd : decide (x.nd = y.nd) = false := by simp [hxy]
          rw [hd]
          have hF : Hid (decide (la.map NI.nd = lb.map NI.nd) = false) := by
            show _ = false
            simp only [decide_eq_false_iff_not]
            intro h
            have := congrArg (fun l => (l.getD k ⟨0, 0, 0, false, false, false, [], []⟩ : Nd)) h
            have e1 := hn.out; have e2 := hm.out
            simp only [List.getD, List.getElem?_map, show k < la.length by omega, show k < lb.length by omega, List.getElem?_eq_getElem, Option.map_some, Option.getD_some] at this hx hy
            rw [hx.out, hy.out] at this
            exact hxy this
          clear hd hxy
          go_wp2
          go_ret
          exact ⟨by rw [hF.out]; rfl, k2⟩
      · obtain rfl : k = n := by omega
        have hF : Hid (decide (la.map NI.nd = lb.map NI.nd) = true) := by
          show _ = true
          simp only [decide_eq_true_eq]
          have e1 := hn.out; have e2 := hm.out
          refine List.ext_getElem (by simp [e1, e2]) (fun i h1 h2 => ?_)
          have := he.out i (by simpa [e1] using h1)
          simp at h1 h2
          simpa [List.getD, h1, h2] using this
        clear hge hk
        go_wp2
        go_ret
        exact ⟨by rw [hF.out]; rfl, hc⟩
  · have hne : ((la.length : Int) == (lb.length : Int)) = false := by simp; omega
    have hne2 : ((la.length : Int) != (lb.length : Int)) = true := by simp; omega
    have hF : Hid (decide (la.map NI.nd = lb.map NI.nd) = false) := by
      show _ = false
      simp only [decide_eq_false_iff_not]
      intro h; exact hl (by simpa using congrArg List.length h)
    clear hl
    go_enter Try.func74, Try.ntmps74
    go_wp2
    go_ret
    exact ⟨by rw [hF.out]; rfl, Fr.refl _ _⟩

theorem same_is {w : World} {a b : Value} {la lb : List NI} (h1 : NSee w a la) (h2 : NSee w b lb) (l1 : NFew la) (l2 : NFew lb) :
    Calls Try.prog 46 #[a, b] w (NdsPost la lb w) := by
  have H := hid (eqf_is h1 h2 l1 l2)
  clear h1 h2
  go_enter Try.func46, Try.ntmps46
  go_wp2_with fail
  refine (H.out).mono ?_
  rintro e w2 ⟨rfl, c2⟩
  go_wp2
  go_ret
  exact ⟨rfl, c2⟩

end Go.Proofs.Ytcacbbfeenebbaa
