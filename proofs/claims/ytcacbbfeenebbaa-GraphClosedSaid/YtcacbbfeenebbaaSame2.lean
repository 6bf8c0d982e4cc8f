/- What package graph's Same returns. -/
import Derived.Test.YtcacbbfeenebbaaSame
set_option linter.unusedSimpArgs false
set_option linter.unusedVariables false
namespace Go.Proofs.Ytcacbbfeenebbaa
open Go.RowKit Go.Shelf Go.Maps

instance : Inhabited NI := ⟨⟨⟨0, 0, 0, false, false, false, [], []⟩, undef, undef⟩⟩
/-- A slice of nodes, to be read. -/
structure NItem (w : World) (b at_ : Nat) (x : NI) : Prop where
  c0 : w.cell? ⟨b, at_, none⟩ = some (.int .i64 x.nd.ser)
  c1 : w.cell? ⟨b, at_ + 1, none⟩ = some (.int .i64 x.nd.p)
  c2 : w.cell? ⟨b, at_ + 2, none⟩ = some (.int .i64 x.nd.d)
  c3 : w.cell? ⟨b, at_ + 3, none⟩ = some (.bool x.nd.wk)
  c4 : w.cell? ⟨b, at_ + 4, none⟩ = some (.bool x.nd.fn)
  c5 : w.cell? ⟨b, at_ + 5, none⟩ = some (.bool x.nd.fr)
  c6 : w.cell? ⟨b, at_ + 6, none⟩ = some x.vp
  c7 : w.cell? ⟨b, at_ + 7, none⟩ = some x.vn
  p : Row w x.vp (iVs x.nd.ps)
  n : Row w x.vn (iVs x.nd.ns)
theorem NItem.calm {w w' : World} {b a : Nat} {x : NI} (h : NItem w b a x) (f : Calm w w') : NItem w' b a x :=
  ⟨f.cellAt h.c0 id, f.cellAt h.c1 id, f.cellAt h.c2 id, f.cellAt h.c3 id, f.cellAt h.c4 id, f.cellAt h.c5 id, f.cellAt h.c6 id, f.cellAt h.c7 id, h.p.calm f, h.n.calm f⟩
def NSee (w : World) (v : Value) (ls : List NI) : Prop :=
  ∃ a c, v = .slice a ls.length c ∧ ∀ k, k < ls.length → ∃ b off, a = some ⟨b, off, none⟩ ∧ NItem w b (off + k * 8) (ls.getD k default)
theorem NSee.calm {w w' : World} {v : Value} {ls : List NI} (h : NSee w v ls) (f : Calm w w') : NSee w' v ls := by
  obtain ⟨a, c, hv, h⟩ := h
  exact ⟨a, c, hv, fun k hk => by obtain ⟨b, off, ha, hi⟩ := h k hk; exact ⟨b, off, ha, hi.calm f⟩⟩
/-- Not too long. -/
def NFew (ls : List NI) : Prop := ls.length ≤ 1000000 ∧ ∀ x ∈ ls, x.nd.ps.length ≤ 1000000 ∧ x.nd.ns.length ≤ 1000000

theorem NFew.of_map {ls : List NI} {nds : List Nd} (h : ls.map NI.nd = nds) (h1 : nds.length ≤ 1000000) (h2 : ∀ x ∈ nds, x.ps.length ≤ 1000000 ∧ x.ns.length ≤ 1000000) : NFew ls :=
  ⟨by rw [← h] at h1; simpa using h1, fun x hx => h2 x.nd (by rw [← h]; exact List.mem_map_of_mem hx)⟩

theorem flat_get : ∀ (ls : List NI) (k : Nat), k < ls.length → ∀ j, j < 8 → (ls.flatMap NI.cells)[k * 8 + j]? = (ls.getD k default).cells[j]?
  | [], k, h, _, _ => by simp at h
  | x :: ls, 0, _, j, hj => by
    rw [List.flatMap_cons, Nat.zero_mul, Nat.zero_add, List.getElem?_append_left (by rw [NI.cells_length]; exact hj)]; rfl
  | x :: ls, k + 1, h, j, hj => by
    rw [List.flatMap_cons, List.getElem?_append_right (by rw [NI.cells_length]; omega), NI.cells_length, show (k + 1) * 8 + j - 8 = k * 8 + j by omega, flat_get ls k (by simpa using h) j hj]; rfl
theorem NRow.see {w : World} {base : Nat} {v : Value} {ls : List NI} (h : NRow w base v ls) : NSee w v ls := by
  obtain ⟨a, c, hv⟩ := h.slice
  refine ⟨a, c, hv, fun k hk => ?_⟩
  rcases h.own.2 with ⟨_, h0⟩ | ⟨g, cap, cur, hv2, _, hg, hn, _, hcur, hx⟩
  · omega
  · rw [hv] at hv2
    injection hv2 with h1
    have hc : ∀ j, j < 8 → w.cell? ⟨g, k * 8 + j, none⟩ = (ls.getD k default).cells[j]? := fun j hj => by
      have : w.cell? ⟨g, k * 8 + j, none⟩ = cur[k * 8 + j]? := by simp [World.cell?, hg]
      rw [this, ← flat_get ls k hk j hj, ← hx, List.getElem?_take, if_pos (by omega)]; simp
    have hm : ls.getD k default ∈ ls := by simp [List.getD, hk]
    refine ⟨g, 0, h1, ?_⟩
    rw [Nat.zero_add]
    exact ⟨hc 0 (by omega), hc 1 (by omega), hc 2 (by omega), hc 3 (by omega), hc 4 (by omega), hc 5 (by omega), hc 6 (by omega), hc 7 (by omega), (h.item _ hm).1.row, (h.item _ hm).2.row⟩

def NdsPost (la lb : List NI) (w : World) (e : Ending) (w' : World) : Prop := e = .returned (.bool (decide (la.map NI.nd = lb.map NI.nd))) ∧ Calm w w'

set_option maxRecDepth 4000 in
set_option maxHeartbeats 2000000 in
theorem eqf_is {w : World} {a b : Value} {la lb : List NI} (h1 : NSee w a la) (h2 : NSee w b lb) (l1 : NFew la) (l2 : NFew lb) :
    Calls Try.prog 74 #[a, b, .func (.func 75) #[] #[]] w (NdsPost la lb w) := by
  obtain ⟨aa, ac, rfl, ha⟩ := h1
  obtain ⟨ba, bc, rfl, hb⟩ := h2
  have la1 := l1.1
  have lb1 := l2.1
  replace ha := hid ha
  replace hb := hid hb
  replace l1 := hid l1
  replace l2 := hid l2
  by_cases hl : la.length = lb.length
  · obtain ⟨n, hn⟩ : ∃ n, la.length = n := ⟨_, rfl⟩
    rw [← hl, hn]
    rw [hn] at la1
    have hm : lb.length = n := by rw [← hl]; exact hn
    clear lb1 hl
    replace hn := hid hn
    replace hm := hid hm
    have hne : ((n : Int) == (n : Int)) = true := by simp
    have hne2 : ((n : Int) != (n : Int)) = false := by simp
    go_enter Try.func74, Try.ntmps74
    go_wp2
    go_loopw [17] (fun i wr => ∃ k : Nat, k ≤ n ∧ i = .int .i64 k ∧ Calm w wr ∧ Hid (∀ j, j < k → (la.getD j default).nd = (lb.getD j default).nd)) (fun i _ => n - (intOf i).toNat)
    case atStart => exact ⟨0, Nat.zero_le _, rfl, Fr.refl _ _, fun j hj => absurd hj (by omega)⟩
    case round =>
      obtain ⟨k, hk, rfl, hc, he⟩ := hrel
      rcases Nat.lt_or_ge k n with hlt | hge
      · obtain ⟨b1, o1, rfl, i1⟩ := ha.out k (by rw [hn.out]; exact hlt)
        obtain ⟨b2, o2, rfl, i2⟩ := hb.out k (by rw [hm.out]; exact hlt)
        replace i1 := i1.calm hc
        replace i2 := i2.calm hc
        have f1 := l1.out.2 (la.getD k default) (by have := hn.out; simp [List.getD, show k < la.length by omega])
        have f2 := l2.out.2 (lb.getD k default) (by have := hm.out; simp [List.getD, show k < lb.length by omega])
        obtain ⟨x, hx⟩ : ∃ x, la.getD k default = x := ⟨_, rfl⟩
        obtain ⟨y, hy⟩ : ∃ y, lb.getD k default = y := ⟨_, rfl⟩
        rw [hx] at i1 f1
        rw [hy] at i2 f2
        replace hx := hid hx
        replace hy := hid hy
        replace f1 := hid f1
        replace f2 := hid f2
        obtain ⟨xpa, xpc, xp, -⟩ := i1.p.loop
        obtain ⟨xna, xnc, xn, -⟩ := i1.n.loop
        obtain ⟨ypa, ypc, yp, -⟩ := i2.p.loop
        obtain ⟨yna, ync, yn, -⟩ := i2.n.loop
        have u0 := i1.c0; have u1 := i1.c1; have u2 := i1.c2; have u3 := i1.c3; have u4 := i1.c4; have u5 := i1.c5; have u6 := i1.c6; have u7 := i1.c7
        have v0 := i2.c0; have v1 := i2.c1; have v2 := i2.c2; have v3 := i2.c3; have v4 := i2.c4; have v5 := i2.c5; have v6 := i2.c6; have v7 := i2.c7
        rw [xp] at u6; rw [xn] at u7; rw [yp] at v6; rw [yn] at v7
        have hS := hid (fun W (cw : Calm wr W) => ndeq_is x.nd y.nd (i1.p.calm cw) (i1.n.calm cw) (i2.p.calm cw) (i2.n.calm cw) f1.out.1 f1.out.2 f2.out.1 f2.out.2)
        simp only [Nd.val, xp, xn, yp, yn] at hS
        have lt1 := World.block_lt_of_cell? wr _ i1.c0
        have lt2 := World.block_lt_of_cell? wr _ i2.c0
        clear xp xn yp yn i1 i2
        go_wp2_with fail
        refine (hS.out _ (((Fr.refl _ _).alloc _).alloc _)).mono ?_
        rintro e w2 ⟨rfl, c2⟩
        have k2 : Calm w w2 := hc.trans (Fr.trans (((Fr.refl _ _).alloc _).alloc _) c2)
        clear c2 hS
        by_cases hxy : x.nd = y.nd
        · have hd : decide (x.nd = y.nd) = true := by simp [hxy]
          rw [hd]
          replace hd := hid hd
          replace hxy := hid hxy
          go_wp2
          go_roundw
          case rel => exact ⟨k + 1, by omega, by go_num, k2, fun j hj => by
            by_cases e : j = k
            · subst e; rw [hx.out, hy.out]; exact hxy.out
            · exact he.out j (by omega)⟩
          case measure => simp [intOf]; omega
        · have hd : decide (x.nd = y.nd) = false := by simp [hxy]
          rw [hd]
          have hF : Hid (decide (la.map NI.nd = lb.map NI.nd) = false) := by
            show _ = false
            simp only [decide_eq_false_iff_not]
            intro h
            have := congrArg (fun l => (l.getD k ⟨0, 0, 0, false, false, false, [], []⟩ : Nd)) h
            have e1 := hn.out; have e2 := hm.out
            simp only [List.getD, List.getElem?_map, show k < la.length by omega, show k < lb.length by omega, List.getElem?_eq_getElem, Option.map_some, Option.getD_some] at this hx hy
            rw [hx.out, hy.out] at this
            exact hxy this
          clear hd hxy
          go_wp2
          go_ret
          exact ⟨by rw [hF.out]; rfl, k2⟩
      · obtain rfl : k = n := by omega
        have hF : Hid (decide (la.map NI.nd = lb.map NI.nd) = true) := by
          show _ = true
          simp only [decide_eq_true_eq]
          have e1 := hn.out; have e2 := hm.out
          refine List.ext_getElem (by simp [e1, e2]) (fun i h1 h2 => ?_)
          have := he.out i (by simpa [e1] using h1)
          simp at h1 h2
          simpa [List.getD, h1, h2] using this
        clear hge hk
        go_wp2
        go_ret
        exact ⟨by rw [hF.out]; rfl, hc⟩
  · have hne : ((la.length : Int) == (lb.length : Int)) = false := by simp; omega
    have hne2 : ((la.length : Int) != (lb.length : Int)) = true := by simp; omega
    have hF : Hid (decide (la.map NI.nd = lb.map NI.nd) = false) := by
      show _ = false
      simp only [decide_eq_false_iff_not]
      intro h; exact hl (by simpa using congrArg List.length h)
    clear hl
    go_enter Try.func74, Try.ntmps74
    go_wp2
    go_ret
    exact ⟨by rw [hF.out]; rfl, Fr.refl _ _⟩

theorem same_is {w : World} {a b : Value} {la lb : List NI} (h1 : NSee w a la) (h2 : NSee w b lb) (l1 : NFew la) (l2 : NFew lb) :
    Calls Try.prog 46 #[a, b] w (NdsPost la lb w) := by
  have H := hid (eqf_is h1 h2 l1 l2)
  clear h1 h2
  go_enter Try.func46, Try.ntmps46
  go_wp2_with fail
  refine (H.out).mono ?_
  rintro e w2 ⟨rfl, c2⟩
  go_wp2
  go_ret
  exact ⟨rfl, c2⟩

end Go.Proofs.Ytcacbbfeenebbaa
