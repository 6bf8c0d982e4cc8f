/- WordZigs, WordNear, WordMasks, WordSets return true, whatever the input. -/
import Derived.Test.YtlocklcldalklaaAwake01
set_option linter.unusedSimpArgs false
set_option linter.unusedVariables false
namespace Go.Proofs.Ytlocklcldalklaa
open Go.RowKit Go.Shelf
attribute [local go_sem] Oper.semAt_some

def zg (n : Int) : Nat := if 0 ≤ n then 2 * n.toNat else 2 * (-n - 1).toNat + 1
def zt (W : Nat) : Int := if W % 2 = 1 then -((W / 2 : Nat) : Int) - 1 else (W / 2 : Nat)

theorem zig_yes (n : Int) (w : World) (hn : I64 n) :
    Calls Try.prog 21 #[.int .i64 n] w fun e w' => e = .returned (wV (zg n)) ∧ Calm w w' := by
  refine (zig_is n w hn).mono ?_
  rintro e w' ⟨rfl, c⟩
  refine ⟨congrArg (fun x => Ending.returned (.int .u64 x)) ?_, c⟩
  unfold zg
  split <;> omega

theorem zag_yes (W : Nat) (w : World) (hW : W < 18446744073709551616) :
    Calls Try.prog 20 #[wV W] w fun e w' => e = .returned (.int .i64 (zt W)) ∧ Calm w w' := zag_is W w hW

theorem zg_lt {n : Int} (h : I64 n) : zg n < 18446744073709551616 := by
  obtain ⟨h1, h2⟩ := h
  unfold zg; split <;> omega
theorem zt_ok {W : Nat} (h : W < 18446744073709551616) : I64 (zt W) := by
  unfold zt; split <;> constructor <;> omega
theorem zt_zg (n : Int) : zt (zg n) = n := by
  unfold zt zg; split <;> split <;> omega
theorem zg_zt (W : Nat) : zg (zt W) = W := by
  unfold zt zg; split <;> split <;> omega

set_option maxRecDepth 100000 in
set_option maxHeartbeats 1000000 in
theorem wordZigs_walk (n : Int) (hn : I64 n) (W : Int) (hW : 0 ≤ W ∧ W ≤ 18446744073709551615) (w : World) :
    Calls Try.prog 6 #[.int .i64 n, .int .u64 W] w fun e w' => e = .returned (.bool true) ∧ Below w.heap.size w w' := by
  obtain ⟨W1, W2⟩ := hW
  obtain ⟨W, rfl⟩ := Int.eq_ofNat_of_zero_le W1
  have hW : W < 18446744073709551616 := by omega
  have e1 := hid (zt_zg n)
  have e2 := hid (zg_zt W)
  obtain ⟨m1, m2⟩ := pk_range n (n := 1000000) (by decide)
  obtain ⟨m, hm⟩ := Int.eq_ofNat_of_zero_le m1
  rw [hm] at m2
  replace hm := hid hm
  have e3 : Hid (zg (m : Int) = 2 * m) := by show zg (m : Int) = 2 * m; unfold zg; rw [if_pos (by omega)]; omega
  have e4 : Hid (zg (-(m : Int) - 1) = 2 * m + 1) := by show zg (-(m : Int) - 1) = 2 * m + 1; unfold zg; rw [if_neg (by omega)]; omega
  have h1 := zg_lt hn
  have h2 := zt_ok hW
  clear m1 W1 W2
  go_enter Try.func6, Try.ntmps6
  go_wp2_with fail
  refine (awake01 _).mono ?_
  rintro e w1 ⟨rfl, c1⟩
  go_wp2_with fail
  refine (pick01 n 1000000 _ hn (by decide)).mono ?_
  rintro e w1' ⟨rfl, rfl⟩
  rw [hm.out]
  go_wp2_with fail
  refine (zig_yes n _ hn).mono ?_
  rintro e w2 ⟨rfl, c2⟩
  go_wp2_with fail
  refine (zag_yes (zg n) _ h1).mono ?_
  rintro e w3 ⟨rfl, c3⟩
  rw [e1.out]
  go_wp2_with fail
  refine (zag_yes W _ hW).mono ?_
  rintro e w4 ⟨rfl, c4⟩
  go_wp2_with fail
  refine (zig_yes (zt W) _ h2).mono ?_
  rintro e w5 ⟨rfl, c5⟩
  rw [e2.out]
  go_wp2_with fail
  refine (zig_yes (m : Int) _ ⟨by omega, by omega⟩).mono ?_
  rintro e w6 ⟨rfl, c6⟩
  rw [e3.out]
  go_wp2_with fail
  refine (zig_yes (-(m : Int) - 1) _ ⟨by omega, by omega⟩).mono ?_
  rintro e w7 ⟨rfl, c7⟩
  rw [e4.out]
  go_wp2
  go_ret
  exact ⟨rfl, Calm.below ((((((c1.trans c2).trans c3).trans c4).trans c5).trans c6).trans c7)⟩

theorem zg_near {m : Nat} : zg (m : Int) = 2 * m ∧ zg (-(m : Int) - 1) = 2 * m + 1 := by
  unfold zg; rw [if_pos (by omega), if_neg (by omega)]; omega

set_option maxRecDepth 100000 in
set_option maxHeartbeats 1000000 in
theorem wordNear_walk (a : Int) (ha : I64 a) (b : Int) (hb : I64 b) (w : World) :
    Calls Try.prog 9 #[.int .i64 a, .int .i64 b] w fun e w' => e = .returned (.bool true) ∧ Below w.heap.size w w' := by
  obtain ⟨m1, m2⟩ := pk_range a (n := 1099511627776) (by decide)
  obtain ⟨r1, r2⟩ := pk_range b (n := 1099511627776) (by decide)
  obtain ⟨m, hm⟩ := Int.eq_ofNat_of_zero_le m1
  obtain ⟨r, hr⟩ := Int.eq_ofNat_of_zero_le r1
  rw [hm] at m2
  rw [hr] at r2
  replace hm := hid hm
  replace hr := hid hr
  clear m1 r1
  obtain ⟨e1, e2⟩ := zg_near (m := m)
  have e3 : zg ((m : Int) + 1 + r) = 2 * (m + 1 + r) := by rw [← (zg_near (m := m + 1 + r)).1]; push_cast; rfl
  have e4 : zg (-((m : Int) + 1 + r) - 1) = 2 * (m + 1 + r) + 1 := by rw [← (zg_near (m := m + 1 + r)).2]; push_cast; rfl
  have o1 : (zg (m : Int) : Int) < (zg ((m : Int) + 1 + r) : Int) := by omega
  have o2 : (zg (-(m : Int) - 1) : Int) < (zg (-((m : Int) + 1 + r) - 1) : Int) := by omega
  have o3 : (zg (m : Int) : Int) < (zg (-((m : Int) + 1 + r) - 1) : Int) := by omega
  have o4 : (zg (-(m : Int) - 1) : Int) < (zg ((m : Int) + 1 + r) : Int) := by omega
  clear e1 e2 e3 e4
  generalize e1 : zg (m : Int) = A at *
  generalize e2 : zg (-(m : Int) - 1) = B at *
  generalize e3 : zg ((m : Int) + 1 + r) = C at *
  generalize e4 : zg (-((m : Int) + 1 + r) - 1) = D at *
  replace e1 := hid e1
  replace e2 := hid e2
  replace e3 := hid e3
  replace e4 := hid e4
  go_enter Try.func9, Try.ntmps9
  go_wp2_with fail
  refine (awake01 _).mono ?_
  rintro e w1 ⟨rfl, c1⟩
  go_wp2_with fail
  refine (pick01 a 1099511627776 _ ha (by decide)).mono ?_
  rintro e w1' ⟨rfl, rfl⟩
  rw [hm.out]
  go_wp2_with fail
  refine (pick01 b 1099511627776 _ hb (by decide)).mono ?_
  rintro e w1' ⟨rfl, rfl⟩
  rw [hr.out]
  go_wp2_with fail
  refine (zig_yes (m : Int) _ ⟨by omega, by omega⟩).mono ?_
  rintro e w2 ⟨rfl, c2⟩
  rw [e1.out]
  go_wp2_with fail
  refine (zig_yes ((m : Int) + 1 + r) _ ⟨by omega, by omega⟩).mono ?_
  rintro e w3 ⟨rfl, c3⟩
  rw [e3.out]
  go_wp2_with fail
  refine (zig_yes (-(m : Int) - 1) _ ⟨by omega, by omega⟩).mono ?_
  rintro e w4 ⟨rfl, c4⟩
  rw [e2.out]
  go_wp2_with fail
  refine (zig_yes (-((m : Int) + 1 + r) - 1) _ ⟨by omega, by omega⟩).mono ?_
  rintro e w5 ⟨rfl, c5⟩
  rw [e4.out]
  go_wp2_with fail
  refine (zig_yes (m : Int) _ ⟨by omega, by omega⟩).mono ?_
  rintro e w6 ⟨rfl, c6⟩
  rw [e1.out]
  go_wp2_with fail
  refine (zig_yes (-((m : Int) + 1 + r) - 1) _ ⟨by omega, by omega⟩).mono ?_
  rintro e w7 ⟨rfl, c7⟩
  rw [e4.out]
  go_wp2_with fail
  refine (zig_yes (-(m : Int) - 1) _ ⟨by omega, by omega⟩).mono ?_
  rintro e w8 ⟨rfl, c8⟩
  rw [e2.out]
  go_wp2_with fail
  refine (zig_yes ((m : Int) + 1 + r) _ ⟨by omega, by omega⟩).mono ?_
  rintro e w9 ⟨rfl, c9⟩
  rw [e3.out]
  go_wp2
  go_ret
  exact ⟨rfl, Calm.below ((((((((c1.trans c2).trans c3).trans c4).trans c5).trans c6).trans c7).trans c8).trans c9)⟩

theorem mk_apart (s a b : Nat) : mk s a &&& mk (s + a) b = 0 := by
  apply Nat.eq_of_testBit_eq
  intro i
  rw [Nat.testBit_and, testBit_mk, testBit_mk, Nat.zero_testBit]
  by_cases h : i < s + a <;> simp [h] <;> omega
theorem mk_both (s a b : Nat) : mk s a ||| mk (s + a) b = mk s (a + b) := by
  apply Nat.eq_of_testBit_eq
  intro i
  rw [Nat.testBit_or, testBit_mk, testBit_mk, testBit_mk, ← Bool.decide_or, decide_eq_decide]
  omega
theorem mk_pos {s a : Nat} (h : 1 ≤ a) : 0 < mk s a := by
  unfold mk
  have := pow_le h
  exact Nat.mul_pos (by omega) (Nat.two_pow_pos s)

set_option maxRecDepth 100000 in
set_option maxHeartbeats 1000000 in
theorem wordMasks_walk (a : Int) (ha : I64 a) (b : Int) (hb : I64 b) (c : Int) (hc : I64 c) (w : World) :
    Calls Try.prog 7 #[.int .i64 a, .int .i64 b, .int .i64 c] w fun e w' => e = .returned (.bool true) ∧ Below w.heap.size w w' := by
  obtain ⟨s1, s2⟩ := pk_range a (n := 63) (by decide)
  obtain ⟨s, hs⟩ := Int.eq_ofNat_of_zero_le s1
  rw [hs] at s2
  obtain ⟨x1, x2⟩ := pk_range b (n := 63 - s) (by omega)
  obtain ⟨x, hx⟩ := Int.eq_ofNat_of_zero_le x1
  rw [hx] at x2
  obtain ⟨y1, y2⟩ := pk_range c (n := 64 - s - (1 + x)) (by omega)
  obtain ⟨y, hy⟩ := Int.eq_ofNat_of_zero_le y1
  rw [hy] at y2
  replace hs := hid hs
  replace hx := hid hx
  replace hy := hid hy
  clear s1 x1 y1
  have l1 := mk_lt (s := s) (d := 1 + x) (by omega)
  have l2 := mk_lt (s := s + (1 + x)) (d := 1 + y) (by omega)
  have f1 := u64_and_nat _ _ l1 l2
  have f2 := u64_or_nat _ _ l1 l2
  rw [mk_apart] at f1
  rw [mk_both] at f2
  have g1 := mk_pos (s := s) (a := 1 + x) (by omega)
  have g2 := mk_pos (s := s + (1 + x)) (a := 1 + y) (by omega)
  have t1 : Hid (((s : Int) + (1 + x)).toNat = s + (1 + x)) := by show ((s : Int) + (1 + x)).toNat = _; omega
  have t2 : Hid ((1 + (x : Int)).toNat = 1 + x) := by show (1 + (x : Int)).toNat = _; omega
  have t3 : Hid ((1 + (y : Int)).toNat = 1 + y) := by show (1 + (y : Int)).toNat = _; omega
  have t4 : Hid ((1 + (x : Int) + (1 + y)).toNat = 1 + x + (1 + y)) := by show (1 + (x : Int) + (1 + y)).toNat = _; omega
  generalize hX : mk s (1 + x) = X at *
  generalize hY : mk (s + (1 + x)) (1 + y) = Y at *
  generalize hZ : mk s (1 + x + (1 + y)) = Z at *
  replace hX := hid hX
  replace hY := hid hY
  replace hZ := hid hZ
  go_enter Try.func7, Try.ntmps7
  go_wp2_with fail
  refine (awake01 _).mono ?_
  rintro e w1 ⟨rfl, c1⟩
  go_wp2_with fail
  refine (pick01 a 63 _ ha (by decide)).mono ?_
  rintro e w1' ⟨rfl, rfl⟩
  rw [hs.out]
  go_wp2_with fail
  refine (pick01 b (63 - s) _ hb (by omega)).mono ?_
  rintro e w1' ⟨rfl, rfl⟩
  rw [hx.out]
  go_wp2_with fail
  refine (pick01 c (64 - s - (1 + x)) _ hc (by omega)).mono ?_
  rintro e w1' ⟨rfl, rfl⟩
  rw [hy.out]
  go_wp2_with fail
  refine (mask_yes s (1 + x) _ (by omega) (by omega) (by omega)).mono ?_
  rintro e w2 ⟨rfl, c2⟩
  rw [t2.out, Int.toNat_natCast, hX.out]
  go_wp2_with fail
  refine (mask_yes (s + (1 + x)) (1 + y) _ (by omega) (by omega) (by omega)).mono ?_
  rintro e w3 ⟨rfl, c3⟩
  rw [t1.out, t3.out, hY.out]
  go_wp2_with fail
  refine (mask_yes s (1 + x + (1 + y)) _ (by omega) (by omega) (by omega)).mono ?_
  rintro e w4 ⟨rfl, c4⟩
  rw [Int.toNat_natCast, t4.out, hZ.out]
  go_wp2
  go_ret
  exact ⟨rfl, Calm.below (((c1.trans c2).trans c3).trans c4)⟩

end Go.Proofs.Ytlocklcldalklaa
