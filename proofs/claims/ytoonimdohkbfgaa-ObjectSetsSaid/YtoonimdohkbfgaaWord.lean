/- Words and their parts, as plain numbers. What the functions of package word return, for right parts. -/
import Derived.WalkKit
import Derived.Laws.BitsAllLaws
import Derived.Test.YtoonimdohkbfgaaRows
import Derived.Test.YtoonimdohkbfgaaKit
set_option linter.unusedSimpArgs false
set_option linter.unusedVariables false
namespace Go.Proofs.Ytoonimdohkbfgaa

/-- The bits of a part. -/
def mk (s d : Nat) : Nat := (2 ^ d - 1) * 2 ^ s
/-- What a word has in a part. -/
def gt (W s d : Nat) : Nat := W / 2 ^ s % 2 ^ d
/-- A number put into a part of a word. -/
def st (W s d v : Nat) : Nat := (W &&& (18446744073709551615 - mk s d)) ||| v * 2 ^ s

theorem pow_le {a b : Nat} (h : a ≤ b) : 2 ^ a ≤ 2 ^ b := Nat.pow_le_pow_right (by omega) h
theorem two64 : (2 : Nat) ^ 64 = 18446744073709551616 := by decide

theorem mk_lt {s d : Nat} (h : s + d ≤ 64) : mk s d < 18446744073709551616 := by
  have h1 := pow_le h
  rw [Nat.pow_add, two64] at h1
  have h2 : 0 < 2 ^ s := Nat.two_pow_pos s
  have h3 : 0 < 2 ^ d := Nat.two_pow_pos d
  unfold mk
  have h4 : (2 ^ d - 1) * 2 ^ s + 2 ^ s = 2 ^ s * 2 ^ d := by rw [Nat.sub_mul, Nat.one_mul, Nat.mul_comm]; exact Nat.sub_add_cancel (Nat.le_mul_of_pos_right _ h3)
  omega

theorem ones_div {d : Nat} (h1 : 1 ≤ d) (h : d ≤ 64) : 18446744073709551615 / 2 ^ (64 - d) = 2 ^ d - 1 := by
  have e : (2 : Nat) ^ 64 = 2 ^ (64 - d) * 2 ^ d := by rw [← Nat.pow_add]; congr 1; omega
  rw [two64] at e
  have h2 : 0 < 2 ^ (64 - d) := Nat.two_pow_pos _
  have h3 : 0 < 2 ^ d := Nat.two_pow_pos d
  have : 18446744073709551615 = (2 ^ (64 - d) - 1) + 2 ^ (64 - d) * (2 ^ d - 1) := by
    rw [Nat.mul_sub, Nat.mul_one, ← e]
    have : 2 ^ (64 - d) ≤ 18446744073709551616 := by rw [← two64]; exact pow_le (by omega)
    omega
  rw [this, Nat.add_mul_div_left _ _ h2, Nat.div_eq_of_lt (by omega), Nat.zero_add]

theorem mask_eq {s d : Nat} (h1 : 1 ≤ d) (h : s + d ≤ 64) : IntKind.u64.wrap (18446744073709551615 / 2 ^ (64 - d) * 2 ^ s) = (mk s d : Nat) := by
  have e : (18446744073709551615 : Int) / 2 ^ (64 - d) * 2 ^ s = ((mk s d : Nat) : Int) := by
    unfold mk; rw [← ones_div h1 (by omega), Int.natCast_mul, Int.natCast_pow, Int.natCast_ediv, Int.natCast_pow]; rfl
  rw [e, IntKind.wrap_u64]
  have := mk_lt h
  omega

theorem testBit_mk (s d i : Nat) : (mk s d).testBit i = decide (s ≤ i ∧ i < s + d) := by
  unfold mk
  rw [← Nat.shiftLeft_eq, Nat.testBit_shiftLeft, Nat.testBit_two_pow_sub_one]
  rw [← Bool.decide_and, decide_eq_decide]
  exact ⟨fun h => ⟨h.1, by omega⟩, fun h => ⟨h.1, by omega⟩⟩

theorem testBit_gt (W s d i : Nat) : (gt W s d).testBit i = (decide (i < d) && W.testBit (s + i)) := by
  unfold gt
  rw [Nat.testBit_mod_two_pow, ← Nat.shiftRight_eq_div_pow, Nat.testBit_shiftRight]

theorem testBit_st {W s d v : Nat} (h : s + d ≤ 64) (hW : W < 18446744073709551616) (hv : v < 2 ^ d) (i : Nat) :
    (st W s d v).testBit i = if s ≤ i ∧ i < s + d then v.testBit (i - s) else W.testBit i := by
  unfold st
  rw [Nat.testBit_or, Nat.testBit_and, ← Nat.shiftLeft_eq v, Nat.testBit_shiftLeft]
  have hm : (18446744073709551615 - mk s d).testBit i = (decide (i < 64) && !(mk s d).testBit i) := by
    have := mk_lt h
    have e : 18446744073709551615 - mk s d = 2 ^ 64 - (mk s d + 1) := by rw [two64]; omega
    rw [e, Nat.testBit_two_pow_sub_succ (by rw [two64]; exact this)]
  rw [hm, testBit_mk]
  by_cases h1 : s ≤ i ∧ i < s + d
  · simp [h1]
  · rw [if_neg h1]
    by_cases h2 : s ≤ i
    · have h3 : s + d ≤ i := by omega
      have : v.testBit (i - s) = false := Nat.testBit_lt_two_pow (Nat.lt_of_lt_of_le hv (pow_le (by omega)))
      by_cases h4 : i < 64
      · simp [h1, this, h4]
      · have : W.testBit i = false := Nat.testBit_lt_two_pow (Nat.lt_of_lt_of_le hW (by rw [← two64]; exact pow_le (by omega)))
        simp [*]
    · by_cases h4 : i < 64
      · simp [h1, h2, h4]
      · omega

theorem st_lt {W s d v : Nat} (h : s + d ≤ 64) (hW : W < 18446744073709551616) (hv : v < 2 ^ d) : st W s d v < 18446744073709551616 := by
  unfold st
  rw [← two64] at *
  have h1 : v * 2 ^ s < 2 ^ 64 := by
    have h0 := pow_le h
    have h2 : 0 < 2 ^ s := Nat.two_pow_pos s
    calc v * 2 ^ s < 2 ^ d * 2 ^ s := Nat.mul_lt_mul_of_pos_right hv h2
      _ = 2 ^ (s + d) := by rw [Nat.pow_add, Nat.mul_comm]
      _ ≤ 2 ^ 64 := h0
  exact Nat.or_lt_two_pow (Nat.and_lt_two_pow _ (by have := Nat.two_pow_pos 64; omega)) h1

theorem gt_lt (W s d : Nat) : gt W s d < 2 ^ d := Nat.mod_lt _ (Nat.two_pow_pos d)

theorem and_mk (W s d : Nat) : (W &&& mk s d) / 2 ^ s = gt W s d := by
  apply Nat.eq_of_testBit_eq
  intro i
  rw [testBit_gt, ← Nat.shiftRight_eq_div_pow, Nat.testBit_shiftRight, Nat.testBit_and, testBit_mk]
  by_cases h : i < d <;> simp [h]

theorem get_eq {W s d : Nat} (h : s + d ≤ 64) (hW : W < 18446744073709551616) : bits .and .u64 (W : Int) (mk s d : Nat) / 2 ^ s = (gt W s d : Nat) := by
  rw [u64_and_nat W (mk s d) hW (mk_lt h), ← and_mk]; push_cast; rfl

theorem shl_eq {s d v : Nat} (h : s + d ≤ 64) (hv : v < 2 ^ d) : IntKind.u64.wrap ((v : Int) * 2 ^ s) = ((v * 2 ^ s : Nat) : Int) ∧ v * 2 ^ s < 18446744073709551616 := by
  have h1 : v * 2 ^ s < 18446744073709551616 := by
    rw [← two64]
    calc v * 2 ^ s < 2 ^ d * 2 ^ s := Nat.mul_lt_mul_of_pos_right hv (Nat.two_pow_pos s)
      _ = 2 ^ (s + d) := by rw [Nat.pow_add, Nat.mul_comm]
      _ ≤ 2 ^ 64 := pow_le h
  refine ⟨?_, h1⟩
  have e : (v : Int) * 2 ^ s = ((v * 2 ^ s : Nat) : Int) := by push_cast; rfl
  rw [e, IntKind.wrap_u64]; omega

theorem set_eq {W s d v : Nat} (h : s + d ≤ 64) (hW : W < 18446744073709551616) (hv : v < 2 ^ d) :
    bits .or .u64 (bits .andNot .u64 (W : Int) (mk s d : Nat)) (IntKind.u64.wrap ((v : Int) * 2 ^ s)) = (st W s d v : Nat) := by
  obtain ⟨e, hl⟩ := shl_eq h hv
  rw [e, u64_andNot_nat W (mk s d) hW (mk_lt h)]
  have := u64_or_nat (W &&& (18446744073709551615 - mk s d)) (v * 2 ^ s) (by have := @Nat.and_le_left W (18446744073709551615 - mk s d); omega) hl
  exact this

end Go.Proofs.Ytoonimdohkbfgaa

namespace Go.Proofs.Ytoonimdohkbfgaa
open Go.RowKit Go.Shelf

/-- A part, as a value. -/
abbrev partV (s wd : Int) : Value := .agg #[.int .i64 s, .int .i64 wd]
/-- A word, as a value. -/
abbrev wV (n : Nat) : Value := .int .u64 (n : Int)

theorem right_yes (s wd : Int) (w : World) (h1 : 0 ≤ s) (h2 : 1 ≤ wd) (h3 : s + wd ≤ 64) :
    Calls Try.prog 63 #[partV s wd] w fun e w' => e = .returned (.bool true) ∧ Calm w w' := by
  have a1 : s < 64 := by omega
  have a2 : wd ≤ 64 := by omega
  go_enter Try.func63, Try.ntmps63
  go_wp2
  go_ret
  exact ⟨rfl, Fr.alloc (Fr.refl _ _) _⟩

theorem mask_yes (s wd : Int) (w : World) (h1 : 0 ≤ s) (h2 : 1 ≤ wd) (h3 : s + wd ≤ 64) :
    Calls Try.prog 64 #[partV s wd] w fun e w' => e = .returned (wV (mk s.toNat wd.toNat)) ∧ Calm w w' := by
  go_enter Try.func64, Try.ntmps64
  go_wp2_with fail
  refine (right_yes s wd _ h1 h2 h3).mono ?_
  rintro e w1 ⟨rfl, c1⟩
  have b1 := Fr.cellAt c1 ((Own.new w #[.int .i64 s, .int .i64 wd] 110 0 rfl).1) id
  have b2 := Fr.cellAt c1 ((Own.new w #[.int .i64 s, .int .i64 wd] 110 1 rfl).1) id
  have a1 : 0 ≤ 64 - wd := by omega
  have a2 : 64 - wd ≤ 64 := by omega
  have a3 : s ≤ 64 := by omega
  go_wp2_with fail
  go_quiet (fail)
  go_wp2
  go_ret
  refine ⟨?_, (Fr.trans (Fr.alloc (Fr.refl _ _) _) c1).drewN _⟩
  obtain ⟨S, rfl⟩ := Int.eq_ofNat_of_zero_le h1
  obtain ⟨D, rfl⟩ := Int.eq_ofNat_of_zero_le (show 0 ≤ wd by omega)
  have e := mask_eq (s := S) (d := D) (by omega) (by omega)
  rw [show (64 - (D : Int)).toNat = 64 - D from by omega, Int.toNat_natCast, Int.toNat_natCast]
  exact congrArg (fun x => Ending.returned (.int .u64 x)) e

theorem get_yes (W : Nat) (hW : W < 18446744073709551616) (s wd : Int) (w : World) (h1 : 0 ≤ s) (h2 : 1 ≤ wd) (h3 : s + wd ≤ 64) :
    Calls Try.prog 61 #[wV W, partV s wd] w fun e w' => e = .returned (wV (gt W s.toNat wd.toNat)) ∧ Calm w w' := by
  go_enter Try.func61, Try.ntmps61
  go_wp2_with fail
  refine (right_yes s wd _ h1 h2 h3).mono ?_
  rintro e w1 ⟨rfl, c1⟩
  have b1 := Fr.cellAt c1 ((Own.new w #[.int .i64 s, .int .i64 wd] 110 0 rfl).1) id
  have b2 := Fr.cellAt c1 ((Own.new w #[.int .i64 s, .int .i64 wd] 110 1 rfl).1) id
  have a3 : s ≤ 64 := by omega
  have hz := c1.size
  go_wp2_with fail
  have q1 : ∀ x : Later w1, x.w.cell? ⟨w.heap.size, 0, none⟩ = some (.int .i64 s) := fun x => x.cell b1
  have q2 : ∀ x : Later w1, x.w.cell? ⟨w.heap.size, 1, none⟩ = some (.int .i64 wd) := fun x => x.cell b2
  refine wp_region_calm (by kernel_rfl) (by kernel_rfl) ?_
  repeat (go_big_quiet_step ((go_at_call 64; exact Calls.calm_of (mask_yes s wd _ h1 h2 h3))))
  refine wpQuiet_nil ?_
  intro w2 hw'
  have c2 := Later.out hw'
  clear hw'
  go_wp2
  go_ret
  refine ⟨?_, (Fr.trans (Fr.alloc (Fr.refl _ _) _) c1).trans c2⟩
  obtain ⟨S, rfl⟩ := Int.eq_ofNat_of_zero_le h1
  obtain ⟨D, rfl⟩ := Int.eq_ofNat_of_zero_le (show 0 ≤ wd by omega)
  have e := get_eq (s := S) (d := D) (by omega) hW
  rw [Int.toNat_natCast, Int.toNat_natCast]
  exact congrArg (fun x => Ending.returned (.int .u64 x)) e

end Go.Proofs.Ytoonimdohkbfgaa
