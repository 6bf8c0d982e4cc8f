/- Header words, as plain numbers. Zig, Zag, in a seat without Set. What the functions of package header return. Layer 6's small helpers: pick, Fit, the example. Fit: which shape a raw one is. -/
import Derived.Test.YtoonimdohkbfgaaWord
set_option linter.unusedSimpArgs false
set_option linter.unusedVariables false
namespace Go.Proofs.Ytoonimdohkbfgaa

/-- An object's first word. -/
def hd (p d : Nat) (wk fn fr : Bool) : Nat := 1 + p * 2 + d * 32 + wk.toNat * 512 + fn.toNat * 1024 + fr.toNat * 2048
/-- A shape may be. -/
def okS (p d : Nat) (wk fn : Bool) : Prop := p ≤ 8 ∧ d ≤ 8 ∧ (wk = true → p = 1 ∧ d = 0 ∧ fn = false)

theorem or_add {a b k : Nat} (ha : a < 2 ^ k) (h : a + b * 2 ^ k < 18446744073709551616) : bits .or .u64 (a : Int) ((b * 2 ^ k : Nat) : Int) = ((a + b * 2 ^ k : Nat) : Int) := by
  rw [u64_or_nat a (b * 2 ^ k) (by omega) (by omega)]
  congr 1
  have := Nat.shiftLeft_add_eq_or_of_lt ha b
  rw [Nat.shiftLeft_eq] at this
  rw [Nat.or_comm, ← this, Nat.add_comm]

theorem hd_lt {p d : Nat} {wk fn fr : Bool} (h : okS p d wk fn) : hd p d wk fn fr < 4096 := by
  obtain ⟨h1, h2, h3⟩ := h
  unfold hd
  have := Bool.toNat_le wk; have := Bool.toNat_le fn; have := Bool.toNat_le fr
  omega

theorem bit_of {b : Bool} {W k : Nat} (h : gt W k 1 = b.toNat) : (gt W k 1 == 1) = b := by
  rw [h]; cases b <;> rfl

theorem gt_hd {p d : Nat} {wk fn fr : Bool} (h : okS p d wk fn) :
    gt (hd p d wk fn fr) 1 4 = p ∧ gt (hd p d wk fn fr) 5 4 = d ∧ gt (hd p d wk fn fr) 9 1 = wk.toNat ∧ gt (hd p d wk fn fr) 10 1 = fn.toNat ∧ gt (hd p d wk fn fr) 11 1 = fr.toNat := by
  obtain ⟨h1, h2, h3⟩ := h
  unfold gt hd
  have := Bool.toNat_le wk; have := Bool.toNat_le fn; have := Bool.toNat_le fr
  omega

theorem hd_inj {p d p' d' : Nat} {wk fn fr wk' fn' fr' : Bool} (h : okS p d wk fn) (h' : okS p' d' wk' fn') (e : hd p d wk fn fr = hd p' d' wk' fn' fr') : p = p' ∧ d = d' ∧ wk = wk' ∧ fn = fn' ∧ fr = fr' := by
  obtain ⟨a1, a2, a3, a4, a5⟩ := gt_hd (fr := fr) h
  obtain ⟨b1, b2, b3, b4, b5⟩ := gt_hd (fr := fr') h'
  rw [e] at a1 a2 a3 a4 a5
  have inj : ∀ a b : Bool, a.toNat = b.toNat → a = b := by decide
  exact ⟨a1.symm.trans b1, a2.symm.trans b2, inj _ _ (a3.symm.trans b3), inj _ _ (a4.symm.trans b4), inj _ _ (a5.symm.trans b5)⟩

theorem hd_bits {p d : Nat} {wk fn fr : Bool} (h1 : p ≤ 8) (h2 : d ≤ 8) :
    bits .or .u64 (bits .or .u64 (bits .or .u64 (bits .or .u64 (bits .or .u64 1 ((p : Int) * 2)) ((d : Int) * 32)) ((wk.toNat : Int) * 512)) ((fn.toNat : Int) * 1024)) ((fr.toNat : Int) * 2048) = (hd p d wk fn fr : Nat) := by
  have t1 := Bool.toNat_le wk
  have t2 := Bool.toNat_le fn
  have t3 := Bool.toNat_le fr
  have e1 := or_add (a := 1) (b := p) (k := 1) (by decide) (by omega)
  have e2 := or_add (a := 1 + p * 2 ^ 1) (b := d) (k := 5) (by omega) (by omega)
  have e3 := or_add (a := 1 + p * 2 ^ 1 + d * 2 ^ 5) (b := wk.toNat) (k := 9) (by omega) (by omega)
  have e4 := or_add (a := 1 + p * 2 ^ 1 + d * 2 ^ 5 + wk.toNat * 2 ^ 9) (b := fn.toNat) (k := 10) (by omega) (by omega)
  have e5 := or_add (a := 1 + p * 2 ^ 1 + d * 2 ^ 5 + wk.toNat * 2 ^ 9 + fn.toNat * 2 ^ 10) (b := fr.toNat) (k := 11) (by omega) (by omega)
  have c1 : (p : Int) * 2 = ((p * 2 ^ 1 : Nat) : Int) := by omega
  have c2 : (d : Int) * 32 = ((d * 2 ^ 5 : Nat) : Int) := by omega
  have c3 : (wk.toNat : Int) * 512 = ((wk.toNat * 2 ^ 9 : Nat) : Int) := by omega
  have c4 : (fn.toNat : Int) * 1024 = ((fn.toNat * 2 ^ 10 : Nat) : Int) := by omega
  have c5 : (fr.toNat : Int) * 2048 = ((fr.toNat * 2 ^ 11 : Nat) : Int) := by omega
  rw [c1, c2, c3, c4, c5, show (1 : Int) = ((1 : Nat) : Int) from rfl, e1, e2, e3, e4, e5]
  rfl

/-- A word is the first one of an object of that shape. -/
def isHead (W p d : Nat) (wk fn fr : Bool) : Prop := okS p d wk fn ∧ hd p d wk fn fr = W

theorem isHead_odd {W p d : Nat} {wk fn fr : Bool} (h : isHead W p d wk fn fr) : W % 2 = 1 := by
  obtain ⟨_, rfl⟩ := h; unfold hd; omega

end Go.Proofs.Ytoonimdohkbfgaa

namespace Go.Proofs.Ytoonimdohkbfgaa
open Go.RowKit Go.Shelf

theorem zig_is (n : Int) (w : World) (hn : I64 n) :
    Calls Try.prog 31 #[.int .i64 n] w fun e w' => e = .returned (.int .u64 (if 0 ≤ n then 2 * n else -2 * n - 1)) ∧ Calm w w' := by
  obtain ⟨hn1, hn2⟩ := hn
  go_enter Try.func31, Try.ntmps31
  go_wp2
  · go_ret
    exact ⟨by rw [Int.mul_comm]; rfl, Fr.refl _ _⟩
  · go_ret
    refine ⟨?_, Fr.refl _ _⟩
    obtain ⟨m, hm⟩ := Int.eq_ofNat_of_zero_le (show 0 ≤ -(n + 1) by omega)
    rw [hm]
    have hm' : m < 9223372036854775808 := by omega
    have e := u64_or_nat (m * 2) 1 (by omega) (by omega)
    have e2 : m * 2 ||| 1 = m * 2 + 1 := by
      rw [Nat.mul_comm]; exact (Nat.two_pow_add_eq_or_of_lt (i := 1) (by omega : 1 < 2 ^ 1) m).symm
    rw [e2] at e
    have e3 : ((m : Int) * 2) = ((m * 2 : Nat) : Int) := by push_cast; rfl
    rw [e3]
    refine congrArg (fun x => Ending.returned (.int .u64 x)) (Eq.trans e ?_)
    omega

theorem and_one (W : Nat) (hW : W < 18446744073709551616) : bits .and .u64 (W : Int) 1 = ((W % 2 : Nat) : Int) := by
  have := u64_and_nat W 1 hW (by omega)
  rw [Nat.and_one_is_mod] at this
  exact this

theorem zag_is (W : Nat) (w : World) (hW : W < 18446744073709551616) :
    Calls Try.prog 36 #[wV W] w fun e w' => e = .returned (.int .i64 (if W % 2 = 1 then -((W / 2 : Nat) : Int) - 1 else (W / 2 : Nat))) ∧ Calm w w' := by
  have h1 := and_one W hW
  go_enter Try.func36, Try.ntmps36
  go_wp2
  all_goals (first | (go_ret; exact ⟨rfl, Fr.refl _ _⟩) | (exfalso; rename_i hh; simp at hh; omega))

def zg (n : Int) : Nat := if 0 ≤ n then 2 * n.toNat else 2 * (-n - 1).toNat + 1
def zt (W : Nat) : Int := if W % 2 = 1 then -((W / 2 : Nat) : Int) - 1 else (W / 2 : Nat)

theorem zig_yes (n : Int) (w : World) (hn : I64 n) :
    Calls Try.prog 31 #[.int .i64 n] w fun e w' => e = .returned (wV (zg n)) ∧ Calm w w' := by
  refine (zig_is n w hn).mono ?_
  rintro e w' ⟨rfl, c⟩
  refine ⟨congrArg (fun x => Ending.returned (.int .u64 x)) ?_, c⟩
  unfold zg
  split <;> omega

theorem zag_yes (W : Nat) (w : World) (hW : W < 18446744073709551616) :
    Calls Try.prog 36 #[wV W] w fun e w' => e = .returned (.int .i64 (zt W)) ∧ Calm w w' := zag_is W w hW

theorem zg_lt {n : Int} (h : I64 n) : zg n < 18446744073709551616 := by
  obtain ⟨h1, h2⟩ := h
  unfold zg; split <;> omega
theorem zt_ok {W : Nat} (h : W < 18446744073709551616) : I64 (zt W) := by
  unfold zt; split <;> constructor <;> omega
theorem zt_zg (n : Int) : zt (zg n) = n := by
  unfold zt zg; split <;> split <;> omega
theorem zg_zt (W : Nat) : zg (zt W) = W := by
  unfold zt zg; split <;> split <;> omega

end Go.Proofs.Ytoonimdohkbfgaa

namespace Go.Proofs.Ytoonimdohkbfgaa
open Go.RowKit Go.Shelf

/-- A shape, as a value. -/
abbrev shV (p d : Int) (wk fn : Bool) : Value := .agg #[.int .i64 p, .int .i64 d, .bool wk, .bool fn]

theorem hright_yes (p d : Nat) (wk fn : Bool) (h : okS p d wk fn) (w : World) :
    Calls Try.prog 50 #[shV p d wk fn] w fun e w' => e = .returned (.bool true) ∧ Calm w w' := by
  obtain ⟨h1, h2, h3⟩ := h
  cases wk with
  | false =>
    clear h3
    go_enter Try.func50, Try.ntmps50
    go_wp2
    go_ret
    exact ⟨rfl, Fr.alloc (Fr.refl _ _) _⟩
  | true =>
    obtain ⟨rfl, rfl, rfl⟩ := h3 rfl
    clear h3 h1 h2
    go_enter Try.func50, Try.ntmps50
    go_wp2
    go_ret
    exact ⟨rfl, Fr.alloc (Fr.refl _ _) _⟩

/-- A shape may not be. -/
def badS (p d : Int) (wk fn : Bool) : Prop := p < 0 ∨ 8 < p ∨ d < 0 ∨ 8 < d ∨ (wk = true ∧ (p ≠ 1 ∨ d ≠ 0 ∨ fn = true))

theorem hright_no (p d : Int) (wk fn : Bool) (h : badS p d wk fn) (w : World) :
    Calls Try.prog 50 #[shV p d wk fn] w fun e w' => e = .returned (.bool false) ∧ Calm w w' := by
  by_cases a1 : 0 ≤ p ∧ p ≤ 8 ∧ 0 ≤ d ∧ d ≤ 8
  · obtain ⟨a1, a2, a3, a4⟩ := a1
    have hw : wk = true := by
      rcases h with h | h | h | h | h
      · omega
      · omega
      · omega
      · omega
      · exact h.1
    subst hw
    have h' : p ≠ 1 ∨ d ≠ 0 ∨ fn = true := by
      rcases h with h | h | h | h | h
      · omega
      · omega
      · omega
      · omega
      · exact h.2
    clear h
    by_cases hp : p = 1
    · subst hp
      have n1 : ((1 : Int) == 1) = true := rfl
      by_cases hd : d = 0
      · subst hd
        have hf : fn = true := by simpa using h'
        subst hf
        clear h'
        go_enter Try.func50, Try.ntmps50
        go_wp2
        go_ret
        exact ⟨rfl, Fr.alloc (Fr.refl _ _) _⟩
      · have n2 : (d == 0) = false := by simpa using hd
        clear h'
        go_enter Try.func50, Try.ntmps50
        go_wp2
        go_ret
        exact ⟨rfl, Fr.alloc (Fr.refl _ _) _⟩
    · have n1 : (p == 1) = false := by simpa using hp
      clear h'
      go_enter Try.func50, Try.ntmps50
      go_wp2
      go_ret
      exact ⟨rfl, Fr.alloc (Fr.refl _ _) _⟩
  · have a2 : p < 0 ∨ (0 ≤ p ∧ 8 < p) ∨ (0 ≤ p ∧ p ≤ 8 ∧ d < 0) ∨ (0 ≤ p ∧ p ≤ 8 ∧ 0 ≤ d ∧ 8 < d) := by omega
    clear h a1
    rcases a2 with a2 | ⟨a2, a3⟩ | ⟨a2, a3, a4⟩ | ⟨a2, a3, a4, a5⟩
    all_goals
      go_enter Try.func50, Try.ntmps50
      go_wp2
      go_ret
      exact ⟨rfl, Fr.alloc (Fr.refl _ _) _⟩

theorem size_yes (p d : Nat) (wk fn : Bool) (h : okS p d wk fn) (w : World) :
    Calls Try.prog 34 #[shV p d wk fn] w fun e w' => e = .returned (.tuple #[.int .i64 (3 + (p : Int) + (d : Int)), .bool true]) ∧ Calm w w' := by
  have h1 : p ≤ 8 := h.1
  have h2 : d ≤ 8 := h.2.1
  go_enter Try.func34, Try.ntmps34
  go_wp2_with fail
  refine (hright_yes p d wk fn h _).mono ?_
  rintro e w1 ⟨rfl, c1⟩
  have b1 := Fr.cellAt c1 ((Own.new w #[.int .i64 p, .int .i64 d, .bool wk, .bool fn] 27 0 rfl).1) id
  have b2 := Fr.cellAt c1 ((Own.new w #[.int .i64 p, .int .i64 d, .bool wk, .bool fn] 27 1 rfl).1) id
  go_wp2
  go_ret2
  exact ⟨rfl, Fr.trans (Fr.alloc (Fr.refl _ _) _) c1⟩

theorem size_no (p d : Int) (wk fn : Bool) (h : badS p d wk fn) (w : World) :
    Calls Try.prog 34 #[shV p d wk fn] w fun e w' => e = .returned (.tuple #[.int .i64 0, .bool false]) ∧ Calm w w' := by
  have H : Hid (badS p d wk fn) := h
  clear h
  go_enter Try.func34, Try.ntmps34
  go_wp2_with fail
  refine (hright_no p d wk fn H.out _).mono ?_
  rintro e w1 ⟨rfl, c1⟩
  go_wp2
  go_ret2
  exact ⟨rfl, Fr.trans (Fr.alloc (Fr.refl _ _) _) c1⟩

theorem bit_any (k : Int) (b : Bool) (h1 : 0 ≤ k) (h2 : k ≤ 62) (w : World) :
    Calls Try.prog 51 #[.int .i64 k, .bool b] w fun e w' => e = .returned (wV (b.toNat * 2 ^ k.toNat)) ∧ Calm w w' := by
  obtain ⟨K, rfl⟩ := Int.eq_ofNat_of_zero_le h1
  have hb : (2 : Nat) ^ K < 18446744073709551616 := by have := pow_le (a := K) (b := 62) (by omega); have : (2 : Nat) ^ 62 = 4611686018427387904 := by decide
                                                       omega
  have he : Hid (IntKind.u64.wrap (2 ^ K) = ((2 ^ K : Nat) : Int)) := by
    show IntKind.u64.wrap (2 ^ K) = _
    rw [show (2 : Int) ^ K = ((2 ^ K : Nat) : Int) from by rw [Int.natCast_pow]; rfl, IntKind.wrap_u64]; exact Int.emod_eq_of_lt (Int.natCast_nonneg _) (Int.ofNat_lt.2 hb)
  have HB : Hid ((2 : Nat) ^ K < 18446744073709551616) := hb
  clear hb
  cases b with
  | false =>
    go_enter Try.func51, Try.ntmps51
    go_wp2
    go_ret
    exact ⟨by simp, Fr.refl _ _⟩
  | true =>
    go_enter Try.func51, Try.ntmps51
    go_wp2
    go_ret
    refine ⟨?_, Fr.refl _ _⟩
    show Ending.returned (.int .u64 (IntKind.u64.wrap (2 ^ K))) = _
    rw [he.out]; simp

set_option maxHeartbeats 1000000 in
theorem head_yes (p d : Nat) (wk fn fr : Bool) (h : okS p d wk fn) (w : World) :
    Calls Try.prog 32 #[shV p d wk fn, .bool fr] w fun e w' => e = .returned (.tuple #[wV (hd p d wk fn fr), .bool true]) ∧ Calm w w' := by
  have h1 : p ≤ 8 := h.1
  have h2 : d ≤ 8 := h.2.1
  go_enter Try.func32, Try.ntmps32
  go_wp2_with fail
  refine (hright_yes p d wk fn h _).mono ?_
  rintro e w1 ⟨rfl, c1⟩
  have b1 := Fr.cellAt c1 ((Own.new w #[.int .i64 p, .int .i64 d, .bool wk, .bool fn] 27 0 rfl).1) id
  have b2 := Fr.cellAt c1 ((Own.new w #[.int .i64 p, .int .i64 d, .bool wk, .bool fn] 27 1 rfl).1) id
  have b3 := Fr.cellAt c1 ((Own.new w #[.int .i64 p, .int .i64 d, .bool wk, .bool fn] 27 2 rfl).1) id
  have b4 := Fr.cellAt c1 ((Own.new w #[.int .i64 p, .int .i64 d, .bool wk, .bool fn] 27 3 rfl).1) id
  go_wp2_with fail
  have q1 : ∀ x : Later w1, x.w.cell? ⟨w.heap.size, 0, none⟩ = some (.int .i64 p) := fun x => x.cell b1
  have q2 : ∀ x : Later w1, x.w.cell? ⟨w.heap.size, 1, none⟩ = some (.int .i64 d) := fun x => x.cell b2
  refine wp_region_calm (by kernel_rfl) (by kernel_rfl) ?_
  repeat (go_big_quiet_step ((go_at_call 51; exact Calls.calm_of (bit_any _ _ (by decide) (by decide) _))))
  refine wpQuiet_nil ?_
  intro w2 hw'
  have c2 := Later.out hw'
  clear hw'
  clear q1 q2
  have d3 := Fr.cellAt c2 b3 id
  have d4 := Fr.cellAt c2 b4 id
  go_wp2_with fail
  have q3 : ∀ x : Later w2, x.w.cell? ⟨w.heap.size, 2, none⟩ = some (.bool wk) := fun x => x.cell d3
  have q4 : ∀ x : Later w2, x.w.cell? ⟨w.heap.size, 3, none⟩ = some (.bool fn) := fun x => x.cell d4
  refine wp_region_calm (by kernel_rfl) (by kernel_rfl) ?_
  repeat (go_big_quiet_step ((go_at_call 51; exact Calls.calm_of (bit_any _ _ (by decide) (by decide) _))))
  refine wpQuiet_nil ?_
  intro w3 hw'
  have c3 := Later.out hw'
  clear hw'
  go_wp2
  go_ret2
  refine ⟨?_, ((Fr.trans (Fr.alloc (Fr.refl _ _) _) c1).trans c2).trans c3⟩
  exact congrArg (fun x => Ending.returned (.tuple #[.int .u64 x, .bool true])) (hd_bits h1 h2)

theorem head_no (p d : Int) (wk fn fr : Bool) (h : badS p d wk fn) (w : World) :
    Calls Try.prog 32 #[shV p d wk fn, .bool fr] w fun e w' => e = .returned (.tuple #[wV 0, .bool false]) ∧ Calm w w' := by
  have H : Hid (badS p d wk fn) := h
  clear h
  go_enter Try.func32, Try.ntmps32
  go_wp2_with fail
  refine (hright_no p d wk fn H.out _).mono ?_
  rintro e w1 ⟨rfl, c1⟩
  go_wp2
  go_ret2
  exact ⟨rfl, Fr.trans (Fr.alloc (Fr.refl _ _) _) c1⟩

theorem count_any (W : Nat) (hW : W < 18446744073709551616) (k : Int) (h1 : 0 ≤ k) (h2 : k ≤ 60) (w : World) :
    Calls Try.prog 52 #[wV W, .int .i64 k] w fun e w' => e = .returned (.int .i64 (gt W k.toNat 4 : Nat)) ∧ Calm w w' := by
  have hl : gt W k.toNat 4 < 16 := gt_lt W k.toNat 4
  obtain ⟨g, hg⟩ : ∃ g, gt W k.toNat 4 = g := ⟨_, rfl⟩
  rw [hg] at hl
  have HG : Hid (gt W k.toNat 4 = g) := hg
  clear hg
  go_enter Try.func52, Try.ntmps52
  go_wp2_with fail
  refine (get_yes W hW k 4 _ h1 (by decide) (by omega)).mono ?_
  rintro e w1 ⟨rfl, c1⟩
  rw [show Int.toNat 4 = 4 from rfl, HG.out]
  go_wp2
  go_ret
  exact ⟨by rw [HG.out]; rfl, c1⟩

theorem has_any (W : Nat) (hW : W < 18446744073709551616) (k : Int) (h1 : 0 ≤ k) (h2 : k ≤ 63) (w : World) :
    Calls Try.prog 53 #[wV W, .int .i64 k] w fun e w' => e = .returned (.bool (gt W k.toNat 1 == 1)) ∧ Calm w w' := by
  have hl : gt W k.toNat 1 < 2 := gt_lt W k.toNat 1
  obtain ⟨g, hg⟩ : ∃ g, gt W k.toNat 1 = g := ⟨_, rfl⟩
  rw [hg] at hl
  have HG : Hid (gt W k.toNat 1 = g) := hg
  clear hg
  rcases (by omega : g = 0 ∨ g = 1) with rfl | rfl
  all_goals
    go_enter Try.func53, Try.ntmps53
    go_wp2_with fail
    refine (get_yes W hW k 1 _ h1 (by decide) (by omega)).mono ?_
    rintro e w1 ⟨rfl, c1⟩
    rw [show Int.toNat 1 = 1 from rfl, HG.out]
    go_wp2
    go_ret
    exact ⟨by rw [HG.out]; rfl, c1⟩

theorem gone_yes (n : Int) (h1 : 1 ≤ n) (h2 : n ≤ 131072) (w : World) :
    Calls Try.prog 42 #[.int .i64 n] w fun e w' => e = .returned (.tuple #[wV (n.toNat * 4 + 2), .bool true]) ∧ w = w' := by
  obtain ⟨N, rfl⟩ := Int.eq_ofNat_of_zero_le (show 0 ≤ n by omega)
  have he : Hid (bits .or .u64 ((N : Int) * 4) 2 = ((N * 4 + 2 : Nat) : Int)) := by
    show bits .or .u64 ((N : Int) * 4) 2 = _
    have e := or_add (a := 2) (b := N) (k := 2) (by decide) (by omega)
    have c : (N : Int) * 4 = ((N * 2 ^ 2 : Nat) : Int) := by omega
    have e2 := u64_or_nat (N * 2 ^ 2) 2 (by omega) (by decide)
    rw [c, show (2 : Int) = ((2 : Nat) : Int) from rfl, e2, Nat.or_comm]
    rw [u64_or_nat 2 (N * 2 ^ 2) (by decide) (by omega)] at e
    rw [e]; omega
  go_enter Try.func42, Try.ntmps42
  go_wp2
  go_ret2
  exact ⟨congrArg (fun x => Ending.returned (.tuple #[.int .u64 x, .bool true])) he.out, rfl⟩

theorem gone_no (n : Int) (h : n < 1 ∨ 131072 < n) (w : World) :
    Calls Try.prog 42 #[.int .i64 n] w fun e w' => e = .returned (.tuple #[wV 0, .bool false]) ∧ w = w' := by
  rcases (by omega : n < 1 ∨ (1 ≤ n ∧ 131072 < n)) with h | ⟨h, h'⟩
  all_goals
    go_enter Try.func42, Try.ntmps42
    go_wp2
    go_ret2
    exact ⟨rfl, rfl⟩

theorem free_yes (n : Int) (h1 : 0 ≤ n) (h2 : n ≤ 1099511627776) (w : World) :
    Calls Try.prog 47 #[.int .i64 n] w fun e w' => e = .returned (.tuple #[wV (2 * n.toNat), .bool true]) ∧ w = w' := by
  obtain ⟨N, rfl⟩ := Int.eq_ofNat_of_zero_le h1
  go_enter Try.func47, Try.ntmps47
  go_wp2
  go_ret2
  exact ⟨rfl, rfl⟩

theorem free_no (n : Int) (h : n < 0 ∨ 1099511627776 < n) (w : World) :
    Calls Try.prog 47 #[.int .i64 n] w fun e w' => e = .returned (.tuple #[wV 0, .bool false]) ∧ w = w' := by
  rcases (by omega : n < 0 ∨ (0 ≤ n ∧ 1099511627776 < n)) with h | ⟨h, h'⟩
  all_goals
    go_enter Try.func47, Try.ntmps47
    go_wp2
    go_ret2
    exact ⟨rfl, rfl⟩

/-- What is gone tells where. -/
theorem where_yes (W : Nat) (hW : W < 18446744073709551616) (h1 : 1 ≤ W / 4) (h2 : W / 4 ≤ 131072) (h3 : W % 4 = 2) (w : World) :
    Calls Try.prog 54 #[wV W] w fun e w' => e = .returned (.tuple #[.int .i64 (W / 4 : Nat), .bool true]) ∧ w = w' := by
  have H3 : Hid (W % 4 = 2) := h3
  clear h3
  go_enter Try.func54, Try.ntmps54
  go_wp2_with fail
  refine (gone_yes _ (by omega) (by omega) _).mono ?_
  rintro e w' ⟨rfl, rfl⟩
  rw [show ((W : Int) / 4).toNat * 4 + 2 = W from by have := H3.out; omega]
  go_wp2
  go_ret2
  exact ⟨by simp, rfl⟩

theorem where_no (W : Nat) (hW : W < 18446744073709551616) (h : W / 4 < 1 ∨ 131072 < W / 4 ∨ W % 4 ≠ 2) (w : World) :
    Calls Try.prog 54 #[wV W] w fun e w' => e = .returned (.tuple #[.int .i64 0, .bool false]) ∧ w = w' := by
  by_cases hr : 1 ≤ W / 4 ∧ W / 4 ≤ 131072
  · have h3 : W % 4 ≠ 2 := by omega
    have H3 : Hid (W % 4 ≠ 2) := h3
    clear h3 h
    obtain ⟨r1, r2⟩ := hr
    go_enter Try.func54, Try.ntmps54
    go_wp2_with fail
    refine (gone_yes _ (by omega) (by omega) _).mono ?_
    rintro e w' ⟨rfl, rfl⟩
    obtain ⟨V, hV⟩ : ∃ V, ((W : Int) / 4).toNat * 4 + 2 = V := ⟨_, rfl⟩
    have hne : (((V : Nat) : Int) == (W : Int)) = false := by have := H3.out; simp; omega
    have hne2 : (((V : Nat) : Int) != (W : Int)) = true := by have := H3.out; simp; omega
    rw [hV]
    clear hV
    go_wp2
    go_ret2
    exact ⟨rfl, rfl⟩
  · have H : Hid (W / 4 < 1 ∨ 131072 < W / 4) := by show W / 4 < 1 ∨ 131072 < W / 4; omega
    clear h hr
    go_enter Try.func54, Try.ntmps54
    go_wp2_with fail
    refine (gone_no _ (by have := H.out; omega) _).mono ?_
    rintro e w' ⟨rfl, rfl⟩
    go_wp2
    go_ret2
    exact ⟨rfl, rfl⟩


set_option maxHeartbeats 1000000 in
/-- The walk of Shape, where the word is a head. -/
theorem shape_core_yes (W : Nat) (hW : W < 18446744073709551616) (w : World) (b1 b2 b3 : Bool) (p d : Nat) (hp : gt W 1 4 = p) (hd' : gt W 5 4 = d) (h1 : (gt W 9 1 == 1) = b1) (h2 : (gt W 10 1 == 1) = b2) (h3 : (gt W 11 1 == 1) = b3)
    (hok : okS p d b1 b2) (e : hd p d b1 b2 b3 = W) :
    Calls Try.prog 33 #[wV W] w fun e w' => e = .returned (.tuple #[shV p d b1 b2, .bool b3, .bool true]) ∧ Calm w w' := by
  have HE : Hid (hd p d b1 b2 b3 = W) := e
  have HO : Hid (okS p d b1 b2) := hok
  clear e hok
  have HP : Hid (gt W 1 4 = p) := hp
  have HD : Hid (gt W 5 4 = d) := hd'
  have H1 : Hid ((gt W 9 1 == 1) = b1) := h1
  have H2 : Hid ((gt W 10 1 == 1) = b2) := h2
  have H3 : Hid ((gt W 11 1 == 1) = b3) := h3
  clear hp hd' h1 h2 h3
  go_enter Try.func33, Try.ntmps33
  go_wp2_with fail
  refine (count_any W hW 1 (by decide) (by decide) _).mono ?_
  rintro e w1 ⟨rfl, c1⟩
  rw [show Int.toNat 1 = 1 from rfl, HP.out]
  go_wp2_with fail
  refine (count_any W hW 5 (by decide) (by decide) _).mono ?_
  rintro e w2 ⟨rfl, c2⟩
  rw [show Int.toNat 5 = 5 from rfl, HD.out]
  go_wp2_with fail
  refine (has_any W hW 9 (by decide) (by decide) _).mono ?_
  rintro e w3 ⟨rfl, c3⟩
  rw [show Int.toNat 9 = 9 from rfl, H1.out]
  go_wp2_with fail
  refine (has_any W hW 10 (by decide) (by decide) _).mono ?_
  rintro e w4 ⟨rfl, c4⟩
  rw [show Int.toNat 10 = 10 from rfl, H2.out]
  have c14 := ((c1.trans c2).trans c3).trans c4
  have o0 := (Own.new w #[.int .i64 0, .int .i64 0, .bool false, .bool false] 27 0 rfl).fr c14 id
  have o1 := (Own.new w #[.int .i64 0, .int .i64 0, .bool false, .bool false] 27 1 rfl).fr c14 id
  have o2 := (Own.new w #[.int .i64 0, .int .i64 0, .bool false, .bool false] 27 2 rfl).fr c14 id
  have o3 := (Own.new w #[.int .i64 0, .int .i64 0, .bool false, .bool false] 27 3 rfl).fr c14 id
  have c04 : Calm w w4 := (Fr.alloc (Fr.refl _ w) _).trans c14
  clear c1 c2 c3 c4 c14
  obtain ⟨B, hB⟩ : ∃ B, w.heap.size = B := ⟨_, rfl⟩
  have hBl : Hid (w.heap.size = B) := hB
  rw [hB] at o0 o1 o2 o3 ⊢
  clear hB
  have x0 := o0.1
  have x1 := o1.1
  have x2 := o2.1
  have x3 := o3.1
  have y0 := o0.2
  have y1 := o1.2
  have y2 := o2.2
  have y3 := o3.2
  go_wp2_with fail
  clear x0 x1 x2 x3 y0 y1 y2 y3
  obtain ⟨s0, s1, s2, s3, sf⟩ := own_set4 o0 o1 o2 o3 (.int .i64 p) (.int .i64 d) (.bool b1) (.bool b2)
  obtain ⟨w5, hw5⟩ : ∃ w5, ((((w4.setCell ⟨B, 0, none⟩ (.int .i64 p)).setCell ⟨B, 1, none⟩ (.int .i64 d)).setCell ⟨B, 2, none⟩ (.bool b1)).setCell ⟨B, 3, none⟩ (.bool b2)) = w5 := ⟨_, rfl⟩
  rw [hw5] at s0 s1 s2 s3 sf ⊢
  clear hw5 o0 o1 o2 o3
  have c05 : Calm w w5 := c04.join sf (by have := hBl.out; intro k h1 h2; omega)
  clear c04 sf
  refine (has_any W hW 11 (by decide) (by decide) _).mono ?_
  rintro e w6 ⟨rfl, c6⟩
  rw [show Int.toNat 11 = 11 from rfl, H3.out]
  have c06 := c05.trans c6
  replace s0 := s0.fr c6 id
  replace s1 := s1.fr c6 id
  replace s2 := s2.fr c6 id
  replace s3 := s3.fr c6 id
  clear c05 c6
  have x0 := s0.1
  have x1 := s1.1
  have x2 := s2.1
  have x3 := s3.1
  go_wp2_with fail
  clear x0 x1 x2 x3
  refine (head_yes p d b1 b2 b3 HO.out _).mono ?_
  rintro e w7 ⟨rfl, c7⟩
  rw [HE.out]
  have c07 := c06.trans c7
  replace s0 := s0.fr c7 id
  replace s1 := s1.fr c7 id
  replace s2 := s2.fr c7 id
  replace s3 := s3.fr c7 id
  clear c06 c7
  have x0 := s0.1
  have x1 := s1.1
  have x2 := s2.1
  have x3 := s3.1
  have y0 := s0.2
  have y1 := s1.2
  have y2 := s2.2
  have y3 := s3.2
  have hne : ((W : Int) != (W : Int)) = false := by simp
  go_wp2
  obtain ⟨t0, t1, t2, t3, tf⟩ := own_set4 s0 s1 s2 s3 (.int .i64 p) (.int .i64 d) (.bool b1) (.bool b2)
  have c08 : Calm w _ := c07.join tf (by have := hBl.out; intro k h1 h2; omega)
  refine bodyPost_ret (v := .tuple #[shV p d b1 b2, .bool b3, .bool true]) ?_ rfl ⟨rfl, c08⟩
  simp [results, Try.f33, go_sem, t0.1, t1.1, t2.1, t3.1]

set_option maxHeartbeats 1000000 in
/-- The walk of Shape, where the word is none. -/
theorem shape_core_ne (W : Nat) (hW : W < 18446744073709551616) (w : World) (b1 b2 b3 : Bool) (p d : Nat) (hp : gt W 1 4 = p) (hd' : gt W 5 4 = d) (h1 : (gt W 9 1 == 1) = b1) (h2 : (gt W 10 1 == 1) = b2) (h3 : (gt W 11 1 == 1) = b3)
    (hok : okS p d b1 b2) (e : hd p d b1 b2 b3 ≠ W) :
    Calls Try.prog 33 #[wV W] w fun e w' => e = .returned (.tuple #[shV 0 0 false false, .bool false, .bool false]) ∧ Calm w w' := by
  obtain ⟨V, hV⟩ : ∃ V, hd p d b1 b2 b3 = V := ⟨_, rfl⟩
  rw [hV] at e
  have HE : Hid (hd p d b1 b2 b3 = V) := hV
  have hne : ((V : Int) != (W : Int)) = true := by simp; omega
  have HO : Hid (okS p d b1 b2) := hok
  clear e hok hV
  have HP : Hid (gt W 1 4 = p) := hp
  have HD : Hid (gt W 5 4 = d) := hd'
  have H1 : Hid ((gt W 9 1 == 1) = b1) := h1
  have H2 : Hid ((gt W 10 1 == 1) = b2) := h2
  have H3 : Hid ((gt W 11 1 == 1) = b3) := h3
  clear hp hd' h1 h2 h3
  go_enter Try.func33, Try.ntmps33
  go_wp2_with fail
  refine (count_any W hW 1 (by decide) (by decide) _).mono ?_
  rintro e w1 ⟨rfl, c1⟩
  rw [show Int.toNat 1 = 1 from rfl, HP.out]
  go_wp2_with fail
  refine (count_any W hW 5 (by decide) (by decide) _).mono ?_
  rintro e w2 ⟨rfl, c2⟩
  rw [show Int.toNat 5 = 5 from rfl, HD.out]
  go_wp2_with fail
  refine (has_any W hW 9 (by decide) (by decide) _).mono ?_
  rintro e w3 ⟨rfl, c3⟩
  rw [show Int.toNat 9 = 9 from rfl, H1.out]
  go_wp2_with fail
  refine (has_any W hW 10 (by decide) (by decide) _).mono ?_
  rintro e w4 ⟨rfl, c4⟩
  rw [show Int.toNat 10 = 10 from rfl, H2.out]
  have c14 := ((c1.trans c2).trans c3).trans c4
  have o0 := (Own.new w #[.int .i64 0, .int .i64 0, .bool false, .bool false] 27 0 rfl).fr c14 id
  have o1 := (Own.new w #[.int .i64 0, .int .i64 0, .bool false, .bool false] 27 1 rfl).fr c14 id
  have o2 := (Own.new w #[.int .i64 0, .int .i64 0, .bool false, .bool false] 27 2 rfl).fr c14 id
  have o3 := (Own.new w #[.int .i64 0, .int .i64 0, .bool false, .bool false] 27 3 rfl).fr c14 id
  have c04 : Calm w w4 := (Fr.alloc (Fr.refl _ w) _).trans c14
  clear c1 c2 c3 c4 c14
  obtain ⟨B, hB⟩ : ∃ B, w.heap.size = B := ⟨_, rfl⟩
  have hBl : Hid (w.heap.size = B) := hB
  rw [hB] at o0 o1 o2 o3 ⊢
  clear hB
  have x0 := o0.1
  have x1 := o1.1
  have x2 := o2.1
  have x3 := o3.1
  have y0 := o0.2
  have y1 := o1.2
  have y2 := o2.2
  have y3 := o3.2
  go_wp2_with fail
  clear x0 x1 x2 x3 y0 y1 y2 y3
  obtain ⟨s0, s1, s2, s3, sf⟩ := own_set4 o0 o1 o2 o3 (.int .i64 p) (.int .i64 d) (.bool b1) (.bool b2)
  obtain ⟨w5, hw5⟩ : ∃ w5, ((((w4.setCell ⟨B, 0, none⟩ (.int .i64 p)).setCell ⟨B, 1, none⟩ (.int .i64 d)).setCell ⟨B, 2, none⟩ (.bool b1)).setCell ⟨B, 3, none⟩ (.bool b2)) = w5 := ⟨_, rfl⟩
  rw [hw5] at s0 s1 s2 s3 sf ⊢
  clear hw5 o0 o1 o2 o3
  have c05 : Calm w w5 := c04.join sf (by have := hBl.out; intro k h1 h2; omega)
  clear c04 sf
  refine (has_any W hW 11 (by decide) (by decide) _).mono ?_
  rintro e w6 ⟨rfl, c6⟩
  rw [show Int.toNat 11 = 11 from rfl, H3.out]
  have c06 := c05.trans c6
  replace s0 := s0.fr c6 id
  replace s1 := s1.fr c6 id
  replace s2 := s2.fr c6 id
  replace s3 := s3.fr c6 id
  clear c05 c6
  have x0 := s0.1
  have x1 := s1.1
  have x2 := s2.1
  have x3 := s3.1
  go_wp2_with fail
  clear x0 x1 x2 x3
  refine (head_yes p d b1 b2 b3 HO.out _).mono ?_
  rintro e w7 ⟨rfl, c7⟩
  rw [HE.out]
  have c07 := c06.trans c7
  replace s0 := s0.fr c7 id
  replace s1 := s1.fr c7 id
  replace s2 := s2.fr c7 id
  replace s3 := s3.fr c7 id
  clear c06 c7
  have x0 := s0.1
  have x1 := s1.1
  have x2 := s2.1
  have x3 := s3.1
  have y0 := s0.2
  have y1 := s1.2
  have y2 := s2.2
  have y3 := s3.2
  go_wp2
  obtain ⟨t0, t1, t2, t3, tf⟩ := own_set4 s0 s1 s2 s3 (.int .i64 0) (.int .i64 0) (.bool false) (.bool false)
  have c08 : Calm w _ := c07.join tf (by have := hBl.out; intro k h1 h2; omega)
  refine bodyPost_ret (v := .tuple #[shV 0 0 false false, .bool false, .bool false]) ?_ rfl ⟨rfl, c08⟩
  simp [results, Try.f33, go_sem, t0.1, t1.1, t2.1, t3.1]

set_option maxHeartbeats 1000000 in
theorem shape_core_bad (W : Nat) (hW : W < 18446744073709551616) (w : World) (b1 b2 b3 : Bool) (p d : Nat) (hp : gt W 1 4 = p) (hd' : gt W 5 4 = d) (h1 : (gt W 9 1 == 1) = b1) (h2 : (gt W 10 1 == 1) = b2) (h3 : (gt W 11 1 == 1) = b3)
    (hok : badS p d b1 b2) :
    Calls Try.prog 33 #[wV W] w fun e w' => e = .returned (.tuple #[shV 0 0 false false, .bool false, .bool false]) ∧ Calm w w' := by
  have HO : Hid (badS p d b1 b2) := hok
  clear hok
  have HP : Hid (gt W 1 4 = p) := hp
  have HD : Hid (gt W 5 4 = d) := hd'
  have H1 : Hid ((gt W 9 1 == 1) = b1) := h1
  have H2 : Hid ((gt W 10 1 == 1) = b2) := h2
  have H3 : Hid ((gt W 11 1 == 1) = b3) := h3
  clear hp hd' h1 h2 h3
  go_enter Try.func33, Try.ntmps33
  go_wp2_with fail
  refine (count_any W hW 1 (by decide) (by decide) _).mono ?_
  rintro e w1 ⟨rfl, c1⟩
  rw [show Int.toNat 1 = 1 from rfl, HP.out]
  go_wp2_with fail
  refine (count_any W hW 5 (by decide) (by decide) _).mono ?_
  rintro e w2 ⟨rfl, c2⟩
  rw [show Int.toNat 5 = 5 from rfl, HD.out]
  go_wp2_with fail
  refine (has_any W hW 9 (by decide) (by decide) _).mono ?_
  rintro e w3 ⟨rfl, c3⟩
  rw [show Int.toNat 9 = 9 from rfl, H1.out]
  go_wp2_with fail
  refine (has_any W hW 10 (by decide) (by decide) _).mono ?_
  rintro e w4 ⟨rfl, c4⟩
  rw [show Int.toNat 10 = 10 from rfl, H2.out]
  have c14 := ((c1.trans c2).trans c3).trans c4
  have o0 := (Own.new w #[.int .i64 0, .int .i64 0, .bool false, .bool false] 27 0 rfl).fr c14 id
  have o1 := (Own.new w #[.int .i64 0, .int .i64 0, .bool false, .bool false] 27 1 rfl).fr c14 id
  have o2 := (Own.new w #[.int .i64 0, .int .i64 0, .bool false, .bool false] 27 2 rfl).fr c14 id
  have o3 := (Own.new w #[.int .i64 0, .int .i64 0, .bool false, .bool false] 27 3 rfl).fr c14 id
  have c04 : Calm w w4 := (Fr.alloc (Fr.refl _ w) _).trans c14
  clear c1 c2 c3 c4 c14
  obtain ⟨B, hB⟩ : ∃ B, w.heap.size = B := ⟨_, rfl⟩
  have hBl : Hid (w.heap.size = B) := hB
  rw [hB] at o0 o1 o2 o3 ⊢
  clear hB
  have x0 := o0.1
  have x1 := o1.1
  have x2 := o2.1
  have x3 := o3.1
  have y0 := o0.2
  have y1 := o1.2
  have y2 := o2.2
  have y3 := o3.2
  go_wp2_with fail
  clear x0 x1 x2 x3 y0 y1 y2 y3
  obtain ⟨s0, s1, s2, s3, sf⟩ := own_set4 o0 o1 o2 o3 (.int .i64 p) (.int .i64 d) (.bool b1) (.bool b2)
  obtain ⟨w5, hw5⟩ : ∃ w5, ((((w4.setCell ⟨B, 0, none⟩ (.int .i64 p)).setCell ⟨B, 1, none⟩ (.int .i64 d)).setCell ⟨B, 2, none⟩ (.bool b1)).setCell ⟨B, 3, none⟩ (.bool b2)) = w5 := ⟨_, rfl⟩
  rw [hw5] at s0 s1 s2 s3 sf ⊢
  clear hw5 o0 o1 o2 o3
  have c05 : Calm w w5 := c04.join sf (by have := hBl.out; intro k h1 h2; omega)
  clear c04 sf
  refine (has_any W hW 11 (by decide) (by decide) _).mono ?_
  rintro e w6 ⟨rfl, c6⟩
  rw [show Int.toNat 11 = 11 from rfl, H3.out]
  have c06 := c05.trans c6
  replace s0 := s0.fr c6 id
  replace s1 := s1.fr c6 id
  replace s2 := s2.fr c6 id
  replace s3 := s3.fr c6 id
  clear c05 c6
  have x0 := s0.1
  have x1 := s1.1
  have x2 := s2.1
  have x3 := s3.1
  go_wp2_with fail
  clear x0 x1 x2 x3
  refine (head_no p d b1 b2 b3 HO.out _).mono ?_
  rintro e w7 ⟨rfl, c7⟩
  have c07 := c06.trans c7
  replace s0 := s0.fr c7 id
  replace s1 := s1.fr c7 id
  replace s2 := s2.fr c7 id
  replace s3 := s3.fr c7 id
  clear c06 c7
  have x0 := s0.1
  have x1 := s1.1
  have x2 := s2.1
  have x3 := s3.1
  have y0 := s0.2
  have y1 := s1.2
  have y2 := s2.2
  have y3 := s3.2
  go_wp2
  obtain ⟨t0, t1, t2, t3, tf⟩ := own_set4 s0 s1 s2 s3 (.int .i64 0) (.int .i64 0) (.bool false) (.bool false)
  have c08 : Calm w _ := c07.join tf (by have := hBl.out; intro k h1 h2; omega)
  refine bodyPost_ret (v := .tuple #[shV 0 0 false false, .bool false, .bool false]) ?_ rfl ⟨rfl, c08⟩
  simp [results, Try.f33, go_sem, t0.1, t1.1, t2.1, t3.1]

/-- A head is read as what it was made of. -/
theorem shape_yes (p d : Nat) (wk fn fr : Bool) (h : okS p d wk fn) (w : World) :
    Calls Try.prog 33 #[wV (hd p d wk fn fr)] w fun e w' => e = .returned (.tuple #[shV p d wk fn, .bool fr, .bool true]) ∧ Calm w w' := by
  obtain ⟨a1, a2, a3, a4, a5⟩ := gt_hd (fr := fr) h
  have := hd_lt (fr := fr) h
  exact shape_core_yes _ (by omega) w wk fn fr p d a1 a2 (bit_of a3) (bit_of a4) (bit_of a5) h rfl

/-- A word that is no head is none. -/
theorem shape_no (W : Nat) (hW : W < 18446744073709551616) (h : ∀ p d wk fn fr, ¬ isHead W p d wk fn fr) (w : World) :
    Calls Try.prog 33 #[wV W] w fun e w' => e = .returned (.tuple #[shV 0 0 false false, .bool false, .bool false]) ∧ Calm w w' := by
  by_cases hok : okS (gt W 1 4) (gt W 5 4) (gt W 9 1 == 1) (gt W 10 1 == 1)
  · exact shape_core_ne W hW w _ _ _ _ _ rfl rfl rfl rfl rfl hok (fun e => h _ _ _ _ _ ⟨hok, e⟩)
  · refine shape_core_bad W hW w _ _ _ _ _ rfl rfl rfl rfl rfl ?_
    unfold okS at hok
    unfold badS
    rcases Nat.lt_or_ge 8 (gt W 1 4) with x | x
    · right; left; omega
    rcases Nat.lt_or_ge 8 (gt W 5 4) with y | y
    · right; right; right; left; omega
    right; right; right; right
    by_cases hw : (gt W 9 1 == 1) = true
    · refine ⟨hw, ?_⟩
      by_cases hp : gt W 1 4 = 1
      · by_cases hd : gt W 5 4 = 0
        · right; right
          cases hf : (gt W 10 1 == 1) with
          | true => rfl
          | false => exact absurd ⟨x, y, fun _ => ⟨hp, hd, hf⟩⟩ hok
        · right; left; omega
      · left; omega
    · exact absurd ⟨x, y, fun hh => absurd hh hw⟩ hok

end Go.Proofs.Ytoonimdohkbfgaa

namespace Go.Proofs.Ytoonimdohkbfgaa
open Go.RowKit Go.Shelf

theorem pick06 (c n : Int) (w : World) (hc : I64 c) (hn : 0 < n) :
    Calls Try.prog 48 #[.int .i64 c, .int .i64 n] w fun e w' => e = .returned (.int .i64 (pk c n)) ∧ w = w' := by
  obtain ⟨h1, h2⟩ := hc
  have hn0 : (n == 0) = false := by simp; omega
  by_cases h : c < 0
  · have h0 : 0 ≤ -(c + 1) := by omega
    have hp : Hid (pk c n = (-(c + 1)) % n) := by unfold pk; rw [if_pos h]; rfl
    go_enter Try.func48, Try.ntmps48
    go_wp2
    go_ret
    refine ⟨?_, rfl⟩
    show Ending.returned (.int .i64 (-(Int.tmod (c + 1) n))) = _
    rw [hp.out, ← Int.neg_tmod, Int.tmod_eq_emod_of_nonneg h0]
  · have h0 : 0 ≤ c := by omega
    have hp : Hid (pk c n = c % n) := by unfold pk; rw [if_neg h]; rfl
    go_enter Try.func48, Try.ntmps48
    go_wp2
    go_ret
    exact ⟨by rw [hp.out]; rfl, rfl⟩

/-- A raw shape is a right one. -/
def FitPost (w : World) (e : Ending) (w' : World) : Prop := ∃ (p d : Nat) (wk fn : Bool), okS p d wk fn ∧ e = .returned (shV p d wk fn) ∧ Calm w w'

set_option maxHeartbeats 400000 in
theorem fit06 (a b c : Int) (ha : I64 a) (hb : I64 b) (hc : I64 c) (w : World) :
    Calls Try.prog 25 #[.int .i64 a, .int .i64 b, .int .i64 c] w (FitPost w) := by
  have ra := pk_range a (n := 9) (by omega)
  have rb := pk_range b (n := 9) (by omega)
  have rc := pk_range c (n := 5) (by omega)
  obtain ⟨x, hx⟩ : ∃ x, pk a 9 = x := ⟨_, rfl⟩
  obtain ⟨y, hy⟩ : ∃ y, pk b 9 = y := ⟨_, rfl⟩
  obtain ⟨z, hz⟩ : ∃ z, pk c 5 = z := ⟨_, rfl⟩
  rw [hx] at ra
  rw [hy] at rb
  rw [hz] at rc
  have HX : Hid (pk a 9 = x) := hx
  have HY : Hid (pk b 9 = y) := hy
  have HZ : Hid (pk c 5 = z) := hz
  clear hx hy hz
  obtain ⟨x1, x2⟩ := ra
  obtain ⟨y1, y2⟩ := rb
  obtain ⟨X, rfl⟩ := Int.eq_ofNat_of_zero_le x1
  obtain ⟨Y, rfl⟩ := Int.eq_ofNat_of_zero_le y1
  by_cases h4 : z = 4
  · subst h4
    go_enter Try.func25, Try.ntmps25
    go_wp2_with fail
    refine (pick06 c 5 _ hc (by omega)).mono ?_
    rintro e w' ⟨rfl, rfl⟩
    rw [HZ.out]
    go_wp2
    refine bodyPost_ret (v := shV 1 0 true false) (by simp [results, Try.f25, go_sem]) rfl ⟨1, 0, true, false, ⟨by decide, by decide, fun _ => ⟨rfl, rfl, rfl⟩⟩, rfl, ?_⟩
    exact Fr.alloc (Fr.refl _ _) _
  · have hz4 : (z == 4) = false := by simpa using h4
    go_enter Try.func25, Try.ntmps25
    go_wp2_with fail
    refine (pick06 c 5 _ hc (by omega)).mono ?_
    rintro e w' ⟨rfl, rfl⟩
    rw [HZ.out]
    go_wp2_with fail
    refine (pick06 a 9 _ ha (by omega)).mono ?_
    rintro e w' ⟨rfl, rfl⟩
    rw [HX.out]
    go_wp2_with fail
    refine (pick06 b 9 _ hb (by omega)).mono ?_
    rintro e w' ⟨rfl, rfl⟩
    rw [HY.out]
    go_wp2_with fail
    refine (pick06 c 5 _ hc (by omega)).mono ?_
    rintro e w' ⟨rfl, rfl⟩
    rw [HZ.out]
    go_wp2
    refine bodyPost_ret (v := shV X Y false (z == 3)) (by simp [results, Try.f25, go_sem]) rfl ⟨X, Y, false, z == 3, ⟨by omega, by omega, fun h => by cases h⟩, rfl, ?_⟩
    exact Fr.alloc (Fr.refl _ _) _


end Go.Proofs.Ytoonimdohkbfgaa

namespace Go.Proofs.Ytoonimdohkbfgaa
open Go.RowKit Go.Shelf

/-- What shape a raw one is. -/
def IsFit (a b c : Int) (p d : Nat) (wk fn : Bool) : Prop :=
  (pk c 5 = 4 ∧ p = 1 ∧ d = 0 ∧ wk = true ∧ fn = false) ∨ (pk c 5 ≠ 4 ∧ p = (pk a 9).toNat ∧ d = (pk b 9).toNat ∧ wk = false ∧ fn = (pk c 5 == 3))
theorem IsFit.eq {a b c : Int} {p d p' d' : Nat} {wk fn wk' fn' : Bool} (h : IsFit a b c p d wk fn) (h' : IsFit a b c p' d' wk' fn') : p = p' ∧ d = d' ∧ wk = wk' ∧ fn = fn' := by
  rcases h with ⟨h0, h1, h2, h3, h4⟩ | ⟨h0, h1, h2, h3, h4⟩ <;> rcases h' with ⟨k0, k1, k2, k3, k4⟩ | ⟨k0, k1, k2, k3, k4⟩
  · exact ⟨h1.trans k1.symm, h2.trans k2.symm, h3.trans k3.symm, h4.trans k4.symm⟩
  · exact absurd h0 k0
  · exact absurd k0 h0
  · exact ⟨h1.trans k1.symm, h2.trans k2.symm, h3.trans k3.symm, h4.trans k4.symm⟩
def FitD (a b c : Int) (w : World) (e : Ending) (w' : World) : Prop := ∃ (p d : Nat) (wk fn : Bool), okS p d wk fn ∧ e = .returned (shV p d wk fn) ∧ Calm w w' ∧ IsFit a b c p d wk fn

set_option maxHeartbeats 400000 in
theorem fit06d (a b c : Int) (ha : I64 a) (hb : I64 b) (hc : I64 c) (w : World) :
    Calls Try.prog 25 #[.int .i64 a, .int .i64 b, .int .i64 c] w (FitD a b c w) := by
  have ra := pk_range a (n := 9) (by omega)
  have rb := pk_range b (n := 9) (by omega)
  have rc := pk_range c (n := 5) (by omega)
  obtain ⟨x, hx⟩ : ∃ x, pk a 9 = x := ⟨_, rfl⟩
  obtain ⟨y, hy⟩ : ∃ y, pk b 9 = y := ⟨_, rfl⟩
  obtain ⟨z, hz⟩ : ∃ z, pk c 5 = z := ⟨_, rfl⟩
  rw [hx] at ra
  rw [hy] at rb
  rw [hz] at rc
  have HX : Hid (pk a 9 = x) := hx
  have HY : Hid (pk b 9 = y) := hy
  have HZ : Hid (pk c 5 = z) := hz
  clear hx hy hz
  obtain ⟨x1, x2⟩ := ra
  obtain ⟨y1, y2⟩ := rb
  obtain ⟨X, rfl⟩ := Int.eq_ofNat_of_zero_le x1
  obtain ⟨Y, rfl⟩ := Int.eq_ofNat_of_zero_le y1
  by_cases h4 : z = 4
  · subst h4
    go_enter Try.func25, Try.ntmps25
    go_wp2_with fail
    refine (pick06 c 5 _ hc (by omega)).mono ?_
    rintro e w' ⟨rfl, rfl⟩
    rw [HZ.out]
    go_wp2
    refine bodyPost_ret (v := shV 1 0 true false) (by simp [results, Try.f25, go_sem]) rfl ⟨1, 0, true, false, ⟨by decide, by decide, fun _ => ⟨rfl, rfl, rfl⟩⟩, rfl, Fr.alloc (Fr.refl _ _) _, .inl ⟨HZ.out, rfl, rfl, rfl, rfl⟩⟩
  · have hz4 : (z == 4) = false := by simpa using h4
    go_enter Try.func25, Try.ntmps25
    go_wp2_with fail
    refine (pick06 c 5 _ hc (by omega)).mono ?_
    rintro e w' ⟨rfl, rfl⟩
    rw [HZ.out]
    go_wp2_with fail
    refine (pick06 a 9 _ ha (by omega)).mono ?_
    rintro e w' ⟨rfl, rfl⟩
    rw [HX.out]
    go_wp2_with fail
    refine (pick06 b 9 _ hb (by omega)).mono ?_
    rintro e w' ⟨rfl, rfl⟩
    rw [HY.out]
    go_wp2_with fail
    refine (pick06 c 5 _ hc (by omega)).mono ?_
    rintro e w' ⟨rfl, rfl⟩
    rw [HZ.out]
    go_wp2
    refine bodyPost_ret (v := shV X Y false (z == 3)) (by simp [results, Try.f25, go_sem]) rfl ⟨X, Y, false, z == 3, ⟨by omega, by omega, fun h => by cases h⟩, rfl, Fr.alloc (Fr.refl _ _) _, .inr ⟨by rw [HZ.out]; exact h4, by rw [HX.out]; rfl, by rw [HY.out]; rfl, rfl, by rw [HZ.out]⟩⟩

end Go.Proofs.Ytoonimdohkbfgaa
