/- Header words, as plain numbers. -/
import Derived.Test.YtiomemdmhcdpbaaWord
set_option linter.unusedSimpArgs false
set_option linter.unusedVariables false
namespace Go.Proofs.Ytiomemdmhcdpbaa

/-- An object's first word. -/
def hd (p d : Nat) (wk fn fr : Bool) : Nat := 1 + p * 2 + d * 32 + wk.toNat * 512 + fn.toNat * 1024 + fr.toNat * 2048
/-- A shape may be. -/
def okS (p d : Nat) (wk fn : Bool) : Prop := p ≤ 8 ∧ d ≤ 8 ∧ (wk = true → p = 1 ∧ d = 0 ∧ fn = false)

theorem or_add {a b k : Nat} (ha : a < 2 ^ k) (h : a + b * 2 ^ k < 18446744073709551616) : bits .or .u64 (a : Int) ((b * 2 ^ k : Nat) : Int) = ((a + b * 2 ^ k : Nat) : Int) := by
  rw [u64_or_nat a (b * 2 ^ k) (by omega) (by omega)]
  congr 1
  have := Nat.shiftLeft_add_eq_or_of_lt ha b
  rw [Nat.shiftLeft_eq] at this
  rw [Nat.or_comm, ← this, Nat.add_comm]

theorem hd_lt {p d : Nat} {wk fn fr : Bool} (h : okS p d wk fn) : hd p d wk fn fr < 4096 := by
  obtain ⟨h1, h2, h3⟩ := h
  unfold hd
  have := Bool.toNat_le wk; have := Bool.toNat_le fn; have := Bool.toNat_le fr
  omega

theorem bit_of {b : Bool} {W k : Nat} (h : gt W k 1 = b.toNat) : (gt W k 1 == 1) = b := by
  rw [h]; cases b <;> rfl

theorem gt_hd {p d : Nat} {wk fn fr : Bool} (h : okS p d wk fn) :
    gt (hd p d wk fn fr) 1 4 = p ∧ gt (hd p d wk fn fr) 5 4 = d ∧ gt (hd p d wk fn fr) 9 1 = wk.toNat ∧ gt (hd p d wk fn fr) 10 1 = fn.toNat ∧ gt (hd p d wk fn fr) 11 1 = fr.toNat := by
  obtain ⟨h1, h2, h3⟩ := h
  unfold gt hd
  have := Bool.toNat_le wk; have := Bool.toNat_le fn; have := Bool.toNat_le fr
  omega

theorem hd_inj {p d p' d' : Nat} {wk fn fr wk' fn' fr' : Bool} (h : okS p d wk fn) (h' : okS p' d' wk' fn') (e : hd p d wk fn fr = hd p' d' wk' fn' fr') : p = p' ∧ d = d' ∧ wk = wk' ∧ fn = fn' ∧ fr = fr' := by
  obtain ⟨a1, a2, a3, a4, a5⟩ := gt_hd (fr := fr) h
  obtain ⟨b1, b2, b3, b4, b5⟩ := gt_hd (fr := fr') h'
  rw [e] at a1 a2 a3 a4 a5
  have inj : ∀ a b : Bool, a.toNat = b.toNat → a = b := by decide
  exact ⟨a1.symm.trans b1, a2.symm.trans b2, inj _ _ (a3.symm.trans b3), inj _ _ (a4.symm.trans b4), inj _ _ (a5.symm.trans b5)⟩

theorem hd_bits {p d : Nat} {wk fn fr : Bool} (h1 : p ≤ 8) (h2 : d ≤ 8) :
    bits .or .u64 (bits .or .u64 (bits .or .u64 (bits .or .u64 (bits .or .u64 1 ((p : Int) * 2)) ((d : Int) * 32)) ((wk.toNat : Int) * 512)) ((fn.toNat : Int) * 1024)) ((fr.toNat : Int) * 2048) = (hd p d wk fn fr : Nat) := by
  have t1 := Bool.toNat_le wk
  have t2 := Bool.toNat_le fn
  have t3 := Bool.toNat_le fr
  have e1 := or_add (a := 1) (b := p) (k := 1) (by decide) (by omega)
  have e2 := or_add (a := 1 + p * 2 ^ 1) (b := d) (k := 5) (by omega) (by omega)
  have e3 := or_add (a := 1 + p * 2 ^ 1 + d * 2 ^ 5) (b := wk.toNat) (k := 9) (by omega) (by omega)
  have e4 := or_add (a := 1 + p * 2 ^ 1 + d * 2 ^ 5 + wk.toNat * 2 ^ 9) (b := fn.toNat) (k := 10) (by omega) (by omega)
  have e5 := or_add (a := 1 + p * 2 ^ 1 + d * 2 ^ 5 + wk.toNat * 2 ^ 9 + fn.toNat * 2 ^ 10) (b := fr.toNat) (k := 11) (by omega) (by omega)
  have c1 : (p : Int) * 2 = ((p * 2 ^ 1 : Nat) : Int) := by omega
  have c2 : (d : Int) * 32 = ((d * 2 ^ 5 : Nat) : Int) := by omega
  have c3 : (wk.toNat : Int) * 512 = ((wk.toNat * 2 ^ 9 : Nat) : Int) := by omega
  have c4 : (fn.toNat : Int) * 1024 = ((fn.toNat * 2 ^ 10 : Nat) : Int) := by omega
  have c5 : (fr.toNat : Int) * 2048 = ((fr.toNat * 2 ^ 11 : Nat) : Int) := by omega
  rw [c1, c2, c3, c4, c5, show (1 : Int) = ((1 : Nat) : Int) from rfl, e1, e2, e3, e4, e5]
  rfl

/-- A word is the first one of an object of that shape. -/
def isHead (W p d : Nat) (wk fn fr : Bool) : Prop := okS p d wk fn ∧ hd p d wk fn fr = W

theorem isHead_odd {W p d : Nat} {wk fn fr : Bool} (h : isHead W p d wk fn fr) : W % 2 = 1 := by
  obtain ⟨_, rfl⟩ := h; unfold hd; omega

end Go.Proofs.Ytiomemdmhcdpbaa
