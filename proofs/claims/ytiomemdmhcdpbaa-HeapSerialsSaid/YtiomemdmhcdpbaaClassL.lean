/- The sizes of class, as plain numbers. -/
import Derived.WalkKit
set_option linter.unusedSimpArgs false
set_option linter.unusedVariables false
namespace Go.Proofs.Ytiomemdmhcdpbaa

/-- The size at a place: 4, 6, 8, 12, .. -/
def sz : Nat → Int
  | 0 => 4
  | 1 => 6
  | k + 2 => 2 * sz k

theorem sz_step (k : Nat) : sz (k + 2) = 2 * sz k := rfl

theorem sz_lt (k : Nat) : sz k < sz (k + 1) ∧ sz (k + 1) < 2 * sz k ∧ 4 ≤ sz k := by
  induction k using Nat.strongRecOn with
  | ind k ih =>
    match k with
    | 0 => decide
    | 1 => decide
    | k + 2 =>
      have h := ih k (by omega)
      have h2 := ih (k + 1) (by omega)
      rw [sz_step k, show sz (k + 2 + 1) = 2 * sz (k + 1) from rfl]
      omega

theorem sz_mono {a b : Nat} (h : a ≤ b) : sz a ≤ sz b := by
  induction b with
  | zero => obtain rfl : a = 0 := by omega
            exact Int.le_refl _
  | succ b ih =>
    by_cases e : a = b + 1
    · rw [e]; exact Int.le_refl _
    · have := ih (by omega); have := sz_lt b; omega

theorem sz_strict {a b : Nat} (h : a < b) : sz a < sz b := by
  have := sz_mono (show a + 1 ≤ b from h); have := sz_lt a; omega

theorem sz_28 : sz 28 = 65536 := by decide
theorem sz_30 : sz 30 = 131072 := by decide

theorem sz_le (k : Nat) (h : k ≤ 30) : 4 ≤ sz k ∧ sz k ≤ 131072 := by
  have := sz_mono h; rw [sz_30] at this; have := sz_lt k; omega

/-- The first place from k on whose size is n or above. -/
def clsFrom (n : Int) : Nat → Nat → Nat
  | 0, k => k
  | f + 1, k => if n ≤ sz k then k else clsFrom n f (k + 1)

def cls (n : Int) : Nat := clsFrom n 28 0

theorem clsFrom_spec (n : Int) : ∀ (f k : Nat), n ≤ sz (k + f) → k ≤ clsFrom n f k ∧ clsFrom n f k ≤ k + f ∧ n ≤ sz (clsFrom n f k) ∧ ∀ j, k ≤ j → j < clsFrom n f k → sz j < n := by
  intro f
  induction f with
  | zero => intro k h; exact ⟨Nat.le_refl _, Nat.le_refl _, h, fun j h1 h2 => by simp [clsFrom] at h2; omega⟩
  | succ f ih =>
    intro k h
    unfold clsFrom
    split
    · rename_i hk; exact ⟨Nat.le_refl _, by omega, hk, fun j h1 h2 => by omega⟩
    · rename_i hk
      obtain ⟨h1, h2, h3, h4⟩ := ih (k + 1) (by rw [show k + 1 + f = k + (f + 1) from by omega]; exact h)
      refine ⟨by omega, by omega, h3, fun j hj1 hj2 => ?_⟩
      by_cases e : j = k
      · subst e; omega
      · exact h4 j (by omega) hj2

theorem cls_spec {n : Int} (h : n ≤ 65536) : cls n ≤ 28 ∧ n ≤ sz (cls n) ∧ ∀ j, j < cls n → sz j < n := by
  obtain ⟨_, h2, h3, h4⟩ := clsFrom_spec n 28 0 (by rw [Nat.zero_add, sz_28]; exact h)
  exact ⟨by rw [Nat.zero_add] at h2; exact h2, h3, fun j hj => h4 j (Nat.zero_le _) hj⟩

theorem cls_eq {n : Int} {k : Nat} (h : n ≤ 65536) (h1 : n ≤ sz k) (h2 : ∀ j, j < k → sz j < n) : cls n = k := by
  obtain ⟨_, a, b⟩ := cls_spec h
  rcases Nat.lt_trichotomy (cls n) k with hlt | heq | hgt
  · have := h2 _ hlt; omega
  · exact heq
  · have := b _ hgt; omega

/-- n rounded. -/
def rnd (n : Int) : Int := sz (cls n)

theorem rnd_spec {n : Int} (h : n ≤ 65536) : n ≤ rnd n ∧ 4 ≤ rnd n ∧ rnd n ≤ 65536 := by
  obtain ⟨a, b, _⟩ := cls_spec h
  have := sz_mono a; rw [sz_28] at this
  exact ⟨b, (sz_le _ (by omega)).1, this⟩

theorem cls_sz {k : Nat} (h : k ≤ 28) : cls (sz k) = k := by
  have := sz_mono h; rw [sz_28] at this
  exact cls_eq this (Int.le_refl _) (fun j hj => sz_strict hj)

theorem cls_mono {a b : Int} (h : a ≤ b) (hb : b ≤ 65536) : cls a ≤ cls b := by
  obtain ⟨_, _, a3⟩ := cls_spec (show a ≤ 65536 by omega)
  obtain ⟨_, b2, _⟩ := cls_spec hb
  rcases Nat.lt_or_ge (cls b) (cls a) with hlt | hge
  · have := a3 _ hlt; omega
  · exact hge

theorem cls_double {m : Int} (h4 : 4 ≤ m) (h : m ≤ 32768) : cls (2 * m) = cls m + 2 := by
  obtain ⟨a1, a2, a3⟩ := cls_spec (show m ≤ 65536 by omega)
  refine cls_eq (by omega) (by rw [sz_step]; omega) (fun j hj => ?_)
  match j, hj with
  | 0, _ => show (4 : Int) < 2 * m; omega
  | 1, _ => show (6 : Int) < 2 * m; omega
  | j + 2, hj => rw [sz_step]; have := a3 j (by omega); omega

theorem cls_next {m : Int} (_h1 : 1 ≤ m) (h : m ≤ 32768) : cls (rnd m + 1) = cls m + 1 := by
  obtain ⟨a1, a2, a3⟩ := cls_spec (show m ≤ 65536 by omega)
  have hs : sz 26 = 32768 := by decide
  have hc : cls m ≤ 26 := by
    rcases Nat.lt_or_ge 26 (cls m) with hlt | hge
    · have := a3 26 hlt; omega
    · exact hge
  have hle := sz_mono hc
  have hl := sz_lt (cls m)
  unfold rnd
  refine cls_eq (by omega) (by omega) (fun j hj => ?_)
  have := sz_mono (show j ≤ cls m by omega)
  omega

theorem sz_next (k : Nat) : 2 * sz (k + 1) = 3 * sz k ∨ 3 * sz (k + 1) = 4 * sz k := by
  induction k using Nat.strongRecOn with
  | ind k ih =>
    match k with
    | 0 => left; decide
    | 1 => right; decide
    | k + 2 =>
      rcases ih k (by omega) with h | h
      · left; rw [sz_step k, show sz (k + 2 + 1) = 2 * sz (k + 1) from rfl]; omega
      · right; rw [sz_step k, show sz (k + 2 + 1) = 2 * sz (k + 1) from rfl]; omega

theorem rnd_waste {m : Int} (h3 : 3 ≤ m) (h : m ≤ 65536) : 2 * rnd m ≤ 3 * m := by
  obtain ⟨a1, a2, a3⟩ := cls_spec h
  unfold rnd
  cases hk : cls m with
  | zero => show 2 * (4 : Int) ≤ 3 * m; omega
  | succ k =>
    have := a3 k (by omega)
    have hl := sz_lt k
    rcases sz_next k with e | e <;> omega

theorem rnd_rnd {m : Int} (h : m ≤ 65536) : rnd (rnd m) = rnd m := by
  unfold rnd; rw [cls_sz (cls_spec h).1]

theorem rnd_mono {a b : Int} (h : a ≤ b) (hb : b ≤ 65536) : rnd a ≤ rnd b := sz_mono (cls_mono h hb)

theorem rnd_small48 {n : Int} (h : n ≤ 48) : rnd n ≤ 48 := by
  have := rnd_mono h (by omega)
  have e : rnd 48 = 48 := by decide
  omega

theorem rnd_eq {a b : Int} : rnd a = rnd b ↔ cls a = cls b := by
  constructor
  · intro h
    rcases Nat.lt_trichotomy (cls a) (cls b) with x | x | x
    · have := sz_strict x; unfold rnd at h; omega
    · exact x
    · have := sz_strict x; unfold rnd at h; omega
  · intro h; unfold rnd; rw [h]

end Go.Proofs.Ytiomemdmhcdpbaa
