/- Zig, Zag, in a seat without Set. -/
import Derived.Test.YtiomemdmhcdpbaaWord
set_option linter.unusedSimpArgs false
set_option linter.unusedVariables false
namespace Go.Proofs.Ytiomemdmhcdpbaa
open Go.RowKit Go.Shelf

theorem zig_is (n : Int) (w : World) (hn : I64 n) :
    Calls Try.prog 105 #[.int .i64 n] w fun e w' => e = .returned (.int .u64 (if 0 ≤ n then 2 * n else -2 * n - 1)) ∧ Calm w w' := by
  obtain ⟨hn1, hn2⟩ := hn
  go_enter Try.func105, Try.ntmps105
  go_wp2
  · go_ret
    exact ⟨by rw [Int.mul_comm]; rfl, Fr.refl _ _⟩
  · go_ret
    refine ⟨?_, Fr.refl _ _⟩
    obtain ⟨m, hm⟩ := Int.eq_ofNat_of_zero_le (show 0 ≤ -(n + 1) by omega)
    rw [hm]
    have hm' : m < 9223372036854775808 := by omega
    have e := u64_or_nat (m * 2) 1 (by omega) (by omega)
    have e2 : m * 2 ||| 1 = m * 2 + 1 := by
      rw [Nat.mul_comm]; exact (Nat.two_pow_add_eq_or_of_lt (i := 1) (by omega : 1 < 2 ^ 1) m).symm
    rw [e2] at e
    have e3 : ((m : Int) * 2) = ((m * 2 : Nat) : Int) := by push_cast; rfl
    rw [e3]
    refine congrArg (fun x => Ending.returned (.int .u64 x)) (Eq.trans e ?_)
    omega

theorem and_one (W : Nat) (hW : W < 18446744073709551616) : bits .and .u64 (W : Int) 1 = ((W % 2 : Nat) : Int) := by
  have := u64_and_nat W 1 hW (by omega)
  rw [Nat.and_one_is_mod] at this
  exact this

theorem zag_is (W : Nat) (w : World) (hW : W < 18446744073709551616) :
    Calls Try.prog 104 #[wV W] w fun e w' => e = .returned (.int .i64 (if W % 2 = 1 then -((W / 2 : Nat) : Int) - 1 else (W / 2 : Nat))) ∧ Calm w w' := by
  have h1 := and_one W hW
  go_enter Try.func104, Try.ntmps104
  go_wp2
  all_goals (first | (go_ret; exact ⟨rfl, Fr.refl _ _⟩) | (exfalso; rename_i hh; simp at hh; omega))

def zg (n : Int) : Nat := if 0 ≤ n then 2 * n.toNat else 2 * (-n - 1).toNat + 1
def zt (W : Nat) : Int := if W % 2 = 1 then -((W / 2 : Nat) : Int) - 1 else (W / 2 : Nat)

theorem zig_yes (n : Int) (w : World) (hn : I64 n) :
    Calls Try.prog 105 #[.int .i64 n] w fun e w' => e = .returned (wV (zg n)) ∧ Calm w w' := by
  refine (zig_is n w hn).mono ?_
  rintro e w' ⟨rfl, c⟩
  refine ⟨congrArg (fun x => Ending.returned (.int .u64 x)) ?_, c⟩
  unfold zg
  split <;> omega

theorem zag_yes (W : Nat) (w : World) (hW : W < 18446744073709551616) :
    Calls Try.prog 104 #[wV W] w fun e w' => e = .returned (.int .i64 (zt W)) ∧ Calm w w' := zag_is W w hW

theorem zg_lt {n : Int} (h : I64 n) : zg n < 18446744073709551616 := by
  obtain ⟨h1, h2⟩ := h
  unfold zg; split <;> omega
theorem zt_ok {W : Nat} (h : W < 18446744073709551616) : I64 (zt W) := by
  unfold zt; split <;> constructor <;> omega
theorem zt_zg (n : Int) : zt (zg n) = n := by
  unfold zt zg; split <;> split <;> omega
theorem zg_zt (W : Nat) : zg (zt W) = W := by
  unfold zt zg; split <;> split <;> omega

end Go.Proofs.Ytiomemdmhcdpbaa
