/- More of package word: Set, Zig, Zag. -/
import Derived.Test.YtlocklcldalklaaWord
import Derived.Test.YtlocklcldalklaaWord2
set_option linter.unusedSimpArgs false
set_option linter.unusedVariables false
namespace Go.Proofs.Ytlocklcldalklaa
open Go.RowKit Go.Shelf

theorem set_yes (W v : Nat) (hW : W < 18446744073709551616) (s wd : Int) (w : World) (h1 : 0 ≤ s) (h2 : 1 ≤ wd) (h3 : s + wd ≤ 64) (hv : v < 2 ^ wd.toNat) :
    Calls Try.prog 13 #[wV W, partV s wd, wV v] w fun e w' => e = .returned (.tuple #[wV (st W s.toNat wd.toNat v), .bool true]) ∧ Calm w w' := by
  have hv6 : v < 18446744073709551616 := Nat.lt_of_lt_of_le hv (by rw [← two64]; exact pow_le (by omega))
  go_enter Try.func13, Try.ntmps13
  go_wp2_with fail
  have b1 := ((Own.new w #[.int .i64 s, .int .i64 wd] 26 0 rfl).1)
  have b2 := ((Own.new w #[.int .i64 s, .int .i64 wd] 26 1 rfl).1)
  have k0 : Calm w (w.alloc (.cells #[.int .i64 s, .int .i64 wd] 26)) := Fr.alloc (Fr.refl _ _) _
  have hB : w.heap.size < (w.alloc (.cells #[.int .i64 s, .int .i64 wd] 26)).heap.size := by simp [go_sem]
  generalize (w.alloc (.cells #[.int .i64 s, .int .i64 wd] 26)) = W1 at *
  have q1 : ∀ x : Later W1, x.w.cell? ⟨w.heap.size, 0, none⟩ = some (.int .i64 s) := fun x => x.cell b1
  have q2 : ∀ x : Later W1, x.w.cell? ⟨w.heap.size, 1, none⟩ = some (.int .i64 wd) := fun x => x.cell b2
  have g1 : decide ((Lib.bitLen v : Int) > wd) = false := by
    have := Lib.bitLen_le v wd.toNat (by omega) hv
    exact decide_eq_false (by omega)
  have g2 : (W : Int) = ((W : Nat) : Int) := rfl
  refine wp_region_calm (by kernel_rfl) (by kernel_rfl) ?_
  repeat (go_big_quiet_step (first
    | (go_at_call 22; exact Calls.calm_of (right_yes s wd _ h1 h2 h3))
    | (go_at_call 23; exact Calls.calm_of ((len64_any (v : Int) _ (by omega) (by omega)).mono (by rintro e w' ⟨rfl, rfl⟩; exact ⟨rfl, Fr.refl _ _⟩)))))
  refine wpQuiet_nil ?_
  intro w2 hw'
  have c2 := Later.out hw'
  clear hw'
  replace b1 := Fr.cellAt c2 b1 id
  replace b2 := Fr.cellAt c2 b2 id
  go_wp2_with fail
  clear g2 g1 q1 q2
  have q1 : ∀ x : Later w2, x.w.cell? ⟨w.heap.size, 0, none⟩ = some (.int .i64 s) := fun x => x.cell b1
  have q2 : ∀ x : Later w2, x.w.cell? ⟨w.heap.size, 1, none⟩ = some (.int .i64 wd) := fun x => x.cell b2
  have a3 : s ≤ 64 := by omega
  refine wp_region_calm (by kernel_rfl) (by kernel_rfl) ?_
  repeat (go_big_quiet_step ((go_at_call 12; exact Calls.calm_of (mask_yes s wd _ h1 h2 h3))))
  refine wpQuiet_nil ?_
  intro w3 hw'
  have c3 := Later.out hw'
  clear hw'
  obtain ⟨S, rfl⟩ := Int.eq_ofNat_of_zero_le h1
  obtain ⟨D, rfl⟩ := Int.eq_ofNat_of_zero_le (show 0 ≤ wd by omega)
  rw [Int.toNat_natCast, Int.toNat_natCast]
  rw [Int.toNat_natCast] at hv
  have e := set_eq (s := S) (d := D) (by omega) hW hv
  go_wp2
  refine bodyPost_ret (v := .tuple #[wV (st W S D v), .bool true]) (by simp [results, Try.f13, go_sem, e]) rfl ⟨rfl, (k0.trans c2).trans c3⟩

theorem zig_is (n : Int) (w : World) (hn : I64 n) :
    Calls Try.prog 21 #[.int .i64 n] w fun e w' => e = .returned (.int .u64 (if 0 ≤ n then 2 * n else -2 * n - 1)) ∧ Calm w w' := by
  obtain ⟨hn1, hn2⟩ := hn
  go_enter Try.func21, Try.ntmps21
  go_wp2
  · go_ret
    exact ⟨by rw [Int.mul_comm]; rfl, Fr.refl _ _⟩
  · go_ret
    refine ⟨?_, Fr.refl _ _⟩
    obtain ⟨m, hm⟩ := Int.eq_ofNat_of_zero_le (show 0 ≤ -(n + 1) by omega)
    rw [hm]
    have hm' : m < 9223372036854775808 := by omega
    have e := u64_or_nat (m * 2) 1 (by omega) (by omega)
    have e2 : m * 2 ||| 1 = m * 2 + 1 := by
      rw [Nat.mul_comm]; exact (Nat.two_pow_add_eq_or_of_lt (i := 1) (by omega : 1 < 2 ^ 1) m).symm
    rw [e2] at e
    have e3 : ((m : Int) * 2) = ((m * 2 : Nat) : Int) := by push_cast; rfl
    rw [e3]
    refine congrArg (fun x => Ending.returned (.int .u64 x)) (Eq.trans e ?_)
    omega

theorem and_one (W : Nat) (hW : W < 18446744073709551616) : bits .and .u64 (W : Int) 1 = ((W % 2 : Nat) : Int) := by
  have := u64_and_nat W 1 hW (by omega)
  rw [Nat.and_one_is_mod] at this
  exact this

theorem zag_is (W : Nat) (w : World) (hW : W < 18446744073709551616) :
    Calls Try.prog 20 #[wV W] w fun e w' => e = .returned (.int .i64 (if W % 2 = 1 then -((W / 2 : Nat) : Int) - 1 else (W / 2 : Nat))) ∧ Calm w w' := by
  have h1 := and_one W hW
  go_enter Try.func20, Try.ntmps20
  go_wp2
  all_goals (first | (go_ret; exact ⟨rfl, Fr.refl _ _⟩) | (exfalso; rename_i hh; simp at hh; omega))

end Go.Proofs.Ytlocklcldalklaa
