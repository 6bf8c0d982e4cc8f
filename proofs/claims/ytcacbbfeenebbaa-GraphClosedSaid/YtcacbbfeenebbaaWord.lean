/- What the functions of package word return, for right parts. -/
import Derived.Test.YtcacbbfeenebbaaRows
import Derived.Test.YtcacbbfeenebbaaKit
import Derived.Test.YtcacbbfeenebbaaBits
set_option linter.unusedSimpArgs false
set_option linter.unusedVariables false
namespace Go.Proofs.Ytcacbbfeenebbaa
open Go.RowKit Go.Shelf

/-- A part, as a value. -/
abbrev partV (s wd : Int) : Value := .agg #[.int .i64 s, .int .i64 wd]
/-- A word, as a value. -/
abbrev wV (n : Nat) : Value := .int .u64 (n : Int)

theorem right_yes (s wd : Int) (w : World) (h1 : 0 ≤ s) (h2 : 1 ≤ wd) (h3 : s + wd ≤ 64) :
    Calls Try.prog 90 #[partV s wd] w fun e w' => e = .returned (.bool true) ∧ Calm w w' := by
  have a1 : s < 64 := by omega
  have a2 : wd ≤ 64 := by omega
  go_enter Try.func90, Try.ntmps90
  go_wp2
  go_ret
  exact ⟨rfl, Fr.alloc (Fr.refl _ _) _⟩

theorem mask_yes (s wd : Int) (w : World) (h1 : 0 ≤ s) (h2 : 1 ≤ wd) (h3 : s + wd ≤ 64) :
    Calls Try.prog 91 #[partV s wd] w fun e w' => e = .returned (wV (mk s.toNat wd.toNat)) ∧ Calm w w' := by
  go_enter Try.func91, Try.ntmps91
  go_wp2_with fail
  refine (right_yes s wd _ h1 h2 h3).mono ?_
  rintro e w1 ⟨rfl, c1⟩
  have b1 := Fr.cellAt c1 ((Own.new w #[.int .i64 s, .int .i64 wd] 142 0 rfl).1) id
  have b2 := Fr.cellAt c1 ((Own.new w #[.int .i64 s, .int .i64 wd] 142 1 rfl).1) id
  have a1 : 0 ≤ 64 - wd := by omega
  have a2 : 64 - wd ≤ 64 := by omega
  have a3 : s ≤ 64 := by omega
  go_wp2_with fail
  go_quiet (fail)
  go_wp2
  go_ret
  refine ⟨?_, (Fr.trans (Fr.alloc (Fr.refl _ _) _) c1).drewN _⟩
  obtain ⟨S, rfl⟩ := Int.eq_ofNat_of_zero_le h1
  obtain ⟨D, rfl⟩ := Int.eq_ofNat_of_zero_le (show 0 ≤ wd by omega)
  have e := mask_eq (s := S) (d := D) (by omega) (by omega)
  rw [show (64 - (D : Int)).toNat = 64 - D from by omega, Int.toNat_natCast, Int.toNat_natCast]
  exact congrArg (fun x => Ending.returned (.int .u64 x)) e

theorem get_yes (W : Nat) (hW : W < 18446744073709551616) (s wd : Int) (w : World) (h1 : 0 ≤ s) (h2 : 1 ≤ wd) (h3 : s + wd ≤ 64) :
    Calls Try.prog 88 #[wV W, partV s wd] w fun e w' => e = .returned (wV (gt W s.toNat wd.toNat)) ∧ Calm w w' := by
  go_enter Try.func88, Try.ntmps88
  go_wp2_with fail
  refine (right_yes s wd _ h1 h2 h3).mono ?_
  rintro e w1 ⟨rfl, c1⟩
  have b1 := Fr.cellAt c1 ((Own.new w #[.int .i64 s, .int .i64 wd] 142 0 rfl).1) id
  have b2 := Fr.cellAt c1 ((Own.new w #[.int .i64 s, .int .i64 wd] 142 1 rfl).1) id
  have a3 : s ≤ 64 := by omega
  have hz := c1.size
  go_wp2_with fail
  have q1 : ∀ x : Later w1, x.w.cell? ⟨w.heap.size, 0, none⟩ = some (.int .i64 s) := fun x => x.cell b1
  have q2 : ∀ x : Later w1, x.w.cell? ⟨w.heap.size, 1, none⟩ = some (.int .i64 wd) := fun x => x.cell b2
  refine wp_region_calm (by kernel_rfl) (by kernel_rfl) ?_
  repeat (go_big_quiet_step ((go_at_call 91; exact Calls.calm_of (mask_yes s wd _ h1 h2 h3))))
  refine wpQuiet_nil ?_
  intro w2 hw'
  have c2 := Later.out hw'
  clear hw'
  go_wp2
  go_ret
  refine ⟨?_, (Fr.trans (Fr.alloc (Fr.refl _ _) _) c1).trans c2⟩
  obtain ⟨S, rfl⟩ := Int.eq_ofNat_of_zero_le h1
  obtain ⟨D, rfl⟩ := Int.eq_ofNat_of_zero_le (show 0 ≤ wd by omega)
  have e := get_eq (s := S) (d := D) (by omega) hW
  rw [Int.toNat_natCast, Int.toNat_natCast]
  exact congrArg (fun x => Ending.returned (.int .u64 x)) e

end Go.Proofs.Ytcacbbfeenebbaa
