/- More of package object: Ptr, Num. -/
import Derived.Test.YtcacbbfeenebbaaObject4
set_option linter.unusedSimpArgs false
set_option linter.unusedVariables false
namespace Go.Proofs.Ytcacbbfeenebbaa
open Go.RowKit Go.Shelf

theorem ogetptr_yes (w : World) (b c : Nat) (xs : List Nat) (h : Ar w b c xs) (at_ p d : Nat) (wk fn fr : Bool) (ho : IsObj xs at_ p d wk fn fr) (i : Nat) (hi : i < p) (hs : xs.getD (at_ + 3 + i) 0 ≤ 1099511627776) :
    Calls Try.prog 25 #[arV b, .int .i64 at_, .int .i64 i] w fun e w' => e = .returned (.tuple #[.int .i64 (xs.getD (at_ + 3 + i) 0 : Nat), .int .i64 0]) ∧ Calm w w' := by
  have HA := hid h
  have HO := hid ho
  have hr := ho.room
  have h4 := h.2.2.2
  clear h ho
  obtain ⟨s, hS⟩ : ∃ s, xs.getD (at_ + 3 + i) 0 = s := ⟨_, rfl⟩
  rw [hS] at hs ⊢
  replace hS := hid hS
  go_enter Try.func25, Try.ntmps25
  go_wp2_with fail
  refine (ofield_ptr_yes _ b c xs HA.out at_ p d wk fn fr HO.out i hi).mono ?_
  rintro e w1 ⟨rfl, c1⟩
  go_wp2_with fail
  have hc2 : ((at_ : Int) + 3 + i) = ((at_ + 3 + i : Nat) : Int) := by push_cast; rfl
  rw [hc2]
  refine (load_yes _ b c xs (HA.out.calm c1) (at_ + 3 + i) (by omega)).mono ?_
  rintro e w2 ⟨rfl, rfl⟩
  rw [hS.out]
  replace hc2 := hid hc2
  go_wp2
  exact bodyPost_ret (v := .tuple #[.int .i64 s, .int .i64 0]) (by simp [results, Try.f25, go_sem]) rfl ⟨rfl, c1⟩

theorem ogetnum_yes (w : World) (b c : Nat) (xs : List Nat) (h : Ar w b c xs) (at_ p d : Nat) (wk fn fr : Bool) (ho : IsObj xs at_ p d wk fn fr) (i : Nat) (hi : i < d) (hs : xs.getD (at_ + 3 + p + i) 0 < 18446744073709551616) :
    Calls Try.prog 26 #[arV b, .int .i64 at_, .int .i64 i] w fun e w' => e = .returned (.tuple #[.int .i64 (zt (xs.getD (at_ + 3 + p + i) 0)), .int .i64 0]) ∧ Calm w w' := by
  have HA := hid h
  have HO := hid ho
  have hr := ho.room
  have h4 := h.2.2.2
  clear h ho
  obtain ⟨s, hS⟩ : ∃ s, xs.getD (at_ + 3 + p + i) 0 = s := ⟨_, rfl⟩
  rw [hS] at hs ⊢
  replace hS := hid hS
  go_enter Try.func26, Try.ntmps26
  go_wp2_with fail
  refine (ofield_num_yes _ b c xs HA.out at_ p d wk fn fr HO.out i hi).mono ?_
  rintro e w1 ⟨rfl, c1⟩
  go_wp2_with fail
  have hc2 : ((at_ : Int) + 3 + p + i) = ((at_ + 3 + p + i : Nat) : Int) := by push_cast; rfl
  rw [hc2]
  refine (load_yes _ b c xs (HA.out.calm c1) (at_ + 3 + p + i) (by omega)).mono ?_
  rintro e w2 ⟨rfl, rfl⟩
  rw [hS.out]
  replace hc2 := hid hc2
  go_wp2_with fail
  refine (zag_yes s _ hs).mono ?_
  rintro e w3 ⟨rfl, c3⟩
  go_wp2
  exact bodyPost_ret (v := .tuple #[.int .i64 (zt s), .int .i64 0]) (by simp [results, Try.f26, go_sem]) rfl ⟨rfl, c1.trans c3⟩

end Go.Proofs.Ytcacbbfeenebbaa
