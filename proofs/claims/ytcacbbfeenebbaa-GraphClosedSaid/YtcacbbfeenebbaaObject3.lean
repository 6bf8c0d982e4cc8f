/- More of package object: field, Serial, Second. -/
import Derived.Test.YtcacbbfeenebbaaObject2
set_option linter.unusedSimpArgs false
set_option linter.unusedVariables false
namespace Go.Proofs.Ytcacbbfeenebbaa
open Go.RowKit Go.Shelf

theorem oserial_yes (w : World) (b c : Nat) (xs : List Nat) (h : Ar w b c xs) (at_ p d : Nat) (wk fn fr : Bool) (ho : IsObj xs at_ p d wk fn fr) (hs : xs.getD (at_ + 2) 0 ≤ 1099511627776) :
    Calls Try.prog 20 #[arV b, .int .i64 at_] w fun e w' => e = .returned (.tuple #[.int .i64 (xs.getD (at_ + 2) 0 : Nat), .int .i64 0]) ∧ Calm w w' := by
  have HA := hid h
  have HO := hid ho
  have hr := ho.room
  have h4 := h.2.2.2
  clear h ho
  obtain ⟨s, hS⟩ : ∃ s, xs.getD (at_ + 2) 0 = s := ⟨_, rfl⟩
  rw [hS] at hs ⊢
  replace hS := hid hS
  go_enter Try.func20, Try.ntmps20
  go_wp2_with fail
  refine (oshape_yes _ b c xs HA.out at_ p d wk fn fr HO.out).mono ?_
  rintro e w1 ⟨rfl, c1⟩
  go_wp2_with fail
  have hc2 : ((at_ : Int) + 2) = ((at_ + 2 : Nat) : Int) := by push_cast; rfl
  rw [hc2]
  refine (load_yes _ b c xs (HA.out.calm (c1.alloc _)) (at_ + 2) (by omega)).mono ?_
  rintro e w2 ⟨rfl, rfl⟩
  rw [hS.out]
  replace hc2 := hid hc2
  go_wp2
  exact bodyPost_ret (v := .tuple #[.int .i64 s, .int .i64 0]) (by simp [results, Try.f20, go_sem]) rfl ⟨rfl, c1.alloc _⟩

theorem osecond_yes (w : World) (b c : Nat) (xs : List Nat) (h : Ar w b c xs) (at_ p d : Nat) (wk fn fr : Bool) (ho : IsObj xs at_ p d wk fn fr) :
    Calls Try.prog 19 #[arV b, .int .i64 at_] w fun e w' => e = .returned (.tuple #[wV (xs.getD (at_ + 1) 0), .int .i64 0]) ∧ Calm w w' := by
  have HA := hid h
  have HO := hid ho
  have hr := ho.room
  have h4 := h.2.2.2
  clear h ho
  obtain ⟨s, hS⟩ : ∃ s, xs.getD (at_ + 1) 0 = s := ⟨_, rfl⟩
  rw [hS]
  replace hS := hid hS
  go_enter Try.func19, Try.ntmps19
  go_wp2_with fail
  refine (oshape_yes _ b c xs HA.out at_ p d wk fn fr HO.out).mono ?_
  rintro e w1 ⟨rfl, c1⟩
  go_wp2_with fail
  have hc2 : ((at_ : Int) + 1) = ((at_ + 1 : Nat) : Int) := by push_cast; rfl
  rw [hc2]
  refine (load_yes _ b c xs (HA.out.calm (c1.alloc _)) (at_ + 1) (by omega)).mono ?_
  rintro e w2 ⟨rfl, rfl⟩
  rw [hS.out]
  replace hc2 := hid hc2
  go_wp2
  exact bodyPost_ret (v := .tuple #[wV s, .int .i64 0]) (by simp [results, Try.f19, go_sem]) rfl ⟨rfl, c1.alloc _⟩

theorem ofield_ptr_yes (w : World) (b c : Nat) (xs : List Nat) (h : Ar w b c xs) (at_ p d : Nat) (wk fn fr : Bool) (ho : IsObj xs at_ p d wk fn fr) (i : Nat) (hi : i < p) :
    Calls Try.prog 55 #[arV b, .int .i64 at_, .int .i64 i, .func (.func 56) #[] #[]] w fun e w' => e = .returned (.tuple #[.int .i64 ((at_ : Int) + 3 + i), .int .i64 0]) ∧ Calm w w' := by
  have HA := hid h
  have HO := hid ho
  have hr := ho.room
  have h4 := h.2.2.2
  have p8 := ho.ok.1
  clear h ho
  go_enter Try.func55, Try.ntmps55
  go_wp2_with fail
  refine (oshape_yes _ b c xs HA.out at_ p d wk fn fr HO.out).mono ?_
  rintro e w1 ⟨rfl, c1⟩
  go_wp2_with fail
  refine (optr_yes p d wk fn at_ i _ (by omega) (by omega) (by omega) (by omega) (by omega)).mono ?_
  rintro e w2 ⟨rfl, c2⟩
  go_wp2
  exact bodyPost_ret (v := .tuple #[.int .i64 ((at_ : Int) + 3 + i), .int .i64 0]) (by simp [results, Try.f55, go_sem]) rfl ⟨rfl, (c1.alloc _).trans c2⟩

end Go.Proofs.Ytcacbbfeenebbaa
