/- More of package object: what fails. -/
import Derived.Test.YtiomemdmhcdpbaaObject3
set_option linter.unusedSimpArgs false
set_option linter.unusedVariables false
namespace Go.Proofs.Ytiomemdmhcdpbaa
open Go.RowKit Go.Shelf

theorem omake_arg (w : World) (b : Nat) (at_ : Int) (p d : Nat) (wk fn : Bool) (ser : Int) (hok : okS p d wk fn) (hs : ser < 0 ∨ 1099511627776 < ser) :
    Calls Try.prog 49 #[arV b, .int .i64 at_, shV p d wk fn, .int .i64 ser] w fun e w' => e = .returned (.int .i64 1) ∧ Calm w w' := by
  by_cases hn : ser < 0
  · clear hs
    go_enter Try.func49, Try.ntmps49
    go_wp2_with fail
    refine (size_yes p d wk fn hok _).mono ?_
    rintro e w1 ⟨rfl, c1⟩
    go_wp2
    go_ret
    exact ⟨rfl, (Fr.alloc (Fr.refl _ _) _).trans c1⟩
  · have h2 : 1099511627776 < ser := by omega
    clear hs
    go_enter Try.func49, Try.ntmps49
    go_wp2_with fail
    refine (size_yes p d wk fn hok _).mono ?_
    rintro e w1 ⟨rfl, c1⟩
    go_wp2
    go_ret
    exact ⟨rfl, (Fr.alloc (Fr.refl _ _) _).trans c1⟩

theorem omake_room (w : World) (b c : Nat) (xs : List Nat) (h : Ar w b c xs) (at_ p d : Nat) (wk fn : Bool) (ser : Nat) (hok : okS p d wk fn) (hroom : xs.length < at_ + (3 + p + d)) (hat : at_ ≤ 1000000) (hs : ser ≤ 1099511627776) :
    Calls Try.prog 49 #[arV b, .int .i64 at_, shV p d wk fn, .int .i64 ser] w fun e w' => e = .returned (.int .i64 20) ∧ Calm w w' := by
  have p8 := hok.1
  have d8 := hok.2.1
  have HA := hid h
  clear h
  have hok' := hid hok
  clear hok
  go_enter Try.func49, Try.ntmps49
  have k1 : Calm w (w.alloc (.cells #[.int .i64 p, .int .i64 d, .bool wk, .bool fn] 32)) := Fr.alloc (Fr.refl _ _) _
  go_wp2_with fail
  refine (size_yes p d wk fn hok'.out _).mono ?_
  rintro e w1 ⟨rfl, c1⟩
  replace k1 := k1.trans c1
  clear c1
  go_wp2_with fail
  have hcast : (3 : Int) + p + d = ((3 + p + d : Nat) : Int) := by push_cast; rfl
  rw [hcast]
  refine (fill_no w1 b c xs (HA.out.calm k1) at_ (3 + p + d) 0 hroom hat (by omega)).mono ?_
  rintro e w2 ⟨rfl, rfl⟩
  replace hcast := hid hcast
  go_wp2
  go_ret
  exact ⟨rfl, k1⟩

/-- No object at a place out of the arena. -/
theorem oshape_far (w : World) (b c : Nat) (xs : List Nat) (h : Ar w b c xs) (k : Int) (hk : k < 0 ∨ xs.length ≤ k) (hk64 : I64 k) :
    Calls Try.prog 65 #[arV b, .int .i64 k] w fun e w' => e = .returned (.tuple #[shV 0 0 false false, .bool false, .int .i64 20]) ∧ Calm w w' := by
  have HA := hid h
  clear h
  go_enter Try.func65, Try.ntmps65
  go_wp2_with fail
  have HK := hid hk
  have HK64 := hid hk64
  clear hk hk64
  refine (load_no _ b c xs (HA.out.calm (Fr.alloc (Fr.refl _ _) _)) k HK.out HK64.out).mono ?_
  rintro e w1 ⟨rfl, rfl⟩
  go_wp2
  exact bodyPost_ret (v := .tuple #[shV 0 0 false false, .bool false, .int .i64 20]) (by simp [results, Try.f65, go_sem]) rfl ⟨rfl, Fr.refl _ _ |>.alloc _⟩

theorem oshape_none (w : World) (b c : Nat) (xs : List Nat) (h : Ar w b c xs) (at_ : Nat) (hat : at_ < xs.length) (hW : xs.getD at_ 0 < 18446744073709551616) (hh : ∀ p d wk fn fr, ¬ isHead (xs.getD at_ 0) p d wk fn fr) :
    Calls Try.prog 65 #[arV b, .int .i64 at_] w fun e w' => e = .returned (.tuple #[shV 0 0 false false, .bool false, .int .i64 70]) ∧ Calm w w' := by
  have HA := hid h
  have h4 := h.2.2.2
  obtain ⟨s, hS⟩ : ∃ s, xs.getD at_ 0 = s := ⟨_, rfl⟩
  rw [hS] at hh hW
  replace hS := hid hS
  have HH := hid hh
  have HW := hid hW
  clear h hh hW
  go_enter Try.func65, Try.ntmps65
  go_wp2_with fail
  refine (load_yes _ b c xs (HA.out.calm (Fr.alloc (Fr.refl _ _) _)) at_ hat).mono ?_
  rintro e w1 ⟨rfl, rfl⟩
  rw [hS.out]
  have o1 := OwnL.new w [.int .i64 0, .int .i64 0, .bool false, .bool false] 32
  have k1 : Calm w (w.alloc (.cells #[.int .i64 0, .int .i64 0, .bool false, .bool false] 32)) := Fr.alloc (Fr.refl _ _) _
  go_wp2_with fail
  refine (shape_no s HW.out HH.out _).mono ?_
  rintro e w2 ⟨rfl, c2⟩
  replace o1 := o1.calm c2
  replace k1 := k1.trans c2
  have b0 := (o1 0 _ rfl).1
  have b1 := (o1 1 _ rfl).1
  have b2 := (o1 2 _ rfl).1
  have b3 := (o1 3 _ rfl).1
  have f0 := (o1 0 _ rfl).2
  have f1 := (o1 1 _ rfl).2
  have f2 := (o1 2 _ rfl).2
  have f3 := (o1 3 _ rfl).2
  clear c2
  go_wp2
  have o3 := (o1.set4 (.int .i64 0) (.int .i64 0) (.bool false) (.bool false)).1.set4 (.int .i64 0) (.int .i64 0) (.bool false) (.bool false)
  have k2 : Calm w _ := (k1.join (o1.set4 (.int .i64 0) (.int .i64 0) (.bool false) (.bool false)).2 (by intros; omega)).join o3.2 (by intros; omega)
  have u0 := (o3.1 0 _ rfl).1
  have u1 := (o3.1 1 _ rfl).1
  have u2 := (o3.1 2 _ rfl).1
  have u3 := (o3.1 3 _ rfl).1
  clear b0 b1 b2 b3 f0 f1 f2 f3 o1 o3
  refine bodyPost_ret (v := .tuple #[shV 0 0 false false, .bool false, .int .i64 70]) (by simp [results, Try.f65, go_sem, u0, u1, u2, u3]) rfl ⟨rfl, k2⟩

theorem ofield_ptr_no (w : World) (b c : Nat) (xs : List Nat) (h : Ar w b c xs) (at_ p d : Nat) (wk fn fr : Bool) (ho : IsObj xs at_ p d wk fn fr) (i : Int) (hi : i < 0 ∨ (p : Int) ≤ i) :
    Calls Try.prog 89 #[arV b, .int .i64 at_, .int .i64 i, .func (.func 90) #[] #[]] w fun e w' => e = .returned (.tuple #[.int .i64 0, .int .i64 71]) ∧ Calm w w' := by
  have HA := hid h
  have HO := hid ho
  have HI := hid hi
  clear h ho hi
  go_enter Try.func89, Try.ntmps89
  go_wp2_with fail
  refine (oshape_yes _ b c xs HA.out at_ p d wk fn fr HO.out).mono ?_
  rintro e w1 ⟨rfl, c1⟩
  go_wp2_with fail
  refine (optr_no p d wk fn at_ i _ HI.out).mono ?_
  rintro e w2 ⟨rfl, c2⟩
  go_wp2
  exact bodyPost_ret (v := .tuple #[.int .i64 0, .int .i64 71]) (by simp [results, Try.f89, go_sem]) rfl ⟨rfl, (c1.alloc _).trans c2⟩

theorem ofield_num_no (w : World) (b c : Nat) (xs : List Nat) (h : Ar w b c xs) (at_ p d : Nat) (wk fn fr : Bool) (ho : IsObj xs at_ p d wk fn fr) (i : Int) (hi : i < 0 ∨ (d : Int) ≤ i) :
    Calls Try.prog 89 #[arV b, .int .i64 at_, .int .i64 i, .func (.func 103) #[] #[]] w fun e w' => e = .returned (.tuple #[.int .i64 0, .int .i64 71]) ∧ Calm w w' := by
  have HA := hid h
  have HO := hid ho
  have HI := hid hi
  clear h ho hi
  go_enter Try.func89, Try.ntmps89
  go_wp2_with fail
  refine (oshape_yes _ b c xs HA.out at_ p d wk fn fr HO.out).mono ?_
  rintro e w1 ⟨rfl, c1⟩
  go_wp2_with fail
  refine (onum_no p d wk fn at_ i _ HI.out).mono ?_
  rintro e w2 ⟨rfl, c2⟩
  go_wp2
  exact bodyPost_ret (v := .tuple #[.int .i64 0, .int .i64 71]) (by simp [results, Try.f89, go_sem]) rfl ⟨rfl, (c1.alloc _).trans c2⟩

theorem ogetptr_no (w : World) (b c : Nat) (xs : List Nat) (h : Ar w b c xs) (at_ p d : Nat) (wk fn fr : Bool) (ho : IsObj xs at_ p d wk fn fr) (i : Int) (hi : i < 0 ∨ (p : Int) ≤ i) :
    Calls Try.prog 62 #[arV b, .int .i64 at_, .int .i64 i] w fun e w' => e = .returned (.tuple #[.int .i64 0, .int .i64 71]) ∧ Calm w w' := by
  have HI := hid hi
  clear hi
  go_enter Try.func62, Try.ntmps62
  go_wp2_with fail
  refine (ofield_ptr_no _ b c xs h at_ p d wk fn fr ho i HI.out).mono ?_
  rintro e w1 ⟨rfl, c1⟩
  clear ho h
  go_wp2
  exact bodyPost_ret (v := .tuple #[.int .i64 0, .int .i64 71]) (by simp [results, Try.f62, go_sem]) rfl ⟨rfl, c1⟩

theorem ogetnum_no (w : World) (b c : Nat) (xs : List Nat) (h : Ar w b c xs) (at_ p d : Nat) (wk fn fr : Bool) (ho : IsObj xs at_ p d wk fn fr) (i : Int) (hi : i < 0 ∨ (d : Int) ≤ i) :
    Calls Try.prog 75 #[arV b, .int .i64 at_, .int .i64 i] w fun e w' => e = .returned (.tuple #[.int .i64 0, .int .i64 71]) ∧ Calm w w' := by
  have HI := hid hi
  clear hi
  go_enter Try.func75, Try.ntmps75
  go_wp2_with fail
  refine (ofield_num_no _ b c xs h at_ p d wk fn fr ho i HI.out).mono ?_
  rintro e w1 ⟨rfl, c1⟩
  clear ho h
  go_wp2
  exact bodyPost_ret (v := .tuple #[.int .i64 0, .int .i64 71]) (by simp [results, Try.f75, go_sem]) rfl ⟨rfl, c1⟩

theorem osetptr_no (w : World) (b c : Nat) (xs : List Nat) (h : Ar w b c xs) (at_ p d : Nat) (wk fn fr : Bool) (ho : IsObj xs at_ p d wk fn fr) (i v : Int) (hi : i < 0 ∨ (p : Int) ≤ i) :
    Calls Try.prog 59 #[arV b, .int .i64 at_, .int .i64 i, .int .i64 v] w fun e w' => e = .returned (.int .i64 71) ∧ Calm w w' := by
  have HI := hid hi
  clear hi
  go_enter Try.func59, Try.ntmps59
  go_wp2_with fail
  refine (ofield_ptr_no _ b c xs h at_ p d wk fn fr ho i HI.out).mono ?_
  rintro e w1 ⟨rfl, c1⟩
  clear ho h
  go_wp2
  go_ret
  exact ⟨rfl, c1⟩

theorem osetnum_no (w : World) (b c : Nat) (xs : List Nat) (h : Ar w b c xs) (at_ p d : Nat) (wk fn fr : Bool) (ho : IsObj xs at_ p d wk fn fr) (i v : Int) (hi : i < 0 ∨ (d : Int) ≤ i) :
    Calls Try.prog 76 #[arV b, .int .i64 at_, .int .i64 i, .int .i64 v] w fun e w' => e = .returned (.int .i64 71) ∧ Calm w w' := by
  have HI := hid hi
  clear hi
  go_enter Try.func76, Try.ntmps76
  go_wp2_with fail
  refine (ofield_num_no _ b c xs h at_ p d wk fn fr ho i HI.out).mono ?_
  rintro e w1 ⟨rfl, c1⟩
  clear ho h
  go_wp2
  go_ret
  exact ⟨rfl, c1⟩

end Go.Proofs.Ytiomemdmhcdpbaa
