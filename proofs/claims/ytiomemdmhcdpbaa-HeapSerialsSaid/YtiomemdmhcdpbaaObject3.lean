/- More of package object: field, Serial, Second. More of package object: field of numbers, to, change. More of package object: Ptr, Num. More of package object: SetPtr. More of package object: SetSecond. -/
import Derived.Test.YtiomemdmhcdpbaaObject
set_option linter.unusedSimpArgs false
set_option linter.unusedVariables false
namespace Go.Proofs.Ytiomemdmhcdpbaa
open Go.RowKit Go.Shelf

theorem oserial_yes (w : World) (b c : Nat) (xs : List Nat) (h : Ar w b c xs) (at_ p d : Nat) (wk fn fr : Bool) (ho : IsObj xs at_ p d wk fn fr) (hs : xs.getD (at_ + 2) 0 ≤ 1099511627776) :
    Calls Try.prog 52 #[arV b, .int .i64 at_] w fun e w' => e = .returned (.tuple #[.int .i64 (xs.getD (at_ + 2) 0 : Nat), .int .i64 0]) ∧ Calm w w' := by
  have HA := hid h
  have HO := hid ho
  have hr := ho.room
  have h4 := h.2.2.2
  clear h ho
  obtain ⟨s, hS⟩ : ∃ s, xs.getD (at_ + 2) 0 = s := ⟨_, rfl⟩
  rw [hS] at hs ⊢
  replace hS := hid hS
  go_enter Try.func52, Try.ntmps52
  go_wp2_with fail
  refine (oshape_yes _ b c xs HA.out at_ p d wk fn fr HO.out).mono ?_
  rintro e w1 ⟨rfl, c1⟩
  go_wp2_with fail
  have hc2 : ((at_ : Int) + 2) = ((at_ + 2 : Nat) : Int) := by push_cast; rfl
  rw [hc2]
  refine (load_yes _ b c xs (HA.out.calm (c1.alloc _)) (at_ + 2) (by omega)).mono ?_
  rintro e w2 ⟨rfl, rfl⟩
  rw [hS.out]
  replace hc2 := hid hc2
  go_wp2
  exact bodyPost_ret (v := .tuple #[.int .i64 s, .int .i64 0]) (by simp [results, Try.f52, go_sem]) rfl ⟨rfl, c1.alloc _⟩

theorem ofield_ptr_yes (w : World) (b c : Nat) (xs : List Nat) (h : Ar w b c xs) (at_ p d : Nat) (wk fn fr : Bool) (ho : IsObj xs at_ p d wk fn fr) (i : Nat) (hi : i < p) :
    Calls Try.prog 89 #[arV b, .int .i64 at_, .int .i64 i, .func (.func 90) #[] #[]] w fun e w' => e = .returned (.tuple #[.int .i64 ((at_ : Int) + 3 + i), .int .i64 0]) ∧ Calm w w' := by
  have HA := hid h
  have HO := hid ho
  have hr := ho.room
  have h4 := h.2.2.2
  have p8 := ho.ok.1
  clear h ho
  go_enter Try.func89, Try.ntmps89
  go_wp2_with fail
  refine (oshape_yes _ b c xs HA.out at_ p d wk fn fr HO.out).mono ?_
  rintro e w1 ⟨rfl, c1⟩
  go_wp2_with fail
  refine (optr_yes p d wk fn at_ i _ (by omega) (by omega) (by omega) (by omega) (by omega)).mono ?_
  rintro e w2 ⟨rfl, c2⟩
  go_wp2
  exact bodyPost_ret (v := .tuple #[.int .i64 ((at_ : Int) + 3 + i), .int .i64 0]) (by simp [results, Try.f89, go_sem]) rfl ⟨rfl, (c1.alloc _).trans c2⟩

end Go.Proofs.Ytiomemdmhcdpbaa

namespace Go.Proofs.Ytiomemdmhcdpbaa
open Go.RowKit Go.Shelf

theorem ofield_num_yes (w : World) (b c : Nat) (xs : List Nat) (h : Ar w b c xs) (at_ p d : Nat) (wk fn fr : Bool) (ho : IsObj xs at_ p d wk fn fr) (i : Nat) (hi : i < d) :
    Calls Try.prog 89 #[arV b, .int .i64 at_, .int .i64 i, .func (.func 103) #[] #[]] w fun e w' => e = .returned (.tuple #[.int .i64 ((at_ : Int) + 3 + p + i), .int .i64 0]) ∧ Calm w w' := by
  have HA := hid h
  have HO := hid ho
  have hr := ho.room
  have h4 := h.2.2.2
  have p8 := ho.ok.1
  have d8 := ho.ok.2.1
  clear h ho
  go_enter Try.func89, Try.ntmps89
  go_wp2_with fail
  refine (oshape_yes _ b c xs HA.out at_ p d wk fn fr HO.out).mono ?_
  rintro e w1 ⟨rfl, c1⟩
  go_wp2_with fail
  refine (onum_yes p d wk fn at_ i _ (by omega) (by omega) (by omega) (by omega) (by omega) (by omega) (by omega)).mono ?_
  rintro e w2 ⟨rfl, c2⟩
  go_wp2
  exact bodyPost_ret (v := .tuple #[.int .i64 ((at_ : Int) + 3 + p + i), .int .i64 0]) (by simp [results, Try.f89, go_sem]) rfl ⟨rfl, (c1.alloc _).trans c2⟩

/-- change, with a closure that makes any word v. -/
theorem ochange_yes (w : World) (b c : Nat) (xs : List Nat) (h : Ar w b c xs) (k : Nat) (hk : k < xs.length) (g v : Nat) (hg : Own w g 0 (wV v)) (hgc : g ≠ c) :
    Calls Try.prog 91 #[arV b, .int .i64 k, .func (.func 109) #[] #[.pointer (some ⟨g, 0, none⟩)]] w fun e w' => e = .returned (.int .i64 0) ∧ Ar w' b c (xs.set k v) ∧ Fr (fun b => b = c) w w' := by
  have HA := hid h
  have h4 := h.2.2.2
  have g1 := hg.1
  have hs := hid (h.set hk v)
  clear h
  go_enter Try.func91, Try.ntmps91
  go_wp2_with fail
  refine (load_yes _ b c xs HA.out k hk).mono ?_
  rintro e w1 ⟨rfl, rfl⟩
  go_wp2_with (first | (go_at_call 84; refine (store_yes _ b c xs HA.out k hk v).mono ?_; rintro e w2 ⟨rfl, rfl⟩) | go_in)
  go_ret
  exact ⟨rfl, hs.out, Fr.setCell (S := fun b => b = c) (p := ⟨c, k, none⟩) (Fr.refl _ _) (.inl rfl) _⟩

end Go.Proofs.Ytiomemdmhcdpbaa

namespace Go.Proofs.Ytiomemdmhcdpbaa
open Go.RowKit Go.Shelf

theorem ogetptr_yes (w : World) (b c : Nat) (xs : List Nat) (h : Ar w b c xs) (at_ p d : Nat) (wk fn fr : Bool) (ho : IsObj xs at_ p d wk fn fr) (i : Nat) (hi : i < p) (hs : xs.getD (at_ + 3 + i) 0 ≤ 1099511627776) :
    Calls Try.prog 62 #[arV b, .int .i64 at_, .int .i64 i] w fun e w' => e = .returned (.tuple #[.int .i64 (xs.getD (at_ + 3 + i) 0 : Nat), .int .i64 0]) ∧ Calm w w' := by
  have HA := hid h
  have HO := hid ho
  have hr := ho.room
  have h4 := h.2.2.2
  clear h ho
  obtain ⟨s, hS⟩ : ∃ s, xs.getD (at_ + 3 + i) 0 = s := ⟨_, rfl⟩
  rw [hS] at hs ⊢
  replace hS := hid hS
  go_enter Try.func62, Try.ntmps62
  go_wp2_with fail
  refine (ofield_ptr_yes _ b c xs HA.out at_ p d wk fn fr HO.out i hi).mono ?_
  rintro e w1 ⟨rfl, c1⟩
  go_wp2_with fail
  have hc2 : ((at_ : Int) + 3 + i) = ((at_ + 3 + i : Nat) : Int) := by push_cast; rfl
  rw [hc2]
  refine (load_yes _ b c xs (HA.out.calm c1) (at_ + 3 + i) (by omega)).mono ?_
  rintro e w2 ⟨rfl, rfl⟩
  rw [hS.out]
  replace hc2 := hid hc2
  go_wp2
  exact bodyPost_ret (v := .tuple #[.int .i64 s, .int .i64 0]) (by simp [results, Try.f62, go_sem]) rfl ⟨rfl, c1⟩

theorem ogetnum_yes (w : World) (b c : Nat) (xs : List Nat) (h : Ar w b c xs) (at_ p d : Nat) (wk fn fr : Bool) (ho : IsObj xs at_ p d wk fn fr) (i : Nat) (hi : i < d) (hs : xs.getD (at_ + 3 + p + i) 0 < 18446744073709551616) :
    Calls Try.prog 75 #[arV b, .int .i64 at_, .int .i64 i] w fun e w' => e = .returned (.tuple #[.int .i64 (zt (xs.getD (at_ + 3 + p + i) 0)), .int .i64 0]) ∧ Calm w w' := by
  have HA := hid h
  have HO := hid ho
  have hr := ho.room
  have h4 := h.2.2.2
  clear h ho
  obtain ⟨s, hS⟩ : ∃ s, xs.getD (at_ + 3 + p + i) 0 = s := ⟨_, rfl⟩
  rw [hS] at hs ⊢
  replace hS := hid hS
  go_enter Try.func75, Try.ntmps75
  go_wp2_with fail
  refine (ofield_num_yes _ b c xs HA.out at_ p d wk fn fr HO.out i hi).mono ?_
  rintro e w1 ⟨rfl, c1⟩
  go_wp2_with fail
  have hc2 : ((at_ : Int) + 3 + p + i) = ((at_ + 3 + p + i : Nat) : Int) := by push_cast; rfl
  rw [hc2]
  refine (load_yes _ b c xs (HA.out.calm c1) (at_ + 3 + p + i) (by omega)).mono ?_
  rintro e w2 ⟨rfl, rfl⟩
  rw [hS.out]
  replace hc2 := hid hc2
  go_wp2_with fail
  refine (zag_yes s _ hs).mono ?_
  rintro e w3 ⟨rfl, c3⟩
  go_wp2
  exact bodyPost_ret (v := .tuple #[.int .i64 (zt s), .int .i64 0]) (by simp [results, Try.f75, go_sem]) rfl ⟨rfl, c1.trans c3⟩

end Go.Proofs.Ytiomemdmhcdpbaa

namespace Go.Proofs.Ytiomemdmhcdpbaa
open Go.RowKit Go.Shelf

theorem oto_is (w : World) (v : Nat) :
    Calls Try.prog 92 #[wV v] w fun e w' => e = .returned (.func (.func 109) #[] #[.pointer (some ⟨w.heap.size, 0, none⟩)]) ∧ w' = w.alloc (.cells #[wV v] 72) := by
  go_enter Try.func92, Try.ntmps92
  go_wp2
  go_ret
  exact ⟨rfl, rfl⟩

theorem osetptr_yes (w : World) (b c : Nat) (xs : List Nat) (h : Ar w b c xs) (at_ p d : Nat) (wk fn fr : Bool) (ho : IsObj xs at_ p d wk fn fr) (i : Nat) (hi : i < p) (v : Nat) (hv : v ≤ 131072) :
    Calls Try.prog 59 #[arV b, .int .i64 at_, .int .i64 i, .int .i64 v] w fun e w' => e = .returned (.int .i64 0) ∧ Ar w' b c (xs.set (at_ + 3 + i) v) ∧ Fr (fun k => k = c) w w' := by
  have HA := hid h
  have HO := hid ho
  have hr := ho.room
  have h4 := h.2.2.2
  have hcl : c < w.heap.size := (h.cell (k := at_) (by omega)).lt
  clear h ho
  go_enter Try.func59, Try.ntmps59
  go_wp2_with fail
  refine (ofield_ptr_yes _ b c xs HA.out at_ p d wk fn fr HO.out i hi).mono ?_
  rintro e w1 ⟨rfl, c1⟩
  go_wp2_with fail
  refine (oto_is _ v).mono ?_
  rintro e w2 ⟨rfl, rfl⟩
  go_wp2_with fail
  have hc2 : ((at_ : Int) + 3 + i) = ((at_ + 3 + i : Nat) : Int) := by push_cast; rfl
  rw [hc2]
  refine (ochange_yes _ b c xs (HA.out.calm (c1.alloc _)) (at_ + 3 + i) (by omega) w1.heap.size v (Own.new _ _ _ 0 rfl) (by have := c1.size; omega)).mono ?_
  rintro e w3 ⟨rfl, ha, f⟩
  replace hc2 := hid hc2
  replace ha := hid ha
  go_wp2
  go_ret
  exact ⟨rfl, ha.out, (Calm.any (c1.alloc _)).trans f⟩

theorem osetnum_yes (w : World) (b c : Nat) (xs : List Nat) (h : Ar w b c xs) (at_ p d : Nat) (wk fn fr : Bool) (ho : IsObj xs at_ p d wk fn fr) (i : Nat) (hi : i < d) (n : Int) (hn : I64 n) :
    Calls Try.prog 76 #[arV b, .int .i64 at_, .int .i64 i, .int .i64 n] w fun e w' => e = .returned (.int .i64 0) ∧ Ar w' b c (xs.set (at_ + 3 + p + i) (zg n)) ∧ Fr (fun k => k = c) w w' := by
  have HA := hid h
  have HO := hid ho
  have hr := ho.room
  have h4 := h.2.2.2
  have hcl : c < w.heap.size := (h.cell (k := at_) (by omega)).lt
  clear h ho
  go_enter Try.func76, Try.ntmps76
  go_wp2_with fail
  refine (ofield_num_yes _ b c xs HA.out at_ p d wk fn fr HO.out i hi).mono ?_
  rintro e w1 ⟨rfl, c1⟩
  go_wp2_with fail
  refine (zig_yes n _ hn).mono ?_
  rintro e w2 ⟨rfl, c2⟩
  replace c1 := c1.trans c2
  go_wp2_with fail
  refine (oto_is _ (zg n)).mono ?_
  rintro e w2' ⟨rfl, rfl⟩
  go_wp2_with fail
  have hc2 : ((at_ : Int) + 3 + p + i) = ((at_ + 3 + p + i : Nat) : Int) := by push_cast; rfl
  rw [hc2]
  refine (ochange_yes _ b c xs (HA.out.calm (c1.alloc _)) (at_ + 3 + p + i) (by omega) w2.heap.size (zg n) (Own.new _ _ _ 0 rfl) (by have := c1.size; omega)).mono ?_
  rintro e w3 ⟨rfl, ha, f⟩
  replace hc2 := hid hc2
  replace ha := hid ha
  go_wp2
  go_ret
  exact ⟨rfl, ha.out, (Calm.any (c1.alloc _)).trans f⟩

end Go.Proofs.Ytiomemdmhcdpbaa

namespace Go.Proofs.Ytiomemdmhcdpbaa
open Go.RowKit Go.Shelf

theorem osetsecond_yes (w : World) (b c : Nat) (xs : List Nat) (h : Ar w b c xs) (at_ p d : Nat) (wk fn fr : Bool) (ho : IsObj xs at_ p d wk fn fr) (v : Nat) :
    Calls Try.prog 78 #[arV b, .int .i64 at_, wV v] w fun e w' => e = .returned (.int .i64 0) ∧ Ar w' b c (xs.set (at_ + 1) v) ∧ Fr (fun k => k = c) w w' := by
  have HA := hid h
  have HO := hid ho
  have hr := ho.room
  have h4 := h.2.2.2
  have hcl : c < w.heap.size := (h.cell (k := at_) (by omega)).lt
  clear h ho
  go_enter Try.func78, Try.ntmps78
  go_wp2_with fail
  refine (oshape_yes _ b c xs HA.out at_ p d wk fn fr HO.out).mono ?_
  rintro e w1 ⟨rfl, c1⟩
  go_wp2_with fail
  refine (oto_is _ v).mono ?_
  rintro e w2 ⟨rfl, rfl⟩
  go_wp2_with fail
  have hc2 : ((at_ : Int) + 1) = ((at_ + 1 : Nat) : Int) := by push_cast; rfl
  rw [hc2]
  refine (ochange_yes _ b c xs (HA.out.calm ((c1.alloc _).alloc _)) (at_ + 1) (by omega) (w1.heap.size + 1) v (Own.at _ _ _ _ 0 (by simp) rfl) (by have := c1.size; omega)).mono ?_
  rintro e w3 ⟨rfl, ha, f⟩
  replace hc2 := hid hc2
  replace ha := hid ha
  go_wp2
  go_ret
  exact ⟨rfl, ha.out, (Calm.any ((c1.alloc _).alloc _)).trans f⟩

theorem osetfreed_yes (w : World) (b c : Nat) (xs : List Nat) (h : Ar w b c xs) (at_ p d : Nat) (wk fn fr fr' : Bool) (ho : IsObj xs at_ p d wk fn fr) :
    Calls Try.prog 77 #[arV b, .int .i64 at_, .bool fr'] w fun e w' => e = .returned (.int .i64 0) ∧ Ar w' b c (xs.set at_ (hd p d wk fn fr')) ∧ Fr (fun k => k = c) w w' := by
  have HA := hid h
  have HO := hid ho
  have hr := ho.room
  have h4 := h.2.2.2
  have hcl : c < w.heap.size := (h.cell (k := at_) (by omega)).lt
  clear h ho
  go_enter Try.func77, Try.ntmps77
  go_wp2_with fail
  refine (oshape_yes _ b c xs HA.out at_ p d wk fn fr HO.out).mono ?_
  rintro e w1 ⟨rfl, c1⟩
  go_wp2_with fail
  refine (head_yes p d wk fn fr' HO.out.ok _).mono ?_
  rintro e w2 ⟨rfl, c2⟩
  replace c1 := (c1.alloc _).trans c2
  go_wp2_with fail
  refine (oto_is _ (hd p d wk fn fr')).mono ?_
  rintro e w3 ⟨rfl, rfl⟩
  go_wp2_with fail
  refine (ochange_yes _ b c xs (HA.out.calm (c1.alloc _)) at_ (by omega) w2.heap.size (hd p d wk fn fr') (Own.new _ _ _ 0 rfl) (by have := c1.size; omega)).mono ?_
  rintro e w4 ⟨rfl, ha, f⟩
  replace ha := hid ha
  go_wp2
  go_ret
  exact ⟨rfl, ha.out, (Calm.any (c1.alloc _)).trans f⟩

end Go.Proofs.Ytiomemdmhcdpbaa
