/- More of package object: SetPtr. -/
import Derived.Test.YtcacbbfeenebbaaObject5
set_option linter.unusedSimpArgs false
set_option linter.unusedVariables false
namespace Go.Proofs.Ytcacbbfeenebbaa
open Go.RowKit Go.Shelf

theorem oto_is (w : World) (v : Nat) :
    Calls Try.prog 58 #[wV v] w fun e w' => e = .returned (.func (.func 81) #[] #[.pointer (some ⟨w.heap.size, 0, none⟩)]) ∧ w' = w.alloc (.cells #[wV v] 29) := by
  go_enter Try.func58, Try.ntmps58
  go_wp2
  go_ret
  exact ⟨rfl, rfl⟩

theorem osetptr_yes (w : World) (b c : Nat) (xs : List Nat) (h : Ar w b c xs) (at_ p d : Nat) (wk fn fr : Bool) (ho : IsObj xs at_ p d wk fn fr) (i : Nat) (hi : i < p) (v : Nat) (hv : v ≤ 131072) :
    Calls Try.prog 23 #[arV b, .int .i64 at_, .int .i64 i, .int .i64 v] w fun e w' => e = .returned (.int .i64 0) ∧ Ar w' b c (xs.set (at_ + 3 + i) v) ∧ Fr (fun k => k = c) w w' := by
  have HA := hid h
  have HO := hid ho
  have hr := ho.room
  have h4 := h.2.2.2
  have hcl : c < w.heap.size := (h.cell (k := at_) (by omega)).lt
  clear h ho
  go_enter Try.func23, Try.ntmps23
  go_wp2_with fail
  refine (ofield_ptr_yes _ b c xs HA.out at_ p d wk fn fr HO.out i hi).mono ?_
  rintro e w1 ⟨rfl, c1⟩
  go_wp2_with fail
  refine (oto_is _ v).mono ?_
  rintro e w2 ⟨rfl, rfl⟩
  go_wp2_with fail
  have hc2 : ((at_ : Int) + 3 + i) = ((at_ + 3 + i : Nat) : Int) := by push_cast; rfl
  rw [hc2]
  refine (ochange_yes _ b c xs (HA.out.calm (c1.alloc _)) (at_ + 3 + i) (by omega) w1.heap.size v (Own.new _ _ _ 0 rfl) (by have := c1.size; omega)).mono ?_
  rintro e w3 ⟨rfl, ha, f⟩
  replace hc2 := hid hc2
  replace ha := hid ha
  go_wp2
  go_ret
  exact ⟨rfl, ha.out, (Calm.any (c1.alloc _)).trans f⟩

theorem osetnum_yes (w : World) (b c : Nat) (xs : List Nat) (h : Ar w b c xs) (at_ p d : Nat) (wk fn fr : Bool) (ho : IsObj xs at_ p d wk fn fr) (i : Nat) (hi : i < d) (n : Int) (hn : I64 n) :
    Calls Try.prog 24 #[arV b, .int .i64 at_, .int .i64 i, .int .i64 n] w fun e w' => e = .returned (.int .i64 0) ∧ Ar w' b c (xs.set (at_ + 3 + p + i) (zg n)) ∧ Fr (fun k => k = c) w w' := by
  have HA := hid h
  have HO := hid ho
  have hr := ho.room
  have h4 := h.2.2.2
  have hcl : c < w.heap.size := (h.cell (k := at_) (by omega)).lt
  clear h ho
  go_enter Try.func24, Try.ntmps24
  go_wp2_with fail
  refine (ofield_num_yes _ b c xs HA.out at_ p d wk fn fr HO.out i hi).mono ?_
  rintro e w1 ⟨rfl, c1⟩
  go_wp2_with fail
  refine (zig_yes n _ hn).mono ?_
  rintro e w2 ⟨rfl, c2⟩
  replace c1 := c1.trans c2
  go_wp2_with fail
  refine (oto_is _ (zg n)).mono ?_
  rintro e w2' ⟨rfl, rfl⟩
  go_wp2_with fail
  have hc2 : ((at_ : Int) + 3 + p + i) = ((at_ + 3 + p + i : Nat) : Int) := by push_cast; rfl
  rw [hc2]
  refine (ochange_yes _ b c xs (HA.out.calm (c1.alloc _)) (at_ + 3 + p + i) (by omega) w2.heap.size (zg n) (Own.new _ _ _ 0 rfl) (by have := c1.size; omega)).mono ?_
  rintro e w3 ⟨rfl, ha, f⟩
  replace hc2 := hid hc2
  replace ha := hid ha
  go_wp2
  go_ret
  exact ⟨rfl, ha.out, (Calm.any (c1.alloc _)).trans f⟩

end Go.Proofs.Ytcacbbfeenebbaa
