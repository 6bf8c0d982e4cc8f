/- More of package object: SetSecond. -/
import Derived.Test.YtcacbbfeenebbaaObject6
set_option linter.unusedSimpArgs false
set_option linter.unusedVariables false
namespace Go.Proofs.Ytcacbbfeenebbaa
open Go.RowKit Go.Shelf

theorem osetsecond_yes (w : World) (b c : Nat) (xs : List Nat) (h : Ar w b c xs) (at_ p d : Nat) (wk fn fr : Bool) (ho : IsObj xs at_ p d wk fn fr) (v : Nat) :
    Calls Try.prog 28 #[arV b, .int .i64 at_, wV v] w fun e w' => e = .returned (.int .i64 0) ∧ Ar w' b c (xs.set (at_ + 1) v) ∧ Fr (fun k => k = c) w w' := by
  have HA := hid h
  have HO := hid ho
  have hr := ho.room
  have h4 := h.2.2.2
  have hcl : c < w.heap.size := (h.cell (k := at_) (by omega)).lt
  clear h ho
  go_enter Try.func28, Try.ntmps28
  go_wp2_with fail
  refine (oshape_yes _ b c xs HA.out at_ p d wk fn fr HO.out).mono ?_
  rintro e w1 ⟨rfl, c1⟩
  go_wp2_with fail
  refine (oto_is _ v).mono ?_
  rintro e w2 ⟨rfl, rfl⟩
  go_wp2_with fail
  have hc2 : ((at_ : Int) + 1) = ((at_ + 1 : Nat) : Int) := by push_cast; rfl
  rw [hc2]
  refine (ochange_yes _ b c xs (HA.out.calm ((c1.alloc _).alloc _)) (at_ + 1) (by omega) (w1.heap.size + 1) v (Own.at _ _ _ _ 0 (by simp) rfl) (by have := c1.size; omega)).mono ?_
  rintro e w3 ⟨rfl, ha, f⟩
  replace hc2 := hid hc2
  replace ha := hid ha
  go_wp2
  go_ret
  exact ⟨rfl, ha.out, (Calm.any ((c1.alloc _).alloc _)).trans f⟩

theorem osetfreed_yes (w : World) (b c : Nat) (xs : List Nat) (h : Ar w b c xs) (at_ p d : Nat) (wk fn fr fr' : Bool) (ho : IsObj xs at_ p d wk fn fr) :
    Calls Try.prog 27 #[arV b, .int .i64 at_, .bool fr'] w fun e w' => e = .returned (.int .i64 0) ∧ Ar w' b c (xs.set at_ (hd p d wk fn fr')) ∧ Fr (fun k => k = c) w w' := by
  have HA := hid h
  have HO := hid ho
  have hr := ho.room
  have h4 := h.2.2.2
  have hcl : c < w.heap.size := (h.cell (k := at_) (by omega)).lt
  clear h ho
  go_enter Try.func27, Try.ntmps27
  go_wp2_with fail
  refine (oshape_yes _ b c xs HA.out at_ p d wk fn fr HO.out).mono ?_
  rintro e w1 ⟨rfl, c1⟩
  go_wp2_with fail
  refine (head_yes p d wk fn fr' HO.out.ok _).mono ?_
  rintro e w2 ⟨rfl, c2⟩
  replace c1 := (c1.alloc _).trans c2
  go_wp2_with fail
  refine (oto_is _ (hd p d wk fn fr')).mono ?_
  rintro e w3 ⟨rfl, rfl⟩
  go_wp2_with fail
  refine (ochange_yes _ b c xs (HA.out.calm (c1.alloc _)) at_ (by omega) w2.heap.size (hd p d wk fn fr') (Own.new _ _ _ 0 rfl) (by have := c1.size; omega)).mono ?_
  rintro e w4 ⟨rfl, ha, f⟩
  replace ha := hid ha
  go_wp2
  go_ret
  exact ⟨rfl, ha.out, (Calm.any (c1.alloc _)).trans f⟩

end Go.Proofs.Ytcacbbfeenebbaa
