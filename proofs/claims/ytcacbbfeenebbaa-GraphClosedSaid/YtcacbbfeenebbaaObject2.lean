/- More of package object: Make. -/
import Derived.Test.YtcacbbfeenebbaaObject
set_option linter.unusedSimpArgs false
set_option linter.unusedVariables false
namespace Go.Proofs.Ytcacbbfeenebbaa
open Go.RowKit Go.Shelf

/-- The words behind a Make. -/
def made (xs : List Nat) (at_ p d : Nat) (wk fn : Bool) (ser : Nat) : List Nat :=
  (((fl xs at_ 0 (3 + p + d)).set at_ (hd p d wk fn false)).set (at_ + 1) 0).set (at_ + 2) ser

theorem omake_yes (w : World) (b c : Nat) (xs : List Nat) (h : Ar w b c xs) (at_ p d : Nat) (wk fn : Bool) (ser : Nat) (hok : okS p d wk fn) (hroom : at_ + (3 + p + d) ≤ xs.length) (hs : ser ≤ 1099511627776) :
    Calls Try.prog 17 #[arV b, .int .i64 at_, shV p d wk fn, .int .i64 ser] w fun e w' => e = .returned (.int .i64 0) ∧ Ar w' b c (made xs at_ p d wk fn ser) ∧ Fr (fun k => k = c) w w' := by
  have h4 := h.2.2.2
  have p8 := hok.1
  have d8 := hok.2.1
  have HA := hid h
  have hcl : c < w.heap.size := (h.cell (k := at_) (by omega)).lt
  clear h
  have hok' := hid hok
  clear hok
  go_enter Try.func17, Try.ntmps17
  have o1 := OwnL.new w [.int .i64 p, .int .i64 d, .bool wk, .bool fn] 31
  have k1 : Calm w (w.alloc (.cells #[.int .i64 p, .int .i64 d, .bool wk, .bool fn] 31)) := Fr.alloc (Fr.refl _ _) _
  go_wp2_with fail
  refine (size_yes p d wk fn hok'.out _).mono ?_
  rintro e w1 ⟨rfl, c1⟩
  replace o1 := o1.calm c1
  replace k1 := k1.trans c1
  clear c1
  go_wp2_with fail
  have hcast : (3 : Int) + p + d = ((3 + p + d : Nat) : Int) := by push_cast; rfl
  rw [hcast]
  refine (fill_yes w1 b c xs (HA.out.calm k1) at_ (3 + p + d) 0 hroom).mono ?_
  rintro e w2 ⟨rfl, ha, f2⟩
  replace o1 := o1.fr f2 (by omega)
  have k2 : Fr (fun k => k = c) w w2 := (Calm.any k1).trans f2
  have b0 := (o1 0 _ rfl).1
  have b1 := (o1 1 _ rfl).1
  have b2 := (o1 2 _ rfl).1
  have b3 := (o1 3 _ rfl).1
  replace ha := hid ha
  replace hcast := hid hcast
  clear k1 f2
  go_wp2_with fail
  refine (head_yes p d wk fn false hok'.out _).mono ?_
  rintro e w3 ⟨rfl, c3⟩
  replace ha := hid (ha.out.calm c3)
  replace k2 := k2.join c3 (fun _ _ h => h.elim)
  clear c3 b0 b1 b2 b3 o1
  have hl := fl_length xs at_ 0 (3 + p + d)
  go_wp2_with fail
  refine (free_yes 0 (by decide) (by decide) _).mono ?_
  rintro e w4 ⟨rfl, rfl⟩
  go_wp2_with fail
  refine (store_yes _ b c _ ha.out at_ (by omega) (hd p d wk fn false)).mono ?_
  rintro e w5 ⟨rfl, rfl⟩
  have a1 := hid (ha.out.set (k := at_) (by omega) (hd p d wk fn false))
  have k3 := k2.setCell (p := ⟨c, at_, none⟩) (.inl rfl) (wV (hd p d wk fn false))
  go_wp2_with fail
  have hc1 : ((at_ : Int) + 1) = ((at_ + 1 : Nat) : Int) := by push_cast; rfl
  rw [hc1]
  have hl1 : ((fl xs at_ 0 (3 + p + d)).set at_ (hd p d wk fn false)).length = xs.length := by rw [List.length_set, hl]
  refine (store_yes _ b c _ a1.out (at_ + 1) (by omega) 0).mono ?_
  rintro e w6 ⟨rfl, rfl⟩
  have a2 := hid (a1.out.set (k := at_ + 1) (by omega) 0)
  have k4 := k3.setCell (p := ⟨c, at_ + 1, none⟩) (.inl rfl) (wV 0)
  clear k2 k3 a1 ha hl
  replace hc1 := hid hc1
  replace hl1 := hid hl1
  go_wp2_with fail
  have hc2 : ((at_ : Int) + 2) = ((at_ + 2 : Nat) : Int) := by push_cast; rfl
  rw [hc2]
  have hl2 : (((fl xs at_ 0 (3 + p + d)).set at_ (hd p d wk fn false)).set (at_ + 1) 0).length = xs.length := by rw [List.length_set, hl1.out]
  refine (store_yes _ b c _ a2.out (at_ + 2) (by omega) ser).mono ?_
  rintro e w7 ⟨rfl, rfl⟩
  have a3 := hid (a2.out.set (k := at_ + 2) (by omega) ser)
  have k5 := k4.setCell (p := ⟨c, at_ + 2, none⟩) (.inl rfl) (wV ser)
  replace hc2 := hid hc2
  replace hl2 := hid hl2
  go_wp2
  go_ret
  exact ⟨rfl, a3.out, k5⟩

end Go.Proofs.Ytcacbbfeenebbaa
