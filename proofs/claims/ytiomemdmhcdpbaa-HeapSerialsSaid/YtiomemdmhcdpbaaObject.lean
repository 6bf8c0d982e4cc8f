/- What the functions of package object return. More of package object: Make. -/
import Derived.Test.YtiomemdmhcdpbaaArena2
import Derived.Test.YtiomemdmhcdpbaaHead
import Derived.Test.YtiomemdmhcdpbaaZig
set_option linter.unusedSimpArgs false
set_option linter.unusedVariables false
namespace Go.Proofs.Ytiomemdmhcdpbaa
open Go.RowKit Go.Shelf

/-- The words ahead of an object's fields, from at on: its shape, freed or not. -/
structure IsObj (xs : List Nat) (at_ p d : Nat) (wk fn fr : Bool) : Prop where
  ok : okS p d wk fn
  room : at_ + (3 + p + d) ≤ xs.length
  head : xs.getD at_ 0 = hd p d wk fn fr

theorem oshape_yes (w : World) (b c : Nat) (xs : List Nat) (h : Ar w b c xs) (at_ p d : Nat) (wk fn fr : Bool) (ho : IsObj xs at_ p d wk fn fr) :
    Calls Try.prog 65 #[arV b, .int .i64 at_] w fun e w' => e = .returned (.tuple #[shV p d wk fn, .bool fr, .int .i64 0]) ∧ Calm w w' := by
  obtain ⟨h1, h2, h3⟩ := ho
  have HA := hid h
  have h4 := h.2.2.2
  have p8 := h1.1
  have d8 := h1.2.1
  replace h1 := hid h1
  go_enter Try.func65, Try.ntmps65
  go_wp2_with fail
  refine (load_yes _ b c xs (h.calm (Fr.alloc (Fr.refl _ _) _)) at_ (by omega)).mono ?_
  rintro e w1 ⟨rfl, rfl⟩
  rw [h3]
  clear h
  have o1 := OwnL.new w [.int .i64 0, .int .i64 0, .bool false, .bool false] 32
  have k1 : Calm w (w.alloc (.cells #[.int .i64 0, .int .i64 0, .bool false, .bool false] 32)) := Fr.alloc (Fr.refl _ _) _
  go_wp2_with fail
  refine (shape_yes p d wk fn fr h1.out _).mono ?_
  rintro e w2 ⟨rfl, c2⟩
  replace o1 := o1.calm c2
  replace k1 := k1.trans c2
  have b0 := (o1 0 _ rfl).1
  have b1 := (o1 1 _ rfl).1
  have b2 := (o1 2 _ rfl).1
  have b3 := (o1 3 _ rfl).1
  have f0 := (o1 0 _ rfl).2
  have f1 := (o1 1 _ rfl).2
  have f2 := (o1 2 _ rfl).2
  have f3 := (o1 3 _ rfl).2
  clear c2
  go_wp2_with fail
  have o2 := o1.set4 (.int .i64 p) (.int .i64 d) (.bool wk) (.bool fn)
  replace k1 : Calm w _ := k1.join o2.2 (by intros; omega)
  obtain ⟨W', hW'⟩ : ∃ W', ((((w2.setCell ⟨w.heap.size, 0, none⟩ (.int .i64 p)).setCell ⟨w.heap.size, 1, none⟩ (.int .i64 d)).setCell ⟨w.heap.size, 2, none⟩ (.bool wk)).setCell ⟨w.heap.size, 3, none⟩ (.bool fn)) = W' := ⟨_, rfl⟩
  rw [hW'] at o2 k1 ⊢
  clear b0 b1 b2 b3 f0 f1 f2 f3 o1 hW'
  obtain ⟨o1, -⟩ := o2
  refine (size_yes p d wk fn h1.out _).mono ?_
  rintro e w3 ⟨rfl, c3⟩
  replace o1 := o1.calm c3
  replace k1 := k1.trans c3
  clear c3
  have b0 := (o1 0 _ rfl).1
  have b1 := (o1 1 _ rfl).1
  have b2 := (o1 2 _ rfl).1
  have b3 := (o1 3 _ rfl).1
  have f0 := (o1 0 _ rfl).2
  have f1 := (o1 1 _ rfl).2
  have f2 := (o1 2 _ rfl).2
  have f3 := (o1 3 _ rfl).2
  go_wp2_with fail
  refine (len_is _ b c xs (HA.out.calm k1)).mono ?_
  rintro e w4 ⟨rfl, rfl⟩
  have h5 : ¬ ((3 : Int) + p + d > xs.length - at_) := by omega
  go_wp2
  have o3 := o1.set4 (.int .i64 p) (.int .i64 d) (.bool wk) (.bool fn)
  have u0 := (o3.1 0 _ rfl).1
  have u1 := (o3.1 1 _ rfl).1
  have u2 := (o3.1 2 _ rfl).1
  have u3 := (o3.1 3 _ rfl).1
  have k2 : Calm w _ := k1.join o3.2 (by intros; omega)
  clear b0 b1 b2 b3 f0 f1 f2 f3 o1 o3
  refine bodyPost_ret (v := .tuple #[shV p d wk fn, .bool fr, .int .i64 0]) (by simp [results, Try.f65, go_sem, u0, u1, u2, u3]) rfl ⟨rfl, k2⟩

/-- Where no object is: what one asks for there. -/
def NoObj (xs : List Nat) (at_ : Int) : Prop := at_ < 0 ∨ xs.length ≤ at_

theorem optr_yes (p d : Int) (wk fn : Bool) (at_ i : Int) (w : World) (h1 : 0 ≤ i) (h2 : i < p) (h3 : 0 ≤ at_) (h4 : at_ ≤ 1000000) (h5 : p ≤ 8) :
    Calls Try.prog 90 #[shV p d wk fn, .int .i64 at_, .int .i64 i] w fun e w' => e = .returned (.tuple #[.int .i64 (at_ + 3 + i), .int .i64 0]) ∧ Calm w w' := by
  go_enter Try.func90, Try.ntmps90
  go_wp2
  go_ret2
  exact ⟨rfl, Fr.alloc (Fr.refl _ _) _⟩

theorem optr_no (p d : Int) (wk fn : Bool) (at_ i : Int) (w : World) (h : i < 0 ∨ p ≤ i) :
    Calls Try.prog 90 #[shV p d wk fn, .int .i64 at_, .int .i64 i] w fun e w' => e = .returned (.tuple #[.int .i64 0, .int .i64 71]) ∧ Calm w w' := by
  by_cases hn : i < 0
  all_goals
    go_enter Try.func90, Try.ntmps90
    go_wp2
    go_ret2
    exact ⟨rfl, Fr.alloc (Fr.refl _ _) _⟩

theorem onum_yes (p d : Int) (wk fn : Bool) (at_ i : Int) (w : World) (h1 : 0 ≤ i) (h2 : i < d) (h3 : 0 ≤ at_) (h4 : at_ ≤ 1000000) (h5 : d ≤ 8) (h6 : 0 ≤ p) (h7 : p ≤ 8) :
    Calls Try.prog 103 #[shV p d wk fn, .int .i64 at_, .int .i64 i] w fun e w' => e = .returned (.tuple #[.int .i64 (at_ + 3 + p + i), .int .i64 0]) ∧ Calm w w' := by
  go_enter Try.func103, Try.ntmps103
  go_wp2
  go_ret2
  exact ⟨rfl, Fr.alloc (Fr.refl _ _) _⟩

theorem onum_no (p d : Int) (wk fn : Bool) (at_ i : Int) (w : World) (h : i < 0 ∨ d ≤ i) :
    Calls Try.prog 103 #[shV p d wk fn, .int .i64 at_, .int .i64 i] w fun e w' => e = .returned (.tuple #[.int .i64 0, .int .i64 71]) ∧ Calm w w' := by
  by_cases hn : i < 0
  all_goals
    go_enter Try.func103, Try.ntmps103
    go_wp2
    go_ret2
    exact ⟨rfl, Fr.alloc (Fr.refl _ _) _⟩

end Go.Proofs.Ytiomemdmhcdpbaa

namespace Go.Proofs.Ytiomemdmhcdpbaa
open Go.RowKit Go.Shelf

/-- The words behind a Make. -/
def made (xs : List Nat) (at_ p d : Nat) (wk fn : Bool) (ser : Nat) : List Nat :=
  (((fl xs at_ 0 (3 + p + d)).set at_ (hd p d wk fn false)).set (at_ + 1) 0).set (at_ + 2) ser

theorem omake_yes (w : World) (b c : Nat) (xs : List Nat) (h : Ar w b c xs) (at_ p d : Nat) (wk fn : Bool) (ser : Nat) (hok : okS p d wk fn) (hroom : at_ + (3 + p + d) ≤ xs.length) (hs : ser ≤ 1099511627776) :
    Calls Try.prog 49 #[arV b, .int .i64 at_, shV p d wk fn, .int .i64 ser] w fun e w' => e = .returned (.int .i64 0) ∧ Ar w' b c (made xs at_ p d wk fn ser) ∧ Fr (fun k => k = c) w w' := by
  have h4 := h.2.2.2
  have p8 := hok.1
  have d8 := hok.2.1
  have HA := hid h
  have hcl : c < w.heap.size := (h.cell (k := at_) (by omega)).lt
  clear h
  have hok' := hid hok
  clear hok
  go_enter Try.func49, Try.ntmps49
  have o1 := OwnL.new w [.int .i64 p, .int .i64 d, .bool wk, .bool fn] 32
  have k1 : Calm w (w.alloc (.cells #[.int .i64 p, .int .i64 d, .bool wk, .bool fn] 32)) := Fr.alloc (Fr.refl _ _) _
  go_wp2_with fail
  refine (size_yes p d wk fn hok'.out _).mono ?_
  rintro e w1 ⟨rfl, c1⟩
  replace o1 := o1.calm c1
  replace k1 := k1.trans c1
  clear c1
  go_wp2_with fail
  have hcast : (3 : Int) + p + d = ((3 + p + d : Nat) : Int) := by push_cast; rfl
  rw [hcast]
  refine (fill_yes w1 b c xs (HA.out.calm k1) at_ (3 + p + d) 0 hroom).mono ?_
  rintro e w2 ⟨rfl, ha, f2⟩
  replace o1 := o1.fr f2 (by omega)
  have k2 : Fr (fun k => k = c) w w2 := (Calm.any k1).trans f2
  have b0 := (o1 0 _ rfl).1
  have b1 := (o1 1 _ rfl).1
  have b2 := (o1 2 _ rfl).1
  have b3 := (o1 3 _ rfl).1
  replace ha := hid ha
  replace hcast := hid hcast
  clear k1 f2
  go_wp2_with fail
  refine (head_yes p d wk fn false hok'.out _).mono ?_
  rintro e w3 ⟨rfl, c3⟩
  replace ha := hid (ha.out.calm c3)
  replace k2 := k2.join c3 (fun _ _ h => h.elim)
  clear c3 b0 b1 b2 b3 o1
  have hl := fl_length xs at_ 0 (3 + p + d)
  go_wp2_with fail
  refine (free_yes 0 (by decide) (by decide) _).mono ?_
  rintro e w4 ⟨rfl, rfl⟩
  go_wp2_with fail
  refine (store_yes _ b c _ ha.out at_ (by omega) (hd p d wk fn false)).mono ?_
  rintro e w5 ⟨rfl, rfl⟩
  have a1 := hid (ha.out.set (k := at_) (by omega) (hd p d wk fn false))
  have k3 := k2.setCell (p := ⟨c, at_, none⟩) (.inl rfl) (wV (hd p d wk fn false))
  go_wp2_with fail
  have hc1 : ((at_ : Int) + 1) = ((at_ + 1 : Nat) : Int) := by push_cast; rfl
  rw [hc1]
  have hl1 : ((fl xs at_ 0 (3 + p + d)).set at_ (hd p d wk fn false)).length = xs.length := by rw [List.length_set, hl]
  refine (store_yes _ b c _ a1.out (at_ + 1) (by omega) 0).mono ?_
  rintro e w6 ⟨rfl, rfl⟩
  have a2 := hid (a1.out.set (k := at_ + 1) (by omega) 0)
  have k4 := k3.setCell (p := ⟨c, at_ + 1, none⟩) (.inl rfl) (wV 0)
  clear k2 k3 a1 ha hl
  replace hc1 := hid hc1
  replace hl1 := hid hl1
  go_wp2_with fail
  have hc2 : ((at_ : Int) + 2) = ((at_ + 2 : Nat) : Int) := by push_cast; rfl
  rw [hc2]
  have hl2 : (((fl xs at_ 0 (3 + p + d)).set at_ (hd p d wk fn false)).set (at_ + 1) 0).length = xs.length := by rw [List.length_set, hl1.out]
  refine (store_yes _ b c _ a2.out (at_ + 2) (by omega) ser).mono ?_
  rintro e w7 ⟨rfl, rfl⟩
  have a3 := hid (a2.out.set (k := at_ + 2) (by omega) ser)
  have k5 := k4.setCell (p := ⟨c, at_ + 2, none⟩) (.inl rfl) (wV ser)
  replace hc2 := hid hc2
  replace hl2 := hid hl2
  go_wp2
  go_ret
  exact ⟨rfl, a3.out, k5⟩

end Go.Proofs.Ytiomemdmhcdpbaa
