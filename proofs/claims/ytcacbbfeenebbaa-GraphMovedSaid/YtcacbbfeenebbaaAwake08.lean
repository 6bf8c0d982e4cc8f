/- Layer 8's example. -/
import Derived.Test.YtcacbbfeenebbaaMovL
import Derived.Test.YtcacbbfeenebbaaMover5
import Derived.Test.YtcacbbfeenebbaaInts08
set_option linter.unusedSimpArgs false
set_option linter.unusedVariables false
namespace Go.Proofs.Ytcacbbfeenebbaa
open Go.RowKit Go.Shelf

def o08 : Ob := Ob.new 1 1 false false 3
def x08 : List Nat := made (List.replicate 60 0) 1 1 1 false false 3
def y08 : List Nat := cpd x08 1 20 o08.size
theorem x08_len : x08.length = 60 := by rw [x08, made_length]; simp
theorem o08_size : o08.size = 5 := rfl
theorem x08_at : At x08 1 o08 := made_at ⟨by decide, by decide, fun h => by cases h⟩ (by decide) (by decide)
theorem y08_at : At y08 20 o08 := cpd_at x08_at (by rw [x08_len, o08_size]; decide) (.inl (by rw [o08_size]; decide))
theorem y08_gone : Gone y08 1 20 := cpd_gone x08_at (by rw [x08_len, o08_size]; decide) (by decide) (by decide)
theorem rnd5 : rnd 5 = 6 := by decide
theorem o08_took : o08.took = 6 := by rw [Ob.took, o08_size]; exact congrArg Int.toNat rnd5
theorem y08_lie : Lie y08 20 26 [(20, o08)] := ⟨rfl, x08_at.ok, .inl y08_at, by show 20 + o08.took = 26; rw [o08_took]⟩

set_option maxRecDepth 100000 in
set_option maxHeartbeats 2000000 in
theorem awake08 (w : World) :
    Calls Try.prog 29 #[] w fun e w' => e = .returned (.bool true) ∧ Calm w w' := by
  have ok : Hid (okS 1 1 false false) := ⟨by decide, by decide, fun h => by cases h⟩
  go_enter Try.func29, Try.ntmps29
  go_wp2_with fail
  refine (new_yes _ 60 (by decide) (by decide)).mono ?_
  rintro e w1 ⟨b, c, rfl, ar, c1, lb, lc⟩
  go_wp2_with fail
  refine (omake_yes _ b c _ ar 1 1 1 false false 3 ok.out (by simp) (by decide)).mono ?_
  rintro e w2 ⟨rfl, ar, f2⟩
  replace ar : Ar w2 b c x08 := ar
  replace c1 := c1.join f2 (fun k hk (e : k = c) => absurd hk (by omega))
  clear f2
  go_wp2_with fail
  refine (make_yes 20 30 _ (by decide) (by decide) (by decide) (by decide)).mono ?_
  rintro e w3 ⟨rfl, c3⟩
  have o3 := OwnL.new w3 [.int .i64 20, .int .i64 30, .int .i64 20] 61
  replace c3 := c3.alloc (.cells #[.int .i64 20, .int .i64 30, .int .i64 20] 61)
  replace ar := ar.calm c3
  replace c1 := c1.trans c3
  clear c3
  have x0 := (o3 0 _ rfl).1
  have x1 := (o3 1 _ rfl).1
  have x2 := (o3 2 _ rfl).1
  go_wp2_with fail
  have hcp := copy_yes _ b c x08 ar 1 o08 x08_at 20 30 20 ⟨by decide, by decide, by decide, by decide, by decide, by decide⟩ (by rw [o08_size]; show rnd 5 ≤ 30 - (20 - 20); rw [rnd5]; decide) (by decide) (by rw [x08_len, o08_size]; decide)
  rw [show ((20 : Nat) : Int) + rnd o08.size = 26 from by rw [o08_size]; show (20 : Int) + rnd 5 = 26; rw [rnd5]; rfl] at hcp
  refine (hcp).mono ?_
  rintro e w4 ⟨rfl, ar, f4⟩
  replace ar : Ar w4 b c y08 := ar
  replace c1 := c1.join f4 (fun k hk (e : k = c) => absurd hk (by omega))
  clear f4 hcp x0 x1 x2 o3
  have o5 := OwnL.new w4 [.int .i64 20, .int .i64 30, .int .i64 26] 61
  have c5 : Calm w4 (w4.alloc (.cells #[.int .i64 20, .int .i64 30, .int .i64 26] 61)) := (Fr.refl _ _).alloc _
  replace ar := ar.calm c5
  replace c1 := c1.trans c5
  clear c5
  go_wp2_with fail
  refine (mat_gone _ b c y08 ar 1 20 y08_gone).mono ?_
  rintro e w' ⟨rfl, rfl⟩
  go_wp2_with fail
  refine (at_serial ar y08_at).mono ?_
  rintro e w6 ⟨rfl, c6⟩
  rw [show (o08.ser : Int) = 3 from rfl]
  replace ar := ar.calm c6
  replace o5 := o5.calm c6
  replace c1 := c1.trans c6
  clear c6
  have x0 := (o5 0 _ rfl).1
  have x1 := (o5 1 _ rfl).1
  have x2 := (o5 2 _ rfl).1
  go_wp2_with fail
  refine (used_any 20 30 26 _ ⟨by decide, by decide, by decide, by decide, by decide, by decide⟩).mono ?_
  rintro e w7 ⟨rfl, c7⟩
  replace ar := ar.calm c7
  replace o5 := o5.calm c7
  replace c1 := c1.trans c7
  clear c7 x0 x1 x2
  have x0 := (o5 0 _ rfl).1
  have x1 := (o5 1 _ rfl).1
  have x2 := (o5 2 _ rfl).1
  go_wp2_with fail
  refine (walk_is ar 20 30 26 ⟨by decide, by decide, by decide, by decide, by decide, by decide⟩ _ y08_lie).mono ?_
  rintro e w8 ⟨v, rfl, rv, c8⟩
  replace c1 := c1.trans c8
  go_wp2_with fail
  refine (ints08 v _ [20] [20] _ (rv.row.calm ((Fr.refl _ _).alloc _)) (Row.new w8 (iVs [20]) 3 1) (by decide) (by decide)).mono ?_
  rintro e w9 ⟨rfl, c9⟩
  go_wp2
  go_ret
  exact ⟨by simp, (c1.alloc _).trans c9⟩

end Go.Proofs.Ytcacbbfeenebbaa
