/- What the functions of package mover return: words; how objects lie in a space. -/
import Derived.Test.YtcacbbfeenebbaaMover3
set_option linter.unusedSimpArgs false
set_option linter.unusedVariables false
namespace Go.Proofs.Ytcacbbfeenebbaa
open Go.RowKit Go.Shelf

/-- The object that lay, or lies, at a place: here, or where it is gone to. -/
def Was (xs : List Nat) (a : Nat) (o : Ob) : Prop := At xs a o ∨ ∃ t, Gone xs a t ∧ At xs t o

set_option maxHeartbeats 1000000 in
theorem words_yes {w : World} {b c : Nat} {xs : List Nat} (h : Ar w b c xs) {a : Nat} {o : Ob} (ho : Was xs a o) :
    Calls Try.prog 86 #[arV b, .int .i64 a] w fun e w' => e = .returned (.tuple #[.int .i64 (rnd o.size), .bool true]) ∧ Calm w w' := by
  have HA := hid h
  have hs : Hid (o.size = 3 + o.p + o.d) := rfl
  rcases ho with ho | ⟨t, hg, ho⟩
  · have HO := hid ho
    have p8 := ho.ok.sh.1
    have d8 := ho.ok.sh.2.1
    clear h ho
    go_enter Try.func86, Try.ntmps86
    go_wp2_with fail
    refine (mat_here _ b c xs HA.out a o HO.out).mono ?_
    rintro e w' ⟨rfl, rfl⟩
    go_wp2_with fail
    refine (at_shape HA.out HO.out).mono ?_
    rintro e w1 ⟨rfl, c1⟩
    have o6 := OwnL.new w1 [.int .i64 o.p, .int .i64 o.d, .bool o.wk, .bool o.fn] 31
    replace c1 := c1.alloc (.cells #[.int .i64 o.p, .int .i64 o.d, .bool o.wk, .bool o.fn] 31)
    have x0 := (o6 0 _ rfl).1
    have x1 := (o6 1 _ rfl).1
    have x2 := (o6 2 _ rfl).1
    have x3 := (o6 3 _ rfl).1
    go_wp2_with fail
    refine (size_yes o.p o.d o.wk o.fn HO.out.ok.sh _).mono ?_
    rintro e w2 ⟨rfl, c2⟩
    replace c1 := c1.trans c2
    clear c2 x0 x1 x2 x3 o6
    have hc : (3 : Int) + o.p + o.d = (o.size : Int) := by rw [hs.out]; push_cast; rfl
    rw [hc]
    have hb1 : o.size ≤ 19 := by have := hs.out; omega
    have hb2 : 3 ≤ o.size := by have := hs.out; omega
    replace hc := hid hc
    go_wp2_with fail
    refine (round_yes _ (by omega) (by omega) _).mono ?_
    rintro e w3 ⟨rfl, c3⟩
    go_wp2
    go_ret2
    exact ⟨rfl, c1.trans c3⟩
  · have HO := hid ho
    have HG := hid hg
    have p8 := ho.ok.sh.1
    have d8 := ho.ok.sh.2.1
    clear h ho hg
    go_enter Try.func86, Try.ntmps86
    go_wp2_with fail
    refine (mat_gone _ b c xs HA.out a t HG.out).mono ?_
    rintro e w' ⟨rfl, rfl⟩
    go_wp2_with fail
    refine (at_shape HA.out HO.out).mono ?_
    rintro e w1 ⟨rfl, c1⟩
    have o6 := OwnL.new w1 [.int .i64 o.p, .int .i64 o.d, .bool o.wk, .bool o.fn] 31
    replace c1 := c1.alloc (.cells #[.int .i64 o.p, .int .i64 o.d, .bool o.wk, .bool o.fn] 31)
    have x0 := (o6 0 _ rfl).1
    have x1 := (o6 1 _ rfl).1
    have x2 := (o6 2 _ rfl).1
    have x3 := (o6 3 _ rfl).1
    go_wp2_with fail
    refine (size_yes o.p o.d o.wk o.fn HO.out.ok.sh _).mono ?_
    rintro e w2 ⟨rfl, c2⟩
    replace c1 := c1.trans c2
    clear c2 x0 x1 x2 x3 o6
    have hc : (3 : Int) + o.p + o.d = (o.size : Int) := by rw [hs.out]; push_cast; rfl
    rw [hc]
    have hb1 : o.size ≤ 19 := by have := hs.out; omega
    have hb2 : 3 ≤ o.size := by have := hs.out; omega
    replace hc := hid hc
    go_wp2_with fail
    refine (round_yes _ (by omega) (by omega) _).mono ?_
    rintro e w3 ⟨rfl, c3⟩
    go_wp2
    go_ret2
    exact ⟨rfl, c1.trans c3⟩

/-- How many words an object takes. -/
def Ob.took (o : Ob) : Nat := (rnd o.size).toNat
theorem Ob.took_eq {o : Ob} (h : o.Ok) : (o.took : Int) = rnd o.size ∧ o.size ≤ o.took ∧ 4 ≤ o.took ∧ o.took ≤ 24 := by
  have h1 : o.size = 3 + o.p + o.d := rfl
  have h2 := h.sh.1
  have h3 := h.sh.2.1
  have h4 := rnd_spec (n := (o.size : Int)) (by omega)
  have h5 := rnd_mono (a := (o.size : Int)) (b := 19) (by omega) (by omega)
  have h6 : rnd 19 = 24 := by decide
  unfold Ob.took
  omega

/-- Objects one behind the other, from a place to another: their places. -/
def Lie (xs : List Nat) : Nat → Nat → List (Nat × Ob) → Prop
  | b, e, [] => b = e
  | b, e, (a, o) :: l => a = b ∧ o.Ok ∧ Was xs a o ∧ Lie xs (b + o.took) e l

theorem Lie.le {xs : List Nat} : ∀ {l : List (Nat × Ob)} {b e : Nat}, Lie xs b e l → b + 4 * l.length ≤ e
  | [], b, e, h => by simp [Lie] at h; simp; omega
  | (a, o) :: l, b, e, ⟨_, h1, _, h2⟩ => by
    have := Lie.le h2
    have := (Ob.took_eq h1).2.2.1
    simp; omega

end Go.Proofs.Ytcacbbfeenebbaa
