/- Layer 7's row: two objects one behind the other. -/
import Derived.Test.YtoonimdohkbfgaaLaw07
import Derived.Test.YtoonimdohkbfgaaHead
set_option linter.unusedSimpArgs false
set_option linter.unusedVariables false
namespace Go.Proofs.Ytoonimdohkbfgaa
open Go.RowKit Go.Shelf

/-- Three ints of an array. -/
theorem arr3 {xs : List Int} (h : xs.length = 3) (hb : ∀ x ∈ xs, I64 x) : ∃ a b c : Int, xs = [a, b, c] ∧ I64 a ∧ I64 b ∧ I64 c := by
  match xs, h with
  | [a, b, c], _ => exact ⟨a, b, c, rfl, hb a (by simp), hb b (by simp), hb c (by simp)⟩

/-- Two objects one behind the other. -/
def RowPost (a0 a1 a2 b0 b1 b2 : Int) (w : World) (e : Ending) (w' : World) : Prop :=
  ∃ (b c : Nat) (p d : Nat) (wk fn : Bool) (p' d' : Nat) (wk' fn' : Bool), okS p d wk fn ∧ okS p' d' wk' fn' ∧
   e = .returned (.tuple #[arV b, shV p d wk fn, shV p' d' wk' fn', .int .i64 (3 + p + d : Nat)]) ∧ Ar w' b c (made (made (List.replicate 60 0) 0 p d wk fn 1) (3 + p + d) p' d' wk' fn' 2) ∧ Calm w w' ∧ w.heap.size ≤ b ∧ w.heap.size ≤ c ∧ IsFit a0 a1 a2 p d wk fn ∧ IsFit b0 b1 b2 p' d' wk' fn'

set_option maxRecDepth 100000 in
set_option maxHeartbeats 1000000 in
theorem row07 (a0 a1 a2 b0 b1 b2 : Int) (A0 : I64 a0) (A1 : I64 a1) (A2 : I64 a2) (B0 : I64 b0) (B1 : I64 b1) (B2 : I64 b2) (w : World) :
    Calls Try.prog 6 #[.agg #[.int .i64 a0, .int .i64 a1, .int .i64 a2], .agg #[.int .i64 b0, .int .i64 b1, .int .i64 b2]] w (RowPost a0 a1 a2 b0 b1 b2 w) := by
  have A0 := hid A0
  have A1 := hid A1
  have A2 := hid A2
  have B0 := hid B0
  have B1 := hid B1
  have B2 := hid B2
  go_enter Try.func6, Try.ntmps6
  go_wp2_with fail
  refine (new_yes _ 60 (by decide) (by decide)).mono ?_
  rintro e w1 ⟨b, c, rfl, ar, c1, lb, lc⟩
  have oa := ((((OwnL.new w [.int .i64 a0, .int .i64 a1, .int .i64 a2] 22).alloc _).alloc _).alloc _).calm c1
  have ob := (((OwnL.at _ [.int .i64 b0, .int .i64 b1, .int .i64 b2] 22 (w.heap.size + 1) (by simp)).alloc _).alloc _).calm c1
  have o5 := ((OwnL.at _ [.int .i64 0, .int .i64 0, .bool false, .bool false] 27 (w.heap.size + 1 + 1) (by simp)).alloc _).calm c1
  have o6 := (OwnL.at _ [.int .i64 0, .int .i64 0, .bool false, .bool false] 27 (w.heap.size + 1 + 1 + 1) (by simp)).calm c1
  simp only [World.size_alloc] at lb lc
  have k1 : Calm w w1 := (((((Fr.refl _ w).alloc _).alloc _).alloc _).alloc _).trans c1
  clear c1
  have lt1 := o6.lt (by simp)
  have hb0 : w.heap.size ≤ b := by omega
  have hc0 : w.heap.size ≤ c := by omega
  have hcl := (ar.cell (k := 0) (by simp)).lt
  have x0 := (oa 0 _ rfl).1
  have x1 := (oa 1 _ rfl).1
  have x2 := (oa 2 _ rfl).1
  go_wp2_with fail
  refine (fit06d a0 a1 a2 A0.out A1.out A2.out _).mono ?_
  rintro e w2 ⟨p, d, wk, fn, hok, rfl, c2, ft⟩
  replace ft := hid ft
  replace ob := ob.calm c2
  replace o5 := o5.calm c2
  replace o6 := o6.calm c2
  replace ar := ar.calm c2
  have lt2 := c2.size
  replace k1 := k1.trans c2
  clear x0 x1 x2 oa c2
  have x0 := (ob 0 _ rfl).1
  have x1 := (ob 1 _ rfl).1
  have x2 := (ob 2 _ rfl).1
  have lt3 := ob.lt (by simp)
  go_wp2_with fail
  refine (fit06d b0 b1 b2 B0.out B1.out B2.out _).mono ?_
  rintro e w3 ⟨p', d', wk', fn', hok', rfl, c3, ft'⟩
  replace ft' := hid ft'
  have o10 := (OwnL.new w2 [.int .i64 p, .int .i64 d, .bool wk, .bool fn] 27).calm c3
  replace c3 := ((Fr.refl (fun _ => False) w2).alloc _).trans c3
  replace o5 := o5.calm c3
  replace o6 := o6.calm c3
  replace ar := ar.calm c3
  have lt4 := c3.size
  have lt5 := o10.lt (by simp)
  replace k1 := k1.trans c3
  generalize w2.heap.size = C at *
  clear x0 x1 x2 ob c3 lt3
  have HOK := hid hok
  have HOK' := hid hok'
  have p8 := hok.1
  have d8 := hok.2.1
  have p8' := hok'.1
  have d8' := hok'.2.1
  clear hok hok'
  have x0 := (o10 0 _ rfl).1
  have x1 := (o10 1 _ rfl).1
  have x2 := (o10 2 _ rfl).1
  have x3 := (o10 3 _ rfl).1
  go_wp2_with fail
  have o11 := OwnL.new w3 [.int .i64 p', .int .i64 d', .bool wk', .bool fn'] 27
  have c4 : Calm w3 (w3.alloc (.cells #[.int .i64 p', .int .i64 d', .bool wk', .bool fn'] 27)) := Fr.alloc (Fr.refl _ _) _
  replace o5 := o5.calm c4
  replace o6 := o6.calm c4
  replace o10 := o10.calm c4
  replace ar := ar.calm c4
  replace k1 := k1.trans c4
  clear c4
  refine (omake_yes _ b c _ ar 0 p d wk fn 1 HOK.out (by simp; omega) (by decide)).mono ?_
  rintro e w4 ⟨rfl, ar1, f1⟩
  replace o5 := o5.fr f1 (by omega)
  replace o6 := o6.fr f1 (by omega)
  replace o10 := o10.fr f1 (by omega)
  replace o11 := o11.fr f1 (by omega)
  replace k1 := k1.join f1 (fun k hk e => by omega)
  have lt6 := f1.size
  rw [World.size_alloc] at lt6
  generalize w3.heap.size = D at *
  clear x0 x1 x2 x3 f1 ar
  have x0 := (o10 0 _ rfl).1
  have x1 := (o10 1 _ rfl).1
  have x2 := (o10 2 _ rfl).1
  have x3 := (o10 3 _ rfl).1
  have y0 := (o11 0 _ rfl).1
  have y1 := (o11 1 _ rfl).1
  have y2 := (o11 2 _ rfl).1
  have y3 := (o11 3 _ rfl).1
  have hl1 : (made (List.replicate 60 0) 0 p d wk fn 1).length = 60 := by rw [made_length]; simp
  go_wp2_with fail
  have hcast : (3 : Int) + p + d = ((3 + p + d : Nat) : Int) := by push_cast; rfl
  rw [hcast]
  refine (omake_yes _ b c _ ar1 (3 + p + d) p' d' wk' fn' 2 HOK'.out (by rw [hl1]; omega) (by decide)).mono ?_
  rintro e w5 ⟨rfl, ar2, f2⟩
  replace o5 := o5.fr f2 (by omega)
  replace o6 := o6.fr f2 (by omega)
  replace o10 := o10.fr f2 (by omega)
  replace o11 := o11.fr f2 (by omega)
  replace k1 := k1.join f2 (fun k hk e => by omega)
  have lt7 := f2.size
  replace hcast := hid hcast
  replace hl1 := hid hl1
  clear x0 x1 x2 x3 y0 y1 y2 y3 f2 ar1
  have x0 := (o10 0 _ rfl).1
  have x1 := (o10 1 _ rfl).1
  have x2 := (o10 2 _ rfl).1
  have x3 := (o10 3 _ rfl).1
  have y0 := (o11 0 _ rfl).1
  have y1 := (o11 1 _ rfl).1
  have y2 := (o11 2 _ rfl).1
  have y3 := (o11 3 _ rfl).1
  have ne5 := o5.lt (by simp)
  have ne6 := o6.lt (by simp)
  have p0 := (o5 0 _ rfl).1
  have q0 := (o5 0 _ rfl).2
  have p1 := (o5 1 _ rfl).1
  have q1 := (o5 1 _ rfl).2
  have p2 := (o5 2 _ rfl).1
  have q2 := (o5 2 _ rfl).2
  have p3 := (o5 3 _ rfl).1
  have q3 := (o5 3 _ rfl).2
  have r0 := (o6 0 _ rfl).1
  have s0 := (o6 0 _ rfl).2
  have r1 := (o6 1 _ rfl).1
  have s1 := (o6 1 _ rfl).2
  have r2 := (o6 2 _ rfl).1
  have s2 := (o6 2 _ rfl).2
  have r3 := (o6 3 _ rfl).1
  have s3 := (o6 3 _ rfl).2
  go_wp2_with fail
  go_region
  go_wp2
  have q5 := (o5.set4 (.int .i64 p) (.int .i64 d) (.bool wk) (.bool fn))
  have q6 := (o6.fr q5.2 (by omega)).set4 (.int .i64 p') (.int .i64 d') (.bool wk') (.bool fn')
  have z5 := q5.1.fr q6.2 (by omega)
  replace k1 := (k1.join q5.2 (fun k hk e => by omega)).join q6.2 (fun k hk e => by omega)
  replace ar2 := (ar2.fr q5.2 (by omega) (by omega)).fr q6.2 (by omega) (by omega)
  replace q6 := q6.1
  clear q5 p0 q0 p1 q1 p2 q2 p3 q3 r0 s0 r1 s1 r2 s2 r3 s3 x0 x1 x2 x3 y0 y1 y2 y3 o5 o6 o10 o11
  have x0 := (z5 0 _ rfl).1
  have x1 := (z5 1 _ rfl).1
  have x2 := (z5 2 _ rfl).1
  have x3 := (z5 3 _ rfl).1
  have y0 := (q6 0 _ rfl).1
  have y1 := (q6 1 _ rfl).1
  have y2 := (q6 2 _ rfl).1
  have y3 := (q6 3 _ rfl).1
  refine bodyPost_ret (v := .tuple #[arV b, shV p d wk fn, shV p' d' wk' fn', .int .i64 (3 + p + d : Nat)]) (by simp [results, Try.f6, go_sem, x0, x1, x2, x3, y0, y1, y2, y3]) rfl ?_
  exact ⟨b, c, p, d, wk, fn, p', d', wk', fn', HOK.out, HOK'.out, rfl, ar2.calm (Fr.refl _ _).drew, k1.drew, hb0, hc0, ft.out, ft'.out⟩

end Go.Proofs.Ytoonimdohkbfgaa
