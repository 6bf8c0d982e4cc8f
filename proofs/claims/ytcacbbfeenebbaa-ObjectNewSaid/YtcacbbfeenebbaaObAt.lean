/- What the functions of package object do to objects. -/
import Derived.Test.YtcacbbfeenebbaaObL
import Derived.Test.YtcacbbfeenebbaaObject8
set_option linter.unusedSimpArgs false
set_option linter.unusedVariables false
namespace Go.Proofs.Ytcacbbfeenebbaa
open Go.RowKit Go.Shelf

section
variable {w : World} {b c : Nat} {xs : List Nat} (h : Ar w b c xs) {a : Nat} {o : Ob} (ho : At xs a o)
include h ho

theorem at_shape : Calls Try.prog 21 #[arV b, .int .i64 a] w fun e w' => e = .returned (.tuple #[shV o.p o.d o.wk o.fn, .bool o.fr, .int .i64 0]) ∧ Calm w w' :=
  oshape_yes w b c xs h a _ _ _ _ _ ho.isObj

theorem at_serial : Calls Try.prog 20 #[arV b, .int .i64 a] w fun e w' => e = .returned (.tuple #[.int .i64 o.ser, .int .i64 0]) ∧ Calm w w' := by
  have := oserial_yes w b c xs h a _ _ _ _ _ ho.isObj (by rw [ho.ser]; exact ho.ok.ser)
  rwa [ho.ser] at this

theorem at_second : Calls Try.prog 19 #[arV b, .int .i64 a] w fun e w' => e = .returned (.tuple #[wV o.snd, .int .i64 0]) ∧ Calm w w' := by
  have := osecond_yes w b c xs h a _ _ _ _ _ ho.isObj
  rwa [ho.snd] at this

theorem at_ptr {i : Nat} (hi : i < o.p) : Calls Try.prog 25 #[arV b, .int .i64 a, .int .i64 i] w fun e w' => e = .returned (.tuple #[.int .i64 (o.ps.getD i 0 : Nat), .int .i64 0]) ∧ Calm w w' := by
  have := ogetptr_yes w b c xs h a _ _ _ _ _ ho.isObj i hi (by rw [ho.ptr hi]; have := ho.ok.ptr hi; omega)
  rwa [ho.ptr hi] at this

theorem at_ptr_no {i : Int} (hi : i < 0 ∨ (o.p : Int) ≤ i) : Calls Try.prog 25 #[arV b, .int .i64 a, .int .i64 i] w fun e w' => e = .returned (.tuple #[.int .i64 0, .int .i64 71]) ∧ Calm w w' :=
  ogetptr_no w b c xs h a _ _ _ _ _ ho.isObj i hi

theorem at_num {i : Nat} (hi : i < o.d) : Calls Try.prog 26 #[arV b, .int .i64 a, .int .i64 i] w fun e w' => e = .returned (.tuple #[.int .i64 (zt (o.ns.getD i 0)), .int .i64 0]) ∧ Calm w w' := by
  have := ogetnum_yes w b c xs h a _ _ _ _ _ ho.isObj i hi (by rw [ho.num hi]; exact ho.ok.num hi)
  rwa [ho.num hi] at this

theorem at_num_no {i : Int} (hi : i < 0 ∨ (o.d : Int) ≤ i) : Calls Try.prog 26 #[arV b, .int .i64 a, .int .i64 i] w fun e w' => e = .returned (.tuple #[.int .i64 0, .int .i64 71]) ∧ Calm w w' :=
  ogetnum_no w b c xs h a _ _ _ _ _ ho.isObj i hi

theorem at_setptr {i v : Nat} (hi : i < o.p) (hv : v ≤ 131072) : Calls Try.prog 23 #[arV b, .int .i64 a, .int .i64 i, .int .i64 v] w fun e w' => e = .returned (.int .i64 0) ∧ Ar w' b c (xs.set (a + 3 + i) v) ∧ Fr (fun k => k = c) w w' :=
  osetptr_yes w b c xs h a _ _ _ _ _ ho.isObj i hi v hv

theorem at_setptr_no {i v : Int} (hi : i < 0 ∨ (o.p : Int) ≤ i) : Calls Try.prog 23 #[arV b, .int .i64 a, .int .i64 i, .int .i64 v] w fun e w' => e = .returned (.int .i64 71) ∧ Calm w w' :=
  osetptr_no w b c xs h a _ _ _ _ _ ho.isObj i v hi

theorem at_setnum {i : Nat} {v : Int} (hi : i < o.d) (hv : I64 v) : Calls Try.prog 24 #[arV b, .int .i64 a, .int .i64 i, .int .i64 v] w fun e w' => e = .returned (.int .i64 0) ∧ Ar w' b c (xs.set (a + 3 + o.p + i) (zg v)) ∧ Fr (fun k => k = c) w w' :=
  osetnum_yes w b c xs h a _ _ _ _ _ ho.isObj i hi v hv

theorem at_setnum_no {i v : Int} (hi : i < 0 ∨ (o.d : Int) ≤ i) : Calls Try.prog 24 #[arV b, .int .i64 a, .int .i64 i, .int .i64 v] w fun e w' => e = .returned (.int .i64 71) ∧ Calm w w' :=
  osetnum_no w b c xs h a _ _ _ _ _ ho.isObj i v hi

theorem at_setfreed (fr' : Bool) : Calls Try.prog 27 #[arV b, .int .i64 a, .bool fr'] w fun e w' => e = .returned (.int .i64 0) ∧ Ar w' b c (xs.set a (hd o.p o.d o.wk o.fn fr')) ∧ Fr (fun k => k = c) w w' :=
  osetfreed_yes w b c xs h a _ _ _ _ _ _ ho.isObj

theorem at_setsecond (v : Nat) : Calls Try.prog 28 #[arV b, .int .i64 a, wV v] w fun e w' => e = .returned (.int .i64 0) ∧ Ar w' b c (xs.set (a + 1) v) ∧ Fr (fun k => k = c) w w' :=
  osetsecond_yes w b c xs h a _ _ _ _ _ ho.isObj v
end

end Go.Proofs.Ytcacbbfeenebbaa
