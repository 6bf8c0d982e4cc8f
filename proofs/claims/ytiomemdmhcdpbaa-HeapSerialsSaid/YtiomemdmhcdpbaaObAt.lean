/- What the functions of package object do to objects. -/
import Derived.Test.YtiomemdmhcdpbaaObL
import Derived.Test.YtiomemdmhcdpbaaObject8
set_option linter.unusedSimpArgs false
set_option linter.unusedVariables false
namespace Go.Proofs.Ytiomemdmhcdpbaa
open Go.RowKit Go.Shelf

/-- The field k is there, or it is not. -/
def Has (bp : Bool) (k : Int) (n : Nat) : Prop := (bp = true ∧ 0 ≤ k ∧ k < n) ∨ (bp = false ∧ (k < 0 ∨ (n : Int) ≤ k))

section
variable {w : World} {b c : Nat} {xs : List Nat} (h : Ar w b c xs) {a : Nat} {o : Ob} (ho : At xs a o)
include h ho

theorem at_shape : Calls Try.prog 65 #[arV b, .int .i64 a] w fun e w' => e = .returned (.tuple #[shV o.p o.d o.wk o.fn, .bool o.fr, .int .i64 0]) ∧ Calm w w' :=
  oshape_yes w b c xs h a _ _ _ _ _ ho.isObj

theorem at_serial : Calls Try.prog 52 #[arV b, .int .i64 a] w fun e w' => e = .returned (.tuple #[.int .i64 o.ser, .int .i64 0]) ∧ Calm w w' := by
  have := oserial_yes w b c xs h a _ _ _ _ _ ho.isObj (by rw [ho.ser]; exact ho.ok.ser)
  rwa [ho.ser] at this

theorem at_ptr {i : Nat} (hi : i < o.p) : Calls Try.prog 62 #[arV b, .int .i64 a, .int .i64 i] w fun e w' => e = .returned (.tuple #[.int .i64 (o.ps.getD i 0 : Nat), .int .i64 0]) ∧ Calm w w' := by
  have := ogetptr_yes w b c xs h a _ _ _ _ _ ho.isObj i hi (by rw [ho.ptr hi]; have := ho.ok.ptr hi; omega)
  rwa [ho.ptr hi] at this

theorem at_ptr_no {i : Int} (hi : i < 0 ∨ (o.p : Int) ≤ i) : Calls Try.prog 62 #[arV b, .int .i64 a, .int .i64 i] w fun e w' => e = .returned (.tuple #[.int .i64 0, .int .i64 71]) ∧ Calm w w' :=
  ogetptr_no w b c xs h a _ _ _ _ _ ho.isObj i hi

theorem at_num {i : Nat} (hi : i < o.d) : Calls Try.prog 75 #[arV b, .int .i64 a, .int .i64 i] w fun e w' => e = .returned (.tuple #[.int .i64 (zt (o.ns.getD i 0)), .int .i64 0]) ∧ Calm w w' := by
  have := ogetnum_yes w b c xs h a _ _ _ _ _ ho.isObj i hi (by rw [ho.num hi]; exact ho.ok.num hi)
  rwa [ho.num hi] at this

theorem at_num_no {i : Int} (hi : i < 0 ∨ (o.d : Int) ≤ i) : Calls Try.prog 75 #[arV b, .int .i64 a, .int .i64 i] w fun e w' => e = .returned (.tuple #[.int .i64 0, .int .i64 71]) ∧ Calm w w' :=
  ogetnum_no w b c xs h a _ _ _ _ _ ho.isObj i hi

theorem at_setptr {i v : Nat} (hi : i < o.p) (hv : v ≤ 131072) : Calls Try.prog 59 #[arV b, .int .i64 a, .int .i64 i, .int .i64 v] w fun e w' => e = .returned (.int .i64 0) ∧ Ar w' b c (xs.set (a + 3 + i) v) ∧ Fr (fun k => k = c) w w' :=
  osetptr_yes w b c xs h a _ _ _ _ _ ho.isObj i hi v hv

theorem at_setptr_no {i v : Int} (hi : i < 0 ∨ (o.p : Int) ≤ i) : Calls Try.prog 59 #[arV b, .int .i64 a, .int .i64 i, .int .i64 v] w fun e w' => e = .returned (.int .i64 71) ∧ Calm w w' :=
  osetptr_no w b c xs h a _ _ _ _ _ ho.isObj i v hi

theorem at_setnum {i : Nat} {v : Int} (hi : i < o.d) (hv : I64 v) : Calls Try.prog 76 #[arV b, .int .i64 a, .int .i64 i, .int .i64 v] w fun e w' => e = .returned (.int .i64 0) ∧ Ar w' b c (xs.set (a + 3 + o.p + i) (zg v)) ∧ Fr (fun k => k = c) w w' :=
  osetnum_yes w b c xs h a _ _ _ _ _ ho.isObj i hi v hv

theorem at_setnum_no {i v : Int} (hi : i < 0 ∨ (o.d : Int) ≤ i) : Calls Try.prog 76 #[arV b, .int .i64 a, .int .i64 i, .int .i64 v] w fun e w' => e = .returned (.int .i64 71) ∧ Calm w w' :=
  osetnum_no w b c xs h a _ _ _ _ _ ho.isObj i v hi

theorem at_setfreed (fr' : Bool) : Calls Try.prog 77 #[arV b, .int .i64 a, .bool fr'] w fun e w' => e = .returned (.int .i64 0) ∧ Ar w' b c (xs.set a (hd o.p o.d o.wk o.fn fr')) ∧ Fr (fun k => k = c) w w' :=
  osetfreed_yes w b c xs h a _ _ _ _ _ _ ho.isObj

theorem at_setsecond (v : Nat) : Calls Try.prog 78 #[arV b, .int .i64 a, wV v] w fun e w' => e = .returned (.int .i64 0) ∧ Ar w' b c (xs.set (a + 1) v) ∧ Fr (fun k => k = c) w w' :=
  osetsecond_yes w b c xs h a _ _ _ _ _ ho.isObj v

theorem at_ptr_if {bp : Bool} {k : Int} (hk : Has bp k o.p) : Calls Try.prog 62 #[arV b, .int .i64 a, .int .i64 k] w fun e w' => e = .returned (.tuple #[.int .i64 (bif bp then (o.ps.getD k.toNat 0 : Nat) else 0), .int .i64 (bif bp then 0 else 71)]) ∧ Calm w w' := by
  rcases hk with ⟨rfl, h1, h2⟩ | ⟨rfl, h1⟩
  · obtain ⟨K, rfl⟩ := Int.eq_ofNat_of_zero_le h1
    exact at_ptr h ho (by omega)
  · exact at_ptr_no h ho h1

theorem at_num_if {bp : Bool} {k : Int} (hk : Has bp k o.d) : Calls Try.prog 75 #[arV b, .int .i64 a, .int .i64 k] w fun e w' => e = .returned (.tuple #[.int .i64 (bif bp then zt (o.ns.getD k.toNat 0) else 0), .int .i64 (bif bp then 0 else 71)]) ∧ Calm w w' := by
  rcases hk with ⟨rfl, h1, h2⟩ | ⟨rfl, h1⟩
  · obtain ⟨K, rfl⟩ := Int.eq_ofNat_of_zero_le h1
    exact at_num h ho (by omega)
  · exact at_num_no h ho h1

theorem at_setptr_if {bp : Bool} {k : Int} {v : Nat} (hk : Has bp k o.p) (hv : v ≤ 131072) : Calls Try.prog 59 #[arV b, .int .i64 a, .int .i64 k, .int .i64 v] w fun e w' => e = .returned (.int .i64 (bif bp then 0 else 71)) ∧ Ar w' b c (bif bp then xs.set (a + 3 + k.toNat) v else xs) ∧ Fr (fun k => k = c) w w' := by
  rcases hk with ⟨rfl, h1, h2⟩ | ⟨rfl, h1⟩
  · obtain ⟨K, rfl⟩ := Int.eq_ofNat_of_zero_le h1
    exact at_setptr h ho (by omega) hv
  · exact (at_setptr_no h ho h1).mono fun e w' ⟨he, hc⟩ => ⟨he, h.calm hc, hc.any⟩

theorem at_setnum_if {bp : Bool} {k v : Int} (hk : Has bp k o.d) (hv : I64 v) : Calls Try.prog 76 #[arV b, .int .i64 a, .int .i64 k, .int .i64 v] w fun e w' => e = .returned (.int .i64 (bif bp then 0 else 71)) ∧ Ar w' b c (bif bp then xs.set (a + 3 + o.p + k.toNat) (zg v) else xs) ∧ Fr (fun k => k = c) w w' := by
  rcases hk with ⟨rfl, h1, h2⟩ | ⟨rfl, h1⟩
  · obtain ⟨K, rfl⟩ := Int.eq_ofNat_of_zero_le h1
    exact at_setnum h ho (by omega) hv
  · exact (at_setnum_no h ho h1).mono fun e w' ⟨he, hc⟩ => ⟨he, h.calm hc, hc.any⟩
end

theorem Has.at_ptr {xs : List Nat} {a : Nat} {o : Ob} (ho : At xs a o) {bp : Bool} {k : Int} {v : Nat} (hk : Has bp k o.p) (hv : v ≤ 131072) :
    At (bif bp then xs.set (a + 3 + k.toNat) v else xs) a (bif bp then { o with ps := o.ps.set k.toNat v } else o) := by
  rcases hk with ⟨rfl, h1, h2⟩ | ⟨rfl, h1⟩
  · exact ho.setPtr (by omega) hv
  · exact ho
theorem Has.at_num {xs : List Nat} {a : Nat} {o : Ob} (ho : At xs a o) {bp : Bool} {k v : Int} (hk : Has bp k o.d) (hv : I64 v) :
    At (bif bp then xs.set (a + 3 + o.p + k.toNat) (zg v) else xs) a (bif bp then { o with ns := o.ns.set k.toNat (zg v) } else o) := by
  rcases hk with ⟨rfl, h1, h2⟩ | ⟨rfl, h1⟩
  · exact ho.setNum (by omega) (zg_lt hv)
  · exact ho
theorem Has.lt {k : Int} {n : Nat} (h1 : 0 ≤ k) (h2 : k < n) : Has true k n := .inl ⟨rfl, h1, h2⟩
theorem Has.neg {k : Int} {n : Nat} (h1 : k < 0) : Has false k n := .inr ⟨rfl, .inl h1⟩
theorem Has.ge {k : Int} {n : Nat} (h1 : (n : Int) ≤ k) : Has false k n := .inr ⟨rfl, .inr h1⟩

end Go.Proofs.Ytiomemdmhcdpbaa
