/- Layer 8's example. -/
import Derived.Test.YtiomemdmhcdpbaaMovL
import Derived.Test.YtiomemdmhcdpbaaMover5
import Derived.Test.YtiomemdmhcdpbaaInts08
set_option linter.unusedSimpArgs false
set_option linter.unusedVariables false
namespace Go.Proofs.Ytiomemdmhcdpbaa
open Go.RowKit Go.Shelf

def o08 : Ob := Ob.new 1 1 false false 3
def x08 : List Nat := made (List.replicate 60 0) 1 1 1 false false 3
def y08 : List Nat := cpd x08 1 20 o08.size
theorem x08_len : x08.length = 60 := by rw [x08, made_length]; simp
theorem o08_size : o08.size = 5 := rfl
theorem x08_at : At x08 1 o08 := made_at ⟨by decide, by decide, fun h => by cases h⟩ (by decide) (by decide)
theorem y08_at : At y08 20 o08 := cpd_at x08_at (by rw [x08_len, o08_size]; decide) (.inl (by rw [o08_size]; decide))
theorem y08_gone : Gone y08 1 20 := cpd_gone x08_at (by rw [x08_len, o08_size]; decide) (by decide) (by decide)
theorem rnd5 : rnd 5 = 6 := by decide
theorem o08_took : o08.took = 6 := by rw [Ob.took, o08_size]; exact congrArg Int.toNat rnd5
theorem y08_lie : Lie y08 20 26 [(20, o08)] := ⟨rfl, x08_at.ok, .inl y08_at, by show 20 + o08.took = 26; rw [o08_took]⟩

end Go.Proofs.Ytiomemdmhcdpbaa
