/- ObjectAgain returns true, whatever the input. -/
import Derived.Test.YtoonimdohkbfgaaRow07
import Derived.Test.YtoonimdohkbfgaaOpen2
set_option linter.unusedSimpArgs false
set_option linter.unusedVariables false
namespace Go.Proofs.Ytoonimdohkbfgaa
open Go.RowKit Go.Shelf

/-- An object lies at 0. -/
def AgainI (b c : Nat) (w : World) : Prop := ∃ X o, Ar w b c X ∧ At X 0 o ∧ X.length = 60

theorem pick07c (c n : Int) (w : World) (hc : I64 c) (hn : 0 < n) :
    Calls Try.prog 7 #[.int .i64 c, .int .i64 n] w fun e w' => e = .returned (.int .i64 (pk c n)) ∧ Calm w w' :=
  (pick07 c n w hc hn).mono fun e w' ⟨he, hw⟩ => ⟨he, hw ▸ Fr.refl _ _⟩

theorem has_dec (K p : Nat) : Has (decide (K < p)) K p := by
  by_cases h : K < p
  · simp only [h, decide_true]; exact .lt (by omega) (by omega)
  · simp only [h, decide_false]; exact .ge (by omega)

theorem bif_length {bp : Bool} {X Y : List Nat} {n : Nat} (h : X.length = n) (h' : Y.length = n) : (bif bp then X else Y).length = n := by cases bp <;> assumption

end Go.Proofs.Ytoonimdohkbfgaa
