/- HeapFull returns true: its walk (UNDER WAY). -/
import Derived.Test.YtiomemdmhcdpbaaDoes
import Derived.Test.YtiomemdmhcdpbaaAlikeL
import Derived.Test.YtiomemdmhcdpbaaAlike
set_option linter.unusedSimpArgs false
set_option linter.unusedVariables false
namespace Go.Proofs.Ytiomemdmhcdpbaa
open Go.RowKit Go.Shelf

/-- Twins behind k rounds. -/
def FullI (w : World) (b0 T n : Nat) (k : Nat) (wr : World) : Prop :=
  ∃ σ A B R S BA BB XA XB, TwAt wr b0 T BA BB A B XA XB R S ∧ Pair σ A B R S 4 ∧ A.n = n ∧ A.ser ≤ 2 * k ∧ B.ser ≤ k ∧ Calm w wr ∧ w.heap.size ≤ b0
theorem FullI.start {w w1 : World} {b0 T n : Nat} {BA BB : HB} {XA XB : List Nat} (h : TwAt w1 b0 T BA BB (HS.start n) (HS.start 16000) XA XB [0, 0, 0, 0] [0, 0, 0, 0]) (c : Calm w w1) (hb : w.heap.size ≤ b0) : FullI w b0 T n 0 w1 :=
  ⟨id, _, _, _, _, BA, BB, XA, XB, h, Pair.start n, rfl, Nat.zero_le _, Nat.zero_le _, c, hb⟩
end Go.Proofs.Ytiomemdmhcdpbaa
