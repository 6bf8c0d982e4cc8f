/-
  No cell of these rows narrows 'for every input' (looked for: loops, veiled, ifaces, maps, wideKeys, modest, calm, conditions, laid).
  DERIVED. THE GIVEN ROWS OF THIS SEAT. 8 by the template 'for every input the law returns true; each argument reads behind the call as it read before'; 0 by the template 'total and deterministic' (their statements: YtflegkhpnepfhaaTotals.lean).
  GIVEN WITH THE SEED: the statements are not yours to turn. If you find one false, say at which input.
  Laid BY PROGRAM, IN A SANDBOX (cutbox-rows.mjs): the forced cells as the released guide's own fill.sh prints them over the translation 65e08fc8f705a75f… (all of the seat's roots in one cut). By AI agents, Wed Nov 11 2026. No macro, syntax, notation, axiom, sorry.
-/
import Derived.Test.YtflegkhpnepfhaaChecked
import GoSem.Claim
import GoSem.ClaimJoined
import GoSem.ClaimMapViews
import Derived.JoinedTies
import Derived.KernelRfl
namespace Go.Proofs.Ytflegkhpnepfhaa
/- THE CELL 'sum', in the pinned program and in every row, IS THE sha256 OF THE DUMP (.gsa) THAT YtflegkhpnepfhaaProg.lean LOADS. Nothing in Lean hashes anything: it is a label: what it is worth is what the hold of that sum in a sandbox is worth. -/
noncomputable def Try.pinned : Pinned := { name := "ytflegkhpnepfhaa", sum := "65e08fc8f705a75f0a5ce792b7b9698db4fe7e66a79902785a1953c42f0dc7d6", checked := Try.checked }
namespace Rows
def none {H : Type} : Left H := { results := [], args := [] }

/-- 'middenheaplaw04.ClassRounds': WHATEVER THE INPUT: true; the input reads as it did. -/
def classRoundsSpec : ChangeSpec := { name := "classRounds", fn := fun _ => fun
  | [d] => { results := [.lit (.bool true)], args := [d] }
  | _ => none }
def classRoundsRow : OpenClaim := { program := "ytflegkhpnepfhaa", sum := "65e08fc8f705a75f0a5ce792b7b9698db4fe7e66a79902785a1953c42f0dc7d6", func := "middenheap/middenheaplaw04.ClassRounds", spec := "classRounds", unfollowed := true, recurses := true, apart := false }
def ClassRoundsSaid : Prop := classRoundsRow.holds Try.pinned (OpenSpec.ofChange classRoundsSpec)

/-- ITS FALSE NEIGHBOUR: 'it returns false'. Refute it at one input. -/
def classRoundsWrong : ChangeSpec := { name := "classRounds", fn := fun _ => fun
  | [d] => { results := [.lit (.bool false)], args := [d] }
  | _ => none }
def ClassRoundsWrongFalsely : Prop := classRoundsRow.holds Try.pinned (OpenSpec.ofChange classRoundsWrong)

/-- 'middenheaplaw04.ClassRises': WHATEVER THE INPUT: true; the input reads as it did. -/
def classRisesSpec : ChangeSpec := { name := "classRises", fn := fun _ => fun
  | [d1, d2] => { results := [.lit (.bool true)], args := [d1, d2] }
  | _ => none }
def classRisesRow : OpenClaim := { program := "ytflegkhpnepfhaa", sum := "65e08fc8f705a75f0a5ce792b7b9698db4fe7e66a79902785a1953c42f0dc7d6", func := "middenheap/middenheaplaw04.ClassRises", spec := "classRises", unfollowed := true, recurses := true, apart := false }
def ClassRisesSaid : Prop := classRisesRow.holds Try.pinned (OpenSpec.ofChange classRisesSpec)

/-- ITS FALSE NEIGHBOUR: 'it returns false'. Refute it at one input. -/
def classRisesWrong : ChangeSpec := { name := "classRises", fn := fun _ => fun
  | [d1, d2] => { results := [.lit (.bool false)], args := [d1, d2] }
  | _ => none }
def ClassRisesWrongFalsely : Prop := classRisesRow.holds Try.pinned (OpenSpec.ofChange classRisesWrong)

/-- 'middenheaplaw04.ClassDoubles': WHATEVER THE INPUT: true; the input reads as it did. -/
def classDoublesSpec : ChangeSpec := { name := "classDoubles", fn := fun _ => fun
  | [d] => { results := [.lit (.bool true)], args := [d] }
  | _ => none }
def classDoublesRow : OpenClaim := { program := "ytflegkhpnepfhaa", sum := "65e08fc8f705a75f0a5ce792b7b9698db4fe7e66a79902785a1953c42f0dc7d6", func := "middenheap/middenheaplaw04.ClassDoubles", spec := "classDoubles", unfollowed := true, recurses := true, apart := false }
def ClassDoublesSaid : Prop := classDoublesRow.holds Try.pinned (OpenSpec.ofChange classDoublesSpec)

/-- ITS FALSE NEIGHBOUR: 'it returns false'. Refute it at one input. -/
def classDoublesWrong : ChangeSpec := { name := "classDoubles", fn := fun _ => fun
  | [d] => { results := [.lit (.bool false)], args := [d] }
  | _ => none }
def ClassDoublesWrongFalsely : Prop := classDoublesRow.holds Try.pinned (OpenSpec.ofChange classDoublesWrong)

/-- 'middenheaplaw04.ClassNext': WHATEVER THE INPUT: true; the input reads as it did. -/
def classNextSpec : ChangeSpec := { name := "classNext", fn := fun _ => fun
  | [d] => { results := [.lit (.bool true)], args := [d] }
  | _ => none }
def classNextRow : OpenClaim := { program := "ytflegkhpnepfhaa", sum := "65e08fc8f705a75f0a5ce792b7b9698db4fe7e66a79902785a1953c42f0dc7d6", func := "middenheap/middenheaplaw04.ClassNext", spec := "classNext", unfollowed := true, recurses := true, apart := false }
def ClassNextSaid : Prop := classNextRow.holds Try.pinned (OpenSpec.ofChange classNextSpec)

/-- ITS FALSE NEIGHBOUR: 'it returns false'. Refute it at one input. -/
def classNextWrong : ChangeSpec := { name := "classNext", fn := fun _ => fun
  | [d] => { results := [.lit (.bool false)], args := [d] }
  | _ => none }
def ClassNextWrongFalsely : Prop := classNextRow.holds Try.pinned (OpenSpec.ofChange classNextWrong)

/-- 'middenheaplaw05.SpaceHas': WHATEVER THE INPUT: true; the input reads as it did. -/
def spaceHasSpec : ChangeSpec := { name := "spaceHas", fn := fun _ => fun
  | [d1, d2] => { results := [.lit (.bool true)], args := [d1, d2] }
  | _ => none }
def spaceHasRow : OpenClaim := { program := "ytflegkhpnepfhaa", sum := "65e08fc8f705a75f0a5ce792b7b9698db4fe7e66a79902785a1953c42f0dc7d6", func := "middenheap/middenheaplaw05.SpaceHas", spec := "spaceHas", unfollowed := true, recurses := true, apart := false }
def SpaceHasSaid : Prop := spaceHasRow.holds Try.pinned (OpenSpec.ofChange spaceHasSpec)

/-- ITS FALSE NEIGHBOUR: 'it returns false'. Refute it at one input. -/
def spaceHasWrong : ChangeSpec := { name := "spaceHas", fn := fun _ => fun
  | [d1, d2] => { results := [.lit (.bool false)], args := [d1, d2] }
  | _ => none }
def SpaceHasWrongFalsely : Prop := spaceHasRow.holds Try.pinned (OpenSpec.ofChange spaceHasWrong)

/-- 'middenheaplaw05.SpaceTakes': WHATEVER THE INPUT: true; the input reads as it did. -/
def spaceTakesSpec : ChangeSpec := { name := "spaceTakes", fn := fun _ => fun
  | [d1, d2] => { results := [.lit (.bool true)], args := [d1, d2] }
  | _ => none }
def spaceTakesRow : OpenClaim := { program := "ytflegkhpnepfhaa", sum := "65e08fc8f705a75f0a5ce792b7b9698db4fe7e66a79902785a1953c42f0dc7d6", func := "middenheap/middenheaplaw05.SpaceTakes", spec := "spaceTakes", unfollowed := true, recurses := true, apart := false }
def SpaceTakesSaid : Prop := spaceTakesRow.holds Try.pinned (OpenSpec.ofChange spaceTakesSpec)

/-- ITS FALSE NEIGHBOUR: 'it returns false'. Refute it at one input. -/
def spaceTakesWrong : ChangeSpec := { name := "spaceTakes", fn := fun _ => fun
  | [d1, d2] => { results := [.lit (.bool false)], args := [d1, d2] }
  | _ => none }
def SpaceTakesWrongFalsely : Prop := spaceTakesRow.holds Try.pinned (OpenSpec.ofChange spaceTakesWrong)

/-- 'middenheaplaw05.SpaceWhole': WHATEVER THE INPUT: true; the input reads as it did. -/
def spaceWholeSpec : ChangeSpec := { name := "spaceWhole", fn := fun _ => fun
  | [d] => { results := [.lit (.bool true)], args := [d] }
  | _ => none }
def spaceWholeRow : OpenClaim := { program := "ytflegkhpnepfhaa", sum := "65e08fc8f705a75f0a5ce792b7b9698db4fe7e66a79902785a1953c42f0dc7d6", func := "middenheap/middenheaplaw05.SpaceWhole", spec := "spaceWhole", unfollowed := true, recurses := true, apart := false }
def SpaceWholeSaid : Prop := spaceWholeRow.holds Try.pinned (OpenSpec.ofChange spaceWholeSpec)

/-- ITS FALSE NEIGHBOUR: 'it returns false'. Refute it at one input. -/
def spaceWholeWrong : ChangeSpec := { name := "spaceWhole", fn := fun _ => fun
  | [d] => { results := [.lit (.bool false)], args := [d] }
  | _ => none }
def SpaceWholeWrongFalsely : Prop := spaceWholeRow.holds Try.pinned (OpenSpec.ofChange spaceWholeWrong)

/-- 'middenheaplaw05.SpaceShifts': WHATEVER THE INPUT: true; the input reads as it did. -/
def spaceShiftsSpec : ChangeSpec := { name := "spaceShifts", fn := fun _ => fun
  | [d1, d2, d3] => { results := [.lit (.bool true)], args := [d1, d2, d3] }
  | _ => none }
def spaceShiftsRow : OpenClaim := { program := "ytflegkhpnepfhaa", sum := "65e08fc8f705a75f0a5ce792b7b9698db4fe7e66a79902785a1953c42f0dc7d6", func := "middenheap/middenheaplaw05.SpaceShifts", spec := "spaceShifts", unfollowed := true, recurses := true, apart := false }
def SpaceShiftsSaid : Prop := spaceShiftsRow.holds Try.pinned (OpenSpec.ofChange spaceShiftsSpec)

/-- ITS FALSE NEIGHBOUR: 'it returns false'. Refute it at one input. -/
def spaceShiftsWrong : ChangeSpec := { name := "spaceShifts", fn := fun _ => fun
  | [d1, d2, d3] => { results := [.lit (.bool false)], args := [d1, d2, d3] }
  | _ => none }
def SpaceShiftsWrongFalsely : Prop := spaceShiftsRow.holds Try.pinned (OpenSpec.ofChange spaceShiftsWrong)

/- THE SECOND FORM. 'bulk': how many values and letters a reading holds, each counted each time it is reached (what is shared counts as often as it is met; a slice's spare places count too). A statement '..UptoSaid' is the law's where the arguments, and the package variables that the reading takes, are together of bulk at most 1048576: NARROWER than '..Said'. Prove '..Said' where nothing that the law and all that it calls make is longer than what came in: it says more and counts as full. Else prove '..UptoSaid'. A law counts once. -/
mutual
def uptoBulk {H : Type} : DataW H → Nat
  | .lit (.string bytes) => bytes.length + 1
  | .lit _ => 1
  | .nil => 1
  | .ptr d => uptoBulk d + 1
  | .slice elems spare => uptoBulkAll elems + uptoBulkAll spare + 1
  | .agg parts => uptoBulkAll parts + 1
  | .iface _ d => uptoBulk d + 1
  | .map entries => uptoBulkEntries entries + 1
  | .held _ => 1
def uptoBulkAll {H : Type} : List (DataW H) → Nat
  | [] => 0
  | d :: r => uptoBulk d + uptoBulkAll r
def uptoBulkEntries {H : Type} : List (Lit × DataW H) → Nat
  | [] => 0
  | x :: r => uptoBulkEntry x + uptoBulkEntries r
def uptoBulkEntry {H : Type} : Lit × DataW H → Nat
  | (.string bytes, d) => bytes.length + uptoBulk d + 1
  | (_, d) => uptoBulk d + 1
 end
def uptoSmall : (H : Type) → List (DataW H) → Bool := fun _ ds => decide (uptoBulkAll ds ≤ 1048576)
def OpenSpec.upto (s : _root_.Go.ChangeSpec) : _root_.Go.OpenSpec := { _root_.Go.OpenSpec.ofChange s with cond := some uptoSmall }

/-- 'middenheaplaw04.ClassRounds', WHERE WHAT IT READS IS OF BULK AT MOST 1048576: true; the input reads as it did. -/
def classRoundsUptoRow : OpenClaim := { program := "ytflegkhpnepfhaa", sum := "65e08fc8f705a75f0a5ce792b7b9698db4fe7e66a79902785a1953c42f0dc7d6", func := "middenheap/middenheaplaw04.ClassRounds", spec := "classRounds", unfollowed := true, recurses := true, apart := false, narrowed := true }
def ClassRoundsUptoSaid : Prop := classRoundsUptoRow.holds Try.pinned (OpenSpec.upto classRoundsSpec)

/-- 'middenheaplaw04.ClassRises', WHERE WHAT IT READS IS OF BULK AT MOST 1048576: true; the input reads as it did. -/
def classRisesUptoRow : OpenClaim := { program := "ytflegkhpnepfhaa", sum := "65e08fc8f705a75f0a5ce792b7b9698db4fe7e66a79902785a1953c42f0dc7d6", func := "middenheap/middenheaplaw04.ClassRises", spec := "classRises", unfollowed := true, recurses := true, apart := false, narrowed := true }
def ClassRisesUptoSaid : Prop := classRisesUptoRow.holds Try.pinned (OpenSpec.upto classRisesSpec)

/-- 'middenheaplaw04.ClassDoubles', WHERE WHAT IT READS IS OF BULK AT MOST 1048576: true; the input reads as it did. -/
def classDoublesUptoRow : OpenClaim := { program := "ytflegkhpnepfhaa", sum := "65e08fc8f705a75f0a5ce792b7b9698db4fe7e66a79902785a1953c42f0dc7d6", func := "middenheap/middenheaplaw04.ClassDoubles", spec := "classDoubles", unfollowed := true, recurses := true, apart := false, narrowed := true }
def ClassDoublesUptoSaid : Prop := classDoublesUptoRow.holds Try.pinned (OpenSpec.upto classDoublesSpec)

/-- 'middenheaplaw04.ClassNext', WHERE WHAT IT READS IS OF BULK AT MOST 1048576: true; the input reads as it did. -/
def classNextUptoRow : OpenClaim := { program := "ytflegkhpnepfhaa", sum := "65e08fc8f705a75f0a5ce792b7b9698db4fe7e66a79902785a1953c42f0dc7d6", func := "middenheap/middenheaplaw04.ClassNext", spec := "classNext", unfollowed := true, recurses := true, apart := false, narrowed := true }
def ClassNextUptoSaid : Prop := classNextUptoRow.holds Try.pinned (OpenSpec.upto classNextSpec)

/-- 'middenheaplaw05.SpaceHas', WHERE WHAT IT READS IS OF BULK AT MOST 1048576: true; the input reads as it did. -/
def spaceHasUptoRow : OpenClaim := { program := "ytflegkhpnepfhaa", sum := "65e08fc8f705a75f0a5ce792b7b9698db4fe7e66a79902785a1953c42f0dc7d6", func := "middenheap/middenheaplaw05.SpaceHas", spec := "spaceHas", unfollowed := true, recurses := true, apart := false, narrowed := true }
def SpaceHasUptoSaid : Prop := spaceHasUptoRow.holds Try.pinned (OpenSpec.upto spaceHasSpec)

/-- 'middenheaplaw05.SpaceTakes', WHERE WHAT IT READS IS OF BULK AT MOST 1048576: true; the input reads as it did. -/
def spaceTakesUptoRow : OpenClaim := { program := "ytflegkhpnepfhaa", sum := "65e08fc8f705a75f0a5ce792b7b9698db4fe7e66a79902785a1953c42f0dc7d6", func := "middenheap/middenheaplaw05.SpaceTakes", spec := "spaceTakes", unfollowed := true, recurses := true, apart := false, narrowed := true }
def SpaceTakesUptoSaid : Prop := spaceTakesUptoRow.holds Try.pinned (OpenSpec.upto spaceTakesSpec)

/-- 'middenheaplaw05.SpaceWhole', WHERE WHAT IT READS IS OF BULK AT MOST 1048576: true; the input reads as it did. -/
def spaceWholeUptoRow : OpenClaim := { program := "ytflegkhpnepfhaa", sum := "65e08fc8f705a75f0a5ce792b7b9698db4fe7e66a79902785a1953c42f0dc7d6", func := "middenheap/middenheaplaw05.SpaceWhole", spec := "spaceWhole", unfollowed := true, recurses := true, apart := false, narrowed := true }
def SpaceWholeUptoSaid : Prop := spaceWholeUptoRow.holds Try.pinned (OpenSpec.upto spaceWholeSpec)

/-- 'middenheaplaw05.SpaceShifts', WHERE WHAT IT READS IS OF BULK AT MOST 1048576: true; the input reads as it did. -/
def spaceShiftsUptoRow : OpenClaim := { program := "ytflegkhpnepfhaa", sum := "65e08fc8f705a75f0a5ce792b7b9698db4fe7e66a79902785a1953c42f0dc7d6", func := "middenheap/middenheaplaw05.SpaceShifts", spec := "spaceShifts", unfollowed := true, recurses := true, apart := false, narrowed := true }
def SpaceShiftsUptoSaid : Prop := spaceShiftsUptoRow.holds Try.pinned (OpenSpec.upto spaceShiftsSpec)

end Rows
end Go.Proofs.Ytflegkhpnepfhaa
