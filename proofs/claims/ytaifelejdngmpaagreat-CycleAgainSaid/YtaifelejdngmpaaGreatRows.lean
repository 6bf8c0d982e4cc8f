/-
  No cell of these rows narrows 'for every input' (looked for: loops, veiled, ifaces, maps, wideKeys, modest, calm, conditions, laid).
  DERIVED. THE GIVEN ROWS OF THIS SEAT. 3 by the template 'for every input the law returns true; each argument reads behind the call as it read before'; 0 by the template 'total and deterministic' (their statements: YtaifelejdngmpaaGreatTotals.lean).
  GIVEN WITH THE SEED: the statements are not yours to turn. If you find one false, say at which input.
  Laid BY PROGRAM, IN A SANDBOX (cutbox-rows.mjs): the forced cells as the released guide's own fill.sh prints them over the translation 674bd3de14fca0c7… (all of the seat's roots in one cut). By AI agents, Wed Nov 11 2026. No macro, syntax, notation, axiom, sorry.
-/
import Derived.Test.YtaifelejdngmpaaGreatChecked
import GoSem.Claim
import GoSem.ClaimJoined
import GoSem.ClaimMapViews
import Derived.JoinedTies
import Derived.KernelRfl
namespace Go.Proofs.YtaifelejdngmpaaGreat
/- THE CELL 'sum', in the pinned program and in every row, IS THE sha256 OF THE DUMP (.gsa) THAT YtaifelejdngmpaaGreatProg.lean LOADS. Nothing in Lean hashes anything: it is a label: what it is worth is what the hold of that sum in a sandbox is worth. -/
noncomputable def Tryz.pinned : Pinned := { name := "ytaifelejdngmpaagreat", sum := "674bd3de14fca0c764fa12b44ef2794218a83d8dd3c40327afaaf50420419211", checked := Tryz.checked }
namespace Rows
def none {H : Type} : Left H := { results := [], args := [] }

/-- 'middenheaplaw11.CycleTwins': WHATEVER THE INPUT: true; the input reads as it did. -/
def cycleTwinsSpec : ChangeSpec := { name := "cycleTwins", fn := fun _ => fun
  | [d] => { results := [.lit (.bool true)], args := [d] }
  | _ => none }
def cycleTwinsRow : OpenClaim := { program := "ytaifelejdngmpaagreat", sum := "674bd3de14fca0c764fa12b44ef2794218a83d8dd3c40327afaaf50420419211", func := "middenheap/middenheaplaw11.CycleTwins", spec := "cycleTwins", unfollowed := true, recurses := true, apart := false }
def CycleTwinsSaid : Prop := cycleTwinsRow.holds Tryz.pinned (OpenSpec.ofChange cycleTwinsSpec)

/-- ITS FALSE NEIGHBOUR: 'it returns false'. Refute it at one input. -/
def cycleTwinsWrong : ChangeSpec := { name := "cycleTwins", fn := fun _ => fun
  | [d] => { results := [.lit (.bool false)], args := [d] }
  | _ => none }
def CycleTwinsWrongFalsely : Prop := cycleTwinsRow.holds Tryz.pinned (OpenSpec.ofChange cycleTwinsWrong)

/-- 'middenheaplaw11.CycleBound': WHATEVER THE INPUT: true; the input reads as it did. -/
def cycleBoundSpec : ChangeSpec := { name := "cycleBound", fn := fun _ => fun
  | [d] => { results := [.lit (.bool true)], args := [d] }
  | _ => none }
def cycleBoundRow : OpenClaim := { program := "ytaifelejdngmpaagreat", sum := "674bd3de14fca0c764fa12b44ef2794218a83d8dd3c40327afaaf50420419211", func := "middenheap/middenheaplaw11.CycleBound", spec := "cycleBound", unfollowed := true, recurses := true, apart := false }
def CycleBoundSaid : Prop := cycleBoundRow.holds Tryz.pinned (OpenSpec.ofChange cycleBoundSpec)

/-- ITS FALSE NEIGHBOUR: 'it returns false'. Refute it at one input. -/
def cycleBoundWrong : ChangeSpec := { name := "cycleBound", fn := fun _ => fun
  | [d] => { results := [.lit (.bool false)], args := [d] }
  | _ => none }
def CycleBoundWrongFalsely : Prop := cycleBoundRow.holds Tryz.pinned (OpenSpec.ofChange cycleBoundWrong)

/-- 'middenheaplaw11.CycleAgain': WHATEVER THE INPUT: true; the input reads as it did. -/
def cycleAgainSpec : ChangeSpec := { name := "cycleAgain", fn := fun _ => fun
  | [d] => { results := [.lit (.bool true)], args := [d] }
  | _ => none }
def cycleAgainRow : OpenClaim := { program := "ytaifelejdngmpaagreat", sum := "674bd3de14fca0c764fa12b44ef2794218a83d8dd3c40327afaaf50420419211", func := "middenheap/middenheaplaw11.CycleAgain", spec := "cycleAgain", unfollowed := true, recurses := true, apart := false }
def CycleAgainSaid : Prop := cycleAgainRow.holds Tryz.pinned (OpenSpec.ofChange cycleAgainSpec)

/-- ITS FALSE NEIGHBOUR: 'it returns false'. Refute it at one input. -/
def cycleAgainWrong : ChangeSpec := { name := "cycleAgain", fn := fun _ => fun
  | [d] => { results := [.lit (.bool false)], args := [d] }
  | _ => none }
def CycleAgainWrongFalsely : Prop := cycleAgainRow.holds Tryz.pinned (OpenSpec.ofChange cycleAgainWrong)

/- THE SECOND FORM. 'bulk': how many values and letters a reading holds, each counted each time it is reached (what is shared counts as often as it is met; a slice's spare places count too). A statement '..UptoSaid' is the law's where the arguments, and the package variables that the reading takes, are together of bulk at most 1048576: NARROWER than '..Said'. Prove '..Said' where nothing that the law and all that it calls make is longer than what came in: it says more and counts as full. Else prove '..UptoSaid'. A law counts once. -/
mutual
def uptoBulk {H : Type} : DataW H → Nat
  | .lit (.string bytes) => bytes.length + 1
  | .lit _ => 1
  | .nil => 1
  | .ptr d => uptoBulk d + 1
  | .slice elems spare => uptoBulkAll elems + uptoBulkAll spare + 1
  | .agg parts => uptoBulkAll parts + 1
  | .iface _ d => uptoBulk d + 1
  | .map entries => uptoBulkEntries entries + 1
  | .held _ => 1
def uptoBulkAll {H : Type} : List (DataW H) → Nat
  | [] => 0
  | d :: r => uptoBulk d + uptoBulkAll r
def uptoBulkEntries {H : Type} : List (Lit × DataW H) → Nat
  | [] => 0
  | x :: r => uptoBulkEntry x + uptoBulkEntries r
def uptoBulkEntry {H : Type} : Lit × DataW H → Nat
  | (.string bytes, d) => bytes.length + uptoBulk d + 1
  | (_, d) => uptoBulk d + 1
 end
def uptoSmall : (H : Type) → List (DataW H) → Bool := fun _ ds => decide (uptoBulkAll ds ≤ 1048576)
def OpenSpec.upto (s : _root_.Go.ChangeSpec) : _root_.Go.OpenSpec := { _root_.Go.OpenSpec.ofChange s with cond := some uptoSmall }

/-- 'middenheaplaw11.CycleTwins', WHERE WHAT IT READS IS OF BULK AT MOST 1048576: true; the input reads as it did. -/
def cycleTwinsUptoRow : OpenClaim := { program := "ytaifelejdngmpaagreat", sum := "674bd3de14fca0c764fa12b44ef2794218a83d8dd3c40327afaaf50420419211", func := "middenheap/middenheaplaw11.CycleTwins", spec := "cycleTwins", unfollowed := true, recurses := true, apart := false, narrowed := true }
def CycleTwinsUptoSaid : Prop := cycleTwinsUptoRow.holds Tryz.pinned (OpenSpec.upto cycleTwinsSpec)

/-- 'middenheaplaw11.CycleBound', WHERE WHAT IT READS IS OF BULK AT MOST 1048576: true; the input reads as it did. -/
def cycleBoundUptoRow : OpenClaim := { program := "ytaifelejdngmpaagreat", sum := "674bd3de14fca0c764fa12b44ef2794218a83d8dd3c40327afaaf50420419211", func := "middenheap/middenheaplaw11.CycleBound", spec := "cycleBound", unfollowed := true, recurses := true, apart := false, narrowed := true }
def CycleBoundUptoSaid : Prop := cycleBoundUptoRow.holds Tryz.pinned (OpenSpec.upto cycleBoundSpec)

/-- 'middenheaplaw11.CycleAgain', WHERE WHAT IT READS IS OF BULK AT MOST 1048576: true; the input reads as it did. -/
def cycleAgainUptoRow : OpenClaim := { program := "ytaifelejdngmpaagreat", sum := "674bd3de14fca0c764fa12b44ef2794218a83d8dd3c40327afaaf50420419211", func := "middenheap/middenheaplaw11.CycleAgain", spec := "cycleAgain", unfollowed := true, recurses := true, apart := false, narrowed := true }
def CycleAgainUptoSaid : Prop := cycleAgainUptoRow.holds Tryz.pinned (OpenSpec.upto cycleAgainSpec)

end Rows
end Go.Proofs.YtaifelejdngmpaaGreat
