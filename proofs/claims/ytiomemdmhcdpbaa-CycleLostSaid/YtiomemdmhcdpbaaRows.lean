/-
  No cell of these rows narrows 'for every input' (looked for: loops, veiled, ifaces, maps, wideKeys, modest, calm, conditions, laid).
  DERIVED. THE GIVEN ROWS OF THIS SEAT. 8 by the template 'for every input the law returns true; each argument reads behind the call as it read before'; 0 by the template 'total and deterministic' (their statements: YtiomemdmhcdpbaaTotals.lean).
  GIVEN WITH THE SEED: the statements are not yours to turn. If you find one false, say at which input.
  Laid BY PROGRAM, IN A SANDBOX (cutbox-rows.mjs): the forced cells as the released guide's own fill.sh prints them over the translation 6b321c9f1dd28272… (all of the seat's roots in one cut). By AI agents, Wed Nov 11 2026. No macro, syntax, notation, axiom, sorry.
-/
import Derived.Test.YtiomemdmhcdpbaaChecked
import GoSem.Claim
import GoSem.ClaimJoined
import GoSem.ClaimMapViews
import Derived.JoinedTies
import Derived.KernelRfl
namespace Go.Proofs.Ytiomemdmhcdpbaa
/- THE CELL 'sum', in the pinned program and in every row, IS THE sha256 OF THE DUMP (.gsa) THAT YtiomemdmhcdpbaaProg.lean LOADS. Nothing in Lean hashes anything: it is a label: what it is worth is what the hold of that sum in a sandbox is worth. -/
noncomputable def Try.pinned : Pinned := { name := "ytiomemdmhcdpbaa", sum := "6b321c9f1dd28272cafe329590580f88968de56d0ec7eca634daa75834b56f5d", checked := Try.checked }
namespace Rows
def none {H : Type} : Left H := { results := [], args := [] }

/-- 'middenheaplaw10.HeapSerials': WHATEVER THE INPUT: true; the input reads as it did. -/
def heapSerialsSpec : ChangeSpec := { name := "heapSerials", fn := fun _ => fun
  | [d1, d2] => { results := [.lit (.bool true)], args := [d1, d2] }
  | _ => none }
def heapSerialsRow : OpenClaim := { program := "ytiomemdmhcdpbaa", sum := "6b321c9f1dd28272cafe329590580f88968de56d0ec7eca634daa75834b56f5d", func := "middenheap/middenheaplaw10.HeapSerials", spec := "heapSerials", unfollowed := true, recurses := true, apart := false }
def HeapSerialsSaid : Prop := heapSerialsRow.holds Try.pinned (OpenSpec.ofChange heapSerialsSpec)

/-- ITS FALSE NEIGHBOUR: 'it returns false'. Refute it at one input. -/
def heapSerialsWrong : ChangeSpec := { name := "heapSerials", fn := fun _ => fun
  | [d1, d2] => { results := [.lit (.bool false)], args := [d1, d2] }
  | _ => none }
def HeapSerialsWrongFalsely : Prop := heapSerialsRow.holds Try.pinned (OpenSpec.ofChange heapSerialsWrong)

/-- 'middenheaplaw11.CycleLost': WHATEVER THE INPUT: true; the input reads as it did. -/
def cycleLostSpec : ChangeSpec := { name := "cycleLost", fn := fun _ => fun
  | [d] => { results := [.lit (.bool true)], args := [d] }
  | _ => none }
def cycleLostRow : OpenClaim := { program := "ytiomemdmhcdpbaa", sum := "6b321c9f1dd28272cafe329590580f88968de56d0ec7eca634daa75834b56f5d", func := "middenheap/middenheaplaw11.CycleLost", spec := "cycleLost", unfollowed := true, recurses := true, apart := false }
def CycleLostSaid : Prop := cycleLostRow.holds Try.pinned (OpenSpec.ofChange cycleLostSpec)

/-- ITS FALSE NEIGHBOUR: 'it returns false'. Refute it at one input. -/
def cycleLostWrong : ChangeSpec := { name := "cycleLost", fn := fun _ => fun
  | [d] => { results := [.lit (.bool false)], args := [d] }
  | _ => none }
def CycleLostWrongFalsely : Prop := cycleLostRow.holds Try.pinned (OpenSpec.ofChange cycleLostWrong)

/-- 'middenheaplaw11.CycleEmpty': WHATEVER THE INPUT: true; the input reads as it did. -/
def cycleEmptySpec : ChangeSpec := { name := "cycleEmpty", fn := fun _ => fun
  | [d] => { results := [.lit (.bool true)], args := [d] }
  | _ => none }
def cycleEmptyRow : OpenClaim := { program := "ytiomemdmhcdpbaa", sum := "6b321c9f1dd28272cafe329590580f88968de56d0ec7eca634daa75834b56f5d", func := "middenheap/middenheaplaw11.CycleEmpty", spec := "cycleEmpty", unfollowed := true, recurses := true, apart := false }
def CycleEmptySaid : Prop := cycleEmptyRow.holds Try.pinned (OpenSpec.ofChange cycleEmptySpec)

/-- ITS FALSE NEIGHBOUR: 'it returns false'. Refute it at one input. -/
def cycleEmptyWrong : ChangeSpec := { name := "cycleEmpty", fn := fun _ => fun
  | [d] => { results := [.lit (.bool false)], args := [d] }
  | _ => none }
def CycleEmptyWrongFalsely : Prop := cycleEmptyRow.holds Try.pinned (OpenSpec.ofChange cycleEmptyWrong)

/-- 'middenheaplaw10.HeapTwins': WHATEVER THE INPUT: true; the input reads as it did. -/
def heapTwinsSpec : ChangeSpec := { name := "heapTwins", fn := fun _ => fun
  | [d] => { results := [.lit (.bool true)], args := [d] }
  | _ => none }
def heapTwinsRow : OpenClaim := { program := "ytiomemdmhcdpbaa", sum := "6b321c9f1dd28272cafe329590580f88968de56d0ec7eca634daa75834b56f5d", func := "middenheap/middenheaplaw10.HeapTwins", spec := "heapTwins", unfollowed := true, recurses := true, apart := false }
def HeapTwinsSaid : Prop := heapTwinsRow.holds Try.pinned (OpenSpec.ofChange heapTwinsSpec)

/-- ITS FALSE NEIGHBOUR: 'it returns false'. Refute it at one input. -/
def heapTwinsWrong : ChangeSpec := { name := "heapTwins", fn := fun _ => fun
  | [d] => { results := [.lit (.bool false)], args := [d] }
  | _ => none }
def HeapTwinsWrongFalsely : Prop := heapTwinsRow.holds Try.pinned (OpenSpec.ofChange heapTwinsWrong)

/-- 'middenheaplaw10.HeapCollects': WHATEVER THE INPUT: true; the input reads as it did. -/
def heapCollectsSpec : ChangeSpec := { name := "heapCollects", fn := fun _ => fun
  | [d] => { results := [.lit (.bool true)], args := [d] }
  | _ => none }
def heapCollectsRow : OpenClaim := { program := "ytiomemdmhcdpbaa", sum := "6b321c9f1dd28272cafe329590580f88968de56d0ec7eca634daa75834b56f5d", func := "middenheap/middenheaplaw10.HeapCollects", spec := "heapCollects", unfollowed := true, recurses := true, apart := false }
def HeapCollectsSaid : Prop := heapCollectsRow.holds Try.pinned (OpenSpec.ofChange heapCollectsSpec)

/-- ITS FALSE NEIGHBOUR: 'it returns false'. Refute it at one input. -/
def heapCollectsWrong : ChangeSpec := { name := "heapCollects", fn := fun _ => fun
  | [d] => { results := [.lit (.bool false)], args := [d] }
  | _ => none }
def HeapCollectsWrongFalsely : Prop := heapCollectsRow.holds Try.pinned (OpenSpec.ofChange heapCollectsWrong)

/-- 'middenheaplaw10.HeapFull': WHATEVER THE INPUT: true; the input reads as it did. -/
def heapFullSpec : ChangeSpec := { name := "heapFull", fn := fun _ => fun
  | [d1, d2] => { results := [.lit (.bool true)], args := [d1, d2] }
  | _ => none }
def heapFullRow : OpenClaim := { program := "ytiomemdmhcdpbaa", sum := "6b321c9f1dd28272cafe329590580f88968de56d0ec7eca634daa75834b56f5d", func := "middenheap/middenheaplaw10.HeapFull", spec := "heapFull", unfollowed := true, recurses := true, apart := false }
def HeapFullSaid : Prop := heapFullRow.holds Try.pinned (OpenSpec.ofChange heapFullSpec)

/-- ITS FALSE NEIGHBOUR: 'it returns false'. Refute it at one input. -/
def heapFullWrong : ChangeSpec := { name := "heapFull", fn := fun _ => fun
  | [d1, d2] => { results := [.lit (.bool false)], args := [d1, d2] }
  | _ => none }
def HeapFullWrongFalsely : Prop := heapFullRow.holds Try.pinned (OpenSpec.ofChange heapFullWrong)

/-- 'middenheaplaw10.HeapStill': WHATEVER THE INPUT: true; the input reads as it did. -/
def heapStillSpec : ChangeSpec := { name := "heapStill", fn := fun _ => fun
  | [d] => { results := [.lit (.bool true)], args := [d] }
  | _ => none }
def heapStillRow : OpenClaim := { program := "ytiomemdmhcdpbaa", sum := "6b321c9f1dd28272cafe329590580f88968de56d0ec7eca634daa75834b56f5d", func := "middenheap/middenheaplaw10.HeapStill", spec := "heapStill", unfollowed := true, recurses := true, apart := false }
def HeapStillSaid : Prop := heapStillRow.holds Try.pinned (OpenSpec.ofChange heapStillSpec)

/-- ITS FALSE NEIGHBOUR: 'it returns false'. Refute it at one input. -/
def heapStillWrong : ChangeSpec := { name := "heapStill", fn := fun _ => fun
  | [d] => { results := [.lit (.bool false)], args := [d] }
  | _ => none }
def HeapStillWrongFalsely : Prop := heapStillRow.holds Try.pinned (OpenSpec.ofChange heapStillWrong)

/-- 'middenheaplaw10.HeapNobody': WHATEVER THE INPUT: true; the input reads as it did. -/
def heapNobodySpec : ChangeSpec := { name := "heapNobody", fn := fun _ => fun
  | [d1, d2, d3] => { results := [.lit (.bool true)], args := [d1, d2, d3] }
  | _ => none }
def heapNobodyRow : OpenClaim := { program := "ytiomemdmhcdpbaa", sum := "6b321c9f1dd28272cafe329590580f88968de56d0ec7eca634daa75834b56f5d", func := "middenheap/middenheaplaw10.HeapNobody", spec := "heapNobody", unfollowed := true, recurses := true, apart := false }
def HeapNobodySaid : Prop := heapNobodyRow.holds Try.pinned (OpenSpec.ofChange heapNobodySpec)

/-- ITS FALSE NEIGHBOUR: 'it returns false'. Refute it at one input. -/
def heapNobodyWrong : ChangeSpec := { name := "heapNobody", fn := fun _ => fun
  | [d1, d2, d3] => { results := [.lit (.bool false)], args := [d1, d2, d3] }
  | _ => none }
def HeapNobodyWrongFalsely : Prop := heapNobodyRow.holds Try.pinned (OpenSpec.ofChange heapNobodyWrong)

/- THE SECOND FORM. 'bulk': how many values and letters a reading holds, each counted each time it is reached (what is shared counts as often as it is met; a slice's spare places count too). A statement '..UptoSaid' is the law's where the arguments, and the package variables that the reading takes, are together of bulk at most 1048576: NARROWER than '..Said'. Prove '..Said' where nothing that the law and all that it calls make is longer than what came in: it says more and counts as full. Else prove '..UptoSaid'. A law counts once. -/
mutual
def uptoBulk {H : Type} : DataW H → Nat
  | .lit (.string bytes) => bytes.length + 1
  | .lit _ => 1
  | .nil => 1
  | .ptr d => uptoBulk d + 1
  | .slice elems spare => uptoBulkAll elems + uptoBulkAll spare + 1
  | .agg parts => uptoBulkAll parts + 1
  | .iface _ d => uptoBulk d + 1
  | .map entries => uptoBulkEntries entries + 1
  | .held _ => 1
def uptoBulkAll {H : Type} : List (DataW H) → Nat
  | [] => 0
  | d :: r => uptoBulk d + uptoBulkAll r
def uptoBulkEntries {H : Type} : List (Lit × DataW H) → Nat
  | [] => 0
  | x :: r => uptoBulkEntry x + uptoBulkEntries r
def uptoBulkEntry {H : Type} : Lit × DataW H → Nat
  | (.string bytes, d) => bytes.length + uptoBulk d + 1
  | (_, d) => uptoBulk d + 1
 end
def uptoSmall : (H : Type) → List (DataW H) → Bool := fun _ ds => decide (uptoBulkAll ds ≤ 1048576)
def OpenSpec.upto (s : _root_.Go.ChangeSpec) : _root_.Go.OpenSpec := { _root_.Go.OpenSpec.ofChange s with cond := some uptoSmall }

/-- 'middenheaplaw10.HeapSerials', WHERE WHAT IT READS IS OF BULK AT MOST 1048576: true; the input reads as it did. -/
def heapSerialsUptoRow : OpenClaim := { program := "ytiomemdmhcdpbaa", sum := "6b321c9f1dd28272cafe329590580f88968de56d0ec7eca634daa75834b56f5d", func := "middenheap/middenheaplaw10.HeapSerials", spec := "heapSerials", unfollowed := true, recurses := true, apart := false, narrowed := true }
def HeapSerialsUptoSaid : Prop := heapSerialsUptoRow.holds Try.pinned (OpenSpec.upto heapSerialsSpec)

/-- 'middenheaplaw11.CycleLost', WHERE WHAT IT READS IS OF BULK AT MOST 1048576: true; the input reads as it did. -/
def cycleLostUptoRow : OpenClaim := { program := "ytiomemdmhcdpbaa", sum := "6b321c9f1dd28272cafe329590580f88968de56d0ec7eca634daa75834b56f5d", func := "middenheap/middenheaplaw11.CycleLost", spec := "cycleLost", unfollowed := true, recurses := true, apart := false, narrowed := true }
def CycleLostUptoSaid : Prop := cycleLostUptoRow.holds Try.pinned (OpenSpec.upto cycleLostSpec)

/-- 'middenheaplaw11.CycleEmpty', WHERE WHAT IT READS IS OF BULK AT MOST 1048576: true; the input reads as it did. -/
def cycleEmptyUptoRow : OpenClaim := { program := "ytiomemdmhcdpbaa", sum := "6b321c9f1dd28272cafe329590580f88968de56d0ec7eca634daa75834b56f5d", func := "middenheap/middenheaplaw11.CycleEmpty", spec := "cycleEmpty", unfollowed := true, recurses := true, apart := false, narrowed := true }
def CycleEmptyUptoSaid : Prop := cycleEmptyUptoRow.holds Try.pinned (OpenSpec.upto cycleEmptySpec)

/-- 'middenheaplaw10.HeapTwins', WHERE WHAT IT READS IS OF BULK AT MOST 1048576: true; the input reads as it did. -/
def heapTwinsUptoRow : OpenClaim := { program := "ytiomemdmhcdpbaa", sum := "6b321c9f1dd28272cafe329590580f88968de56d0ec7eca634daa75834b56f5d", func := "middenheap/middenheaplaw10.HeapTwins", spec := "heapTwins", unfollowed := true, recurses := true, apart := false, narrowed := true }
def HeapTwinsUptoSaid : Prop := heapTwinsUptoRow.holds Try.pinned (OpenSpec.upto heapTwinsSpec)

/-- 'middenheaplaw10.HeapCollects', WHERE WHAT IT READS IS OF BULK AT MOST 1048576: true; the input reads as it did. -/
def heapCollectsUptoRow : OpenClaim := { program := "ytiomemdmhcdpbaa", sum := "6b321c9f1dd28272cafe329590580f88968de56d0ec7eca634daa75834b56f5d", func := "middenheap/middenheaplaw10.HeapCollects", spec := "heapCollects", unfollowed := true, recurses := true, apart := false, narrowed := true }
def HeapCollectsUptoSaid : Prop := heapCollectsUptoRow.holds Try.pinned (OpenSpec.upto heapCollectsSpec)

/-- 'middenheaplaw10.HeapFull', WHERE WHAT IT READS IS OF BULK AT MOST 1048576: true; the input reads as it did. -/
def heapFullUptoRow : OpenClaim := { program := "ytiomemdmhcdpbaa", sum := "6b321c9f1dd28272cafe329590580f88968de56d0ec7eca634daa75834b56f5d", func := "middenheap/middenheaplaw10.HeapFull", spec := "heapFull", unfollowed := true, recurses := true, apart := false, narrowed := true }
def HeapFullUptoSaid : Prop := heapFullUptoRow.holds Try.pinned (OpenSpec.upto heapFullSpec)

/-- 'middenheaplaw10.HeapStill', WHERE WHAT IT READS IS OF BULK AT MOST 1048576: true; the input reads as it did. -/
def heapStillUptoRow : OpenClaim := { program := "ytiomemdmhcdpbaa", sum := "6b321c9f1dd28272cafe329590580f88968de56d0ec7eca634daa75834b56f5d", func := "middenheap/middenheaplaw10.HeapStill", spec := "heapStill", unfollowed := true, recurses := true, apart := false, narrowed := true }
def HeapStillUptoSaid : Prop := heapStillUptoRow.holds Try.pinned (OpenSpec.upto heapStillSpec)

/-- 'middenheaplaw10.HeapNobody', WHERE WHAT IT READS IS OF BULK AT MOST 1048576: true; the input reads as it did. -/
def heapNobodyUptoRow : OpenClaim := { program := "ytiomemdmhcdpbaa", sum := "6b321c9f1dd28272cafe329590580f88968de56d0ec7eca634daa75834b56f5d", func := "middenheap/middenheaplaw10.HeapNobody", spec := "heapNobody", unfollowed := true, recurses := true, apart := false, narrowed := true }
def HeapNobodyUptoSaid : Prop := heapNobodyUptoRow.holds Try.pinned (OpenSpec.upto heapNobodySpec)

end Rows
end Go.Proofs.Ytiomemdmhcdpbaa
