/-
  No cell of these rows narrows 'for every input' (looked for: loops, veiled, ifaces, maps, wideKeys, modest, calm, conditions, laid).
  DERIVED. THE GIVEN ROWS OF THIS SEAT. 7 by the template 'for every input the law returns true; each argument reads behind the call as it read before'; 0 by the template 'total and deterministic' (their statements: YtlocklcldalklaaTotals.lean).
  GIVEN WITH THE SEED: the statements are not yours to turn. If you find one false, say at which input.
  Laid BY PROGRAM, IN A SANDBOX (cutbox-rows.mjs): the forced cells as the released guide's own fill.sh prints them over the translation 38829e47e4a0b462… (all of the seat's roots in one cut). By AI agents, Wed Nov 11 2026. No macro, syntax, notation, axiom, sorry.
-/
import Derived.Test.YtlocklcldalklaaChecked
import GoSem.Claim
import GoSem.ClaimJoined
import GoSem.ClaimMapViews
import Derived.JoinedTies
import Derived.KernelRfl
namespace Go.Proofs.Ytlocklcldalklaa
/- THE CELL 'sum', in the pinned program and in every row, IS THE sha256 OF THE DUMP (.gsa) THAT YtlocklcldalklaaProg.lean LOADS. Nothing in Lean hashes anything: it is a label: what it is worth is what the hold of that sum in a sandbox is worth. -/
noncomputable def Try.pinned : Pinned := { name := "ytlocklcldalklaa", sum := "38829e47e4a0b462a6e75ada205b6f46c2b9b699843f28743fdbf14069bb5d7b", checked := Try.checked }
namespace Rows
def none {H : Type} : Left H := { results := [], args := [] }

/-- 'middenheaplaw01.WordSets': WHATEVER THE INPUT: true; the input reads as it did. -/
def wordSetsSpec : ChangeSpec := { name := "wordSets", fn := fun _ => fun
  | [d1, d2, d3, d4] => { results := [.lit (.bool true)], args := [d1, d2, d3, d4] }
  | _ => none }
def wordSetsRow : OpenClaim := { program := "ytlocklcldalklaa", sum := "38829e47e4a0b462a6e75ada205b6f46c2b9b699843f28743fdbf14069bb5d7b", func := "middenheap/middenheaplaw01.WordSets", spec := "wordSets", unfollowed := true, recurses := true, apart := false }
def WordSetsSaid : Prop := wordSetsRow.holds Try.pinned (OpenSpec.ofChange wordSetsSpec)

/-- ITS FALSE NEIGHBOUR: 'it returns false'. Refute it at one input. -/
def wordSetsWrong : ChangeSpec := { name := "wordSets", fn := fun _ => fun
  | [d1, d2, d3, d4] => { results := [.lit (.bool false)], args := [d1, d2, d3, d4] }
  | _ => none }
def WordSetsWrongFalsely : Prop := wordSetsRow.holds Try.pinned (OpenSpec.ofChange wordSetsWrong)

/-- 'middenheaplaw01.WordBack': WHATEVER THE INPUT: true; the input reads as it did. -/
def wordBackSpec : ChangeSpec := { name := "wordBack", fn := fun _ => fun
  | [d1, d2] => { results := [.lit (.bool true)], args := [d1, d2] }
  | _ => none }
def wordBackRow : OpenClaim := { program := "ytlocklcldalklaa", sum := "38829e47e4a0b462a6e75ada205b6f46c2b9b699843f28743fdbf14069bb5d7b", func := "middenheap/middenheaplaw01.WordBack", spec := "wordBack", unfollowed := true, recurses := true, apart := false }
def WordBackSaid : Prop := wordBackRow.holds Try.pinned (OpenSpec.ofChange wordBackSpec)

/-- ITS FALSE NEIGHBOUR: 'it returns false'. Refute it at one input. -/
def wordBackWrong : ChangeSpec := { name := "wordBack", fn := fun _ => fun
  | [d1, d2] => { results := [.lit (.bool false)], args := [d1, d2] }
  | _ => none }
def WordBackWrongFalsely : Prop := wordBackRow.holds Try.pinned (OpenSpec.ofChange wordBackWrong)

/-- 'middenheaplaw01.WordForth': WHATEVER THE INPUT: true; the input reads as it did. -/
def wordForthSpec : ChangeSpec := { name := "wordForth", fn := fun _ => fun
  | [d1, d2] => { results := [.lit (.bool true)], args := [d1, d2] }
  | _ => none }
def wordForthRow : OpenClaim := { program := "ytlocklcldalklaa", sum := "38829e47e4a0b462a6e75ada205b6f46c2b9b699843f28743fdbf14069bb5d7b", func := "middenheap/middenheaplaw01.WordForth", spec := "wordForth", unfollowed := true, recurses := true, apart := false }
def WordForthSaid : Prop := wordForthRow.holds Try.pinned (OpenSpec.ofChange wordForthSpec)

/-- ITS FALSE NEIGHBOUR: 'it returns false'. Refute it at one input. -/
def wordForthWrong : ChangeSpec := { name := "wordForth", fn := fun _ => fun
  | [d1, d2] => { results := [.lit (.bool false)], args := [d1, d2] }
  | _ => none }
def WordForthWrongFalsely : Prop := wordForthRow.holds Try.pinned (OpenSpec.ofChange wordForthWrong)

/-- 'middenheaplaw01.WordZigs': WHATEVER THE INPUT: true; the input reads as it did. -/
def wordZigsSpec : ChangeSpec := { name := "wordZigs", fn := fun _ => fun
  | [d1, d2] => { results := [.lit (.bool true)], args := [d1, d2] }
  | _ => none }
def wordZigsRow : OpenClaim := { program := "ytlocklcldalklaa", sum := "38829e47e4a0b462a6e75ada205b6f46c2b9b699843f28743fdbf14069bb5d7b", func := "middenheap/middenheaplaw01.WordZigs", spec := "wordZigs", unfollowed := true, recurses := true, apart := false }
def WordZigsSaid : Prop := wordZigsRow.holds Try.pinned (OpenSpec.ofChange wordZigsSpec)

/-- ITS FALSE NEIGHBOUR: 'it returns false'. Refute it at one input. -/
def wordZigsWrong : ChangeSpec := { name := "wordZigs", fn := fun _ => fun
  | [d1, d2] => { results := [.lit (.bool false)], args := [d1, d2] }
  | _ => none }
def WordZigsWrongFalsely : Prop := wordZigsRow.holds Try.pinned (OpenSpec.ofChange wordZigsWrong)

/-- 'middenheaplaw01.WordMasks': WHATEVER THE INPUT: true; the input reads as it did. -/
def wordMasksSpec : ChangeSpec := { name := "wordMasks", fn := fun _ => fun
  | [d1, d2, d3] => { results := [.lit (.bool true)], args := [d1, d2, d3] }
  | _ => none }
def wordMasksRow : OpenClaim := { program := "ytlocklcldalklaa", sum := "38829e47e4a0b462a6e75ada205b6f46c2b9b699843f28743fdbf14069bb5d7b", func := "middenheap/middenheaplaw01.WordMasks", spec := "wordMasks", unfollowed := true, recurses := true, apart := false }
def WordMasksSaid : Prop := wordMasksRow.holds Try.pinned (OpenSpec.ofChange wordMasksSpec)

/-- ITS FALSE NEIGHBOUR: 'it returns false'. Refute it at one input. -/
def wordMasksWrong : ChangeSpec := { name := "wordMasks", fn := fun _ => fun
  | [d1, d2, d3] => { results := [.lit (.bool false)], args := [d1, d2, d3] }
  | _ => none }
def WordMasksWrongFalsely : Prop := wordMasksRow.holds Try.pinned (OpenSpec.ofChange wordMasksWrong)

/-- 'middenheaplaw01.WordPlaces': WHATEVER THE INPUT: true; the input reads as it did. -/
def wordPlacesSpec : ChangeSpec := { name := "wordPlaces", fn := fun _ => fun
  | [d1, d2, d3] => { results := [.lit (.bool true)], args := [d1, d2, d3] }
  | _ => none }
def wordPlacesRow : OpenClaim := { program := "ytlocklcldalklaa", sum := "38829e47e4a0b462a6e75ada205b6f46c2b9b699843f28743fdbf14069bb5d7b", func := "middenheap/middenheaplaw01.WordPlaces", spec := "wordPlaces", unfollowed := true, recurses := true, apart := false }
def WordPlacesSaid : Prop := wordPlacesRow.holds Try.pinned (OpenSpec.ofChange wordPlacesSpec)

/-- ITS FALSE NEIGHBOUR: 'it returns false'. Refute it at one input. -/
def wordPlacesWrong : ChangeSpec := { name := "wordPlaces", fn := fun _ => fun
  | [d1, d2, d3] => { results := [.lit (.bool false)], args := [d1, d2, d3] }
  | _ => none }
def WordPlacesWrongFalsely : Prop := wordPlacesRow.holds Try.pinned (OpenSpec.ofChange wordPlacesWrong)

/-- 'middenheaplaw01.WordNear': WHATEVER THE INPUT: true; the input reads as it did. -/
def wordNearSpec : ChangeSpec := { name := "wordNear", fn := fun _ => fun
  | [d1, d2] => { results := [.lit (.bool true)], args := [d1, d2] }
  | _ => none }
def wordNearRow : OpenClaim := { program := "ytlocklcldalklaa", sum := "38829e47e4a0b462a6e75ada205b6f46c2b9b699843f28743fdbf14069bb5d7b", func := "middenheap/middenheaplaw01.WordNear", spec := "wordNear", unfollowed := true, recurses := true, apart := false }
def WordNearSaid : Prop := wordNearRow.holds Try.pinned (OpenSpec.ofChange wordNearSpec)

/-- ITS FALSE NEIGHBOUR: 'it returns false'. Refute it at one input. -/
def wordNearWrong : ChangeSpec := { name := "wordNear", fn := fun _ => fun
  | [d1, d2] => { results := [.lit (.bool false)], args := [d1, d2] }
  | _ => none }
def WordNearWrongFalsely : Prop := wordNearRow.holds Try.pinned (OpenSpec.ofChange wordNearWrong)

/- THE SECOND FORM. 'bulk': how many values and letters a reading holds, each counted each time it is reached (what is shared counts as often as it is met; a slice's spare places count too). A statement '..UptoSaid' is the law's where the arguments, and the package variables that the reading takes, are together of bulk at most 1048576: NARROWER than '..Said'. Prove '..Said' where nothing that the law and all that it calls make is longer than what came in: it says more and counts as full. Else prove '..UptoSaid'. A law counts once. -/
mutual
def uptoBulk {H : Type} : DataW H → Nat
  | .lit (.string bytes) => bytes.length + 1
  | .lit _ => 1
  | .nil => 1
  | .ptr d => uptoBulk d + 1
  | .slice elems spare => uptoBulkAll elems + uptoBulkAll spare + 1
  | .agg parts => uptoBulkAll parts + 1
  | .iface _ d => uptoBulk d + 1
  | .map entries => uptoBulkEntries entries + 1
  | .held _ => 1
def uptoBulkAll {H : Type} : List (DataW H) → Nat
  | [] => 0
  | d :: r => uptoBulk d + uptoBulkAll r
def uptoBulkEntries {H : Type} : List (Lit × DataW H) → Nat
  | [] => 0
  | x :: r => uptoBulkEntry x + uptoBulkEntries r
def uptoBulkEntry {H : Type} : Lit × DataW H → Nat
  | (.string bytes, d) => bytes.length + uptoBulk d + 1
  | (_, d) => uptoBulk d + 1
 end
def uptoSmall : (H : Type) → List (DataW H) → Bool := fun _ ds => decide (uptoBulkAll ds ≤ 1048576)
def OpenSpec.upto (s : _root_.Go.ChangeSpec) : _root_.Go.OpenSpec := { _root_.Go.OpenSpec.ofChange s with cond := some uptoSmall }

/-- 'middenheaplaw01.WordSets', WHERE WHAT IT READS IS OF BULK AT MOST 1048576: true; the input reads as it did. -/
def wordSetsUptoRow : OpenClaim := { program := "ytlocklcldalklaa", sum := "38829e47e4a0b462a6e75ada205b6f46c2b9b699843f28743fdbf14069bb5d7b", func := "middenheap/middenheaplaw01.WordSets", spec := "wordSets", unfollowed := true, recurses := true, apart := false, narrowed := true }
def WordSetsUptoSaid : Prop := wordSetsUptoRow.holds Try.pinned (OpenSpec.upto wordSetsSpec)

/-- 'middenheaplaw01.WordBack', WHERE WHAT IT READS IS OF BULK AT MOST 1048576: true; the input reads as it did. -/
def wordBackUptoRow : OpenClaim := { program := "ytlocklcldalklaa", sum := "38829e47e4a0b462a6e75ada205b6f46c2b9b699843f28743fdbf14069bb5d7b", func := "middenheap/middenheaplaw01.WordBack", spec := "wordBack", unfollowed := true, recurses := true, apart := false, narrowed := true }
def WordBackUptoSaid : Prop := wordBackUptoRow.holds Try.pinned (OpenSpec.upto wordBackSpec)

/-- 'middenheaplaw01.WordForth', WHERE WHAT IT READS IS OF BULK AT MOST 1048576: true; the input reads as it did. -/
def wordForthUptoRow : OpenClaim := { program := "ytlocklcldalklaa", sum := "38829e47e4a0b462a6e75ada205b6f46c2b9b699843f28743fdbf14069bb5d7b", func := "middenheap/middenheaplaw01.WordForth", spec := "wordForth", unfollowed := true, recurses := true, apart := false, narrowed := true }
def WordForthUptoSaid : Prop := wordForthUptoRow.holds Try.pinned (OpenSpec.upto wordForthSpec)

/-- 'middenheaplaw01.WordZigs', WHERE WHAT IT READS IS OF BULK AT MOST 1048576: true; the input reads as it did. -/
def wordZigsUptoRow : OpenClaim := { program := "ytlocklcldalklaa", sum := "38829e47e4a0b462a6e75ada205b6f46c2b9b699843f28743fdbf14069bb5d7b", func := "middenheap/middenheaplaw01.WordZigs", spec := "wordZigs", unfollowed := true, recurses := true, apart := false, narrowed := true }
def WordZigsUptoSaid : Prop := wordZigsUptoRow.holds Try.pinned (OpenSpec.upto wordZigsSpec)

/-- 'middenheaplaw01.WordMasks', WHERE WHAT IT READS IS OF BULK AT MOST 1048576: true; the input reads as it did. -/
def wordMasksUptoRow : OpenClaim := { program := "ytlocklcldalklaa", sum := "38829e47e4a0b462a6e75ada205b6f46c2b9b699843f28743fdbf14069bb5d7b", func := "middenheap/middenheaplaw01.WordMasks", spec := "wordMasks", unfollowed := true, recurses := true, apart := false, narrowed := true }
def WordMasksUptoSaid : Prop := wordMasksUptoRow.holds Try.pinned (OpenSpec.upto wordMasksSpec)

/-- 'middenheaplaw01.WordPlaces', WHERE WHAT IT READS IS OF BULK AT MOST 1048576: true; the input reads as it did. -/
def wordPlacesUptoRow : OpenClaim := { program := "ytlocklcldalklaa", sum := "38829e47e4a0b462a6e75ada205b6f46c2b9b699843f28743fdbf14069bb5d7b", func := "middenheap/middenheaplaw01.WordPlaces", spec := "wordPlaces", unfollowed := true, recurses := true, apart := false, narrowed := true }
def WordPlacesUptoSaid : Prop := wordPlacesUptoRow.holds Try.pinned (OpenSpec.upto wordPlacesSpec)

/-- 'middenheaplaw01.WordNear', WHERE WHAT IT READS IS OF BULK AT MOST 1048576: true; the input reads as it did. -/
def wordNearUptoRow : OpenClaim := { program := "ytlocklcldalklaa", sum := "38829e47e4a0b462a6e75ada205b6f46c2b9b699843f28743fdbf14069bb5d7b", func := "middenheap/middenheaplaw01.WordNear", spec := "wordNear", unfollowed := true, recurses := true, apart := false, narrowed := true }
def WordNearUptoSaid : Prop := wordNearUptoRow.holds Try.pinned (OpenSpec.upto wordNearSpec)

end Rows
end Go.Proofs.Ytlocklcldalklaa
