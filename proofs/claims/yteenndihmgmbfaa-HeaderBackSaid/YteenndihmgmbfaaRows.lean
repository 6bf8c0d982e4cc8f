/-
  No cell of these rows narrows 'for every input' (looked for: loops, veiled, ifaces, maps, wideKeys, modest, calm, conditions, laid).
  DERIVED. THE GIVEN ROWS OF THIS SEAT. 5 by the template 'for every input the law returns true; each argument reads behind the call as it read before'; 0 by the template 'total and deterministic' (their statements: YteenndihmgmbfaaTotals.lean).
  GIVEN WITH THE SEED: the statements are not yours to turn. If you find one false, say at which input.
  Laid BY PROGRAM, IN A SANDBOX (cutbox-rows.mjs): the forced cells as the released guide's own fill.sh prints them over the translation 80cc39fb821dfd81… (all of the seat's roots in one cut). By AI agents, Wed Nov 11 2026. No macro, syntax, notation, axiom, sorry.
-/
import Derived.Test.YteenndihmgmbfaaChecked
import GoSem.Claim
import GoSem.ClaimJoined
import GoSem.ClaimMapViews
import Derived.JoinedTies
import Derived.KernelRfl
namespace Go.Proofs.Yteenndihmgmbfaa
/- THE CELL 'sum', in the pinned program and in every row, IS THE sha256 OF THE DUMP (.gsa) THAT YteenndihmgmbfaaProg.lean LOADS. Nothing in Lean hashes anything: it is a label: what it is worth is what the hold of that sum in a sandbox is worth. -/
noncomputable def Try.pinned : Pinned := { name := "yteenndihmgmbfaa", sum := "80cc39fb821dfd81ffe25e5f6fbf848c18d0f4308c309fc858ef0b18afac59f5", checked := Try.checked }
namespace Rows
def none {H : Type} : Left H := { results := [], args := [] }

/-- 'middenheaplaw06.HeaderOwners': WHATEVER THE INPUT: true; the input reads as it did. -/
def headerOwnersSpec : ChangeSpec := { name := "headerOwners", fn := fun _ => fun
  | [d1, d2, d3] => { results := [.lit (.bool true)], args := [d1, d2, d3] }
  | _ => none }
def headerOwnersRow : OpenClaim := { program := "yteenndihmgmbfaa", sum := "80cc39fb821dfd81ffe25e5f6fbf848c18d0f4308c309fc858ef0b18afac59f5", func := "middenheap/middenheaplaw06.HeaderOwners", spec := "headerOwners", apart := false }
def HeaderOwnersSaid : Prop := headerOwnersRow.holds Try.pinned (OpenSpec.ofChange headerOwnersSpec)

/-- ITS FALSE NEIGHBOUR: 'it returns false'. Refute it at one input. -/
def headerOwnersWrong : ChangeSpec := { name := "headerOwners", fn := fun _ => fun
  | [d1, d2, d3] => { results := [.lit (.bool false)], args := [d1, d2, d3] }
  | _ => none }
def HeaderOwnersWrongFalsely : Prop := headerOwnersRow.holds Try.pinned (OpenSpec.ofChange headerOwnersWrong)

/-- 'middenheaplaw06.HeaderApart': WHATEVER THE INPUT: true; the input reads as it did. -/
def headerApartSpec : ChangeSpec := { name := "headerApart", fn := fun _ => fun
  | [d1, d2, d3] => { results := [.lit (.bool true)], args := [d1, d2, d3] }
  | _ => none }
def headerApartRow : OpenClaim := { program := "yteenndihmgmbfaa", sum := "80cc39fb821dfd81ffe25e5f6fbf848c18d0f4308c309fc858ef0b18afac59f5", func := "middenheap/middenheaplaw06.HeaderApart", spec := "headerApart", apart := false }
def HeaderApartSaid : Prop := headerApartRow.holds Try.pinned (OpenSpec.ofChange headerApartSpec)

/-- ITS FALSE NEIGHBOUR: 'it returns false'. Refute it at one input. -/
def headerApartWrong : ChangeSpec := { name := "headerApart", fn := fun _ => fun
  | [d1, d2, d3] => { results := [.lit (.bool false)], args := [d1, d2, d3] }
  | _ => none }
def HeaderApartWrongFalsely : Prop := headerApartRow.holds Try.pinned (OpenSpec.ofChange headerApartWrong)

/-- 'middenheaplaw06.HeaderWrong': WHATEVER THE INPUT: true; the input reads as it did. -/
def headerWrongSpec : ChangeSpec := { name := "headerWrong", fn := fun _ => fun
  | [d1, d2, d3] => { results := [.lit (.bool true)], args := [d1, d2, d3] }
  | _ => none }
def headerWrongRow : OpenClaim := { program := "yteenndihmgmbfaa", sum := "80cc39fb821dfd81ffe25e5f6fbf848c18d0f4308c309fc858ef0b18afac59f5", func := "middenheap/middenheaplaw06.HeaderWrong", spec := "headerWrong", apart := false }
def HeaderWrongSaid : Prop := headerWrongRow.holds Try.pinned (OpenSpec.ofChange headerWrongSpec)

/-- ITS FALSE NEIGHBOUR: 'it returns false'. Refute it at one input. -/
def headerWrongWrong : ChangeSpec := { name := "headerWrong", fn := fun _ => fun
  | [d1, d2, d3] => { results := [.lit (.bool false)], args := [d1, d2, d3] }
  | _ => none }
def HeaderWrongWrongFalsely : Prop := headerWrongRow.holds Try.pinned (OpenSpec.ofChange headerWrongWrong)

/-- 'middenheaplaw06.HeaderWheres': WHATEVER THE INPUT: true; the input reads as it did. -/
def headerWheresSpec : ChangeSpec := { name := "headerWheres", fn := fun _ => fun
  | [d] => { results := [.lit (.bool true)], args := [d] }
  | _ => none }
def headerWheresRow : OpenClaim := { program := "yteenndihmgmbfaa", sum := "80cc39fb821dfd81ffe25e5f6fbf848c18d0f4308c309fc858ef0b18afac59f5", func := "middenheap/middenheaplaw06.HeaderWheres", spec := "headerWheres", apart := false }
def HeaderWheresSaid : Prop := headerWheresRow.holds Try.pinned (OpenSpec.ofChange headerWheresSpec)

/-- ITS FALSE NEIGHBOUR: 'it returns false'. Refute it at one input. -/
def headerWheresWrong : ChangeSpec := { name := "headerWheres", fn := fun _ => fun
  | [d] => { results := [.lit (.bool false)], args := [d] }
  | _ => none }
def HeaderWheresWrongFalsely : Prop := headerWheresRow.holds Try.pinned (OpenSpec.ofChange headerWheresWrong)

/-- 'middenheaplaw06.HeaderBack': WHATEVER THE INPUT: true; the input reads as it did. -/
def headerBackSpec : ChangeSpec := { name := "headerBack", fn := fun _ => fun
  | [d] => { results := [.lit (.bool true)], args := [d] }
  | _ => none }
def headerBackRow : OpenClaim := { program := "yteenndihmgmbfaa", sum := "80cc39fb821dfd81ffe25e5f6fbf848c18d0f4308c309fc858ef0b18afac59f5", func := "middenheap/middenheaplaw06.HeaderBack", spec := "headerBack", apart := false }
def HeaderBackSaid : Prop := headerBackRow.holds Try.pinned (OpenSpec.ofChange headerBackSpec)

/-- ITS FALSE NEIGHBOUR: 'it returns false'. Refute it at one input. -/
def headerBackWrong : ChangeSpec := { name := "headerBack", fn := fun _ => fun
  | [d] => { results := [.lit (.bool false)], args := [d] }
  | _ => none }
def HeaderBackWrongFalsely : Prop := headerBackRow.holds Try.pinned (OpenSpec.ofChange headerBackWrong)

/- THE SECOND FORM. 'bulk': how many values and letters a reading holds, each counted each time it is reached (what is shared counts as often as it is met; a slice's spare places count too). A statement '..UptoSaid' is the law's where the arguments, and the package variables that the reading takes, are together of bulk at most 1048576: NARROWER than '..Said'. Prove '..Said' where nothing that the law and all that it calls make is longer than what came in: it says more and counts as full. Else prove '..UptoSaid'. A law counts once. -/
mutual
def uptoBulk {H : Type} : DataW H → Nat
  | .lit (.string bytes) => bytes.length + 1
  | .lit _ => 1
  | .nil => 1
  | .ptr d => uptoBulk d + 1
  | .slice elems spare => uptoBulkAll elems + uptoBulkAll spare + 1
  | .agg parts => uptoBulkAll parts + 1
  | .iface _ d => uptoBulk d + 1
  | .map entries => uptoBulkEntries entries + 1
  | .held _ => 1
def uptoBulkAll {H : Type} : List (DataW H) → Nat
  | [] => 0
  | d :: r => uptoBulk d + uptoBulkAll r
def uptoBulkEntries {H : Type} : List (Lit × DataW H) → Nat
  | [] => 0
  | x :: r => uptoBulkEntry x + uptoBulkEntries r
def uptoBulkEntry {H : Type} : Lit × DataW H → Nat
  | (.string bytes, d) => bytes.length + uptoBulk d + 1
  | (_, d) => uptoBulk d + 1
 end
def uptoSmall : (H : Type) → List (DataW H) → Bool := fun _ ds => decide (uptoBulkAll ds ≤ 1048576)
def OpenSpec.upto (s : _root_.Go.ChangeSpec) : _root_.Go.OpenSpec := { _root_.Go.OpenSpec.ofChange s with cond := some uptoSmall }

/-- 'middenheaplaw06.HeaderOwners', WHERE WHAT IT READS IS OF BULK AT MOST 1048576: true; the input reads as it did. -/
def headerOwnersUptoRow : OpenClaim := { program := "yteenndihmgmbfaa", sum := "80cc39fb821dfd81ffe25e5f6fbf848c18d0f4308c309fc858ef0b18afac59f5", func := "middenheap/middenheaplaw06.HeaderOwners", spec := "headerOwners", apart := false, narrowed := true }
def HeaderOwnersUptoSaid : Prop := headerOwnersUptoRow.holds Try.pinned (OpenSpec.upto headerOwnersSpec)

/-- 'middenheaplaw06.HeaderApart', WHERE WHAT IT READS IS OF BULK AT MOST 1048576: true; the input reads as it did. -/
def headerApartUptoRow : OpenClaim := { program := "yteenndihmgmbfaa", sum := "80cc39fb821dfd81ffe25e5f6fbf848c18d0f4308c309fc858ef0b18afac59f5", func := "middenheap/middenheaplaw06.HeaderApart", spec := "headerApart", apart := false, narrowed := true }
def HeaderApartUptoSaid : Prop := headerApartUptoRow.holds Try.pinned (OpenSpec.upto headerApartSpec)

/-- 'middenheaplaw06.HeaderWrong', WHERE WHAT IT READS IS OF BULK AT MOST 1048576: true; the input reads as it did. -/
def headerWrongUptoRow : OpenClaim := { program := "yteenndihmgmbfaa", sum := "80cc39fb821dfd81ffe25e5f6fbf848c18d0f4308c309fc858ef0b18afac59f5", func := "middenheap/middenheaplaw06.HeaderWrong", spec := "headerWrong", apart := false, narrowed := true }
def HeaderWrongUptoSaid : Prop := headerWrongUptoRow.holds Try.pinned (OpenSpec.upto headerWrongSpec)

/-- 'middenheaplaw06.HeaderWheres', WHERE WHAT IT READS IS OF BULK AT MOST 1048576: true; the input reads as it did. -/
def headerWheresUptoRow : OpenClaim := { program := "yteenndihmgmbfaa", sum := "80cc39fb821dfd81ffe25e5f6fbf848c18d0f4308c309fc858ef0b18afac59f5", func := "middenheap/middenheaplaw06.HeaderWheres", spec := "headerWheres", apart := false, narrowed := true }
def HeaderWheresUptoSaid : Prop := headerWheresUptoRow.holds Try.pinned (OpenSpec.upto headerWheresSpec)

/-- 'middenheaplaw06.HeaderBack', WHERE WHAT IT READS IS OF BULK AT MOST 1048576: true; the input reads as it did. -/
def headerBackUptoRow : OpenClaim := { program := "yteenndihmgmbfaa", sum := "80cc39fb821dfd81ffe25e5f6fbf848c18d0f4308c309fc858ef0b18afac59f5", func := "middenheap/middenheaplaw06.HeaderBack", spec := "headerBack", apart := false, narrowed := true }
def HeaderBackUptoSaid : Prop := headerBackUptoRow.holds Try.pinned (OpenSpec.upto headerBackSpec)

end Rows
end Go.Proofs.Yteenndihmgmbfaa
