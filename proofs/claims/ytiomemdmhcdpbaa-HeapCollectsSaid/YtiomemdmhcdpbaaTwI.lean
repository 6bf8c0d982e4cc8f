/- Twins whose objects have the same serials. -/
import Derived.Test.YtiomemdmhcdpbaaDoes
import Derived.Test.YtiomemdmhcdpbaaAlike
set_option linter.unusedSimpArgs false
set_option linter.unusedVariables false
namespace Go.Proofs.Ytiomemdmhcdpbaa
open Go.RowKit Go.Shelf

theorem Grew.same {σ σ' : Nat → Nat} {A B A' B' : HS} (h : Grew σ A B σ' A' B') (e : A.ser = B.ser) (hs : ∀ m, m ≤ B.ser → σ m = m) : A'.ser = B'.ser ∧ B'.ser ≤ B.ser + 1 ∧ ∀ m, m ≤ B'.ser → σ' m = m := by
  rcases h with ⟨rfl, h1, h2⟩ | ⟨rfl, h1, h2⟩
  · exact ⟨by omega, by omega, fun m hm => hs m (by omega)⟩
  · refine ⟨by omega, by omega, fun m hm => ?_⟩
    unfold snx
    split
    · omega
    · exact hs m (by omega)
/-- Twins behind k rounds. -/
def TwI (w : World) (b0 T n : Nat) (k : Nat) (wr : World) : Prop :=
  ∃ σ A B R S BA BB XA XB, TwAt wr b0 T BA BB A B XA XB R S ∧ Pair σ A B R S 4 ∧ A.n = n ∧ A.ser = B.ser ∧ B.ser ≤ k ∧ (∀ m, m ≤ B.ser → σ m = m) ∧ Calm w wr ∧ w.heap.size ≤ b0
theorem TwI.start {w w1 : World} {b0 T n : Nat} {BA BB : HB} {XA XB : List Nat} (h : TwAt w1 b0 T BA BB (HS.start n) (HS.start 16000) XA XB [0, 0, 0, 0] [0, 0, 0, 0]) (c : Calm w w1) (hb : w.heap.size ≤ b0) : TwI w b0 T n 0 w1 :=
  ⟨id, _, _, _, _, BA, BB, XA, XB, h, Pair.start n, rfl, rfl, Nat.zero_le _, fun _ _ => rfl, c, hb⟩
/-- Twins that are not collected. -/
def TwJ (w : World) (b0 T n : Nat) (k : Nat) (wr : World) : Prop :=
  ∃ σ A B R S BA BB XA XB, TwAt wr b0 T BA BB A B XA XB R S ∧ Pair σ A B R S 4 ∧ A.n = n ∧ A.ser = B.ser ∧ B.ser ≤ k ∧ (∀ m, m ≤ B.ser → σ m = m) ∧ Calm w wr ∧ w.heap.size ≤ b0 ∧ A.mv = false
theorem TwJ.start {w w1 : World} {b0 T n : Nat} {BA BB : HB} {XA XB : List Nat} (h : TwAt w1 b0 T BA BB (HS.start n) (HS.start 16000) XA XB [0, 0, 0, 0] [0, 0, 0, 0]) (c : Calm w w1) (hb : w.heap.size ≤ b0) : TwJ w b0 T n 0 w1 :=
  ⟨id, _, _, _, _, BA, BB, XA, XB, h, Pair.start n, rfl, rfl, Nat.zero_le _, fun _ _ => rfl, c, hb, rfl⟩

end Go.Proofs.Ytiomemdmhcdpbaa
