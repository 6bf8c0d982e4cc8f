/- Twins, the first of which a cycle collects: what holds in memory. -/
import Derived.Test.YtiomemdmhcdpbaaCycS
import Derived.Test.YtiomemdmhcdpbaaPDoes
set_option linter.unusedSimpArgs false
set_option linter.unusedVariables false
namespace Go.Proofs.Ytiomemdmhcdpbaa
open Go.RowKit Go.Shelf

theorem TwAt.sub {w : World} {P P' : Nat → Prop} {T : Nat} {BA BB : HB} {A B : HS} {XA XB R S : List Nat} (h : TwAt w P T BA BB A B XA XB R S) (h1 : ∀ k, HBlk BA k → P' k) (h2 : ∀ k, HBlk BB k → P' k) (h3 : P' T) (h4 : ∀ k, w.heap.size ≤ k → P' k) : TwAt w P' T BA BB A B XA XB R S :=
  ⟨h.ha, h.hb, h.cs, h.ab, h.ta, h.tb, h1, h2, h3, h4⟩
structure CyT (w : World) (b0 T c : Nat) (BA BB : HB) (A B : HS) (XA XB R S : List Nat) (ph : Nat) (rv lv : Value) (rd ls : List Nat) (wr : World) : Prop where
  tw : TwAt wr (fun j => b0 ≤ j) T BA BB A B XA XB R S
  cy : CyAt wr b0 c BA.hp ph rv lv rd ls
  ap : ∀ j, CyB c rv lv j → ¬ HBlk BA j ∧ ¬ HBlk BB j ∧ j ≠ T
  calm : Calm w wr
  lo : w.heap.size ≤ b0
section
variable {w wr w' : World} {b0 T c : Nat} {BA BB BA' : HB} {A B A' : HS} {XA XB XA' R S : List Nat} {ph ph' : Nat} {rv lv rv' lv' : Value} {rd ls rd' ls' : List Nat}
theorem CyT.ch (h : CyT w b0 T c BA BB A B XA XB R S ph rv lv rd ls wr) : CH wr b0 c BA A XA ph rv lv rd ls := ⟨h.tw.ha, h.cy, fun k hk => (h.ap k hk).1⟩
theorem CyT.calmR (h : CyT w b0 T c BA BB A B XA XB R S ph rv lv rd ls wr) (f : Calm wr w') : CyT w b0 T c BA BB A B XA XB R S ph rv lv rd ls w' := ⟨h.tw.calm f, h.cy.calm f, h.ap, h.calm.trans f, h.lo⟩
theorem CyT.bsz (h : CyT w b0 T c BA BB A B XA XB R S ph rv lv rd ls wr) : b0 ≤ wr.heap.size := by
  have h1 : b0 ≤ T := h.tw.lt
  have h2 := h.tw.cs.lt (by simp [twC])
  omega
theorem CyT.start {hp : Nat} (h : TwAt wr (fun j => b0 ≤ j) T BA BB A B XA XB R S) (hc : Calm w wr) (hlo : w.heap.size ≤ b0) (hy : CyAt w' wr.heap.size wr.heap.size BA.hp 0 (.slice none 0 0) (.slice none 0 0) [] []) (f : Calm wr w') : CyT w b0 T wr.heap.size BA BB A B XA XB R S 0 (.slice none 0 0) (.slice none 0 0) [] [] w' := by
  have h1 : b0 ≤ T := h.lt
  have h2 := h.cs.lt (by simp [twC])
  refine ⟨h.calm f, ⟨hy.cs, ORow.nil _ _, ORow.nil _ _, hy.rc, hy.lc, hy.rl, by omega⟩, fun j hj => ?_, hc.trans f, hlo⟩
  rcases hj with rfl | hj | hj
  · exact ⟨fun e => by have := h.ha.lt _ e; omega, fun e => by have := h.hb.lt _ e; omega, by omega⟩
  · exact (InB.nil _ hj).elim
  · exact (InB.nil _ hj).elim
/-- A step of the cycle. -/
theorem CyT.stepC (h : CyT w b0 T c BA BB A B XA XB R S ph rv lv rd ls wr) (hC : CH w' b0 c BA' A' XA' ph' rv' lv' rd' ls') (hK : CKeep wr c rv lv BA w' rv' lv' BA') : CyT w b0 T c BA' BB A' B XA' XB R S ph' rv' lv' rd' ls' w' := by
  have hsz := hK.fr.size
  have hb := h.bsz
  have h2 := h.tw.cs.lt (by simp [twC])
  have hn : ∀ j, HBlk BB j ∨ j = T → ¬ (CyB c rv lv j ∨ HBlk BA j) := fun j hj e => by
    rcases e with e | e
    · rcases hj with hj | hj
      · exact (h.ap j e).2.1 hj
      · exact (h.ap j e).2.2 hj
    · rcases hj with hj | hj
      · exact h.tw.ab j e hj
      · exact h.tw.ta (hj ▸ e)
  refine ⟨⟨hC.ha, h.tw.hb.fr hK.fr (fun k hk => hn k (.inl hk)), by rw [hK.hp]; exact h.tw.cs.fr hK.fr (hn T (.inr rfl)), fun k hk e => ?_, fun e => ?_, h.tw.tb, fun k hk => ?_, h.tw.lb, h.tw.lt, fun k hk => ?_⟩, hC.cy, fun j hj => ⟨hC.ap j hj, fun e => ?_, fun e => ?_⟩, h.calm.join hK.fr (fun j hj e => ?_), h.lo⟩
  · rcases hK.new k hk with h3 | h3
    · exact h.tw.ab k h3 e
    · have := h.tw.hb.lt k e; omega
  · rcases hK.new T e with h3 | h3
    · exact h.tw.ta h3
    · omega
  · rcases hK.new k hk with h3 | h3
    · exact h.tw.la k h3
    · show b0 ≤ k; omega
  · show b0 ≤ k; omega
  · rcases hK.cnew j hj with h3 | h3
    · exact (h.ap j h3).2.1 e
    · have := h.tw.hb.lt j e; omega
  · rcases hK.cnew j hj with h3 | h3
    · exact (h.ap j h3).2.2 e
    · omega
  · have hlo := h.lo
    rcases e with e | e
    · have := (h.cy.lt j e).2; omega
    · have : b0 ≤ j := h.tw.la j e; omega
/-- The cycle's blocks barred. -/
theorem CyT.bar (h : CyT w b0 T c BA BB A B XA XB R S ph rv lv rd ls wr) : TwAt wr (fun j => b0 ≤ j ∧ ¬ CyB c rv lv j) T BA BB A B XA XB R S :=
  h.tw.sub (fun k hk => ⟨h.tw.la k hk, fun e => (h.ap k e).1 hk⟩) (fun k hk => ⟨h.tw.lb k hk, fun e => (h.ap k e).2.1 hk⟩) ⟨h.tw.lt, fun e => (h.ap T e).2.2 rfl⟩ (fun k hk => ⟨by have := h.bsz; omega, fun e => by have := (h.cy.lt k e).1; omega⟩)
theorem CyT.unbar {BB' : HB} {B' : HS} {XB' R' S' : List Nat} (h : CyT w b0 T c BA BB A B XA XB R S ph rv lv rd ls wr) (f : From (fun j => b0 ≤ j ∧ ¬ CyB c rv lv j) wr w') (t : TwAt w' (fun j => b0 ≤ j ∧ ¬ CyB c rv lv j) T BA' BB' A' B' XA' XB' R' S') (e : BA'.hp = BA.hp) : CyT w b0 T c BA' BB' A' B' XA' XB' R' S' ph rv lv rd ls w' := by
  have hb := h.bsz
  have hsz := f.size
  refine ⟨t.sub (fun k hk => (t.la k hk).1) (fun k hk => (t.lb k hk).1) t.lt.1 (fun k hk => by show b0 ≤ k; omega), by rw [e]; exact h.cy.fr f (fun k hk e => e.2 hk), fun j hj => ⟨fun e => (t.la j e).2 hj, fun e => (t.lb j e).2 hj, fun e => t.lt.2 (e ▸ hj)⟩, h.calm.join f (fun j hj e => ?_), h.lo⟩
  have := e.1; have := h.lo; omega
/-- What Does does to twins beside a cycle. -/
def DoesC (w : World) (b0 T c : Nat) (BA : HB) (A B : HS) (σ : Nat → Nat) (ph : Nat) (rv lv : Value) (rd ls : List Nat) (K : Int) (e : Ending) (w' : World) : Prop :=
  e = .returned (.bool true) ∧ ∃ σ' BA' BB' A' B' XA' XB' R' S', CyT w b0 T c BA' BB' A' B' XA' XB' R' S' ph rv lv rd ls w' ∧ BA'.hp = BA.hp ∧ Pair σ' A' B' R' S' 4 ∧ A'.n = A.n ∧ Grew σ A B σ' A' B' ∧ (K < 9 → A'.mv = A.mv)
theorem doesC_is {σ : Nat → Nat} (h : CyT w b0 T c BA BB A B XA XB R S ph rv lv rd ls wr) (hp : Pair σ A B R S 4) (hs : A.ser ≤ 1000 ∧ B.ser ≤ 600) (o : Op10) (hok : o.Ok) :
    Calls Try.prog 29 #[.pointer (some ⟨T, 0, none⟩), opV o] wr (DoesC w b0 T c BA A B σ ph rv lv rd ls (pk o.kd 13)) :=
  (does_is h.bar hp hs o hok).mono (fun e w' ⟨h1, h2, σ', A', B', R', S', BA', BB', XA', XB', t, e1, e2, hp', hn, hg, hm⟩ =>
    ⟨h1, σ', BA', BB', A', B', XA', XB', R', S', h.unbar h2 t e1, e1, hp', hn, hg, hm⟩)
end

end Go.Proofs.Ytiomemdmhcdpbaa
