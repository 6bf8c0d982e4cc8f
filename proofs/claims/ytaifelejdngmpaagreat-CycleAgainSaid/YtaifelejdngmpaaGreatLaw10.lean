/- Layer 10's small helpers: pick, the example. -/
import Derived.Test.YtaifelejdngmpaaGreatHeapF
import Derived.Test.YtaifelejdngmpaaGreatHead
set_option linter.unusedSimpArgs false
set_option linter.unusedVariables false
namespace Go.Proofs.YtaifelejdngmpaaGreat
open Go.RowKit Go.Shelf

theorem pick10 (c n : Int) (w : World) (hc : I64 c) (hn : 0 < n) :
    Calls Tryz.prog 22 #[.int .i64 c, .int .i64 n] w fun e w' => e = .returned (.int .i64 (pk c n)) ∧ w = w' := by
  obtain ⟨h1, h2⟩ := hc
  have hn0 : (n == 0) = false := by simp; omega
  by_cases h : c < 0
  · have h0 : 0 ≤ -(c + 1) := by omega
    have hp : Hid (pk c n = (-(c + 1)) % n) := by unfold pk; rw [if_pos h]; rfl
    go_enter Tryz.func22, Tryz.ntmps22
    go_wp2
    go_ret
    refine ⟨?_, rfl⟩
    show Ending.returned (.int .i64 (-(Int.tmod (c + 1) n))) = _
    rw [hp.out, ← Int.neg_tmod, Int.tmod_eq_emod_of_nonneg h0]
  · have h0 : 0 ≤ c := by omega
    have hp : Hid (pk c n = c % n) := by unfold pk; rw [if_neg h]; rfl
    go_enter Tryz.func22, Tryz.ntmps22
    go_wp2
    go_ret
    exact ⟨by rw [hp.out]; rfl, rfl⟩

theorem hpe {B B' : HB} (h : B'.hp = B.hp) : hpV B' = hpV B := by unfold hpV; rw [h]
theorem GoesL.stay {s : HS} {l : List Nat} {s' : HS} {l' : List Nat} (h : GoesL s l s' l') (hl : ∀ p ∈ l, p ∉ opl s.old) : s' = s ∧ l' = l := by
  induction h with
  | nil => exact ⟨rfl, rfl⟩
  | snoc h g ih =>
    obtain ⟨rfl, rfl⟩ := ih (fun p hp => hl p (List.mem_append.2 (.inl hp)))
    cases g with
    | stay _ => exact ⟨rfl, rfl⟩
    | gone c => exact absurd c.mem (hl _ (List.mem_append.2 (.inr (List.mem_singleton.2 rfl))))
    | move c => exact absurd c.mem (hl _ (List.mem_append.2 (.inr (List.mem_singleton.2 rfl))))
theorem Settles.nil_inv {s : HS} {l st lf : List Nat} (h : Settles s l st lf) (hl : l = []) : st = [] ∧ lf = [] := by
  have := h.len
  subst hl
  simp at this
  exact ⟨this.1, this.2⟩
theorem WeakL.nil_inv {s s' : HS} {l ls : List Nat} (h : WeakL s l s' ls) (hl : l = []) : s' = s ∧ ls = [] := by
  cases h with
  | nil => exact ⟨rfl, rfl⟩
  | snoc h g => simp at hl
theorem Goes.stay_inv {s s' : HS} {p q : Nat} (g : Goes s p s' q) (h : p ∉ opl s.old) : s' = s ∧ q = p := by
  cases g with
  | stay _ => exact ⟨rfl, rfl⟩
  | gone c => exact absurd c.mem h
  | move c => exact absurd c.mem h

def oA : Ob := Ob.new 1 0 false false 1
def sA1 : HS := ⟨16, false, false, [(1, oA)], [], 0, 1, [], []⟩
def sA2 : HS := ⟨16, true, true, [], [(1, oA, none)], 17, 1, [], []⟩
def sA3 : HS := ⟨16, true, true, [(17, oA)], [(1, oA, some 17)], 17, 1, [], []⟩
def sA4 : HS := ⟨16, true, true, [(17, oA)], [(1, oA, some 17)], 21, 1, [], []⟩
def sA5 : HS := ⟨16, true, false, [(17, oA)], [], 21, 1, [], []⟩
theorem oA_took : oA.took = 4 := by rw [Ob.took]; exact congrArg Int.toNat (show rnd 4 = 4 by decide)
theorem sA1_eq : (HS.start 16).alloc 1 0 false false = sA1 := rfl
theorem sA2_eq : sA1.flip = sA2 := rfl
theorem sA2_top : sA2.top = 17 := rfl
theorem sA3_eq : sA2.move 0 = sA3 := rfl
theorem sA4_eq : { sA3.upd 0 (oA.setS [0]) with scan := sA3.scan + oA.took } = sA4 := by rw [oA_took]; rfl
theorem sA5_eq : ({ sA4 with weak := [], fin := [] } : HS).drop = sA5 := rfl
theorem sA_room : sA1.room = 12 ∧ sA5.room = 12 ∧ sA4.top = 21 := by
  refine ⟨?_, ?_, ?_⟩
  · show (16 : Int) - ((oA.took + 0 : Nat) : Int) - ((0 : Nat) : Int) = 12; rw [oA_took]; rfl
  · show (16 : Int) - ((oA.took + 0 : Nat) : Int) - ((0 : Nat) : Int) = 12; rw [oA_took]; rfl
  · show 17 + (oA.took + 0) = 21; rw [oA_took]
theorem sA_no : (1 : Int) ∉ nI (plc sA5.cur) ∧ 17 ∈ plc sA5.cur := by decide

end Go.Proofs.YtaifelejdngmpaaGreat
