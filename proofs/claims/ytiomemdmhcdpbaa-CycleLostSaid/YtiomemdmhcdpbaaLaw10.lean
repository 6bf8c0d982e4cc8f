/- Layer 10's small helpers: pick, the example. -/
import Derived.Test.YtiomemdmhcdpbaaHeapF
import Derived.Test.YtiomemdmhcdpbaaHead
set_option linter.unusedSimpArgs false
set_option linter.unusedVariables false
namespace Go.Proofs.Ytiomemdmhcdpbaa
open Go.RowKit Go.Shelf

theorem pick10 (c n : Int) (w : World) (hc : I64 c) (hn : 0 < n) :
    Calls Try.prog 17 #[.int .i64 c, .int .i64 n] w fun e w' => e = .returned (.int .i64 (pk c n)) ∧ w = w' := by
  obtain ⟨h1, h2⟩ := hc
  have hn0 : (n == 0) = false := by simp; omega
  by_cases h : c < 0
  · have h0 : 0 ≤ -(c + 1) := by omega
    have hp : Hid (pk c n = (-(c + 1)) % n) := by unfold pk; rw [if_pos h]; rfl
    go_enter Try.func17, Try.ntmps17
    go_wp2
    go_ret
    refine ⟨?_, rfl⟩
    show Ending.returned (.int .i64 (-(Int.tmod (c + 1) n))) = _
    rw [hp.out, ← Int.neg_tmod, Int.tmod_eq_emod_of_nonneg h0]
  · have h0 : 0 ≤ c := by omega
    have hp : Hid (pk c n = c % n) := by unfold pk; rw [if_neg h]; rfl
    go_enter Try.func17, Try.ntmps17
    go_wp2
    go_ret
    exact ⟨by rw [hp.out]; rfl, rfl⟩

theorem hpe {B B' : HB} (h : B'.hp = B.hp) : hpV B' = hpV B := by unfold hpV; rw [h]
theorem GoesL.stay {s : HS} {l : List Nat} {s' : HS} {l' : List Nat} (h : GoesL s l s' l') (hl : ∀ p ∈ l, p ∉ opl s.old) : s' = s ∧ l' = l := by
  induction h with
  | nil => exact ⟨rfl, rfl⟩
  | snoc h g ih =>
    obtain ⟨rfl, rfl⟩ := ih (fun p hp => hl p (List.mem_append.2 (.inl hp)))
    cases g with
    | stay _ => exact ⟨rfl, rfl⟩
    | gone c => exact absurd c.mem (hl _ (List.mem_append.2 (.inr (List.mem_singleton.2 rfl))))
    | move c => exact absurd c.mem (hl _ (List.mem_append.2 (.inr (List.mem_singleton.2 rfl))))
theorem Settles.nil_inv {s : HS} {l st lf : List Nat} (h : Settles s l st lf) (hl : l = []) : st = [] ∧ lf = [] := by
  have := h.len
  subst hl
  simp at this
  exact ⟨this.1, this.2⟩
theorem WeakL.nil_inv {s s' : HS} {l ls : List Nat} (h : WeakL s l s' ls) (hl : l = []) : s' = s ∧ ls = [] := by
  cases h with
  | nil => exact ⟨rfl, rfl⟩
  | snoc h g => simp at hl
theorem Goes.stay_inv {s s' : HS} {p q : Nat} (g : Goes s p s' q) (h : p ∉ opl s.old) : s' = s ∧ q = p := by
  cases g with
  | stay _ => exact ⟨rfl, rfl⟩
  | gone c => exact absurd c.mem h
  | move c => exact absurd c.mem h

def oA : Ob := Ob.new 1 0 false false 1
def sA1 : HS := ⟨16, false, false, [(1, oA)], [], 0, 1, [], []⟩
def sA2 : HS := ⟨16, true, true, [], [(1, oA, none)], 17, 1, [], []⟩
def sA3 : HS := ⟨16, true, true, [(17, oA)], [(1, oA, some 17)], 17, 1, [], []⟩
def sA4 : HS := ⟨16, true, true, [(17, oA)], [(1, oA, some 17)], 21, 1, [], []⟩
def sA5 : HS := ⟨16, true, false, [(17, oA)], [], 21, 1, [], []⟩
theorem oA_took : oA.took = 4 := by rw [Ob.took]; exact congrArg Int.toNat (show rnd 4 = 4 by decide)
theorem sA1_eq : (HS.start 16).alloc 1 0 false false = sA1 := rfl
theorem sA2_eq : sA1.flip = sA2 := rfl
theorem sA2_top : sA2.top = 17 := rfl
theorem sA3_eq : sA2.move 0 = sA3 := rfl
theorem sA4_eq : { sA3.upd 0 (oA.setS [0]) with scan := sA3.scan + oA.took } = sA4 := by rw [oA_took]; rfl
theorem sA5_eq : ({ sA4 with weak := [], fin := [] } : HS).drop = sA5 := rfl
theorem sA_room : sA1.room = 12 ∧ sA5.room = 12 ∧ sA4.top = 21 := by
  refine ⟨?_, ?_, ?_⟩
  · show (16 : Int) - ((oA.took + 0 : Nat) : Int) - ((0 : Nat) : Int) = 12; rw [oA_took]; rfl
  · show (16 : Int) - ((oA.took + 0 : Nat) : Int) - ((0 : Nat) : Int) = 12; rw [oA_took]; rfl
  · show 17 + (oA.took + 0) = 21; rw [oA_took]
theorem sA_no : (1 : Int) ∉ nI (plc sA5.cur) ∧ 17 ∈ plc sA5.cur := by decide

set_option maxRecDepth 100000 in
set_option maxHeartbeats 4000000 in
theorem awake10 (w : World) :
    Calls Try.prog 11 #[] w fun e w' => e = .returned (.bool true) ∧ Calm w w' := by
  have ok : Hid (okS 1 0 false false) := ⟨by decide, by decide, fun h => by cases h⟩
  go_enter Try.func11, Try.ntmps11
  go_wp2_with fail
  refine (hnew_yes _ 16 (by decide) (by decide)).mono ?_
  rintro e w1 ⟨B, rfl, h1, c1, n1⟩
  replace h1 := hid h1
  go_wp2_with fail
  refine (hnew_no _ 15 (.inl (by decide))).mono ?_
  rintro e w1' ⟨rfl, rfl⟩
  go_wp2_with fail
  have C := halloc_yes h1.out ok.out (by show rnd 4 ≤ (16 : Int) - ((0 : Nat) : Int) - ((0 : Nat) : Int); decide) (by decide) ⟨by decide, by decide⟩
  refine (C).mono ?_
  rintro e w2 ⟨rfl, B2, X2, h2, k2⟩
  rw [show ((HS.start 16).top : Int) = 1 from rfl]
  rw [sA1_eq] at h2
  clear C
  go_wp2_with fail
  have C := hserial_yes (i := 0) (a := 1) (o := oA) h2 ⟨by decide, rfl⟩
  rw [hpe k2.hp] at C
  replace h2 := hid h2
  refine (C).mono ?_
  rintro e w3 ⟨rfl, c3⟩
  rw [show (oA.ser : Int) = 1 from rfl]
  replace h2 := hid (h2.out.calm c3)
  replace k2 := k2.trans (HKeep.calm B2 c3)
  clear C c3
  go_wp2_with fail
  have C := room_is h2.out
  rw [hpe k2.hp, sA_room.1] at C
  refine (C).mono ?_
  rintro e w4 ⟨rfl, c4⟩
  replace h2 := hid (h2.out.calm c4)
  replace k2 := k2.trans (HKeep.calm B2 c4)
  clear C c4
  go_wp2_with fail
  have C := hflip_yes h2.out rfl
  rw [hpe k2.hp] at C
  refine (C).mono ?_
  rintro e w5 ⟨rfl, h5, k5⟩
  rw [sA2_eq] at h5
  replace k5 := k2.trans k5
  clear C h2 k2
  go_wp2_with fail
  have C := hmoved h5 (p := 1) (by decide)
  rw [hpe k5.hp] at C
  replace h5 := hid h5
  refine (C).mono ?_
  rintro e w6 ⟨s6, q, g6, rfl, B6, X6, h6, k6⟩
  obtain ⟨rfl, rfl⟩ : s6 = sA3 ∧ q = 17 := by
    cases g6 with
    | stay h => exact absurd (show 1 ∈ opl sA2.old by decide) h
    | gone c =>
      rename_i i o
      have h1 := c.lt; have h2 := c.get
      obtain rfl : i = 0 := by have : sA2.old.length = 1 := rfl; omega
      have h3 : (1, oA, none) = (1, o, some q) := h2
      cases h3
    | move c =>
      rename_i i o
      have h1 := c.lt
      obtain rfl : i = 0 := by have : sA2.old.length = 1 := rfl; omega
      exact ⟨sA3_eq, sA2_top⟩
  replace k6 := k5.trans k6
  rw [show ((17 : Nat) : Int) = 17 from rfl]
  clear C h5 k5 g6
  go_wp2_with fail
  have C := hscan_yes (k := 0) (a := 17) (o := oA) h6 rfl ⟨by decide, rfl⟩ rfl (fun q hq => .inl (by have : q ∈ [0] := hq; simpa using this))
  rw [hpe k6.hp] at C
  replace h6 := hid h6
  refine (C).mono ?_
  rintro e w7 ⟨rfl, s7, l7, g7, _, B7, X7, h7, k7⟩
  obtain ⟨rfl, rfl⟩ := g7.stay (fun p hp => by have hp : p ∈ [0] := hp; have h2 : p = 0 := (by simpa using hp); subst h2; decide)
  rw [show oA.strong = [0] from rfl, sA4_eq] at h7
  replace k7 := k6.trans k7
  clear C h6 k6 g7
  go_wp2_with fail
  have C := hscan_no h7 (show sA4.scan = sA4.top by rw [sA_room.2.2]; rfl)
  rw [hpe k7.hp] at C
  replace h7 := hid h7
  refine (C).mono ?_
  rintro e w8 ⟨rfl, c8⟩
  replace h7 := h7.out.calm c8
  replace k7 := k7.trans (HKeep.calm B7 c8)
  clear C c8
  go_wp2_with fail
  have C := hdrop h7 rfl (show sA4.scan = sA4.top by rw [sA_room.2.2]; rfl) (fun p hp => by cases hp) (fun p hp => by cases hp) (fun stw lf hS q hq => by have := (hS.nil_inv rfl).1; subst this; cases hq)
  rw [hpe k7.hp] at C
  replace h7 := hid h7
  refine (C).mono ?_
  rintro e w9 ⟨stw, stf, l1, l2, s9, ls, v, hS1, hS2, hW, rfl, hv, B9, X9, h9, k9⟩
  obtain ⟨rfl, rfl⟩ := hS1.nil_inv rfl
  obtain ⟨rfl, rfl⟩ := hS2.nil_inv rfl
  obtain ⟨rfl, rfl⟩ := hW.nil_inv rfl
  rw [sA5_eq] at h9
  replace k9 := k7.trans k9
  obtain ⟨va, vc, rfl⟩ := hv.sliceN (n := 0) rfl
  replace h9 := hid h9
  have C1 := here_yes h9.out sA_no.2 (by decide)
  rw [hpe k9.hp] at C1
  have C2 := fun W (cw : Calm w9 W) => here_no (h9.out.calm cw) ⟨by decide, by decide⟩ sA_no.1
  rw [hpe k9.hp] at C2
  have C3 := fun W (cw : Calm w9 W) => room_is (h9.out.calm cw)
  rw [hpe k9.hp, sA_room.2.1] at C3
  replace C1 := hid C1
  replace C2 := hid C2
  replace C3 := hid C3
  have hcalm : Calm w w9 := by
    refine c1.join k9.fr (fun k hk hB => ?_)
    have := n1 k hB; omega
  clear C h7 k7 hS1 hS2 hW hv
  go_wp2_with fail
  refine (C1.out).mono ?_
  rintro e w10 ⟨rfl, c10⟩
  go_wp2_with fail
  refine (C2.out _ c10).mono ?_
  rintro e w11 ⟨rfl, c11⟩
  go_wp2_with fail
  refine (C3.out _ (c10.trans c11)).mono ?_
  rintro e w12 ⟨rfl, c12⟩
  go_wp2
  go_ret
  exact ⟨rfl, ((hcalm.trans c10).trans c11).trans c12⟩

end Go.Proofs.Ytiomemdmhcdpbaa
