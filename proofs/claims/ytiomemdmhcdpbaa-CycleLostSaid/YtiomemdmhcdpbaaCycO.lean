/- Two objects, one weak, the other one its target: for CycleLost. -/
import Derived.Test.YtiomemdmhcdpbaaCycA
set_option linter.unusedSimpArgs false
set_option linter.unusedVariables false
namespace Go.Proofs.Ytiomemdmhcdpbaa
open Go.RowKit Go.Shelf

def oT : Ob := Ob.new 0 1 false false 1
def oW : Ob := Ob.new 1 0 true false 2
def oW1 : Ob := oW.setp true 0 1
theorem oT_took : oT.took = 4 := by rw [Ob.took]; exact congrArg Int.toNat (show rnd 4 = 4 by decide)
theorem oW_took : oW.took = 4 := by rw [Ob.took]; exact congrArg Int.toNat (show rnd 4 = 4 by decide)
def hT (n : Nat) : HS := (HS.start n).alloc 0 1 false false
def hW (n : Nat) : HS := (hT n).alloc 1 0 true false
def hS (n : Nat) : HS := (hW n).upd 1 oW1
theorem hT_eq (n : Nat) : hT n = ⟨n, false, false, [(1, oT)], [], 0, 1, [], []⟩ := rfl
theorem hT_top (n : Nat) : (hT n).top = 5 := by
  show 1 + (oT.took + 0) = 5
  rw [oT_took]
theorem hW_eq (n : Nat) : hW n = ⟨n, false, false, [(1, oT), (5, oW)], [], 0, 2, [5], []⟩ := by
  have h : hW n = ⟨n, false, false, [(1, oT), ((hT n).top, oW)], [], 0, 2, [(hT n).top], []⟩ := rfl
  rw [h, hT_top]
theorem hS_eq (n : Nat) : hS n = ⟨n, false, false, [(1, oT), (5, oW1)], [], 0, 2, [5], []⟩ := by
  unfold hS; rw [hW_eq]; rfl
theorem okT : okS 0 1 false false := ⟨by decide, by decide, fun h => by cases h⟩
theorem okW : okS 1 0 true false := ⟨by decide, by decide, fun _ => ⟨rfl, rfl, rfl⟩⟩
theorem hT_rep {n : Nat} (h1 : 16 ≤ n) (h2 : n ≤ 16384) : ∃ X, HRep (hT n) X :=
  ⟨_, ((HRep.start h1 h2).alloc okT (by show rnd 4 ≤ (n : Int) - ((0 : Nat) : Int) - ((0 : Nat) : Int); rw [show rnd 4 = 4 by decide]; omega) (by show 0 < 1099511627776; decide) ⟨by show 0 < 100000; decide, by show 0 < 100000; decide⟩).1⟩
theorem hW_rep {n : Nat} (h1 : 16 ≤ n) (h2 : n ≤ 16384) : ∃ X, HRep (hW n) X := by
  obtain ⟨X, h⟩ := hT_rep h1 h2
  exact ⟨_, (h.alloc okW (by show rnd 4 ≤ (n : Int) - ((oT.took + 0 : Nat) : Int) - ((0 : Nat) : Int); rw [oT_took, show rnd 4 = 4 by decide]; omega) (by show 1 < 1099511627776; decide) ⟨by show 0 < 100000; decide, by show 0 < 100000; decide⟩).1⟩
theorem hS_rep {n : Nat} (h1 : 16 ≤ n) (h2 : n ≤ 16384) : ∃ X, HRep (hS n) X := by
  obtain ⟨X, h⟩ := hW_rep h1 h2
  have hi : 1 < (hW n).cur.length := by rw [hW_eq]; show 1 < 2; decide
  have ha := h.at_ hi
  have e1 : (hW n).cur.getD 1 ob0 = (5, oW) := by rw [hW_eq]; rfl
  have e1' : (hW n).cur.getD 1 (0, Ob.new 0 0 false false 0) = (5, oW) := e1
  rw [e1'] at ha
  have ha2 := ha.setPtr (i := 0) (v := 1) (by decide) (by decide)
  refine ⟨X.set (5 + 3 + 0) 1, h.upd hi (by simp) (by rw [e1]; exact ha2) (by rw [e1]; exact ⟨rfl, rfl, rfl, rfl, rfl⟩) (fun j hj => ?_)⟩
  rw [e1] at hj
  have hsz : oW.size = 4 := rfl
  have hj2 : j < 5 ∨ 5 + oW.size ≤ j := hj
  have hne : 5 + 3 + 0 ≠ j := by omega
  simp [List.getD, List.getElem?_set_ne hne]
def sg : Nat → Nat := snx (snx id 1 1) 2 2
theorem sg_id (m : Nat) (h : m ≤ 2) : sg m = m := by
  have : m = 0 ∨ m = 1 ∨ m = 2 := by omega
  rcases this with rfl | rfl | rfl <;> rfl
theorem lost_pair : Pair sg (hS 60) (hS 16000) [5, 1, 0, 0] [5, 1, 0, 0] 4 := by
  obtain ⟨X1, a1⟩ := hT_rep (n := 60) (by decide) (by decide)
  obtain ⟨X2, a2⟩ := hW_rep (n := 60) (by decide) (by decide)
  obtain ⟨X3, a3⟩ := hS_rep (n := 60) (by decide) (by decide)
  obtain ⟨Y1, b1⟩ := hT_rep (n := 16000) (by decide) (by decide)
  obtain ⟨Y2, b2⟩ := hW_rep (n := 16000) (by decide) (by decide)
  obtain ⟨Y3, b3⟩ := hS_rep (n := 16000) (by decide) (by decide)
  have p1 : Pair (snx id 1 1) (hT 60) (hT 16000) [0, 1, 0, 0] [0, 1, 0, 0] 4 := (Pair.start 60).alloc (HRep.start (by decide) (by decide)) a1 b1 okT (i := 1) (by decide)
  have p2 := p1.alloc a1 a2 b2 okW (i := 0) (by decide)
  rw [hT_top, hT_top] at p2
  have p2 : Pair sg (hW 60) (hW 16000) [5, 1, 0, 0] [5, 1, 0, 0] 4 := p2
  have d : ∀ n, CurAt (hW n) 1 5 oW := fun n => ⟨by rw [hW_eq]; show 1 < 2; decide, by rw [hW_eq]; rfl⟩
  have r1 : ∀ n, Ref (hW n) 1 1 := fun n => by rw [hW_eq]; exact .inr (.inl ⟨oT, by simp, rfl⟩)
  exact p2.setp a2 b2 (d 60) (d 16000) (k := 0) (q := 1) (q' := 1) (n := 1) (by decide) rfl (Alk.refl ((d 60).at_ a2).ok) (.inr (by rw [hW_eq]; simp [plc])) (r1 60) (r1 16000) a3 b3

/-- The second heap. -/
def bS : HS := hS 16000
theorem bS_cur {q : Nat} {u : Ob} (h : (q, u) ∈ bS.cur) : (q = 1 ∧ u = oT) ∨ (q = 5 ∧ u = oW1) := by
  unfold bS at h
  rw [hS_eq] at h
  simp at h
  exact h
theorem bS_wk {q : Nat} {u : Ob} (h : (q, u) ∈ bS.cur) (hw : u.wk = true) : u = oW1 := by
  rcases bS_cur h with ⟨_, rfl⟩ | ⟨_, rfl⟩
  · cases hw
  · rfl
theorem bS_1 : Ref bS 1 1 := by unfold bS; rw [hS_eq]; exact .inr (.inl ⟨oT, by simp, rfl⟩)
theorem bS_5 : Ref bS 5 2 := by unfold bS; rw [hS_eq]; exact .inr (.inl ⟨oW1, by simp, rfl⟩)
theorem bS_ser : bS.ser = 2 := by unfold bS; rw [hS_eq]
section
variable {A : HS} {R S : List Nat}
theorem clo1 : Clo bS [5, 1, 0, 0] 1 := .root (j := 1) (by decide) bS_1 (by decide)
theorem clo02 : Clo bS [5, 0, 0, 0] 2 := .root (j := 0) (by decide) bS_5 (by decide)
theorem clo0 (hp : Pair sg A bS R S 4) {n : Nat} (h : Clo bS [5, 0, 0, 0] n) : n = 2 := by
  induction h with
  | @root j n hj h1 hn =>
    have hz : ∀ m, Ref bS 0 m → m = 0 := fun m hm => (Ref.pos hp.tw.wb hm).1 rfl
    match j, hj, h1 with
    | 0, _, h1 => exact Ref.unique hp.tw.wb h1 bS_5
    | 1, _, h1 => exact absurd (hz n h1) hn
    | 2, _, h1 => exact absurd (hz n h1) hn
    | 3, _, h1 => exact absurd (hz n h1) hn
    | j + 4, hj, _ => omega
  | @step n m p i u h1 hu e hw hi hr hm ih =>
    rcases bS_cur hu with ⟨_, rfl⟩ | ⟨_, rfl⟩
    · exact absurd hi (by show ¬ i < 0; omega)
    · cases hw
/-- What becomes of the target: kept, let go of, gone. -/
def MdOk (md : Nat) (A : HS) (S : List Nat) : Prop := (md = 0 ∧ S = [5, 1, 0, 0]) ∨ (md = 1 ∧ S = [5, 0, 0, 0] ∧ ∃ p, Ref A p 1) ∨ (md = 2 ∧ S = [5, 0, 0, 0] ∧ ¬ LS A 1)
theorem MdOk.keep {A' : HS} {md : Nat} (h : MdOk md A S) (hr : RefK A A') (hl : ∀ x u, Live A' x u → ∃ x0 u0, Live A x0 u0 ∧ u0.ser = u.ser) : MdOk md A' S := by
  rcases h with h | ⟨h1, h2, p, h3⟩ | ⟨h1, h2, h3⟩
  · exact .inl h
  · exact .inr (.inl ⟨h1, h2, p, hr p 1 h3⟩)
  · exact .inr (.inr ⟨h1, h2, fun ⟨x, u, h4, h5⟩ => h3 (by obtain ⟨x0, u0, k1, k2⟩ := hl x u h4; exact ⟨x0, u0, k1, k2.trans h5⟩)⟩)
theorem MdOk.wk {md : Nat} (h : MdOk md A S) (hp : Pair sg A bS R S 4) (h1 : md ≠ 1) : WkClo A bS S := by
  intro n hn q u hq e hw k hk
  have := bS_wk hq hw
  subst this
  have hk1 : k = 1 := Ref.unique hp.tw.wb (show Ref bS 1 k from hk) bS_1
  subst hk1
  rcases h with ⟨_, rfl⟩ | ⟨h2, _⟩ | ⟨_, _, h3⟩
  · exact .inr (.inl clo1)
  · exact absurd h2 h1
  · exact .inr (.inr h3)
theorem WeakL.one' {s s' : HS} {l ls : List Nat} {q : Nat} (g : WeakL s l s' ls) : l = [q] → WeakS s q s' ls := by
  cases g with
  | nil => intro e; cases e
  | @snoc l ls m s1 s2 q1 g1 g2 =>
    intro e
    obtain ⟨e1, e2⟩ := List.append_inj' (show l ++ [q1] = [] ++ [q] from e) rfl
    subst e1
    injection e2 with e2
    subst e2
    obtain ⟨rfl, rfl⟩ := g1.nil_inv rfl
    exact g2
/-- What is lost. -/
theorem lo_lost {G XA : List Nat} {k md : Nat} {A' : HS} {ls : List Nat} (hp : PhS sg A bS R S 4 G k) (hs : A.ser = 2) (hwl : A.weak.length = 1) (hk : k = A.cur.length) (hr : HRep A XA) (hG : Gath A R) (hm : MdOk md A S) (hq : DropQ sg A bS R S G A' ls) : ls = if md = 1 then [2] else [] := by
  have hs' : A.ser = bS.ser := by rw [hs, bS_ser]
  have hi : ∀ m, m ≤ bS.ser → sg m = m := fun m h => sg_id m (by rw [bS_ser] at h; exact h)
  have hfull := hp.full hr hk
  have hok : ∀ x o, (x, o) ∈ A.cur → o.Ok := fun x o h => (hr.cur_ok h).1
  by_cases h1 : md = 1
  · rw [if_pos h1]
    obtain ⟨rfl, p0, hp0⟩ : S = [5, 0, 0, 0] ∧ ∃ p, Ref A p 1 := by
      rcases hm with ⟨h2, _⟩ | ⟨_, h2, h3⟩ | ⟨h2, _⟩
      · omega
      · exact ⟨h2, h3⟩
      · omega
    have w := hp.pr.tw.wa
    have hser : ∀ x o, (x, o) ∈ A.cur → o.ser = 2 := fun x o ho => clo0 hp.pr (Gath.clo hp.pr hs' hi hG x o ho)
    -- a place that stands for the target lies in the old space, and isn't gone
    have hold : ∀ p, Ref A p 1 → ∃ o1, (p, o1, Option.none) ∈ A.old ∧ o1.ser = 1 := fun p h => by
      rcases h with ⟨_, h⟩ | ⟨o, h, e⟩ | ⟨o, m, h, e⟩
      · cases h
      · have := hser p o h; omega
      · cases m with
        | none => exact ⟨o, h, e⟩
        | some t =>
          obtain ⟨o', h2, h3⟩ := w.gone _ _ _ h
          have h4 := hser t o' h2
          have h5 : o'.ser = o.ser := h3.2.2.2.2
          omega
    obtain ⟨stw, stf, l1, l2, s', h0, h2, h3, h4, h5, W, h6⟩ := hq.set
    obtain ⟨x2, o2, hx2, hx2s⟩ := clo02.full hp.pr hs' hi hfull
    have hwk2 : ∀ x o, Live A x o → o.wk = true → o.ser = 2 := fun x o hl hw => by
      obtain ⟨q', u, u1, u2, u3, _⟩ := obj_id hp.pr hs' hi hl
      have := bS_wk u1 (by rw [u3.wk]; exact hw)
      subst this
      exact u2.symm
    have hl1 : l1 = [] := Settles.none_of w h4 (fun p hp' => by
      refine ⟨2, x2, o2, ?_, hx2, hx2s⟩
      rcases hp.pr.ca.wk p hp' with ⟨o, h7, h8⟩ | ⟨o, m, h7, h8⟩
      · exact .inr (.inl ⟨o, h7, hwk2 p o (.inl h7) h8⟩)
      · refine .inr (.inr ⟨o, m, h7, ?_⟩)
        cases m with
        | none => exact hwk2 p o (.inr h7) h8
        | some t =>
          obtain ⟨o', h9, h10⟩ := w.gone _ _ _ h7
          have h11 : o'.ser = o.ser := h10.2.2.2.2
          have := hser t o' h9
          omega)
    have hlen := h4.len
    rw [hl1, hwl] at hlen
    obtain ⟨q, rfl⟩ : ∃ q, stw = [q] := by
      match stw, hlen with
      | [q], _ => exact ⟨q, rfl⟩
    obtain ⟨o, ho, how⟩ := weak_here (A := A) hp.pr hr h4 q (by simp)
    obtain ⟨q', u, u1, u2, u3, u4⟩ := obj_id hp.pr hs' hi (.inl ho)
    have hu := bS_wk u1 (by rw [u3.wk]; exact how)
    subst hu
    obtain ⟨k', k1, k2⟩ := u4 0 (by have := u3.p; have h9 : oW1.p = 1 := rfl; omega)
    have hk1 : k' = 1 := Ref.unique hp.pr.tw.wb (show Ref bS 1 k' from k1) bS_1
    subst hk1
    obtain ⟨o0, ho0, hs0⟩ := hold p0 hp0
    rcases k2 with k2 | ⟨_, _, k2⟩
    · obtain ⟨o1, ho1, hs1⟩ := hold _ k2
      have g := WeakL.one' h6 rfl
      cases g with
      | stay c h =>
        rename_i i o'
        have e : (q, o') = (q, o) := w.plC _ c.mem' _ ho rfl
        cases e
        exact absurd (List.mem_map.2 ⟨_, ho1, rfl⟩) h
      | gone c d =>
        rename_i i j t o' u'
        have e : (q, o') = (q, o) := w.plC _ c.mem' _ ho rfl
        cases e
        have e2 := w.plO _ d.mem' _ ho1 rfl
        cases e2
      | lost c d =>
        rename_i i j o' u'
        have e : (q, o') = (q, o) := w.plC _ c.mem' _ ho rfl
        cases e
        rw [hser q o ho]
    · exact absurd hs0 (k2 p0 o0 (.inr ho0))
  · rw [if_neg h1]
    exact hq.nolost hp.pr hr (WkClo.none_of hp.pr hs' hi hfull (hm.wk hp.pr h1) hok)
end

end Go.Proofs.Ytiomemdmhcdpbaa
