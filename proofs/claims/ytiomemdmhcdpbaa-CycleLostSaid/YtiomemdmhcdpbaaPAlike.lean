/- The registers of twins, as slices. A collection's deeds, with what they leave of what is come to. What the document's Same returns. What Alike does: twins are alike. -/
import Derived.Test.YtiomemdmhcdpbaaPDoes1
import Derived.Test.YtiomemdmhcdpbaaAlikeL
import Derived.Test.YtiomemdmhcdpbaaCanon
import Derived.Test.YtiomemdmhcdpbaaLay
import Derived.LoopN
set_option linter.unusedSimpArgs false
set_option linter.unusedVariables false
namespace Go.Proofs.Ytiomemdmhcdpbaa
open Go.RowKit Go.Shelf

/-- The registers, as a slice. -/
theorem TwAt.rowR {w : World} {b0 : Nat → Prop} {T : Nat} {BA BB : HB} {A B : HS} {XA XB R S : List Nat} (h : TwAt w b0 T BA BB A B XA XB R S) (hl : R.length = 4 ∧ S.length = 4) : Row w (.slice (some ⟨T, 2, none⟩) 4 4) (iVs (nI R)) := by
  refine ⟨some ⟨T, 2, none⟩, 4, by simp [hl.1], .inr ⟨T, 2, rfl, fun i hi => ?_⟩⟩
  have hi2 : i < R.length := by simpa using hi
  have h1 := (h.cellR hl (i := i) (by omega)).1
  rw [h1]
  simp [List.getD, hi2]
theorem TwAt.rowS {w : World} {b0 : Nat → Prop} {T : Nat} {BA BB : HB} {A B : HS} {XA XB R S : List Nat} (h : TwAt w b0 T BA BB A B XA XB R S) (hl : R.length = 4 ∧ S.length = 4) : Row w (.slice (some ⟨T, 6, none⟩) 4 4) (iVs (nI S)) := by
  refine ⟨some ⟨T, 6, none⟩, 4, by simp [hl.2], .inr ⟨T, 6, rfl, fun i hi => ?_⟩⟩
  have hi2 : i < S.length := by simpa using hi
  have h1 := (h.cellS hl (i := i) (by omega)).1
  rw [h1]
  simp [List.getD, hi2]
end Go.Proofs.Ytiomemdmhcdpbaa

namespace Go.Proofs.Ytiomemdmhcdpbaa
open Go.RowKit Go.Shelf

/-- Twins while A is collected: come to from G, the first k scanned. -/
structure PhS (σ : Nat → Nat) (A B : HS) (R S : List Nat) (m : Nat) (G : List Nat) (k : Nat) : Prop where
  pr : Pair σ A B R S m
  ga : Gath A G
  pg : Prog A k
  mv : A.mv = true
/-- What stays of A. -/
structure AKeep (A A' : HS) : Prop where
  n : A'.n = A.n
  ser : A'.ser = A.ser
  sub : ∀ q ∈ plc A.cur, q ∈ plc A'.cur
  ref : RefK A A'
  liv : ∀ x u, Live A' x u → ∃ x0 u0, Live A x0 u0 ∧ u0.ser = u.ser
theorem AKeep.refl (A : HS) : AKeep A A := ⟨rfl, rfl, fun _ h => h, fun _ _ h => h, fun x u h => ⟨x, u, h, rfl⟩⟩
theorem AKeep.trans {A B C : HS} (h : AKeep A B) (k : AKeep B C) : AKeep A C := ⟨k.n.trans h.n, k.ser.trans h.ser, fun q hq => k.sub q (h.sub q hq), fun p n hp => k.ref p n (h.ref p n hp), fun x u hu => by
  obtain ⟨x1, u1, h1, e1⟩ := k.liv x u hu
  obtain ⟨x0, u0, h0, e0⟩ := h.liv x1 u1 h1
  exact ⟨x0, u0, h0, e0.trans e1⟩⟩
theorem Goes.liv {s s' : HS} {X : List Nat} (hr : HRep s X) {p q : Nat} (g : Goes s p s' q) : ∀ x u, Live s' x u → ∃ x0 u0, Live s x0 u0 ∧ u0.ser = u.ser := fun x u hu => by
  cases g with
  | stay _ => exact ⟨x, u, hu, rfl⟩
  | gone _ => exact ⟨x, u, hu, rfl⟩
  | move c =>
    rcases c.moveIn.live hr hu with h | ⟨_, h⟩
    · exact ⟨x, u, h, rfl⟩
    · exact ⟨_, _, .inr c.moveIn.mem, by rw [h]⟩
theorem GoesL.liv {s s' : HS} {X : List Nat} (hr : HRep s X) {l l' : List Nat} (g : GoesL s l s' l') : ∀ x u, Live s' x u → ∃ x0 u0, Live s x0 u0 ∧ u0.ser = u.ser := by
  induction g with
  | nil => exact fun x u h => ⟨x, u, h, rfl⟩
  | snoc h g ih =>
    intro x u hu
    obtain ⟨X1, h1⟩ := h.rep hr
    obtain ⟨x1, u1, k1, e1⟩ := g.liv h1 x u hu
    obtain ⟨x0, u0, k0, e0⟩ := ih x1 u1 k1
    exact ⟨x0, u0, k0, e0.trans e1⟩
theorem GoesL.akeep {s s' : HS} {X : List Nat} (hr : HRep s X) (w : WF s) {l l' : List Nat} (g : GoesL s l s' l') : AKeep s s' := ⟨g.same.1, g.same.2.2.2.2.1, g.mem.2.1, (g.refk hr w).1, g.liv hr⟩

def ScanOut (w : World) (BA : HB) (σ : Nat → Nat) (A B : HS) (R S G : List Nat) (k : Nat) (e : Ending) (w' : World) : Prop :=
  ∃ A' BA' XA' k' b, e = .returned (.bool b) ∧ HAt w' BA' A' XA' ∧ HKeep w BA w' BA' ∧ PhS σ A' B R S 4 G k' ∧ AKeep A A' ∧ A'.fin = A.fin ∧ A'.weak = A.weak ∧
    ((b = false ∧ k' = k ∧ k = A.cur.length ∧ A' = A) ∨ (b = true ∧ k' = k + 1 ∧ k < A.cur.length))
theorem scan_ph {σ : Nat → Nat} {A B : HS} {R S G : List Nat} {k : Nat} {w : World} {BA : HB} {XA : List Nat} (h : HAt w BA A XA) (hp : PhS σ A B R S 4 G k) :
    Calls Try.prog 32 #[hpV BA] w (ScanOut w BA σ A B R S G k) := by
  by_cases hk : k = A.cur.length
  · have hs := (hp.pg.top h.rep).2 hk
    exact (hscan_no h hs).mono (fun e w' ⟨h1, h2⟩ => ⟨A, BA, XA, k, false, h1, h.calm h2, HKeep.calm BA h2, hp, AKeep.refl A, rfl, rfl, .inl ⟨rfl, rfl, hk, rfl⟩⟩)
  · have hlt : k < A.cur.length := by have := hp.pg.1; omega
    have d := hp.pg.at_ h.rep hlt
    refine (hscan_yes h hp.mv d rfl (fun q hq => hp.pr.place (.inl d.mem') (strong_sub hq))).mono (fun e w' ⟨h1, s', l', g, hq, BA', X', hA, hK⟩ => ⟨_, BA', X', k + 1, true, h1, hA, hK, ⟨hp.pr.scan h.rep d rfl hp.mv g hq hA.rep, hp.ga.scan h.rep d g, hp.pg.scan d g, ?_⟩, ⟨?_, ?_, fun q hq => ?_, fun p n hpn => ?_, fun x u hu => ?_⟩, ?_, ?_, .inr ⟨rfl, rfl, hlt⟩⟩)
    · exact g.same.2.2.1.trans hp.mv
    · exact g.same.1
    · exact g.same.2.2.2.2.1
    · show q ∈ plc (s'.upd k _).cur
      rw [plc_upd]; exact g.mem.2.1 q hq
    · have d' := g.cur d
      have hk := g.refk h.rep hp.pr.tw.wa
      have m : UpdIn s' k _ _ ((A.cur.getD k ob0).2.setS l') := ⟨d'.lt, d'.get, ⟨rfl, rfl, rfl, rfl, rfl⟩⟩
      exact (m.ref hk.2 (hk.1 p n hpn) : Ref (s'.upd k _) p n)
    · have d' := g.cur d
      obtain ⟨X1, h1⟩ := g.rep h.rep
      have m : UpdIn s' k _ _ ((A.cur.getD k ob0).2.setS l') := ⟨d'.lt, d'.get, ⟨rfl, rfl, rfl, rfl, rfl⟩⟩
      have hu' : Live (s'.upd k ((A.cur.getD k ob0).2.setS l')) x u := hu
      rcases m.live h1 hu' with (⟨h2, _⟩ | ⟨h2, _⟩) | ⟨_, h2⟩
      · exact g.liv h.rep x u h2
      · exact g.liv h.rep x u h2
      · obtain ⟨x0, u0, k0, e0⟩ := g.liv h.rep _ _ (.inl m.mem)
        exact ⟨x0, u0, k0, by rw [e0, h2]; rfl⟩
    · exact g.same.2.2.2.2.2.2.1
    · exact g.same.2.2.2.2.2.1

def FinalsOut (w : World) (BA : HB) (σ : Nat → Nat) (A B : HS) (R S G : List Nat) (k : Nat) (e : Ending) (w' : World) : Prop :=
  ∃ A' BA' XA' st lf l' v, e = .returned v ∧ HAt w' BA' A' XA' ∧ HKeep w BA w' BA' ∧ ORow w' w.heap.size v (nI l') ∧ (∀ b, InB v b → ¬ HBlk BA' b) ∧ PhS σ A' B R S 4 (G ++ l') k ∧ AKeep A A' ∧ A'.weak = A.weak ∧
    (∀ q ∈ l', Placed A' q) ∧ Settles A A.fin st lf ∧ GoesL { A with fin := st } lf A' l' ∧ A'.fin = st ∧ ∀ q ∈ st, q ∈ plc A.cur
theorem finals_ph {σ : Nat → Nat} {A B : HS} {R S G : List Nat} {k : Nat} {w : World} {BA : HB} {XA : List Nat} (h : HAt w BA A XA) (hp : PhS σ A B R S 4 G k) :
    Calls Try.prog 33 #[hpV BA] w (FinalsOut w BA σ A B R S G k) := by
  refine (hfinals h hp.mv (fun p hp' => Place.le h.rep (.inr (hp.pr.ca.fn p hp')))).mono (fun e w' ⟨st, lf, s', l', v, h1, h2, h3, h4, h5, BA', X', h6, h7, h8⟩ => ?_)
  have hst := h1.st_here h.rep hp.pr.ca.fn
  have hg : Gath { A with fin := st } G := hp.ga.congr rfl
  have hpg : Prog { A with fin := st } k := hp.pg
  have ha : AKeep A { A with fin := st } := ⟨rfl, rfl, fun _ h => h, fun _ _ h => h, fun x u h => ⟨x, u, h, rfl⟩⟩
  have hrs : HRep { A with fin := st } XA := ⟨h.rep.n1, h.rep.n2, h.rep.len, h.rep.zero, h.rep.half, h.rep.oroom, h.rep.room, h.rep.still, h.rep.ser, ⟨h.rep.few.1, by have := h1.len; have := h.rep.few.2; show st.length ≤ _; omega⟩⟩
  refine ⟨s', BA', X', st, lf, l', v, h4, h6, h7, h5, h8, ⟨hp.pr.finals h.rep h1 ?_ h2, hg.goesL h2, hpg.goesL h2, h2.same.2.2.1.trans hp.mv⟩, ha.trans (h2.akeep hrs (hp.pr.settleF h.rep h1).tw.wa), h2.same.2.2.2.2.2.1, h3, h1, h2, h2.same.2.2.2.2.2.2.1, hst⟩
  have := h1.len; have := h.rep.few.2; omega

theorem WkI.took {A s : HS} {l : List Nat} (W : WkI A l s) : tookC s.cur = tookC A.cur := by
  rw [← tookC_sum, ← tookC_sum]
  congr 1
  apply List.ext_getElem (by simpa using W.len)
  intro i h1 h2
  have h2 : i < A.cur.length := by simpa using h2
  have := (W.obj i h2).2.same.took
  simpa [List.getD, h2, show i < s.cur.length by rw [W.len]; exact h2] using this

def DropOut (w : World) (BA : HB) (σ : Nat → Nat) (A B : HS) (R S G : List Nat) (e : Ending) (w' : World) : Prop :=
  ∃ A' BA' XA' stw stf l1 l2 s' ls v, e = .returned (.tuple #[v, .bool true]) ∧ HAt w' BA' A' XA' ∧ HKeep w BA w' BA' ∧ ORow w' w.heap.size v (nI ls) ∧ A' = s'.drop ∧ Pair σ A' B R S 4 ∧ Gath A' G ∧
    A'.mv = false ∧ A'.old = [] ∧ A'.n = A.n ∧ A'.ser = A.ser ∧ plc A'.cur = plc A.cur ∧ tookC A'.cur = tookC A.cur ∧ A'.fin = stf ∧ A'.weak = stw ∧
    Settles A A.weak stw l1 ∧ Settles A A.fin stf l2 ∧ WkI { A with weak := stw, fin := stf } stw s' ∧ WeakL { A with weak := stw, fin := stf } stw s' ls
theorem drop_ph {σ : Nat → Nat} {A B : HS} {R S G : List Nat} {k : Nat} {w : World} {BA : HB} {XA : List Nat} (h : HAt w BA A XA) (hp : PhS σ A B R S 4 G k) (hk : k = A.cur.length) :
    Calls Try.prog 34 #[hpV BA] w (DropOut w BA σ A B R S G) := by
  have hs := (hp.pg.top h.rep).2 hk
  have hwk : ∀ p ∈ A.weak, Place A p := fun p hp' => by
    rcases hp.pr.ca.wk p hp' with ⟨o, k, _⟩ | ⟨o, m, k, _⟩
    · exact .inr (.inl (List.mem_map.2 ⟨_, k, rfl⟩))
    · exact .inr (.inr (List.mem_map.2 ⟨_, k, rfl⟩))
  have hok : ∀ stw lf, Settles A A.weak stw lf → ∀ q ∈ stw, WeakOk A q := fun stw lf h1 q hq => by
    have : ∃ o, (q, o) ∈ A.cur ∧ o.wk = true := by
      rcases h1.st_mem hq with ⟨k1, k2⟩ | ⟨a, k1, k2⟩
      · rcases hp.pr.ca.wk q k1 with k3 | ⟨o, m, k3, _⟩
        · exact k3
        · exact absurd (List.mem_map.2 ⟨_, k3, rfl⟩) k2
      · rcases hp.pr.ca.wk a k1 with ⟨o, k3, _⟩ | ⟨o, m, k3, k4⟩
        · exfalso
          obtain ⟨i, u, c⟩ := k2
          exact Entry.unique h.rep k3 ⟨_, c.mem'⟩
        · obtain ⟨i, u, c⟩ := k2
          have := old_same h.rep k3 c.mem' rfl
          cases this
          obtain ⟨o', k5, k6⟩ := hp.pr.tw.wa.gone a o q c.mem'
          exact ⟨o', k5, by rw [k6.2.2.1]; exact k4⟩
    obtain ⟨o, k1, k2⟩ := this
    obtain ⟨i, hi, e⟩ := mem_get ob0 k1
    have hok : o.Ok := (h.rep.cur_ok k1).1
    have hp1 := Ob.weak_p hok k2
    exact ⟨i, o, ⟨hi, e⟩, k2, hp.pr.place (.inl k1) (get_mem' 0 (by rw [hok.lp]; omega))⟩
  refine (hdrop h hp.mv hs (fun p h1 => (hwk p h1).le h.rep) (fun p h1 => Place.le h.rep (.inr (hp.pr.ca.fn p h1))) hok).mono (fun e w' ⟨stw, stf, l1, l2, s', ls, v, h1, h2, h3, h4, h5, BA', X', h6, h7⟩ => ?_)
  have hw1 : stw.length ≤ 100000 := by have := h1.len; have := h.rep.few.1; omega
  have hw2 : stf.length ≤ 100000 := by have := h2.len; have := h.rep.few.2; omega
  have W := WkI.of (A := { A with weak := stw, fin := stf }) (X := XA) ⟨h.rep.n1, h.rep.n2, h.rep.len, h.rep.zero, h.rep.half, h.rep.oroom, h.rep.room, h.rep.still, h.rep.ser, ⟨hw1, hw2⟩⟩ h3 (fun q hq => by obtain ⟨i, o, c, k1, _⟩ := hok _ _ h1 q hq; exact ⟨o, c.mem', k1⟩)
  have hg : Gath { A with weak := stw, fin := stf } G := hp.ga.congr rfl
  exact ⟨s'.drop, BA', X', stw, stf, l1, l2, s', ls, v, h4, h6, h7, h5, rfl, hp.pr.drop h.rep hp.mv hs h1 h2 h3 h6.rep ⟨hw1, hw2⟩, hg.wki W, rfl, rfl, W.n, W.ser, W.plc, W.took, W.fin, W.weak, h1, h2, W, h3⟩

end Go.Proofs.Ytiomemdmhcdpbaa

namespace Go.Proofs.Ytiomemdmhcdpbaa
open Go.RowKit Go.Shelf

theorem ints09_ne (a b : Option Addr) (n m ca cb : Nat) (w : World) (h : n ≠ m) (_hn : n ≤ 1000000) (_hm : m ≤ 1000000) :
    Calls Try.prog 74 #[.slice a n ca, .slice b m cb] w fun e w' => e = .returned (.bool false) ∧ Calm w w' := by
  have hne : ((n : Int) == (m : Int)) = false := by simp; omega
  have hne2 : ((n : Int) != (m : Int)) = true := by simp; omega
  go_enter Try.func74, Try.ntmps74
  go_wp2
  go_ret
  exact ⟨rfl, Fr.refl _ _⟩

def SamePost9 (xs ys : List Int) (w : World) (e : Ending) (w' : World) : Prop := e = .returned (.bool (decide (xs = ys))) ∧ Calm w w'

set_option maxHeartbeats 400000 in
theorem ints09_eq (b0 o0 b1 o1 ca cb : Nat) (a0 a1 : Option Addr) (xs ys : List Int) (n : Nat) (w : World) (hx : xs.length = n) (hy : ys.length = n) (hn : n ≤ 1000000)
    (h0 : 0 < n → a0 = some ⟨b0, o0, none⟩) (h1 : 0 < n → a1 = some ⟨b1, o1, none⟩)
    (hc0 : ∀ i, i < n → w.cell? ⟨b0, o0 + i, none⟩ = some (.int .i64 (xs.getD i 0))) (hc1 : ∀ i, i < n → w.cell? ⟨b1, o1 + i, none⟩ = some (.int .i64 (ys.getD i 0))) :
    Calls Try.prog 74 #[.slice a0 n ca, .slice a1 n cb] w (SamePost9 xs ys w) := by
  have HX : Hid (xs.length = n) := hx
  have HY : Hid (ys.length = n) := hy
  have H0 : Hid (0 < n → a0 = some ⟨b0, o0, none⟩) := h0
  have H1 : Hid (0 < n → a1 = some ⟨b1, o1, none⟩) := h1
  have C0 : Hid (∀ i, i < n → w.cell? ⟨b0, o0 + i, none⟩ = some (.int .i64 (xs.getD i 0))) := hc0
  have C1 : Hid (∀ i, i < n → w.cell? ⟨b1, o1 + i, none⟩ = some (.int .i64 (ys.getD i 0))) := hc1
  clear hx hy h0 h1 hc0 hc1
  have hne : ((n : Int) == (n : Int)) = true := by simp
  have hne2 : ((n : Int) != (n : Int)) = false := by simp
  go_enter Try.func74, Try.ntmps74
  go_wp2
  go_loopw [5] (fun i wr => ∃ k : Nat, k ≤ n ∧ i = .int .i64 k ∧ Calm w wr ∧ ∀ j, j < k → xs.getD j 0 = ys.getD j 0) (fun i _ => n - (intOf i).toNat)
  case atStart => exact ⟨0, by omega, rfl, Fr.refl _ _, fun j hj => absurd hj (by omega)⟩
  case round =>
    obtain ⟨k, hk, rfl, hc, he⟩ := hrel
    have HE : Hid (∀ j, j < k → xs.getD j 0 = ys.getD j 0) := he
    clear he
    by_cases hlt : k < n
    · have q0 := H0.out (by omega)
      have q1 := H1.out (by omega)
      subst q0 q1
      have d0 : wr.cell? ⟨b0, o0 + k, none⟩ = some (.int .i64 (xs.getD k 0)) := hc.cellAt (C0.out k hlt) id
      have d1 : wr.cell? ⟨b1, o1 + k, none⟩ = some (.int .i64 (ys.getD k 0)) := hc.cellAt (C1.out k hlt) id
      obtain ⟨x, hx⟩ : ∃ x, xs.getD k 0 = x := ⟨_, rfl⟩
      obtain ⟨y, hy⟩ : ∃ y, ys.getD k 0 = y := ⟨_, rfl⟩
      rw [hx] at d0
      rw [hy] at d1
      have HX1 : Hid (xs.getD k 0 = x) := hx
      have HY1 : Hid (ys.getD k 0 = y) := hy
      clear hx hy
      by_cases hxy : x = y
      · subst hxy
        go_wp2
        go_quiet (fail)
        go_wp2
        go_roundw
        case rel => exact ⟨k + 1, by omega, by go_num, hc.drewN _, fun j hj => by
          by_cases e : j = k
          · subst e; rw [HX1.out, HY1.out]
          · exact HE.out j (by omega)⟩
        case measure => simp [intOf]; omega
      · have hb : (x == y) = false := by simpa using hxy
        have hb2 : (x != y) = true := by simpa using hxy
        go_wp2
        go_quiet (fail)
        go_wp2
        go_ret
        refine ⟨?_, ?_⟩
        · have : decide (xs = ys) = false := by simp; rintro rfl; exact hxy (HX1.out.symm.trans HY1.out)
          rw [this]; rfl
        · exact hc.drewN _
    · obtain rfl : k = n := by omega
      go_wp2
      go_ret
      have : decide (xs = ys) = true := by
        simp
        refine List.ext_getElem (by rw [HX.out, HY.out]) (fun i h1 h2 => ?_)
        have := HE.out i (by rw [← HX.out]; exact h1)
        simpa [List.getD, h1, h2] using this
      exact ⟨by rw [this]; rfl, hc⟩

theorem ints09 (a b : Value) (xs ys : List Int) (w : World) (ha : Row w a (xs.map (Value.int .i64))) (hb : Row w b (ys.map (Value.int .i64))) (hx : xs.length ≤ 1000000) (hy : ys.length ≤ 1000000) :
    Calls Try.prog 74 #[a, b] w (SamePost9 xs ys w) := by
  obtain ⟨b0, o0, c0, ha, hca⟩ := ha.ints
  obtain ⟨b1, o1, c1, hb, hcb⟩ := hb.ints
  by_cases hl : xs.length = ys.length
  · obtain ⟨a0, c0', rfl, hp0⟩ : ∃ a0 c0', a = .slice a0 xs.length c0' ∧ (0 < xs.length → a0 = some ⟨b0, o0, none⟩) := by
      rcases ha with rfl | ⟨a', rfl, rfl⟩
      · exact ⟨_, _, rfl, fun _ => rfl⟩
      · exact ⟨a', _, rfl, fun h => by simp at h⟩
    obtain ⟨a1, c1', rfl, hp1⟩ : ∃ a1 c1', b = .slice a1 xs.length c1' ∧ (0 < xs.length → a1 = some ⟨b1, o1, none⟩) := by
      rcases hb with rfl | ⟨b', rfl, rfl⟩
      · exact ⟨_, _, by rw [hl], fun _ => rfl⟩
      · simp at hl; subst hl; exact ⟨b', _, rfl, fun h => by simp at h⟩
    exact ints09_eq b0 o0 b1 o1 _ _ a0 a1 xs ys xs.length w rfl hl.symm hx hp0 hp1 hca (fun i hi => hcb i (by omega))
  · obtain ⟨a0, c0', rfl⟩ : ∃ a0 c0', a = .slice a0 xs.length c0' := by
      rcases ha with rfl | ⟨a', rfl, rfl⟩
      · exact ⟨_, _, rfl⟩
      · exact ⟨a', _, rfl⟩
    obtain ⟨a1, c1', rfl⟩ : ∃ a1 c1', b = .slice a1 ys.length c1' := by
      rcases hb with rfl | ⟨b', rfl, rfl⟩
      · exact ⟨_, _, rfl⟩
      · exact ⟨b', _, rfl⟩
    refine (ints09_ne a0 a1 _ _ _ _ w hl hx hy).mono ?_
    rintro e w' ⟨rfl, hc⟩
    have : decide (xs = ys) = false := by simp; rintro rfl; exact hl rfl
    exact ⟨by rw [this], hc⟩


set_option maxRecDepth 4000 in
set_option maxHeartbeats 8000000 in
theorem same9_yes {w : World} {a b : Value} {la lb : List NI} (h1 : NSee w a la) (h2 : NSee w b lb) (l1 : NFew la) (l2 : NFew lb) (e : la.map NI.nd = lb.map NI.nd) :
    Calls Try.prog 39 #[a, b] w fun e w' => e = .returned (.bool true) ∧ Calm w w' := by
  have hlen : la.length = lb.length := by have := congrArg List.length e; simpa using this
  obtain ⟨pa, ca, rfl, ha⟩ := h1
  obtain ⟨pb, cb, rfl, hb⟩ := h2
  rw [← hlen] at hb ⊢
  obtain ⟨n, hn⟩ : ∃ n, la.length = n := ⟨_, rfl⟩
  have hn6 : n ≤ 1000000 := by rw [← hn]; exact l1.1
  have hnb : lb.length = n := by rw [← hlen]; exact hn
  rw [hn] at ha hb ⊢
  replace ha := hid ha
  replace hb := hid hb
  replace l1 := hid l1
  replace l2 := hid l2
  replace e := hid e
  replace hn := hid hn
  replace hnb := hid hnb
  clear hlen
  go_enter Try.func39, Try.ntmps39
  go_wp2_with fail
  go_loopw [5] (fun i wr => ∃ k : Nat, k ≤ n ∧ i = .int .i64 k ∧ Calm w wr) (fun i _ => n - (intOf i).toNat)
  case atStart => exact ⟨0, by omega, rfl, Fr.refl _ _⟩
  case round =>
    obtain ⟨k, hk, rfl, ck⟩ := hrel
    rcases Nat.lt_or_ge k n with hlt | hge
    · obtain ⟨ba, oa, rfl, ia⟩ := ha.out k hlt
      obtain ⟨bb, ob, rfl, ib⟩ := hb.out k hlt
      have hka : k < la.length := by rw [hn.out]; exact hlt
      have hkb : k < lb.length := by rw [hnb.out]; exact hlt
      have ma : la.getD k default ∈ la := by simp [List.getD, hka]
      have mb : lb.getD k default ∈ lb := by simp [List.getD, hkb]
      have fa := l1.out.2 _ ma
      have fb := l2.out.2 _ mb
      have en : (la.getD k default).nd = (lb.getD k default).nd := by
        have h3 : (la.map NI.nd)[k]'(by simpa using hka) = (lb.map NI.nd)[k]'(by simpa using hkb) := by simp only [e.out]
        simpa [List.getD, hka, hkb] using h3
      replace ia := ia.calm ck
      replace ib := ib.calm ck
      generalize la.getD k default = xa at *
      generalize lb.getD k default = xb at *
      obtain ⟨N, vpa, vna⟩ := xa
      obtain ⟨N', vpb, vnb⟩ := xb
      simp only at en
      subst en
      have hpi := hid (fun (x : Later wr) => (ints09 vpa vpb N.ps N.ps x.w (ia.p.calm x.calm) (ib.p.calm x.calm) fa.1 fb.1).mono (fun e w' (h : e = _ ∧ _) => (⟨by rw [h.1]; simp, h.2⟩ : e = .returned (.bool true) ∧ Calm x.w w')))
      have hni := hid (fun (x : Later wr) => (ints09 vna vnb N.ns N.ns x.w (ia.n.calm x.calm) (ib.n.calm x.calm) fa.2 fb.2).mono (fun e w' (h : e = _ ∧ _) => (⟨by rw [h.1]; simp, h.2⟩ : e = .returned (.bool true) ∧ Calm x.w w')))
      have qa0 : ∀ x : Later wr, x.w.cell? ⟨ba, oa + k * 8, none⟩ = some (.int .i64 N.ser) := fun x => x.cell (ia.c0)
      have qa1 : ∀ x : Later wr, x.w.cell? ⟨ba, oa + k * 8 + 1, none⟩ = some (.int .i64 N.p) := fun x => x.cell (ia.c1)
      have qa2 : ∀ x : Later wr, x.w.cell? ⟨ba, oa + k * 8 + 2, none⟩ = some (.int .i64 N.d) := fun x => x.cell (ia.c2)
      have qa3 : ∀ x : Later wr, x.w.cell? ⟨ba, oa + k * 8 + 3, none⟩ = some (.bool N.wk) := fun x => x.cell (ia.c3)
      have qa4 : ∀ x : Later wr, x.w.cell? ⟨ba, oa + k * 8 + 4, none⟩ = some (.bool N.fn) := fun x => x.cell (ia.c4)
      have qa5 : ∀ x : Later wr, x.w.cell? ⟨ba, oa + k * 8 + 5, none⟩ = some (.bool N.fr) := fun x => x.cell (ia.c5)
      have qa6 : ∀ x : Later wr, x.w.cell? ⟨ba, oa + k * 8 + 6, none⟩ = some (vpa) := fun x => x.cell (ia.c6)
      have qa7 : ∀ x : Later wr, x.w.cell? ⟨ba, oa + k * 8 + 7, none⟩ = some (vna) := fun x => x.cell (ia.c7)
      have ra2 : ∀ x : Later wr, x.w.cell? ⟨ba, oa + k * 8 + 1 + 1, none⟩ = some (.int .i64 N.d) := qa2
      have ra3 : ∀ x : Later wr, x.w.cell? ⟨ba, oa + k * 8 + 1 + 2, none⟩ = some (.bool N.wk) := qa3
      have ra4 : ∀ x : Later wr, x.w.cell? ⟨ba, oa + k * 8 + 1 + 3, none⟩ = some (.bool N.fn) := qa4
      have qb0 : ∀ x : Later wr, x.w.cell? ⟨bb, ob + k * 8, none⟩ = some (.int .i64 N.ser) := fun x => x.cell (ib.c0)
      have qb1 : ∀ x : Later wr, x.w.cell? ⟨bb, ob + k * 8 + 1, none⟩ = some (.int .i64 N.p) := fun x => x.cell (ib.c1)
      have qb2 : ∀ x : Later wr, x.w.cell? ⟨bb, ob + k * 8 + 2, none⟩ = some (.int .i64 N.d) := fun x => x.cell (ib.c2)
      have qb3 : ∀ x : Later wr, x.w.cell? ⟨bb, ob + k * 8 + 3, none⟩ = some (.bool N.wk) := fun x => x.cell (ib.c3)
      have qb4 : ∀ x : Later wr, x.w.cell? ⟨bb, ob + k * 8 + 4, none⟩ = some (.bool N.fn) := fun x => x.cell (ib.c4)
      have qb5 : ∀ x : Later wr, x.w.cell? ⟨bb, ob + k * 8 + 5, none⟩ = some (.bool N.fr) := fun x => x.cell (ib.c5)
      have qb6 : ∀ x : Later wr, x.w.cell? ⟨bb, ob + k * 8 + 6, none⟩ = some (vpb) := fun x => x.cell (ib.c6)
      have qb7 : ∀ x : Later wr, x.w.cell? ⟨bb, ob + k * 8 + 7, none⟩ = some (vnb) := fun x => x.cell (ib.c7)
      have rb2 : ∀ x : Later wr, x.w.cell? ⟨bb, ob + k * 8 + 1 + 1, none⟩ = some (.int .i64 N.d) := qb2
      have rb3 : ∀ x : Later wr, x.w.cell? ⟨bb, ob + k * 8 + 1 + 2, none⟩ = some (.bool N.wk) := qb3
      have rb4 : ∀ x : Later wr, x.w.cell? ⟨bb, ob + k * 8 + 1 + 3, none⟩ = some (.bool N.fn) := qb4
      replace ia := hid ia
      replace ib := hid ib
      clear hka hkb ma mb fa fb
      go_wp2_with fail
      refine wp_region_calm (by kernel_rfl) (by kernel_rfl) ?_
      simp only [List.append_eq, List.cons_append, List.nil_append]
      iterate 48 (go_big_quiet_step (fail))
      go_big_quiet_step ((go_at_call 74; exact Calls.calm_of (hpi.out _)))
      iterate 13 (go_big_quiet_step (fail))
      go_big_quiet_step ((go_at_call 74; exact Calls.calm_of (hni.out _)))
      repeat (go_big_quiet_step (fail))
      refine wpQuiet_nil ?_
      intro w5 hw'
      have c5 := Later.out hw'
      clear hw'
      go_wp2
      go_roundw
      case rel => exact ⟨k + 1, by omega, by go_num, ck.trans c5⟩
      case measure => simp [intOf]; omega
    · obtain rfl : k = n := by omega
      go_wp2
      go_ret
      exact ⟨rfl, ck⟩

end Go.Proofs.Ytiomemdmhcdpbaa

namespace Go.Proofs.Ytiomemdmhcdpbaa
open Go.RowKit Go.Shelf

/-- The slice of the two rows of nodes. -/
structure AlkG (w8 : World) (D1 D2 G i : Nat) (va vb : Value) (la lb : List NI) (k : Nat) (wr : World) : Prop where
  s : AlkI w8 D1 D2 va vb la lb (if 1 ≤ k then i + 1 else i) (if 2 ≤ k then i + 1 else i) wr
  g0 : Own wr G 0 va
  g1 : Own wr G 1 vb
  gl : w8.heap.size ≤ G
theorem AlkI.lt {w8 wr : World} {D1 D2 : Nat} {va vb : Value} {la lb : List NI} {ka kb : Nat} (h : AlkI w8 D1 D2 va vb la lb ka kb wr) : w8.heap.size ≤ wr.heap.size := h.f.size
theorem AlkG.skip0 {w8 wr : World} {D1 D2 G i : Nat} {va vb : Value} {la lb : List NI} (h : AlkG w8 D1 D2 G i va vb la lb 0 wr) (hk : i < la.length) (hn : ¬ ((la.getD i default).nd.wk = true ∧ (la.getD i default).nd.ps = [-2])) : AlkG w8 D1 D2 G i va vb la lb 1 wr :=
  ⟨AlkI.skipA (ka := i) (kb := i) h.s hk hn, h.g0, h.g1, h.gl⟩
theorem AlkG.skip1 {w8 wr : World} {D1 D2 G i : Nat} {va vb : Value} {la lb : List NI} (h : AlkG w8 D1 D2 G i va vb la lb 1 wr) (hk : i < lb.length) (hn : ¬ ((lb.getD i default).nd.wk = true ∧ (lb.getD i default).nd.ps = [-2])) : AlkG w8 D1 D2 G i va vb la lb 2 wr :=
  ⟨AlkI.skipB (ka := i + 1) (kb := i) h.s hk hn, h.g0, h.g1, h.gl⟩
theorem AlkG.set0 {w8 wr : World} {D1 D2 G i : Nat} {va vb : Value} {la lb : List NI} (h : AlkG w8 D1 D2 G i va vb la lb 0 wr) (hnb : ∀ k, NB va la k ∨ NB vb lb k → k < w8.heap.size) (hk : i < la.length) (h1 : (la.getD i default).nd.wk = true) (h2 : (la.getD i default).nd.ps = [-2]) :
    ∃ g c, (la.getD i default).vp = .slice (some ⟨g, 0, none⟩) 1 c ∧ g ≠ G ∧ Own wr g 0 (.int .i64 (-2)) ∧ AlkG w8 D1 D2 G i va vb la lb 1 (wr.setCell ⟨g, 0, none⟩ (.int .i64 (-1))) := by
  obtain ⟨g, c, q1, q2, q3, q4⟩ := AlkI.setA (ka := i) (kb := i) h.s hk h1 h2
  have hG : G ≠ g := fun e => by
    subst e
    have hs := h.s.a
    obtain ⟨g', c', e1, e2, ⟨x, e3, e4⟩, _, _⟩ := NRow.nrm_yes (i := i) h.s.a (by rw [nrmK_length]; exact hk) (by rw [show (if 1 ≤ 0 then i + 1 else i) = i from rfl, nrmK_get la hk]; exact h1) (by rw [show (if 1 ≤ 0 then i + 1 else i) = i from rfl, nrmK_get la hk]; exact h2)
    have e1 : ((nrmK la i).getD i default).vp = .slice (some ⟨g', 0, none⟩) 1 c' := e1
    rw [nrmK_get la hk, q1] at e1
    injection e1 with e1
    simp only [Option.some.injEq, Addr.mk.injEq, and_true] at e1
    subst e1
    have e3 : x ∈ nblk va (nrmK la i) := e3
    rw [nblk_nrmK va la i (by omega)] at e3
    have := hnb _ (.inl ⟨x, e3, e4⟩)
    have := h.gl
    omega
  exact ⟨g, c, q1, Ne.symm hG, q3, q4, h.g0.far _ _ (Ne.symm hG), h.g1.far _ _ (Ne.symm hG), h.gl⟩
theorem AlkG.set1 {w8 wr : World} {D1 D2 G i : Nat} {va vb : Value} {la lb : List NI} (h : AlkG w8 D1 D2 G i va vb la lb 1 wr) (hnb : ∀ k, NB va la k ∨ NB vb lb k → k < w8.heap.size) (hk : i < lb.length) (h1 : (lb.getD i default).nd.wk = true) (h2 : (lb.getD i default).nd.ps = [-2]) :
    ∃ g c, (lb.getD i default).vp = .slice (some ⟨g, 0, none⟩) 1 c ∧ g ≠ G ∧ Own wr g 0 (.int .i64 (-2)) ∧ AlkG w8 D1 D2 G i va vb la lb 2 (wr.setCell ⟨g, 0, none⟩ (.int .i64 (-1))) := by
  obtain ⟨g, c, q1, q2, q3, q4⟩ := AlkI.setB (ka := i + 1) (kb := i) h.s hk h1 h2
  have hG : G ≠ g := fun e => by
    subst e
    obtain ⟨g', c', e1, e2, ⟨x, e3, e4⟩, _, _⟩ := NRow.nrm_yes (i := i) h.s.b (by rw [nrmK_length]; exact hk) (by rw [show (if 2 ≤ 1 then i + 1 else i) = i from rfl, nrmK_get lb hk]; exact h1) (by rw [show (if 2 ≤ 1 then i + 1 else i) = i from rfl, nrmK_get lb hk]; exact h2)
    have e1 : ((nrmK lb i).getD i default).vp = .slice (some ⟨g', 0, none⟩) 1 c' := e1
    rw [nrmK_get lb hk, q1] at e1
    injection e1 with e1
    simp only [Option.some.injEq, Addr.mk.injEq, and_true] at e1
    subst e1
    have e3 : x ∈ nblk vb (nrmK lb i) := e3
    rw [nblk_nrmK vb lb i (by omega)] at e3
    have := hnb _ (.inr ⟨x, e3, e4⟩)
    have := h.gl
    omega
  exact ⟨g, c, q1, Ne.symm hG, q3, q4, h.g0.far _ _ (Ne.symm hG), h.g1.far _ _ (Ne.symm hG), h.gl⟩

theorem map_nrm {ls : List NI} {nds : List Nd} (e : ls.map NI.nd = nds) : (ls.map NI.nrm).map NI.nd = nds.map Nd.nrm := by
  rw [← e, List.map_map, List.map_map]; rfl
theorem nrm_len (x : Nd) (h : x.ps.length ≤ 1000000 ∧ x.ns.length ≤ 1000000) : x.nrm.ps.length ≤ 1000000 ∧ x.nrm.ns.length ≤ 1000000 := by
  by_cases hn : x.wk = true ∧ x.ps = [-2]
  · rw [Nd.nrm_yes hn.1 hn.2]; exact ⟨by simp, h.2⟩
  · rw [Nd.nrm_no hn]; exact h
theorem NFew.nrm {ls : List NI} (h : NFew ls) : NFew (ls.map NI.nrm) := by
  refine ⟨by rw [List.length_map]; exact h.1, fun x hx => ?_⟩
  obtain ⟨y, hy, rfl⟩ := List.mem_map.1 hx
  exact nrm_len _ (h.2 y hy)
theorem one_of {l : List Int} (h : l.length = 1) : ∃ a, l = [a] := by
  match l, h with
  | [a], _ => exact ⟨a, rfl⟩


set_option maxRecDepth 100000 in
set_option maxHeartbeats 16000000 in
theorem alike_is {w : World} {b0 : Nat → Prop} {T : Nat} {BA BB : HB} {A B : HS} {XA XB R S : List Nat} {σ : Nat → Nat} (h : TwAt w b0 T BA BB A B XA XB R S) (hp : Pair σ A B R S 4) (hσ : ∀ n, n ≤ B.ser → σ n = n) :
    Calls Try.prog 31 #[.pointer (some ⟨T, 0, none⟩)] w fun e w' => e = .returned (.bool true) ∧ Calm w w' := by
  have hl : R.length = 4 ∧ S.length = 4 := ⟨hp.rg.lr, hp.rg.ls⟩
  have hta := h.cellA
  have htb := h.cellB
  have hpB : ∀ p o, Live B p o → ∀ q ∈ o.ps, PtrOk B q := fun p o hl q hq => by
    obtain ⟨n, hn⟩ := hp.tw.wb.ptr p o hl q hq
    exact (hn.place).ptr
  have hplB : ∀ x ∈ S, Placed B x := fun x hx => by
    obtain ⟨j, hj, rfl⟩ := mem_get 0 hx
    obtain ⟨n, _, _, hr⟩ := hp.rg.ref j (by rw [hp.rg.ls] at hj; exact hj)
    rcases hr.place with h | h | h
    · exact .inl h
    · exact .inr h
    · rw [hp.tw.still] at h; cases h
  have hplA := hp.placed
  have hCa := hid (fun W (cw : Calm w W) => hcanon (h.ha.calm cw) hp.ptrs ((h.rowR hl).calm cw) (by rw [hl.1]; omega) hplA)
  have hCb := hid (fun W (cw : Calm w W) => hcanon (h.hb.calm cw) hpB ((h.rowS hl).calm cw) (by rw [hl.2]; omega) hplB)
  have hFa := hid (fun Rr ls h1 h2 => canon_few (s := A) (rs := R) (R := Rr) (ls := ls) h.ha.rep hp.ptrs hplA (addAll_nodup R (by simp)) h1 h2)
  have hFb := hid (fun Rr ls h1 h2 => canon_few (s := B) (rs := S) (R := Rr) (ls := ls) h.hb.rep hpB hplB (addAll_nodup S (by simp)) h1 h2)
  have hAk := hid (fun RA RB h1 h2 => hp.alike h.ha.rep h.hb.rep hσ (RA := RA) (RB := RB) h1 h2)
  replace hl := hid hl
  clear hpB hplB hplA hσ hp h
  go_enter Try.func31, Try.ntmps31
  go_wp2_with fail
  go_region_held3 (fun w' => w'.cell? ⟨T, 0, none⟩ = some (hpV BA)) (go_keep)
    (first | (go_at_call 36; refine (hCa.out _ (by first | exact Fr.refl _ _ | exact (Fr.refl _ _).drew)).mono ?_; rintro e w7 ⟨va, vr, RA, la, B9, rfl, q1, q2, q3, q4, q5, q6, q7⟩; have ka : Calm w w7 := Fr.trans (by first | exact Fr.refl _ _ | exact (Fr.refl _ _).drew) q7; have u0 := ka.cellAt hta id; have u1 := ka.cellAt htb id; have hg7 : Hid (w.heap.size ≤ w7.heap.size) := ka.size))
  have hfa := hid (hFa.out _ _ q1 q3)
  replace q1 := hid q1
  replace q2 := hid q2
  replace q3 := hid q3
  replace q4 := hid q4
  replace q5 := hid q5
  replace q6 := hid q6
  replace ka := hid ka
  clear q7 hCa hFa
  go_wp2_with fail
  go_region_held3 (fun w' => w'.cell? ⟨T, 1, none⟩ = some (hpV BB)) (go_keep)
    (first | (go_at_call 36; refine (hCb.out _ (by first | exact ka.out | exact ka.out.drew)).mono ?_; rintro e w8 ⟨vb, vs, RB, lb, B10, rfl, p1, p2, p3, p4, p5, p6, p7⟩; have kb : Calm w7 w8 := Fr.trans (by first | exact Fr.refl _ _ | exact (Fr.refl _ _).drew) p7; have u2 := kb.cellAt u1 id))
  have hfb := hid (hFb.out _ _ p1 p3)
  have hnr : Hid (NRow w8 w.heap.size va la) := (show NRow w7 w.heap.size va la from q2.out).calm kb
  have hmr : Hid (NRow w8 w7.heap.size vb lb) := p2
  have hab : Hid (∀ k, NB va la k → k < w7.heap.size) := fun k ⟨x, hx, hk⟩ => ((show NRow w7 w.heap.size va la from q2.out).lt x hx k hk).2
  have hbb : Hid (∀ k, NB vb lb k → w7.heap.size ≤ k ∧ k < w8.heap.size) := fun k ⟨x, hx, hk⟩ => hmr.out.lt x hx k hk
  have haa : Hid (∀ k, NB va la k → w.heap.size ≤ k) := fun k ⟨x, hx, hk⟩ => (hnr.out.lt x hx k hk).1
  have hnb : Hid (∀ k, NB va la k ∨ NB vb lb k → k < w8.heap.size) := fun k hk => by
    rcases hk with hk | hk
    · have := hab.out k hk; have := kb.size; omega
    · exact (hbb.out k hk).2
  have hvr : Hid (ORow w8 B9 vr (ptI RA R)) := q5.out.calm kb
  have hvs : Hid (ORow w8 B10 vs (ptI RB S)) := p5
  have hvr2 : Hid (∀ b, InB vr b → ¬ (NB va la b ∨ NB vb lb b)) := fun b hb hk => by
    have h1 := (show ORow w7 B9 vr (ptI RA R) from q5.out).lt hb
    rcases hk with ⟨x, hx, hk⟩ | hk
    · have := q4.out x hx b hk; omega
    · have := (hbb.out b hk).1; omega
  have hvs2 : Hid (∀ b, InB vs b → ¬ (NB va la b ∨ NB vb lb b)) := fun b hb hk => by
    have h1 := hvs.out.lt hb
    have h2 : w7.heap.size ≤ B10 := p6
    rcases hk with hk | ⟨x, hx, hk⟩
    · have := hab.out b hk; omega
    · have := p4 x hx b hk; omega
  obtain ⟨hkk, hrr, hll⟩ := hAk.out RA RB q1.out p1
  have hla : la.length = RA.length := by have := congrArg List.length q3.out; simpa using this
  have hlb : lb.length = RB.length := by have := congrArg List.length p3; simpa using this
  have hmm : Hid ((la.map NI.nrm).map NI.nd = (lb.map NI.nrm).map NI.nd) := by
    rw [map_nrm q3.out, map_nrm p3, List.map_map, List.map_map]; exact hkk
  have hrr2 : Hid (ptI RA R = ptI RB S) := hrr
  have hR4 : Hid ((ptI RA R).length = 4) := by show (ptI RA R).length = 4; rw [ptI_length]; exact hl.out.1
  have kall : Hid (Calm w w8) := ka.out.trans kb
  obtain ⟨N, hN⟩ : ∃ N, la.length = N := ⟨_, rfl⟩
  have hNb : lb.length = N := by omega
  have hN6 : Hid (N ≤ 1000000) := by have := hfa.out.1; show N ≤ _; omega
  have hS0 := hid (AlkI.start hnr.out hmr.out hab.out)
  clear p1 p2 p3 p4 p5 p6 p7 q1 q2 q3 q4 q5 q6 hCb hFb hAk hkk hrr hll hla hlb kb ka u0 u1 u2 hta htb hnr hmr hl
  obtain ⟨aa, ac, rfl⟩ : ∃ a c, va = .slice a N c := by have := hS0.out.a.slice; rw [nrmK_length, hN] at this; exact this
  obtain ⟨ba, bc, rfl⟩ : ∃ a c, vb = .slice a N c := by have := hS0.out.b.slice; rw [nrmK_length, hNb] at this; exact this
  replace hN := hid hN
  replace hNb := hid hNb
  go_wp2_with fail
  go_loopw [9] (fun i wr => ∃ k : Nat, k ≤ N ∧ i = .int .i64 k ∧ AlkI w8 w.heap.size w7.heap.size (.slice aa N ac) (.slice ba N bc) la lb k k wr) (fun i _ => N - (intOf i).toNat)
  case atStart => exact ⟨0, by omega, rfl, hS0.out⟩
  case round =>
    clear hS0
    obtain ⟨k, hk, rfl, hI⟩ := hrel
    rcases Nat.lt_or_ge k N with hlt | hge
    · have hNi : (N : Int) ≤ 9223372036854775807 := by have := hN6.out; omega
      replace hI := hid hI
      go_wp2_with fail
      have hG0 : Hid (AlkG w8 w.heap.size w7.heap.size wr.heap.size k (.slice aa N ac) (.slice ba N bc) la lb 0 (wr.alloc (.cells #[.slice aa N ac, .slice ba N bc] 59))) :=
        ⟨AlkI.calm (ka := k) (kb := k) hI.out ((Fr.refl _ _).alloc _), Own.new _ _ _ 0 rfl, Own.new _ _ _ 1 rfl, hI.out.lt⟩
      clear hI
      generalize hgG : wr.heap.size = G at *
      generalize wr.alloc _ = w9 at *
      go_loopw [61] (fun x wr => ∃ j : Nat, j ≤ 2 ∧ x = .int .i64 j ∧ AlkG w8 w.heap.size w7.heap.size G k (.slice aa N ac) (.slice ba N bc) la lb j wr) (fun x _ => 2 - (intOf x).toNat)
      case atStart => exact ⟨0, by omega, rfl, hG0.out⟩
      case round =>
        clear hG0
        obtain ⟨j, hj, rfl, hI⟩ := hrel
        have hj3 : j = 0 ∨ j = 1 ∨ j = 2 := by omega
        rcases hj3 with rfl | rfl | rfl
        · have hka : k < la.length := by rw [hN.out]; exact hlt
          have y0 := hI.g0.1
          obtain ⟨e3, off, hea, hit⟩ : ∃ b off, aa = some ⟨b, off, none⟩ ∧ NItem wr b (off + k * 8) (la.getD k default) := by
            obtain ⟨a', c', e1, e2⟩ := hI.s.a.see
            have hk2 : k < (nrmK la (if 1 ≤ 0 then k + 1 else k)).length := by rw [nrmK_length]; exact hka
            obtain ⟨b, off, e4, e5⟩ := e2 k hk2
            injection e1 with e1
            rw [show (if 1 ≤ 0 then k + 1 else k) = k from rfl, nrmK_get la hka] at e5
            exact ⟨b, off, e1.trans e4, e5⟩
          subst hea
          have c6 := hit.c6
          have c3 : wr.cell? ⟨e3, off + k * 8 + 1 + 2, none⟩ = some (.bool (la.getD k default).nd.wk) := hit.c3
          obtain ⟨pa, pc, hvp, hpr⟩ := hit.p
          have hsk := hid (fun hn => hI.skip0 hka hn)
          have hst := hid (fun h1 h2 => hI.set0 hnb.out hka h1 h2)
          obtain ⟨X, hX⟩ : ∃ X, la.getD k default = X := ⟨_, rfl⟩
          rw [hX] at c3 c6 hvp hpr hsk hst
          rw [List.length_map] at hvp
          replace hpr := hid hpr
          replace hI := hid hI
          clear hit hX
          obtain ⟨W, hW⟩ : ∃ W, X.nd.wk = W := ⟨_, rfl⟩
          rw [hW] at c3
          have hs2 := hid (fun (hn : ¬ (W = true ∧ X.nd.ps = [-2])) => hsk.out (by rw [hW]; exact hn))
          clear hsk
          cases W
          · go_wp2
            go_roundw
            case rel => exact ⟨1, by omega, by go_num, hs2.out (by simp)⟩
            case measure => simp [intOf]
          · by_cases h1 : X.nd.ps.length = 1
            · obtain ⟨pv, hpv⟩ := one_of h1
              rw [h1] at hvp
              rw [hvp] at c6
              by_cases h2 : pv = -2
              · subst h2
                obtain ⟨g, gc, q1, q2, q3, q4⟩ := hst.out hW hpv
                rw [hvp] at q1
                injection q1 with q1 q1b q1c
                subst q1
                obtain ⟨q3, q3f⟩ := q3
                replace q4 := hid q4
                replace hvp := hid hvp
                replace hpv := hid hpv
                clear hst hs2 h1
                go_wp2
                go_roundw
                case rel => exact ⟨1, by omega, by go_num, q4.out⟩
                case measure => simp [intOf]
              · have hne : (pv == -2) = false := by simpa using h2
                obtain ⟨pb, po, rfl, hcell⟩ : ∃ b off, pa = some ⟨b, off, none⟩ ∧ wr.cell? ⟨b, off, none⟩ = some (.int .i64 pv) := by
                  rcases hpr.out with h | ⟨b, off, e, h⟩
                  · rw [hpv] at h; simp at h
                  · have := h 0 (by rw [hpv]; simp)
                    simp only [hpv] at this
                    exact ⟨b, off, e, by simpa using this⟩
                have hs3 := hid (hs2.out (by rw [hpv]; simp; exact h2))
                replace hvp := hid hvp
                replace hpv := hid hpv
                clear hst hs2 h1 h2
                go_wp2
                go_roundw
                case rel => exact ⟨1, by omega, by go_num, hs3.out⟩
                case measure => simp [intOf]
            · obtain ⟨pn, hpn⟩ : ∃ n, X.nd.ps.length = n := ⟨_, rfl⟩
              have hs3 := hid (hs2.out (by intro h; rw [h.2] at h1; simp at h1))
              rw [hpn] at hvp h1
              rw [hvp] at c6
              have hne : ((pn : Int) == 1) = false := by simp; omega
              replace hvp := hid hvp
              replace hpn := hid hpn
              clear hst hs2 h1
              go_wp2
              go_roundw
              case rel => exact ⟨1, by omega, by go_num, hs3.out⟩
              case measure => simp [intOf]
        · have hka : k < lb.length := by rw [hNb.out]; exact hlt
          have y0 := hI.g1.1
          obtain ⟨e3, off, hea, hit⟩ : ∃ b off, ba = some ⟨b, off, none⟩ ∧ NItem wr b (off + k * 8) (lb.getD k default) := by
            obtain ⟨a', c', e1, e2⟩ := hI.s.b.see
            have hk2 : k < (nrmK lb (if 2 ≤ 1 then k + 1 else k)).length := by rw [nrmK_length]; exact hka
            obtain ⟨b, off, e4, e5⟩ := e2 k hk2
            injection e1 with e1
            rw [show (if 2 ≤ 1 then k + 1 else k) = k from rfl, nrmK_get lb hka] at e5
            exact ⟨b, off, e1.trans e4, e5⟩
          subst hea
          have c6 := hit.c6
          have c3 : wr.cell? ⟨e3, off + k * 8 + 1 + 2, none⟩ = some (.bool (lb.getD k default).nd.wk) := hit.c3
          obtain ⟨pa, pc, hvp, hpr⟩ := hit.p
          have hsk := hid (fun hn => hI.skip1 hka hn)
          have hst := hid (fun h1 h2 => hI.set1 hnb.out hka h1 h2)
          obtain ⟨X, hX⟩ : ∃ X, lb.getD k default = X := ⟨_, rfl⟩
          rw [hX] at c3 c6 hvp hpr hsk hst
          rw [List.length_map] at hvp
          replace hpr := hid hpr
          replace hI := hid hI
          clear hit hX
          obtain ⟨W, hW⟩ : ∃ W, X.nd.wk = W := ⟨_, rfl⟩
          rw [hW] at c3
          have hs2 := hid (fun (hn : ¬ (W = true ∧ X.nd.ps = [-2])) => hsk.out (by rw [hW]; exact hn))
          clear hsk
          cases W
          · go_wp2
            go_roundw
            case rel => exact ⟨2, by omega, by go_num, hs2.out (by simp)⟩
            case measure => simp [intOf]
          · by_cases h1 : X.nd.ps.length = 1
            · obtain ⟨pv, hpv⟩ := one_of h1
              rw [h1] at hvp
              rw [hvp] at c6
              by_cases h2 : pv = -2
              · subst h2
                obtain ⟨g, gc, q1, q2, q3, q4⟩ := hst.out hW hpv
                rw [hvp] at q1
                injection q1 with q1 q1b q1c
                subst q1
                obtain ⟨q3, q3f⟩ := q3
                replace q4 := hid q4
                replace hvp := hid hvp
                replace hpv := hid hpv
                clear hst hs2 h1
                go_wp2
                go_roundw
                case rel => exact ⟨2, by omega, by go_num, q4.out⟩
                case measure => simp [intOf]
              · have hne : (pv == -2) = false := by simpa using h2
                obtain ⟨pb, po, rfl, hcell⟩ : ∃ b off, pa = some ⟨b, off, none⟩ ∧ wr.cell? ⟨b, off, none⟩ = some (.int .i64 pv) := by
                  rcases hpr.out with h | ⟨b, off, e, h⟩
                  · rw [hpv] at h; simp at h
                  · have := h 0 (by rw [hpv]; simp)
                    simp only [hpv] at this
                    exact ⟨b, off, e, by simpa using this⟩
                have hs3 := hid (hs2.out (by rw [hpv]; simp; exact h2))
                replace hvp := hid hvp
                replace hpv := hid hpv
                clear hst hs2 h1 h2
                go_wp2
                go_roundw
                case rel => exact ⟨2, by omega, by go_num, hs3.out⟩
                case measure => simp [intOf]
            · obtain ⟨pn, hpn⟩ : ∃ n, X.nd.ps.length = n := ⟨_, rfl⟩
              have hs3 := hid (hs2.out (by intro h; rw [h.2] at h1; simp at h1))
              rw [hpn] at hvp h1
              rw [hvp] at c6
              have hne : ((pn : Int) == 1) = false := by simp; omega
              replace hvp := hid hvp
              replace hpn := hid hpn
              clear hst hs2 h1
              go_wp2
              go_roundw
              case rel => exact ⟨2, by omega, by go_num, hs3.out⟩
              case measure => simp [intOf]
        · replace hI := hid hI
          go_wp2
          go_roundw
          case rel => exact ⟨k + 1, by omega, by go_num, hI.out.s⟩
          case measure => simp [intOf]; omega
    · obtain rfl : k = N := by omega
      have hF := hI.f
      have hwa := hid (hI.a.see)
      have hwb := hid (hI.b.see)
      have hra := hid ((hvr.out.frB hF hvr2.out).row)
      have hrb := hid ((hvs.out.frB hF hvs2.out).row)
      have hca : Hid (Calm w wr) := kall.out.join hF (fun j hj h => by
        rcases h with h | h
        · have := haa.out j h; omega
        · have := (hbb.out j h).1; have := hg7.out; omega)
      have hSm := hid (fun W (cw : Calm wr W) => same9_yes (w := W) (a := .slice aa k ac) (b := .slice ba k bc) (la := la.map NI.nrm) (lb := lb.map NI.nrm) (by have := hwa.out; rw [show nrmK la k = la.map NI.nrm by have := nrmK_all la; rw [hN.out] at this; exact this] at this; exact this.calm cw) (by have := hwb.out; rw [show nrmK lb k = lb.map NI.nrm by have := nrmK_all lb; rw [hNb.out] at this; exact this] at this; exact this.calm cw) hfa.out.nrm hfb.out.nrm hmm.out)
      have hIn := hid (fun W (cw : Calm wr W) => ints08 vr vs _ _ W (hra.out.calm cw) (hrb.out.calm cw) (by rw [hR4.out]; omega) (by rw [← hrr2.out, hR4.out]; omega))
      clear hI hF hwa hwb hra hrb
      go_wp2_with fail
      refine (hSm.out _ (Fr.refl _ _)).mono ?_
      rintro e w10 ⟨rfl, c10⟩
      replace hIn := hid (hIn.out _ c10)
      replace hca := hid (hca.out.trans c10)
      go_wp2_with fail
      refine (hIn.out).mono ?_
      rintro e w11 ⟨rfl, c11⟩
      have hde := decide_eq_true hrr2.out
      rw [hde]
      go_wp2
      go_ret
      exact ⟨rfl, hca.out.trans c11⟩

end Go.Proofs.Ytiomemdmhcdpbaa
