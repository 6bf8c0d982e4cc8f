/- Twins in memory. What Does does: the collector's deeds. What Does does: a collection begins. What Does does: an object is laid. -/
import Derived.Test.YtiomemdmhcdpbaaColl
import Derived.Test.YtiomemdmhcdpbaaLaw10
import Derived.Test.YtiomemdmhcdpbaaOpen2
set_option linter.unusedSimpArgs false
set_option linter.unusedVariables false
namespace Go.Proofs.Ytiomemdmhcdpbaa
open Go.RowKit Go.Shelf

/-- The cells of a twin: its heaps, its registers. -/
def twC (a b : Nat) (R S : List Nat) : List Value := .pointer (some ⟨a, 0, none⟩) :: .pointer (some ⟨b, 0, none⟩) :: (iVs (nI R) ++ iVs (nI S))
structure TwAt (w : World) (b0 : Nat → Prop) (T : Nat) (BA BB : HB) (A B : HS) (XA XB : List Nat) (R S : List Nat) : Prop where
  ha : HAt w BA A XA
  hb : HAt w BB B XB
  cs : OwnL w T (twC BA.hp BB.hp R S)
  ab : ∀ k, HBlk BA k → ¬ HBlk BB k
  ta : ¬ HBlk BA T
  tb : ¬ HBlk BB T
  la : ∀ k, HBlk BA k → b0 k
  lb : ∀ k, HBlk BB k → b0 k
  lt : b0 T
  up : ∀ k, w.heap.size ≤ k → b0 k
theorem TwAt.calm {w w' : World} {b0 : Nat → Prop} {T : Nat} {BA BB : HB} {A B : HS} {XA XB R S : List Nat} (h : TwAt w b0 T BA BB A B XA XB R S) (c : Calm w w') : TwAt w' b0 T BA BB A B XA XB R S :=
  ⟨h.ha.calm c, h.hb.calm c, h.cs.calm c, h.ab, h.ta, h.tb, h.la, h.lb, h.lt, fun k hk => h.up k (Nat.le_trans c.size hk)⟩
theorem TwAt.stepA {w w' : World} {b0 : Nat → Prop} {T : Nat} {BA BB BA' : HB} {A B A' : HS} {XA XB XA' R S : List Nat} (h : TwAt w b0 T BA BB A B XA XB R S) (hA : HAt w' BA' A' XA') (hK : HKeep w BA w' BA') : TwAt w' b0 T BA' BB A' B XA' XB R S := by
  have hT := h.cs.lt (by simp [twC])
  refine ⟨hA, h.hb.fr hK.fr (fun k hk h2 => h.ab k h2 hk), by rw [hK.hp]; exact h.cs.fr hK.fr h.ta, fun k hk h2 => ?_, fun e => ?_, h.tb, fun k hk => ?_, h.lb, h.lt, fun k hk => h.up k (Nat.le_trans hK.fr.size hk)⟩
  · rcases hK.new k hk with h3 | h3
    · exact h.ab k h3 h2
    · have := h.hb.lt k h2; omega
  · rcases hK.new T e with h3 | h3
    · exact h.ta h3
    · omega
  · rcases hK.new k hk with h3 | h3
    · exact h.la k h3
    · exact h.up k h3
theorem TwAt.stepB {w w' : World} {b0 : Nat → Prop} {T : Nat} {BA BB BB' : HB} {A B B' : HS} {XA XB XB' R S : List Nat} (h : TwAt w b0 T BA BB A B XA XB R S) (hB : HAt w' BB' B' XB') (hK : HKeep w BB w' BB') : TwAt w' b0 T BA BB' A B' XA XB' R S := by
  have hT := h.cs.lt (by simp [twC])
  refine ⟨h.ha.fr hK.fr (fun k hk h2 => h.ab k hk h2), hB, by rw [hK.hp]; exact h.cs.fr hK.fr h.tb, fun k hk h2 => ?_, h.ta, fun e => ?_, h.la, fun k hk => ?_, h.lt, fun k hk => h.up k (Nat.le_trans hK.fr.size hk)⟩
  · rcases hK.new k h2 with h3 | h3
    · exact h.ab k hk h3
    · have := h.ha.lt k hk; omega
  · rcases hK.new T e with h3 | h3
    · exact h.tb h3
    · omega
  · rcases hK.new k hk with h3 | h3
    · exact h.lb k h3
    · exact h.up k h3
theorem twC_R {a b : Nat} {R S : List Nat} {i : Nat} (hi : i < R.length) : (twC a b R S)[2 + i]? = some (.int .i64 (R.getD i 0 : Nat)) := by
  unfold twC
  rw [show 2 + i = i + 1 + 1 by omega, List.getElem?_cons_succ, List.getElem?_cons_succ, List.getElem?_append_left (by simpa using hi)]
  simp [List.getD, hi]
theorem twC_S {a b : Nat} {R S : List Nat} {i : Nat} (hr : R.length = 4) (hi : i < S.length) : (twC a b R S)[6 + i]? = some (.int .i64 (S.getD i 0 : Nat)) := by
  unfold twC
  rw [show 6 + i = (4 + i) + 1 + 1 by omega, List.getElem?_cons_succ, List.getElem?_cons_succ, List.getElem?_append_right (by simp [hr])]
  simp [List.getD, hi, hr]
theorem twC_setR {a b : Nat} {R S : List Nat} {i v : Nat} (hi : i < R.length) : (twC a b R S).set (2 + i) (.int .i64 (v : Nat)) = twC a b (R.set i v) S := by
  unfold twC
  rw [show 2 + i = i + 1 + 1 by omega, List.set_cons_succ, List.set_cons_succ, List.set_append_left _ _ (by simpa using hi)]
  simp [nI, iVs, List.map_set]
theorem twC_setS {a b : Nat} {R S : List Nat} {i v : Nat} (hr : R.length = 4) (hi : i < S.length) : (twC a b R S).set (6 + i) (.int .i64 (v : Nat)) = twC a b R (S.set i v) := by
  unfold twC
  rw [show 6 + i = (4 + i) + 1 + 1 by omega, List.set_cons_succ, List.set_cons_succ, List.set_append_right _ _ (by simp [hr])]
  have e : 4 + i - (iVs (nI R)).length = i := by simp [hr]
  rw [e]
  simp [nI, iVs, List.map_set]
theorem TwAt.setC {w : World} {b0 : Nat → Prop} {T : Nat} {BA BB : HB} {A B : HS} {XA XB R S R' S' : List Nat} (h : TwAt w b0 T BA BB A B XA XB R S) {i : Nat} {v : Value} (hi : i < 10) (hl : R.length = 4 ∧ S.length = 4) (e : (twC BA.hp BB.hp R S).set i v = twC BA.hp BB.hp R' S') : TwAt (w.setCell ⟨T, i, none⟩ v) b0 T BA BB A B XA XB R' S' := by
  have hlen : (twC BA.hp BB.hp R S).length = 10 := by simp [twC, hl.1, hl.2]
  have f : Fr (fun k => k = T) w (w.setCell ⟨T, i, none⟩ v) := (Fr.refl (fun k => k = T) w).setCell (p := ⟨T, i, none⟩) (.inl rfl) v
  refine ⟨h.ha.fr f (fun k hk (e : k = T) => h.ta (e ▸ hk)), h.hb.fr f (fun k hk (e : k = T) => h.tb (e ▸ hk)), ?_, h.ab, h.ta, h.tb, h.la, h.lb, h.lt, fun k hk => h.up k (Nat.le_trans f.size hk)⟩
  rw [← e]; exact h.cs.set i v (by rw [hlen]; exact hi)
theorem TwAt.setR {w : World} {b0 : Nat → Prop} {T : Nat} {BA BB : HB} {A B : HS} {XA XB R S : List Nat} (h : TwAt w b0 T BA BB A B XA XB R S) {i v : Nat} (hi : i < 4) (hl : R.length = 4 ∧ S.length = 4) : TwAt (w.setCell ⟨T, 2 + i, none⟩ (.int .i64 (v : Nat))) b0 T BA BB A B XA XB (R.set i v) S :=
  h.setC (by omega) hl (twC_setR (by omega))
theorem TwAt.setS {w : World} {b0 : Nat → Prop} {T : Nat} {BA BB : HB} {A B : HS} {XA XB R S : List Nat} (h : TwAt w b0 T BA BB A B XA XB R S) {i v : Nat} (hi : i < 4) (hl : R.length = 4 ∧ S.length = 4) : TwAt (w.setCell ⟨T, 6 + i, none⟩ (.int .i64 (v : Nat))) b0 T BA BB A B XA XB R (S.set i v) :=
  h.setC (by omega) hl (twC_setS hl.1 (by omega))
/-- Blocks from b0 on alone have turned. -/
abbrev From (b0 : Nat → Prop) (w w' : World) : Prop := Fr (fun k => b0 k) w w'
theorem TwAt.from_ {w w' : World} {b0 : Nat → Prop} {B B' : HB} (hb : ∀ k, HBlk B k → b0 k) (h : HKeep w B w' B') : From b0 w w' := h.fr.mono (fun k _ e => hb k e)

set_option maxHeartbeats 1000000 in
theorem begin_yes (w : World) (n : Nat) (h1 : 16 ≤ n) (h2 : n ≤ 16384) :
    Calls Try.prog 28 #[.int .i64 n] w fun e w' => ∃ T BA BB XA XB, e = .returned (.pointer (some ⟨T, 0, none⟩)) ∧ TwAt w' (fun k => w.heap.size ≤ k) T BA BB (HS.start n) (HS.start 16000) XA XB [0, 0, 0, 0] [0, 0, 0, 0] ∧ Calm w w' := by
  go_enter Try.func28, Try.ntmps28
  go_wp2_with fail
  refine (hnew_yes _ n h1 h2).mono ?_
  rintro e w1 ⟨BA, rfl, hA, c1, n1⟩
  go_wp2_with fail
  refine (hnew_yes _ 16000 (by decide) (by decide)).mono ?_
  rintro e w2 ⟨BB, rfl, hB, c2, n2⟩
  have hlt := hid hA.lt
  have hlt2 := hid hB.lt
  replace hA := hid (hA.calm c2)
  replace hB := hid hB
  go_wp2
  go_ret
  refine ⟨_, BA, BB, _, _, rfl, ⟨hA.out.calm ((Fr.refl _ _).alloc _), hB.out.calm ((Fr.refl _ _).alloc _), OwnL.new w2 (twC BA.hp BB.hp [0, 0, 0, 0] [0, 0, 0, 0]) _, fun k hk h => ?_, fun h => ?_, fun h => ?_, n1, fun k hk => ?_, ?_, fun k hk => ?_⟩, (c1.trans c2).alloc _⟩
  · have := n2 k h; have := hlt.out k hk; omega
  · have := hlt.out _ h; have := c2.size; omega
  · have := hlt2.out _ h; omega
  · show w.heap.size ≤ _; have := n2 k hk; have := c1.size; omega
  · show w.heap.size ≤ _; have := c1.size; have := c2.size; omega
  · show w.heap.size ≤ _; have := c1.size; have := c2.size; simp at hk; omega

end Go.Proofs.Ytiomemdmhcdpbaa

namespace Go.Proofs.Ytiomemdmhcdpbaa
open Go.RowKit Go.Shelf

abbrev opV (o : Op10) : Value := .agg #[.int .i64 o.kd, .int .i64 o.a, .int .i64 o.b, .int .i64 o.i, .int .i64 o.n, .int .i64 o.s0, .int .i64 o.s1, .int .i64 o.s2]
/-- No objects more, or one more in both. -/
def Grew (σ : Nat → Nat) (A B : HS) (σ' : Nat → Nat) (A' B' : HS) : Prop :=
  (σ' = σ ∧ A'.ser = A.ser ∧ B'.ser = B.ser) ∨ (σ' = snx σ (B.ser + 1) (A.ser + 1) ∧ A'.ser = A.ser + 1 ∧ B'.ser = B.ser + 1)
/-- What is left of twins. -/
def DoesOk (w : World) (b0 : Nat → Prop) (T hpa hpb : Nat) (σ : Nat → Nat) (A B : HS) (K : Int) (w' : World) : Prop :=
  From b0 w w' ∧ ∃ σ' A' B' R' S' BA' BB' XA' XB', TwAt w' b0 T BA' BB' A' B' XA' XB' R' S' ∧ BA'.hp = hpa ∧ BB'.hp = hpb ∧ Pair σ' A' B' R' S' 4 ∧ A'.n = A.n ∧ Grew σ A B σ' A' B' ∧ (K < 9 → A'.mv = A.mv)
def DoesPost (w : World) (b0 : Nat → Prop) (T hpa hpb : Nat) (σ : Nat → Nat) (A B : HS) (K : Int) (e : Ending) (w' : World) : Prop :=
  e = .returned (.bool true) ∧ DoesOk w b0 T hpa hpb σ A B K w'
theorem TwAt.cellA {w : World} {b0 : Nat → Prop} {T : Nat} {BA BB : HB} {A B : HS} {XA XB R S : List Nat} (h : TwAt w b0 T BA BB A B XA XB R S) : w.cell? ⟨T, 0, none⟩ = some (hpV BA) := (h.cs 0 _ rfl).1
theorem TwAt.cellB {w : World} {b0 : Nat → Prop} {T : Nat} {BA BB : HB} {A B : HS} {XA XB R S : List Nat} (h : TwAt w b0 T BA BB A B XA XB R S) : w.cell? ⟨T, 1, none⟩ = some (hpV BB) := (h.cs 1 _ rfl).1
theorem TwAt.cellR {w : World} {b0 : Nat → Prop} {T : Nat} {BA BB : HB} {A B : HS} {XA XB R S : List Nat} (h : TwAt w b0 T BA BB A B XA XB R S) (hl : R.length = 4 ∧ S.length = 4) {i : Nat} (hi : i < 4) : Own w T (2 + i) (.int .i64 (R.getD i 0 : Nat)) := h.cs _ _ (twC_R (by omega))
theorem TwAt.cellS {w : World} {b0 : Nat → Prop} {T : Nat} {BA BB : HB} {A B : HS} {XA XB R S : List Nat} (h : TwAt w b0 T BA BB A B XA XB R S) (hl : R.length = 4 ∧ S.length = 4) {i : Nat} (hi : i < 4) : Own w T (6 + i) (.int .i64 (S.getD i 0 : Nat)) := h.cs _ _ (twC_S hl.1 (by omega))
theorem From.calm {b0 : Nat → Prop} {w w' : World} (c : Calm w w') : From b0 w w' := Calm.any c
theorem Pair.place {σ : Nat → Nat} {A B : HS} {R S : List Nat} {m : Nat} (h : Pair σ A B R S m) {p : Nat} {o : Ob} (hl : Live A p o) {q : Nat} (hq : q ∈ o.ps) : Place A q := let ⟨_, hn⟩ := h.tw.wa.ptr p o hl q hq; hn.place
theorem strong_sub {o : Ob} {q : Nat} (h : q ∈ o.strong) : q ∈ o.ps := by
  unfold Ob.strong at h; split at h
  · cases h
  · exact h

/-- What a deed of the collector leaves. -/
def AOk (σ : Nat → Nat) (A B : HS) (R S : List Nat) (w : World) (BA : HB) (w' : World) : Prop :=
  ∃ A' BA' XA', HAt w' BA' A' XA' ∧ HKeep w BA w' BA' ∧ Pair σ A' B R S 4 ∧ A'.n = A.n ∧ A'.ser = A.ser
theorem AOk.calm {σ : Nat → Nat} {A B : HS} {R S : List Nat} {w w' : World} {BA : HB} {XA : List Nat} (h : HAt w BA A XA) (hp : Pair σ A B R S 4) (c : Calm w w') : AOk σ A B R S w BA w' :=
  ⟨A, BA, XA, h.calm c, HKeep.calm BA c, hp, rfl, rfl⟩
theorem scan_at {A : HS} {X : List Nat} (h : HRep A X) (c : Coll A) (hm : A.mv = true) : A.scan = A.top ∨ ∃ k o, CurAt A k A.scan o := by
  obtain ⟨k, k1, k2, _⟩ := c.scan hm
  rcases Nat.lt_or_eq_of_le k1 with hl | he
  · right
    refine ⟨k, (A.cur.getD k ob0).2, hl, ?_⟩
    rw [k2, ← (h.place hl).1]
  · left
    rw [k2, he]; exact h.half.cl.lie.end
theorem scan_any {σ : Nat → Nat} {A B : HS} {R S : List Nat} {w : World} {BA : HB} {XA : List Nat} (h : HAt w BA A XA) (hp : Pair σ A B R S 4) :
    Calls Try.prog 32 #[hpV BA] w fun e w' => (∃ b, e = .returned (.bool b)) ∧ AOk σ A B R S w BA w' := by
  cases hm : A.mv
  · exact (hscan_still h hm).mono (fun e w' ⟨h1, h2⟩ => ⟨⟨_, h1⟩, AOk.calm h hp (h2 ▸ Fr.refl _ _)⟩)
  · rcases scan_at h.rep hp.ca hm with hs | ⟨k, o, d⟩
    · exact (hscan_no h hs).mono (fun e w' ⟨h1, h2⟩ => ⟨⟨_, h1⟩, AOk.calm h hp h2⟩)
    · refine (hscan_yes h hm d rfl (fun q hq => hp.place (.inl d.mem') (strong_sub hq))).mono (fun e w' ⟨h1, s', l', g, hq, BA', X', hA, hK⟩ => ⟨⟨_, h1⟩, _, BA', X', hA, hK, hp.scan h.rep d rfl hm g hq hA.rep, ?_, ?_⟩)
      · exact g.same.1
      · exact g.same.2.2.2.2.1
theorem finals_any {σ : Nat → Nat} {A B : HS} {R S : List Nat} {w : World} {BA : HB} {XA : List Nat} (h : HAt w BA A XA) (hp : Pair σ A B R S 4) :
    Calls Try.prog 33 #[hpV BA] w fun e w' => (∃ v, e = .returned v) ∧ AOk σ A B R S w BA w' := by
  cases hm : A.mv
  · exact (hfinals_still h hm).mono (fun e w' ⟨h1, h2⟩ => ⟨⟨_, h1⟩, AOk.calm h hp (h2 ▸ Fr.refl _ _)⟩)
  · refine (hfinals h hm (fun p hp' => ?_)).mono (fun e w' ⟨st, lf, s', l', v, h1, h2, h3, h4, h5, BA', X', h6, h7, _⟩ => ⟨⟨_, h4⟩, s', BA', X', h6, h7, hp.finals h.rep h1 ?_ h2, h2.same.1, h2.same.2.2.2.2.1⟩)
    · exact Place.le h.rep (.inr (hp.ca.fn p hp'))
    · have := h1.len; have := h.rep.few.2; omega
theorem drop_any {σ : Nat → Nat} {A B : HS} {R S : List Nat} {w : World} {BA : HB} {XA : List Nat} (h : HAt w BA A XA) (hp : Pair σ A B R S 4) :
    Calls Try.prog 34 #[hpV BA] w fun e w' => (∃ v b, e = .returned (.tuple #[v, .bool b])) ∧ AOk σ A B R S w BA w' := by
  cases hm : A.mv
  · exact (hdrop_still h hm).mono (fun e w' ⟨h1, h2⟩ => ⟨⟨_, _, h1⟩, AOk.calm h hp (h2 ▸ Fr.refl _ _)⟩)
  · by_cases hs : A.scan = A.top
    · have hwk : ∀ p ∈ A.weak, Place A p := fun p hp' => by
        rcases hp.ca.wk p hp' with ⟨o, k, _⟩ | ⟨o, m, k, _⟩
        · exact .inr (.inl (List.mem_map.2 ⟨_, k, rfl⟩))
        · exact .inr (.inr (List.mem_map.2 ⟨_, k, rfl⟩))
      have hok : ∀ stw lf, Settles A A.weak stw lf → ∀ q ∈ stw, WeakOk A q := fun stw lf h1 q hq => by
        have : ∃ o, (q, o) ∈ A.cur ∧ o.wk = true := by
          rcases h1.st_mem hq with ⟨k1, k2⟩ | ⟨a, k1, k2⟩
          · rcases hp.ca.wk q k1 with k3 | ⟨o, m, k3, _⟩
            · exact k3
            · exact absurd (List.mem_map.2 ⟨_, k3, rfl⟩) k2
          · rcases hp.ca.wk a k1 with ⟨o, k3, _⟩ | ⟨o, m, k3, k4⟩
            · exfalso
              obtain ⟨i, u, c⟩ := k2
              exact Entry.unique h.rep k3 ⟨_, c.mem'⟩
            · obtain ⟨i, u, c⟩ := k2
              have := old_same h.rep k3 c.mem' rfl
              cases this
              obtain ⟨o', k5, k6⟩ := hp.tw.wa.gone a o q c.mem'
              exact ⟨o', k5, by rw [k6.2.2.1]; exact k4⟩
        obtain ⟨o, k1, k2⟩ := this
        obtain ⟨i, hi, e⟩ := mem_get ob0 k1
        have hok : o.Ok := (h.rep.cur_ok k1).1
        have hp1 := Ob.weak_p hok k2
        exact ⟨i, o, ⟨hi, e⟩, k2, hp.place (.inl k1) (get_mem' 0 (by rw [hok.lp]; omega))⟩
      refine (hdrop h hm hs (fun p h1 => (hwk p h1).le h.rep) (fun p h1 => Place.le h.rep (.inr (hp.ca.fn p h1))) hok).mono (fun e w' ⟨stw, stf, l1, l2, s', ls, v, h1, h2, h3, h4, h5, BA', X', h6, h7⟩ => ⟨⟨_, _, h4⟩, s'.drop, BA', X', h6, h7, hp.drop h.rep hm hs h1 h2 h3 h6.rep ⟨?_, ?_⟩, ?_, ?_⟩)
      · have := h1.len; have := h.rep.few.1; omega
      · have := h2.len; have := h.rep.few.2; omega
      · have W := WkI.of (A := { A with weak := stw, fin := stf }) (X := XA) ⟨h.rep.n1, h.rep.n2, h.rep.len, h.rep.zero, h.rep.half, h.rep.oroom, h.rep.room, h.rep.still, h.rep.ser, ⟨by have := h1.len; have := h.rep.few.1; show stw.length ≤ _; omega, by have := h2.len; have := h.rep.few.2; show stf.length ≤ _; omega⟩⟩ h3 (fun q hq => by obtain ⟨i, o, c, k1, _⟩ := hok _ _ h1 q hq; exact ⟨o, c.mem', k1⟩)
        exact W.n
      · have W := WkI.of (A := { A with weak := stw, fin := stf }) (X := XA) ⟨h.rep.n1, h.rep.n2, h.rep.len, h.rep.zero, h.rep.half, h.rep.oroom, h.rep.room, h.rep.still, h.rep.ser, ⟨by have := h1.len; have := h.rep.few.1; show stw.length ≤ _; omega, by have := h2.len; have := h.rep.few.2; show stf.length ≤ _; omega⟩⟩ h3 (fun q hq => by obtain ⟨i, o, c, k1, _⟩ := hok _ _ h1 q hq; exact ⟨o, c.mem', k1⟩)
        exact W.ser
    · exact (hdrop_no h hm hs).mono (fun e w' ⟨h1, h2⟩ => ⟨⟨_, _, h1⟩, AOk.calm h hp h2⟩)

section
variable {w : World} {b0 : Nat → Prop} {T : Nat} {BA BB : HB} {A B : HS} {XA XB R S : List Nat} {σ : Nat → Nat}

theorem DoesOk.a {w w1 w' : World} {K : Int} (c : Calm w w1) (h : TwAt w1 b0 T BA BB A B XA XB R S) (hK : 9 ≤ K) (a : AOk σ A B R S w1 BA w') : DoesOk w b0 T BA.hp BB.hp σ A B K w' := by
  obtain ⟨A', BA', XA', h1, h2, h3, h4, h5⟩ := a
  exact ⟨(From.calm c).trans (TwAt.from_ h.la h2), σ, A', B, R, S, BA', BB, XA', XB, h.stepA h1 h2, h2.hp, rfl, h3, h4, .inl ⟨rfl, h5, rfl⟩, fun hk => by omega⟩

set_option maxRecDepth 4000 in
set_option maxHeartbeats 8000000 in
theorem does_scan (h : TwAt w b0 T BA BB A B XA XB R S) (hp : Pair σ A B R S 4) (o : Op10) (hok : o.Ok) (hK : pk o.kd 13 = 10 ∨ pk o.kd 13 = 11) :
    Calls Try.prog 29 #[.pointer (some ⟨T, 0, none⟩), opV o] w (DoesPost w b0 T BA.hp BB.hp σ A B (pk o.kd 13)) := by
  obtain ⟨K, hKe⟩ : ∃ K, pk o.kd 13 = K := ⟨_, rfl⟩
  rw [hKe] at hK ⊢
  obtain ⟨okd, oka, okb, oki, okn, ok0, ok1, ok2⟩ := hok
  have hta := h.cellA
  have htb := h.cellB
  have hl : Hid (R.length = 4 ∧ S.length = 4) := ⟨hp.rg.lr, hp.rg.ls⟩
  have hTl := h.cs.lt (by simp [twC])
  have H := hid h
  have HP := hid hp
  have pka := pk_range o.a (n := 4) (by omega)
  have pkb := pk_range o.b (n := 4) (by omega)
  have pki := pk_range o.i (n := 9) (by omega)
  have qa := hid (fun W => pick10 o.a 4 W oka (by omega))
  have qb := hid (fun W => pick10 o.b 4 W okb (by omega))
  have qi := hid (fun W => pick10 o.i 9 W oki (by omega))
  have qk := hid (fun W => pick10 o.kd 13 W okd (by omega))
  obtain ⟨ia, hia⟩ : ∃ k : Nat, pk o.a 4 = k := ⟨(pk o.a 4).toNat, by omega⟩
  obtain ⟨ib, hib⟩ : ∃ k : Nat, pk o.b 4 = k := ⟨(pk o.b 4).toNat, by omega⟩
  obtain ⟨ii, hii⟩ : ∃ k : Nat, pk o.i 9 = k := ⟨(pk o.i 9).toNat, by omega⟩
  rw [hia] at qa pka; rw [hib] at qb pkb; rw [hii] at qi pki
  have hia4 : ia < 4 := by omega
  have hib4 : ib < 4 := by omega
  have hii9 : ii < 9 := by omega
  have hne1 : T ≠ w.heap.size := by omega
  have hne2 : w.heap.size ≠ T := by omega
  clear pka pkb pki hia hib hii h hp
  go_enter Try.func29, Try.ntmps29
  go_wp2_with fail
  have k1 : Calm w (w.alloc (.cells #[.int .i64 o.kd, .int .i64 o.a, .int .i64 o.b, .int .i64 o.i, .int .i64 o.n, .int .i64 o.s0, .int .i64 o.s1, .int .i64 o.s2] 55)) := (Fr.refl _ _).alloc _
  have o3 := OwnL.new w [.int .i64 o.kd, .int .i64 o.a, .int .i64 o.b, .int .i64 o.i, .int .i64 o.n, .int .i64 o.s0, .int .i64 o.s1, .int .i64 o.s2] 55
  refine (qa.out _).mono ?_
  rintro e w1 ⟨rfl, rfl⟩
  go_wp2_with fail
  refine (qb.out _).mono ?_
  rintro e w1 ⟨rfl, rfl⟩
  go_wp2_with fail
  refine (qi.out _).mono ?_
  rintro e w1 ⟨rfl, rfl⟩
  go_wp2_with fail
  refine (qk.out _).mono ?_
  rintro e w1 ⟨rfl, rfl⟩
  replace hta := k1.cellAt hta id
  replace htb := k1.cellAt htb id
  replace H := hid (H.out.calm k1)
  generalize World.alloc w _ = w1 at *
  replace o3 := hid o3
  replace k1 := hid k1
  clear qa qb qi qk
  rw [hKe]
  clear hKe
  have C := hid (scan_any H.out.ha HP.out)
  have hK9 : Hid (9 ≤ K) := by show 9 ≤ K; omega
  go_wp2_with fail
  all_goals
    refine (C.out).mono ?_
    rintro e w2 ⟨⟨b, rfl⟩, hA⟩
    have hD := hid (DoesOk.a k1.out H.out hK9.out hA)
    clear hA
    go_wp2
    go_ret
    exact ⟨rfl, hD.out⟩

set_option maxRecDepth 4000 in
set_option maxHeartbeats 8000000 in
theorem does_end (h : TwAt w b0 T BA BB A B XA XB R S) (hp : Pair σ A B R S 4) (o : Op10) (hok : o.Ok) (hK : pk o.kd 13 = 12) :
    Calls Try.prog 29 #[.pointer (some ⟨T, 0, none⟩), opV o] w (DoesPost w b0 T BA.hp BB.hp σ A B (pk o.kd 13)) := by
  obtain ⟨K, hKe⟩ : ∃ K, pk o.kd 13 = K := ⟨_, rfl⟩
  rw [hKe] at hK ⊢
  subst hK
  obtain ⟨okd, oka, okb, oki, okn, ok0, ok1, ok2⟩ := hok
  have hta := h.cellA
  have htb := h.cellB
  have hl : Hid (R.length = 4 ∧ S.length = 4) := ⟨hp.rg.lr, hp.rg.ls⟩
  have hTl := h.cs.lt (by simp [twC])
  have H := hid h
  have HP := hid hp
  have pka := pk_range o.a (n := 4) (by omega)
  have pkb := pk_range o.b (n := 4) (by omega)
  have pki := pk_range o.i (n := 9) (by omega)
  have qa := hid (fun W => pick10 o.a 4 W oka (by omega))
  have qb := hid (fun W => pick10 o.b 4 W okb (by omega))
  have qi := hid (fun W => pick10 o.i 9 W oki (by omega))
  have qk := hid (fun W => pick10 o.kd 13 W okd (by omega))
  obtain ⟨ia, hia⟩ : ∃ k : Nat, pk o.a 4 = k := ⟨(pk o.a 4).toNat, by omega⟩
  obtain ⟨ib, hib⟩ : ∃ k : Nat, pk o.b 4 = k := ⟨(pk o.b 4).toNat, by omega⟩
  obtain ⟨ii, hii⟩ : ∃ k : Nat, pk o.i 9 = k := ⟨(pk o.i 9).toNat, by omega⟩
  rw [hia] at qa pka; rw [hib] at qb pkb; rw [hii] at qi pki
  have hia4 : ia < 4 := by omega
  have hib4 : ib < 4 := by omega
  have hii9 : ii < 9 := by omega
  have hne1 : T ≠ w.heap.size := by omega
  have hne2 : w.heap.size ≠ T := by omega
  clear pka pkb pki hia hib hii h hp
  go_enter Try.func29, Try.ntmps29
  go_wp2_with fail
  have k1 : Calm w (w.alloc (.cells #[.int .i64 o.kd, .int .i64 o.a, .int .i64 o.b, .int .i64 o.i, .int .i64 o.n, .int .i64 o.s0, .int .i64 o.s1, .int .i64 o.s2] 55)) := (Fr.refl _ _).alloc _
  have o3 := OwnL.new w [.int .i64 o.kd, .int .i64 o.a, .int .i64 o.b, .int .i64 o.i, .int .i64 o.n, .int .i64 o.s0, .int .i64 o.s1, .int .i64 o.s2] 55
  refine (qa.out _).mono ?_
  rintro e w1 ⟨rfl, rfl⟩
  go_wp2_with fail
  refine (qb.out _).mono ?_
  rintro e w1 ⟨rfl, rfl⟩
  go_wp2_with fail
  refine (qi.out _).mono ?_
  rintro e w1 ⟨rfl, rfl⟩
  go_wp2_with fail
  refine (qk.out _).mono ?_
  rintro e w1 ⟨rfl, rfl⟩
  replace hta := k1.cellAt hta id
  replace htb := k1.cellAt htb id
  replace H := hid (H.out.calm k1)
  generalize World.alloc w _ = w1 at *
  replace o3 := hid o3
  replace k1 := hid k1
  clear qa qb qi qk
  rw [hKe]
  clear hKe
  have hpn := pk_range o.n (n := 2) (by omega)
  have qn := hid (fun W => pick10 o.n 2 W okn (by omega))
  obtain ⟨P, hP⟩ : ∃ P, pk o.n 2 = P := ⟨_, rfl⟩
  rw [hP] at qn hpn
  have x4 := (o3.out 4 _ rfl).1
  have hPc : P = 0 ∨ P = 1 := by omega
  clear hP hpn
  go_wp2_with fail
  refine (qn.out _).mono ?_
  rintro e w2 ⟨rfl, rfl⟩
  rcases hPc with rfl | rfl
  · have C := hid (finals_any H.out.ha HP.out)
    go_wp2_with fail
    refine (C.out).mono ?_
    rintro e w2 ⟨⟨v, rfl⟩, hA⟩
    have hD := hid (DoesOk.a k1.out H.out (by omega : (9 : Int) ≤ 12) hA)
    clear hA
    go_wp2
    go_ret
    exact ⟨rfl, hD.out⟩
  · have C := hid (drop_any H.out.ha HP.out)
    go_wp2_with fail
    refine (C.out).mono ?_
    rintro e w2 ⟨⟨v, b, rfl⟩, hA⟩
    have hD := hid (DoesOk.a k1.out H.out (by omega : (9 : Int) ≤ 12) hA)
    clear hA
    go_wp2
    go_ret
    exact ⟨rfl, hD.out⟩

end

end Go.Proofs.Ytiomemdmhcdpbaa

namespace Go.Proofs.Ytiomemdmhcdpbaa
open Go.RowKit Go.Shelf

section
variable {w : World} {b0 : Nat → Prop} {T : Nat} {BA BB : HB} {A B : HS} {XA XB R S : List Nat} {σ : Nat → Nat}

/-- The registers are moved one by one. -/
def FlipI (σ : Nat → Nat) (A B : HS) (BA BB : HB) (XB S : List Nat) (b0 : Nat → Prop) (T : Nat) (w1 : World) (m : Nat) (wr : World) : Prop :=
  ∃ A' BA' XA' R', TwAt wr b0 T BA' BB A' B XA' XB R' S ∧ BA'.hp = BA.hp ∧ Pair σ A' B R' S m ∧ A'.n = A.n ∧ A'.ser = A.ser ∧ From b0 w1 wr

set_option maxRecDepth 4000 in
set_option maxHeartbeats 8000000 in
theorem does_flip (h : TwAt w b0 T BA BB A B XA XB R S) (hp : Pair σ A B R S 4) (o : Op10) (hok : o.Ok) (hK : pk o.kd 13 = 9) :
    Calls Try.prog 29 #[.pointer (some ⟨T, 0, none⟩), opV o] w (DoesPost w b0 T BA.hp BB.hp σ A B (pk o.kd 13)) := by
  obtain ⟨K, hKe⟩ : ∃ K, pk o.kd 13 = K := ⟨_, rfl⟩
  rw [hKe] at hK ⊢
  subst hK
  obtain ⟨okd, oka, okb, oki, okn, ok0, ok1, ok2⟩ := hok
  have hta := h.cellA
  have htb := h.cellB
  have hl : Hid (R.length = 4 ∧ S.length = 4) := ⟨hp.rg.lr, hp.rg.ls⟩
  have hTl := h.cs.lt (by simp [twC])
  have H := hid h
  have HP := hid hp
  have pka := pk_range o.a (n := 4) (by omega)
  have pkb := pk_range o.b (n := 4) (by omega)
  have pki := pk_range o.i (n := 9) (by omega)
  have qa := hid (fun W => pick10 o.a 4 W oka (by omega))
  have qb := hid (fun W => pick10 o.b 4 W okb (by omega))
  have qi := hid (fun W => pick10 o.i 9 W oki (by omega))
  have qk := hid (fun W => pick10 o.kd 13 W okd (by omega))
  obtain ⟨ia, hia⟩ : ∃ k : Nat, pk o.a 4 = k := ⟨(pk o.a 4).toNat, by omega⟩
  obtain ⟨ib, hib⟩ : ∃ k : Nat, pk o.b 4 = k := ⟨(pk o.b 4).toNat, by omega⟩
  obtain ⟨ii, hii⟩ : ∃ k : Nat, pk o.i 9 = k := ⟨(pk o.i 9).toNat, by omega⟩
  rw [hia] at qa pka; rw [hib] at qb pkb; rw [hii] at qi pki
  have hia4 : ia < 4 := by omega
  have hib4 : ib < 4 := by omega
  have hii9 : ii < 9 := by omega
  have hne1 : T ≠ w.heap.size := by omega
  have hne2 : w.heap.size ≠ T := by omega
  clear pka pkb pki hia hib hii h hp
  go_enter Try.func29, Try.ntmps29
  go_wp2_with fail
  have k1 : Calm w (w.alloc (.cells #[.int .i64 o.kd, .int .i64 o.a, .int .i64 o.b, .int .i64 o.i, .int .i64 o.n, .int .i64 o.s0, .int .i64 o.s1, .int .i64 o.s2] 55)) := (Fr.refl _ _).alloc _
  have o3 := OwnL.new w [.int .i64 o.kd, .int .i64 o.a, .int .i64 o.b, .int .i64 o.i, .int .i64 o.n, .int .i64 o.s0, .int .i64 o.s1, .int .i64 o.s2] 55
  refine (qa.out _).mono ?_
  rintro e w1 ⟨rfl, rfl⟩
  go_wp2_with fail
  refine (qb.out _).mono ?_
  rintro e w1 ⟨rfl, rfl⟩
  go_wp2_with fail
  refine (qi.out _).mono ?_
  rintro e w1 ⟨rfl, rfl⟩
  go_wp2_with fail
  refine (qk.out _).mono ?_
  rintro e w1 ⟨rfl, rfl⟩
  replace hta := k1.cellAt hta id
  replace htb := k1.cellAt htb id
  replace H := hid (H.out.calm k1)
  generalize World.alloc w _ = w1 at *
  replace o3 := hid o3
  replace k1 := hid k1
  clear qa qb qi qk
  rw [hKe]
  clear hKe
  cases hm : A.mv
  · have C := hid (hflip_yes H.out.ha hm)
    go_wp2_with fail
    refine (C.out).mono ?_
    rintro e w2 ⟨rfl, hA, hK⟩
    have hF0 : Hid (FlipI σ A B BA BB XB S b0 T w1 0 w2) := ⟨A.flip, _, XA, R, H.out.stepA hA hK, hK.hp, HP.out.flip H.out.ha.rep hm, rfl, rfl, TwAt.from_ H.out.la hK⟩
    clear C hA hK hta htb H HP
    go_wp2_with fail
    go_loopw [20] (fun i wr => ∃ m : Nat, m ≤ 4 ∧ i = .int .i64 m ∧ FlipI σ A B BA BB XB S b0 T w1 m wr) (fun i _ => 4 - (intOf i).toNat)
    case atStart => exact ⟨0, by omega, rfl, hF0.out⟩
    case round =>
      clear hF0
      obtain ⟨m, hm4, rfl, A1, BA1, XA1, R1, hT, he, hP, hn, hs, hfr⟩ := hrel
      rcases Nat.lt_or_ge m 4 with hlt | hge
      · have hl1 : R1.length = 4 ∧ S.length = 4 := ⟨hP.rg.lr, hP.rg.ls⟩
        have yr := hT.cellR hl1 hlt
        have y0 := hT.cellA
        obtain ⟨n0, hn0, hn1, _⟩ := hP.rg.ref m hlt
        have C := fun W (cw : Calm wr W) => hmoved (hT.ha.calm cw) (hn1.place.le hT.ha.rep)
        rw [hpe he] at C
        rw [hpe he] at y0
        have yr1 := yr.1
        have hstep := hid (fun (W W2 : World) (c : Calm wr W) (A2 : HS) (B2 : HB) (X2 : List Nat) (q : Nat) (g : Goes A1 (R1.getD m 0) A2 q) (h2 : HAt W2 B2 A2 X2) (k2 : HKeep W BA1 W2 B2) =>
          (⟨A2, B2, X2, R1.set m q, ((hT.calm c).stepA h2 k2).setR hlt hl1, k2.hp.trans he, hP.moved hT.ha.rep hlt g, g.same.1.trans hn, g.same.2.2.2.2.1.trans hs, ((hfr.trans (From.calm c)).trans (TwAt.from_ hT.la k2)).setCell (p := ⟨T, 2 + m, none⟩) (.inl (show b0 T from hT.lt)) (.int .i64 (q : Nat))⟩ : FlipI σ A B BA BB XB S b0 T w1 (m + 1) (W2.setCell ⟨T, 2 + m, none⟩ (.int .i64 (q : Nat)))))
        have hkeep := hid (fun (W W2 : World) (c : Calm wr W) (A2 : HS) (B2 : HB) (X2 : List Nat) (h2 : HAt W2 B2 A2 X2) (k2 : HKeep W BA1 W2 B2) => ((hT.calm c).stepA h2 k2).cellR hl1 hlt)
        replace C := hid C
        clear hT hP hn1 yr hfr hn hs hl1 he
        generalize R1.getD m 0 = p at *
        go_wp2_with fail
        go_region_law ((go_simp; go_at_call 18; refine (C.out _ (by first | exact Fr.refl _ _ | exact (Fr.refl _ _).drew)).mono ?_; rintro e w6 ⟨A2, q, g, rfl, B2, X2, h2, k2⟩; have z := hkeep.out _ _ (by first | exact Fr.refl _ _ | exact (Fr.refl _ _).drew) _ _ _ h2 k2; have z1 := z.1; have z2 := z.2; have hF := hid (hstep.out _ _ (by first | exact Fr.refl _ _ | exact (Fr.refl _ _).drew) _ _ _ _ g h2 k2); clear g h2 k2 z))
        all_goals
          go_wp2
          go_roundw
          case rel => exact ⟨m + 1, by omega, by go_num, hF.out⟩
          case measure => simp [intOf]; omega
      · obtain rfl : m = 4 := by omega
        have hD : Hid (DoesOk w b0 T BA.hp BB.hp σ A B 9 wr) := ⟨(From.calm k1.out).trans hfr, σ, A1, B, R1, S, BA1, BB, XA1, XB, hT, he, rfl, hP, hn, .inl ⟨rfl, hs, rfl⟩, fun hk => by omega⟩
        clear hT hP
        go_wp2
        go_ret
        exact ⟨rfl, hD.out⟩
  · have C := hid (hflip_no H.out.ha hm)
    have hD := hid (DoesOk.a k1.out H.out (by omega : (9 : Int) ≤ 9) (AOk.calm H.out.ha HP.out (Fr.refl _ w1)))
    go_wp2_with fail
    refine (C.out).mono ?_
    rintro e w2 ⟨rfl, rfl⟩
    go_wp2
    go_ret
    exact ⟨rfl, hD.out⟩

end

end Go.Proofs.Ytiomemdmhcdpbaa

namespace Go.Proofs.Ytiomemdmhcdpbaa
open Go.RowKit Go.Shelf

section
variable {w : World} {b0 : Nat → Prop} {T : Nat} {BA BB : HB} {A B : HS} {XA XB R S : List Nat} {σ : Nat → Nat}

theorem fit_rnd {p d : Nat} {wk fn : Bool} (hok : okS p d wk fn) : rnd ((3 + p + d : Nat) : Int) ≤ 24 := by
  obtain ⟨t1, _, _, t4⟩ := Ob.took_eq (Ob.new_ok (ser := 1) hok (by omega))
  have e : ((Ob.new p d wk fn 1).size : Int) = ((3 + p + d : Nat) : Int) := rfl
  rw [e] at t1; omega
theorem Pair.roomB {m : Nat} (hp : Pair σ A B R S m) (hs : B.ser ≤ 600) {p d : Nat} {wk fn : Bool} (hok : okS p d wk fn) : rnd ((3 + p + d : Nat) : Int) ≤ B.room := by
  have h1 := fit_rnd hok
  have h2 := hp.bt; have h3 := hp.bn
  have ho : owed B.old = 0 := by rw [hp.tw.still]; rfl
  unfold HS.room; rw [ho, h3]; omega

theorem DoesOk.same {w w1 : World} {K : Int} (c : Calm w w1) (h : TwAt w1 b0 T BA BB A B XA XB R S) (hp : Pair σ A B R S 4) : DoesOk w b0 T BA.hp BB.hp σ A B K w1 :=
  ⟨From.calm c, σ, A, B, R, S, BA, BB, XA, XB, h, rfl, rfl, hp, rfl, .inl ⟨rfl, rfl, rfl⟩, fun _ => rfl⟩

set_option maxRecDepth 4000 in
set_option maxHeartbeats 8000000 in
theorem does_alloc (h : TwAt w b0 T BA BB A B XA XB R S) (hp : Pair σ A B R S 4) (hs : A.ser ≤ 1000 ∧ B.ser ≤ 600) (o : Op10) (hok : o.Ok) (hK : pk o.kd 13 = 0 ∨ pk o.kd 13 = 1 ∨ pk o.kd 13 = 2) :
    Calls Try.prog 29 #[.pointer (some ⟨T, 0, none⟩), opV o] w (DoesPost w b0 T BA.hp BB.hp σ A B (pk o.kd 13)) := by
  obtain ⟨K, hKe⟩ : ∃ K, pk o.kd 13 = K := ⟨_, rfl⟩
  rw [hKe] at hK ⊢
  replace hs := hid hs
  obtain ⟨okd, oka, okb, oki, okn, ok0, ok1, ok2⟩ := hok
  have hta := h.cellA
  have htb := h.cellB
  have hl : Hid (R.length = 4 ∧ S.length = 4) := ⟨hp.rg.lr, hp.rg.ls⟩
  have hTl := h.cs.lt (by simp [twC])
  have H := hid h
  have HP := hid hp
  have pka := pk_range o.a (n := 4) (by omega)
  have pkb := pk_range o.b (n := 4) (by omega)
  have pki := pk_range o.i (n := 9) (by omega)
  have qa := hid (fun W => pick10 o.a 4 W oka (by omega))
  have qb := hid (fun W => pick10 o.b 4 W okb (by omega))
  have qi := hid (fun W => pick10 o.i 9 W oki (by omega))
  have qk := hid (fun W => pick10 o.kd 13 W okd (by omega))
  obtain ⟨ia, hia⟩ : ∃ k : Nat, pk o.a 4 = k := ⟨(pk o.a 4).toNat, by omega⟩
  obtain ⟨ib, hib⟩ : ∃ k : Nat, pk o.b 4 = k := ⟨(pk o.b 4).toNat, by omega⟩
  obtain ⟨ii, hii⟩ : ∃ k : Nat, pk o.i 9 = k := ⟨(pk o.i 9).toNat, by omega⟩
  rw [hia] at qa pka; rw [hib] at qb pkb; rw [hii] at qi pki
  have hia4 : ia < 4 := by omega
  have hib4 : ib < 4 := by omega
  have hii9 : ii < 9 := by omega
  have hne1 : T ≠ w.heap.size := by omega
  have hne2 : w.heap.size ≠ T := by omega
  clear pka pkb pki hia hib hii h hp
  go_enter Try.func29, Try.ntmps29
  go_wp2_with fail
  have k1 : Calm w (w.alloc (.cells #[.int .i64 o.kd, .int .i64 o.a, .int .i64 o.b, .int .i64 o.i, .int .i64 o.n, .int .i64 o.s0, .int .i64 o.s1, .int .i64 o.s2] 55)) := (Fr.refl _ _).alloc _
  have o3 := OwnL.new w [.int .i64 o.kd, .int .i64 o.a, .int .i64 o.b, .int .i64 o.i, .int .i64 o.n, .int .i64 o.s0, .int .i64 o.s1, .int .i64 o.s2] 55
  refine (qa.out _).mono ?_
  rintro e w1 ⟨rfl, rfl⟩
  go_wp2_with fail
  refine (qb.out _).mono ?_
  rintro e w1 ⟨rfl, rfl⟩
  go_wp2_with fail
  refine (qi.out _).mono ?_
  rintro e w1 ⟨rfl, rfl⟩
  go_wp2_with fail
  refine (qk.out _).mono ?_
  rintro e w1 ⟨rfl, rfl⟩
  replace hta := k1.cellAt hta id
  replace htb := k1.cellAt htb id
  replace H := hid (H.out.calm k1)
  generalize World.alloc w _ = w1 at *
  replace o3 := hid o3
  replace k1 := hid k1
  clear qa qb qi qk
  rw [hKe]
  clear hKe
  have x5 := (o3.out 5 _ rfl).1
  have x6 := (o3.out 6 _ rfl).1
  have x7 := (o3.out 7 _ rfl).1
  have hfit := hid (fun W => fit06d o.s0 o.s1 o.s2 ok0 ok1 ok2 W)
  have hsz1 : w.heap.size ≤ w1.heap.size := k1.out.size
  rcases hK with rfl | rfl | rfl
  · go_wp2_with fail
    refine (hfit.out _).mono ?_
    rintro e w2 ⟨p, d, wk, fn, okp, rfl, c2, -⟩
    have o8 := OwnL.new w2 [.int .i64 p, .int .i64 d, .bool wk, .bool fn] 32
    have c3 : Calm w1 (w2.alloc (.cells #[.int .i64 p, .int .i64 d, .bool wk, .bool fn] 32)) := c2.alloc _
    have hg2 : w1.heap.size ≤ w2.heap.size := c2.size
    have ht3 := c3.cellAt hta id
    have hR := hid (room_is (H.out.ha.calm c3))
    have hrb := hid (HP.out.roomB hs.out.2 okp)
    have hfr := hid (fit_rnd okp)
    obtain ⟨RM, hRM⟩ : ∃ RM, A.room = RM := ⟨_, rfl⟩
    rw [hRM] at hR
    replace hRM := hid hRM
    replace o8 := hid o8
    replace okp := hid okp
    clear c2
    go_wp2_with fail
    clear ht3
    refine (hR.out).mono ?_
    rintro e w4 ⟨rfl, c4⟩
    replace o8 := hid (o8.out.calm c4)
    replace c4 := c3.trans c4
    generalize hg8 : w2.heap.size = g8 at *
    clear c3 hR
    rcases Int.lt_or_le RM 32 with hlt | hge
    · have hD := hid (fun K => DoesOk.same (K := K) (k1.out.trans c4) (H.out.calm c4) HP.out)
      go_wp2
      go_ret
      exact ⟨rfl, hD.out _⟩
    · have hge2 : ¬ (RM < 32) := by omega
      have H4 := hid (H.out.calm c4)
      have hT0 := H4.out.cellA
      have hAl := hid (fun W (cw : Calm w4 W) => halloc_yes (H4.out.ha.calm cw) okp.out (by have := hRM.out; have := hfr.out; omega) (by have := hs.out.1; omega) ⟨by have := HP.out.ca.few.1; have := hs.out.1; omega, by have := HP.out.ca.few.2; have := hs.out.1; omega⟩)
      obtain ⟨y0, -⟩ := o8.out 0 _ rfl
      obtain ⟨y1, -⟩ := o8.out 1 _ rfl
      obtain ⟨y2, -⟩ := o8.out 2 _ rfl
      obtain ⟨y3, -⟩ := o8.out 3 _ rfl
      have hnA : Hid (¬ HBlk BA g8) := fun e => by have := H.out.ha.lt _ e; omega
      have hnB : Hid (¬ HBlk BB g8) := fun e => by have := H.out.hb.lt _ e; omega
      have hTA := hid H4.out.ta
      replace hge := hid hge
      clear hta htb x5 x6 x7
      go_wp2_with fail
      go_region_held3 (fun w' => w'.cell? ⟨T, 0, none⟩ = some (hpV BA) ∧ w'.cell? ⟨g8, 0, none⟩ = some (.int .i64 p) ∧ w'.cell? ⟨g8, 1, none⟩ = some (.int .i64 d) ∧ w'.cell? ⟨g8, 2, none⟩ = some (.bool wk) ∧ w'.cell? ⟨g8, 3, none⟩ = some (.bool fn)) (go_keep)
        (first | (go_at_call 13; refine (hAl.out _ (by first | exact Fr.refl _ _ | exact (Fr.refl _ _).drew)).mono ?_; rintro e w6 ⟨rfl, BA6, XA6, hA6, hK6⟩; have ka : From b0 w4 w6 := (From.calm ((by first | exact Fr.refl _ _ | exact (Fr.refl _ _).drew) : Calm w4 _)).trans (TwAt.from_ H4.out.la hK6); have H6 := hid ((H4.out.calm (by first | exact Fr.refl _ _ | exact (Fr.refl _ _).drew)).stepA hA6 hK6); have q0 := hK6.fr.cellAt (show World.cell? _ ⟨T, 0, none⟩ = some (hpV BA) by first | exact hT0 | assumption) hTA.out; have z0 := hK6.fr.cellAt (show World.cell? _ ⟨g8, 0, none⟩ = some (.int .i64 p) by first | exact y0 | assumption) hnA.out; have z1 := hK6.fr.cellAt (show World.cell? _ ⟨g8, 1, none⟩ = some (.int .i64 d) by first | exact y1 | assumption) hnA.out; have z2 := hK6.fr.cellAt (show World.cell? _ ⟨g8, 2, none⟩ = some (.bool wk) by first | exact y2 | assumption) hnA.out; have z3 := hK6.fr.cellAt (show World.cell? _ ⟨g8, 3, none⟩ = some (.bool fn) by first | exact y3 | assumption) hnA.out))
      have e6 := hK6.hp
      have repA := hid hA6.rep
      have hT1 := H6.out.cellB
      have hAl2 := hid (fun W (cw : Calm w6 W) => halloc_yes (H6.out.hb.calm cw) okp.out hrb.out (by have := hs.out.2; omega) ⟨by have := HP.out.bf.1; have := hs.out.2; omega, by have := HP.out.bf.2; have := hs.out.2; omega⟩)
      have hTB := hid H6.out.tb
      replace e6 := hid e6
      replace ka := hid ka
      clear hA6 hK6 q0 y0 y1 y2 y3 hT0 hAl o8
      go_wp2_with fail
      go_region_held3 (fun w' => w'.cell? ⟨T, 1, none⟩ = some (hpV BB) ∧ w'.cell? ⟨g8, 0, none⟩ = some (.int .i64 p) ∧ w'.cell? ⟨g8, 1, none⟩ = some (.int .i64 d) ∧ w'.cell? ⟨g8, 2, none⟩ = some (.bool wk) ∧ w'.cell? ⟨g8, 3, none⟩ = some (.bool fn)) (go_keep)
        (first | (go_at_call 13; refine (hAl2.out _ (by first | exact Fr.refl _ _ | exact (Fr.refl _ _).drew)).mono ?_; rintro e w8 ⟨rfl, BB8, XB8, hB8, hK8⟩; have kb : From b0 w6 w8 := (From.calm ((by first | exact Fr.refl _ _ | exact (Fr.refl _ _).drew) : Calm w6 _)).trans (TwAt.from_ H6.out.lb hK8); have H8 := hid ((H6.out.calm (by first | exact Fr.refl _ _ | exact (Fr.refl _ _).drew)).stepB hB8 hK8); have u1 := hK8.fr.cellAt (show World.cell? _ ⟨T, 1, none⟩ = some (hpV BB) by first | exact hT1 | assumption) hTB.out; have u2 := hK8.fr.cellAt (show World.cell? _ ⟨g8, 0, none⟩ = some (.int .i64 p) by first | exact z0 | assumption) hnB.out; have u3 := hK8.fr.cellAt (show World.cell? _ ⟨g8, 1, none⟩ = some (.int .i64 d) by first | exact z1 | assumption) hnB.out; have u4 := hK8.fr.cellAt (show World.cell? _ ⟨g8, 2, none⟩ = some (.bool wk) by first | exact z2 | assumption) hnB.out; have u5 := hK8.fr.cellAt (show World.cell? _ ⟨g8, 3, none⟩ = some (.bool fn) by first | exact z3 | assumption) hnB.out))
      have e8 := hK8.hp
      have hP8 := hid (HP.out.alloc H.out.ha.rep repA.out hB8.rep okp.out hia4)
      have yr := H8.out.cellR hl.out hia4
      have ys := H8.out.cellS hl.out hia4
      obtain ⟨yr1, yr2⟩ := yr
      obtain ⟨ys1, ys2⟩ := ys
      have hw9 := hid ((H8.out.setR (v := A.top) hia4 hl.out).setS (v := B.top) hia4 ⟨by simp [hl.out.1], hl.out.2⟩)
      have hTl0 := H8.out.lt
      replace kb := hid kb
      replace e8 := hid e8
      have hTl8 : Hid (b0 T) := hTl0
      clear hB8 hK8 u1 u2 u3 u4 u5 z0 z1 z2 z3 hT1 hAl2 hTl0
      have hne : 2 + ia ≠ 6 + ia := by omega
      go_wp2
      go_ret
      exact ⟨rfl, (((From.calm (k1.out.trans c4)).trans ka.out).trans kb.out).trans (((Fr.refl (fun k => b0 k) w8).setCell (p := ⟨T, 2 + ia, none⟩) (.inl hTl8.out) _).setCell (p := ⟨T, 6 + ia, none⟩) (.inl hTl8.out) _), _, _, _, _, _, _, _, _, _, hw9.out, e6.out, e8.out, hP8.out, rfl, .inr ⟨rfl, rfl, rfl⟩, fun _ => rfl⟩
  · go_wp2_with fail
    refine (hfit.out _).mono ?_
    rintro e w2 ⟨p, d, wk, fn, okp, rfl, c2, -⟩
    have o8 := OwnL.new w2 [.int .i64 p, .int .i64 d, .bool wk, .bool fn] 32
    have c3 : Calm w1 (w2.alloc (.cells #[.int .i64 p, .int .i64 d, .bool wk, .bool fn] 32)) := c2.alloc _
    have hg2 : w1.heap.size ≤ w2.heap.size := c2.size
    have ht3 := c3.cellAt hta id
    have hR := hid (room_is (H.out.ha.calm c3))
    have hrb := hid (HP.out.roomB hs.out.2 okp)
    have hfr := hid (fit_rnd okp)
    obtain ⟨RM, hRM⟩ : ∃ RM, A.room = RM := ⟨_, rfl⟩
    rw [hRM] at hR
    replace hRM := hid hRM
    replace o8 := hid o8
    replace okp := hid okp
    clear c2
    go_wp2_with fail
    clear ht3
    refine (hR.out).mono ?_
    rintro e w4 ⟨rfl, c4⟩
    replace o8 := hid (o8.out.calm c4)
    replace c4 := c3.trans c4
    generalize hg8 : w2.heap.size = g8 at *
    clear c3 hR
    rcases Int.lt_or_le RM 32 with hlt | hge
    · have hD := hid (fun K => DoesOk.same (K := K) (k1.out.trans c4) (H.out.calm c4) HP.out)
      go_wp2
      go_ret
      exact ⟨rfl, hD.out _⟩
    · have hge2 : ¬ (RM < 32) := by omega
      have H4 := hid (H.out.calm c4)
      have hT0 := H4.out.cellA
      have hAl := hid (fun W (cw : Calm w4 W) => halloc_yes (H4.out.ha.calm cw) okp.out (by have := hRM.out; have := hfr.out; omega) (by have := hs.out.1; omega) ⟨by have := HP.out.ca.few.1; have := hs.out.1; omega, by have := HP.out.ca.few.2; have := hs.out.1; omega⟩)
      obtain ⟨y0, -⟩ := o8.out 0 _ rfl
      obtain ⟨y1, -⟩ := o8.out 1 _ rfl
      obtain ⟨y2, -⟩ := o8.out 2 _ rfl
      obtain ⟨y3, -⟩ := o8.out 3 _ rfl
      have hnA : Hid (¬ HBlk BA g8) := fun e => by have := H.out.ha.lt _ e; omega
      have hnB : Hid (¬ HBlk BB g8) := fun e => by have := H.out.hb.lt _ e; omega
      have hTA := hid H4.out.ta
      replace hge := hid hge
      clear hta htb x5 x6 x7
      go_wp2_with fail
      go_region_held3 (fun w' => w'.cell? ⟨T, 0, none⟩ = some (hpV BA) ∧ w'.cell? ⟨g8, 0, none⟩ = some (.int .i64 p) ∧ w'.cell? ⟨g8, 1, none⟩ = some (.int .i64 d) ∧ w'.cell? ⟨g8, 2, none⟩ = some (.bool wk) ∧ w'.cell? ⟨g8, 3, none⟩ = some (.bool fn)) (go_keep)
        (first | (go_at_call 13; refine (hAl.out _ (by first | exact Fr.refl _ _ | exact (Fr.refl _ _).drew)).mono ?_; rintro e w6 ⟨rfl, BA6, XA6, hA6, hK6⟩; have ka : From b0 w4 w6 := (From.calm ((by first | exact Fr.refl _ _ | exact (Fr.refl _ _).drew) : Calm w4 _)).trans (TwAt.from_ H4.out.la hK6); have H6 := hid ((H4.out.calm (by first | exact Fr.refl _ _ | exact (Fr.refl _ _).drew)).stepA hA6 hK6); have q0 := hK6.fr.cellAt (show World.cell? _ ⟨T, 0, none⟩ = some (hpV BA) by first | exact hT0 | assumption) hTA.out; have z0 := hK6.fr.cellAt (show World.cell? _ ⟨g8, 0, none⟩ = some (.int .i64 p) by first | exact y0 | assumption) hnA.out; have z1 := hK6.fr.cellAt (show World.cell? _ ⟨g8, 1, none⟩ = some (.int .i64 d) by first | exact y1 | assumption) hnA.out; have z2 := hK6.fr.cellAt (show World.cell? _ ⟨g8, 2, none⟩ = some (.bool wk) by first | exact y2 | assumption) hnA.out; have z3 := hK6.fr.cellAt (show World.cell? _ ⟨g8, 3, none⟩ = some (.bool fn) by first | exact y3 | assumption) hnA.out))
      have e6 := hK6.hp
      have repA := hid hA6.rep
      have hT1 := H6.out.cellB
      have hAl2 := hid (fun W (cw : Calm w6 W) => halloc_yes (H6.out.hb.calm cw) okp.out hrb.out (by have := hs.out.2; omega) ⟨by have := HP.out.bf.1; have := hs.out.2; omega, by have := HP.out.bf.2; have := hs.out.2; omega⟩)
      have hTB := hid H6.out.tb
      replace e6 := hid e6
      replace ka := hid ka
      clear hA6 hK6 q0 y0 y1 y2 y3 hT0 hAl o8
      go_wp2_with fail
      go_region_held3 (fun w' => w'.cell? ⟨T, 1, none⟩ = some (hpV BB) ∧ w'.cell? ⟨g8, 0, none⟩ = some (.int .i64 p) ∧ w'.cell? ⟨g8, 1, none⟩ = some (.int .i64 d) ∧ w'.cell? ⟨g8, 2, none⟩ = some (.bool wk) ∧ w'.cell? ⟨g8, 3, none⟩ = some (.bool fn)) (go_keep)
        (first | (go_at_call 13; refine (hAl2.out _ (by first | exact Fr.refl _ _ | exact (Fr.refl _ _).drew)).mono ?_; rintro e w8 ⟨rfl, BB8, XB8, hB8, hK8⟩; have kb : From b0 w6 w8 := (From.calm ((by first | exact Fr.refl _ _ | exact (Fr.refl _ _).drew) : Calm w6 _)).trans (TwAt.from_ H6.out.lb hK8); have H8 := hid ((H6.out.calm (by first | exact Fr.refl _ _ | exact (Fr.refl _ _).drew)).stepB hB8 hK8); have u1 := hK8.fr.cellAt (show World.cell? _ ⟨T, 1, none⟩ = some (hpV BB) by first | exact hT1 | assumption) hTB.out; have u2 := hK8.fr.cellAt (show World.cell? _ ⟨g8, 0, none⟩ = some (.int .i64 p) by first | exact z0 | assumption) hnB.out; have u3 := hK8.fr.cellAt (show World.cell? _ ⟨g8, 1, none⟩ = some (.int .i64 d) by first | exact z1 | assumption) hnB.out; have u4 := hK8.fr.cellAt (show World.cell? _ ⟨g8, 2, none⟩ = some (.bool wk) by first | exact z2 | assumption) hnB.out; have u5 := hK8.fr.cellAt (show World.cell? _ ⟨g8, 3, none⟩ = some (.bool fn) by first | exact z3 | assumption) hnB.out))
      have e8 := hK8.hp
      have hP8 := hid (HP.out.alloc H.out.ha.rep repA.out hB8.rep okp.out hia4)
      have yr := H8.out.cellR hl.out hia4
      have ys := H8.out.cellS hl.out hia4
      obtain ⟨yr1, yr2⟩ := yr
      obtain ⟨ys1, ys2⟩ := ys
      have hw9 := hid ((H8.out.setR (v := A.top) hia4 hl.out).setS (v := B.top) hia4 ⟨by simp [hl.out.1], hl.out.2⟩)
      have hTl0 := H8.out.lt
      replace kb := hid kb
      replace e8 := hid e8
      have hTl8 : Hid (b0 T) := hTl0
      clear hB8 hK8 u1 u2 u3 u4 u5 z0 z1 z2 z3 hT1 hAl2 hTl0
      have hne : 2 + ia ≠ 6 + ia := by omega
      go_wp2
      go_ret
      exact ⟨rfl, (((From.calm (k1.out.trans c4)).trans ka.out).trans kb.out).trans (((Fr.refl (fun k => b0 k) w8).setCell (p := ⟨T, 2 + ia, none⟩) (.inl hTl8.out) _).setCell (p := ⟨T, 6 + ia, none⟩) (.inl hTl8.out) _), _, _, _, _, _, _, _, _, _, hw9.out, e6.out, e8.out, hP8.out, rfl, .inr ⟨rfl, rfl, rfl⟩, fun _ => rfl⟩
  · go_wp2_with fail
    refine (hfit.out _).mono ?_
    rintro e w2 ⟨p, d, wk, fn, okp, rfl, c2, -⟩
    have o8 := OwnL.new w2 [.int .i64 p, .int .i64 d, .bool wk, .bool fn] 32
    have c3 : Calm w1 (w2.alloc (.cells #[.int .i64 p, .int .i64 d, .bool wk, .bool fn] 32)) := c2.alloc _
    have hg2 : w1.heap.size ≤ w2.heap.size := c2.size
    have ht3 := c3.cellAt hta id
    have hR := hid (room_is (H.out.ha.calm c3))
    have hrb := hid (HP.out.roomB hs.out.2 okp)
    have hfr := hid (fit_rnd okp)
    obtain ⟨RM, hRM⟩ : ∃ RM, A.room = RM := ⟨_, rfl⟩
    rw [hRM] at hR
    replace hRM := hid hRM
    replace o8 := hid o8
    replace okp := hid okp
    clear c2
    go_wp2_with fail
    clear ht3
    refine (hR.out).mono ?_
    rintro e w4 ⟨rfl, c4⟩
    replace o8 := hid (o8.out.calm c4)
    replace c4 := c3.trans c4
    generalize hg8 : w2.heap.size = g8 at *
    clear c3 hR
    rcases Int.lt_or_le RM 32 with hlt | hge
    · have hD := hid (fun K => DoesOk.same (K := K) (k1.out.trans c4) (H.out.calm c4) HP.out)
      go_wp2
      go_ret
      exact ⟨rfl, hD.out _⟩
    · have hge2 : ¬ (RM < 32) := by omega
      have H4 := hid (H.out.calm c4)
      have hT0 := H4.out.cellA
      have hAl := hid (fun W (cw : Calm w4 W) => halloc_yes (H4.out.ha.calm cw) okp.out (by have := hRM.out; have := hfr.out; omega) (by have := hs.out.1; omega) ⟨by have := HP.out.ca.few.1; have := hs.out.1; omega, by have := HP.out.ca.few.2; have := hs.out.1; omega⟩)
      obtain ⟨y0, -⟩ := o8.out 0 _ rfl
      obtain ⟨y1, -⟩ := o8.out 1 _ rfl
      obtain ⟨y2, -⟩ := o8.out 2 _ rfl
      obtain ⟨y3, -⟩ := o8.out 3 _ rfl
      have hnA : Hid (¬ HBlk BA g8) := fun e => by have := H.out.ha.lt _ e; omega
      have hnB : Hid (¬ HBlk BB g8) := fun e => by have := H.out.hb.lt _ e; omega
      have hTA := hid H4.out.ta
      replace hge := hid hge
      clear hta htb x5 x6 x7
      go_wp2_with fail
      go_region_held3 (fun w' => w'.cell? ⟨T, 0, none⟩ = some (hpV BA) ∧ w'.cell? ⟨g8, 0, none⟩ = some (.int .i64 p) ∧ w'.cell? ⟨g8, 1, none⟩ = some (.int .i64 d) ∧ w'.cell? ⟨g8, 2, none⟩ = some (.bool wk) ∧ w'.cell? ⟨g8, 3, none⟩ = some (.bool fn)) (go_keep)
        (first | (go_at_call 13; refine (hAl.out _ (by first | exact Fr.refl _ _ | exact (Fr.refl _ _).drew)).mono ?_; rintro e w6 ⟨rfl, BA6, XA6, hA6, hK6⟩; have ka : From b0 w4 w6 := (From.calm ((by first | exact Fr.refl _ _ | exact (Fr.refl _ _).drew) : Calm w4 _)).trans (TwAt.from_ H4.out.la hK6); have H6 := hid ((H4.out.calm (by first | exact Fr.refl _ _ | exact (Fr.refl _ _).drew)).stepA hA6 hK6); have q0 := hK6.fr.cellAt (show World.cell? _ ⟨T, 0, none⟩ = some (hpV BA) by first | exact hT0 | assumption) hTA.out; have z0 := hK6.fr.cellAt (show World.cell? _ ⟨g8, 0, none⟩ = some (.int .i64 p) by first | exact y0 | assumption) hnA.out; have z1 := hK6.fr.cellAt (show World.cell? _ ⟨g8, 1, none⟩ = some (.int .i64 d) by first | exact y1 | assumption) hnA.out; have z2 := hK6.fr.cellAt (show World.cell? _ ⟨g8, 2, none⟩ = some (.bool wk) by first | exact y2 | assumption) hnA.out; have z3 := hK6.fr.cellAt (show World.cell? _ ⟨g8, 3, none⟩ = some (.bool fn) by first | exact y3 | assumption) hnA.out))
      have e6 := hK6.hp
      have repA := hid hA6.rep
      have hT1 := H6.out.cellB
      have hAl2 := hid (fun W (cw : Calm w6 W) => halloc_yes (H6.out.hb.calm cw) okp.out hrb.out (by have := hs.out.2; omega) ⟨by have := HP.out.bf.1; have := hs.out.2; omega, by have := HP.out.bf.2; have := hs.out.2; omega⟩)
      have hTB := hid H6.out.tb
      replace e6 := hid e6
      replace ka := hid ka
      clear hA6 hK6 q0 y0 y1 y2 y3 hT0 hAl o8
      go_wp2_with fail
      go_region_held3 (fun w' => w'.cell? ⟨T, 1, none⟩ = some (hpV BB) ∧ w'.cell? ⟨g8, 0, none⟩ = some (.int .i64 p) ∧ w'.cell? ⟨g8, 1, none⟩ = some (.int .i64 d) ∧ w'.cell? ⟨g8, 2, none⟩ = some (.bool wk) ∧ w'.cell? ⟨g8, 3, none⟩ = some (.bool fn)) (go_keep)
        (first | (go_at_call 13; refine (hAl2.out _ (by first | exact Fr.refl _ _ | exact (Fr.refl _ _).drew)).mono ?_; rintro e w8 ⟨rfl, BB8, XB8, hB8, hK8⟩; have kb : From b0 w6 w8 := (From.calm ((by first | exact Fr.refl _ _ | exact (Fr.refl _ _).drew) : Calm w6 _)).trans (TwAt.from_ H6.out.lb hK8); have H8 := hid ((H6.out.calm (by first | exact Fr.refl _ _ | exact (Fr.refl _ _).drew)).stepB hB8 hK8); have u1 := hK8.fr.cellAt (show World.cell? _ ⟨T, 1, none⟩ = some (hpV BB) by first | exact hT1 | assumption) hTB.out; have u2 := hK8.fr.cellAt (show World.cell? _ ⟨g8, 0, none⟩ = some (.int .i64 p) by first | exact z0 | assumption) hnB.out; have u3 := hK8.fr.cellAt (show World.cell? _ ⟨g8, 1, none⟩ = some (.int .i64 d) by first | exact z1 | assumption) hnB.out; have u4 := hK8.fr.cellAt (show World.cell? _ ⟨g8, 2, none⟩ = some (.bool wk) by first | exact z2 | assumption) hnB.out; have u5 := hK8.fr.cellAt (show World.cell? _ ⟨g8, 3, none⟩ = some (.bool fn) by first | exact z3 | assumption) hnB.out))
      have e8 := hK8.hp
      have hP8 := hid (HP.out.alloc H.out.ha.rep repA.out hB8.rep okp.out hia4)
      have yr := H8.out.cellR hl.out hia4
      have ys := H8.out.cellS hl.out hia4
      obtain ⟨yr1, yr2⟩ := yr
      obtain ⟨ys1, ys2⟩ := ys
      have hw9 := hid ((H8.out.setR (v := A.top) hia4 hl.out).setS (v := B.top) hia4 ⟨by simp [hl.out.1], hl.out.2⟩)
      have hTl0 := H8.out.lt
      replace kb := hid kb
      replace e8 := hid e8
      have hTl8 : Hid (b0 T) := hTl0
      clear hB8 hK8 u1 u2 u3 u4 u5 z0 z1 z2 z3 hT1 hAl2 hTl0
      have hne : 2 + ia ≠ 6 + ia := by omega
      go_wp2
      go_ret
      exact ⟨rfl, (((From.calm (k1.out.trans c4)).trans ka.out).trans kb.out).trans (((Fr.refl (fun k => b0 k) w8).setCell (p := ⟨T, 2 + ia, none⟩) (.inl hTl8.out) _).setCell (p := ⟨T, 6 + ia, none⟩) (.inl hTl8.out) _), _, _, _, _, _, _, _, _, _, hw9.out, e6.out, e8.out, hP8.out, rfl, .inr ⟨rfl, rfl, rfl⟩, fun _ => rfl⟩

end

end Go.Proofs.Ytiomemdmhcdpbaa
