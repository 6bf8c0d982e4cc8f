/- Weak pointers let go of; a heap whose other space is let go of. What Drop returns. -/
import Derived.Test.YtiomemdmhcdpbaaHeapD
set_option linter.unusedSimpArgs false
set_option linter.unusedVariables false
namespace Go.Proofs.Ytiomemdmhcdpbaa
open Go.RowKit Go.Shelf

/-- A weak pointer told anew: where its target is now; nothing, if it has not gone. -/
inductive WeakS (s : HS) (q : Nat) : HS → List Nat → Prop
  | stay {i : Nat} {o : Ob} (c : CurAt s i q o) (h : o.ps.getD 0 0 ∉ opl s.old) : WeakS s q s []
  | gone {i j t : Nat} {o u : Ob} (c : CurAt s i q o) (d : OldAt s j (o.ps.getD 0 0) u (some t)) : WeakS s q (s.upd i (o.setp true 0 t)) []
  | lost {i j : Nat} {o u : Ob} (c : CurAt s i q o) (d : OldAt s j (o.ps.getD 0 0) u none) : WeakS s q (s.upd i (o.setp true 0 0)) [o.ser]
inductive WeakL (s : HS) : List Nat → HS → List Nat → Prop
  | nil : WeakL s [] s []
  | snoc {l ls m : List Nat} {s1 s2 : HS} {q : Nat} (h : WeakL s l s1 ls) (g : WeakS s1 q s2 m) : WeakL s (l ++ [q]) s2 (ls ++ m)
theorem CurAt.upd {s : HS} {i a j b : Nat} {o u u' : Ob} (c : CurAt s i a o) (d : CurAt s j b u) : CurAt (s.upd j u') i a (if i = j then u' else o) := by
  have e : (s.upd j u').cur = s.cur.set j (b, u') := by
    unfold HS.upd; have := d.get; simp only [ob0] at this; rw [this]
  refine ⟨by rw [e, List.length_set]; exact c.lt, ?_⟩
  rw [e]
  by_cases h : i = j
  · subst h
    rw [if_pos rfl]
    have h1 := c.get; rw [d.get] at h1
    have hl := c.lt
    cases h1
    simp [List.getD, hl]
  · rw [if_neg h]
    have h1 := c.get
    simp only [List.getD, List.getElem?_set, if_neg (Ne.symm h)] at h1 ⊢
    exact h1
/-- A weak object that is here, its pointer a place. -/
def WeakOk (s : HS) (q : Nat) : Prop := ∃ i o, CurAt s i q o ∧ o.wk = true ∧ Place s (o.ps.getD 0 0)
theorem upd_place {s : HS} {i : Nat} {o : Ob} {x : Nat} (h : Place s x) : Place (s.upd i o) x := by
  refine h.imp id (fun h => h.imp (fun h => ?_) id)
  rw [plc_upd]; exact h
theorem Ob.weak_p {o : Ob} (h : o.Ok) (hw : o.wk = true) : o.p = 1 := (h.sh.2.2 hw).1
theorem OldAt.gone_cur {s : HS} {X : List Nat} (h : HRep s X) {j a t : Nat} {u : Ob} (d : OldAt s j a u (some t)) : t ∈ plc s.cur := by
  obtain ⟨k, h1, h2, _⟩ := h.half.gone _ d.lt _ (by rw [d.get])
  refine List.mem_map.2 ⟨s.cur.getD k ob0, get_mem' ob0 h1, ?_⟩
  rw [(h.place h1).1]; exact h2
theorem WeakOk.set {s : HS} {i a v : Nat} {o : Ob} (c : CurAt s i a o) (hw : o.wk = true) (hv : Place s v) (hlp : o.ps.length = 1) {x : Nat} (h : WeakOk s x) : WeakOk (s.upd i (o.setp true 0 v)) x := by
  obtain ⟨k, u, d, h1, h2⟩ := h
  refine ⟨k, _, d.upd (u' := o.setp true 0 v) c, ?_, ?_⟩
  · split
    · exact hw
    · exact h1
  · split
    · have : (o.setp true 0 v).ps.getD 0 0 = v := by
        simp [Ob.setp, List.getD, hlp]
      rw [this]; exact upd_place hv
    · exact upd_place h2

theorem drop_otop (s : HS) : s.drop.otop = s.base (!s.u) := rfl
theorem HAt.dropped_0 {w w' : World} {B : HB} {s : HS} {X : List Nat} (h : HAt w B s X) (hu : s.u = false) (f : Fr (fun k => k = B.hp) w w')
    (H : OwnL w' B.hp [arV B.ap, .int .i64 1, .int .i64 s.n, .int .i64 (s.top : Nat), .int .i64 (1 + s.n), .int .i64 s.n, .int .i64 (1 + s.n), B.v0, .slice none 0 0, .int .i64 0, .bool false, .int .i64 0, .int .i64 s.scan, .int .i64 s.ser, B.vw, B.vf]) :
    HAt w' (B.flip s.u) s.drop X ∧ HKeep w B w' (B.flip s.u) := by
  have hrep := h.rep.drop
  have nn := h.none_
  have hap := h.apart
  have hin := InB.nil
  simp only [HB.vs, List.mem_cons, List.not_mem_nil, or_false, forall_eq_or_imp, forall_eq] at nn
  simp only [HB.vs, List.pairwise_cons, List.mem_cons, List.not_mem_nil, or_false, forall_eq_or_imp, forall_eq] at hap
  have hu2 : s.drop.u = false := hu
  have b0 : s.base false = 1 := rfl
  have b1 : s.base true = 1 + s.n := rfl
  rw [hu]
  refine ⟨⟨?_, ?_, ?_, ?_, ?_, ?_, hrep, h.hap, h.hac, ?_, ?_⟩, ⟨f.mono (fun k _ e => .inl e), ?_, rfl⟩⟩
  · have : hcells (B.flip false) s.drop = [arV B.ap, .int .i64 1, .int .i64 s.n, .int .i64 (s.top : Nat), .int .i64 (1 + s.n), .int .i64 s.n, .int .i64 (1 + s.n), B.v0, .slice none 0 0, .int .i64 0, .bool false, .int .i64 0, .int .i64 s.scan, .int .i64 s.ser, B.vw, B.vf] := by
      have e1 : ((s.drop.otop : Nat) : Int) = 1 + s.n := by rw [drop_otop, hu]; simp only [Bool.not_false, Bool.not_true, b0, b1]; try push_cast; try rfl
      have e2 : s.drop.top = s.top := rfl
      have e3 : owed s.drop.old = 0 := rfl
      simp only [hcells, hu2, cond_true, cond_false, e1, e2, e3, HB.flip]
      rfl
    rw [this]
    exact H
  · exact h.ar.fr f (by simpa using Ne.symm h.hap) (by simpa using Ne.symm h.hac)
  · have := h.r0.frB f (fun k hk e => nn.1.1 (e ▸ hk)); simp only [l0, hu, cond_false, cond_true] at this; simp only [l0, hu2, cond_true, cond_false, HB.flip]; exact this
  · simp only [l1, hu2, cond_true, cond_false, HB.flip]; exact World.ownsRow_nil _ _ _ _
  · exact h.rw.frB f (fun k hk e => nn.2.2.1.1 (e ▸ hk))
  · exact h.rf.frB f (fun k hk e => nn.2.2.2.1 (e ▸ hk))
  · simp only [HB.vs, HB.flip, cond_true, cond_false, List.pairwise_cons, List.mem_cons, List.not_mem_nil, or_false, forall_eq_or_imp, forall_eq]
    exact ⟨⟨fun k _ h2 => hin k h2, hap.1.2.1, hap.1.2.2⟩, ⟨fun k h1 _ => hin k h1, fun k h1 _ => hin k h1⟩, hap.2.2.1, by simp, List.Pairwise.nil⟩
  · intro v hv
    simp only [HB.vs, HB.flip, cond_false, cond_true, List.mem_cons, List.not_mem_nil, or_false] at hv
    rcases hv with rfl | rfl | rfl | rfl
    · exact nn.1
    · exact ⟨hin _, hin _, hin _⟩
    · exact nn.2.2.1
    · exact nn.2.2.2
  · rintro k (hk | hk | hk | ⟨v, hv, hk⟩)
    · exact .inl (.inl hk)
    · exact .inl (.inr (.inl hk))
    · exact .inl (.inr (.inr (.inl hk)))
    · simp only [HB.vs, HB.flip, cond_false, cond_true, List.mem_cons, List.not_mem_nil, or_false] at hv
      rcases hv with rfl | rfl | rfl | rfl
      · first | exact absurd hk (hin _) | exact .inl (.inr (.inr (.inr ⟨_, by simp [HB.vs], hk⟩)))
      · first | exact absurd hk (hin _) | exact .inl (.inr (.inr (.inr ⟨_, by simp [HB.vs], hk⟩)))
      · exact .inl (.inr (.inr (.inr ⟨_, by simp [HB.vs], hk⟩)))
      · exact .inl (.inr (.inr (.inr ⟨_, by simp [HB.vs], hk⟩)))
theorem HAt.dropped_1 {w w' : World} {B : HB} {s : HS} {X : List Nat} (h : HAt w B s X) (hu : s.u = true) (f : Fr (fun k => k = B.hp) w w')
    (H : OwnL w' B.hp [arV B.ap, .int .i64 1, .int .i64 s.n, .int .i64 1, .int .i64 (1 + s.n), .int .i64 s.n, .int .i64 (s.top : Nat), .slice none 0 0, B.v1, .int .i64 1, .bool false, .int .i64 0, .int .i64 s.scan, .int .i64 s.ser, B.vw, B.vf]) :
    HAt w' (B.flip s.u) s.drop X ∧ HKeep w B w' (B.flip s.u) := by
  have hrep := h.rep.drop
  have nn := h.none_
  have hap := h.apart
  have hin := InB.nil
  simp only [HB.vs, List.mem_cons, List.not_mem_nil, or_false, forall_eq_or_imp, forall_eq] at nn
  simp only [HB.vs, List.pairwise_cons, List.mem_cons, List.not_mem_nil, or_false, forall_eq_or_imp, forall_eq] at hap
  have hu2 : s.drop.u = true := hu
  have b0 : s.base false = 1 := rfl
  have b1 : s.base true = 1 + s.n := rfl
  rw [hu]
  refine ⟨⟨?_, ?_, ?_, ?_, ?_, ?_, hrep, h.hap, h.hac, ?_, ?_⟩, ⟨f.mono (fun k _ e => .inl e), ?_, rfl⟩⟩
  · have : hcells (B.flip true) s.drop = [arV B.ap, .int .i64 1, .int .i64 s.n, .int .i64 1, .int .i64 (1 + s.n), .int .i64 s.n, .int .i64 (s.top : Nat), .slice none 0 0, B.v1, .int .i64 1, .bool false, .int .i64 0, .int .i64 s.scan, .int .i64 s.ser, B.vw, B.vf] := by
      have e1 : ((s.drop.otop : Nat) : Int) = 1 := by rw [drop_otop, hu]; simp only [Bool.not_false, Bool.not_true, b0, b1]; try push_cast; try rfl
      have e2 : s.drop.top = s.top := rfl
      have e3 : owed s.drop.old = 0 := rfl
      simp only [hcells, hu2, cond_true, cond_false, e1, e2, e3, HB.flip]
      rfl
    rw [this]
    exact H
  · exact h.ar.fr f (by simpa using Ne.symm h.hap) (by simpa using Ne.symm h.hac)
  · simp only [l0, hu2, cond_true, cond_false, HB.flip]; exact World.ownsRow_nil _ _ _ _
  · have := h.r1.frB f (fun k hk e => nn.2.1.1 (e ▸ hk)); simp only [l1, hu, cond_false, cond_true] at this; simp only [l1, hu2, cond_true, cond_false, HB.flip]; exact this
  · exact h.rw.frB f (fun k hk e => nn.2.2.1.1 (e ▸ hk))
  · exact h.rf.frB f (fun k hk e => nn.2.2.2.1 (e ▸ hk))
  · simp only [HB.vs, HB.flip, cond_true, cond_false, List.pairwise_cons, List.mem_cons, List.not_mem_nil, or_false, forall_eq_or_imp, forall_eq]
    exact ⟨⟨fun k h1 _ => hin k h1, fun k h1 _ => hin k h1, fun k h1 _ => hin k h1⟩, hap.2.1, hap.2.2.1, by simp, List.Pairwise.nil⟩
  · intro v hv
    simp only [HB.vs, HB.flip, cond_false, cond_true, List.mem_cons, List.not_mem_nil, or_false] at hv
    rcases hv with rfl | rfl | rfl | rfl
    · exact ⟨hin _, hin _, hin _⟩
    · exact nn.2.1
    · exact nn.2.2.1
    · exact nn.2.2.2
  · rintro k (hk | hk | hk | ⟨v, hv, hk⟩)
    · exact .inl (.inl hk)
    · exact .inl (.inr (.inl hk))
    · exact .inl (.inr (.inr (.inl hk)))
    · simp only [HB.vs, HB.flip, cond_false, cond_true, List.mem_cons, List.not_mem_nil, or_false] at hv
      rcases hv with rfl | rfl | rfl | rfl
      · first | exact absurd hk (hin _) | exact .inl (.inr (.inr (.inr ⟨_, by simp [HB.vs], hk⟩)))
      · first | exact absurd hk (hin _) | exact .inl (.inr (.inr (.inr ⟨_, by simp [HB.vs], hk⟩)))
      · exact .inl (.inr (.inr (.inr ⟨_, by simp [HB.vs], hk⟩)))
      · exact .inl (.inr (.inr (.inr ⟨_, by simp [HB.vs], hk⟩)))

theorem hdrop_still {w : World} {B : HB} {s : HS} {X : List Nat} (h : HAt w B s X) (hm : s.mv = false) :
    Calls Try.prog 34 #[hpV B] w fun e w' => e = .returned (.tuple #[.slice none 0 0, .bool false]) ∧ w = w' := by
  have hmv := moving_is h
  rw [hm] at hmv
  replace hmv := hid hmv
  clear h hm
  go_enter Try.func34, Try.ntmps34
  go_wp2_with fail
  refine (hmv.out).mono ?_
  rintro e w1 ⟨rfl, rfl⟩
  go_wp2
  go_ret2
  exact ⟨rfl, rfl⟩
theorem hdrop_no {w : World} {B : HB} {s : HS} {X : List Nat} (h : HAt w B s X) (hm : s.mv = true) (hs : s.scan ≠ s.top) :
    Calls Try.prog 34 #[hpV B] w fun e w' => e = .returned (.tuple #[.slice none 0 0, .bool false]) ∧ Calm w w' := by
  have hmv := moving_is h
  rw [hm] at hmv
  replace hmv := hid hmv
  have hsc := hid (scanned_is h (S := false) (by simp; omega))
  clear h hm hs
  go_enter Try.func34, Try.ntmps34
  go_wp2_with fail
  refine (hmv.out).mono ?_
  rintro e w1 ⟨rfl, rfl⟩
  go_wp2_with fail
  refine (hsc.out).mono ?_
  rintro e w1 ⟨rfl, c1⟩
  go_wp2
  go_ret2
  exact ⟨rfl, c1⟩

end Go.Proofs.Ytiomemdmhcdpbaa

namespace Go.Proofs.Ytiomemdmhcdpbaa
open Go.RowKit Go.Shelf

theorem Settles.congr {s s' : HS} (he : s.old = s'.old) {l st lf : List Nat} (h : Settles s l st lf) : Settles s' l st lf := by
  induction h with
  | nil => exact .nil
  | stay h hp ih => exact .stay ih (he ▸ hp)
  | gone h c ih => exact .gone ih ⟨he ▸ c.lt, he ▸ c.get⟩
  | left h c ih => exact .left ih ⟨he ▸ c.lt, he ▸ c.get⟩

def DropI (w : World) (B B2 : HB) (s : HS) (l : List Nat) (v : Value) (k : Nat) (wr : World) : Prop :=
  ∃ s' ls X', WeakL s (l.take k) s' ls ∧ HAt wr B2 s' X' ∧ HKeep w B wr B2 ∧ ORow wr w.heap.size v (nI ls) ∧ (∀ b, InB v b → ¬ HBlk B2 b) ∧ ls.length ≤ k ∧ (∀ q ∈ l, WeakOk s' q) ∧ s'.old = s.old ∧ s'.weak = s.weak ∧ s'.fin = s.fin ∧ s'.u = s.u ∧ s'.mv = s.mv ∧ s'.scan = s.scan

/-- What Drop leaves. -/
def DropPost (w : World) (B : HB) (s : HS) (e : Ending) (w' : World) : Prop :=
  ∃ stw stf l1 l2 s' ls v, Settles s s.weak stw l1 ∧ Settles s s.fin stf l2 ∧ WeakL { s with weak := stw, fin := stf } stw s' ls ∧ e = .returned (.tuple #[v, .bool true]) ∧ ORow w' w.heap.size v (nI ls) ∧ ∃ B' X', HAt w' B' s'.drop X' ∧ HKeep w B w' B'

set_option maxRecDepth 4000 in
set_option maxHeartbeats 8000000 in
theorem hdrop {w : World} {B : HB} {s : HS} {X : List Nat} (h : HAt w B s X) (hm : s.mv = true) (hs : s.scan = s.top) (hpw : ∀ p ∈ s.weak, p ≤ 131072) (hpf : ∀ p ∈ s.fin, p ≤ 131072) (hok : ∀ stw lf, Settles s s.weak stw lf → ∀ q ∈ stw, WeakOk s q) :
    Calls Try.prog 34 #[hpV B] w (DropPost w B s) := by
  have hmv := moving_is h
  rw [hm] at hmv
  replace hmv := hid hmv
  have hsc := hid (scanned_is h (S := true) (by rw [hs]; simp))
  have y14 := (h.own (i := 14) (v := B.vw) rfl).1
  have H := hid h
  replace hpw := hid hpw
  replace hpf := hid hpf
  replace hok := hid hok
  replace hs := hid hs
  clear h
  go_enter Try.func34, Try.ntmps34
  go_wp2_with fail
  refine (hmv.out).mono ?_
  rintro e w1 ⟨rfl, rfl⟩
  go_wp2_with fail
  refine (hsc.out).mono ?_
  rintro e w1 ⟨rfl, c1⟩
  replace y14 := c1.cellAt y14 id
  go_wp2_with fail
  have H1 := H.out.calm c1
  refine (settle_is H1 H1.rw H.out.rep.few.1 hpw.out).mono ?_
  rintro e w2 ⟨va, vb, stw, lf, rfl, hS, ha, hb, hab, c2⟩
  have hstl : stw.length ≤ 100000 := by have := hS.len; have := H.out.rep.few.1; omega
  replace c2 := c1.trans c2
  obtain ⟨N, hN⟩ : ∃ N, stw.length = N := ⟨_, rfl⟩
  obtain ⟨aa, ac, rfl⟩ := ha.sliceN (n := N) (by simp [hN])
  have y14' := (H.out.own (i := 14) (v := B.vw) rfl).calm c2
  have y1 := y14'.1
  have y2 := y14'.2
  have y15 := ((H.out.own (i := 15) (v := B.vf) rfl).calm c2).1
  have hlt := H.out.lt_hp
  have hab2 : ∀ b, InB (.slice aa N ac) b → w.heap.size ≤ b := fun b hb => by have := (ha.lt hb).1; have := c1.size; omega
  have hfr : Fr (fun k => k = B.hp ∨ InB B.vw k) w (w2.setCell ⟨B.hp, 14, none⟩ (.slice aa N ac)) := (Calm.any c2).setCell (p := ⟨B.hp, 14, none⟩) (.inl (.inl rfl)) _
  have hf2 : Fr (fun k => k = B.hp) w2 (w2.setCell ⟨B.hp, 14, none⟩ (.slice aa N ac)) := (Fr.refl (fun k => k = B.hp) w2).setCell (p := ⟨B.hp, 14, none⟩) (.inl rfl) _
  obtain ⟨hA3, hK3⟩ := H.out.reweak (v := .slice aa N ac) (l := stw) hfr ((H.out.cs.calm c2).set 14 _ (by simp [hcells])) ((ha.mono (Nat.zero_le _)).frB hf2 (fun b h1 (h2 : b = B.hp) => by have := hab2 b h1; omega)) (fun k hk => .inr (hab2 k hk)) hstl
  have hokw := hid (hok.out _ _ hS)
  have hN5 : N ≤ 100000 := by rw [← hN]; exact hstl
  replace hN := hid hN
  clear hstl
  replace hS := hid hS
  replace hA3 := hid hA3
  replace hK3 := hid hK3
  clear y14 y14' ha hb hab hab2 hfr c1 c2 H1 hlt hmv hsc hok
  go_wp2_with fail
  clear y1 y2 y15 hf2
  generalize World.setCell w2 _ _ = w3 at *
  refine (settle_is hA3.out hA3.out.rf H.out.rep.few.2 hpf.out).mono ?_
  rintro e w4 ⟨va, vd, stf, lf2, rfl, hS2, ha, hb, hab, c4⟩
  have hstf : stf.length ≤ 100000 := by have h3 : stf.length + lf2.length = s.fin.length := hS2.len; have := H.out.rep.few.2; omega
  obtain ⟨fa, fn, fc, rfl⟩ := ha.letters
  have y15' := (hA3.out.own (i := 15) (v := B.vf) rfl).calm c4
  have y1 := y15'.1
  have y2 := y15'.2
  have hlt : B.hp < w3.heap.size := hA3.out.lt_hp
  have hab2 : ∀ b, InB (.slice fa fn fc) b → w3.heap.size ≤ b := fun b hb => (ha.lt hb).1
  have hfr : Fr (fun k => k = B.hp ∨ InB B.vf k) w3 (w4.setCell ⟨B.hp, 15, none⟩ (.slice fa fn fc)) := (Calm.any c4).setCell (p := ⟨B.hp, 15, none⟩) (.inl (.inl rfl)) _
  have hf2 : Fr (fun k => k = B.hp) w4 (w4.setCell ⟨B.hp, 15, none⟩ (.slice fa fn fc)) := (Fr.refl (fun k => k = B.hp) w4).setCell (p := ⟨B.hp, 15, none⟩) (.inl rfl) _
  obtain ⟨hA5, hK5⟩ := hA3.out.refin (v := .slice fa fn fc) (l := stf) hfr ((hA3.out.cs.calm c4).set 15 _ (by simp [hcells])) ((ha.mono (Nat.zero_le _)).frB hf2 (fun b h1 (h2 : b = B.hp) => by have := hab2 b h1; omega)) (fun k hk => .inr (hab2 k hk)) hstf
  have hS2' := hid (Settles.congr (s := { s with weak := stw }) (s' := s) (l := s.fin) rfl hS2)
  have hK5' := hid (hK3.out.trans hK5)
  obtain ⟨B2, hB2⟩ : ∃ B2, B2 = ({ B with vw := .slice aa N ac, vf := .slice fa fn fc } : HB) := ⟨_, rfl⟩
  have hp2 : B2.hp = B.hp := by rw [hB2]
  have hvw2 : B2.vw = .slice aa N ac := by rw [hB2]
  have hA6 : HAt (w4.setCell ⟨B.hp, 15, none⟩ (.slice fa fn fc)) B2 { s with weak := stw, fin := stf } X := by rw [hB2]; exact hA5
  have hK6 : HKeep w B (w4.setCell ⟨B.hp, 15, none⟩ (.slice fa fn fc)) B2 := by rw [hB2]; exact hK5'.out
  have y14 := (hA3.out.own (i := 14) (v := .slice aa N ac) rfl).calm c4 |>.1
  replace hA6 := hid hA6
  replace hK6 := hid hK6
  replace hp2 := hid hp2
  clear hA3 hK3 hS2 ha hb hab y15' hlt hab2 hfr c4 hA5 hK5 hK5' hB2
  go_wp2_with fail
  clear y1 y2 hf2 y14
  generalize World.setCell w4 _ _ = w5 at *
  have hI0 : DropI w B B2 { s with weak := stw, fin := stf } stw (.slice none 0 0) 0 w5 :=
    ⟨_, [], X, by rw [List.take_zero]; exact .nil, hA6.out, hK6.out, ORow.nil _ _, (fun b h => (InB.nil b h).elim), Nat.zero_le _, (fun q hq => let ⟨i, o, c, h1, h2⟩ := hokw.out q hq; ⟨i, o, ⟨c.lt, c.get⟩, h1, h2⟩), rfl, rfl, rfl, rfl, rfl, rfl⟩
  replace hI0 := hid hI0
  replace hvw2 := hid hvw2
  clear hA6 hokw hK6
  go_loopw [4, 51] (fun v i wr => ∃ k : Nat, k ≤ N ∧ i = .int .i64 k ∧ DropI w B B2 { s with weak := stw, fin := stf } stw v k wr) (fun _ i _ => N - (intOf i).toNat)
  case atStart => exact ⟨0, by omega, rfl, hI0.out⟩
  case round =>
    clear hI0
    obtain ⟨k, hk, rfl, s', ls, X', hW, hA, hK, hv, hn, hll, hok', eo, ew, ef, eu, em, es⟩ := hrel
    have ew : s'.weak = stw := ew
    obtain ⟨va, vn, vc, rfl⟩ := hv.letters
    rcases Nat.lt_or_ge k N with hlt | hge
    · have hkl : k < stw.length := by rw [hN.out]; exact hlt
      have hrw := hA.rw
      rw [ew, hvw2.out] at hrw
      obtain ⟨g, gc, hv', _, hg0, _⟩ := hrw.get (k := k) (by simpa using hkl)
      injection hv' with hv1 hv2 hv3
      subst hv1
      rw [show (nI stw).getD k 0 = ((stw.getD k 0 : Nat) : Int) by simp [List.getD, hkl]] at hg0
      have hmem : stw.getD k 0 ∈ stw := by simp [List.getD, hkl]
      obtain ⟨i, o, c, hwk, hpl⟩ := hok' _ hmem
      have htk := take_succ_getD stw hkl
      clear hrw hv2 hv3 hkl hmem
      generalize stw.getD k 0 = q at *
      have hat := c.at_ hA.rep
      have hp1 := Ob.weak_p hat.ok hwk
      have hlp : o.ps.length = 1 := by rw [hat.ok.lp, hp1]
      have hp2' := hpl.le hA.rep
      have y0 := (hA.own (i := 0) (v := arV B2.ap) rfl).1
      rw [hp2.out] at y0
      have hap := hid (fun W (cw : Calm wr W) => (at_ptr (hA.ar.calm cw) hat (i := 0) (by omega) : Calls Try.prog 62 #[arV B2.ap, .int .i64 q, .int .i64 0] W _))
      have hth := fun W (cw : Calm wr W) => there_is (hA.calm cw) (o.ps.getD 0 0 : Nat) ⟨by omega, by omega⟩
      have hB2e : hpV B2 = hpV B := by unfold hpV; rw [hp2.out]
      rw [hB2e] at hth
      have hls9 : Hid ((nI ls).length ≤ 1000000) := by show (nI ls).length ≤ 1000000; simp; omega
      have hsz := hid (hK.fr.size)
      by_cases hm : o.ps.getD 0 0 ∈ opl s'.old
      · rw [decide_eq_true (mem_nI.2 hm)] at hth
        obtain ⟨j, u, m, d⟩ := OldAt.of_mem hm
        cases m with
        | some t =>
          have hgn : Gone X' (o.ps.getD 0 0) t := by
            have := (hA.rep.half.ol.at j d.lt).2.2.2
            rw [d.get] at this; exact this
          have htc := d.gone_cur hA.rep
          have ht2 := hA.rep.plc_le htc
          have hma := hid (fun W (cw : Calm wr W) => mat_gone W B2.ap B2.ac X' (hA.ar.calm cw) (o.ps.getD 0 0) t hgn)
          have hset := hid (fun W (cw : Calm wr W) => (at_setptr (hA.ar.calm cw) hat (i := 0) (v := t) (by omega) ht2 : Calls Try.prog 59 #[arV B2.ap, .int .i64 q, .int .i64 0, .int .i64 t] W _))
          have hW2 : WeakL { s with weak := stw, fin := stf } (stw.take (k + 1)) (s'.upd i (o.setp true 0 t)) (ls ++ []) := by rw [htk]; exact .snoc hW (.gone c d)
          rw [List.append_nil] at hW2
          have hturn := fun W (cw : Calm wr W) W' (ar : Ar W' B2.ap B2.ac (X'.set (q + 3 + 0) t)) (f : Fr (fun k => k = B2.ac) W W') => (hA.calm cw).turn c ar f (o' := o.setp true 0 t) (by simp) (Has.at_ptr hat (Has.lt (n := o.p) (k := 0) (by omega) (by omega)) ht2) (o.setp_same true 0 t) (fun j hj => by simp only [Ob.size] at hj; rw [getD_set, if_neg (by omega)])
          have hok2 : ∀ q ∈ stw, WeakOk (s'.upd i (o.setp true 0 t)) q := fun x hx => (hok' x hx).set c hwk (.inr (.inl htc)) hlp
          replace hturn := hid hturn
          replace hok2 := hid hok2
          replace hW2 := hid hW2
          replace hth := hid hth
          replace hA := hid hA
          replace hK := hid hK
          replace hv := hid hv
          replace hn := hid hn
          replace ew := hid ew; replace ef := hid ef; replace eu := hid eu; replace em := hid em; replace es := hid es; replace eo := hid eo
          clear hW hok' hm d hgn htc c hat hpl htk hp1 hlp
          generalize o.ps.getD 0 0 = p at *
          go_wp2_with fail
          refine (hap.out _ (Fr.refl _ _)).mono ?_
          rintro e w6 ⟨rfl, c6⟩
          go_wp2_with fail
          refine (hth.out _ c6).mono ?_
          rintro e w7 ⟨rfl, c7⟩
          replace c7 := c6.trans c7
          replace y0 := c7.cellAt y0 id
          clear c6
          go_wp2_with fail
          refine (hma.out _ c7).mono ?_
          rintro e w8 ⟨rfl, rfl⟩
          go_wp2_with fail
          refine (hset.out _ c7).mono ?_
          rintro e w9 ⟨rfl, ar9, f9⟩
          have ht := hid (hturn.out _ c7 _ ar9 f9)
          clear ar9
          go_wp2
          go_roundw
          case rel =>
            refine ⟨k + 1, by omega, by go_num, _, ls, _, hW2.out, ht.out.1, (hK.out.trans (HKeep.calm B2 c7)).trans ht.out.2, (hv.out.calm c7).frB f9 (fun b hb e => hn.out b hb (.inr (.inr (.inl e)))), hn.out, by omega, hok2.out, eo.out, ew.out, ef.out, eu.out, em.out, es.out⟩
          case measure => simp [intOf]; omega
        | none =>
          have hat2 : At X' (o.ps.getD 0 0) u := by
            have := (hA.rep.half.ol.at j d.lt).2.2.2
            rw [d.get] at this; exact this
          have hma := hid (fun W (cw : Calm wr W) => mat_here W B2.ap B2.ac X' (hA.ar.calm cw) (o.ps.getD 0 0) u hat2)
          have hset := hid (fun W (cw : Calm wr W) => (at_setptr (hA.ar.calm cw) hat (i := 0) (v := 0) (by omega) (by omega) : Calls Try.prog 59 #[arV B2.ap, .int .i64 q, .int .i64 0, .int .i64 0] W _))
          have hW2 : WeakL { s with weak := stw, fin := stf } (stw.take (k + 1)) (s'.upd i (o.setp true 0 0)) (ls ++ [o.ser]) := by rw [htk]; exact .snoc hW (.lost c d)
          have hturn := fun W (cw : Calm wr W) W' (ar : Ar W' B2.ap B2.ac (X'.set (q + 3 + 0) 0)) (f : Fr (fun k => k = B2.ac) W W') => (hA.calm cw).turn c ar f (o' := o.setp true 0 0) (by simp) (Has.at_ptr hat (Has.lt (n := o.p) (k := 0) (by omega) (by omega)) (by omega)) (o.setp_same true 0 0) (fun j hj => by simp only [Ob.size] at hj; rw [getD_set, if_neg (by omega)])
          have hok2 : ∀ q ∈ stw, WeakOk (s'.upd i (o.setp true 0 0)) q := fun x hx => (hok' x hx).set c hwk (.inl rfl) hlp
          have hcu : CurAt (s'.upd i (o.setp true 0 0)) i q (o.setp true 0 0) := by have := c.upd (u' := o.setp true 0 0) c; rwa [if_pos rfl] at this
          replace hturn := hid hturn
          replace hok2 := hid hok2
          replace hW2 := hid hW2
          replace hth := hid hth
          replace hA := hid hA
          replace hK := hid hK
          replace hv := hid hv
          replace hn := hid hn
          replace hcu := hid hcu
          replace ew := hid ew; replace ef := hid ef; replace eu := hid eu; replace em := hid em; replace es := hid es; replace eo := hid eo
          clear hW hok' hm d hat2 c hat hpl htk hp1 hlp
          generalize o.ps.getD 0 0 = p at *
          have e2 : Hid (nI (ls ++ [o.ser]) = nI ls ++ [(o.ser : Int)]) := by show nI (ls ++ [o.ser]) = _; simp
          generalize nI ls = L at *
          go_wp2_with fail
          refine (hap.out _ (Fr.refl _ _)).mono ?_
          rintro e w6 ⟨rfl, c6⟩
          go_wp2_with fail
          refine (hth.out _ c6).mono ?_
          rintro e w7 ⟨rfl, c7⟩
          replace c7 := c6.trans c7
          replace y0 := c7.cellAt y0 id
          clear c6
          go_wp2_with fail
          refine (hma.out _ c7).mono ?_
          rintro e w8 ⟨rfl, rfl⟩
          go_wp2_with fail
          refine (hset.out _ c7).mono ?_
          rintro e w9 ⟨rfl, ar9, f9⟩
          have ht := hturn.out _ c7 _ ar9 f9
          have hv9 := (hv.out.calm c7).frB f9 (fun b hb e => hn.out b hb (.inr (.inr (.inl e))))
          have hser := hid (at_serial ht.1.ar (hcu.out.at_ ht.1.rep))
          have y0b := (ht.1.own (i := 0) (v := arV B2.ap) rfl).1
          rw [hp2.out] at y0b
          have hsz9 := Nat.le_trans hsz.out (Nat.le_trans c7.size f9.size)
          replace ht := hid ht
          replace hv9 := hid hv9
          clear ar9 y0
          go_wp2_with fail
          refine (hser.out).mono ?_
          rintro e w10 ⟨rfl, c10⟩
          have hsz10 := hid (Nat.le_trans hsz9 c10.size)
          replace hv9 := hid (hv9.out.calm c10)
          clear hsz9
          go_wp2_with (at_builtin; go_must (refine wpList_app1 rfl _ _ rfl _ _ L hv9.out rfl (o.ser : Int) rfl hls9.out hsz10.out ?_); intro g4 c4 w4 hN4 hF4 hg4; replace hN4 := hid hN4; replace hF4 := hid hF4; replace hg4 := hid hg4)
          go_roundw
          case rel =>
            refine ⟨k + 1, by omega, by go_num, _, _, _, hW2.out, (ht.out.1.calm c10).fr hF4.out (fun b h1 h2 => hn.out b h2 h1), (((hK.out.trans (HKeep.calm B2 c7)).trans ht.out.2).trans (HKeep.calm B2 c10)).far hF4.out (fun b h1 h2 => by have := (hv.out.lt h2).1; omega), by rw [e2.out]; exact hN4.out, fun b h1 h2 => ?_, by simp; omega, hok2.out, eo.out, ew.out, ef.out, eu.out, em.out, es.out⟩
            have := InB.mk1 h1
            subst this
            exact hg4.out.elim (fun h => hn.out _ h h2) (fun h => by have := (ht.out.1.calm c10).lt _ h2; omega)
          case measure => simp [intOf]; omega
      · rw [decide_eq_false (fun e => hm (mem_nI.1 e))] at hth
        have hW2 : WeakL { s with weak := stw, fin := stf } (stw.take (k + 1)) s' (ls ++ []) := by rw [htk]; exact .snoc hW (.stay c hm)
        rw [List.append_nil] at hW2
        replace hW2 := hid hW2
        replace hth := hid hth
        replace hA := hid hA
        replace hK := hid hK
        replace hv := hid hv
        replace hn := hid hn
        replace hok' := hid hok'
        replace ew := hid ew; replace ef := hid ef; replace eu := hid eu; replace em := hid em; replace es := hid es; replace eo := hid eo
        clear hW hm c hat hpl htk hp1 hlp
        generalize o.ps.getD 0 0 = p at *
        go_wp2_with fail
        refine (hap.out _ (Fr.refl _ _)).mono ?_
        rintro e w6 ⟨rfl, c6⟩
        go_wp2_with fail
        refine (hth.out _ c6).mono ?_
        rintro e w7 ⟨rfl, c7⟩
        replace c7 := c6.trans c7
        go_wp2
        go_roundw
        case rel =>
          refine ⟨k + 1, by omega, by go_num, _, ls, _, hW2.out, hA.out.calm c7, hK.out.trans (HKeep.calm B2 c7), hv.out.calm c7, hn.out, by omega, hok'.out, eo.out, ew.out, ef.out, eu.out, em.out, es.out⟩
        case measure => simp [intOf]; omega
    · obtain rfl : k = N := by omega
      rw [List.take_of_length_le (by rw [hN.out]; exact Nat.le_refl _)] at hW
      have hok := okP_old hA.rep
      have hpe := hp2.out
      have hc := hA.cs
      rw [hpe] at hc
      have bs := base_sep s'
      replace hA := hid hA
      replace hK := hid hK
      replace hv := hid hv
      replace hn := hid hn
      replace hW := hid hW
      clear hok' eo ew ef eu em es hvw2
      cases hu : s'.u
      · have eb : ((s'.base (!s'.u) : Nat) : Int) = 1 + s'.n := by rw [(bs.2 hu).2]; push_cast; rfl
        rw [eb] at hok
        have hem := hid (fun W => empty_any (1 + s'.n) s'.n (s'.otop : Nat) W hok)
        simp only [hcells, hu, cond_true, cond_false] at hc
        clear hok bs eb
        generalize hT : ((s'.top : Nat) : Int) = T at hc
        generalize hO : ((s'.otop : Nat) : Int) = OT at hc hem
        generalize hD : ((owed s'.old : Nat) : Int) = OW at hc
        generalize hSC : ((s'.scan : Nat) : Int) = SC at hc
        generalize hSE : ((s'.ser : Nat) : Int) = SE at hc
        replace hT := hid hT
        replace hSC := hid hSC
        replace hSE := hid hSE
        clear hD hO
        have y9 := (hc 9 _ rfl).1
        replace hc := hid hc
        go_wp2_with fail
        have q1 : ∀ x : Later wr, x.w.cell? ⟨B.hp, 4, none⟩ = some (.int .i64 (1 + s'.n)) := fun x => x.cell (hc.out 4 _ rfl).1
        have q2 : ∀ x : Later wr, x.w.cell? ⟨B.hp, 5, none⟩ = some (.int .i64 s'.n) := fun x => x.cell (hc.out 5 _ rfl).1
        have q3 : ∀ x : Later wr, x.w.cell? ⟨B.hp, 6, none⟩ = some (.int .i64 OT) := fun x => x.cell (hc.out 6 _ rfl).1
        refine wp_region_calm_tail 12 (by kernel_rfl) (by kernel_rfl) ?_
        simp only [List.take_succ_cons, List.take_zero, List.drop_succ_cons, List.drop_zero]
        repeat (go_big_quiet_step ((go_at_call 53; exact Calls.calm_of (hem.out _))))
        refine wpQuiet_nil ?_
        intro W2 hw'
        have c2 := Later.out hw'
        clear hw' q1 q2 q3 hem y9
        have H1 := hc.out.calm c2
        have u1 := (H1 4 _ rfl).1
        have u2 := (H1 5 _ rfl).1
        have u3 := (H1 6 _ rfl).1
        have v1 := (H1 4 _ rfl).2
        have v2 := (H1 5 _ rfl).2
        have v3 := (H1 6 _ rfl).2
        have u4 := (H1 8 _ rfl).1
        have v4 := (H1 8 _ rfl).2
        have u5 := (H1 10 _ rfl).1
        have v5 := (H1 10 _ rfl).2
        have u6 := (H1 11 _ rfl).1
        have v6 := (H1 11 _ rfl).2
        replace H1 := hid H1
        clear hc
        go_wp2
        go_ret2
        have f2 : Fr (fun k => k = B.hp) wr W2 := Calm.any c2
        have f3 := (((((f2.setCell (p := ⟨B.hp, 4, none⟩) (.inl rfl) (.int .i64 (1 + s'.n))).setCell (p := ⟨B.hp, 5, none⟩) (.inl rfl) (.int .i64 s'.n)).setCell (p := ⟨B.hp, 6, none⟩) (.inl rfl) (.int .i64 (1 + s'.n))).setCell (p := ⟨B.hp, 8, none⟩) (.inl rfl) (.slice none 0 0)).setCell (p := ⟨B.hp, 10, none⟩) (.inl rfl) (.bool false)).setCell (p := ⟨B.hp, 11, none⟩) (.inl rfl) (.int .i64 0)
        have H3 := (((((H1.out.set 4 (.int .i64 (1 + s'.n)) (by simp)).set 5 (.int .i64 s'.n) (by simp)).set 6 (.int .i64 (1 + s'.n)) (by simp)).set 8 (.slice none 0 0) (by simp)).set 10 (.bool false) (by simp)).set 11 (.int .i64 0) (by simp)
        simp only [List.set_cons_zero, List.set_cons_succ] at H3
        generalize World.setCell _ _ _ = W3 at *
        have hD := hA.out.dropped_0 hu (by rw [hpe]; exact f3) (by rw [hpe, hT.out, hSC.out, hSE.out]; exact H3)
        have hnn := hn.out
        refine ⟨stw, stf, lf, lf2, s', ls, _, hS.out, hS2'.out, hW.out, rfl, hv.out.frB f3 (fun b h1 (h2 : b = B.hp) => hnn b h1 (.inl (h2.trans hpe.symm))), _, X', hD.1, hK.out.trans hD.2⟩
      · have eb : ((s'.base (!s'.u) : Nat) : Int) = 1 := by rw [(bs.1 hu).2]; rfl
        rw [eb] at hok
        have hem := hid (fun W => empty_any (1) s'.n (s'.otop : Nat) W hok)
        simp only [hcells, hu, cond_true, cond_false] at hc
        clear hok bs eb
        generalize hT : ((s'.top : Nat) : Int) = T at hc
        generalize hO : ((s'.otop : Nat) : Int) = OT at hc hem
        generalize hD : ((owed s'.old : Nat) : Int) = OW at hc
        generalize hSC : ((s'.scan : Nat) : Int) = SC at hc
        generalize hSE : ((s'.ser : Nat) : Int) = SE at hc
        replace hT := hid hT
        replace hSC := hid hSC
        replace hSE := hid hSE
        clear hD hO
        have y9 := (hc 9 _ rfl).1
        replace hc := hid hc
        go_wp2_with fail
        have q1 : ∀ x : Later wr, x.w.cell? ⟨B.hp, 1, none⟩ = some (.int .i64 1) := fun x => x.cell (hc.out 1 _ rfl).1
        have q2 : ∀ x : Later wr, x.w.cell? ⟨B.hp, 2, none⟩ = some (.int .i64 s'.n) := fun x => x.cell (hc.out 2 _ rfl).1
        have q3 : ∀ x : Later wr, x.w.cell? ⟨B.hp, 3, none⟩ = some (.int .i64 OT) := fun x => x.cell (hc.out 3 _ rfl).1
        refine wp_region_calm_tail 12 (by kernel_rfl) (by kernel_rfl) ?_
        simp only [List.take_succ_cons, List.take_zero, List.drop_succ_cons, List.drop_zero]
        repeat (go_big_quiet_step ((go_at_call 53; exact Calls.calm_of (hem.out _))))
        refine wpQuiet_nil ?_
        intro W2 hw'
        have c2 := Later.out hw'
        clear hw' q1 q2 q3 hem y9
        have H1 := hc.out.calm c2
        have u1 := (H1 1 _ rfl).1
        have u2 := (H1 2 _ rfl).1
        have u3 := (H1 3 _ rfl).1
        have v1 := (H1 1 _ rfl).2
        have v2 := (H1 2 _ rfl).2
        have v3 := (H1 3 _ rfl).2
        have u4 := (H1 7 _ rfl).1
        have v4 := (H1 7 _ rfl).2
        have u5 := (H1 10 _ rfl).1
        have v5 := (H1 10 _ rfl).2
        have u6 := (H1 11 _ rfl).1
        have v6 := (H1 11 _ rfl).2
        replace H1 := hid H1
        clear hc
        go_wp2
        go_ret2
        have f2 : Fr (fun k => k = B.hp) wr W2 := Calm.any c2
        have f3 := (((((f2.setCell (p := ⟨B.hp, 1, none⟩) (.inl rfl) (.int .i64 1)).setCell (p := ⟨B.hp, 2, none⟩) (.inl rfl) (.int .i64 s'.n)).setCell (p := ⟨B.hp, 3, none⟩) (.inl rfl) (.int .i64 1)).setCell (p := ⟨B.hp, 7, none⟩) (.inl rfl) (.slice none 0 0)).setCell (p := ⟨B.hp, 10, none⟩) (.inl rfl) (.bool false)).setCell (p := ⟨B.hp, 11, none⟩) (.inl rfl) (.int .i64 0)
        have H3 := (((((H1.out.set 1 (.int .i64 1) (by simp)).set 2 (.int .i64 s'.n) (by simp)).set 3 (.int .i64 1) (by simp)).set 7 (.slice none 0 0) (by simp)).set 10 (.bool false) (by simp)).set 11 (.int .i64 0) (by simp)
        simp only [List.set_cons_zero, List.set_cons_succ] at H3
        generalize World.setCell _ _ _ = W3 at *
        have hD := hA.out.dropped_1 hu (by rw [hpe]; exact f3) (by rw [hpe, hT.out, hSC.out, hSE.out]; exact H3)
        have hnn := hn.out
        refine ⟨stw, stf, lf, lf2, s', ls, _, hS.out, hS2'.out, hW.out, rfl, hv.out.frB f3 (fun b h1 (h2 : b = B.hp) => hnn b h1 (.inl (h2.trans hpe.symm))), _, X', hD.1, hK.out.trans hD.2⟩

end Go.Proofs.Ytiomemdmhcdpbaa
