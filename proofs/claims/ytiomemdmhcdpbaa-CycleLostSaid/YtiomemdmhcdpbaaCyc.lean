/- Package cycle: a collection step by step, in memory. -/
import Derived.Test.YtiomemdmhcdpbaaHeapF
import Derived.Test.YtiomemdmhcdpbaaCome
set_option linter.unusedSimpArgs false
set_option linter.unusedVariables false
namespace Go.Proofs.Ytiomemdmhcdpbaa
open Go.RowKit Go.Shelf

theorem run_eqIn_nf (d : Nat) (W : World) : (Op.equalIn (d + 1) 24 .nilFunc .nilFunc).run Try.prog W = .ok true W := by
  simp [Op.equalIn, run_underlying Try.underlying24]
theorem run_eqIn_fn (d : Nat) (f : Fn) (a c : Array Value) (W : World) : (Op.equalIn (d + 1) 24 (.func f a c) .nilFunc).run Try.prog W = .ok false W := by
  simp [Op.equalIn, run_underlying Try.underlying24]
theorem run_eq_nf (W : World) : (Op.equal 24 .nilFunc .nilFunc).run Try.prog W = .ok true W := run_eqIn_nf 9999 W
theorem run_eq_fn (f : Fn) (a c : Array Value) (W : World) : (Op.equal 24 (.func f a c) .nilFunc).run Try.prog W = .ok false W := run_eqIn_fn 9999 f a c W
theorem run_nf_nf (W : World) : (binOp .neq 24 .nilFunc .nilFunc).run Try.prog W = .ok (.bool false) W := by
  simp only [binOp]
  simp [run_eq_nf]
theorem run_fn_nf (f : Fn) (a c : Array Value) (W : World) : (binOp .neq 24 (.func f a c) .nilFunc).run Try.prog W = .ok (.bool true) W := by
  simp only [binOp]
  simp [run_eq_fn]
theorem run_store_fv (P : Program) (w : World) (a : Addr) (m : Mode) (f : Fn) (x y : Array Value) : (store a (.func f x y) m).run P w = stored P w a (.func f x y) m := run_store P w a _ m rfl
theorem run_store_nf (P : Program) (w : World) (a : Addr) (m : Mode) : (store a .nilFunc m).run P w = stored P w a .nilFunc m := run_store P w a _ m rfl
attribute [local go_sem] run_nf_nf run_fn_nf run_store_fv run_store_nf
abbrev pV (c : Nat) : Value := .pointer (some ⟨c, 0, none⟩)
/-- What a step does behind all scans. -/
def phV (c : Nat) : Nat → Value
  | 0 => .nilFunc
  | 1 => .func (.func 60) #[pV c] #[]
  | _ => .func (.func 93) #[pV c] #[]
/-- A cycle: its heap, what is next, what is ready, what is lost. -/
structure CyAt (w : World) (b1 c hp ph : Nat) (rv lv : Value) (rd ls : List Nat) : Prop where
  cs : OwnL w c [pV hp, phV c ph, rv, lv]
  r : ORow w b1 rv (nI rd)
  l : ORow w b1 lv (nI ls)
  rc : ¬ InB rv c
  lc : ¬ InB lv c
  rl : ∀ b, InB rv b → ¬ InB lv b
  lo : b1 ≤ c
def CyB (c : Nat) (rv lv : Value) (k : Nat) : Prop := k = c ∨ InB rv k ∨ InB lv k
theorem CyAt.fr {S : Nat → Prop} {w w' : World} {b1 c hp ph : Nat} {rv lv : Value} {rd ls : List Nat} (h : CyAt w b1 c hp ph rv lv rd ls) (f : Fr S w w') (hs : ∀ k, CyB c rv lv k → ¬ S k) : CyAt w' b1 c hp ph rv lv rd ls :=
  ⟨h.cs.fr f (hs c (.inl rfl)), h.r.frB f (fun b hb => hs b (.inr (.inl hb))), h.l.frB f (fun b hb => hs b (.inr (.inr hb))), h.rc, h.lc, h.rl, h.lo⟩
theorem CyAt.calm {w w' : World} {b1 c hp ph : Nat} {rv lv : Value} {rd ls : List Nat} (h : CyAt w b1 c hp ph rv lv rd ls) (f : Calm w w') : CyAt w' b1 c hp ph rv lv rd ls := h.fr f (fun _ _ => id)
theorem CyAt.lt {w : World} {b1 c hp ph : Nat} {rv lv : Value} {rd ls : List Nat} (h : CyAt w b1 c hp ph rv lv rd ls) : ∀ k, CyB c rv lv k → k < w.heap.size ∧ b1 ≤ k := by
  rintro k (rfl | hk | hk)
  · exact ⟨h.cs.lt (by simp), h.lo⟩
  · exact ⟨(h.r.lt hk).2, (h.r.lt hk).1⟩
  · exact ⟨(h.l.lt hk).2, (h.l.lt hk).1⟩
theorem CyAt.c0 {w : World} {b1 c hp ph : Nat} {rv lv : Value} {rd ls : List Nat} (h : CyAt w b1 c hp ph rv lv rd ls) : w.cell? ⟨c, 0, none⟩ = some (pV hp) := (h.cs 0 _ rfl).1
theorem CyAt.c1 {w : World} {b1 c hp ph : Nat} {rv lv : Value} {rd ls : List Nat} (h : CyAt w b1 c hp ph rv lv rd ls) : Own w c 1 (phV c ph) := h.cs 1 _ rfl
theorem CyAt.c2 {w : World} {b1 c hp ph : Nat} {rv lv : Value} {rd ls : List Nat} (h : CyAt w b1 c hp ph rv lv rd ls) : Own w c 2 rv := h.cs 2 _ rfl
theorem CyAt.c3 {w : World} {b1 c hp ph : Nat} {rv lv : Value} {rd ls : List Nat} (h : CyAt w b1 c hp ph rv lv rd ls) : Own w c 3 lv := h.cs 3 _ rfl
/-- The phase set. -/
theorem CyAt.setPh {w : World} {b1 c hp ph : Nat} {rv lv : Value} {rd ls : List Nat} (h : CyAt w b1 c hp ph rv lv rd ls) (ph' : Nat) : CyAt (w.setCell ⟨c, 1, none⟩ (phV c ph')) b1 c hp ph' rv lv rd ls := by
  have f : Fr (fun k => k = c) w (w.setCell ⟨c, 1, none⟩ (phV c ph')) := (Fr.refl (fun k => k = c) w).setCell (p := ⟨c, 1, none⟩) (.inl rfl) _
  exact ⟨h.cs.set 1 _ (by simp), h.r.frB f (fun b hb (e : b = c) => h.rc (e ▸ hb)), h.l.frB f (fun b hb (e : b = c) => h.lc (e ▸ hb)), h.rc, h.lc, h.rl, h.lo⟩
/-- What is ready set. -/
theorem CyAt.setR {w w1 : World} {b1 c hp ph : Nat} {rv rv' lv : Value} {rd rd' ls : List Nat} (h : CyAt w b1 c hp ph rv lv rd ls) (f1 : Fr (fun k => InB rv k) w w1) (hr : ORow w1 b1 rv' (nI rd')) (hn : ∀ b, InB rv' b → InB rv b ∨ w.heap.size ≤ b) : CyAt (w1.setCell ⟨c, 2, none⟩ rv') b1 c hp ph rv' lv rd' ls := by
  have f : Fr (fun k => k = c) w1 (w1.setCell ⟨c, 2, none⟩ rv') := (Fr.refl (fun k => k = c) w1).setCell (p := ⟨c, 2, none⟩) (.inl rfl) _
  have hlt := h.lt
  have e1 : ∀ b, InB rv' b → b ≠ c ∧ ¬ InB lv b := fun b hb => by
    rcases hn b hb with h1 | h1
    · exact ⟨fun e => h.rc (e ▸ h1), h.rl b h1⟩
    · exact ⟨fun e => by have := (hlt c (.inl rfl)).1; omega, fun e => by have := (hlt b (.inr (.inr e))).1; omega⟩
  exact ⟨(h.cs.fr f1 h.rc).set 2 _ (by simp), hr.frB f (fun b hb => (e1 b hb).1), (h.l.frB f1 (fun b hb e => h.rl b e hb)).frB f (fun b hb (e : b = c) => h.lc (e ▸ hb)), fun e => (e1 c e).1 rfl, h.lc, fun b hb => (e1 b hb).2, h.lo⟩
theorem CyAt.setR' {w : World} {b1 c hp ph : Nat} {rv rv' lv : Value} {rd rd' ls : List Nat} (h : CyAt w b1 c hp ph rv lv rd ls) (hr : ORow w b1 rv' (nI rd')) (e1 : ∀ b, InB rv' b → b ≠ c ∧ ¬ InB lv b) : CyAt (w.setCell ⟨c, 2, none⟩ rv') b1 c hp ph rv' lv rd' ls := by
  have f : Fr (fun k => k = c) w (w.setCell ⟨c, 2, none⟩ rv') := (Fr.refl (fun k => k = c) w).setCell (p := ⟨c, 2, none⟩) (.inl rfl) _
  exact ⟨h.cs.set 2 _ (by simp), hr.frB f (fun b hb => (e1 b hb).1), h.l.frB f (fun b hb (e : b = c) => h.lc (e ▸ hb)), fun e => (e1 c e).1 rfl, h.lc, fun b hb => (e1 b hb).2, h.lo⟩
/-- What is lost set. -/
theorem CyAt.setL {w w1 : World} {b1 c hp ph : Nat} {rv lv lv' : Value} {rd ls ls' : List Nat} (h : CyAt w b1 c hp ph rv lv rd ls) (f1 : Fr (fun k => InB lv k) w w1) (hr : ORow w1 b1 lv' (nI ls')) (hn : ∀ b, InB lv' b → InB lv b ∨ w.heap.size ≤ b) : CyAt (w1.setCell ⟨c, 3, none⟩ lv') b1 c hp ph rv lv' rd ls' := by
  have f : Fr (fun k => k = c) w1 (w1.setCell ⟨c, 3, none⟩ lv') := (Fr.refl (fun k => k = c) w1).setCell (p := ⟨c, 3, none⟩) (.inl rfl) _
  have hlt := h.lt
  have e1 : ∀ b, InB lv' b → b ≠ c ∧ ¬ InB rv b := fun b hb => by
    rcases hn b hb with h1 | h1
    · exact ⟨fun e => h.lc (e ▸ h1), fun e => h.rl b e h1⟩
    · exact ⟨fun e => by have := (hlt c (.inl rfl)).1; omega, fun e => by have := (hlt b (.inr (.inl e))).1; omega⟩
  exact ⟨(h.cs.fr f1 h.lc).set 3 _ (by simp), (h.r.frB f1 (fun b hb e => h.rl b hb e)).frB f (fun b hb (e : b = c) => h.rc (e ▸ hb)), hr.frB f (fun b hb => (e1 b hb).1), h.rc, fun e => (e1 c e).1 rfl, fun b hb e => (e1 b e).2 hb, h.lo⟩

/-- A cycle and its heap. -/
structure CH (w : World) (b1 c : Nat) (BA : HB) (A : HS) (XA : List Nat) (ph : Nat) (rv lv : Value) (rd ls : List Nat) : Prop where
  ha : HAt w BA A XA
  cy : CyAt w b1 c BA.hp ph rv lv rd ls
  ap : ∀ k, CyB c rv lv k → ¬ HBlk BA k
theorem CH.calm {w w' : World} {b1 c : Nat} {BA : HB} {A : HS} {XA : List Nat} {ph : Nat} {rv lv : Value} {rd ls : List Nat} (h : CH w b1 c BA A XA ph rv lv rd ls) (f : Calm w w') : CH w' b1 c BA A XA ph rv lv rd ls := ⟨h.ha.calm f, h.cy.calm f, h.ap⟩
theorem CH.stepA {w w' : World} {b1 c : Nat} {BA BA' : HB} {A A' : HS} {XA XA' : List Nat} {ph : Nat} {rv lv : Value} {rd ls : List Nat} (h : CH w b1 c BA A XA ph rv lv rd ls) (hA : HAt w' BA' A' XA') (hK : HKeep w BA w' BA') : CH w' b1 c BA' A' XA' ph rv lv rd ls := by
  refine ⟨hA, by rw [hK.hp]; exact h.cy.fr hK.fr (fun k hk => h.ap k hk), fun k hk e => ?_⟩
  rcases hK.new k e with h1 | h1
  · exact h.ap k hk h1
  · have := (h.cy.lt k hk).1; omega
/-- What stays. -/
structure CKeep (w : World) (c : Nat) (rv lv : Value) (BA : HB) (w' : World) (rv' lv' : Value) (BA' : HB) : Prop where
  fr : Fr (fun k => CyB c rv lv k ∨ HBlk BA k) w w'
  new : ∀ k, HBlk BA' k → HBlk BA k ∨ w.heap.size ≤ k
  cnew : ∀ k, CyB c rv' lv' k → CyB c rv lv k ∨ w.heap.size ≤ k
  hp : BA'.hp = BA.hp
theorem CKeep.refl (w : World) (c : Nat) (rv lv : Value) (BA : HB) : CKeep w c rv lv BA w rv lv BA := ⟨Fr.refl _ _, fun _ h => .inl h, fun _ h => .inl h, rfl⟩
theorem CKeep.calm {w w' : World} {c : Nat} {rv lv : Value} {BA : HB} (f : Calm w w') : CKeep w c rv lv BA w' rv lv BA := ⟨f.any, fun _ h => .inl h, fun _ h => .inl h, rfl⟩
theorem CKeep.stepA {w w' : World} {c : Nat} {rv lv : Value} {BA BA' : HB} (h : HKeep w BA w' BA') : CKeep w c rv lv BA w' rv lv BA' := ⟨h.fr.mono (fun _ _ e => .inr e), h.new, fun _ h => .inl h, h.hp⟩
theorem CKeep.trans {w w1 w2 : World} {c : Nat} {rv lv rv1 lv1 rv2 lv2 : Value} {BA BA1 BA2 : HB} (h : CKeep w c rv lv BA w1 rv1 lv1 BA1) (k : CKeep w1 c rv1 lv1 BA1 w2 rv2 lv2 BA2) : CKeep w c rv lv BA w2 rv2 lv2 BA2 := by
  have hs := h.fr.size
  refine ⟨h.fr.join k.fr (fun j hj e => ?_), fun j hj => ?_, fun j hj => ?_, k.hp.trans h.hp⟩
  · rcases e with e | e
    · exact .inl ((h.cnew j e).resolve_right (by omega))
    · exact .inr ((h.new j e).resolve_right (by omega))
  · rcases k.new j hj with h1 | h1
    · exact h.new j h1
    · right; omega
  · rcases k.cnew j hj with h1 | h1
    · exact h.cnew j h1
    · right; omega
theorem CKeep.cells {w w' : World} {c : Nat} {rv lv rv' lv' : Value} {BA : HB} (f : Fr (fun k => CyB c rv lv k) w w') (hn : ∀ k, CyB c rv' lv' k → CyB c rv lv k ∨ w.heap.size ≤ k) : CKeep w c rv lv BA w' rv' lv' BA :=
  ⟨f.mono (fun _ _ e => .inl e), fun _ h => .inl h, hn, rfl⟩

set_option maxHeartbeats 1000000 in
theorem cnew_yes (w : World) (hp : Nat) : Calls Try.prog 20 #[pV hp] w fun e w' => e = .returned (pV w.heap.size) ∧ CyAt w' w.heap.size w.heap.size hp 0 (.slice none 0 0) (.slice none 0 0) [] [] ∧ Calm w w' := by
  go_enter Try.func20, Try.ntmps20
  go_wp2
  go_ret
  exact ⟨rfl, ⟨OwnL.new w [pV hp, .nilFunc, .slice none 0 0, .slice none 0 0] _, ORow.nil _ _, ORow.nil _ _, InB.nil _, InB.nil _, fun b hb => (InB.nil b hb).elim, Nat.le_refl _⟩, (Fr.refl _ _).alloc _⟩
theorem cnew_nil (w : World) : Calls Try.prog 20 #[.pointer none] w fun e w' => e = .returned (.pointer none) ∧ w = w' := by
  go_enter Try.func20, Try.ntmps20
  go_wp2
  go_ret
  exact ⟨rfl, rfl⟩
section
variable {w : World} {b1 c hp ph : Nat} {rv lv : Value} {rd ls : List Nat}
set_option maxHeartbeats 1000000 in
theorem live_is (h : CyAt w b1 c hp ph rv lv rd ls) : Calls Try.prog 57 #[pV c] w fun e w' => e = .returned (.bool (decide (ph ≠ 0))) ∧ w = w' := by
  have h1 := h.c1.1
  clear h
  revert h1
  match ph with
  | 0 =>
    intro h1
    unfold phV at h1
    go_enter Try.func57, Try.ntmps57
    go_wp2
    go_ret
    exact ⟨rfl, rfl⟩
  | 1 =>
    intro h1
    unfold phV at h1
    go_enter Try.func57, Try.ntmps57
    go_wp2
    go_ret
    exact ⟨rfl, rfl⟩
  | n + 2 =>
    intro h1
    unfold phV at h1
    go_enter Try.func57, Try.ntmps57
    go_wp2
    go_ret
    exact ⟨by simp, rfl⟩
set_option maxHeartbeats 1000000 in
/-- What is ready, told. -/
theorem ready_is (h : CyAt w b1 c hp ph rv lv rd ls) : Calls Try.prog 30 #[pV c] w fun e w' => e = .returned rv ∧ CyAt w' b1 c hp ph (.slice none 0 0) lv [] ls ∧ ORow w' b1 rv (nI rd) ∧ Fr (fun k => k = c) w w' := by
  have z0 := h.c2.1
  have z1 := h.c2.2
  have hy := hid (h.setR (Fr.refl _ _) (ORow.nil w b1) (rd' := []) (fun b hb => (InB.nil b hb).elim))
  have hr : Hid (ORow (w.setCell ⟨c, 2, none⟩ (.slice none 0 0)) b1 rv (nI rd)) := h.r.frB ((Fr.refl (fun k => k = c) w).setCell (p := ⟨c, 2, none⟩) (.inl rfl) _) (fun b hb (e : b = c) => h.rc (e ▸ hb))
  obtain ⟨ra, rn, rc, rfl⟩ := h.r.letters
  clear h
  go_enter Try.func30, Try.ntmps30
  go_wp2
  go_ret
  exact ⟨rfl, hy.out, hr.out, (Fr.refl (fun k => k = c) w).setCell (p := ⟨c, 2, none⟩) (.inl rfl) _⟩
set_option maxHeartbeats 1000000 in
/-- What is lost, told. -/
theorem lost_is (h : CyAt w b1 c hp ph rv lv rd ls) : Calls Try.prog 25 #[pV c] w fun e w' => e = .returned lv ∧ CyAt w' b1 c hp ph rv (.slice none 0 0) rd [] ∧ ORow w' b1 lv (nI ls) ∧ Fr (fun k => k = c) w w' := by
  have z0 := h.c3.1
  have z1 := h.c3.2
  have hy := hid (h.setL (Fr.refl _ _) (ORow.nil w b1) (ls' := []) (fun b hb => (InB.nil b hb).elim))
  have hr : Hid (ORow (w.setCell ⟨c, 3, none⟩ (.slice none 0 0)) b1 lv (nI ls)) := h.l.frB ((Fr.refl (fun k => k = c) w).setCell (p := ⟨c, 3, none⟩) (.inl rfl) _) (fun b hb (e : b = c) => h.lc (e ▸ hb))
  obtain ⟨ra, rn, rc, rfl⟩ := h.l.letters
  clear h
  go_enter Try.func25, Try.ntmps25
  go_wp2
  go_ret
  exact ⟨rfl, hy.out, hr.out, (Fr.refl (fun k => k = c) w).setCell (p := ⟨c, 3, none⟩) (.inl rfl) _⟩
end

/-- Places moved, one behind the other. -/
def MvdI (w : World) (A : HS) (BA : HB) (l : List Nat) (v : Value) (k : Nat) (wr : World) : Prop :=
  ∃ A1 l1 BA1 XA1, GoesL A (l.take k) A1 l1 ∧ HAt wr BA1 A1 XA1 ∧ HKeep w BA wr BA1 ∧ ORow wr w.heap.size v (nI l1) ∧ ∀ b, InB v b → ¬ HBlk BA1 b
def MvdPost (w : World) (A : HS) (BA : HB) (l : List Nat) (e : Ending) (w' : World) : Prop :=
  ∃ u A1 l1 BA1 XA1, e = .returned u ∧ GoesL A l A1 l1 ∧ HAt w' BA1 A1 XA1 ∧ HKeep w BA w' BA1 ∧ ORow w' w.heap.size u (nI l1) ∧ ∀ b, InB u b → ¬ HBlk BA1 b

set_option maxRecDepth 4000 in
set_option maxHeartbeats 4000000 in
theorem cmoved_is {w : World} {c : Nat} {BA : HB} {A : HS} {XA : List Nat} (h : HAt w BA A XA) (hc : w.cell? ⟨c, 0, none⟩ = some (hpV BA)) (hcB : ¬ HBlk BA c) {v : Value} {l : List Nat} (hrow : ∀ W, Fr (HBlk BA) w W → Row W v (iVs (nI l))) (hl : ∀ p ∈ l, p ≤ 131072) (hlen : l.length ≤ 100000) :
    Calls Try.prog 61 #[pV c, v] w (MvdPost w A BA l) := by
  obtain ⟨N, hN⟩ : ∃ N, l.length = N := ⟨_, rfl⟩
  obtain ⟨va, vc, hv, hg0⟩ := (hrow w (Fr.refl _ _)).loop
  replace hv : v = .slice va N vc := by rw [hv]; simp [hN]
  subst hv
  rw [hN] at hlen
  have hclt : c < w.heap.size := by
    rcases Nat.lt_or_ge c w.heap.size with h1 | h1
    · exact h1
    · simp [World.cell?, Array.getElem?_eq_none h1] at hc
  have hI0 : Hid (MvdI w A BA l (.slice none 0 0) 0 w) := ⟨A, [], BA, XA, by rw [List.take_zero]; exact .nil, h, HKeep.refl _ _, ORow.nil _ _, fun b hb => (InB.nil b hb).elim⟩
  replace hrow := hid hrow
  replace hl := hid hl
  replace hN := hid hN
  have hcc := hid hc
  clear h hg0 hc
  go_enter Try.func61, Try.ntmps61
  go_wp2_with fail
  go_loopw [5, 10] (fun x i wr => ∃ k : Nat, k ≤ N ∧ i = .int .i64 k ∧ MvdI w A BA l x k wr) (fun _ i _ => N - (intOf i).toNat)
  case atStart => exact ⟨0, by omega, rfl, hI0.out⟩
  case round =>
    clear hI0
    obtain ⟨k, hk, rfl, A1, l1, BA1, XA1, hg, hA, hK, hr, hap⟩ := hrel
    rename_i xv _
    obtain ⟨xa, xn, xc, rfl⟩ := hr.letters
    rcases Nat.lt_or_ge k N with hlt | hge
    · have hkl : k < l.length := by rw [hN.out]; exact hlt
      have hl1 : l1.length = k := by rw [hg.len, List.length_take]; omega
      obtain ⟨ra, rc, hrv, hrk⟩ := (hrow.out wr hK.fr).loop
      injection hrv with e1 e2 e3
      subst e1
      obtain ⟨b, off, rfl, -, hcell⟩ := hrk k (by simpa using hkl)
      rw [show (nI l).getD k 0 = ((l.getD k 0 : Nat) : Int) by simp [List.getD, hkl]] at hcell
      have hc0 := hK.fr.cellAt hcc.out hcB
      have hpk : l.getD k 0 ≤ 131072 := hl.out _ (by simp [List.getD, hkl])
      have hmo := hmoved hA hpk
      rw [show hpV BA1 = hpV BA by unfold hpV; rw [hK.hp]] at hmo
      have hsz := hK.fr.size
      have hst : Hid (∀ (W : World) (A2 : HS) (q : Nat) (g2 : Goes A1 (l.getD k 0) A2 q) (B2 : HB) (X2 : List Nat), HAt W B2 A2 X2 → HKeep wr BA1 W B2 → ORow W w.heap.size (.slice xa xn xc) (nI l1) ∧ (∀ (g gc : Nat) (W2 : World), ORow W2 w.heap.size (.slice (some ⟨g, 0, none⟩) ((nI l1).length + 1) gc) (nI l1 ++ [((q : Nat) : Int)]) → Fr (InB (.slice xa xn xc)) W W2 → (InB (.slice xa xn xc) g ∨ W.heap.size ≤ g) → MvdI w A BA l (.slice (some ⟨g, 0, none⟩) ((nI l1).length + 1) gc) (k + 1) W2)) := fun W A2 q g2 B2 X2 h2 k2 => by
        have hr2 := hr.frB k2.fr (fun b hb => hap b hb)
        have hnb : ∀ b, InB (.slice xa xn xc) b → ¬ HBlk B2 b := fun b hb e => by
          rcases k2.new b e with h3 | h3
          · exact hap b hb h3
          · have := (hr.lt hb).2; omega
        refine ⟨hr2, fun g gc W2 hr3 f3 hg3 => ⟨A2, l1 ++ [q], B2, X2, ?_, h2.fr f3 (fun b hb e => hnb b e hb), (hK.trans k2).far f3 (fun j hj e => by have := (hr.lt e).1; omega), by simpa using hr3, fun b hb => ?_⟩⟩
        · rw [take_succ_getD l hkl]; exact .snoc hg g2
        · have := InB.mk1 hb
          subst this
          rcases hg3 with h3 | h3
          · exact hnb b h3
          · intro e; have := h2.lt b e; omega
      have hln1 : Hid (l1.length = k) := hl1
      replace hmo := hid hmo
      clear hg hA hK hr hap hl1 hrk hpk e2 e3
      generalize l.getD k 0 = p at *
      have hlk : (nI l1).length ≤ 1000000 := by rw [show (nI l1).length = l1.length by simp]; have := hln1.out; omega
      go_wp2_with fail
      refine (hmo.out).mono ?_
      rintro e w4 ⟨A2, q, g2, rfl, B2, X2, h2, k2⟩
      obtain ⟨hr2, hst2⟩ := hst.out w4 A2 q g2 B2 X2 h2 k2
      have hb4 : w.heap.size ≤ w4.heap.size := by have := k2.fr.size; omega
      replace hr2 := hid hr2
      replace hst2 := hid hst2
      clear hst g2 h2 k2 hmo
      go_wp2_with (at_builtin; go_must (refine wpList_app1 rfl _ _ rfl w.heap.size _ (nI l1) hr2.out rfl ((q : Nat) : Int) rfl hlk hb4 ?_); intro g gc w7 hr7 hf7 hg7)
      have hI := hst2.out g gc w7 hr7 hf7 hg7
      replace hI := hid hI
      clear hst2 hr7 hf7 hg7 hr2
      go_wp2
      go_roundw
      case rel => exact ⟨k + 1, by omega, by go_num, by rw [show l1.length = (nI l1).length by simp]; exact hI.out⟩
      case measure => simp [intOf]; omega
    · obtain rfl : k = N := by omega
      have hP : Hid (MvdPost w A BA l (.returned (.slice xa xn xc)) wr) := ⟨_, A1, l1, BA1, XA1, rfl, by rw [List.take_of_length_le (by rw [hN.out]; exact Nat.le_refl _)] at hg; exact hg, hA, hK, hr, hap⟩
      clear hg hA hK hr hap
      go_wp2
      go_ret
      exact hP.out

def StartPost (w : World) (b1 c : Nat) (BA : HB) (A : HS) (rv lv : Value) (rd ls l : List Nat) (e : Ending) (w' : World) : Prop :=
  ∃ u A1 A2 l1 rd1 BA' XA' rv', e = .returned (.tuple #[u, .bool true]) ∧ GoesL A.flip l A1 l1 ∧ GoesL A1 rd A2 rd1 ∧ CH w' b1 c BA' A2 XA' 1 rv' lv rd1 ls ∧ CKeep w c rv lv BA w' rv' lv BA' ∧ ORow w' w.heap.size u (nI l1) ∧ ∀ b, InB u b → ¬ HBlk BA' b ∧ ¬ CyB c rv' lv b

set_option maxRecDepth 4000 in
set_option maxHeartbeats 4000000 in
theorem start_yes {w : World} {b1 c : Nat} {BA : HB} {A : HS} {XA : List Nat} {rv lv : Value} {rd ls : List Nat} (h : CH w b1 c BA A XA 0 rv lv rd ls) (hm : A.mv = false) {v : Value} {l : List Nat} (hrow : ∀ W, Fr (fun k => k = c ∨ HBlk BA k) w W → Row W v (iVs (nI l))) (hl : ∀ p ∈ l, p ≤ 131072) (hlen : l.length ≤ 100000) (hd : ∀ p ∈ rd, p ≤ 131072) (hdlen : rd.length ≤ 100000) :
    Calls Try.prog 23 #[pV c, v] w (StartPost w b1 c BA A rv lv rd ls l) := by
  have hfl := hid (hflip_yes h.ha hm)
  have y1 := h.cy.c1.1
  have y0 := h.cy.c0
  unfold phV at y1
  obtain ⟨va, vc, hv, -⟩ := (hrow w (Fr.refl _ _)).loop
  have hrow' := hid hrow
  rw [show (nI l).length = l.length by simp] at hv
  rw [hv] at hrow'
  subst hv
  have H := hid h
  clear hrow h
  go_enter Try.func23, Try.ntmps23
  go_wp2_with fail
  refine (hfl.out).mono ?_
  rintro e w1 ⟨rfl, hA1, hK1⟩
  have H1 := H.out.stepA hA1 hK1
  have kk1 := CKeep.stepA (c := c) (rv := rv) (lv := lv) hK1
  generalize BA.flip A.u = BA1 at *
  have z1 := H1.cy.c1
  have z1a := z1.1
  have z1b := z1.2
  unfold phV at z1a
  have H2 : CH (w1.setCell ⟨c, 1, none⟩ (phV c 1)) b1 c BA1 A.flip XA 1 rv lv rd ls := ⟨H1.ha.fr ((Fr.refl (fun k => k = c) w1).setCell (p := ⟨c, 1, none⟩) (.inl rfl) _) (fun k hk (e : k = c) => H1.ap c (.inl rfl) (e ▸ hk)), H1.cy.setPh 1, H1.ap⟩
  have kk2 : CKeep w1 c rv lv BA1 (w1.setCell ⟨c, 1, none⟩ (phV c 1)) rv lv BA1 := CKeep.cells ((Fr.refl _ w1).setCell (p := ⟨c, 1, none⟩) (.inl (.inl rfl)) _) (fun _ h => .inl h)
  replace kk1 := kk1.trans kk2
  have hf1 : Hid (Fr (fun k => k = c ∨ HBlk BA k) w (w1.setCell ⟨c, 1, none⟩ (phV c 1))) := (hK1.fr.mono (fun _ _ e => .inr e)).setCell (p := ⟨c, 1, none⟩) (.inl (.inl rfl)) _
  have hnew1 := hid hK1.new
  unfold phV at H2 kk1 hf1
  replace H2 := hid H2
  replace kk1 := hid kk1
  clear hA1 hK1 H1 kk2 z1 H hfl
  go_wp2_with fail
  generalize World.setCell w1 _ _ = w2 at *
  have hmv1 := cmoved_is (c := c) H2.out.ha (show w2.cell? ⟨c, 0, none⟩ = some (hpV BA1) from H2.out.cy.c0) (H2.out.ap c (.inl rfl)) (v := .slice va l.length vc) (l := l) (fun W f => by
    have := hrow'.out W (hf1.out.join f (fun j hj e => .inr ((hnew1.out j e).resolve_right (by omega))))
    simpa using this) hl hlen
  replace hmv1 := hid hmv1
  refine (hmv1.out).mono ?_
  rintro e w3 ⟨u, A1, l1, BA2, XA2, rfl, g1, hA3, hK3, hr3, hap3⟩
  have H3 := H2.out.stepA hA3 hK3
  have kk3 := kk1.out.trans (CKeep.stepA (c := c) (rv := rv) (lv := lv) hK3)
  have y2 := H3.cy.c2.1
  have y0' := H3.cy.c0
  obtain ⟨ua, un, uc, rfl⟩ := hr3.letters
  obtain ⟨ra, rn, rc, rfl⟩ := H3.cy.r.letters
  have hmv2 := hid (cmoved_is (c := c) H3.ha (show w3.cell? ⟨c, 0, none⟩ = some (hpV BA2) from H3.cy.c0) (H3.ap c (.inl rfl)) (v := .slice ra rn rc) (l := rd) (fun W f => (H3.cy.r.frB f (fun b hb => H3.ap b (.inr (.inl hb)))).row) hd hdlen)
  replace H3 := hid H3
  replace kk3 := hid kk3
  replace hr3 := hid hr3
  have hge3 : Hid (w.heap.size ≤ w2.heap.size) := hf1.out.size
  have hap3' := hid hap3
  have hsz23 := hid hK3.fr.size
  have hlt2 := hid H2.out.cy.lt
  clear hmv1 hA3 hK3 hap3 kk1 H2 hf1 hnew1 y0 y1
  go_wp2_with fail
  refine (hmv2.out).mono ?_
  rintro e w4 ⟨u2, A2, l2, BA3, XA3, rfl, g2, hA4, hK4, hr4, hap4⟩
  have H4 := H3.out.stepA hA4 hK4
  have kk4 := kk3.out.trans (CKeep.stepA (c := c) (rv := .slice ra rn rc) (lv := lv) hK4)
  obtain ⟨u2a, u2n, u2c, rfl⟩ := hr4.letters
  have hlt4 := H3.out.cy.lt
  have hf5 : Fr (fun k => k = c) w4 (w4.setCell ⟨c, 2, none⟩ (.slice u2a u2n u2c)) := (Fr.refl (fun k => k = c) w4).setCell (p := ⟨c, 2, none⟩) (.inl rfl) _
  have hsz3 := hK4.fr.size
  have hu2 : ∀ b, InB (.slice u2a u2n u2c) b → b ≠ c ∧ ¬ InB lv b ∧ w3.heap.size ≤ b := fun b hb => by
    have h1 := (hr4.lt hb).1
    exact ⟨fun e => by have := (hlt4 c (.inl rfl)).1; omega, fun e => by have := (hlt4 b (.inr (.inr e))).1; omega, h1⟩
  have H5 : CH (w4.setCell ⟨c, 2, none⟩ (.slice u2a u2n u2c)) b1 c BA3 A2 XA3 1 (.slice u2a u2n u2c) lv l2 ls := ⟨H4.ha.fr hf5 (fun k hk (e : k = c) => H4.ap c (.inl rfl) (e ▸ hk)), H4.cy.setR' (hr4.mono (by have := (hlt4 c (.inl rfl)); omega)) (fun b hb => ⟨(hu2 b hb).1, (hu2 b hb).2.1⟩), fun k hk e => by
    rcases hk with rfl | hk | hk
    · exact H4.ap _ (.inl rfl) e
    · exact hap4 k hk e
    · exact H4.ap _ (.inr (.inr hk)) e⟩
  have hge2 := hge3.out
  have hsz2 := hsz23.out
  have kk5 : CKeep w c (.slice ra rn rc) lv BA (w4.setCell ⟨c, 2, none⟩ (.slice u2a u2n u2c)) (.slice u2a u2n u2c) lv BA3 := by
    refine ⟨kk4.fr.join hf5 (fun j _ e => .inl (.inl e)), kk4.new, fun k hk => ?_, kk4.hp⟩
    rcases hk with rfl | hk | hk
    · exact .inl (.inl rfl)
    · right; have := (hu2 k hk).2.2; omega
    · exact .inl (.inr (.inr hk))
  have o2 := H4.cy.c2
  have o2a := o2.1
  have o2b := o2.2
  have hr5 : Hid (ORow (w4.setCell ⟨c, 2, none⟩ (.slice u2a u2n u2c)) w.heap.size (.slice ua un uc) (nI l1)) :=
    ((hr3.out.frB hK4.fr (fun b hb => hap3'.out b hb)).frB hf5 (fun b hb (e : b = c) => by have := (hr3.out.lt hb).1; have := (hlt2.out c (.inl rfl)).1; omega)).mono hge2
  have hap5 : Hid (∀ b, InB (.slice ua un uc) b → ¬ HBlk BA3 b ∧ ¬ CyB c (.slice u2a u2n u2c) lv b) := fun b hb => by
    have h1 := hr3.out.lt hb
    refine ⟨fun e => ?_, fun e => ?_⟩
    · rcases hK4.new b e with h2 | h2
      · exact hap3'.out b hb h2
      · omega
    · rcases e with e | e | e
      · have := (hlt2.out c (.inl rfl)).1; omega
      · have := (hu2 b e).2.2; omega
      · have := (hlt2.out b (.inr (.inr e))).1; omega
  replace H5 := hid H5
  replace kk5 := hid kk5
  have g1' := hid g1
  have g2' := hid g2
  clear H4 kk4 hr4 hap4 hA4 hK4 o2 hu2 hf5 hlt4 H3 kk3 hmv2 hr3 hap3' hge3 hrow'
  go_wp2
  go_ret2
  exact ⟨_, A1, A2, l1, l2, BA3, XA3, _, rfl, g1'.out, g2'.out, H5.out, kk5.out, hr5.out, hap5.out⟩

/-- A whole row appended, at a step of a region that draws its order. -/
theorem step_appL {ops : Array Oper} {o : Oper} {a : Act} {w : World} {K : Act → World → Prop} {Q : Exit → Act → World → Prop} {E : Prop} (hgd : o.guard = none) (s x : Operand)
    (ho : o.op = .call { callee := .builtin .append, args := #[s, x], argTypes := #[23, 23] })
    (base : Nat) (v : Value) (l : List Int) (hown : ORow w base v l) (hs : a.eval s = v) (u : Value) (r : List Int) (hr : Row w u (iVs r)) (hx : a.eval x = u) (hl : l.length + r.length ≤ 1000000) (hbase : base ≤ w.heap.size)
    (h : ∀ v' w', ORow w' base v' (l ++ r) → Fr (InB v) w w' → (∀ b, InB v' b → InB v b ∨ w.heap.size ≤ b) → K (a.put o.dst v') w') :
    if Region.wanted o (yielded ops a.tmps) = true then Oper.wp Try.prog o a w K Q else E := by
  obtain ⟨A, c, rfl, hA⟩ := hr
  have hlen : (iVs r).length = r.length := by simp
  rw [hlen] at hx
  rcases A with _ | ad
  · obtain rfl : r = [] := by
      rcases hA with hA | ⟨b, off, hb, _⟩
      · simpa using hA
      · cases hb
    have hw : Region.wanted o (yielded ops a.tmps) = true := by simp [Region.wanted, hgd]
    rw [if_pos hw]
    have hrun := run_app_none hown o.type c
    unfold Oper.wp execOp
    simp only [ho, resolve, invoke, builtin, Sem.run_bind, Sem.run_pure, Result.andThen_ok, List.map_toArray, List.map_cons, List.map_nil, hs, hx, List.length_nil, hrun]
    exact h v w (by simpa using hown) (Fr.refl _ _) (fun b hb => .inl hb)
  · obtain ⟨i0, hi, hz0, hz1, hz2⟩ := info_parts info_int
    have hw : Region.wanted o (yielded ops a.tmps) = true := by simp [Region.wanted, hgd]
    rw [if_pos hw]
    obtain ⟨v', w', hrun, hown', hgrow, _, hloc⟩ := run_append_own_at (P := Try.prog) w base 23 o.type 3 i0 (.int .i64 0) 1 8 Try.underlying23 hi hz0 hz1 hz2 rfl (by decide) v l.length (iVs l) hown ad r.length c (iVs r) (by simp) (fun j y hj => by
      have hjl : j < (iVs r).length := (List.getElem?_eq_some_iff.1 hj).1
      rcases hA with hA | ⟨b, off, hb, hc⟩
      · rw [hA] at hjl; simp at hjl
      · cases hb
        rw [addr_at, hc j hjl]
        rw [List.getElem?_eq_getElem hjl] at hj
        exact hj) (by simp [Value.oneCell']) (by unfold maxLen; omega) (by omega) hbase
    unfold Oper.wp execOp
    simp only [ho, resolve, invoke, builtin, Sem.run_bind, Sem.run_pure, Result.andThen_ok, List.map_toArray, List.map_cons, List.map_nil, hs, hx, hrun]
    refine h v' w' ?_ (Fr.grown (Fr.refl _ _) hgrow (fun k hk => .inl hk)) ?_
    · show World.ownsRow _ _ _ _ _ _ _
      rw [List.length_append, iVs, List.map_append]
      exact hown'
    · intro b hb
      rcases hloc with hloc | hloc
      · exact .inl (hloc.symm.trans hb)
      · right
        have : some w.heap.size = some b := hloc.symm.trans hb
        injection this with this; omega


/-- What Finals is to bring. -/
def FinP (w : World) (BA : HB) (Q : HS → List Nat → Prop) (e : Ending) (w' : World) : Prop :=
  ∃ u l' A' BA' XA', e = .returned u ∧ HAt w' BA' A' XA' ∧ HKeep w BA w' BA' ∧ ORow w' w.heap.size u (nI l') ∧ (∀ b, InB u b → ¬ HBlk BA' b) ∧ l'.length ≤ 100000 ∧ Q A' l'
def FirstPost (w : World) (b1 c : Nat) (BA : HB) (rv lv : Value) (rd ls : List Nat) (Q : HS → List Nat → Prop) (e : Ending) (w' : World) : Prop :=
  e = .returned (.bool false) ∧ ∃ l' A' BA' XA' rv', CH w' b1 c BA' A' XA' 2 rv' lv (rd ++ l') ls ∧ CKeep w c rv lv BA w' rv' lv BA' ∧ Q A' l'
set_option maxRecDepth 4000 in
set_option maxHeartbeats 4000000 in
theorem first_is {w : World} {b1 c : Nat} {BA : HB} {A : HS} {XA : List Nat} {ph : Nat} {rv lv : Value} {rd ls : List Nat} {Q : HS → List Nat → Prop} (h : CH w b1 c BA A XA ph rv lv rd ls) (hdlen : rd.length ≤ 100000)
    (hF : ∀ W, Calm w W → Calls Try.prog 33 #[hpV BA] W (FinP W BA Q)) :
    Calls Try.prog 60 #[pV c] w (FirstPost w b1 c BA rv lv rd ls Q) := by
  have y0 := h.cy.c0
  have y2 := h.cy.c2.1
  have y2b := h.cy.c2.2
  have hclt := (h.cy.lt c (.inl rfl)).1
  have hlo : Hid (b1 ≤ w.heap.size) := by have := h.cy.lo; show b1 ≤ _; omega
  obtain ⟨ra, rn, rc, rfl⟩ := h.cy.r.letters
  have hdl := hid hdlen
  replace hF := hid hF
  have H := hid h
  clear h hdlen
  go_enter Try.func60, Try.ntmps60
  go_wp2_with fail
  go_region_law (first
    | (refine step_appL rfl _ _ rfl b1 (.slice ra rn rc) (nI rd) hr1.out rfl (.slice ua un uc) (nI l') hu1.out.row rfl (by simp; have := hdl.out; have := hll.out; omega) (by have := hlo.out; have := hsz.out; omega) ?_; intro v' w7 hr7 f7 hn7; have m0 := f7.cellAt z0 hcn.out; have m2 := f7.cellAt z2 hcn.out; have m2b := f7.frozenAt z2 z2b hcn.out; obtain ⟨va, vn, vc, rfl⟩ := hr7.letters; replace hr7 := hid hr7; replace f7 := hid f7; replace hn7 := hid hn7)
    | (go_simp; go_at_call 33; refine (hF.out _ (by first | exact Fr.refl _ _ | exact (Fr.refl _ _).drew)).mono ?_; rintro e w6 ⟨u, l', A', BA', XA', rfl, hA, hK, hu, hun, hll, hq⟩; have H6 := hid ((H.out.calm (by first | exact Fr.refl _ _ | exact (Fr.refl _ _).drew)).stepA hA hK); have hsz : Hid (w.heap.size ≤ w6.heap.size) := hK.fr.size; have hk6 : Hid (CKeep w c (.slice ra rn rc) lv BA w6 (.slice ra rn rc) lv BA') := (CKeep.calm (by first | exact Fr.refl _ _ | exact (Fr.refl _ _).drew)).trans (CKeep.stepA hK); have z0 : w6.cell? ⟨c, 0, none⟩ = some (hpV BA) := (by have := H6.out.cy.c0; rw [hK.hp] at this; exact this); have z2 := H6.out.cy.c2.1; have z2b := H6.out.cy.c2.2; have hr1 := hid H6.out.cy.r; have hcn : Hid (¬ InB (.slice ra rn rc) c) := H6.out.cy.rc; have hlt6 := hid H6.out.cy.lt; obtain ⟨ua, un, uc, rfl⟩ := hu.letters; have hu1 := hid hu; have hun1 := hid hun; replace hll := hid hll; replace hq := hid hq; clear hA hK hu hun))
  all_goals
    have f7' := f7.out
    have hn7' := hn7.out
    have n1 : Own w7 c 1 (phV c ph) := H6.out.cy.c1.fr f7' hcn.out
    have n1a := n1.1
    have n1b := n1.2
    have hy := hid ((H6.out.cy.setR f7' (by simpa using hr7.out) (rd' := rd ++ l') hn7').setPh 2)
    have hapv : ∀ b, InB (.slice va vn vc) b → ¬ HBlk BA' b := fun b hb e => by
      rcases hn7' b hb with h1 | h1
      · exact H6.out.ap b (.inr (.inl h1)) e
      · have := H6.out.ha.lt b e; omega
    have f8 : Fr (fun k => k = c ∨ InB (.slice ra rn rc) k) w6 ((w7.setCell ⟨c, 2, none⟩ (.slice va vn vc)).setCell ⟨c, 1, none⟩ (phV c 2)) :=
      ((f7'.mono (fun _ _ e => .inr e)).setCell (p := ⟨c, 2, none⟩) (.inl (.inl rfl)) _).setCell (p := ⟨c, 1, none⟩) (.inl (.inl rfl)) _
    have hP : Hid (FirstPost w b1 c BA (.slice ra rn rc) lv rd ls Q (.returned (.bool false)) ((w7.setCell ⟨c, 2, none⟩ (.slice va vn vc)).setCell ⟨c, 1, none⟩ (phV c 2))) := by
      refine ⟨rfl, l', A', BA', XA', .slice va vn vc, ⟨H6.out.ha.fr f8 (fun k hk e => ?_), hy.out, fun k hk e => ?_⟩, hk6.out.trans (CKeep.cells (f8.mono (fun k _ e => ?_)) (fun k hk => ?_)), hq.out⟩
      · rcases e with e | e
        · exact H6.out.ap c (.inl rfl) (e ▸ hk)
        · exact H6.out.ap k (.inr (.inl e)) hk
      · rcases hk with hk | hk | hk
        · exact H6.out.ap k (.inl hk) e
        · exact hapv k hk e
        · exact H6.out.ap k (.inr (.inr hk)) e
      · rcases e with e | e
        · exact .inl e
        · exact .inr (.inl e)
      · rcases hk with hk | hk | hk
        · exact .inl (.inl hk)
        · rcases hn7' k hk with h1 | h1
          · exact .inl (.inr (.inl h1))
          · right; exact h1
        · exact .inl (.inr (.inr hk))
    unfold phV at hP
    unfold phV at n1a
    clear hy f8 hapv n1 f7' hn7' hr7 f7 hn7 H6 hu1 hr1 hq hk6 hF H hun1 hlt6
    go_wp2
    go_ret
    exact hP.out

/-- What Drop is to bring. -/
def DroP (w : World) (BA : HB) (Q : HS → List Nat → Prop) (e : Ending) (w' : World) : Prop :=
  ∃ v ls0 A' BA' XA', e = .returned (.tuple #[v, .bool true]) ∧ HAt w' BA' A' XA' ∧ HKeep w BA w' BA' ∧ ORow w' w.heap.size v (nI ls0) ∧ ls0.length ≤ 100000 ∧ Q A' ls0
def SecondPost (w : World) (b1 c : Nat) (BA : HB) (rv lv : Value) (rd ls : List Nat) (Q : HS → List Nat → Prop) (e : Ending) (w' : World) : Prop :=
  e = .returned (.bool true) ∧ ∃ ls0 A' BA' XA' lv', CH w' b1 c BA' A' XA' 0 rv lv' rd (ls ++ ls0) ∧ CKeep w c rv lv BA w' rv lv' BA' ∧ Q A' ls0
set_option maxRecDepth 4000 in
set_option maxHeartbeats 4000000 in
theorem second_is {w : World} {b1 c : Nat} {BA : HB} {A : HS} {XA : List Nat} {ph : Nat} {rv lv : Value} {rd ls : List Nat} {Q : HS → List Nat → Prop} (h : CH w b1 c BA A XA ph rv lv rd ls) (hdlen : ls.length ≤ 100000)
    (hF : Calls Try.prog 34 #[hpV BA] w (DroP w BA Q)) :
    Calls Try.prog 93 #[pV c] w (SecondPost w b1 c BA rv lv rd ls Q) := by
  have y0 := h.cy.c0
  have hclt := (h.cy.lt c (.inl rfl)).1
  have hlo : Hid (b1 ≤ w.heap.size) := by have := h.cy.lo; show b1 ≤ _; omega
  obtain ⟨la, ln, lc, rfl⟩ := h.cy.l.letters
  have hdl := hid hdlen
  replace hF := hid hF
  have H := hid h
  clear h hdlen
  go_enter Try.func93, Try.ntmps93
  go_wp2_with fail
  refine (hF.out).mono ?_
  rintro e w6 ⟨u, ls0, A', BA', XA', rfl, hA, hK, hu, hll, hq⟩
  have H6 := H.out.stepA hA hK
  have hsz : Hid (w.heap.size ≤ w6.heap.size) := hK.fr.size
  have hk6 : Hid (CKeep w c rv (.slice la ln lc) BA w6 rv (.slice la ln lc) BA') := CKeep.stepA hK
  have z0 : w6.cell? ⟨c, 0, none⟩ = some (hpV BA) := by have := H6.cy.c0; rw [hK.hp] at this; exact this
  have z3 := H6.cy.c3.1
  have z3b := H6.cy.c3.2
  have z1 := H6.cy.c1
  have hr1 := hid H6.cy.l
  have hcn : Hid (¬ InB (.slice la ln lc) c) := H6.cy.lc
  obtain ⟨ua, un, uc, rfl⟩ := hu.letters
  have hu1 := hid hu
  have hlx : (nI ls).length + (nI ls0).length ≤ 1000000 := by simp; have := hdl.out; omega
  have hbx : b1 ≤ w6.heap.size := by have := hlo.out; have := hsz.out; omega
  replace H6 := hid H6
  replace hq := hid hq
  replace z1 := hid z1
  replace hlx := hid hlx
  clear hA hK hu hll hF H y0 hdl
  go_wp2_with (at_builtin; go_must (refine wpList_appL rfl _ _ rfl b1 (.slice la ln lc) (nI ls) hr1.out rfl (.slice ua un uc) (nI ls0) hu1.out.row rfl hlx.out hbx ?_; intro v' w7 hr7 f7 hn7; obtain ⟨va, vn, vc, rfl⟩ := hr7.letters; have m3 := f7.cellAt z3 hcn.out; have m3b := f7.frozenAt z3 z3b hcn.out; have m1a := (z1.out.fr f7 hcn.out).1; have m1b := (z1.out.fr f7 hcn.out).2; replace hr7 := hid hr7; replace f7 := hid f7; replace hn7 := hid hn7))
  replace hr7 := hr7.out
  replace f7 := f7.out
  replace hn7 := hn7.out
  have hy := hid ((H6.out.cy.setL f7 (by simpa using hr7) (ls' := ls ++ ls0) hn7).setPh 0)
  have hlt6 := hid H6.out.cy.lt
  have hapv : ∀ b, InB (.slice va vn vc) b → ¬ HBlk BA' b := fun b hb e => by
    rcases hn7 b hb with h1 | h1
    · exact H6.out.ap b (.inr (.inr h1)) e
    · have := H6.out.ha.lt b e; omega
  have f8 : Fr (fun k => k = c ∨ InB (.slice la ln lc) k) w6 ((w7.setCell ⟨c, 3, none⟩ (.slice va vn vc)).setCell ⟨c, 1, none⟩ (phV c 0)) :=
    ((f7.mono (fun _ _ e => .inr e)).setCell (p := ⟨c, 3, none⟩) (.inl (.inl rfl)) _).setCell (p := ⟨c, 1, none⟩) (.inl (.inl rfl)) _
  have hP : Hid (SecondPost w b1 c BA rv (.slice la ln lc) rd ls Q (.returned (.bool true)) ((w7.setCell ⟨c, 3, none⟩ (.slice va vn vc)).setCell ⟨c, 1, none⟩ (phV c 0))) := by
    refine ⟨rfl, ls0, A', BA', XA', .slice va vn vc, ⟨H6.out.ha.fr f8 (fun k hk e => ?_), hy.out, fun k hk e => ?_⟩, hk6.out.trans (CKeep.cells (f8.mono (fun k _ e => ?_)) (fun k hk => ?_)), hq.out⟩
    · rcases e with e | e
      · exact H6.out.ap c (.inl rfl) (e ▸ hk)
      · exact H6.out.ap k (.inr (.inr e)) hk
    · rcases hk with hk | hk | hk
      · exact H6.out.ap k (.inl hk) e
      · exact H6.out.ap k (.inr (.inl hk)) e
      · exact hapv k hk e
    · rcases e with e | e
      · exact .inl e
      · exact .inr (.inr e)
    · rcases hk with hk | hk | hk
      · exact .inl (.inl hk)
      · exact .inl (.inr (.inl hk))
      · rcases hn7 k hk with h1 | h1
        · exact .inl (.inr (.inr h1))
        · right; have := f7.size; exact h1
  unfold phV at hP
  clear hy f8 hapv hr7 f7 hn7 z1 H6 hu1 hr1 hq hk6
  go_wp2
  go_ret
  exact hP.out

end Go.Proofs.Ytiomemdmhcdpbaa
