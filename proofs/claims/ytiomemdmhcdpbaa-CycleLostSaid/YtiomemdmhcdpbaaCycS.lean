/- Package cycle: what a step does to twins' first heap. -/
import Derived.Test.YtiomemdmhcdpbaaCyc
import Derived.Test.YtiomemdmhcdpbaaCycL
set_option linter.unusedSimpArgs false
set_option linter.unusedVariables false
namespace Go.Proofs.Ytiomemdmhcdpbaa
open Go.RowKit Go.Shelf

theorem WeakL.len {s s' : HS} {l ls : List Nat} (h : WeakL s l s' ls) : ls.length ≤ l.length := by
  induction h with
  | nil => simp
  | snoc h g ih =>
    rw [List.length_append, List.length_append]
    cases g <;> simp <;> omega
/-- What Finals brings. -/
structure FinQ (σ : Nat → Nat) (A B : HS) (R S G : List Nat) (k : Nat) (A' : HS) (l' : List Nat) : Prop where
  ph : PhS σ A' B R S 4 (G ++ l') k
  kp : AKeep A A'
  weak : A'.weak = A.weak
  pl : ∀ q ∈ l', Placed A' q
  set : ∃ st lf, Settles A A.fin st lf ∧ GoesL { A with fin := st } lf A' l' ∧ A'.fin = st ∧ ∀ q ∈ st, q ∈ plc A.cur
/-- What Drop brings. -/
structure DropQ (σ : Nat → Nat) (A B : HS) (R S G : List Nat) (A' : HS) (ls : List Nat) : Prop where
  pr : Pair σ A' B R S 4
  ga : Gath A' G
  mv : A'.mv = false
  old : A'.old = []
  n : A'.n = A.n
  ser : A'.ser = A.ser
  plc : plc A'.cur = plc A.cur
  took : tookC A'.cur = tookC A.cur
  set : ∃ stw stf l1 l2 s', A' = s'.drop ∧ A'.fin = stf ∧ A'.weak = stw ∧ Settles A A.weak stw l1 ∧ Settles A A.fin stf l2 ∧ WkI { A with weak := stw, fin := stf } stw s' ∧ WeakL { A with weak := stw, fin := stf } stw s' ls
theorem finP_of {σ : Nat → Nat} {A B : HS} {R S G XA : List Nat} {k : Nat} {w : World} {BA : HB} (h : HAt w BA A XA) (hp : PhS σ A B R S 4 G k) : Calls Try.prog 33 #[hpV BA] w (FinP w BA (FinQ σ A B R S G k)) :=
  (finals_ph h hp).mono (fun e w' ⟨A', BA', XA', st, lf, l', u, e1, hA, hK, hu, hun, ph, kp, hwk, hpl, hset, hgo, hfin, hsth⟩ =>
    ⟨u, l', A', BA', XA', e1, hA, hK, hu, hun, by have h1 := hset.len; have h2 := hgo.len; have h3 := h.rep.few.2; omega, ph, kp, hwk, hpl, st, lf, hset, hgo, hfin, hsth⟩)
theorem droP_of {σ : Nat → Nat} {A B : HS} {R S G XA : List Nat} {k : Nat} {w : World} {BA : HB} (h : HAt w BA A XA) (hp : PhS σ A B R S 4 G k) (hk : k = A.cur.length) : Calls Try.prog 34 #[hpV BA] w (DroP w BA (DropQ σ A B R S G)) :=
  (drop_ph h hp hk).mono (fun e w' ⟨A', BA', XA', stw, stf, l1, l2, s', ls, v, e1, hA, hK, hv, d1, d2, d3, d4, d5, d6, d7, d8, d9, d10, d11, d12, d13, d14, d15⟩ =>
    ⟨v, ls, A', BA', XA', e1, hA, hK, hv, by have h1 := d12.len; have h2 := d15.len; have h3 := h.rep.few.1; omega, d2, d3, d4, d5, d6, d7, d8, d9, stw, stf, l1, l2, s', d1, d10, d11, d12, d13, d14, d15⟩)

set_option maxHeartbeats 1000000 in
theorem step0_is {w : World} {b1 c hp : Nat} {rv lv : Value} {rd ls : List Nat} (h : CyAt w b1 c hp 0 rv lv rd ls) : Calls Try.prog 24 #[pV c] w fun e w' => e = .returned (.bool false) ∧ w = w' := by
  have hlv : Calls Try.prog 57 #[pV c] w fun e w' => e = .returned (.bool false) ∧ w = w' := live_is h
  replace hlv := hid hlv
  clear h
  go_enter Try.func24, Try.ntmps24
  go_wp2_with fail
  refine (hlv.out).mono ?_
  rintro e w1 ⟨rfl, rfl⟩
  go_wp2
  go_ret
  exact ⟨rfl, rfl⟩

def Step1Out (w : World) (b1 c : Nat) (BA : HB) (rv lv : Value) (rd ls : List Nat) (σ : Nat → Nat) (A B : HS) (R S G : List Nat) (k : Nat) (e : Ending) (w' : World) : Prop :=
  e = .returned (.bool false) ∧ ∃ BA' A' XA' rv', CKeep w c rv lv BA w' rv' lv BA' ∧
    ((k < A.cur.length ∧ CH w' b1 c BA' A' XA' 1 rv' lv rd ls ∧ PhS σ A' B R S 4 G (k + 1) ∧ AKeep A A' ∧ A'.fin = A.fin ∧ A'.weak = A.weak) ∨
     (k = A.cur.length ∧ ∃ l', CH w' b1 c BA' A' XA' 2 rv' lv (rd ++ l') ls ∧ FinQ σ A B R S G k A' l'))
set_option maxHeartbeats 2000000 in
theorem step1_is {w : World} {b1 c : Nat} {BA : HB} {XA : List Nat} {rv lv : Value} {rd ls : List Nat} {σ : Nat → Nat} {A B : HS} {R S G : List Nat} {k : Nat} (h : CH w b1 c BA A XA 1 rv lv rd ls) (hp : PhS σ A B R S 4 G k) (hrd : rd.length ≤ 100000) :
    Calls Try.prog 24 #[pV c] w (Step1Out w b1 c BA rv lv rd ls σ A B R S G k) := by
  have hlv : Calls Try.prog 57 #[pV c] w fun e w' => e = .returned (.bool true) ∧ w = w' := live_is h.cy
  replace hlv := hid hlv
  have hSc := hid (scan_ph h.ha hp)
  have y0 := h.cy.c0
  have H := hid h
  clear h
  go_enter Try.func24, Try.ntmps24
  go_wp2_with fail
  refine (hlv.out).mono ?_
  rintro e w1 ⟨rfl, rfl⟩
  go_wp2_with fail
  refine (hSc.out).mono ?_
  rintro e w4 ⟨A1, BA1, XA1, k1, b, rfl, hA1, hK1, hp1, hkp, hfin, hwk, hcase⟩
  have H1 := H.out.stepA hA1 hK1
  have hk4 : Hid (CKeep w c rv lv BA w4 rv lv BA1) := CKeep.stepA hK1
  have z1 := H1.cy.c1.1
  unfold phV at z1
  rcases hcase with ⟨rfl, hk1, hk, hAA⟩ | ⟨rfl, hk1, hlt⟩
  · subst hAA
    subst hk1
    have hFi := hid (first_is (Q := FinQ σ A1 B R S G k1) H1 hrd (fun W cw => finP_of (H1.ha.calm cw) hp1))
    replace hk := hid hk
    clear H1 hA1 hK1 hp1 hkp hfin hwk H hlv hSc hp
    go_wp2_with fail
    refine hFi.out.mono ?_
    rintro e w5 ⟨rfl, l', A', BA', XA', rv', hC, hk5, hq⟩
    replace hC := hid hC
    replace hk5 := hid hk5
    replace hq := hid hq
    go_wp2
    go_ret
    exact ⟨rfl, BA', A', XA', rv', hk4.out.trans hk5.out, .inr ⟨hk.out, l', hC.out, hq.out⟩⟩
  · subst hk1
    have hP : Hid (Step1Out w b1 c BA rv lv rd ls σ A B R S G k (.returned (.bool false)) w4) := ⟨rfl, BA1, A1, XA1, rv, hk4.out, .inl ⟨hlt, H1, hp1, hkp, hfin, hwk⟩⟩
    clear H1 hA1 hK1 hp1 hkp hfin hwk H hlv hSc hp
    go_wp2
    go_ret
    exact hP.out

def Step2Out (w : World) (b1 c : Nat) (BA : HB) (rv lv : Value) (rd ls : List Nat) (σ : Nat → Nat) (A B : HS) (R S G : List Nat) (k : Nat) (e : Ending) (w' : World) : Prop :=
  ∃ b BA' A' XA' lv', e = .returned (.bool b) ∧ CKeep w c rv lv BA w' rv lv' BA' ∧
    ((b = false ∧ k < A.cur.length ∧ CH w' b1 c BA' A' XA' 2 rv lv' rd ls ∧ PhS σ A' B R S 4 G (k + 1) ∧ AKeep A A' ∧ A'.fin = A.fin ∧ A'.weak = A.weak) ∨
     (b = true ∧ k = A.cur.length ∧ ∃ ls0, CH w' b1 c BA' A' XA' 0 rv lv' rd (ls ++ ls0) ∧ DropQ σ A B R S G A' ls0))
set_option maxHeartbeats 2000000 in
theorem step2_is {w : World} {b1 c : Nat} {BA : HB} {XA : List Nat} {rv lv : Value} {rd ls : List Nat} {σ : Nat → Nat} {A B : HS} {R S G : List Nat} {k : Nat} (h : CH w b1 c BA A XA 2 rv lv rd ls) (hp : PhS σ A B R S 4 G k) (hrd : ls.length ≤ 100000) :
    Calls Try.prog 24 #[pV c] w (Step2Out w b1 c BA rv lv rd ls σ A B R S G k) := by
  have hlv : Calls Try.prog 57 #[pV c] w fun e w' => e = .returned (.bool true) ∧ w = w' := live_is h.cy
  replace hlv := hid hlv
  have hSc := hid (scan_ph h.ha hp)
  have y0 := h.cy.c0
  have H := hid h
  clear h
  go_enter Try.func24, Try.ntmps24
  go_wp2_with fail
  refine (hlv.out).mono ?_
  rintro e w1 ⟨rfl, rfl⟩
  go_wp2_with fail
  refine (hSc.out).mono ?_
  rintro e w4 ⟨A1, BA1, XA1, k1, b, rfl, hA1, hK1, hp1, hkp, hfin, hwk, hcase⟩
  have H1 := H.out.stepA hA1 hK1
  have hk4 : Hid (CKeep w c rv lv BA w4 rv lv BA1) := CKeep.stepA hK1
  have z1 := H1.cy.c1.1
  unfold phV at z1
  rcases hcase with ⟨rfl, hk1, hk, hAA⟩ | ⟨rfl, hk1, hlt⟩
  · subst hAA
    subst hk1
    have hFi := hid (second_is (Q := DropQ σ A1 B R S G) H1 hrd (droP_of H1.ha hp1 hk))
    replace hk := hid hk
    clear H1 hA1 hK1 hp1 hkp hfin hwk H hlv hSc hp
    go_wp2_with fail
    refine hFi.out.mono ?_
    rintro e w5 ⟨rfl, ls0, A', BA', XA', lv', hC, hk5, hq⟩
    replace hC := hid hC
    replace hk5 := hid hk5
    replace hq := hid hq
    go_wp2
    go_ret
    exact ⟨true, BA', A', XA', lv', rfl, hk4.out.trans hk5.out, .inr ⟨rfl, hk.out, ls0, hC.out, hq.out⟩⟩
  · subst hk1
    have hP : Hid (Step2Out w b1 c BA rv lv rd ls σ A B R S G k (.returned (.bool false)) w4) := ⟨false, BA1, A1, XA1, lv, rfl, hk4.out, .inl ⟨rfl, hlt, H1, hp1, hkp, hfin, hwk⟩⟩
    clear H1 hA1 hK1 hp1 hkp hfin hwk H hlv hSc hp
    go_wp2
    go_ret
    exact hP.out

end Go.Proofs.Ytiomemdmhcdpbaa
