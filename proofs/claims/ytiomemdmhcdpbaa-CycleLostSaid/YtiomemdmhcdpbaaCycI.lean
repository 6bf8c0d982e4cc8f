/- Twins, the first of which a cycle collects: what holds between a mutator's deeds. -/
import Derived.Test.YtiomemdmhcdpbaaCycT
import Derived.Test.YtiomemdmhcdpbaaLaw11
set_option linter.unusedSimpArgs false
set_option linter.unusedVariables false
namespace Go.Proofs.Ytiomemdmhcdpbaa
open Go.RowKit Go.Shelf

theorem Goes.le {s s' : HS} {X : List Nat} (hr : HRep s X) {p q : Nat} (g : Goes s p s' q) (hp : p ≤ 131072) : q ≤ 131072 := by
  obtain ⟨X', hr'⟩ := g.rep hr
  cases g with
  | stay _ => exact hp
  | gone c => exact hr.plc_le (GoneTo.cur hr ⟨_, _, c⟩)
  | move c => exact hr'.plc_le (by simp [HS.move, plc])
theorem GoesL.le {s s' : HS} {X l l' : List Nat} (hr : HRep s X) (g : GoesL s l s' l') (hp : ∀ p ∈ l, p ≤ 131072) : ∀ q ∈ l', q ≤ 131072 := by
  induction g with
  | nil => exact hp
  | snoc h g ih =>
    obtain ⟨X1, h1⟩ := h.rep hr
    intro q hq
    rcases List.mem_append.1 hq with hq | hq
    · exact ih (fun p hp' => hp p (List.mem_append.2 (.inl hp'))) q hq
    · rw [List.mem_singleton.1 hq]
      exact g.le h1 (hp _ (List.mem_append.2 (.inr (List.mem_singleton.2 rfl))))
theorem Placed.le {s : HS} {X : List Nat} (hr : HRep s X) {q : Nat} (h : Placed s q) : q ≤ 131072 := by
  rcases h with h | h
  · omega
  · exact hr.plc_le h
/-- The pure part. -/
structure CyJ (σ : Nat → Nat) (A B : HS) (R S : List Nat) (ph : Nat) (rd ls : List Nat) (n k : Nat) : Prop where
  pr : Pair σ A B R S 4
  n : A.n = n
  ser : A.ser = B.ser
  bs : B.ser ≤ k
  id_ : ∀ m, m ≤ B.ser → σ m = m
  mv : A.mv = decide (ph ≠ 0)
  ph2 : ph ≤ 2
  rdn : rd.length ≤ 60 * k
  lsn : ls.length ≤ 60 * k
  rdl : ∀ p ∈ rd, p ≤ 131072
/-- Twins and a cycle behind k rounds. -/
def CyI (w : World) (b0 T c n k : Nat) (wr : World) : Prop :=
  ∃ σ A B R S BA BB XA XB ph rv lv rd ls, CyT w b0 T c BA BB A B XA XB R S ph rv lv rd ls wr ∧ CyJ σ A B R S ph rd ls n k
theorem CyJ.start (n : Nat) : CyJ id (HS.start n) (HS.start 16000) [0, 0, 0, 0] [0, 0, 0, 0] 0 [] [] n 0 :=
  ⟨Pair.start n, rfl, rfl, Nat.zero_le _, fun _ _ => rfl, rfl, by omega, by simp, by simp, by simp⟩
section
variable {σ σ' : Nat → Nat} {A B A' B' : HS} {R S R' S' : List Nat} {ph : Nat} {rd ls : List Nat} {n k : Nat}
theorem CyJ.does (h : CyJ σ A B R S ph rd ls n k) (hp : Pair σ' A' B' R' S' 4) (hn : A'.n = A.n) (hg : Grew σ A B σ' A' B') (hm : A'.mv = A.mv) : CyJ σ' A' B' R' S' ph rd ls n (k + 1) := by
  obtain ⟨h1, h2, h3⟩ := hg.same h.ser h.id_
  have h4 := h.bs; have h5 := h.rdn; have h6 := h.lsn
  exact ⟨hp, hn.trans h.n, h1, by omega, h3, hm.trans h.mv, h.ph2, by omega, by omega, h.rdl⟩
theorem CyJ.more (h : CyJ σ A B R S ph rd ls n k) : CyJ σ A B R S ph rd ls n (k + 1) := by
  have h4 := h.bs; have h5 := h.rdn; have h6 := h.lsn
  exact ⟨h.pr, h.n, h.ser, by omega, h.id_, h.mv, h.ph2, by omega, by omega, h.rdl⟩
theorem CyJ.scan (h : CyJ σ A B R S ph rd ls n k) (hph : ph ≠ 0) {G : List Nat} {k1 : Nat} (hp : PhS σ A' B R S 4 G k1) (kp : AKeep A A') : CyJ σ A' B R S ph rd ls n (k + 1) := by
  have h4 := h.bs; have h5 := h.rdn; have h6 := h.lsn
  exact ⟨hp.pr, kp.n.trans h.n, kp.ser.trans h.ser, by omega, h.id_, by rw [hp.mv]; simp [hph], h.ph2, by omega, by omega, h.rdl⟩
theorem FinQ.len {G : List Nat} {k1 : Nat} {l' : List Nat} (h : FinQ σ A B R S G k1 A' l') : l'.length ≤ A.fin.length := by
  obtain ⟨st, lf, h1, h2, h3, h4⟩ := h.set
  have := h1.len; have := h2.len; omega
theorem DropQ.len {G : List Nat} {ls0 : List Nat} (h : DropQ σ A B R S G A' ls0) : ls0.length ≤ A.weak.length := by
  obtain ⟨stw, stf, l1, l2, s', h0, h1, h2, h3, h4, h5, h6⟩ := h.set
  have := h3.len; have := h6.len; omega
theorem CyJ.first (h : CyJ σ A B R S 1 rd ls n k) (hk : k ≤ 60) {X : List Nat} (hr : HRep A' X) {G : List Nat} {k1 : Nat} {l' : List Nat} (hq : FinQ σ A B R S G k1 A' l') : CyJ σ A' B R S 2 (rd ++ l') ls n (k + 1) := by
  have h4 := h.bs; have h5 := h.rdn; have h6 := h.lsn; have h7 := h.ser
  have h8 := hq.len
  have h9 := h.pr.ca.few.2
  exact ⟨hq.ph.pr, hq.kp.n.trans h.n, hq.kp.ser.trans h.ser, by omega, h.id_, by rw [hq.ph.mv]; rfl, by omega, by rw [List.length_append]; omega, by omega, fun p hp => by
    rcases List.mem_append.1 hp with hp | hp
    · exact h.rdl p hp
    · exact (hq.pl p hp).le hr⟩
theorem CyJ.second (h : CyJ σ A B R S 2 rd ls n k) (hk : k ≤ 60) {G : List Nat} {ls0 : List Nat} (hq : DropQ σ A B R S G A' ls0) : CyJ σ A' B R S 0 rd (ls ++ ls0) n (k + 1) := by
  have h4 := h.bs; have h5 := h.rdn; have h6 := h.lsn; have h7 := h.ser
  have h8 := hq.len
  have h9 := h.pr.ca.few.1
  exact ⟨hq.pr, hq.n.trans h.n, hq.ser.trans h.ser, by omega, h.id_, by rw [hq.mv]; rfl, by omega, by omega, by rw [List.length_append]; omega, h.rdl⟩
end
/-- A step keeps it. -/
theorem CyI.step {w : World} {b0 T c n k : Nat} {wr : World} (h : CyI w b0 T c n k wr) (hk : k ≤ 60) :
    Calls Try.prog 24 #[pV c] wr fun e w' => (∃ b, e = .returned (.bool b)) ∧ CyI w b0 T c n (k + 1) w' := by
  obtain ⟨σ, A, B, R, S, BA, BB, XA, XB, ph, rv, lv, rd, ls, hT, hJ⟩ := h
  have hrd := hJ.rdn
  have hls := hJ.lsn
  match ph, hT, hJ with
  | 0, hT, hJ =>
    refine (step0_is hT.cy).mono ?_
    rintro e w' ⟨rfl, rfl⟩
    exact ⟨⟨false, rfl⟩, σ, A, B, R, S, BA, BB, XA, XB, 0, rv, lv, rd, ls, hT, hJ.more⟩
  | 1, hT, hJ =>
    obtain ⟨k1, hp⟩ := PhS.any hJ.pr (by rw [hJ.mv]; rfl)
    refine (step1_is hT.ch hp (by omega)).mono ?_
    rintro e w' ⟨rfl, BA', A', XA', rv', hK, hcase⟩
    rcases hcase with ⟨_, hC, hp', kp, _, _⟩ | ⟨_, l', hC, hq⟩
    · exact ⟨⟨false, rfl⟩, σ, A', B, R, S, BA', BB, XA', XB, 1, rv', lv, rd, ls, hT.stepC hC hK, hJ.scan (by decide) hp' kp⟩
    · exact ⟨⟨false, rfl⟩, σ, A', B, R, S, BA', BB, XA', XB, 2, rv', lv, rd ++ l', ls, hT.stepC hC hK, hJ.first hk hC.ha.rep hq⟩
  | 2, hT, hJ =>
    obtain ⟨k1, hp⟩ := PhS.any hJ.pr (by rw [hJ.mv]; rfl)
    refine (step2_is hT.ch hp (by omega)).mono ?_
    rintro e w' ⟨b, BA', A', XA', lv', rfl, hK, hcase⟩
    rcases hcase with ⟨_, _, hC, hp', kp, _, _⟩ | ⟨_, _, ls0, hC, hq⟩
    · exact ⟨⟨b, rfl⟩, σ, A', B, R, S, BA', BB, XA', XB, 2, rv, lv', rd, ls, hT.stepC hC hK, hJ.scan (by decide) hp' kp⟩
    · exact ⟨⟨b, rfl⟩, σ, A', B, R, S, BA', BB, XA', XB, 0, rv, lv', rd, ls ++ ls0, hT.stepC hC hK, hJ.second hk hq⟩
  | m + 3, hT, hJ => exact absurd hJ.ph2 (by omega)
theorem CyT.setR {w wr : World} {b0 T c : Nat} {BA BB : HB} {A B : HS} {XA XB R S : List Nat} {ph : Nat} {rv lv : Value} {rd ls : List Nat} (h : CyT w b0 T c BA BB A B XA XB R S ph rv lv rd ls wr) {i v : Nat} (hi : i < 4) (hl : R.length = 4 ∧ S.length = 4) : CyT w b0 T c BA BB A B XA XB (R.set i v) S ph rv lv rd ls (wr.setCell ⟨T, 2 + i, none⟩ (.int .i64 (v : Nat))) := by
  have f : Fr (fun k => k = T) wr (wr.setCell ⟨T, 2 + i, none⟩ (.int .i64 (v : Nat))) := (Fr.refl (fun k => k = T) wr).setCell (p := ⟨T, 2 + i, none⟩) (.inl rfl) _
  have h1 : b0 ≤ T := h.tw.lt
  have h2 := h.lo
  exact ⟨h.tw.setR hi hl, h.cy.fr f (fun k hk e => (h.ap k hk).2.2 e), h.ap, h.calm.join f (fun j hj (e : j = T) => by omega), h.lo⟩
theorem rowR_of {w : World} {a b T : Nat} {R S : List Nat} (cs : OwnL w T (twC a b R S)) (hl : R.length = 4) : Row w (.slice (some ⟨T, 2, none⟩) 4 4) (iVs (nI R)) := by
  refine ⟨some ⟨T, 2, none⟩, 4, by simp [hl], .inr ⟨T, 2, rfl, fun i hi => ?_⟩⟩
  have hi2 : i < R.length := by simpa using hi
  have h1 := (cs _ _ (twC_R hi2)).1
  rw [h1]
  simp [List.getD, hi2]
/-- A collection begins, its roots the registers. -/
def StartR (w : World) (b0 T c : Nat) (σ : Nat → Nat) (A B : HS) (BB : HB) (XB R S rd ls : List Nat) (lv : Value) (wsz : Nat) (e : Ending) (w' : World) : Prop :=
  ∃ u A1 A2 l1 rd1 BA' XA' rv' X1, e = .returned (.tuple #[u, .bool true]) ∧ CyT w b0 T c BA' BB A2 B XA' XB R S 1 rv' lv rd1 ls w' ∧ ORow w' wsz u (nI l1) ∧ (∀ b, InB u b → ¬ HBlk BA' b ∧ ¬ CyB c rv' lv b) ∧
    HRep A.flip X1 ∧ GoesL A.flip R A1 l1 ∧ GoesL A1 rd A2 rd1 ∧ l1.length = 4 ∧ PhS σ A2 B l1 S 4 (([] ++ l1) ++ rd1) 0 ∧ A2.n = A.n ∧ A2.ser = A.ser
theorem startR_is {w wr : World} {b0 T c : Nat} {BA BB : HB} {A B : HS} {XA XB R S : List Nat} {rv lv : Value} {rd ls : List Nat} {σ : Nat → Nat} (h : CyT w b0 T c BA BB A B XA XB R S 0 rv lv rd ls wr) (hp : Pair σ A B R S 4) (hm : A.mv = false) (hd : ∀ p ∈ rd, p ≤ 131072) (hdl : rd.length ≤ 100000) :
    Calls Try.prog 23 #[pV c, .slice (some ⟨T, 2, none⟩) 4 4] wr (StartR w b0 T c σ A B BB XB R S rd ls lv wr.heap.size) := by
  have hlr := hp.rg.lr
  refine (start_yes h.ch hm (l := R) (fun W f => rowR_of (h.tw.cs.fr f (fun e => e.elim (fun e => (h.ap c (.inl rfl)).2.2 e.symm) h.tw.ta)) hlr) (fun p hp' => (hp.placed p hp').le h.tw.ha.rep) (by omega) hd hdl).mono ?_
  rintro e w' ⟨u, A1, A2, l1, rd1, BA', XA', rv', rfl, g1, g2, hC, hK, hu, hua⟩
  have hrf := h.tw.ha.rep.flip hm
  obtain ⟨X1, hr1⟩ := g1.rep hrf
  have hPh := (PhS.flip hp h.tw.ha.rep hm).movedL hrf g1
  refine ⟨u, A1, A2, l1, rd1, BA', XA', rv', _, rfl, h.stepC hC hK, hu, hua, hrf, g1, g2, by rw [g1.len, hlr], hPh.goesL hr1 g2, ?_, ?_⟩
  · exact g2.same.1.trans g1.same.1
  · exact g2.same.2.2.2.2.1.trans g1.same.2.2.2.2.1

/-- Twins and a cycle that hasn't begun. -/
def CyK (w : World) (b0 T c n k : Nat) (wr : World) : Prop :=
  ∃ σ A B R S BA BB XA XB, CyT w b0 T c BA BB A B XA XB R S 0 (.slice none 0 0) (.slice none 0 0) [] [] wr ∧ CyJ σ A B R S 0 [] [] n k
/-- Registers copied: j of them. -/
theorem CyT.copy {w wr : World} {b0 T c : Nat} {BA BB : HB} {A B : HS} {XA XB R S l1 : List Nat} {ph : Nat} {rv lv : Value} {rd ls : List Nat} {j : Nat} (h : CyT w b0 T c BA BB A B XA XB (l1.take j ++ R.drop j) S ph rv lv rd ls wr) (hj : j < 4) (hl1 : l1.length = 4) (hR : R.length = 4) (hS : S.length = 4) : CyT w b0 T c BA BB A B XA XB (l1.take (j + 1) ++ R.drop (j + 1)) S ph rv lv rd ls (wr.setCell ⟨T, 2 + j, none⟩ (.int .i64 (l1.getD j 0 : Nat))) := by
  have hjl : j < l1.length := by omega
  have hjR : j < R.length := by omega
  have h1 := h.setR (v := l1.getD j 0) hj ⟨by simp; omega, hS⟩
  have hlt : (l1.take j).length = j := by rw [List.length_take]; omega
  have e2 : (l1.take j ++ R.drop j).set j (l1.getD j 0) = l1.take (j + 1) ++ R.drop (j + 1) := by
    rw [List.drop_eq_getElem_cons hjR, List.set_append_right _ _ (by omega), hlt, Nat.sub_self, List.set_cons_zero, take_succ_getD l1 hjl, List.append_assoc]
    rfl
  rw [e2] at h1
  exact h1
theorem Placed.keep {A A' : HS} (kp : AKeep A A') {q : Nat} (h : Placed A q) : Placed A' q := h.imp id (kp.sub q)
/-- A collection behind s steps. -/
def StI (w : World) (b0 T c n m : Nat) (σ : Nat → Nat) (B : HS) (BB : HB) (XB S l1 : List Nat) (s : Nat) (done : Bool) (wz : World) : Prop :=
  ∃ A BA XA ph rv lv rd ls k, CyT w b0 T c BA BB A B XA XB l1 S ph rv lv rd ls wz ∧ A.n = n ∧ A.ser = B.ser ∧ rd.length ≤ m ∧ ls.length ≤ m ∧ (∀ q ∈ rd, Placed A q) ∧
    ((ph = 1 ∧ done = false ∧ PhS σ A B l1 S 4 l1 k ∧ s = k ∧ rd = [] ∧ ls = []) ∨ (ph = 2 ∧ done = false ∧ PhS σ A B l1 S 4 (l1 ++ rd) k ∧ s = k + 1 ∧ ls = []) ∨
     (ph = 0 ∧ done = true ∧ Pair σ A B l1 S 4 ∧ Gath A (l1 ++ rd) ∧ A.old = [] ∧ s = A.cur.length + 2))
theorem StI.lt {w : World} {b0 T c n m : Nat} {σ : Nat → Nat} {B : HS} {BB : HB} {XB S l1 : List Nat} {s : Nat} {done : Bool} {wz : World} (h : StI w b0 T c n m σ B BB XB S l1 s done wz) : 4 * s ≤ n + 8 := by
  obtain ⟨A, BA, XA, ph, rv, lv, rd, ls, k, hT, hn, _, _, _, _, hc⟩ := h
  have h1 := hT.tw.ha.rep.cur_few
  rcases hc with ⟨_, _, hp, rfl, _⟩ | ⟨_, _, hp, rfl, _⟩ | ⟨_, _, _, _, _, rfl⟩
  · have := hp.pg.1; omega
  · have := hp.pg.1; omega
  · omega
theorem StI.step {w : World} {b0 T c n m : Nat} {σ : Nat → Nat} {B : HS} {BB : HB} {XB S l1 : List Nat} {s : Nat} {wz : World} (h : StI w b0 T c n m σ B BB XB S l1 s false wz) (hm : B.ser ≤ m) (hm2 : m ≤ 1000) :
    Calls Try.prog 24 #[pV c] wz fun e w' => ∃ b, e = .returned (.bool b) ∧ StI w b0 T c n m σ B BB XB S l1 (s + 1) b w' := by
  obtain ⟨A, BA, XA, ph, rv, lv, rd, ls, k, hT, hn, hs, hrd, hls, hpl, hc⟩ := h
  rcases hc with ⟨rfl, _, hp, rfl, rfl, rfl⟩ | ⟨rfl, _, hp, rfl, rfl⟩ | ⟨_, hx, _⟩
  · refine (step1_is hT.ch hp (by simp)).mono ?_
    rintro e w' ⟨rfl, BA', A', XA', rv', hK, hcase⟩
    rcases hcase with ⟨_, hC, hp', kp, _, _⟩ | ⟨_, l', hC, hq⟩
    · exact ⟨false, rfl, A', BA', XA', 1, rv', lv, [], [], s + 1, hT.stepC hC hK, kp.n.trans hn, kp.ser.trans hs, by simp, by simp, fun q hq => (by cases hq), .inl ⟨rfl, rfl, hp', rfl, rfl, rfl⟩⟩
    · have h8 := hq.len
      have h9 := hp.pr.ca.few.2
      exact ⟨false, rfl, A', BA', XA', 2, rv', lv, [] ++ l', [], s, hT.stepC hC hK, hq.kp.n.trans hn, hq.kp.ser.trans hs, by simp; omega, by simp, fun q hq' => hq.pl q (by simpa using hq'), .inr (.inl ⟨rfl, rfl, by simpa using hq.ph, rfl, rfl⟩)⟩
  · refine (step2_is hT.ch hp (by simp)).mono ?_
    rintro e w' ⟨b, BA', A', XA', lv', rfl, hK, hcase⟩
    rcases hcase with ⟨rfl, _, hC, hp', kp, _, _⟩ | ⟨rfl, hk, ls0, hC, hq⟩
    · exact ⟨false, rfl, A', BA', XA', 2, rv, lv', rd, [], k + 1, hT.stepC hC hK, kp.n.trans hn, kp.ser.trans hs, hrd, by simp, fun q hq => (hpl q hq).keep kp, .inr (.inl ⟨rfl, rfl, hp', rfl, rfl⟩)⟩
    · have h8 := hq.len
      have h9 := hp.pr.ca.few.1
      have hlc : A'.cur.length = A.cur.length := by have := congrArg List.length hq.plc; simpa [plc] using this
      exact ⟨true, rfl, A', BA', XA', 0, rv, lv', rd, [] ++ ls0, 0, hT.stepC hC hK, hq.n.trans hn, hq.ser.trans hs, hrd, by simp; omega, fun q hq' => (hpl q hq').imp id (fun h => by rw [hq.plc]; exact h), .inr (.inr ⟨rfl, rfl, hq.pr, hq.ga, hq.old, by omega⟩)⟩
  · cases hx

/-- The cycle's own cells have turned. -/
theorem CyT.own {w wr w' : World} {b0 T c : Nat} {BA BB : HB} {A B : HS} {XA XB R S : List Nat} {ph ph' : Nat} {rv lv rv' lv' : Value} {rd ls rd' ls' : List Nat} (h : CyT w b0 T c BA BB A B XA XB R S ph rv lv rd ls wr) (f : Fr (fun k => k = c) wr w') (hy : CyAt w' b0 c BA.hp ph' rv' lv' rd' ls') (hs : ∀ j, CyB c rv' lv' j → CyB c rv lv j) : CyT w b0 T c BA BB A B XA XB R S ph' rv' lv' rd' ls' w' := by
  have hap := h.ap c (.inl rfl)
  have hb := h.bsz
  have hsz := f.size
  have hlo := h.lo
  refine ⟨⟨h.tw.ha.fr f (fun k hk e => hap.1 (e ▸ hk)), h.tw.hb.fr f (fun k hk e => hap.2.1 (e ▸ hk)), h.tw.cs.fr f (fun e => hap.2.2 e.symm), h.tw.ab, h.tw.ta, h.tw.tb, h.tw.la, h.tw.lb, h.tw.lt, fun k hk => ?_⟩, hy, fun j hj => h.ap j (hs j hj), h.calm.join f (fun j hj e => ?_), h.lo⟩
  · show b0 ≤ k; omega
  · have := (h.cy.lt c (.inl rfl)).2
    have e : j = c := e
    omega

end Go.Proofs.Ytiomemdmhcdpbaa
