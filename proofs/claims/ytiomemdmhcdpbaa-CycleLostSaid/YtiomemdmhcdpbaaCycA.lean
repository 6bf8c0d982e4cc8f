/- What twins' first heap keeps, by serials: for a collection right behind another. -/
import Derived.Test.YtiomemdmhcdpbaaCycI
set_option linter.unusedSimpArgs false
set_option linter.unusedVariables false
namespace Go.Proofs.Ytiomemdmhcdpbaa
open Go.RowKit Go.Shelf

/-- Serials come to from the second heap's registers. -/
inductive Clo (B : HS) (S : List Nat) : Nat → Prop
  | root {j n : Nat} (hj : j < 4) (h : Ref B (S.getD j 0) n) (hn : n ≠ 0) : Clo B S n
  | step {n m p i : Nat} {u : Ob} (h : Clo B S n) (hu : (p, u) ∈ B.cur) (e : u.ser = n) (hw : u.wk = false) (hi : i < u.p) (hr : Ref B (u.ps.getD i 0) m) (hm : m ≠ 0) : Clo B S m
section
variable {σ : Nat → Nat} {A B : HS} {R S : List Nat}
theorem obj_id (hp : Pair σ A B R S 4) (hs : A.ser = B.ser) (hi : ∀ m, m ≤ B.ser → σ m = m) {p : Nat} {o : Ob} (hl : Live A p o) :
    ∃ q u, (q, u) ∈ B.cur ∧ u.ser = o.ser ∧ Alk o u ∧ ∀ m, m < o.p → ∃ k, Ref B (u.ps.getD m 0) k ∧ (Ref A (o.ps.getD m 0) k ∨ (o.wk = true ∧ o.ps.getD m 0 = 0 ∧ ∀ x v, Live A x v → v.ser ≠ k)) := by
  have hser : 1 ≤ o.ser ∧ o.ser ≤ A.ser := by
    rcases hl with hl | hl
    · exact hp.tw.wa.serC _ hl
    · exact hp.tw.wa.serO _ hl
  obtain ⟨q, u, h1, h2, h3, h4⟩ := hp.tw.obj o.ser p o hser.1 (by omega) hl (hi _ (by omega)).symm
  refine ⟨q, u, h1, h2, h3, fun m hm => ?_⟩
  obtain ⟨k, k1, k2⟩ := h4 m hm
  rw [hi k (Ref.le hp.tw.wb k1)] at k2
  exact ⟨k, k1, k2⟩
theorem strong_get {o : Ob} {q : Nat} (h : q ∈ o.strong) : o.wk = false ∧ q ∈ o.ps := by
  unfold Ob.strong at h
  split at h
  · cases h
  · rename_i hw; exact ⟨by simpa using hw, h⟩
theorem Clo.sound (hp : Pair σ A B R S 4) (hs : A.ser = B.ser) (hi : ∀ m, m ≤ B.ser → σ m = m) {q : Nat} (h : Cto A R q) : ∀ o, (q, o) ∈ A.cur → Clo B S o.ser := by
  induction h with
  | @root q h1 h2 =>
    intro o ho
    obtain ⟨j, hj, e⟩ := mem_get 0 h1
    obtain ⟨n, n1, n2, n3⟩ := hp.rg.ref j (by rw [hp.rg.lr] at hj; exact hj)
    rw [e, hi n n1] at n2
    have hn : n = o.ser := n2.unique hp.tw.wa (.inr (.inl ⟨o, ho, rfl⟩))
    have := (hp.tw.wa.serC _ ho).1
    rw [← hn]
    exact .root (by rw [hp.rg.lr] at hj; exact hj) n3 (by simp only at this; omega)
  | @step p q o h1 h2 h3 h4 ih =>
    intro o2 ho2
    obtain ⟨q', u, u1, u2, u3, u4⟩ := obj_id hp hs hi (.inl h2)
    obtain ⟨hw, hq⟩ := strong_get h3
    obtain ⟨i, hi2, e⟩ := mem_get 0 hq
    rw [u3.pl] at hi2
    obtain ⟨k, k1, k2⟩ := u4 i hi2
    rw [e] at k2
    rcases k2 with k2 | ⟨k2, _⟩
    · have hn : k = o2.ser := k2.unique hp.tw.wa (.inr (.inl ⟨o2, ho2, rfl⟩))
      have := (hp.tw.wa.serC _ ho2).1
      rw [← hn]
      exact .step (ih o h2) u1 u2 (by rw [u3.wk]; exact hw) (by rw [u3.p]; exact hi2) k1 (by simp only at this; omega)
    · rw [hw] at k2; cases k2
theorem Gath.clo (hp : Pair σ A B R S 4) (hs : A.ser = B.ser) (hi : ∀ m, m ≤ B.ser → σ m = m) (h : Gath A R) : ∀ x o, (x, o) ∈ A.cur → Clo B S o.ser := fun x o ho => Clo.sound hp hs hi (h x (List.mem_map.2 ⟨_, ho, rfl⟩)) o ho
/-- All scanned: strong pointers lead to what is here. -/
theorem PhS.full {G XA : List Nat} {k : Nat} (h : PhS σ A B R S 4 G k) (hA : HRep A XA) (hk : k = A.cur.length) : ∀ x o, (x, o) ∈ A.cur → ∀ q ∈ o.strong, Placed A q := by
  obtain ⟨k', kl, ks, kp⟩ := h.pr.ca.scan h.mv
  have hs := (h.pg.top hA).2 hk
  have hk' : k' = A.cur.length := by
    have e : begs (A.base A.u) A.cur A.cur.length = A.top := hA.half.cl.lie.end
    rcases Nat.lt_or_eq_of_le kl with hlt | he
    · have := begs_mono (A.base A.u) A.cur (show k' + 1 ≤ A.cur.length from hlt)
      have h5 : begs (A.base A.u) A.cur (k' + 1) = begs (A.base A.u) A.cur k' + (A.cur.getD k' ob0).2.took := rfl
      have h6 := (Ob.took_eq (hA.at_ hlt).ok).2.2.1
      have h6 : 4 ≤ (A.cur.getD k' ob0).2.took := h6
      omega
    · exact he
  intro x o ho q hq
  obtain ⟨i, hi, e⟩ := mem_get ob0 ho
  exact kp i (by omega) q (by rw [e]; exact hq)
theorem Clo.full (hp : Pair σ A B R S 4) (hs : A.ser = B.ser) (hi : ∀ m, m ≤ B.ser → σ m = m) (hf : ∀ x o, (x, o) ∈ A.cur → ∀ q ∈ o.strong, Placed A q) {n : Nat} (h : Clo B S n) : ∃ x o, (x, o) ∈ A.cur ∧ o.ser = n := by
  have hpl : ∀ q n, Placed A q → Ref A q n → n ≠ 0 → ∃ x o, (x, o) ∈ A.cur ∧ o.ser = n := fun q n h1 h2 h3 => by
    rcases h1 with h1 | h1
    · exact absurd ((Ref.pos hp.tw.wa h2).1 h1) h3
    · obtain ⟨y, hy, e⟩ := List.mem_map.1 h1
      refine ⟨y.1, y.2, hy, ?_⟩
      have : Ref A q y.2.ser := .inr (.inl ⟨y.2, by rw [← e]; exact hy, rfl⟩)
      exact this.unique hp.tw.wa h2
  induction h with
  | @root j n hj h1 hn =>
    obtain ⟨m, m1, m2, m3⟩ := hp.rg.ref j hj
    rw [hi m m1, m3.unique hp.tw.wb h1] at m2
    exact hpl _ n (hp.rg.here j hj) m2 hn
  | @step n m p i u h1 hu e hw hi2 hr hm ih =>
    obtain ⟨x, o, ho, e2⟩ := ih
    obtain ⟨q', u', u1, u2, u3, u4⟩ := obj_id hp hs hi (.inl ho)
    have heq : (q', u') = (p, u) := hp.tw.wb.unC _ u1 _ hu (by simp only; omega)
    cases heq
    obtain ⟨k, k1, k2⟩ := u4 i (by rw [← u3.p]; exact hi2)
    have hkm : k = m := k1.unique hp.tw.wb hr
    subst hkm
    have how : o.wk = false := by rw [← u3.wk]; exact hw
    rcases k2 with k2 | ⟨k2, _⟩
    · refine hpl _ k (hf x o ho _ ?_) k2 hm
      unfold Ob.strong
      rw [if_neg (by rw [how]; simp)]
      exact get_mem' 0 (by rw [u3.pl, ← u3.p]; exact hi2)
    · rw [how] at k2; cases k2
/-- None that lives in the old space has a serial that is here. -/
theorem Settles.left_of {s : HS} {l st lf : List Nat} (h : Settles s l st lf) : ∀ p ∈ lf, p ∈ l ∧ ∃ i o, OldAt s i p o none := by
  induction h with
  | nil => intro p hp; cases hp
  | stay h hp ih => exact fun p h => ⟨List.mem_append.2 (.inl (ih p h).1), (ih p h).2⟩
  | gone h c ih => exact fun p h => ⟨List.mem_append.2 (.inl (ih p h).1), (ih p h).2⟩
  | left h c ih =>
    intro p hp
    rcases List.mem_append.1 hp with hp | hp
    · exact ⟨List.mem_append.2 (.inl (ih p hp).1), (ih p hp).2⟩
    · rw [List.mem_singleton.1 hp]
      exact ⟨List.mem_append.2 (.inr (List.mem_singleton.2 rfl)), _, _, c⟩
theorem Settles.none_of (w : WF A) {l st lf : List Nat} (h : Settles A l st lf) (hc : ∀ p ∈ l, ∃ n x o, Ref A p n ∧ (x, o) ∈ A.cur ∧ o.ser = n) : lf = [] := by
  rcases hl : lf with _ | ⟨p, t⟩
  · rfl
  · obtain ⟨h1, i, o, c⟩ := h.left_of p (by rw [hl]; simp)
    obtain ⟨n, x, o', r1, r2, r3⟩ := hc p h1
    have r4 : Ref A p o.ser := .inr (.inr ⟨o, Option.none, c.mem', rfl⟩)
    have := r1.unique w r4
    exact absurd (by rw [r3, this]) (w.unM _ r2 p o c.mem')
/-- Live serials. -/
def LS (A : HS) (n : Nat) : Prop := ∃ x u, Live A x u ∧ u.ser = n
/-- Weak pointers of what lives lead to what is come to, or to what doesn't live. -/
def WkClo (A B : HS) (S : List Nat) : Prop := ∀ n, LS A n → ∀ q u, (q, u) ∈ B.cur → u.ser = n → u.wk = true → ∀ k, Ref B (u.ps.getD 0 0) k → k = 0 ∨ Clo B S k ∨ ¬ LS A k
theorem WkClo.keep {A' : HS} (h : WkClo A B S) (hl : ∀ x u, Live A' x u → ∃ x0 u0, Live A x0 u0 ∧ u0.ser = u.ser) : WkClo A' B S := by
  have hs : ∀ n, LS A' n → LS A n := fun n ⟨x, u, h1, h2⟩ => by
    obtain ⟨x0, u0, h3, h4⟩ := hl x u h1
    exact ⟨x0, u0, h3, h4.trans h2⟩
  intro n hn q u h1 h2 h3 k hk
  rcases h n (hs n hn) q u h1 h2 h3 k hk with h4 | h4 | h4
  · exact .inl h4
  · exact .inr (.inl h4)
  · exact .inr (.inr (fun e => h4 (hs k e)))
/-- Behind a collection that told nothing. -/
theorem WkClo.of (hp : Pair σ A B R S 4) (hs : A.ser = B.ser) (hi : ∀ m, m ≤ B.ser → σ m = m) (ho : A.old = []) (hc : ∀ x o, (x, o) ∈ A.cur → Clo B S o.ser) (hok : ∀ x o, (x, o) ∈ A.cur → o.Ok) : WkClo A B S := by
  intro n ⟨x, o, hl, e⟩ q u h1 h2 h3 k hk
  have hlc : ∀ y v, Live A y v → (y, v) ∈ A.cur := fun y v h => by
    rcases h with h | h
    · exact h
    · rw [ho] at h; cases h
  obtain ⟨q', u', u1, u2, u3, u4⟩ := obj_id hp hs hi hl
  have heq : (q', u') = (q, u) := hp.tw.wb.unC _ u1 _ h1 (by simp only; omega)
  cases heq
  have how : o.wk = true := by rw [← u3.wk]; exact h3
  have hop : o.p = 1 := Ob.weak_p (hok x o (hlc x o hl)) how
  obtain ⟨k', k1, k2⟩ := u4 0 (by omega)
  have hkk : k' = k := k1.unique hp.tw.wb hk
  subst hkk
  rcases k2 with k2 | ⟨_, _, k2⟩
  · by_cases hk0 : k' = 0
    · exact .inl hk0
    · right; left
      rcases k2 with ⟨_, e2⟩ | ⟨o2, h5, e2⟩ | ⟨o2, m, h5, _⟩
      · exact absurd e2 hk0
      · rw [← e2]; exact hc _ _ h5
      · rw [ho] at h5; cases h5
  · right; right
    rintro ⟨y, v, h5, e5⟩
    exact k2 y v h5 e5
theorem WeakL.none_of {A s : HS} {X : List Nat} (h : HRep A X) (w : WF A) {l ls : List Nat} (g : WeakL A l s ls) : (∀ q ∈ l, ∃ o, (q, o) ∈ A.cur ∧ o.wk = true) → (∀ q o, (q, o) ∈ A.cur → o.wk = true → ∀ j u, ¬ OldAt A j (o.ps.getD 0 0) u none) → ls = [] := by
  induction g with
  | nil => exact fun _ _ => rfl
  | @snoc l ls m s1 s2 q g1 g2 ih =>
    intro hq hno
    have hq' : ∀ q ∈ l, ∃ o, (q, o) ∈ A.cur ∧ o.wk = true := fun q h => hq q (List.mem_append.2 (.inl h))
    have e1 := ih hq' hno
    have W := WkI.of h g1 hq'
    cases g2 with
    | stay _ _ => simp [e1]
    | gone _ _ => simp [e1]
    | @lost i j o u c d =>
      exfalso
      have hi : i < A.cur.length := by rw [← W.len]; exact c.lt
      obtain ⟨w1, w2⟩ := W.obj i hi
      have hc : s1.cur.getD i ob0 = (q, o) := c.get
      rw [hc] at w1 w2
      have hmem : A.cur.getD i ob0 ∈ A.cur := get_mem ob0 hi
      obtain ⟨o1, ho1, hw1⟩ := hq q (List.mem_append.2 (.inr (List.mem_singleton.2 rfl)))
      have heq : (q, o1) = A.cur.getD i ob0 := w.plC _ ho1 _ hmem w1
      rw [← heq] at w2
      have hdm : (o.ps.getD 0 0, u, (Option.none : Option Nat)) ∈ A.old := by rw [← W.old]; exact d.mem'
      rcases w2 with ⟨e, _⟩ | ⟨q', e, hw, hcase⟩
      · subst e
        exact hno q o ho1 hw1 j u ⟨by rw [← W.old]; exact d.lt, by rw [← W.old]; exact d.get⟩
      · have hok1 : o1.Ok := (h.cur_ok ho1).1
        have hlp : o1.ps.length = 1 := by rw [hok1.lp]; exact Ob.weak_p hok1 hw1
        have hps : o.ps.getD 0 0 = q' := by
          have e : o = o1.setp true 0 q' := e
          rw [e]
          unfold Ob.setp
          simp [List.getD, hlp]
        rw [hps] at hdm
        rcases hcase with hg | ⟨_, hz⟩
        · obtain ⟨y, hy, ey⟩ := List.mem_map.1 (GoneTo.cur h hg)
          exact w.plM y hy _ hdm ey
        · have := w.posO _ hdm
          simp only at this; omega
/-- No weak pointer is lost. -/
theorem WkClo.none_of (hp : Pair σ A B R S 4) (hs : A.ser = B.ser) (hi : ∀ m, m ≤ B.ser → σ m = m) (hf : ∀ x o, (x, o) ∈ A.cur → ∀ q ∈ o.strong, Placed A q) (hk : WkClo A B S) (hok : ∀ x o, (x, o) ∈ A.cur → o.Ok) : ∀ q o, (q, o) ∈ A.cur → o.wk = true → ∀ j u, ¬ OldAt A j (o.ps.getD 0 0) u none := by
  intro q o ho hw j u d
  have hop : o.p = 1 := Ob.weak_p (hok q o ho) hw
  obtain ⟨q', v, u1, u2, u3, u4⟩ := obj_id hp hs hi (.inl ho)
  obtain ⟨k, k1, k2⟩ := u4 0 (by omega)
  rcases k2 with k2 | ⟨_, k2, _⟩
  · have hr : Ref A (o.ps.getD 0 0) u.ser := .inr (.inr ⟨u, Option.none, d.mem', rfl⟩)
    have hku : k = u.ser := k2.unique hp.tw.wa hr
    have hpos := (hp.tw.wa.serO _ d.mem').1
    rcases hk o.ser ⟨q, o, .inl ho, rfl⟩ q' v u1 u2 (by rw [u3.wk]; exact hw) k k1 with h1 | h1 | h1
    · simp only at hpos; omega
    · obtain ⟨x, o', h2, h3⟩ := h1.full hp hs hi hf
      exact hp.tw.wa.unM _ h2 _ u d.mem' (by rw [h3, hku])
    · exact h1 ⟨_, u, .inr d.mem', hku.symm⟩
  · have hm := d.mem'
    rw [k2] at hm
    have := hp.tw.wa.posO _ hm
    simp only at this; omega
/-- The serials of what is here. -/
def Sers (A : HS) : List Nat := A.cur.map (·.2.ser)
theorem sers_nodup {XA : List Nat} (h : WF A) (hr : HRep A XA) : (Sers A).Nodup := by
  have hn := plc_nodup hr
  unfold List.Nodup at hn ⊢
  rw [List.pairwise_iff_getElem] at hn ⊢
  intro i j hi hj hij e
  have hi2 : i < A.cur.length := by simpa [Sers] using hi
  have hj2 : j < A.cur.length := by simpa [Sers] using hj
  have := h.unC _ (List.getElem_mem hi2) _ (List.getElem_mem hj2) (by simpa [Sers] using e)
  refine hn i j (by simpa [plc] using hi2) (by simpa [plc] using hj2) hij ?_
  simp [plc, this]
def tkOf (B : HS) (n : Nat) : Nat := ((B.cur.find? (fun x => x.2.ser == n)).map (·.2.took)).getD 0
theorem took_of (hp : Pair σ A B R S 4) (hs : A.ser = B.ser) (hi : ∀ m, m ≤ B.ser → σ m = m) {x : Nat} {o : Ob} (ho : (x, o) ∈ A.cur) : o.took = tkOf B o.ser := by
  obtain ⟨q, u, u1, u2, u3, _⟩ := obj_id hp hs hi (.inl ho)
  have ht : u.took = o.took := by unfold Ob.took Ob.size; rw [u3.p, u3.d]
  unfold tkOf
  rcases hf : B.cur.find? (fun x => x.2.ser == o.ser) with _ | y
  · have := List.find?_eq_none.1 hf _ u1
    simp [u2] at this
  · have h1 := List.mem_of_find?_eq_some hf
    have h2 := List.find?_some hf
    have h3 : y.2.ser = o.ser := by simpa using h2
    have : y = (q, u) := hp.tw.wb.unC _ h1 _ u1 (by simp only; omega)
    rw [hf, this]
    simp [ht]
theorem tookC_of (hp : Pair σ A B R S 4) (hs : A.ser = B.ser) (hi : ∀ m, m ≤ B.ser → σ m = m) : tookC A.cur = ((Sers A).map (tkOf B)).sum := by
  rw [← tookC_sum, Sers, List.map_map]
  congr 1
  exact List.map_congr_left (fun x hx => took_of hp hs hi (x := x.1) hx)
theorem tookC_eq {σ' : Nat → Nat} {A' : HS} {R' XA XA' : List Nat} (hp : Pair σ A B R S 4) (hs : A.ser = B.ser) (hi : ∀ m, m ≤ B.ser → σ m = m) (hp' : Pair σ' A' B R' S 4) (hs' : A'.ser = B.ser) (hi' : ∀ m, m ≤ B.ser → σ' m = m) (hr : HRep A XA) (hr' : HRep A' XA') (h1 : ∀ n, n ∈ Sers A ↔ Clo B S n) (h2 : ∀ n, n ∈ Sers A' ↔ Clo B S n) : tookC A.cur = tookC A'.cur := by
  rw [tookC_of hp hs hi, tookC_of hp' hs' hi']
  exact (((List.perm_ext_iff_of_nodup (sers_nodup hp.tw.wa hr) (sers_nodup hp'.tw.wa hr')).2 (fun n => (h1 n).trans (h2 n).symm)).map _).sum_nat
/-- Finals' places have serials that are come to. -/
def FinC (A B : HS) (S : List Nat) : Prop := ∀ p ∈ A.fin, ∃ n, Ref A p n ∧ Clo B S n
theorem dropQ_obj {G ls : List Nat} {A' : HS} (h : DropQ σ A B R S G A' ls) (w : WF A) : Sers A' = Sers A ∧ ∀ p ∈ plc A.cur, ∀ n, Ref A p n → Ref A' p n := by
  obtain ⟨stw, stf, l1, l2, s', h0, h1, h2, h3, h4, W, h6⟩ := h.set
  have hlen : s'.cur.length = A.cur.length := W.len
  have hob : ∀ i, i < A.cur.length → (s'.cur.getD i ob0).1 = (A.cur.getD i ob0).1 ∧ (s'.cur.getD i ob0).2.ser = (A.cur.getD i ob0).2.ser := fun i hi => by
    obtain ⟨k1, k2⟩ := W.obj i hi
    exact ⟨k1, k2.same.2.2.2.2⟩
  have hcur : A'.cur = s'.cur := by rw [h0]; rfl
  constructor
  · unfold Sers
    rw [hcur]
    apply List.ext_getElem (by simp [hlen])
    intro i h1 h2
    have hi : i < A.cur.length := by simpa using h2
    have hi' : i < s'.cur.length := by omega
    have := (hob i hi).2
    simpa [List.getD, hi, hi'] using this
  · intro p hp n hn
    obtain ⟨y, hy, e⟩ := List.mem_map.1 hp
    obtain ⟨i, hi, e2⟩ := mem_get ob0 hy
    obtain ⟨k1, k2⟩ := hob i hi
    rw [e2] at k1 k2
    have hn2 : n = y.2.ser := hn.unique w (.inr (.inl ⟨y.2, by rw [← e]; exact hy, rfl⟩))
    refine .inr (.inl ⟨(s'.cur.getD i ob0).2, ?_, by rw [k2, hn2]⟩)
    rw [hcur]
    have hm : s'.cur.getD i ob0 ∈ s'.cur := get_mem ob0 (by omega)
    have he : (p, (s'.cur.getD i ob0).2) = s'.cur.getD i ob0 := by rw [← e, ← k1]
    rw [he]; exact hm
theorem FinC.keep {A' : HS} (h : FinC A B S) (kp : RefK A A') (e : A'.fin = A.fin) : FinC A' B S := fun p hp => by
  rw [e] at hp
  obtain ⟨n, h1, h2⟩ := h p hp
  exact ⟨n, kp p n h1, h2⟩
theorem FinC.drop {G XA ls : List Nat} {A' : HS} (h : FinC A B S) (hp : Pair σ A B R S 4) (hA : HRep A XA) (hq : DropQ σ A B R S G A' ls) : FinC A' B S := fun p hp' => by
  obtain ⟨stw, stf, l1, l2, s', h0, h1, h2, h3, h4, W, h6⟩ := hq.set
  rw [h1] at hp'
  have hpc := h4.st_here hA hp.ca.fn p hp'
  have hob := (dropQ_obj hq hp.tw.wa).2 p hpc
  rcases h4.st_mem hp' with ⟨k1, _⟩ | ⟨a, k1, k2⟩
  · obtain ⟨n, n1, n2⟩ := h p k1
    exact ⟨n, hob n n1, n2⟩
  · obtain ⟨n, n1, n2⟩ := h a k1
    exact ⟨n, hob n (k2.ref hp.tw.wa n1), n2⟩
theorem weak_here {XA stw l1 : List Nat} (h : Pair σ A B R S 4) (hA : HRep A XA) (h1 : Settles A A.weak stw l1) : ∀ q ∈ stw, ∃ o, (q, o) ∈ A.cur ∧ o.wk = true := fun q hq => by
  rcases h1.st_mem hq with ⟨k1, k2⟩ | ⟨a, k1, k2⟩
  · rcases h.ca.wk q k1 with k3 | ⟨o, m, k3, _⟩
    · exact k3
    · exact absurd (List.mem_map.2 ⟨_, k3, rfl⟩) k2
  · rcases h.ca.wk a k1 with ⟨o, k3, _⟩ | ⟨o, m, k3, k4⟩
    · exfalso
      obtain ⟨i, u, c⟩ := k2
      exact Entry.unique hA k3 ⟨_, c.mem'⟩
    · obtain ⟨i, u, c⟩ := k2
      have := old_same hA k3 c.mem' rfl
      cases this
      obtain ⟨o', k5, k6⟩ := h.tw.wa.gone a o q c.mem'
      exact ⟨o', k5, by rw [k6.2.2.1]; exact k4⟩
theorem DropQ.nolost {G XA ls : List Nat} {A' : HS} (hq : DropQ σ A B R S G A' ls) (hp : Pair σ A B R S 4) (hA : HRep A XA) (hno : ∀ q o, (q, o) ∈ A.cur → o.wk = true → ∀ j u, ¬ OldAt A j (o.ps.getD 0 0) u none) : ls = [] := by
  obtain ⟨stw, stf, l1, l2, s', h0, h1, h2, h3, h4, W, h6⟩ := hq.set
  have w := hp.tw.wa
  have hl1 := h3.len
  have hl2 := h4.len
  have hf := hA.few
  exact WeakL.none_of (A := { A with weak := stw, fin := stf }) (X := XA) ⟨hA.n1, hA.n2, hA.len, hA.zero, hA.half, hA.oroom, hA.room, hA.still, hA.ser, ⟨by show stw.length ≤ _; omega, by show stf.length ≤ _; omega⟩⟩ ⟨w.serC, w.serO, w.unC, w.unO, w.unM, w.plC, w.plO, w.plM, w.posC, w.posO, w.ptr, w.gone⟩ h6 (show ∀ q ∈ stw, ∃ o, (q, o) ∈ A.cur ∧ o.wk = true from weak_here (A := A) hp hA h3) (fun q o h1 h2 j u d => hno q o h1 h2 j u ⟨d.lt, d.get⟩)
end
/-- The m-th collection, behind s steps. -/
def AgS (w : World) (b0 T c m : Nat) (σ : Nat → Nat) (B : HS) (BB : HB) (XB S l1 : List Nat) (s : Nat) (done : Bool) (wz : World) : Prop :=
  ∃ A BA XA ph rv lv rd ls k, CyT w b0 T c BA BB A B XA XB l1 S ph rv lv rd ls wz ∧ A.n = 300 ∧ A.ser = B.ser ∧ rd.length ≤ 100 ∧ ls.length ≤ 100 ∧ (1 ≤ m → rd = []) ∧ (m = 2 → WkClo A B S) ∧
    ((ph = 1 ∧ done = false ∧ PhS σ A B l1 S 4 l1 k ∧ s = k ∧ rd = [] ∧ ls = [] ∧ (1 ≤ m → FinC A B S)) ∨
     (ph = 2 ∧ done = false ∧ PhS σ A B l1 S 4 (l1 ++ rd) k ∧ s = k + 1 ∧ ls = [] ∧ FinC A B S) ∨
     (ph = 0 ∧ done = true ∧ Pair σ A B l1 S 4 ∧ Gath A (l1 ++ rd) ∧ A.old = [] ∧ A.mv = false ∧ s ≤ A.cur.length + 2 ∧ FinC A B S ∧ (m = 2 → ls = []) ∧ (1 ≤ m → ∀ n, n ∈ Sers A ↔ Clo B S n)))
theorem AgS.lt {w : World} {b0 T c m : Nat} {σ : Nat → Nat} {B : HS} {BB : HB} {XB S l1 : List Nat} {s : Nat} {done : Bool} {wz : World} (h : AgS w b0 T c m σ B BB XB S l1 s done wz) : s ≤ 100 := by
  obtain ⟨A, BA, XA, ph, rv, lv, rd, ls, k, hT, hn, _, _, _, _, _, hc⟩ := h
  have h1 := hT.tw.ha.rep.cur_few
  rcases hc with ⟨_, _, hp, rfl, _⟩ | ⟨_, _, hp, rfl, _⟩ | ⟨_, _, _, _, _, _, hs, _⟩
  · have := hp.pg.1; omega
  · have := hp.pg.1; omega
  · omega
theorem AgS.step {w : World} {b0 T c m : Nat} {σ : Nat → Nat} {B : HS} {BB : HB} {XB S l1 : List Nat} {s : Nat} {wz : World} (h : AgS w b0 T c m σ B BB XB S l1 s false wz) (hbs : B.ser ≤ 30) (hi : ∀ m, m ≤ B.ser → σ m = m) :
    Calls Try.prog 24 #[pV c] wz fun e w' => ∃ b, e = .returned (.bool b) ∧ AgS w b0 T c m σ B BB XB S l1 (s + 1) b w' := by
  obtain ⟨A, BA, XA, ph, rv, lv, rd, ls, k, hT, hn, hs, hrd, hls, hrm, hwk, hc⟩ := h
  have hr := hT.tw.ha.rep
  rcases hc with ⟨rfl, _, hp, rfl, rfl, rfl, hfc⟩ | ⟨rfl, _, hp, rfl, rfl, hfc⟩ | ⟨_, hx, _⟩
  · refine (step1_is hT.ch hp (by simp)).mono ?_
    rintro e w' ⟨rfl, BA', A', XA', rv', hK, hcase⟩
    rcases hcase with ⟨_, hC, hp', kp, hf, _⟩ | ⟨hk, l', hC, hq⟩
    · exact ⟨false, rfl, A', BA', XA', 1, rv', lv, [], [], s + 1, hT.stepC hC hK, kp.n.trans hn, kp.ser.trans hs, by simp, by simp, fun _ => rfl, fun h => (hwk h).keep kp.liv, .inl ⟨rfl, rfl, hp', rfl, rfl, rfl, fun h => (hfc h).keep kp.ref hf⟩⟩
    · have h8 := hq.len
      have h9 := hp.pr.ca.few.2
      have hsound := Gath.clo hp.pr hs hi hp.ga
      have hfull := hp.full hr hk
      have hfc' : FinC A' B S := by
        obtain ⟨st, lf, h1, h2, h3, h4⟩ := hq.set
        intro p hp'
        rw [h3] at hp'
        obtain ⟨y, hy, e⟩ := List.mem_map.1 (h4 p hp')
        have hy' : (p, y.2) ∈ A.cur := by rw [← e]; exact hy
        exact ⟨y.2.ser, hq.kp.ref p _ (.inr (.inl ⟨y.2, hy', rfl⟩)), hsound p y.2 hy'⟩
      have hl0 : 1 ≤ m → l' = [] := fun hm => by
        obtain ⟨st, lf, h1, h2, h3, h4⟩ := hq.set
        have : lf = [] := Settles.none_of hp.pr.tw.wa h1 (fun p hp' => by
          obtain ⟨n, n1, n2⟩ := hfc hm p hp'
          obtain ⟨x, o, o1, o2⟩ := n2.full hp.pr hs hi hfull
          exact ⟨n, x, o, n1, o1, o2⟩)
        subst this
        exact h2.of_nil.2
      exact ⟨false, rfl, A', BA', XA', 2, rv', lv, [] ++ l', [], s, hT.stepC hC hK, hq.kp.n.trans hn, hq.kp.ser.trans hs, by simp; omega, by simp, fun h => by rw [hl0 h]; rfl, fun h => (hwk h).keep hq.kp.liv, .inr (.inl ⟨rfl, rfl, by simpa using hq.ph, rfl, rfl, hfc'⟩)⟩
  · refine (step2_is hT.ch hp (by simp)).mono ?_
    rintro e w' ⟨b, BA', A', XA', lv', rfl, hK, hcase⟩
    rcases hcase with ⟨rfl, _, hC, hp', kp, hf, _⟩ | ⟨rfl, hk, ls0, hC, hq⟩
    · exact ⟨false, rfl, A', BA', XA', 2, rv, lv', rd, [], k + 1, hT.stepC hC hK, kp.n.trans hn, kp.ser.trans hs, hrd, by simp, hrm, fun h => (hwk h).keep kp.liv, .inr (.inl ⟨rfl, rfl, hp', rfl, rfl, hfc.keep kp.ref hf⟩)⟩
    · have h8 := hq.len
      have h9 := hp.pr.ca.few.1
      have hfull := hp.full hr hk
      have hok : ∀ x o, (x, o) ∈ A.cur → o.Ok := fun x o h => (hr.cur_ok h).1
      obtain ⟨hsers, hrefs⟩ := dropQ_obj hq hp.pr.tw.wa
      have hlc : A'.cur.length = A.cur.length := by have := congrArg List.length hq.plc; simpa [plc] using this
      have hls0 : m = 2 → [] ++ ls0 = [] := fun h => by rw [hq.nolost hp.pr hr (WkClo.none_of hp.pr hs hi hfull (hwk h) hok)]; rfl
      have hcl : 1 ≤ m → ∀ n, n ∈ Sers A' ↔ Clo B S n := fun h n => by
        have hrd0 := hrm h
        subst hrd0
        have hga : Gath A l1 := by have := hp.ga; rw [List.append_nil] at this; exact this
        rw [hsers]
        constructor
        · intro hn
          obtain ⟨y, hy, e⟩ := List.mem_map.1 hn
          rw [← e]
          exact Gath.clo hp.pr hs hi hga y.1 y.2 hy
        · intro hn
          obtain ⟨x, o, h1, h2⟩ := hn.full hp.pr hs hi hfull
          exact List.mem_map.2 ⟨_, h1, h2⟩
      have hwk' : m = 2 → WkClo A' B S := fun h => WkClo.of hq.pr (hq.ser.trans hs) hi hq.old (fun x o ho => (hcl (by omega) _).1 (List.mem_map.2 ⟨_, ho, rfl⟩)) (fun x o h => (hC.ha.rep.cur_ok h).1)
      exact ⟨true, rfl, A', BA', XA', 0, rv, lv', rd, [] ++ ls0, 0, hT.stepC hC hK, hq.n.trans hn, hq.ser.trans hs, hrd, by simp; omega, hrm, hwk', .inr (.inr ⟨rfl, rfl, hq.pr, hq.ga, hq.old, hq.mv, by omega, hfc.drop hp.pr hr hq, hls0, hcl⟩)⟩
  · cases hx
/-- Between two collections; m are done. -/
def AgI (w : World) (b0 T c m : Nat) (RM : Int) (wr : World) : Prop :=
  ∃ σ A B R S BA BB XA XB, CyT w b0 T c BA BB A B XA XB R S 0 (.slice none 0 0) (.slice none 0 0) [] [] wr ∧ Pair σ A B R S 4 ∧ A.n = 300 ∧ A.ser = B.ser ∧ B.ser ≤ 30 ∧ (∀ m, m ≤ B.ser → σ m = m) ∧ A.mv = false ∧ (1 ≤ m → FinC A B S) ∧
    (m = 2 → WkClo A B S ∧ (∀ n, n ∈ Sers A ↔ Clo B S n) ∧ RM = 300 - (tookC A.cur : Nat))

end Go.Proofs.Ytiomemdmhcdpbaa
