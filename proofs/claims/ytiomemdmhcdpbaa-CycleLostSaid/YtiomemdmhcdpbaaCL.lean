/- CycleLost returns true: its walk. -/
import Derived.Test.YtiomemdmhcdpbaaCycO
set_option linter.unusedSimpArgs false
set_option linter.unusedVariables false
namespace Go.Proofs.Ytiomemdmhcdpbaa
open Go.RowKit Go.Shelf

structure LoM (w : World) (c hp0 : Nat) (BA : HB) (A : HS) (XA : List Nat) (ph : Nat) (rv lv : Value) (rd ls : List Nat) (wr : World) : Prop where
  ch : CH wr c c BA A XA ph rv lv rd ls
  calm : Calm w wr
  lo : w.heap.size ≤ c
  hb : ∀ k, HBlk BA k → w.heap.size ≤ k
  hp : BA.hp = hp0
theorem LoM.step {w wr w' : World} {c hp0 : Nat} {BA BA' : HB} {A A' : HS} {XA XA' : List Nat} {ph ph' : Nat} {rv lv rv' lv' : Value} {rd ls rd' ls' : List Nat} (h : LoM w c hp0 BA A XA ph rv lv rd ls wr) (hC : CH w' c c BA' A' XA' ph' rv' lv' rd' ls') (hK : CKeep wr c rv lv BA w' rv' lv' BA') : LoM w c hp0 BA' A' XA' ph' rv' lv' rd' ls' w' := by
  have hlo := h.lo
  refine ⟨hC, h.calm.join hK.fr (fun j hj e => ?_), h.lo, fun k hk => ?_, hK.hp.trans h.hp⟩
  · rcases e with e | e
    · have := (h.ch.cy.lt j e).2; omega
    · have := h.hb j e; omega
  · rcases hK.new k hk with h1 | h1
    · exact h.hb k h1
    · have := h.calm.size; omega
theorem LoM.calmR {w wr w' : World} {c hp0 : Nat} {BA : HB} {A : HS} {XA : List Nat} {ph : Nat} {rv lv : Value} {rd ls : List Nat} (h : LoM w c hp0 BA A XA ph rv lv rd ls wr) (f : Calm wr w') : LoM w c hp0 BA A XA ph rv lv rd ls w' := ⟨h.ch.calm f, h.calm.trans f, h.lo, h.hb, h.hp⟩
theorem LoM.own {w wr w' : World} {c hp0 : Nat} {BA : HB} {A : HS} {XA : List Nat} {ph ph' : Nat} {rv lv rv' lv' : Value} {rd ls rd' ls' : List Nat} (h : LoM w c hp0 BA A XA ph rv lv rd ls wr) (f : Fr (fun k => k = c) wr w') (hy : CyAt w' c c BA.hp ph' rv' lv' rd' ls') (hs : ∀ j, CyB c rv' lv' j → CyB c rv lv j) : LoM w c hp0 BA A XA ph' rv' lv' rd' ls' w' := by
  have hlo := h.lo
  exact ⟨⟨h.ch.ha.fr f (fun k hk e => h.ch.ap c (.inl rfl) (e ▸ hk)), hy, fun k hk => h.ch.ap k (hs k hk)⟩, h.calm.join f (fun j hj (e : j = c) => by omega), h.lo, h.hb, h.hp⟩
/-- What stays of the two objects' heap. -/
structure LoF (A : HS) : Prop where
  n : A.n = 60
  ser : A.ser = 2
  wl : A.weak.length = 1
  fin : A.fin = []
theorem lo_weak {A : HS} {R S G XA stw l1 : List Nat} {k : Nat} (hp : PhS sg A bS R S 4 G k) (hs : A.ser = 2) (hk : k = A.cur.length) (hr : HRep A XA) (h2 : Clo bS S 2) (h4 : Settles A A.weak stw l1) : l1 = [] := by
  have hs' : A.ser = bS.ser := by rw [hs, bS_ser]
  have hi : ∀ m, m ≤ bS.ser → sg m = m := fun m h => sg_id m (by rw [bS_ser] at h; exact h)
  obtain ⟨x2, o2, hx2, hx2s⟩ := h2.full hp.pr hs' hi (hp.full hr hk)
  have hwk2 : ∀ x o, Live A x o → o.wk = true → o.ser = 2 := fun x o hl hw => by
    obtain ⟨q', u, u1, u2, u3, _⟩ := obj_id hp.pr hs' hi hl
    have := bS_wk u1 (by rw [u3.wk]; exact hw)
    subst this
    exact u2.symm
  refine Settles.none_of hp.pr.tw.wa h4 (fun p hp' => ?_)
  refine ⟨2, x2, o2, ?_, hx2, hx2s⟩
  rcases hp.pr.ca.wk p hp' with ⟨o, h7, h8⟩ | ⟨o, m, h7, h8⟩
  · exact .inr (.inl ⟨o, h7, hwk2 p o (.inl h7) h8⟩)
  · refine .inr (.inr ⟨o, m, h7, ?_⟩)
    cases m with
    | none => exact hwk2 p o (.inr h7) h8
    | some t =>
      obtain ⟨o', h9, h10⟩ := hp.pr.tw.wa.gone _ _ _ h7
      have h11 : o'.ser = o.ser := h10.2.2.2.2
      have h12 : o'.wk = o.wk := h10.2.2.1
      have := hwk2 t o' (.inl h9) (by rw [h12]; exact h8)
      omega
theorem MdOk.clo2 {md : Nat} {A : HS} {S : List Nat} (h : MdOk md A S) : Clo bS S 2 := by
  rcases h with ⟨_, rfl⟩ | ⟨_, rfl, _⟩ | ⟨_, rfl, _⟩
  · exact .root (j := 0) (by decide) bS_5 (by decide)
  · exact clo02
  · exact clo02
/-- A collection of the two objects' heap behind s steps. -/
def LoS (w : World) (c hp0 md : Nat) (R S : List Nat) (s : Nat) (done : Bool) (wz : World) : Prop :=
  ∃ A BA XA ph rv lv ls k, LoM w c hp0 BA A XA ph rv lv [] ls wz ∧ LoF A ∧
    ((ph = 1 ∧ done = false ∧ PhS sg A bS R S 4 R k ∧ s = k ∧ ls = [] ∧ MdOk md A S) ∨
     (ph = 2 ∧ done = false ∧ PhS sg A bS R S 4 R k ∧ s = k + 1 ∧ ls = [] ∧ MdOk md A S) ∨
     (ph = 0 ∧ done = true ∧ Pair sg A bS R S 4 ∧ Gath A R ∧ A.old = [] ∧ A.mv = false ∧ s ≤ A.cur.length + 2 ∧ ls = (if md = 1 then [2] else [])))
theorem LoS.lt {w : World} {c hp0 md : Nat} {R S : List Nat} {s : Nat} {done : Bool} {wz : World} (h : LoS w c hp0 md R S s done wz) : s ≤ 4 := by
  obtain ⟨A, BA, XA, ph, rv, lv, ls, k, hM, hF, hc⟩ := h
  have hs := hF.ser
  rcases hc with ⟨_, _, hp, rfl, _⟩ | ⟨_, _, hp, rfl, _⟩ | ⟨_, _, hp, _, _, _, h1, _⟩
  · have h1 := hp.pr.tw.wa.cur_len hM.ch.ha.rep; have := hp.pg.1; omega
  · have h1 := hp.pr.tw.wa.cur_len hM.ch.ha.rep; have := hp.pg.1; omega
  · have h2 := hp.tw.wa.cur_len hM.ch.ha.rep; omega
theorem LoS.step {w : World} {c hp0 md : Nat} {R S : List Nat} {s : Nat} {wz : World} (h : LoS w c hp0 md R S s false wz) :
    Calls Try.prog 24 #[pV c] wz fun e w' => ∃ b, e = .returned (.bool b) ∧ LoS w c hp0 md R S (s + 1) b w' := by
  obtain ⟨A, BA, XA, ph, rv, lv, ls, k, hM, hF, hc⟩ := h
  rcases hc with ⟨rfl, _, hp, rfl, rfl, hm⟩ | ⟨rfl, _, hp, rfl, rfl, hm⟩ | ⟨_, hx, _⟩
  · refine (step1_is hM.ch hp (by simp)).mono ?_
    rintro e w' ⟨rfl, BA', A', XA', rv', hK, hcase⟩
    rcases hcase with ⟨_, hC, hp', kp, hf, hw⟩ | ⟨_, l', hC, hq⟩
    · exact ⟨false, rfl, A', BA', XA', 1, rv', lv, [], s + 1, hM.step hC hK, ⟨kp.n.trans hF.n, kp.ser.trans hF.ser, by rw [hw]; exact hF.wl, hf.trans hF.fin⟩, .inl ⟨rfl, rfl, hp', rfl, rfl, hm.keep kp.ref kp.liv⟩⟩
    · obtain ⟨rfl, hf⟩ := hq.nil hF.fin
      have hph := hq.ph
      rw [List.append_nil] at hph
      exact ⟨false, rfl, A', BA', XA', 2, rv', lv, [], s, hM.step hC hK, ⟨hq.kp.n.trans hF.n, hq.kp.ser.trans hF.ser, by rw [hq.weak]; exact hF.wl, hf⟩, .inr (.inl ⟨rfl, rfl, hph, rfl, rfl, hm.keep hq.kp.ref hq.kp.liv⟩)⟩
  · refine (step2_is hM.ch hp (by simp)).mono ?_
    rintro e w' ⟨b, BA', A', XA', lv', rfl, hK, hcase⟩
    rcases hcase with ⟨rfl, _, hC, hp', kp, hf, hw⟩ | ⟨rfl, hk, ls0, hC, hq⟩
    · exact ⟨false, rfl, A', BA', XA', 2, rv, lv', [], k + 1, hM.step hC hK, ⟨kp.n.trans hF.n, kp.ser.trans hF.ser, by rw [hw]; exact hF.wl, hf.trans hF.fin⟩, .inr (.inl ⟨rfl, rfl, hp', rfl, rfl, hm.keep kp.ref kp.liv⟩)⟩
    · have hr := hM.ch.ha.rep
      have hls := lo_lost hp hF.ser hF.wl hk hr hp.ga hm hq
      have hlc : A'.cur.length = A.cur.length := by have := congrArg List.length hq.plc; simpa [plc] using this
      have hF' : LoF A' := by
        obtain ⟨stw, stf, l1, l2, s', h0, h1, h2, h3, h4, h5, h6⟩ := hq.set
        have hl1 := lo_weak hp hF.ser hk hr hm.clo2 h3
        have hlen := h3.len
        rw [hl1, hF.wl] at hlen
        exact ⟨hq.n.trans hF.n, hq.ser.trans hF.ser, by rw [h2]; simpa using hlen, by rw [h1]; exact (h4.nil_inv hF.fin).1⟩
      exact ⟨true, rfl, A', BA', XA', 0, rv, lv', [] ++ ls0, 0, hM.step hC hK, hF', .inr (.inr ⟨rfl, rfl, hq.pr, hq.ga, hq.old, hq.mv, by omega, by rw [List.nil_append]; exact hls⟩)⟩
  · cases hx
/-- Between two collections: i are done; at n the target is let go of. -/
def LoI (w : World) (c hp0 i n at_ w_ : Nat) (wr : World) : Prop :=
  ∃ A BA XA rv, LoM w c hp0 BA A XA 0 rv (.slice none 0 0) [] [] wr ∧ LoF A ∧ A.mv = false ∧ A.old = [] ∧
    ((i ≤ n ∧ Pair sg A bS [w_, at_, 0, 0] [5, 1, 0, 0] 4) ∨ (n < i ∧ at_ = 0 ∧ Pair sg A bS [w_, 0, 0, 0] [5, 0, 0, 0] 4 ∧ ¬ LS A 1 ∧ Gath A [w_, 0, 0, 0]))
/-- A collection begins. -/
theorem lo_start {i n at_ w_ : Nat} {A : HS} {XA : List Nat} (hM : HRep A XA) (hF : LoF A) (hmv : A.mv = false) (hold : A.old = [])
    (hc : (i ≤ n ∧ Pair sg A bS [w_, at_, 0, 0] [5, 1, 0, 0] 4) ∨ (n < i ∧ at_ = 0 ∧ Pair sg A bS [w_, 0, 0, 0] [5, 0, 0, 0] 4 ∧ ¬ LS A 1 ∧ Gath A [w_, 0, 0, 0])) {b : Nat} (hb : b = if n ≤ i then 0 else at_) :
    ∃ md S, (md = 1 ↔ i = n) ∧ (md = 0 ↔ i < n) ∧ Pair sg A bS [w_, b, 0, 0] S 4 ∧ MdOk md A S := by
  rcases hc with ⟨h1, hp⟩ | ⟨h1, h2, hp, hl, _⟩
  · rcases Nat.lt_or_ge i n with h | h
    · rw [if_neg (by omega)] at hb
      subst hb
      exact ⟨0, _, by omega, by omega, hp, .inl ⟨rfl, rfl⟩⟩
    · rw [if_pos h] at hb
      subst hb
      have hp2 := hp.set (i := 1) (q := 0) (q' := 0) (n := 0) (by decide) (.inl rfl) (Nat.zero_le _) (.inl ⟨rfl, rfl⟩) (.inl ⟨rfl, rfl⟩)
      refine ⟨1, [5, 0, 0, 0], by omega, by omega, hp2, .inr (.inl ⟨rfl, rfl, at_, ?_⟩)⟩
      obtain ⟨k, k1, k2, k3⟩ := hp.rg.ref 1 (by decide)
      have hk : k = 1 := Ref.unique hp.tw.wb (show Ref bS 1 k from k3) bS_1
      subst hk
      exact k2
  · rw [if_pos (by omega)] at hb
    subst hb
    exact ⟨2, _, by omega, by omega, hp, .inr (.inr ⟨rfl, rfl, hl⟩)⟩
theorem lo_moved {A A1 : HS} {X S l1 : List Nat} {a b : Nat} (hp : Pair sg A bS [a, b, 0, 0] S 4) (hA : HRep A X) (hm : A.mv = false) (g : GoesL A.flip [a, b] A1 l1) : ∃ a' b', l1 = [a', b'] ∧ PhS sg A1 bS [a', b', 0, 0] S 4 [a', b', 0, 0] 0 := by
  have hrf := hA.flip hm
  have h0 := PhS.flip hp hA hm
  have h2 := h0.movedK hrf 2 (by decide) (A' := A1) (l' := l1) g
  have hlen := g.len
  obtain ⟨a', b', rfl⟩ : ∃ a' b', l1 = [a', b'] := by
    match l1, hlen with
    | [x, y], _ => exact ⟨x, y, rfl⟩
  obtain ⟨X1, hr1⟩ := g.rep hrf
  have hz : 0 ∉ opl A1.old := fun e => by
    obtain ⟨x, hx, e⟩ := List.mem_map.1 e
    have := h2.pr.tw.wa.posO x hx
    omega
  have h3 : PhS sg A1 bS [a', b', 0, 0] S 3 [a', b', 0] 0 := h2.moved hr1 (by decide) (q := 0) (.stay hz)
  have h4 : PhS sg A1 bS [a', b', 0, 0] S 4 [a', b', 0, 0] 0 := h3.moved hr1 (by decide) (q := 0) (.stay hz)
  exact ⟨a', b', rfl, h4⟩

theorem lo_next {A : HS} {XA : List Nat} {R S : List Nat} {md i n a b : Nat} (hr : HRep A XA) (hF : LoF A) (hold : A.old = []) (hP : Pair sg A bS [a, b, 0, 0] S 4) (hg : Gath A [a, b, 0, 0]) (hm0 : md = 0 ↔ i < n) (hS0 : md = 0 → S = [5, 1, 0, 0]) (hS1 : md ≠ 0 → S = [5, 0, 0, 0]) :
    (i + 1 ≤ n ∧ Pair sg A bS [a, b, 0, 0] [5, 1, 0, 0] 4) ∨ (n < i + 1 ∧ b = 0 ∧ Pair sg A bS [a, 0, 0, 0] [5, 0, 0, 0] 4 ∧ ¬ LS A 1 ∧ Gath A [a, 0, 0, 0]) := by
  by_cases h : md = 0
  · have := hS0 h
    subst this
    exact .inl ⟨by have := hm0.1 h; omega, hP⟩
  · have := hS1 h
    subst this
    have hb : b = 0 := by
      obtain ⟨k, k1, k2, k3⟩ := hP.rg.ref 1 (by decide)
      have hk : k = 0 := (Ref.pos hP.tw.wb (show Ref bS 0 k from k3)).1 rfl
      subst hk
      exact (Ref.pos hP.tw.wa (show Ref A b 0 from k2)).2 rfl
    subst hb
    refine .inr ⟨by have := fun e => h (hm0.2 e); omega, rfl, hP, ?_, hg⟩
    rintro ⟨x, u, h1, h2⟩
    have hc : (x, u) ∈ A.cur := by
      rcases h1 with h1 | h1
      · exact h1
      · rw [hold] at h1; cases h1
    have := clo0 hP (Gath.clo hP (by rw [hF.ser, bS_ser]) (fun m h => sg_id m (by rw [bS_ser] at h; exact h)) hg x u hc)
    omega
theorem MdOk.s0 {md : Nat} {A : HS} {S : List Nat} (h : MdOk md A S) : (md = 0 → S = [5, 1, 0, 0]) ∧ (md ≠ 0 → S = [5, 0, 0, 0]) := by
  rcases h with ⟨rfl, h⟩ | ⟨rfl, h, _⟩ | ⟨rfl, h, _⟩
  · exact ⟨fun _ => h, fun e => absurd rfl e⟩
  · exact ⟨fun e => (by cases e), fun _ => h⟩
  · exact ⟨fun e => (by cases e), fun _ => h⟩
/-- The end: the weak object alone is left, its pointer 0. -/
theorem lo_end {A : HS} {XA : List Nat} {a : Nat} (hr : HRep A XA) (hF : LoF A) (hold : A.old = []) (hP : Pair sg A bS [a, 0, 0, 0] [5, 0, 0, 0] 4) (hl : ¬ LS A 1) (hg : Gath A [a, 0, 0, 0]) : A.room = 56 ∧ ∃ i o, CurAt A i a o ∧ 0 < o.p ∧ o.ps.getD 0 0 = 0 := by
  have hs' : A.ser = bS.ser := by rw [hF.ser, bS_ser]
  have hi : ∀ m, m ≤ bS.ser → sg m = m := fun m h => sg_id m (by rw [bS_ser] at h; exact h)
  have hser : ∀ x o, (x, o) ∈ A.cur → o.ser = 2 := fun x o ho => clo0 hP (Gath.clo hP hs' hi hg x o ho)
  obtain ⟨k, k1, k2, k3⟩ := hP.rg.ref 0 (by decide)
  have hk : k = 2 := Ref.unique hP.tw.wb (show Ref bS 5 k from k3) bS_5
  subst hk
  have k2 : Ref A a 2 := k2
  obtain ⟨o, ho, hos⟩ : ∃ o, (a, o) ∈ A.cur ∧ o.ser = 2 := by
    rcases k2 with ⟨_, h⟩ | h | ⟨o, m, h, _⟩
    · cases h
    · exact h
    · rw [hold] at h; cases h
  have hone : ∀ y ∈ A.cur, y = (a, o) := fun y hy => hP.tw.wa.unC y hy _ ho (by rw [hser y.1 y.2 hy, hos])
  obtain ⟨q', u, u1, u2, u3, u4⟩ := obj_id hP hs' hi (.inl ho)
  have hu : u = oW1 := by
    rcases bS_cur u1 with ⟨_, rfl⟩ | ⟨_, rfl⟩
    · have : oT.ser = 1 := rfl; omega
    · rfl
  subst hu
  have htk : o.took = 4 := by
    have h1 : oW1.took = o.took := by unfold Ob.took Ob.size; rw [u3.p, u3.d]
    rw [← h1, Ob.took]
    exact congrArg Int.toNat (show rnd 4 = 4 by decide)
  have hp1 : o.p = 1 := by have := u3.p; have h9 : oW1.p = 1 := rfl; omega
  constructor
  · have hlen : A.cur.length ≤ 1 := by
      have hn := plc_nodup hr
      have := nodup_length (U := [a]) hn (fun x hx => by
        obtain ⟨y, hy, e⟩ := List.mem_map.1 hx
        rw [hone y hy] at e
        simp [← e])
      simpa [plc] using this
    have hcur : A.cur = [(a, o)] := by
      rcases hc : A.cur with _ | ⟨y, l⟩
      · rw [hc] at ho; cases ho
      · have h1 := hone y (by rw [hc]; simp)
        rw [hc] at hlen
        have : l = [] := by simpa using hlen
        rw [this, h1]
    unfold HS.room
    rw [hold, hF.n, hcur]
    show (60 : Int) - ((o.took + 0 : Nat) : Int) - _ = 56
    rw [htk]
    simp [owed]
  · obtain ⟨i, hi2, e⟩ := mem_get ob0 ho
    refine ⟨i, o, ⟨hi2, e⟩, by omega, ?_⟩
    obtain ⟨k', h1, h2⟩ := u4 0 (by omega)
    have hk1 : k' = 1 := Ref.unique hP.tw.wb (show Ref bS 1 k' from h1) bS_1
    subst hk1
    rcases h2 with h2 | ⟨_, h2, _⟩
    · exfalso
      rcases h2 with ⟨_, h⟩ | ⟨o2, h, e2⟩ | ⟨o2, m, h, _⟩
      · cases h
      · exact hl ⟨_, o2, .inl h, e2⟩
      · rw [hold] at h; cases h
    · exact h2

set_option maxRecDepth 100000 in
set_option maxHeartbeats 16000000 in
theorem cycleLost_walk (many : Int) (hmany : I64 many) (w : World) :
    Calls Try.prog 4 #[.int .i64 many] w fun e w' => e = .returned (.bool true) ∧ Below w.heap.size w w' := by
  obtain ⟨n, hn⟩ : ∃ n : Nat, pk many 4 = n := ⟨(pk many 4).toNat, by have := pk_range many (n := 4) (by omega); omega⟩
  have hn4 : n < 4 := by have := pk_range many (n := 4) (by omega); omega
  have hpk := hid (fun W => pick11 many 4 W hmany (by omega))
  rw [hn] at hpk
  have okT' := hid okT
  have okW' := hid okW
  clear hn hmany
  go_enter Try.func4, Try.ntmps4
  go_wp2_with fail
  refine (awake11 _).mono ?_
  rintro e w0 ⟨rfl, c0⟩
  go_wp2_with fail
  refine (hnew_yes _ 60 (by decide) (by decide)).mono ?_
  rintro e w1 ⟨B, rfl, h1, c1, n1⟩
  replace h1 := hid h1
  go_wp2_with fail
  refine (cnew_yes _ B.hp).mono ?_
  rintro e w2 ⟨rfl, hy, c2⟩
  have hap : ∀ k, CyB w1.heap.size (.slice none 0 0) (.slice none 0 0) k → ¬ HBlk B k := fun k hk e => by
    have := h1.out.lt k e
    rcases hk with hk | hk | hk
    · omega
    · exact InB.nil _ hk
    · exact InB.nil _ hk
  have hlo : w.heap.size ≤ w1.heap.size := (c0.trans c1).size
  have hsz0 := c0.size
  obtain ⟨c, hc⟩ : ∃ c, w1.heap.size = c := ⟨_, rfl⟩
  rw [hc] at hy hap hlo ⊢
  have H2 := hid (⟨⟨h1.out.calm c2, hy, hap⟩, (c0.trans c1).trans c2, hlo, fun k hk => by have := n1 k hk; omega, rfl⟩ : LoM w c B.hp B (HS.start 60) _ 0 _ _ [] [] w2)
  clear hap hy hc n1 c0 c1 c2 hlo hsz0 h1
  go_wp2_with fail
  have C := halloc_yes H2.out.ch.ha okT'.out (by show rnd 4 ≤ (60 : Int) - ((0 : Nat) : Int) - ((0 : Nat) : Int); decide) (by show 0 < 1099511627776; decide) ⟨by show 0 < 100000; decide, by show 0 < 100000; decide⟩
  refine (C).mono ?_
  rintro e w3 ⟨rfl, B3, X3, h3, k3⟩
  rw [show ((HS.start 60).top : Int) = 1 from rfl]
  have H3 := hid (H2.out.step (H2.out.ch.stepA (A' := hT 60) h3 k3) (CKeep.stepA k3))
  have e3 := k3.hp
  clear C h3 k3 H2
  go_wp2_with fail
  have C := halloc_yes H3.out.ch.ha okW'.out (by show rnd 4 ≤ (60 : Int) - ((oT.took + 0 : Nat) : Int) - ((0 : Nat) : Int); rw [oT_took]; decide) (by show 1 < 1099511627776; decide) ⟨by show 0 < 100000; decide, by show 0 < 100000; decide⟩
  rw [show hpV B3 = hpV B by unfold hpV; rw [e3], hT_top] at C
  refine (C).mono ?_
  rintro e w4 ⟨rfl, B4, X4, h4, k4⟩
  rw [show (((5 : Nat)) : Int) = 5 from rfl]
  have H4 := hid (H3.out.step (H3.out.ch.stepA (A' := hW 60) h4 k4) (CKeep.stepA k4))
  have e4 := k4.hp.trans e3
  clear C h4 k4 H3
  have hd : CurAt (hW 60) 1 5 oW := ⟨by rw [hW_eq]; show 1 < 2; decide, by rw [hW_eq]; rfl⟩
  have C := hsetptr_if H4.out.ch.ha hd (bp := true) (k := 0) (v := 1) (.inl ⟨rfl, by decide, by decide⟩) (.inr (by rw [hW_eq]; simp [plc])) (by decide)
  rw [show hpV B4 = hpV B by unfold hpV; rw [e4]] at C
  replace C := hid C
  clear hd
  go_wp2_with fail
  refine (C.out).mono ?_
  rintro e w5 ⟨rfl, X5, h5, k5⟩
  have H5 := hid (H4.out.step (H4.out.ch.stepA (A' := hS 60) h5 k5) (CKeep.stepA k5))
  clear C h5 k5 H4
  go_wp2_with fail
  refine (hpk.out _).mono ?_
  rintro e w6 ⟨rfl, rfl⟩
  have hI0 : Hid (LoI w c B.hp 0 n 1 5 w5) := ⟨hS 60, B4, X5, _, H5.out, ⟨by rw [hS_eq], by rw [hS_eq], by rw [hS_eq]; rfl, by rw [hS_eq]⟩, by rw [hS_eq], by rw [hS_eq], .inl ⟨Nat.zero_le _, lost_pair⟩⟩
  clear H5 hpk okT' okW' e3 e4
  obtain ⟨hp0, hhp⟩ : ∃ h, B.hp = h := ⟨_, rfl⟩
  rw [hhp] at hI0
  rw [show hpV B = pV hp0 by unfold hpV; rw [hhp]]
  clear hhp
  go_wp2_with fail
  go_loopw [7, 9, 12] (fun x7 x9 x12 wz => ∃ i at_ w_ : Nat, i ≤ n + 3 ∧ x7 = .int .i64 at_ ∧ x9 = .int .i64 w_ ∧ x12 = .int .i64 i ∧ LoI w c hp0 i n at_ w_ wz) (fun _ _ x _ => n + 3 - (intOf x).toNat)
  case atStart => exact ⟨0, 1, 5, by omega, rfl, rfl, rfl, hI0.out⟩
  case round =>
    clear hI0
    obtain ⟨i, at_, w_, hi, rfl, rfl, rfl, A, BA, XA, rv, hM, hF, hmv, hold, hcase⟩ := hrel
    rcases Nat.lt_or_ge i (n + 3) with hlt | hge
    · obtain ⟨b, hb⟩ : ∃ b, b = if n ≤ i then 0 else at_ := ⟨_, rfl⟩
      obtain ⟨md, S, hm1, hm0, hP, hMd⟩ := lo_start hM.ch.ha.rep hF hmv hold hcase hb
      replace hP := hid hP
      replace hMd := hid hMd
      replace hM := hid hM
      replace hF := hid hF
      clear hcase
      go_upto_if 72 with fail
      go_cut [7] (fun s7 wx => wr = wx ∧ s7 = .int .i64 b)
      case first =>
        by_cases h : n ≤ i
        · rw [if_pos h] at hb
          subst hb
          have h' : (n : Int) ≤ (i : Int) := by omega
          go_wp2_with fail
          go_meet
          exact ⟨rfl, rfl⟩
        · rw [if_neg h] at hb
          subst hb
          have h' : ¬ (n : Int) ≤ (i : Int) := by omega
          go_wp2_with fail
          go_meet
          exact ⟨rfl, rfl⟩
      case rest =>
        obtain ⟨rfl, rfl⟩ := hcut
        clear hb
        have hlit := ORow.lit wr 0 [((w_ : Nat) : Int), ((b : Nat) : Int)] (Nat.zero_le _) (by simp)
        have ca : Calm wr (wr.alloc (.cells (iVs [((w_ : Nat) : Int), ((b : Nat) : Int)]).toArray 3)) := (Fr.refl _ _).alloc _
        have hst := hid (start_yes (hM.out.ch.calm ca) hmv (v := .slice (some ⟨wr.heap.size, 0, none⟩) 2 2) (l := [w_, b]) (fun W f => (hlit.frB f (fun x hx e => by
          have hx := InB.mk1 hx
          subst hx
          rcases e with e | e
          · have := (hM.out.ch.cy.lt c (.inl rfl)).1; omega
          · have := hM.out.ch.ha.lt _ e; omega)).row) (fun p hp => by
            have h0 : Placed A w_ := hP.out.rg.here 0 (by decide)
            have h1 : Placed A b := hP.out.rg.here 1 (by decide)
            simp at hp
            rcases hp with rfl | rfl
            · exact h0.le hM.out.ch.ha.rep
            · exact h1.le hM.out.ch.ha.rep) (by simp) (fun p hp => by cases hp) (by simp))
        have hMa := hid (hM.out.calmR ca)
        have hfl := hid (flip_places hold)
        have hfv : Hid (∀ x u, Live A.flip x u → ∃ x0 u0, Live A x0 u0 ∧ u0.ser = u.ser) := fun x u h => ⟨x, u, (flip_live hold).1 h, rfl⟩
        have hrA := hid hM.out.ch.ha.rep
        have hwf := hid (hP.out.flip hM.out.ch.ha.rep hmv).tw.wa
        clear hlit ca hM
        go_wp2_with fail
        refine hst.out.mono ?_
        rintro e w5 ⟨u, A1, A2, l1, rd1, B5, X5, rv5, rfl, g1, g2, H5, k5, hu, hua⟩
        obtain ⟨rfl, rfl⟩ := g2.of_nil
        obtain ⟨a', b', rfl, hph⟩ := lo_moved hP.out hrA.out hmv g1
        obtain ⟨ua, uc, rfl⟩ := hu.sliceN (n := 2) rfl
        obtain ⟨gv, gc, hv, _, hg0, _⟩ := hu.get (k := 0) (by simp)
        injection hv with hv1 hv2 hv3
        subst hv1
        obtain ⟨gv1, gc1, hv', _, hg1, _⟩ := hu.get (k := 1) (by simp)
        injection hv' with hv1' hv2' hv3'
        injection hv1' with hv1'
        injection hv1' with hv1'
        subst hv1'
        have z0 : w5.cell? ⟨gv, 0, none⟩ = some (.int .i64 (a' : Nat)) := hg0
        have z1 : w5.cell? ⟨gv, 1, none⟩ = some (.int .i64 (b' : Nat)) := hg1
        have hs := g1.same
        have hS0 : Hid (LoS w c hp0 md [a', b', 0, 0] S 0 false w5) := ⟨A2, B5, X5, 1, rv5, .slice none 0 0, [], 0, hMa.out.step H5 k5, ⟨hs.1.trans hF.out.n, hs.2.2.2.2.1.trans hF.out.ser, by rw [hs.2.2.2.2.2.1]; exact hF.out.wl, hs.2.2.2.2.2.2.1.trans hF.out.fin⟩, .inl ⟨rfl, rfl, hph, rfl, rfl, (hMd.out.keep hfl.out hfv.out).keep (g1.refk (hrA.out.flip hmv) hwf.out).1 (g1.liv (hrA.out.flip hmv))⟩⟩
        have hS01 := hid hMd.out.s0
        clear hst g1 g2 H5 k5 hu hua hph hP hMd hMa hfl hfv hrA hwf hs hg0 hg1 hF hv2 hv3 hv2' hv3'
        go_wp2_with fail
        go_loopw [15, 16] (fun d x wz => ∃ s done, x = .int .i64 (s : Nat) ∧ d = .bool done ∧ LoS w c hp0 md [a', b', 0, 0] S s done wz) (fun _ x _ => 9 - (intOf x).toNat)
        case atStart => exact ⟨0, false, rfl, rfl, hS0.out⟩
        case round =>
          clear hS0
          obtain ⟨s, done, rfl, rfl, hS⟩ := hrel
          have hs4 := hS.lt
          have hs5 : s < 9 := by omega
          cases done
          · have hSs := hid hS.step
            clear hS
            go_wp2_with fail
            refine hSs.out.mono ?_
            rintro e w6 ⟨d1, rfl, hS1⟩
            replace hS1 := hid hS1
            clear hSs
            go_wp2
            go_roundw
            case rel => exact ⟨s + 1, d1, by go_num, rfl, hS1.out⟩
            case measure => simp [intOf]; omega
          · obtain ⟨A5, BA5, XA5, ph, rv6, lv6, ls6, k6, hM6, hF6, hc6⟩ := hS
            obtain ⟨rfl, _, hP6, hg6, hold6, hmv6, _, hls6⟩ : ph = 0 ∧ _ ∧ Pair sg A5 bS [a', b', 0, 0] S 4 ∧ Gath A5 [a', b', 0, 0] ∧ A5.old = [] ∧ A5.mv = false ∧ s ≤ A5.cur.length + 2 ∧ ls6 = (if md = 1 then [2] else []) := by
              rcases hc6 with ⟨_, e, _⟩ | ⟨_, e, _⟩ | h
              · cases e
              · cases e
              · exact h
            have hnx := hid (lo_next (R := []) hM6.ch.ha.rep hF6 hold6 hP6 hg6 hm0 hS01.out.1 hS01.out.2)
            have hLs := hid (lost_is hM6.ch.cy)
            have hEnd : Hid (∀ W, LoM w c hp0 BA5 A5 XA5 0 rv6 (.slice none 0 0) [] [] W → LoI w c hp0 (i + 1) n b' a' W) := fun W h => ⟨A5, BA5, XA5, rv6, h, hF6, hmv6, hold6, hnx.out⟩
            have hown := hid (fun W (f : Fr (fun k => k = c) wr W) (hy : CyAt W c c BA5.hp 0 rv6 (.slice none 0 0) [] []) => hM6.own f hy (fun j hj => by
              rcases hj with hj | hj | hj
              · exact .inl hj
              · exact .inr (.inl hj)
              · exact (InB.nil _ hj).elim))
            by_cases hmd : md = 1
            · rw [if_pos hmd] at hls6
              subst hls6
              have hin : (i : Int) = (n : Int) := by have := hm1.1 hmd; omega
              obtain ⟨la, lc, hlv⟩ := hM6.ch.cy.l.sliceN (n := 1) rfl
              rw [hlv] at hLs
              clear hM6 hP6 hg6 hc6 hF6 hnx hlv
              go_wp2_with fail
              refine hLs.out.mono ?_
              rintro e w7 ⟨rfl, hcy7, hr7, f7⟩
              obtain ⟨gl, gc2, hv, _, hgl, _⟩ := hr7.get (k := 0) (by simp)
              injection hv with hv1 hv2 hv3
              subst hv1
              have zl : w7.cell? ⟨gl, 0, none⟩ = some (.int .i64 2) := hgl
              have hI2 := hid (hEnd.out w7 (hown.out w7 f7 hcy7))
              clear hLs hcy7 hr7 f7 hown hEnd hgl hv2 hv3
              go_wp2
              go_roundw
              case rel => exact ⟨i + 1, b', a', by omega, rfl, rfl, by go_num, hI2.out⟩
              case measure => simp [intOf]; omega
            · rw [if_neg hmd] at hls6
              subst hls6
              have hin : ¬ (i : Int) = (n : Int) := by have := fun e => hmd (hm1.2 e); omega
              obtain ⟨la, lc, hlv⟩ := hM6.ch.cy.l.sliceN (n := 0) rfl
              rw [hlv] at hLs
              clear hM6 hP6 hg6 hc6 hF6 hnx hlv
              go_wp2_with fail
              refine hLs.out.mono ?_
              rintro e w7 ⟨rfl, hcy7, hr7, f7⟩
              have hI2 := hid (hEnd.out w7 (hown.out w7 f7 hcy7))
              clear hLs hcy7 hr7 f7 hown hEnd
              go_wp2
              go_roundw
              case rel => exact ⟨i + 1, b', a', by omega, rfl, rfl, by go_num, hI2.out⟩
              case measure => simp [intOf]; omega
    · obtain ⟨_, rfl, hP, hl, hg⟩ := hcase.resolve_left (fun h => by have := h.1; omega)
      obtain ⟨hroom, j, o, d, hop, hps⟩ := lo_end hM.ch.ha.rep hF hold hP hl hg
      have hPt := hptr_still hM.ch.ha hold d hop (.inl hps)
      have hhp := hM.hp
      rw [hps, show hpV BA = pV hp0 by unfold hpV; rw [hhp]] at hPt
      replace hPt := hid hPt
      have hcl := hid hM.calm
      have hbb := hid hM.hb
      clear hcase hP hl hg hM hF
      go_wp2_with fail
      refine (hPt.out).mono ?_
      rintro e w7 ⟨rfl, B7, X7, h7, k7⟩
      have hRm := room_is h7
      rw [hroom, show hpV B7 = pV hp0 by unfold hpV; rw [k7.hp, hhp]] at hRm
      have hcl7 : Hid (Calm w w7) := hcl.out.join k7.fr (fun j hj e => by have := hbb.out j e; omega)
      replace hRm := hid hRm
      clear hPt h7 k7 hcl hroom
      go_wp2_with fail
      refine (hRm.out).mono ?_
      rintro e w8 ⟨rfl, c8⟩
      have hc8 : Hid (Calm w w8) := hcl7.out.trans c8
      clear hRm c8
      go_wp2
      go_ret
      exact ⟨rfl, (show Calm w w8 from hc8.out).below⟩

end Go.Proofs.Ytiomemdmhcdpbaa
