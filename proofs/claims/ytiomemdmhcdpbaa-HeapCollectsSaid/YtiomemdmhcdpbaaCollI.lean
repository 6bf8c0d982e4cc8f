/- What holds while the twins' first heap is collected as a whole. -/
import Derived.Test.YtiomemdmhcdpbaaTwI
set_option linter.unusedSimpArgs false
set_option linter.unusedVariables false
namespace Go.Proofs.Ytiomemdmhcdpbaa
open Go.RowKit Go.Shelf

/-- A whole row appended, at a step of a region that draws its order. -/
theorem step_appL {ops : Array Oper} {o : Oper} {a : Act} {w : World} {K : Act → World → Prop} {Q : Exit → Act → World → Prop} {E : Prop} (hgd : o.guard = none) (s x : Operand)
    (ho : o.op = .call { callee := .builtin .append, args := #[s, x], argTypes := #[23, 23] })
    (base : Nat) (v : Value) (l : List Int) (hown : ORow w base v l) (hs : a.eval s = v) (u : Value) (r : List Int) (hr : Row w u (iVs r)) (hx : a.eval x = u) (hl : l.length + r.length ≤ 1000000) (hbase : base ≤ w.heap.size)
    (h : ∀ v' w', ORow w' base v' (l ++ r) → Fr (InB v) w w' → (∀ b, InB v' b → InB v b ∨ w.heap.size ≤ b) → K (a.put o.dst v') w') :
    if Region.wanted o (yielded ops a.tmps) = true then Oper.wp Try.prog o a w K Q else E := by
  obtain ⟨A, c, rfl, hA⟩ := hr
  have hlen : (iVs r).length = r.length := by simp
  rw [hlen] at hx
  rcases A with _ | ad
  · obtain rfl : r = [] := by
      rcases hA with hA | ⟨b, off, hb, _⟩
      · simpa using hA
      · cases hb
    have hw : Region.wanted o (yielded ops a.tmps) = true := by simp [Region.wanted, hgd]
    rw [if_pos hw]
    have hrun := run_app_none hown o.type c
    unfold Oper.wp execOp
    simp only [ho, resolve, invoke, builtin, Sem.run_bind, Sem.run_pure, Result.andThen_ok, List.map_toArray, List.map_cons, List.map_nil, hs, hx, List.length_nil, hrun]
    exact h v w (by simpa using hown) (Fr.refl _ _) (fun b hb => .inl hb)
  · obtain ⟨i0, hi, hz0, hz1, hz2⟩ := info_parts info_int
    have hw : Region.wanted o (yielded ops a.tmps) = true := by simp [Region.wanted, hgd]
    rw [if_pos hw]
    obtain ⟨v', w', hrun, hown', hgrow, _, hloc⟩ := run_append_own_at (P := Try.prog) w base 23 o.type 3 i0 (.int .i64 0) 1 8 Try.underlying23 hi hz0 hz1 hz2 rfl (by decide) v l.length (iVs l) hown ad r.length c (iVs r) (by simp) (fun j y hj => by
      have hjl : j < (iVs r).length := (List.getElem?_eq_some_iff.1 hj).1
      rcases hA with hA | ⟨b, off, hb, hc⟩
      · rw [hA] at hjl; simp at hjl
      · cases hb
        rw [addr_at, hc j hjl]
        rw [List.getElem?_eq_getElem hjl] at hj
        exact hj) (by simp [Value.oneCell']) (by unfold maxLen; omega) (by omega) hbase
    unfold Oper.wp execOp
    simp only [ho, resolve, invoke, builtin, Sem.run_bind, Sem.run_pure, Result.andThen_ok, List.map_toArray, List.map_cons, List.map_nil, hs, hx, hrun]
    refine h v' w' ?_ (Fr.grown (Fr.refl _ _) hgrow (fun k hk => .inl hk)) ?_
    · show World.ownsRow _ _ _ _ _ _ _
      rw [List.length_append, iVs, List.map_append]
      exact hown'
    · intro b hb
      rcases hloc with hloc | hloc
      · exact .inl (hloc.symm.trans hb)
      · right
        have : some w.heap.size = some b := hloc.symm.trans hb
        injection this with this; omega

theorem GoesL.of_nil' {s s' : HS} {l l' : List Nat} (g : GoesL s l s' l') : l = [] → s' = s := by
  cases g with
  | nil => intro _; rfl
  | snoc h g => intro e; simp at e
theorem GoesL.of_nil {s s' : HS} {l' : List Nat} (g : GoesL s [] s' l') : s' = s := g.of_nil' rfl
/-- Places of a list, all registers'. -/
def InR (G R : List Nat) (m : Nat) : Prop := ∀ q ∈ G, ∃ i, i < m ∧ R.getD i 0 = q
theorem InR.nil (R : List Nat) (m : Nat) : InR [] R m := fun q hq => by cases hq
theorem InR.snoc {G R : List Nat} {m q : Nat} (h : InR G R m) (hm : m < R.length) : InR (G ++ [q]) (R.set m q) (m + 1) := fun x hx => by
  rcases List.mem_append.1 hx with hx | hx
  · obtain ⟨i, hi, e⟩ := h x hx
    exact ⟨i, by omega, by rw [getD_set_r hm, if_neg (by omega)]; exact e⟩
  · have : x = q := by simpa using hx
    subst this
    exact ⟨m, by omega, by rw [getD_set_r hm, if_pos rfl]⟩
theorem InR.mem {G R : List Nat} {m : Nat} (h : InR G R m) (hm : m ≤ R.length) : ∀ q ∈ G, q ∈ R := fun q hq => by
  obtain ⟨i, hi, e⟩ := h q hq
  rw [← e]; exact get_mem' 0 (by omega)

/-- Twins, the first of which is collected: m registers moved, k objects scanned, come to from G. -/
structure CoS (b0 T n hpa hpb : Nat) (σ : Nat → Nat) (A B : HS) (R S : List Nat) (BA BB : HB) (XA XB : List Nat) (m : Nat) (G : List Nat) (k : Nat) (wr : World) : Prop where
  tw : TwAt wr b0 T BA BB A B XA XB R S
  ph : PhS σ A B R S m G k
  n : A.n = n
  ser : A.ser = B.ser
  id_ : ∀ m, m ≤ B.ser → σ m = m
  hpa : BA.hp = hpa
  hpb : BB.hp = hpb
theorem CoS.calm {b0 T n hpa hpb : Nat} {σ : Nat → Nat} {A B : HS} {R S : List Nat} {BA BB : HB} {XA XB : List Nat} {m : Nat} {G : List Nat} {k : Nat} {wr w' : World} (h : CoS b0 T n hpa hpb σ A B R S BA BB XA XB m G k wr) (c : Calm wr w') : CoS b0 T n hpa hpb σ A B R S BA BB XA XB m G k w' :=
  ⟨h.tw.calm c, h.ph, h.n, h.ser, h.id_, h.hpa, h.hpb⟩
/-- A heap that moves is one whose collection has come somewhere. -/
theorem PhS.any {σ : Nat → Nat} {A B : HS} {R S : List Nat} {m : Nat} (h : Pair σ A B R S m) (hm : A.mv = true) : ∃ k, PhS σ A B R S m (plc A.cur) k := by
  obtain ⟨k, k1, k2, _⟩ := h.ca.scan hm
  exact ⟨k, h, fun q hq => .root hq hq, ⟨k1, k2⟩, hm⟩
theorem PhS.flip {σ : Nat → Nat} {A B : HS} {R S X : List Nat} (h : Pair σ A B R S 4) (hA : HRep A X) (hm : A.mv = false) : PhS σ A.flip B R S 0 [] 0 :=
  ⟨h.flip hA hm, Gath.flip, Prog.flip, rfl⟩
theorem PhS.moved {σ : Nat → Nat} {A A' B : HS} {R S G X : List Nat} {m k q : Nat} (h : PhS σ A B R S m G k) (hA : HRep A X) (hm : m < 4) (g : Goes A (R.getD m 0) A' q) : PhS σ A' B (R.set m q) S (m + 1) (G ++ [q]) k :=
  ⟨h.pr.moved hA hm g, h.ga.goes g, h.pg.goes g, g.same.2.2.1.trans h.mv⟩
/-- Registers being moved. -/
def MvS (b0 T n hpa hpb : Nat) (w1 : World) (m : Nat) (wr : World) : Prop :=
  ∃ σ A B R S BA BB XA XB G, CoS b0 T n hpa hpb σ A B R S BA BB XA XB m G 0 wr ∧ InR G R m ∧ From b0 w1 wr ∧ B.ser ≤ 40
/-- What was told of is gathered: j rounds of Scan and Finals. -/
structure GaS (b0 T n hpa hpb : Nat) (w1 : World) (G0 : List Nat) (σ : Nat → Nat) (A B : HS) (R S : List Nat) (BA BB : HB) (XA XB : List Nat) (k : Nat) (told : List Nat) (v : Value) (j : Nat) (wr : World) : Prop where
  co : CoS b0 T n hpa hpb σ A B R S BA BB XA XB 4 (G0 ++ told) k wr
  row : ORow wr b0 v (nI told)
  apr : ∀ b, InB v b → ¬ HBlk BA b ∧ ¬ HBlk BB b ∧ b ≠ T
  pl : ∀ q ∈ told, Placed A q
  fn : 1 ≤ j → (∀ q ∈ A.fin, q ∈ plc A.cur) ∧ (j ≤ k + 1 ∨ k = A.cur.length)
  z : j = 0 → told = []
  len : told.length ≤ 1000
  fr : From b0 w1 wr
  bs : B.ser ≤ 40
theorem GaS.start {b0 T n hpa hpb : Nat} {w1 : World} {G0 : List Nat} {σ : Nat → Nat} {A B : HS} {R S : List Nat} {BA BB : HB} {XA XB : List Nat} {k : Nat} {wr : World} (h : CoS b0 T n hpa hpb σ A B R S BA BB XA XB 4 G0 k wr) (f : From b0 w1 wr) (hb : B.ser ≤ 40) : GaS b0 T n hpa hpb w1 G0 σ A B R S BA BB XA XB k [] (.slice none 0 0) 0 wr :=
  ⟨by rw [List.append_nil]; exact h, ORow.nil _ _, fun b hb => (InB.nil b hb).elim, fun q hq => (by cases hq), fun h => (by omega), fun _ => rfl, by simp, f, hb⟩
theorem GaS.scan {b0 T n hpa hpb : Nat} {w1 : World} {G0 : List Nat} {σ : Nat → Nat} {A B : HS} {R S : List Nat} {BA BB : HB} {XA XB : List Nat} {k : Nat} {told : List Nat} {v : Value} {j : Nat} {wr w' : World} {e : Ending} (h : GaS b0 T n hpa hpb w1 G0 σ A B R S BA BB XA XB k told v j wr) (o : ScanOut wr BA σ A B R S (G0 ++ told) k e w') :
    ∃ b A1 BA1 XA1 k1, e = .returned (.bool b) ∧ GaS b0 T n hpa hpb w1 G0 σ A1 B R S BA1 BB XA1 XB k1 told v j w' ∧ (1 ≤ j → j ≤ k1 ∨ k1 = A1.cur.length) := by
  obtain ⟨A1, BA1, XA1, k1, b, e1, hA, hK, ph, kp, hfin, hwk, hcase⟩ := o
  have hT := h.co.tw
  refine ⟨b, A1, BA1, XA1, k1, e1, ⟨⟨hT.stepA hA hK, ph, kp.n.trans h.co.n, kp.ser.trans h.co.ser, h.co.id_, hK.hp.trans h.co.hpa, h.co.hpb⟩, h.row.frB hK.fr (fun b hb => (h.apr b hb).1), fun b hb => ⟨fun e => ?_, (h.apr b hb).2⟩, fun q hq => (h.pl q hq).imp id (kp.sub q), fun hj => ⟨fun q hq => kp.sub q ((h.fn hj).1 q (hfin ▸ hq)), ?_⟩, h.z, h.len, h.fr.trans (TwAt.from_ hT.la hK), h.bs⟩, fun hj => ?_⟩
  · rcases hK.new b e with h1 | h1
    · exact (h.apr b hb).1 h1
    · have := (h.row.lt hb).2; omega
  · rcases (h.fn hj).2 with h1 | h1 <;> rcases hcase with ⟨_, c2, c3, c4⟩ | ⟨_, c2, c3⟩
    · subst c4; right; omega
    · left; omega
    · subst c4; right; omega
    · omega
  · rcases (h.fn hj).2 with h1 | h1 <;> rcases hcase with ⟨_, c2, c3, c4⟩ | ⟨_, c2, c3⟩
    · subst c4; right; omega
    · left; omega
    · subst c4; right; omega
    · omega
/-- Finals, then the append. -/
theorem GaS.finals {b0 T n hpa hpb : Nat} {w1 : World} {G0 : List Nat} {σ : Nat → Nat} {A B : HS} {R S : List Nat} {BA BB : HB} {XA XB : List Nat} {k : Nat} {told : List Nat} {v : Value} {j : Nat} {wr w' : World} {e : Ending} (h : GaS b0 T n hpa hpb w1 G0 σ A B R S BA BB XA XB k told v j wr) (hk : 1 ≤ j → j ≤ k ∨ k = A.cur.length) (o : FinalsOut wr BA σ A B R S (G0 ++ told) k e w') :
    ∃ u l', e = .returned u ∧ ORow w' wr.heap.size u (nI l') ∧ ORow w' b0 v (nI told) ∧ told.length + l'.length ≤ 1000 ∧ b0 ≤ w'.heap.size ∧
      ∀ v' w2, ORow w2 b0 v' (nI told ++ nI l') → Fr (InB v) w' w2 → (∀ b, InB v' b → InB v b ∨ w'.heap.size ≤ b) → ∃ A1 BA1 XA1, GaS b0 T n hpa hpb w1 G0 σ A1 B R S BA1 BB XA1 XB k (told ++ l') v' (j + 1) w2 := by
  obtain ⟨A1, BA1, XA1, st, lf, l', u, e1, hA, hK, hu, hun, ph, kp, hwk, hpl, hset, hgo, hfin, hsth⟩ := o
  have hT := h.co.tw
  have hT1 := hT.stepA hA hK
  have hrow := h.row.frB hK.fr (fun b hb => (h.apr b hb).1)
  have hlen : told.length + l'.length ≤ 1000 := by
    rcases Nat.eq_zero_or_pos j with hj | hj
    · have h1 := h.z hj
      have h2 := hgo.len
      have h3 := hset.len
      have h4 := h.co.ph.pr.ca.few.2
      have h5 := h.co.ser
      have h6 := h.bs
      rw [h1]; simp; omega
    · obtain ⟨q1, q2⟩ := hset.here hT.ha.rep (h.fn hj).1
      have h2 := hgo.len
      rw [q2] at h2
      have := h.len
      simp at h2
      rw [h2]; simp; omega
  refine ⟨u, l', e1, hu, hrow, hlen, ?_, fun v' w2 hv' f hn => ⟨A1, BA1, XA1, ⟨⟨?_, ?_, kp.n.trans h.co.n, kp.ser.trans h.co.ser, h.co.id_, hK.hp.trans h.co.hpa, h.co.hpb⟩, ?_, fun b hb => ?_, fun q hq => ?_, fun _ => ⟨fun q hq => ?_, ?_⟩, fun e => by omega, by rw [List.length_append]; exact hlen, ?_, h.bs⟩⟩⟩
  · have h1 := hT1.lt
    have h2 := hT1.cs.lt (by simp [twC])
    omega
  · have hb : ∀ b, InB v b → ¬ HBlk BA1 b := fun b hb e => by
      rcases hK.new b e with h1 | h1
      · exact (h.apr b hb).1 h1
      · have := (h.row.lt hb).2; omega
    exact ⟨hT1.ha.fr f (fun b h1 h2 => hb b h2 h1), hT1.hb.fr f (fun b h1 h2 => (h.apr b h2).2.1 h1), hT1.cs.fr f (fun h2 => (h.apr T h2).2.2 rfl), hT1.ab, hT1.ta, hT1.tb, hT1.la, hT1.lb, hT1.lt⟩
  · rw [← List.append_assoc]; exact ph
  · rw [nI, List.map_append]; exact hv'
  · rcases hn b hb with h1 | h1
    · refine ⟨fun e => ?_, (h.apr b h1).2⟩
      rcases hK.new b e with h2 | h2
      · exact (h.apr b h1).1 h2
      · have := (h.row.lt h1).2; omega
    · refine ⟨fun e => ?_, fun e => ?_, fun e => ?_⟩
      · have := hT1.ha.lt b e; omega
      · have := hT1.hb.lt b e; omega
      · have := hT1.cs.lt (by simp [twC]); omega
  · rcases List.mem_append.1 hq with h1 | h1
    · exact (h.pl q h1).imp id (kp.sub q)
    · exact hpl q h1
  · rw [hfin] at hq; exact kp.sub q (hsth q hq)
  · rcases Nat.eq_zero_or_pos j with hj | hj
    · left; omega
    · obtain ⟨q1, q2⟩ := hset.here hT.ha.rep (h.fn hj).1
      subst q2
      have : A1.cur = A.cur := by rw [hgo.of_nil]
      rw [this]
      rcases hk hj with h1 | h1
      · left; omega
      · right; exact h1
  · exact (h.fr.trans (TwAt.from_ hT.la hK)).trans (f.mono (fun b _ hb => (h.row.lt hb).1))
/-- Behind 400 rounds all is scanned. -/
theorem GaS.done {b0 T n hpa hpb : Nat} {w1 : World} {G0 : List Nat} {σ : Nat → Nat} {A B : HS} {R S : List Nat} {BA BB : HB} {XA XB : List Nat} {k : Nat} {told : List Nat} {v : Value} {j : Nat} {wr : World} (h : GaS b0 T n hpa hpb w1 G0 σ A B R S BA BB XA XB k told v j wr) (hj : 1 ≤ j) (hn : n + 8 ≤ 4 * j) : k = A.cur.length := by
  have h1 := h.co.tw.ha.rep.cur_few
  have h2 := h.co.n
  have h3 := h.co.ph.pg.1
  rcases (h.fn hj).2 with h4 | h4
  · omega
  · exact h4

end Go.Proofs.Ytiomemdmhcdpbaa
