/- ObjectSets: plain facts of two objects, told by their index. -/
import Derived.Test.YtoonimdohkbfgaaO3
import Derived.Deep.CutBlock
set_option linter.unusedSimpArgs false
set_option linter.unusedVariables false
namespace Go.Proofs.Ytoonimdohkbfgaa
open Go.RowKit Go.Shelf

/-- An object as the law's own arrays tell it. -/
structure ObjI (X pv : List Nat) (nv : List Int) (base a : Nat) (o : Ob) (p d : Nat) (wk fn : Bool) (ser : Nat) : Prop where
  at_ : At X a o
  ep : o.p = p
  ed : o.d = d
  ewk : o.wk = wk
  efn : o.fn = fn
  eser : o.ser = ser
  ps : ∀ f, f < p → pv.getD (base + f) 0 = o.ps.getD f 0
  ns : ∀ f, f < d → zt (o.ns.getD f 0) = nv.getD (base + f) 0
  lp : base + 8 ≤ pv.length
  ln : base + 8 ≤ nv.length

theorem getD_setI (xs : List Int) (i j : Nat) (v : Int) : (xs.set i v).getD j 0 = if i = j ∧ i < xs.length then v else xs.getD j 0 := by
  simp only [List.getD, List.getElem?_set]
  by_cases h : i = j
  · subst h
    by_cases h2 : i < xs.length
    · simp [h2]
    · simp [h2]
  · simp [h]

theorem ObjI.setPtr {X pv : List Nat} {nv : List Int} {base a : Nat} {o : Ob} {p d : Nat} {wk fn : Bool} {ser : Nat} (h : ObjI X pv nv base a o p d wk fn ser) {f v : Nat} (hf : f < p) (hp : p ≤ 8) (hv : v ≤ 131072) :
    ObjI (X.set (a + 3 + f) v) (pv.set (base + f) v) nv base a { o with ps := o.ps.set f v } p d wk fn ser := by
  have hl := h.at_.ok.lp
  have hp' := h.ep
  have hlp := h.lp
  refine ⟨h.at_.setPtr (by omega) hv, h.ep, h.ed, h.ewk, h.efn, h.eser, fun g hg => ?_, h.ns, by rw [List.length_set]; exact h.lp, h.ln⟩
  show _ = (o.ps.set f v).getD g 0
  rw [getD_set, getD_set]
  by_cases e : f = g
  · rw [if_pos (by omega), if_pos (by omega)]
  · rw [if_neg (by omega), if_neg (by omega)]; exact h.ps g hg

theorem ObjI.setNum {X pv : List Nat} {nv : List Int} {base a : Nat} {o : Ob} {p d : Nat} {wk fn : Bool} {ser : Nat} (h : ObjI X pv nv base a o p d wk fn ser) {f : Nat} {v : Int} (hf : f < d) (hp : d ≤ 8) (hv : I64 v) :
    ObjI (X.set (a + 3 + o.p + f) (zg v)) pv (nv.set (base + f) v) base a { o with ns := o.ns.set f (zg v) } p d wk fn ser := by
  have hl := h.at_.ok.ln
  have hd' := h.ed
  have hln := h.ln
  refine ⟨h.at_.setNum (by omega) (zg_lt hv), h.ep, h.ed, h.ewk, h.efn, h.eser, h.ps, fun g hg => ?_, h.lp, by rw [List.length_set]; exact h.ln⟩
  show zt ((o.ns.set f (zg v)).getD g 0) = _
  rw [getD_set, getD_setI]
  by_cases e : f = g
  · rw [if_pos (by omega), if_pos (by omega), zt_zg]
  · rw [if_neg (by omega), if_neg (by omega)]; exact h.ns g hg

theorem ObjI.setFreed {X pv : List Nat} {nv : List Int} {base a : Nat} {o : Ob} {p d : Nat} {wk fn : Bool} {ser : Nat} (h : ObjI X pv nv base a o p d wk fn ser) (fr : Bool) :
    ObjI (X.set a (hd o.p o.d o.wk o.fn fr)) pv nv base a { o with fr := fr } p d wk fn ser :=
  ⟨h.at_.setHead fr, h.ep, h.ed, h.ewk, h.efn, h.eser, h.ps, h.ns, h.lp, h.ln⟩

/-- What is set elsewhere. -/
theorem ObjI.farX {X pv : List Nat} {nv : List Int} {base a : Nat} {o : Ob} {p d : Nat} {wk fn : Bool} {ser : Nat} (h : ObjI X pv nv base a o p d wk fn ser) {k v : Nat} (hk : k < a ∨ a + (3 + p + d) ≤ k) :
    ObjI (X.set k v) pv nv base a o p d wk fn ser :=
  ⟨h.at_.far (by simp only [Ob.size, h.ep, h.ed]; exact hk), h.ep, h.ed, h.ewk, h.efn, h.eser, h.ps, h.ns, h.lp, h.ln⟩
theorem ObjI.farP {X pv : List Nat} {nv : List Int} {base a : Nat} {o : Ob} {p d : Nat} {wk fn : Bool} {ser : Nat} (h : ObjI X pv nv base a o p d wk fn ser) (hp : p ≤ 8) {i v : Nat} (hi : i < base ∨ base + 8 ≤ i) :
    ObjI X (pv.set i v) nv base a o p d wk fn ser :=
  ⟨h.at_, h.ep, h.ed, h.ewk, h.efn, h.eser, fun g hg => by rw [getD_set, if_neg (by omega)]; exact h.ps g hg, h.ns, by rw [List.length_set]; exact h.lp, h.ln⟩
theorem ObjI.farN {X pv : List Nat} {nv : List Int} {base a : Nat} {o : Ob} {p d : Nat} {wk fn : Bool} {ser : Nat} (h : ObjI X pv nv base a o p d wk fn ser) (hd : d ≤ 8) {i : Nat} {v : Int} (hi : i < base ∨ base + 8 ≤ i) :
    ObjI X pv (nv.set i v) base a o p d wk fn ser :=
  ⟨h.at_, h.ep, h.ed, h.ewk, h.efn, h.eser, h.ps, fun g hg => by rw [getD_setI, if_neg (by omega)]; exact h.ns g hg, h.lp, by rw [List.length_set]; exact h.ln⟩

theorem rep0 (n f : Nat) : (List.replicate n (0 : Nat)).getD f 0 = 0 := by
  simp only [List.getD, List.getElem?_replicate]; split <;> rfl
theorem rep0I (n f : Nat) : (List.replicate n (0 : Int)).getD f 0 = 0 := by
  simp only [List.getD, List.getElem?_replicate]; split <;> rfl

/-- The shapes of the two objects. -/
structure Shs where
  p : Nat → Nat
  d : Nat → Nat
  wk : Nat → Bool
  fn : Nat → Bool
/-- An object told by other words that are alike where it lies. -/
theorem ObjI.congr {X X' pv pv' : List Nat} {nv nv' : List Int} {base a : Nat} {o : Ob} {p d : Nat} {wk fn : Bool} {ser : Nat} (h : ObjI X pv nv base a o p d wk fn ser) (hl : X'.length = X.length)
    (hX : ∀ k, a ≤ k → k < a + (3 + p + d) → X'.getD k 0 = X.getD k 0) (hp8 : p ≤ 8) (hd8 : d ≤ 8) (hp : ∀ i, base ≤ i → i < base + 8 → pv'.getD i 0 = pv.getD i 0) (hn : ∀ i, base ≤ i → i < base + 8 → nv'.getD i 0 = nv.getD i 0)
    (l1 : pv'.length = pv.length) (l2 : nv'.length = nv.length) : ObjI X' pv' nv' base a o p d wk fn ser := by
  have hs : o.size = 3 + p + d := by simp only [Ob.size, h.ep, h.ed]
  refine ⟨h.at_.of_eq (by rw [hl]; exact h.at_.room) (fun i hi => hX _ (by omega) (by omega)), h.ep, h.ed, h.ewk, h.efn, h.eser, fun f hf => ?_, fun f hf => ?_, by rw [l1]; exact h.lp, by rw [l2]; exact h.ln⟩
  · rw [hp _ (by omega) (by omega)]; exact h.ps f hf
  · rw [hn _ (by omega) (by omega)]; exact h.ns f hf
/-- Where they lie. -/
structure ShOk (S : Shs) (N : Nat) : Prop where
  n : 3 + S.p 0 + S.d 0 = N
  p8 : ∀ J, J < 2 → S.p J ≤ 8
  d8 : ∀ J, J < 2 → S.d J ≤ 8
/-- Both objects. -/
structure SetsJ (b c N P M Q : Nat) (S : Shs) (X : List Nat) (O : Nat → Ob) (pv : List Nat) (nv : List Int) (w : World) : Prop where
  ar : Ar w b c X
  ob : ∀ J, J < 2 → ObjI X pv nv (J * 8) (J * N) (O J) (S.p J) (S.d J) (S.wk J) (S.fn J) (J + 1)
  oP : OwnL w P (pv.map fun x => Value.int .i64 (x : Nat))
  oM : OwnL w M (nv.map (Value.int .i64))
  oQ : OwnL w Q [.bool (O 0).fr, .bool (O 1).fr]
  lp : pv.length = 16
  ln : nv.length = 16
theorem SetsJ.calm {b c N P M Q : Nat} {S : Shs} {X : List Nat} {O : Nat → Ob} {pv : List Nat} {nv : List Int} {w w' : World} (h : SetsJ b c N P M Q S X O pv nv w) (k : Calm w w') : SetsJ b c N P M Q S X O pv nv w' :=
  ⟨h.ar.calm k, h.ob, h.oP.calm k, h.oM.calm k, h.oQ.calm k, h.lp, h.ln⟩
def SetsX (b c N P M Q : Nat) (S : Shs) (w : World) : Prop := ∃ X O pv nv, SetsJ b c N P M Q S X O pv nv w
theorem SetsX.calm {b c N P M Q : Nat} {S : Shs} {w w' : World} (h : SetsX b c N P M Q S w) (k : Calm w w') : SetsX b c N P M Q S w' := by
  obtain ⟨X, O, pv, nv, h⟩ := h
  exact ⟨X, O, pv, nv, h.calm k⟩
/-- Who is freed. -/
theorem SetsJ.fr {b c N P M Q : Nat} {S : Shs} {X : List Nat} {O : Nat → Ob} {pv : List Nat} {nv : List Int} {w : World} (h : SetsJ b c N P M Q S X O pv nv w) {J : Nat} (hJ : J < 2) : Own w Q J (.bool (O J).fr) := by
  rcases (by omega : J = 0 ∨ J = 1) with rfl | rfl
  · exact h.oQ 0 _ rfl
  · exact h.oQ 1 _ rfl
/-- One of them is turned. -/
theorem SetsJ.put {b c N P M Q : Nat} {S : Shs} {X X' : List Nat} {O : Nat → Ob} {pv pv' : List Nat} {nv nv' : List Int} {w w' : World} (h : SetsJ b c N P M Q S X O pv nv w) (hN : ShOk S N) {K : Nat} (hK : K < 2) {o : Ob} (ar : Ar w' b c X')
    (ho : ObjI X' pv' nv' (K * 8) (K * N) o (S.p K) (S.d K) (S.wk K) (S.fn K) (K + 1)) (hl : X'.length = X.length) (hX : ∀ k, k < K * N ∨ K * N + (3 + S.p K + S.d K) ≤ k → X'.getD k 0 = X.getD k 0)
    (hp : ∀ i, i < K * 8 ∨ K * 8 + 8 ≤ i → pv'.getD i 0 = pv.getD i 0) (hn : ∀ i, i < K * 8 ∨ K * 8 + 8 ≤ i → nv'.getD i 0 = nv.getD i 0) (l1 : pv'.length = 16) (l2 : nv'.length = 16)
    (oP : OwnL w' P (pv'.map fun x => Value.int .i64 (x : Nat))) (oM : OwnL w' M (nv'.map (Value.int .i64))) (oQ : OwnL w' Q ([.bool (O 0).fr, .bool (O 1).fr].set K (.bool o.fr))) : SetsX b c N P M Q S w' := by
  refine ⟨X', fun J => if J = K then o else O J, pv', nv', ar, fun J hJ => ?_, oP, oM, ?_, l1, l2⟩
  · by_cases e : J = K
    · subst e; rw [if_pos rfl]; exact ho
    · rw [if_neg e]
      have h0 := hN.n
      refine (h.ob J hJ).congr hl (fun k k1 k2 => hX k ?_) (hN.p8 J hJ) (hN.d8 J hJ) (fun i i1 i2 => hp i (by omega)) (fun i i1 i2 => hn i (by omega)) (by rw [l1, h.lp]) (by rw [l2, h.ln])
      rcases (by omega : (J = 0 ∧ K = 1) ∨ (J = 1 ∧ K = 0)) with ⟨rfl, rfl⟩ | ⟨rfl, rfl⟩ <;> omega
  · rcases (by omega : K = 0 ∨ K = 1) with rfl | rfl
    · exact oQ
    · exact oQ
theorem getD_setN (xs : List Nat) (i j v : Nat) (h : i ≠ j) : (xs.set i v).getD j 0 = xs.getD j 0 := by
  rw [getD_set, if_neg (by omega)]
theorem getD_setZ (xs : List Int) (i j : Nat) (v : Int) (h : i ≠ j) : (xs.set i v).getD j 0 = xs.getD j 0 := by
  rw [getD_setI, if_neg (by omega)]

section
variable {b c N P M Q : Nat} {S : Shs} {X : List Nat} {O : Nat → Ob} {pv : List Nat} {nv : List Int} {w w1 w2 : World}
/-- A pointer. -/
theorem SetsJ.putPtr (h : SetsJ b c N P M Q S X O pv nv w) (hN : ShOk S N) {K F V : Nat} (hK : K < 2) (hF : F < S.p K) (hV : V ≤ 131072) (ar : Ar w1 b c (X.set (K * N + 3 + F) V)) (f : Fr (fun k => k = c) w w1)
    (hc : c ≠ P ∧ c ≠ M ∧ c ≠ Q ∧ b ≠ P ∧ M ≠ P ∧ Q ≠ P) : SetsX b c N P M Q S (w1.setCell ⟨P, K * 8 + F, none⟩ (.int .i64 V)) := by
  have hp := hN.p8 K hK
  have hlp := h.lp
  have fw : Fr (fun k => k = P) w1 (w1.setCell ⟨P, K * 8 + F, none⟩ (.int .i64 V)) := (Fr.refl (fun k => k = P) w1).setCell (p := ⟨P, K * 8 + F, none⟩) (.inl rfl) _
  have oP' := (h.oP.fr f (by omega)).set (K * 8 + F) (.int .i64 (V : Nat)) (by simp; omega)
  rw [← List.map_set (f := fun x : Nat => Value.int .i64 (x : Nat))] at oP'
  refine h.put hN hK (ar.fr fw (by omega) (by omega)) ((h.ob K hK).setPtr hF hp hV) (by simp) (fun k hk => getD_setN _ _ _ _ (by omega)) (fun i hi => getD_setN _ _ _ _ (by omega)) (fun _ _ => rfl) (by simpa using hlp) h.ln oP' ((h.oM.fr f (by omega)).fr fw (by omega)) ?_
  have hq := (h.oQ.fr f (by omega)).fr fw (by omega)
  rcases (by omega : K = 0 ∨ K = 1) with rfl | rfl
  · exact hq
  · exact hq
/-- A number. -/
theorem SetsJ.putNum (h : SetsJ b c N P M Q S X O pv nv w) (hN : ShOk S N) {K F : Nat} {V : Int} (hK : K < 2) (hF : F < S.d K) (hV : I64 V) (ar : Ar w1 b c (X.set (K * N + 3 + (O K).p + F) (zg V))) (f : Fr (fun k => k = c) w w1)
    (hc : c ≠ P ∧ c ≠ M ∧ c ≠ Q ∧ b ≠ M ∧ P ≠ M ∧ Q ≠ M) : SetsX b c N P M Q S (w1.setCell ⟨M, K * 8 + F, none⟩ (.int .i64 V)) := by
  have hd := hN.d8 K hK
  have hln := h.ln
  have hop := (h.ob K hK).ep
  have fw : Fr (fun k => k = M) w1 (w1.setCell ⟨M, K * 8 + F, none⟩ (.int .i64 V)) := (Fr.refl (fun k => k = M) w1).setCell (p := ⟨M, K * 8 + F, none⟩) (.inl rfl) _
  have oM' := (h.oM.fr f (by omega)).set (K * 8 + F) (.int .i64 V) (by simp; omega)
  rw [← List.map_set] at oM'
  refine h.put hN hK (ar.fr fw (by omega) (by omega)) ((h.ob K hK).setNum hF hd hV) (by simp) (fun k hk => getD_setN _ _ _ _ (by omega)) (fun _ _ => rfl) (fun i hi => getD_setZ _ _ _ _ (by omega)) h.lp (by simpa using hln) ((h.oP.fr f (by omega)).fr fw (by omega)) oM' ?_
  have hq := (h.oQ.fr f (by omega)).fr fw (by omega)
  rcases (by omega : K = 0 ∨ K = 1) with rfl | rfl
  · exact hq
  · exact hq
/-- Freed or not. -/
theorem SetsJ.putFr (h : SetsJ b c N P M Q S X O pv nv w) (hN : ShOk S N) {K : Nat} (hK : K < 2) (fr : Bool) (ar : Ar w1 b c (X.set (K * N) (hd (O K).p (O K).d (O K).wk (O K).fn fr))) (f : Fr (fun k => k = c) w w1)
    (hc : c ≠ P ∧ c ≠ M ∧ c ≠ Q ∧ b ≠ Q ∧ P ≠ Q ∧ M ≠ Q) : SetsX b c N P M Q S (w1.setCell ⟨Q, K, none⟩ (.bool fr)) := by
  have fw : Fr (fun k => k = Q) w1 (w1.setCell ⟨Q, K, none⟩ (.bool fr)) := (Fr.refl (fun k => k = Q) w1).setCell (p := ⟨Q, K, none⟩) (.inl rfl) _
  have oQ' := (h.oQ.fr f (by omega)).set K (.bool fr) (by simp; omega)
  exact h.put hN hK (ar.fr fw (by omega) (by omega)) ((h.ob K hK).setFreed fr) (by simp) (fun k hk => getD_setN _ _ _ _ (by omega)) (fun _ _ => rfl) (fun _ _ => rfl) h.lp h.ln ((h.oP.fr f (by omega)).fr fw (by omega)) ((h.oM.fr f (by omega)).fr fw (by omega)) oQ'
end
theorem Fr.cell1 (w : World) (g q : Nat) (v : Value) : Fr (fun j => j = g) w (w.setCell ⟨g, q, none⟩ v) := (Fr.refl (fun j => j = g) w).setCell (p := ⟨g, q, none⟩) (.inl rfl) v
theorem OwnL.getN {w : World} {P : Nat} {l : List Nat} (h : OwnL w P (l.map fun x => Value.int .i64 (x : Nat))) {i : Nat} (hi : i < l.length) : Own w P i (.int .i64 (l.getD i 0 : Nat)) :=
  h i _ (by simp [List.getD, hi])
theorem OwnL.getI {w : World} {P : Nat} {l : List Int} (h : OwnL w P (l.map (Value.int .i64))) {i : Nat} (hi : i < l.length) : Own w P i (.int .i64 (l.getD i 0)) :=
  h i _ (by simp [List.getD, hi])

end Go.Proofs.Ytoonimdohkbfgaa
