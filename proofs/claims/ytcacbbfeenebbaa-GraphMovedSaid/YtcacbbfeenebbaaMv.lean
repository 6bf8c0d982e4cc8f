/- What GraphMoved's rounds do. -/
import Derived.Test.YtcacbbfeenebbaaTurn
set_option linter.unusedSimpArgs false
set_option linter.unusedVariables false
namespace Go.Proofs.Ytcacbbfeenebbaa
open Go.RowKit Go.Shelf Go.Maps

set_option maxHeartbeats 1000000 in
theorem now_yes {w : World} {b c : Nat} {X : List Nat} (h : Ar w b c X) {A : Nat} (hA : Own w A 0 (arV b)) {a t : Nat} (hg : Gone X a t) :
    Calls Try.prog 45 #[.int .i64 a, .pointer (some ⟨A, 0, none⟩)] w fun e w' => e = .returned (.int .i64 t) ∧ w = w' := by
  have H := hid (mat_gone w b c X h a t hg)
  have a0 := hA.1
  clear h hg
  go_enter Try.func45, Try.ntmps45
  go_wp2_with fail
  refine (H.out).mono ?_
  rintro e w' ⟨rfl, rfl⟩
  go_wp2
  go_ret
  exact ⟨rfl, rfl⟩
set_option maxHeartbeats 1000000 in
theorem now_zero {w : World} {b c : Nat} {X : List Nat} (h : Ar w b c X) {A : Nat} (hA : Own w A 0 (arV b)) (h1 : 0 < X.length) (h0 : X.getD 0 0 = 0) :
    Calls Try.prog 45 #[.int .i64 (0 : Nat), .pointer (some ⟨A, 0, none⟩)] w fun e w' => e = .returned (.int .i64 (0 : Nat)) ∧ w = w' := by
  have H := hid (mat_no w b c X h 0 h1 (by rw [h0]; omega) (by rw [h0]; omega))
  have a0 := hA.1
  clear h h0
  go_enter Try.func45, Try.ntmps45
  go_wp2_with fail
  refine (H.out).mono ?_
  rintro e w' ⟨rfl, rfl⟩
  go_wp2
  go_ret
  exact ⟨rfl, rfl⟩

/-- Objects on their way. -/
structure MvR (ls : List (Nat × Ob)) (en ol i : Nat) (X : List Nat) (old : List (Nat × Ob × Option Nat)) (T : Nat) (cur : List (Nat × Ob)) : Prop where
  half : Half Eq X 1 en old 200 T cur
  len : X.length = 400
  zero : X.getD 0 0 = 0
  same : (old.map fun x => (x.1, x.2.1)) = ls
  room : T + owed old ≤ 350
  done : ∀ j, ol + j < i → j < old.length → (old.getD j oo).2.2 ≠ none
theorem MvR.stay {ls : List (Nat × Ob)} {en ol i : Nat} {X : List Nat} {old : List (Nat × Ob × Option Nat)} {T : Nat} {cur : List (Nat × Ob)} (h : MvR ls en ol i X old T cur) {k : Nat} {a : Nat} {o : Ob} {t : Nat} (hg : old.getD k oo = (a, o, some t)) (hi : i < ol ∨ i = ol + k) :
    MvR ls en ol (i + 1) X old T cur :=
  ⟨h.half, h.len, h.zero, h.same, h.room, fun j h1 h2 => by
    by_cases e : ol + j < i
    · exact h.done j e h2
    · obtain rfl : j = k := by omega
      rw [hg]; intro e; cases e⟩
theorem MvR.move {ls : List (Nat × Ob)} {en ol i : Nat} {X : List Nat} {old : List (Nat × Ob × Option Nat)} {T : Nat} {cur : List (Nat × Ob)} (h : MvR ls en ol i X old T cur) {k : Nat} (hk : k < old.length) {a : Nat} {o : Ob} (hg : old.getD k oo = (a, o, none)) (hi : i < ol ∨ i = ol + k) (hen : en ≤ 151) (hT : 200 ≤ T) :
    MvR ls en ol (i + 1) (cpd X a T o.size) (old.set k (a, o, some T)) (T + o.took) (cur ++ [(T, o)]) ∧ At X a o ∧ T + o.took ≤ 350 := by
  have how := owed_go (t := T) hk hg
  have hr := h.room
  have hl := h.len
  obtain ⟨k1, k2, k3, k4⟩ := h.half.ol.at k hk
  rw [hg] at k1 k2 k3 k4
  have k1 : 1 ≤ a := k1
  have k3 : o.Ok := k3
  obtain ⟨_, q2, q3, _⟩ := Ob.took_eq k3
  obtain ⟨h1, h2⟩ := h.half.go (fun _ => rfl) hk hg (lim := 400) (by omega) (by omega) (.inl (by omega)) (by omega) (by omega)
  have hrm : T + o.size ≤ X.length := by omega
  refine ⟨⟨h1, ?_, ?_, ?_, by omega, fun j j1 j2 => ?_⟩, h2, by omega⟩
  · rw [cpd_length hrm]; exact hl
  · rw [cpd_getD hrm h2.lt, if_neg (by omega), if_neg (by omega)]; exact h.zero
  · rw [← h.same, List.map_set]
    apply List.ext_getElem (by simp)
    intro j j1 j2
    rw [List.getElem_set]
    split
    · rename_i e; subst e
      simp only [List.getElem_map]
      have : old[k] = (a, o, none) := by simpa [List.getD, hk] using hg
      rw [this]
    · rfl
  · rw [List.length_set] at j2
    by_cases e : j = k
    · subst e
      have : (old.set j (a, o, some T)).getD j oo = (a, o, some T) := by simp [List.getD, hk]
      rw [this]; intro e; cases e
    · have : (old.set k (a, o, some T)).getD j oo = old.getD j oo := by simp [List.getD, List.getElem?_set_ne (Ne.symm e)]
      rw [this]
      exact h.done j (by omega) j2
def CpP (W : World) (b c : Nat) (T' t' : Nat) (X' : List Nat) (e : Ending) (w' : World) : Prop := e = .returned (.tuple #[spV 200 200 T', .int .i64 t', .int .i64 0]) ∧ Ar w' b c X' ∧ Fr (fun k => k = c) W w'
/-- One more is copied, or was. -/
theorem MvR.copy {ls : List (Nat × Ob)} {en ol i : Nat} {X : List Nat} {old : List (Nat × Ob × Option Nat)} {T : Nat} {cur : List (Nat × Ob)} (h : MvR ls en ol i X old T cur) {k : Nat} (hk : k < old.length) (hi : i < ol ∨ i = ol + k) (hen : en ≤ 151) (hT : 200 ≤ T)
    {wr : World} {b c : Nat} (ar : Ar wr b c X) :
    ∃ T' t' X' old' cur', (∀ W, Calm wr W → Calls Try.prog 33 #[arV b, .int .i64 ((old.getD k oo).1 : Nat), spV 200 200 T] W (CpP W b c T' t' X')) ∧ MvR ls en ol (i + 1) X' old' T' cur' := by
  obtain ⟨a, o, m, hg⟩ : ∃ a o m, old.getD k oo = (a, o, m) := ⟨_, _, _, rfl⟩
  rw [hg]
  cases m with
  | some t =>
    obtain ⟨_, _, _, k4⟩ := h.half.ol.at k hk
    rw [hg] at k4
    have k4 : Gone X a t := k4
    exact ⟨T, t, X, old, cur, fun W cw => (copy_gone W b c X (ar.calm cw) a t k4 200 200 T).mono (fun _ _ ⟨e, f⟩ => ⟨e, (ar.calm cw).calm f, f.any⟩), h.stay hg hi⟩
  | none =>
    obtain ⟨h1, h2, h3⟩ := h.move hk hg hi hen hT
    obtain ⟨q1, q2, q3, _⟩ := Ob.took_eq h2.ok
    have hl := h.len
    refine ⟨T + o.took, T, _, _, _, fun W cw => (copy_yes W b c X (ar.calm cw) a o h2 200 200 T ⟨by decide, by decide, by omega, by omega, by omega, by omega⟩ (by omega) (by omega) (by omega)).mono (fun e w' ⟨he, ha, f⟩ => ⟨?_, ha, f⟩), h1⟩
    rw [he]
    have : ((T + o.took : Nat) : Int) = (T : Int) + rnd o.size := by push_cast; omega
    rw [this]
def MvI (w : World) (b c sp : Nat) (ls : List (Nat × Ob)) (en ol i : Nat) (wr : World) : Prop :=
  ∃ X old T cur, Ar wr b c X ∧ MvR ls en ol i X old T cur ∧ OwnL wr sp [.int .i64 200, .int .i64 200, .int .i64 T] ∧ Fr (fun k => k = c ∨ k = sp) w wr


/-- Where a place is now. -/
def nowF (ps ts : List Nat) (x : Nat) : Nat := if x ∈ ps then ts.getD (ps.idxOf x) 0 else 0
theorem MvR.turn {ls : List (Nat × Ob)} {en ol i : Nat} {X : List Nat} {old : List (Nat × Ob × Option Nat)} {T : Nat} {cur : List (Nat × Ob)} (h : MvR ls en ol i X old T cur) (hi : ol + ls.length ≤ i) (hen : en ≤ 151) :
    ∃ ts, ts.length = ls.length ∧ TurnR (plc ls) ts (ls.map (·.2)) (nowF (plc ls) ts) 0 0 X := by
  have hol : old.length = ls.length := by have := congrArg List.length h.same; rw [List.length_map] at this; exact this
  have hpl : (plc ls).length = ls.length := by simp
  obtain ⟨ts, hts⟩ : ∃ ts, ts = (List.range ls.length).map (fun j => ((old.getD j oo).2.2).getD 0) := ⟨_, rfl⟩
  have htl : ts.length = ls.length := by rw [hts]; simp
  have hall : ∀ j, j < ls.length → (old.getD j oo).2.2 = some (ts.getD j 0) := fun j hj => by
    have hd := h.done j (by omega) (by omega)
    obtain ⟨t, ht⟩ := Option.ne_none_iff_exists'.1 hd
    have e2 : ts.getD j 0 = ((old.getD j oo).2.2).getD 0 := by rw [hts]; simp [List.getD, hj]
    rw [e2, ht]; rfl
  have hsame : ∀ j, j < ls.length → (old.getD j oo).1 = (plc ls).getD j 0 ∧ (old.getD j oo).2.1 = (ls.map (·.2)).getD j (Ob.new 0 0 false false 0) := fun j hj => by
    have hj2 : j < old.length := by omega
    have e : ((old.getD j oo).1, (old.getD j oo).2.1) = ls.getD j o0 := by
      rw [← h.same]; simp [List.getD, hj2]
    have e1 : (plc ls).getD j 0 = (ls.getD j o0).1 := by simp [plc, List.getD, hj]
    have e2 : (ls.map (·.2)).getD j (Ob.new 0 0 false false 0) = (ls.getD j o0).2 := by simp [List.getD, hj]
    rw [e1, e2, ← e]; exact ⟨rfl, rfl⟩
  have hcur : ∀ j, j < ls.length → ∃ q, q < cur.length ∧ begs 200 cur q = ts.getD j 0 ∧ (ls.map (·.2)).getD j (Ob.new 0 0 false false 0) = (cur.getD q (0, Ob.new 0 0 false false 0)).2 := fun j hj => by
    obtain ⟨q, q1, q2, q3⟩ := h.half.gone j (by omega) _ (hall j hj)
    exact ⟨q, q1, q2, by rw [← (hsame j hj).2]; exact q3⟩
  refine ⟨ts, htl, h.len, h.zero, fun j hj => ?_, fun j hj => ?_, fun j k hj hk hjk => ?_, fun j hj => ?_, fun x hx => ?_⟩
  · obtain ⟨q, q1, q2, q3⟩ := hcur j (by omega)
    have := h.half.cl.at q q1
    rw [q2, ← q3] at this
    have e : (if j < 0 then 8 else if j = 0 then 0 else 0) = (0 : Nat) := by split; omega; split <;> rfl
    rw [e]
    exact this
  · obtain ⟨q, q1, q2, q3⟩ := hcur j (by omega)
    rw [← q2]; exact begs_ge _ _ _
  · obtain ⟨q, q1, q2, q3⟩ := hcur j (by omega)
    obtain ⟨r, r1, r2, r3⟩ := hcur k (by omega)
    have hqr : q ≠ r := fun e => hjk (h.half.inj j k (ts.getD j 0) (by omega) (by omega) (hall j (by omega)) (by rw [hall k (by omega), ← q2, ← r2, e]))
    have sz : ∀ a, a < cur.length → begs 200 cur a + (cur.getD a (0, Ob.new 0 0 false false 0)).2.size ≤ begs 200 cur (a + 1) := fun a ha => by
      obtain ⟨_, k8, _, _⟩ := Lie.at h.half.cl.lie a ha
      obtain ⟨_, k10, _, _⟩ := Ob.took_eq k8
      show _ ≤ begs 200 cur a + (cur.getD a (0, Ob.new 0 0 false false 0)).2.took
      omega
    rw [q3, r3, ← q2, ← r2]
    rcases Nat.lt_or_gt_of_ne hqr with hl | hl
    · left; exact Nat.le_trans (sz q q1) (begs_mono _ _ hl)
    · right; exact Nat.le_trans (sz r r1) (begs_mono _ _ hl)
  · have hj2 : j < ls.length := by omega
    obtain ⟨_, _, _, k4⟩ := h.half.ol.at j (by omega)
    rw [hall j hj2] at k4
    rw [← (hsame j hj2).1]; exact k4
  · obtain ⟨j, hj, rfl⟩ := List.getElem_of_mem hx
    have hj2 : j < ls.length := by omega
    obtain ⟨_, k2, k3, _⟩ := h.half.ol.at j (by omega)
    obtain ⟨_, _, k5, _⟩ := Ob.took_eq k3
    rw [(hsame j hj2).1] at k2
    have : (plc ls).getD j 0 = (plc ls)[j] := by rw [List.getD, List.getElem?_eq_getElem hj]; rfl
    omega

theorem Names.ix {f : Nat → Nat} {S : Nat → Prop} (h : Names f S) {R : List Nat} (hR : ∀ x ∈ R, S x) {p : Nat} (hp : p = 0 ∨ S p) : ixOf (R.map f) (f p) = ixOf R p := by
  unfold ixOf
  rcases hp with rfl | hp
  · rw [h.zero, if_pos rfl, if_pos rfl]
  · obtain ⟨p0, f0⟩ := h.pos p hp
    rw [if_neg f0, if_neg p0, h.idx R hR p hp]
    by_cases hm : p ∈ R
    · rw [if_pos ((h.mem hR hp).2 hm), if_pos hm]
    · rw [if_neg (fun e => hm ((h.mem hR hp).1 e)), if_neg hm]
theorem Names.pt {f : Nat → Nat} {S : Nat → Prop} (h : Names f S) {R : List Nat} (hR : ∀ x ∈ R, S x) {l : List Nat} (hl : ∀ x ∈ l, x = 0 ∨ S x) : ptI (R.map f) (l.map f) = ptI R l := by
  unfold ptI
  rw [List.map_map]
  exact List.map_congr_left (fun x hx => h.ix hR (hl x hx))

theorem linked {ls : List (Nat × Ob)} {X0 X : List Nat} {en : Nat} {ps : List Nat} (h : LinkR X0 en ps ps.length 0 X ls) {x : Nat} (hx : x ∈ ps) : (objOf ls x).Ok ∧ ∀ q ∈ (objOf ls x).ps, q = 0 ∨ q ∈ ps := by
  have hpl := h.plc
  have hi : ps.idxOf x < ps.length := List.idxOf_lt_length_of_mem hx
  have ho : (objOf ls x).Ok := (objOf_at h.laid (hpl ▸ hx)).1.ok
  refine ⟨ho, fun q hq => ?_⟩
  have hk := h.lk _ hi
  obtain ⟨m, hm, rfl⟩ := List.getElem_of_mem hq
  have hm2 : m < (objOf ls x).p := by rw [← ho.lp]; exact hm
  have e0 : (ls.getD (ps.idxOf x) o0).2 = objOf ls x := by unfold objOf; rw [hpl]
  rw [e0] at hk
  have := hk m (by have := ho.sh.1; omega) hm2
  have e : (objOf ls x).ps.getD m 0 = (objOf ls x).ps[m] := by simp [List.getD, hm]
  rw [e] at this
  exact this
theorem idx_nodup {l : List Nat} (h : ∀ j k, j < l.length → k < l.length → j ≠ k → l.getD j 0 ≠ l.getD k 0) {j : Nat} (hj : j < l.length) : l.idxOf (l.getD j 0) = j := by
  have hm : l.getD j 0 ∈ l := by simp [List.getD, hj]
  have hi := List.idxOf_lt_length_of_mem hm
  by_cases e : l.idxOf (l.getD j 0) = j
  · exact e
  · have h1 := h _ _ hi hj e
    have h2 : l.getD (l.idxOf (l.getD j 0)) 0 = l.getD j 0 := by
      have := List.getElem_idxOf hi
      rw [List.getD, List.getElem?_eq_getElem hi]
      exact this
    exact absurd h2 h1

/-- All turned: the same, named otherwise. -/
theorem TurnR.fin {ls : List (Nat × Ob)} {ts : List Nat} {X X0 X1 : List Nat} {en : Nat} {ps : List Nat} (h : TurnR ps ts (ls.map (·.2)) (nowF ps ts) ps.length 0 X) (hts : ts.length = ls.length) (hlk : LinkR X0 en ps ps.length 0 X1 ls) (h0 : 0 ∉ ps) (h8 : ps.length ≤ 8) :
    Names (nowF ps ts) (fun x => x ∈ ps) ∧ ∃ obj', Objs X (ps.map (nowF ps ts)) obj' ∧ ∀ x ∈ ps, obj' (nowF ps ts x) = { objOf ls x with ps := (objOf ls x).ps.map (nowF ps ts) } := by
  have hpl := hlk.plc
  have hpn : ps.length = ls.length := by rw [← hpl]; simp
  have hne : ∀ j k, j < ts.length → k < ts.length → j ≠ k → ts.getD j 0 ≠ ts.getD k 0 := fun j k hj hk hjk e => by
    have h3 : ∀ o : Ob, 3 ≤ o.size := fun o => by simp only [Ob.size]; omega
    have := h3 ((ls.map (·.2)).getD j (Ob.new 0 0 false false 0))
    have := h3 ((ls.map (·.2)).getD k (Ob.new 0 0 false false 0))
    have := h.apart j k (by omega) (by omega) hjk
    omega
  have hf : ∀ x, x ∈ ps → nowF ps ts x = ts.getD (ps.idxOf x) 0 ∧ ps.idxOf x < ps.length := fun x hx => ⟨by unfold nowF; rw [if_pos hx], List.idxOf_lt_length_of_mem hx⟩
  have hob : ∀ x, x ∈ ps → (ls.map (·.2)).getD (ps.idxOf x) (Ob.new 0 0 false false 0) = objOf ls x := fun x hx => by
    have := (hf x hx).2
    have e : (ls.map (·.2)).getD (ps.idxOf x) (Ob.new 0 0 false false 0) = (ls.getD (ps.idxOf x) o0).2 := by simp [List.getD, show ps.idxOf x < ls.length by omega]
    rw [e]; unfold objOf; rw [hpl]
  have hat : ∀ x, x ∈ ps → At X (nowF ps ts x) { objOf ls x with ps := (objOf ls x).ps.map (nowF ps ts) } := fun x hx => by
    obtain ⟨f1, f2⟩ := hf x hx
    have ha := h.at_ _ f2
    rw [if_pos f2, hob x hx, ← f1] at ha
    obtain ⟨k1, k2⟩ := linked hlk hx
    rw [Ob.turn_all _ k1 k1.sh.1] at ha
    exact ha
  have hlo : ∀ x, x ∈ ps → 200 ≤ nowF ps ts x ∧ nowF ps ts x < 400 := fun x hx => by
    obtain ⟨f1, f2⟩ := hf x hx
    have := (hat x hx).lt
    rw [h.len] at this
    exact ⟨by rw [f1]; exact h.lo _ f2, this⟩
  refine ⟨⟨by unfold nowF; rw [if_neg h0], fun x hx => ⟨fun e => h0 (e ▸ hx), by have := (hlo x hx).1; omega⟩, fun x y hx hy e => ?_⟩, ?_⟩
  · obtain ⟨f1, f2⟩ := hf x hx
    obtain ⟨g1, g2⟩ := hf y hy
    rw [f1, g1] at e
    have : ps.idxOf x = ps.idxOf y := by
      by_cases e2 : ps.idxOf x = ps.idxOf y
      · exact e2
      · exact absurd e (hne _ _ (by omega) (by omega) e2)
    have e3 := List.getElem_idxOf f2
    have e4 := List.getElem_idxOf g2
    rw [← e3, ← e4]
    congr 1
  · obtain ⟨obj', hobj⟩ : ∃ obj' : Nat → Ob, obj' = fun y => ((ls.map (·.2)).getD (ts.idxOf y) (Ob.new 0 0 false false 0)).turn (nowF ps ts) 8 := ⟨_, rfl⟩
    have hx' : ∀ x, x ∈ ps → obj' (nowF ps ts x) = { objOf ls x with ps := (objOf ls x).ps.map (nowF ps ts) } := fun x hx => by
      obtain ⟨f1, f2⟩ := hf x hx
      have e : ts.idxOf (nowF ps ts x) = ps.idxOf x := by rw [f1]; exact idx_nodup hne (by omega)
      rw [hobj]
      show ((ls.map (·.2)).getD (ts.idxOf (nowF ps ts x)) (Ob.new 0 0 false false 0)).turn (nowF ps ts) 8 = _
      rw [e, hob x hx]
      obtain ⟨k1, k2⟩ := linked hlk hx
      exact Ob.turn_all _ k1 k1.sh.1
    refine ⟨obj', ⟨fun y hy => ?_, fun y hy q hq q0 => ?_, fun y hy => ?_, by simp; omega⟩, hx'⟩
    · obtain ⟨x, hx, rfl⟩ := List.mem_map.1 hy
      rw [hx' x hx]; exact hat x hx
    · obtain ⟨x, hx, rfl⟩ := List.mem_map.1 hy
      rw [hx' x hx] at hq
      have hq2 : q ∈ (objOf ls x).ps.map (nowF ps ts) := by
        unfold Ob.strong at hq
        split at hq
        · cases hq
        · exact hq
      obtain ⟨z, hz, rfl⟩ := List.mem_map.1 hq2
      rcases (linked hlk hx).2 z hz with rfl | hz2
      · exact absurd (by unfold nowF; rw [if_neg h0]) q0
      · exact List.mem_map_of_mem hz2
    · obtain ⟨x, hx, rfl⟩ := List.mem_map.1 hy
      have := (hlo x hx).2; omega

theorem nodes_few {X : List Nat} {U : List Nat} {obj : Nat → Ob} (h : Objs X U obj) {R : List Nat} (hR : ∀ x ∈ R, x ∈ U) (hn : R.Nodup) {ls : List NI} {L : List Nat} (he : ls.map NI.nd = R.map (fun x => (obj x).nd L)) : NFew ls := by
  refine NFew.of_map he ?_ (fun y hy => ?_)
  · have := nodup_length hn hR; have := h.len; simp; omega
  · obtain ⟨x, hx, rfl⟩ := List.mem_map.1 hy
    have hok := (h.at_ x (hR x hx)).ok
    have h1 := hok.sh.1
    have h2 := hok.sh.2.1
    have h3 := hok.lp
    have h4 := hok.ln
    exact ⟨by show (ptI L (obj x).ps).length ≤ _; rw [ptI_length]; omega, by show (nmI (obj x).ns).length ≤ _; rw [nmI_length]; omega⟩
theorem bfs_in {X : List Nat} {U : List Nat} {obj : Nat → Ob} (h : Objs X U obj) {rs R : List Nat} (hb : Bfs (strs obj) (addAll [] rs) 0 R) (hr : ∀ x ∈ rs, x ≠ 0 → x ∈ U) : (∀ x ∈ R, x ∈ U) ∧ R.Nodup :=
  ⟨hb.within (U := fun x => x ∈ U) h.str (fun x hx => by
    rcases mem_addAll.1 hx with h | ⟨h1, h2⟩
    · cases h
    · exact hr x h1 h2), hb.nodup (addAll_nodup _ List.nodup_nil)⟩

end Go.Proofs.Ytcacbbfeenebbaa
