/- Plain laws of what one comes to: an object more changes nothing. Plain laws of twins: from registers that stand for the same one comes to the same, but for weak pointers to what is lost. Rows of nodes whose weak pointers to what is not come to are told as none. Plain laws of a collection: what is here is what one comes to; how far scanning is. -/
import Derived.Test.YtiomemdmhcdpbaaColl
import Derived.Test.YtiomemdmhcdpbaaCanon
import Derived.Test.YtiomemdmhcdpbaaCome
set_option linter.unusedSimpArgs false
set_option linter.unusedVariables false
namespace Go.Proofs.Ytiomemdmhcdpbaa
open Go.RowKit Go.Shelf

theorem Bfs.at_mem {str : Nat → List Nat} {L : List Nat} {i : Nat} {R : List Nat} (h : Bfs str L i R) (hi : i < L.length) : L.getD i 0 ∈ R := h.sub _ (get_mem' 0 hi)
theorem Bfs.congr {str str' : Nat → List Nat} {L : List Nat} {i : Nat} {R : List Nat} (h : Bfs str L i R) : (∀ x ∈ R, str x = str' x) → Bfs str' L i R := by
  induction h with
  | done hl => intro _; exact .done hl
  | @step L i R hs hb ih =>
    intro e
    have hm : L.getD i 0 ∈ R := (Bfs.step hs hb).at_mem hs
    refine .step hs ?_
    rw [← e _ hm]; exact ih e
/-- What one comes to is live. -/
theorem reach_live {s : HS} {X : List Nat} (hr : HRep s X) (hp : ∀ p o, Live s p o → ∀ q ∈ o.ps, PtrOk s q) {rs R : List Nat} (hu : ∀ x ∈ rs, Placed s x) (h : Bfs (strs (nowAt s)) (addAll [] rs) 0 R) : ∀ x ∈ R, x ∈ liveU s := by
  refine h.within (U := fun x => x ∈ liveU s) (fun x hx q hq h0 => ?_) (fun x hx => ?_)
  · obtain ⟨o, ho⟩ := mem_liveU.1 hx
    have hq : q ∈ (nowAt s x).strong := hq
    unfold nowAt at hq
    rw [obAt_eq hr ho, strong_fw] at hq
    obtain ⟨z, hz, rfl⟩ := List.mem_map.1 hq
    have hz2 : z ∈ o.ps := by
      unfold Ob.strong at hz; split at hz
      · cases hz
      · exact hz
    rcases (hp x o ho z hz2).fwd hr with h | h | ⟨t, h⟩
    · exact absurd h h0
    · exact mem_liveU.2 h
    · exfalso
      by_cases g : ∃ t, GoneTo s z t
      · obtain ⟨t', g⟩ := g
        rw [fwd_gone hr g] at h
        obtain ⟨y, hy, e⟩ := List.mem_map.1 (g.cur hr)
        exact h.not_live hr y.2 (.inl (by rw [← e]; exact hy))
      · rw [fwd_not g] at h; exact g ⟨t, h⟩
  · rcases mem_addAll.1 hx with h | ⟨h1, h2⟩
    · cases h
    · have := (hu x h1).resolve_left h2
      unfold liveU; exact List.mem_append.2 (.inl this)
theorem alloc_now {s : HS} {X X' : List Nat} (hr : HRep s X) {p d : Nat} {wk fn : Bool} (hr' : HRep (s.alloc p d wk fn) X') {x : Nat} (hx : x ∈ liveU s) : nowAt (s.alloc p d wk fn) x = nowAt s x := by
  obtain ⟨o, ho⟩ := mem_liveU.1 hx
  have ho' : Live (s.alloc p d wk fn) x o := ho.imp (fun h => List.mem_append.2 (.inl h)) id
  unfold nowAt
  rw [obAt_eq hr ho, obAt_eq hr' ho']
  have hf : ∀ q, fwd (s.alloc p d wk fn) q = fwd s q := fun q => by
    by_cases g : ∃ t, GoneTo s q t
    · obtain ⟨t, i, u, c⟩ := g
      rw [fwd_gone hr ⟨i, u, c⟩, fwd_gone hr' (q := q) (t := t) ⟨i, u, c.lt, c.get⟩]
    · rw [fwd_not g, fwd_not (s := s.alloc p d wk fn) (fun ⟨t, i, u, c⟩ => g ⟨t, i, u, c.lt, c.get⟩)]
  unfold Ob.fw
  rw [show fwd (s.alloc p d wk fn) = fwd s from funext hf]
/-- An object more changes nothing of what one comes to. -/
theorem alloc_canon {s : HS} {X X' : List Nat} (hr : HRep s X) (hp : ∀ p o, Live s p o → ∀ q ∈ o.ps, PtrOk s q) {p d : Nat} {wk fn : Bool} (hr' : HRep (s.alloc p d wk fn) X') {rs R R' : List Nat} (hu : ∀ x ∈ rs, Placed s x)
    (h : Bfs (strs (nowAt s)) (addAll [] rs) 0 R) (h' : Bfs (strs (nowAt (s.alloc p d wk fn))) (addAll [] rs) 0 R') : R' = R ∧ R.map (fun x => (nowAt (s.alloc p d wk fn) x).nd R) = R.map (fun x => (nowAt s x).nd R) := by
  have hl := reach_live hr hp hu h
  have hn : ∀ x ∈ R, nowAt (s.alloc p d wk fn) x = nowAt s x := fun x hx => alloc_now hr hr' (hl x hx)
  refine ⟨h'.unique (h.congr (fun x hx => by unfold strs; rw [hn x hx])), List.map_congr_left (fun x hx => by rw [hn x hx])⟩
theorem Pair.ptrs {σ : Nat → Nat} {A B : HS} {R S : List Nat} {m : Nat} (h : Pair σ A B R S m) : ∀ p o, Live A p o → ∀ q ∈ o.ps, PtrOk A q := fun p o hl q hq => by
  obtain ⟨n, hn⟩ := h.tw.wa.ptr p o hl q hq
  exact (hn.place).ptr
theorem Pair.placed {σ : Nat → Nat} {A B : HS} {R S : List Nat} (h : Pair σ A B R S 4) : ∀ x ∈ R, Placed A x := fun x hx => by
  obtain ⟨j, hj, rfl⟩ := mem_get 0 hx
  exact h.rg.here j (by rw [← h.rg.lr]; exact hj)
/-- A heap's canon, few enough to be compared. -/
theorem canon_few {s : HS} {X : List Nat} (hr : HRep s X) (hp : ∀ p o, Live s p o → ∀ q ∈ o.ps, PtrOk s q) {rs R : List Nat} (hu : ∀ x ∈ rs, Placed s x) (hn : (addAll [] rs).Nodup) (h : Bfs (strs (nowAt s)) (addAll [] rs) 0 R) {ls : List NI} (e : ls.map NI.nd = R.map (fun x => (nowAt s x).nd R)) : NFew ls := by
  have hl := reach_live hr hp hu h
  have hlen : R.length ≤ 8192 := Nat.le_trans (nodup_length (h.nodup hn) hl) (liveU_len hr)
  refine NFew.of_map e (by simp; omega) (fun x hx => ?_)
  obtain ⟨y, hy, rfl⟩ := List.mem_map.1 hx
  obtain ⟨o, ho⟩ := mem_liveU.1 (hl y hy)
  have hok := (ho.at_ hr).ok
  have h1 := hok.lp; have h2 := hok.ln; have h3 := hok.sh.1; have h4 := hok.sh.2.1
  unfold nowAt
  rw [obAt_eq hr ho]
  constructor
  · show (ptI R (o.fw s).ps).length ≤ 1000000
    rw [ptI_length]; simp [Ob.fw]; omega
  · show (nmI (o.fw s).ns).length ≤ 1000000
    rw [nmI_length]
    show o.ns.length ≤ _; omega

end Go.Proofs.Ytiomemdmhcdpbaa

namespace Go.Proofs.Ytiomemdmhcdpbaa
open Go.RowKit Go.Shelf

theorem live_ser {s : HS} (w : WF s) {x y : Nat} {o u : Ob} (h1 : Live s x o) (h2 : Live s y u) (e : o.ser = u.ser) : x = y := by
  rcases h1 with h1 | h1 <;> rcases h2 with h2 | h2
  · exact congrArg (·.1) (w.unC _ h1 _ h2 e)
  · exact absurd e (w.unM _ h1 _ _ h2)
  · exact absurd e.symm (w.unM _ h2 _ _ h1)
  · exact congrArg (·.1) (w.unO _ h1 _ h2 e)
theorem live_pos {s : HS} (w : WF s) {x : Nat} {o : Ob} (h : Live s x o) : 1 ≤ x := by
  rcases h with h | h
  · exact w.posC _ h
  · exact w.posO _ h
/-- The place q of B holds the twin of what the place x of A holds. -/
def TwinOf (σ : Nat → Nat) (A B : HS) (x q : Nat) : Prop := (x = 0 ∧ q = 0) ∨ ∃ o u, Live A x o ∧ (q, u) ∈ B.cur ∧ o.ser = σ u.ser
theorem TwinOf.unique {σ : Nat → Nat} {A B : HS} {X : List Nat} (t : Tw σ A B) (hA : HRep A X) {x q q' : Nat} (h1 : TwinOf σ A B x q) (h2 : TwinOf σ A B x q') : q = q' := by
  rcases h1 with ⟨e1, e2⟩ | ⟨o, u, l1, m1, s1⟩ <;> rcases h2 with ⟨e3, e4⟩ | ⟨o', u', l2, m2, s2⟩
  · rw [e2, e4]
  · have := live_pos t.wa l2; omega
  · have := live_pos t.wa l1; omega
  · have e : o = o' := live_unique hA l2 l1
    subst e
    have b1 := (t.wb.serC _ m1).2
    have b2 := (t.wb.serC _ m2).2
    have := t.inj _ _ b1 b2 (s1.symm.trans s2)
    exact congrArg (·.1) (t.wb.unC _ m1 _ m2 this)
noncomputable def twf (σ : Nat → Nat) (A B : HS) (x : Nat) : Nat := open Classical in if h : ∃ q, TwinOf σ A B x q then h.choose else 0
theorem TwinOf.eq {σ : Nat → Nat} {A B : HS} {X : List Nat} (t : Tw σ A B) (hA : HRep A X) {x q : Nat} (h : TwinOf σ A B x q) : twf σ A B x = q := by
  unfold twf
  have hx : ∃ q, TwinOf σ A B x q := ⟨q, h⟩
  rw [dif_pos hx]
  exact TwinOf.unique t hA hx.choose_spec h
/-- What has a twin. -/
def HasTw (σ : Nat → Nat) (A B : HS) (x : Nat) : Prop := ∃ o u q, Live A x o ∧ (q, u) ∈ B.cur ∧ o.ser = σ u.ser
theorem HasTw.twin {σ : Nat → Nat} {A B : HS} {x : Nat} (h : HasTw σ A B x) : ∃ q, q ≠ 0 → True ∧ TwinOf σ A B x q := by
  obtain ⟨o, u, q, h1, h2, h3⟩ := h
  exact ⟨q, fun _ => ⟨trivial, .inr ⟨o, u, h1, h2, h3⟩⟩⟩
theorem twf_names {σ : Nat → Nat} {A B : HS} {X : List Nat} (t : Tw σ A B) (hA : HRep A X) : Names (twf σ A B) (HasTw σ A B) := by
  refine ⟨TwinOf.eq t hA (.inl ⟨rfl, rfl⟩), fun x ⟨o, u, q, h1, h2, h3⟩ => ?_, fun x y ⟨o, u, q, h1, h2, h3⟩ ⟨o', u', q', k1, k2, k3⟩ e => ?_⟩
  · rw [TwinOf.eq t hA (.inr ⟨o, u, h1, h2, h3⟩)]
    have a := live_pos t.wa h1
    have b := t.wb.posC _ h2
    simp only at b
    exact ⟨by omega, by omega⟩
  · rw [TwinOf.eq t hA (.inr ⟨o, u, h1, h2, h3⟩), TwinOf.eq t hA (.inr ⟨o', u', k1, k2, k3⟩)] at e
    subst e
    have := t.wb.plC _ h2 _ k2 rfl
    simp only [Prod.mk.injEq, true_and] at this
    subst this
    exact live_ser t.wa h1 k1 (h3.trans k3.symm)
theorem TwinOf.has {σ : Nat → Nat} {A B : HS} {x q : Nat} (h : TwinOf σ A B x q) (h0 : x ≠ 0) : HasTw σ A B x := by
  rcases h with ⟨e, _⟩ | ⟨o, u, h1, h2, h3⟩
  · exact absurd e h0
  · exact ⟨o, u, q, h1, h2, h3⟩
theorem fwd_zero {s : HS} (w : WF s) : fwd s 0 = 0 := fwd_not (fun ⟨t, i, o, c⟩ => by
  have := w.posO _ c.mem'; simp only at this; omega)
theorem Ref.twin {σ : Nat → Nat} {A B : HS} {X : List Nat} (t : Tw σ A B) (hA : HRep A X) {p q k : Nat} (h1 : Ref A p (σ k)) (h2 : Ref B q k) : TwinOf σ A B (fwd A p) q := by
  rcases h2 with ⟨e1, e2⟩ | ⟨u, hu, e⟩ | ⟨u, m, hu, _⟩
  · subst e1 e2
    rw [t.z] at h1
    have := (Ref.pos t.wa h1).2 rfl
    subst this
    exact .inl ⟨fwd_zero t.wa, rfl⟩
  · subst e
    have b := t.wb.serC _ hu
    have b2 := t.rng _ b.1 b.2
    rcases h1 with ⟨e1, e2⟩ | ⟨o, ho, e⟩ | ⟨o, m, ho, e⟩
    · simp only at b2; omega
    · have hp : p ∈ plc A.cur := List.mem_map.2 ⟨_, ho, rfl⟩
      rw [fwd_cur hA hp]
      exact .inr ⟨o, u, .inl ho, hu, e⟩
    · cases m with
      | none =>
        have hl : Live A p o := .inr ho
        rw [fwd_not (fun ⟨t', g⟩ => g.not_live hA o hl)]
        exact .inr ⟨o, u, hl, hu, e⟩
      | some t' =>
        obtain ⟨o', ho', hs⟩ := t.wa.gone _ _ _ ho
        obtain ⟨i, hi, hg⟩ := mem_get oo ho
        rw [fwd_gone hA ⟨i, o, hi, hg⟩]
        exact .inr ⟨o', u, .inl ho', hu, hs.2.2.2.2.trans e⟩
  · rw [t.still] at hu; cases hu

theorem ixOf_twf {σ : Nat → Nat} {A B : HS} {X : List Nat} (t : Tw σ A B) (hA : HRep A X) {L : List Nat} (hL : ∀ x ∈ L, HasTw σ A B x) {x q : Nat} (h : TwinOf σ A B x q) : ixOf (L.map (twf σ A B)) q = ixOf L x := by
  have hn := twf_names t hA
  have e := h.eq t hA
  by_cases h0 : x = 0
  · subst h0
    rw [hn.zero] at e
    subst e
    simp [ixOf]
  · have hs := h.has h0
    have hq : q ≠ 0 := by rw [← e]; exact (hn.pos x hs).2
    subst e
    unfold ixOf
    rw [if_neg h0, if_neg hq, hn.idx L hL x hs]
    by_cases hm : x ∈ L
    · rw [if_pos hm, if_pos ((hn.mem hL hs).2 hm)]
    · rw [if_neg hm, if_neg (fun h => hm ((hn.mem hL hs).1 h))]

/-- The twin of an object. -/
theorem Tw.at_ {σ : Nat → Nat} {A B : HS} (t : Tw σ A B) {x q : Nat} {o u : Ob} (h1 : Live A x o) (h2 : (q, u) ∈ B.cur) (e : o.ser = σ u.ser) : Alk o u ∧ ∀ m, m < o.p → ∃ k, Ref B (u.ps.getD m 0) k ∧ (Ref A (o.ps.getD m 0) (σ k) ∨ (o.wk = true ∧ o.ps.getD m 0 = 0 ∧ ∀ x u, Live A x u → u.ser ≠ σ k)) := by
  have b := t.wb.serC _ h2
  obtain ⟨q', u', m', s', lk, hp⟩ := t.obj u.ser x o b.1 b.2 h1 e
  have := t.wb.unC _ m' _ h2 s'
  simp only [Prod.mk.injEq] at this
  obtain ⟨rfl, rfl⟩ := this
  exact ⟨lk, hp⟩

theorem getD_ext {l m : List Nat} (h : l.length = m.length) (e : ∀ i, i < l.length → l.getD i 0 = m.getD i 0) : l = m := by
  apply List.ext_getElem h
  intro i h1 h2
  have := e i h1
  simpa [List.getD, h1, h2] using this

theorem strs_twin {σ : Nat → Nat} {A B : HS} {X Y : List Nat} (t : Tw σ A B) (hA : HRep A X) (hB : HRep B Y) : ∀ x, HasTw σ A B x → strs (nowAt B) (twf σ A B x) = (strs (nowAt A) x).map (twf σ A B) ∧ ∀ q ∈ strs (nowAt A) x, q = 0 ∨ HasTw σ A B q := by
  rintro x ⟨o, u, q, h1, h2, h3⟩
  obtain ⟨lk, hp⟩ := t.at_ h1 h2 h3
  have eq : twf σ A B x = q := TwinOf.eq t hA (.inr ⟨o, u, h1, h2, h3⟩)
  have ea : strs (nowAt A) x = (o.fw A).strong := by unfold strs nowAt; rw [obAt_eq hA h1]
  have eb : strs (nowAt B) q = u.strong := by unfold strs nowAt; rw [obAt_eq hB (.inl h2), fw_still t.still]
  rw [eq, ea, eb, strong_fw]
  have hst : o.wk = false → ∀ m, m < o.p → TwinOf σ A B (fwd A (o.ps.getD m 0)) (u.ps.getD m 0) := fun hw m hm => by
    obtain ⟨k, k1, k2⟩ := hp m hm
    rcases k2 with k2 | ⟨k2, _⟩
    · exact Ref.twin t hA k2 k1
    · rw [hw] at k2; cases k2
  cases hw : o.wk with
  | true =>
    have hw2 : u.wk = true := lk.wk.trans hw
    have e1 : o.strong = [] := by unfold Ob.strong; rw [hw]; rfl
    have e2 : u.strong = [] := by unfold Ob.strong; rw [hw2]; rfl
    rw [e1, e2]; simp
  | false =>
    have hw2 : u.wk = false := lk.wk.trans hw
    have e1 : o.strong = o.ps := by unfold Ob.strong; rw [hw]; rfl
    have e2 : u.strong = u.ps := by unfold Ob.strong; rw [hw2]; rfl
    rw [e1, e2]
    refine ⟨?_, fun q hq => ?_⟩
    · apply getD_ext
      · rw [List.length_map, List.length_map, lk.pl, lk.pl']
      · intro i hi
        rw [lk.pl'] at hi
        have := (hst hw i hi).eq t hA
        rw [← this]
        simp [List.getD, lk.pl, hi]
    · obtain ⟨z, hz, rfl⟩ := List.mem_map.1 hq
      obtain ⟨m, hm, rfl⟩ := mem_get 0 hz
      have := hst hw m (by rw [← lk.pl]; exact hm)
      by_cases h0 : fwd A (o.ps.getD m 0) = 0
      · exact .inl h0
      · exact .inr (this.has h0)

/-- A weak pointer to what is not come to, told as none. -/
def Nd.nrm (x : Nd) : Nd := if x.wk = true ∧ x.ps = [-2] then { x with ps := [-1] } else x

theorem nd_twin {σ : Nat → Nat} {A B : HS} {X Y : List Nat} (t : Tw σ A B) (hA : HRep A X) (hB : HRep B Y) (hs : ∀ n, n ≤ B.ser → σ n = n) {L : List Nat} (hL : ∀ x ∈ L, HasTw σ A B x) {x : Nat} (hx : HasTw σ A B x) :
    ((nowAt A x).nd L).nrm = ((nowAt B (twf σ A B x)).nd (L.map (twf σ A B))).nrm := by
  obtain ⟨o, u, q, h1, h2, h3⟩ := hx
  obtain ⟨lk, hp⟩ := t.at_ h1 h2 h3
  have eq : twf σ A B x = q := TwinOf.eq t hA (.inr ⟨o, u, h1, h2, h3⟩)
  have es : o.ser = u.ser := by rw [h3]; exact hs _ (t.wb.serC _ h2).2
  have ea : nowAt A x = o.fw A := by unfold nowAt; rw [obAt_eq hA h1]
  have eb : nowAt B q = u := by unfold nowAt; rw [obAt_eq hB (.inl h2), fw_still t.still]
  rw [eq, ea, eb]
  have hnd : ∀ l, ptI L (o.fw A).ps = l → ptI (L.map (twf σ A B)) u.ps = l → (o.fw A).nd L = u.nd (L.map (twf σ A B)) := fun l e1 e2 => by
    unfold Ob.nd
    rw [e1, e2]
    show Nd.mk o.ser o.p o.d o.wk o.fn o.fr l (nmI o.ns) = _
    rw [es, lk.p, lk.d, lk.wk, lk.fn, lk.fr, lk.ns]
  by_cases hall : ∀ m, m < o.p → TwinOf σ A B (fwd A (o.ps.getD m 0)) (u.ps.getD m 0)
  · rw [hnd (ptI (L.map (twf σ A B)) u.ps) ?_ rfl]
    unfold ptI
    apply List.ext_getElem
    · rw [List.length_map, List.length_map]; show (o.ps.map (fwd A)).length = _; rw [List.length_map, lk.pl, lk.pl']
    · intro i i1 i2
      have hi : i < o.p := by rw [List.length_map, lk.pl'] at i2; exact i2
      have := ixOf_twf t hA hL (hall i hi)
      rw [List.getElem_map, List.getElem_map]
      have g1 : (o.fw A).ps[i]'(by show i < (o.ps.map (fwd A)).length; rw [List.length_map, lk.pl]; exact hi) = fwd A (o.ps.getD i 0) := by
        show (o.ps.map (fwd A))[i]'_ = _
        simp [List.getD, lk.pl, hi]
      have g2 : u.ps[i]'(by rw [lk.pl']; exact hi) = u.ps.getD i 0 := by simp [List.getD, lk.pl', hi]
      rw [g1, g2, this]
  · have hok := hA.live_ok h1
    obtain ⟨m, hm⟩ := Classical.not_forall.1 hall
    obtain ⟨hm1, hm2⟩ := Classical.not_imp.1 hm
    obtain ⟨k, k1, k2⟩ := hp m hm1
    rcases k2 with k2 | ⟨hw, hz, hno⟩
    · exact absurd (Ref.twin t hA k2 k1) hm2
    · have hp1 := Ob.weak_p hok hw
      have hm0 : m = 0 := by omega
      subst hm0
      have hw2 : u.wk = true := lk.wk.trans hw
      have ho1 : o.ps = [0] := by
        have := lk.pl
        rw [hp1] at this
        match h : o.ps, this with
        | [a], _ => rw [h] at hz; simp at hz; rw [hz]
      obtain ⟨b, hu1⟩ : ∃ b, u.ps = [b] := by
        have := lk.pl'
        rw [hp1] at this
        match h : u.ps, this with
        | [a], _ => exact ⟨a, rfl⟩
      have hbk : Ref B b k := by rw [hu1] at k1; simpa using k1
      have e1 : ptI L (o.fw A).ps = [-1] := by
        show ptI L (o.ps.map (fwd A)) = _
        rw [ho1]; simp [ptI, fwd_zero t.wa, ixOf]
      have e2 : ptI (L.map (twf σ A B)) u.ps = [-1] ∨ ptI (L.map (twf σ A B)) u.ps = [-2] := by
        rw [hu1]
        rcases hbk with ⟨e, _⟩ | ⟨u', hu', e⟩ | ⟨u', m, hu', _⟩
        · left; simp [ptI, ixOf, e]
        · right
          have hb0 : b ≠ 0 := by have := t.wb.posC _ hu'; simp only at this; omega
          have hnm : b ∉ L.map (twf σ A B) := fun hb => by
            obtain ⟨y, hy, hyb⟩ := List.mem_map.1 hb
            obtain ⟨v, v', q', l1, l2, l3⟩ := hL y hy
            have := TwinOf.eq t hA (.inr ⟨v, v', l1, l2, l3⟩)
            rw [hyb] at this
            subst this
            have := t.wb.plC _ hu' _ l2 rfl
            simp only [Prod.mk.injEq, true_and] at this
            subst this
            rw [e] at l3
            exact hno _ _ l1 l3
          simp [ptI, ixOf, hb0, hnm]
        · rw [t.still] at hu'; cases hu'
      rcases e2 with e2 | e2
      · rw [hnd [-1] e1 e2]
      · unfold Nd.nrm Ob.nd
        rw [e1, e2]
        rw [if_neg (by simp), if_pos ⟨hw2, rfl⟩]
        show Nd.mk o.ser o.p o.d o.wk o.fn o.fr [-1] (nmI o.ns) = Nd.mk u.ser u.p u.d u.wk u.fn u.fr [-1] (nmI u.ns)
        rw [es, lk.p, lk.d, lk.wk, lk.fn, lk.fr, lk.ns]

/-- Twins come to the same. -/
theorem Pair.alike {σ : Nat → Nat} {A B : HS} {R S X Y : List Nat} (h : Pair σ A B R S 4) (hA : HRep A X) (hB : HRep B Y) (hs : ∀ n, n ≤ B.ser → σ n = n) {RA RB : List Nat}
    (ha : Bfs (strs (nowAt A)) (addAll [] R) 0 RA) (hb : Bfs (strs (nowAt B)) (addAll [] S) 0 RB) :
    RA.map (fun x => ((nowAt A x).nd RA).nrm) = RB.map (fun x => ((nowAt B x).nd RB).nrm) ∧ ptI RA R = ptI RB S ∧ RA.length = RB.length := by
  have t := h.tw
  have hn := twf_names t hA
  have hreg : ∀ j, j < 4 → TwinOf σ A B (R.getD j 0) (S.getD j 0) := fun j hj => by
    obtain ⟨n, n1, n2, n3⟩ := h.rg.ref j hj
    have := Ref.twin t hA n2 n3
    have hp : fwd A (R.getD j 0) = R.getD j 0 := by
      rcases h.rg.here j hj with e | e
      · rw [e]; exact fwd_zero t.wa
      · exact fwd_cur hA e
    rwa [hp] at this
  have hS : R.map (twf σ A B) = S := by
    apply getD_ext
    · rw [List.length_map, h.rg.lr, h.rg.ls]
    · intro i hi
      rw [List.length_map, h.rg.lr] at hi
      rw [← (hreg i hi).eq t hA]
      simp [List.getD, h.rg.lr, hi]
  have hR : ∀ x ∈ R, x = 0 ∨ HasTw σ A B x := fun x hx => by
    obtain ⟨j, hj, rfl⟩ := mem_get 0 hx
    rw [h.rg.lr] at hj
    by_cases h0 : R.getD j 0 = 0
    · exact .inl h0
    · exact .inr ((hreg j hj).has h0)
  obtain ⟨e1, l1⟩ := hn.addAll R [] (by simp) hR
  obtain ⟨e2, l2⟩ := hn.bfs (strs_twin t hA hB) ha l1
  rw [← e1, hS] at e2
  have e3 : RB = RA.map (twf σ A B) := hb.unique e2
  subst e3
  refine ⟨?_, ?_, by rw [List.length_map]⟩
  · rw [List.map_map]
    exact List.map_congr_left (fun x hx => nd_twin t hA hB hs l2 (l2 x hx))
  · rw [← hS]
    unfold ptI
    rw [List.map_map]
    refine List.map_congr_left (fun x hx => ?_)
    obtain ⟨j, hj, rfl⟩ := mem_get 0 hx
    rw [h.rg.lr] at hj
    have := ixOf_twf t hA l2 (hreg j hj)
    rw [← (hreg j hj).eq t hA] at this
    exact this.symm

end Go.Proofs.Ytiomemdmhcdpbaa

namespace Go.Proofs.Ytiomemdmhcdpbaa
open Go.RowKit Go.Shelf

def NI.nrm (x : NI) : NI := { x with nd := x.nd.nrm }
theorem Nd.nrm_yes {x : Nd} (h : x.wk = true) (e : x.ps = [-2]) : x.nrm = { x with ps := [-1] } := by unfold Nd.nrm; rw [if_pos ⟨h, e⟩]
theorem Nd.nrm_no {x : Nd} (h : ¬ (x.wk = true ∧ x.ps = [-2])) : x.nrm = x := by unfold Nd.nrm; rw [if_neg h]
theorem NI.nrm_cells (x : NI) : x.nrm.cells = x.cells := by
  unfold NI.nrm NI.cells
  by_cases h : x.nd.wk = true ∧ x.nd.ps = [-2]
  · rw [Nd.nrm_yes h.1 h.2]
  · rw [Nd.nrm_no h]
def nrmK (l : List NI) (k : Nat) : List NI := (l.take k).map NI.nrm ++ l.drop k
theorem nrmK_zero (l : List NI) : nrmK l 0 = l := by simp [nrmK]
theorem nrmK_all (l : List NI) : nrmK l l.length = l.map NI.nrm := by simp [nrmK]
theorem nrmK_length (l : List NI) (k : Nat) : (nrmK l k).length = l.length := by
  unfold nrmK; rw [List.length_append, List.length_map, List.length_take, List.length_drop]; omega
theorem nrmK_get (l : List NI) {k : Nat} (h : k < l.length) : (nrmK l k).getD k default = l.getD k default := by
  unfold nrmK
  simp only [List.getD]
  rw [List.getElem?_append_right (by simp; omega)]
  simp [Nat.min_eq_left (Nat.le_of_lt h)]
theorem nrmK_succ (l : List NI) {k : Nat} (h : k < l.length) : nrmK l (k + 1) = (nrmK l k).set k (l.getD k default).nrm := by
  unfold nrmK
  have hd : l.drop k = l.getD k default :: l.drop (k + 1) := by
    rw [List.drop_eq_getElem_cons h]; simp [List.getD, h]
  have ht : l.take (k + 1) = l.take k ++ [l.getD k default] := by
    rw [List.take_add_one]; simp [List.getD, h]
  rw [ht, hd, List.map_append, List.set_append_right _ _ (by simp; omega)]
  simp [Nat.min_eq_left (Nat.le_of_lt h)]
theorem flat_set {α β : Type} (f : α → List β) {l : List α} {k : Nat} {d x : α} (h : k < l.length) (e : f x = f (l.getD k d)) : (l.set k x).flatMap f = l.flatMap f := by
  rw [List.flatMap_def, List.flatMap_def, List.map_set]
  congr 1
  apply List.ext_getElem (by simp)
  intro i h1 h2
  by_cases hi : k = i
  · subst hi; rw [List.getElem_set_self, e]; simp [List.getD, h]
  · rw [List.getElem_set_ne hi]
theorem nblk_set (v : Value) {l : List NI} {k : Nat} (h : k < l.length) : nblk v (l.set k (l.getD k default).nrm) = nblk v l := by
  unfold nblk
  congr 1
  exact flat_set (fun x : NI => [x.vp, x.vn]) (d := default) h rfl
theorem nblk_nrmK (v : Value) (l : List NI) : ∀ k, k ≤ l.length → nblk v (nrmK l k) = nblk v l
  | 0, _ => by rw [nrmK_zero]
  | k + 1, h => by
    rw [nrmK_succ l (by omega), ← nrmK_get l (by omega), nblk_set v (by rw [nrmK_length]; omega), nblk_nrmK v l k (by omega)]

theorem NRow.nrm_yes {w : World} {base : Nat} {v : Value} {ls : List NI} (h : NRow w base v ls) {i : Nat} (hi : i < ls.length) (h1 : (ls.getD i default).nd.wk = true) (h2 : (ls.getD i default).nd.ps = [-2]) :
    ∃ g c, (ls.getD i default).vp = .slice (some ⟨g, 0, none⟩) 1 c ∧ base ≤ g ∧ (∃ x ∈ nblk v ls, InB x g) ∧ Own w g 0 (.int .i64 (-2)) ∧ NRow (w.setCell ⟨g, 0, none⟩ (.int .i64 (-1))) base v (ls.set i (ls.getD i default).nrm) := by
  have hm : ls.getD i default ∈ ls := by simp [List.getD, hi]
  obtain ⟨hp, hn⟩ := h.item _ hm
  obtain ⟨g, c, e, hbg, ho⟩ := hp.get (k := 0) (by rw [h2]; decide)
  rw [h2] at e ho
  have e : (ls.getD i default).vp = .slice (some ⟨g, 0, none⟩) 1 c := e
  have hIn : InB (ls.getD i default).vp g := by rw [e]; exact InB.mk.2 rfl
  have hmb : (ls.getD i default).vp ∈ ls.flatMap fun x => [x.vp, x.vn] := List.mem_flatMap.2 ⟨_, hm, by simp⟩
  have ap := h.apart
  unfold nblk at ap
  rw [List.pairwise_cons, List.pairwise_flatMap] at ap
  obtain ⟨ap1, ap2, ap3⟩ := ap
  have f : Fr (fun k => k = g) w (w.setCell ⟨g, 0, none⟩ (.int .i64 (-1))) := (Fr.refl (fun k => k = g) w).setCell (p := ⟨g, 0, none⟩) (.inl rfl) _
  refine ⟨g, c, e, hbg, ⟨_, List.mem_cons_of_mem _ hmb, hIn⟩, ho, ?_, fun y hy => ?_, ?_⟩
  · rw [List.length_set, flat_set NI.cells (d := default) hi (NI.nrm_cells _)]
    exact own_frB h.own f (fun b hb e => by subst e; exact ap1 _ hmb _ hb hIn)
  · have self : ∀ z ∈ [(ls.getD i default).vp, (ls.getD i default).vn], True := fun _ _ => trivial
    obtain ⟨j, hj, hy⟩ := List.mem_iff_getElem.1 hy
    rw [List.length_set] at hj
    by_cases hij : i = j
    · subst hij
      rw [List.getElem_set_self] at hy
      subst hy
      have a2 := ap2 _ hm
      have a2 : Aprt (ls.getD i default).vp (ls.getD i default).vn := by
        rw [List.pairwise_cons] at a2; exact a2.1 _ (by simp)
      have ens : (ls.getD i default).nrm.nd.ns = (ls.getD i default).nd.ns := by show (ls.getD i default).nd.nrm.ns = _; rw [Nd.nrm_yes h1 h2]
      refine ⟨?_, ?_⟩
      rotate_left
      · rw [ens]; exact hn.frB f (fun b hb e => by subst e; exact a2 _ hIn hb)
      show ORow _ base (ls.getD i default).vp (ls.getD i default).nd.nrm.ps
      rw [Nd.nrm_yes h1 h2, e]
      rw [e, h2] at hp
      exact hp.set (k := 0) (by decide) (-1)
    · rw [List.getElem_set_ne hij] at hy
      have hmy : y ∈ ls := hy ▸ List.getElem_mem hj
      have far : ∀ z, z = y.vp ∨ z = y.vn → ∀ b, InB z b → ¬ (b = g) := fun z hz b hb e => by
        subst e
        rw [List.pairwise_iff_getElem] at ap3
        have gi : ls[i]'hi = ls.getD i default := by simp [List.getD, hi]
        rcases Nat.lt_or_gt_of_ne hij with hl | hl
        · have := ap3 i j hi hj hl
          rw [gi, hy] at this
          exact this _ (by simp) z (by simpa using hz) _ hIn hb
        · have := ap3 j i hj hi hl
          rw [gi, hy] at this
          exact this z (by simpa using hz) _ (by simp) _ hb hIn
      exact ⟨(h.item _ hmy).1.frB f (far _ (.inl rfl)), (h.item _ hmy).2.frB f (far _ (.inr rfl))⟩
  · rw [nblk_set v hi]; exact h.apart

/-- The blocks of a row of nodes. -/
def NB (v : Value) (l : List NI) (k : Nat) : Prop := ∃ x ∈ nblk v l, InB x k
/-- Two rows of nodes, the first ka and kb of which are told anew. -/
structure AlkI (w8 : World) (D1 D2 : Nat) (va vb : Value) (la lb : List NI) (ka kb : Nat) (wr : World) : Prop where
  a : NRow wr D1 va (nrmK la ka)
  b : NRow wr D2 vb (nrmK lb kb)
  f : Fr (fun k => NB va la k ∨ NB vb lb k) w8 wr
  ab : ∀ k, NB va la k → k < D2
  ha : ka ≤ la.length
  hb : kb ≤ lb.length
theorem AlkI.start {w8 : World} {D1 D2 : Nat} {va vb : Value} {la lb : List NI} (h1 : NRow w8 D1 va la) (h2 : NRow w8 D2 vb lb) (ab : ∀ k, NB va la k → k < D2) : AlkI w8 D1 D2 va vb la lb 0 0 w8 :=
  ⟨by rw [nrmK_zero]; exact h1, by rw [nrmK_zero]; exact h2, Fr.refl _ _, ab, Nat.zero_le _, Nat.zero_le _⟩
theorem AlkI.calm {w8 wr w' : World} {D1 D2 : Nat} {va vb : Value} {la lb : List NI} {ka kb : Nat} (h : AlkI w8 D1 D2 va vb la lb ka kb wr) (c : Calm wr w') : AlkI w8 D1 D2 va vb la lb ka kb w' :=
  ⟨h.a.calm c, h.b.calm c, h.f.join c (fun _ _ x => x.elim), h.ab, h.ha, h.hb⟩
theorem AlkI.skipA {w8 wr : World} {D1 D2 : Nat} {va vb : Value} {la lb : List NI} {ka kb : Nat} (h : AlkI w8 D1 D2 va vb la lb ka kb wr) (hk : ka < la.length) (hn : ¬ ((la.getD ka default).nd.wk = true ∧ (la.getD ka default).nd.ps = [-2])) : AlkI w8 D1 D2 va vb la lb (ka + 1) kb wr := by
  refine ⟨?_, h.b, h.f, h.ab, hk, h.hb⟩
  have e : (la.getD ka default).nrm = la.getD ka default := by unfold NI.nrm; rw [Nd.nrm_no hn]
  have : nrmK la (ka + 1) = nrmK la ka := by
    rw [nrmK_succ la hk, e, ← nrmK_get la hk]
    apply List.ext_getElem (by simp)
    intro i i1 i2
    by_cases hi : ka = i
    · subst hi; rw [List.getElem_set_self]; simp [List.getD, i2]
    · rw [List.getElem_set_ne hi]
  rw [this]; exact h.a
theorem AlkI.skipB {w8 wr : World} {D1 D2 : Nat} {va vb : Value} {la lb : List NI} {ka kb : Nat} (h : AlkI w8 D1 D2 va vb la lb ka kb wr) (hk : kb < lb.length) (hn : ¬ ((lb.getD kb default).nd.wk = true ∧ (lb.getD kb default).nd.ps = [-2])) : AlkI w8 D1 D2 va vb la lb ka (kb + 1) wr := by
  refine ⟨h.a, ?_, h.f, h.ab, h.ha, hk⟩
  have e : (lb.getD kb default).nrm = lb.getD kb default := by unfold NI.nrm; rw [Nd.nrm_no hn]
  have : nrmK lb (kb + 1) = nrmK lb kb := by
    rw [nrmK_succ lb hk, e, ← nrmK_get lb hk]
    apply List.ext_getElem (by simp)
    intro i i1 i2
    by_cases hi : kb = i
    · subst hi; rw [List.getElem_set_self]; simp [List.getD, i2]
    · rw [List.getElem_set_ne hi]
  rw [this]; exact h.b
theorem AlkI.setA {w8 wr : World} {D1 D2 : Nat} {va vb : Value} {la lb : List NI} {ka kb : Nat} (h : AlkI w8 D1 D2 va vb la lb ka kb wr) (hk : ka < la.length) (h1 : (la.getD ka default).nd.wk = true) (h2 : (la.getD ka default).nd.ps = [-2]) :
    ∃ g c, (la.getD ka default).vp = .slice (some ⟨g, 0, none⟩) 1 c ∧ g < wr.heap.size ∧ Own wr g 0 (.int .i64 (-2)) ∧ AlkI w8 D1 D2 va vb la lb (ka + 1) kb (wr.setCell ⟨g, 0, none⟩ (.int .i64 (-1))) := by
  have e := nrmK_get la hk
  obtain ⟨g, c, q1, q2, ⟨x, q3, q4⟩, q5, q6⟩ := h.a.nrm_yes (i := ka) (by rw [nrmK_length]; exact hk) (by rw [e]; exact h1) (by rw [e]; exact h2)
  rw [nblk_nrmK va la ka h.ha] at q3
  have hg : NB va la g := ⟨x, q3, q4⟩
  have f : Fr (fun k => k = g) wr (wr.setCell ⟨g, 0, none⟩ (.int .i64 (-1))) := (Fr.refl (fun k => k = g) wr).setCell (p := ⟨g, 0, none⟩) (.inl rfl) _
  refine ⟨g, c, by rw [← e]; exact q1, q5.lt, q5, ?_, h.b.fr f (fun y hy b hb e => ?_), h.f.join f (fun k _ e => by subst e; exact .inl hg), h.ab, hk, h.hb⟩
  · rw [nrmK_succ la hk, ← e]; exact q6
  · subst e
    have := (h.b.lt y hy _ hb).1
    have := h.ab _ hg
    omega
theorem AlkI.setB {w8 wr : World} {D1 D2 : Nat} {va vb : Value} {la lb : List NI} {ka kb : Nat} (h : AlkI w8 D1 D2 va vb la lb ka kb wr) (hk : kb < lb.length) (h1 : (lb.getD kb default).nd.wk = true) (h2 : (lb.getD kb default).nd.ps = [-2]) :
    ∃ g c, (lb.getD kb default).vp = .slice (some ⟨g, 0, none⟩) 1 c ∧ g < wr.heap.size ∧ Own wr g 0 (.int .i64 (-2)) ∧ AlkI w8 D1 D2 va vb la lb ka (kb + 1) (wr.setCell ⟨g, 0, none⟩ (.int .i64 (-1))) := by
  have e := nrmK_get lb hk
  obtain ⟨g, c, q1, q2, ⟨x, q3, q4⟩, q5, q6⟩ := h.b.nrm_yes (i := kb) (by rw [nrmK_length]; exact hk) (by rw [e]; exact h1) (by rw [e]; exact h2)
  rw [nblk_nrmK vb lb kb h.hb] at q3
  have hg : NB vb lb g := ⟨x, q3, q4⟩
  have f : Fr (fun k => k = g) wr (wr.setCell ⟨g, 0, none⟩ (.int .i64 (-1))) := (Fr.refl (fun k => k = g) wr).setCell (p := ⟨g, 0, none⟩) (.inl rfl) _
  refine ⟨g, c, by rw [← e]; exact q1, q5.lt, q5, h.a.fr f (fun y hy b hb e => ?_), ?_, h.f.join f (fun k _ e => by subst e; exact .inr hg), h.ab, h.ha, hk⟩
  · subst e
    rw [nblk_nrmK va la ka h.ha] at hy
    have := h.ab _ ⟨y, hy, hb⟩
    omega
  · rw [nrmK_succ lb hk, ← e]; exact q6

end Go.Proofs.Ytiomemdmhcdpbaa

namespace Go.Proofs.Ytiomemdmhcdpbaa
open Go.RowKit Go.Shelf

/-- What is here is come to from G, by the pointers of what is here. -/
inductive Cto (s : HS) (G : List Nat) : Nat → Prop
  | root {q : Nat} : q ∈ G → q ∈ plc s.cur → Cto s G q
  | step {p q : Nat} {o : Ob} : Cto s G p → (p, o) ∈ s.cur → q ∈ o.strong → q ∈ plc s.cur → Cto s G q
def Gath (s : HS) (G : List Nat) : Prop := ∀ q ∈ plc s.cur, Cto s G q
theorem Cto.mono {s s' : HS} {G G' : List Nat} (hp : ∀ q ∈ plc s.cur, q ∈ plc s'.cur) (hg : ∀ q ∈ G, q ∈ G') (ho : ∀ p o, (p, o) ∈ s.cur → ∃ o', (p, o') ∈ s'.cur ∧ ∀ q ∈ o.strong, q ∈ plc s.cur → q ∈ o'.strong) {q : Nat} (h : Cto s G q) : Cto s' G' q := by
  induction h with
  | root h1 h2 => exact .root (hg _ h1) (hp _ h2)
  | step h1 h2 h3 h4 ih => obtain ⟨o', k1, k2⟩ := ho _ _ h2; exact .step ih k1 (k2 _ h3 h4) (hp _ h4)
theorem Goes.ext {s s' : HS} {p q : Nat} (g : Goes s p s' q) : ∃ m, s'.cur = s.cur ++ m ∧ ∀ x ∈ m, x.1 = q := by
  cases g with
  | stay h => exact ⟨[], by simp, by simp⟩
  | gone c => exact ⟨[], by simp, by simp⟩
  | @move i o c => exact ⟨[(s.top, (s.old.getD i oo).2.1)], rfl, by simp⟩
theorem GoesL.ext {s s' : HS} {l l' : List Nat} (g : GoesL s l s' l') : ∃ m, s'.cur = s.cur ++ m ∧ ∀ x ∈ m, x.1 ∈ l' := by
  induction g with
  | nil => exact ⟨[], by simp, by simp⟩
  | snoc h g ih =>
    obtain ⟨m, e, hm⟩ := ih
    obtain ⟨m', e', hm'⟩ := g.ext
    refine ⟨m ++ m', by rw [e', e, List.append_assoc], fun x hx => ?_⟩
    rcases List.mem_append.1 hx with hx | hx
    · exact List.mem_append.2 (.inl (hm x hx))
    · exact List.mem_append.2 (.inr (by rw [hm' x hx]; simp))
theorem GoesL.mem {s s' : HS} {l l' : List Nat} (g : GoesL s l s' l') : (∀ x ∈ s.cur, x ∈ s'.cur) ∧ (∀ z ∈ plc s.cur, z ∈ plc s'.cur) ∧ ∀ z ∈ plc s'.cur, z ∈ plc s.cur ∨ z ∈ l' := by
  obtain ⟨m, e, hm⟩ := g.ext
  have h1 : ∀ x ∈ s.cur, x ∈ s'.cur := fun x hx => by rw [e]; exact List.mem_append.2 (.inl hx)
  refine ⟨h1, fun z hz => ?_, fun z hz => ?_⟩
  · obtain ⟨x, hx, rfl⟩ := List.mem_map.1 hz
    exact List.mem_map.2 ⟨x, h1 x hx, rfl⟩
  · obtain ⟨x, hx, rfl⟩ := List.mem_map.1 hz
    rw [e] at hx
    rcases List.mem_append.1 hx with hx | hx
    · exact .inl (List.mem_map.2 ⟨x, hx, rfl⟩)
    · exact .inr (hm x hx)
theorem GoesL.one {s s' : HS} {p q : Nat} (g : Goes s p s' q) : GoesL s [p] s' [q] := GoesL.snoc (l := []) (l' := []) GoesL.nil g
theorem GoesL.keep {s s' : HS} {X : List Nat} (hr : HRep s X) {l l' : List Nat} (g : GoesL s l s' l') : ∀ q ∈ l, q ∈ plc s.cur → q ∈ l' := by
  induction g with
  | nil => intro q hq; cases hq
  | @snoc l l' s1 s2 p q' h g ih =>
    intro q hq hc
    rcases List.mem_append.1 hq with hq | hq
    · exact List.mem_append.2 (.inl (ih q hq hc))
    · have e : q = p := by simpa using hq
      subst e
      obtain ⟨X1, h1⟩ := h.rep hr
      have hn := cur_not_old_ h1 (h.mem.2.1 q hc)
      cases g with
      | stay _ => exact List.mem_append.2 (.inr (by simp))
      | gone c => exact absurd c.mem hn
      | move c => exact absurd c.mem hn
theorem Gath.flip {s : HS} {G : List Nat} : Gath s.flip G := fun q hq => by cases hq
theorem Gath.goesL {s s' : HS} {G l l' : List Nat} (h : Gath s G) (g : GoesL s l s' l') : Gath s' (G ++ l') := fun q hq => by
  obtain ⟨h1, h2, h3⟩ := g.mem
  rcases h3 q hq with h4 | h4
  · exact (h q h4).mono h2 (fun q hq => List.mem_append.2 (.inl hq)) (fun p o hp => ⟨o, h1 _ hp, fun q hq _ => hq⟩)
  · exact .root (List.mem_append.2 (.inr h4)) hq
theorem Gath.goes {s s' : HS} {G : List Nat} {p q : Nat} (h : Gath s G) (g : Goes s p s' q) : Gath s' (G ++ [q]) := h.goesL (GoesL.one g)
theorem Gath.sub {s : HS} {G G' : List Nat} (h : Gath s G) (hg : ∀ q ∈ G, q ∈ G') : Gath s G' := fun q hq => (h q hq).mono (fun _ h => h) hg (fun p o hp => ⟨o, hp, fun _ hq _ => hq⟩)
theorem Gath.congr {s s' : HS} {G : List Nat} (h : Gath s G) (e : s'.cur = s.cur) : Gath s' G := fun q hq => by
  rw [e] at hq
  exact (h q hq).mono (fun q hq => by rw [e]; exact hq) (fun _ h => h) (fun p o hp => ⟨o, by rw [e]; exact hp, fun _ hq _ => hq⟩)
theorem setS_strong {o : Ob} (hok : o.Ok) {l' : List Nat} (hlen : l'.length = o.strong.length) : (o.setS l').strong = l' := by
  have hsl := Ob.strong_length hok
  by_cases hw : o.wk = true
  · have e0 : l' = [] := List.eq_nil_of_length_eq_zero (by rw [hlen, hsl, if_pos hw])
    subst e0
    unfold Ob.strong
    rw [show (o.setS []).wk = o.wk from rfl, if_pos hw]
  · have hs2 : o.strong = o.ps := by unfold Ob.strong; rw [if_neg hw]
    have e : (o.setS l').ps = l' := by
      unfold Ob.setS Ob.setK
      simp only [List.take_length]
      rw [List.drop_of_length_le (by rw [hlen, hs2]; exact Nat.le_refl _), List.append_nil]
    unfold Ob.strong
    rw [show (o.setS l').wk = o.wk from rfl, if_neg hw, e]
theorem Gath.scan {s s' : HS} {X : List Nat} {G : List Nat} (hr : HRep s X) (h : Gath s G) {k a m : Nat} {o : Ob} (d : CurAt s k a o) {l' : List Nat} (g : GoesL s o.strong s' l') : Gath { s'.upd k (o.setS l') with scan := m } G := by
  have d' := g.cur d
  have hok := (d.at_ hr).ok
  have hst := setS_strong hok g.len
  obtain ⟨h1, h2, h3⟩ := g.mem
  have hcur : (s'.upd k (o.setS l')).cur = s'.cur.set k (a, o.setS l') := d'.upd_cur
  have hplc : plc (s'.upd k (o.setS l')).cur = plc s'.cur := plc_upd _ _ _
  have hin : (a, o.setS l') ∈ (s'.upd k (o.setS l')).cur := by rw [hcur]; exact List.mem_iff_getElem.2 ⟨k, by rw [List.length_set]; exact d'.lt, List.getElem_set_self _⟩
  have hmono : ∀ q, Cto s G q → Cto { s'.upd k (o.setS l') with scan := m } G q := fun q hq => by
    refine hq.mono (fun z hz => ?_) (fun _ h => h) (fun p u hp => ?_)
    · show z ∈ plc (s'.upd k (o.setS l')).cur
      rw [hplc]; exact h2 z hz
    · by_cases e : p = a
      · subst e
        refine ⟨_, hin, fun q hq hc => ?_⟩
        have hu : u = o := live_unique hr (.inl d.mem') (.inl hp)
        subst hu
        rw [hst]; exact g.keep hr q hq hc
      · refine ⟨u, ?_, fun _ hq _ => hq⟩
        show (p, u) ∈ (s'.upd k (o.setS l')).cur
        obtain ⟨j, hj, ej⟩ := List.mem_iff_getElem.1 (h1 _ hp)
        rw [hcur, ← ej]
        refine set_mem hj (fun ejk => ?_)
        subst ejk
        have := d'.get
        simp only [List.getD, List.getElem?_eq_getElem hj, Option.getD_some] at this
        rw [ej] at this
        injection this with e1
        exact e e1
  intro q hq
  have hq : q ∈ plc (s'.upd k (o.setS l')).cur := hq
  have hq2 := hq
  rw [hplc] at hq2
  rcases h3 q hq2 with h4 | h4
  · exact hmono q (h q h4)
  · exact .step (hmono a (h a d.mem)) hin (by rw [hst]; exact h4) hq

theorem plc_of_get {s s' : HS} (hl : s'.cur.length = s.cur.length) (h : ∀ i, i < s.cur.length → (s'.cur.getD i ob0).1 = (s.cur.getD i ob0).1) : plc s'.cur = plc s.cur := by
  apply List.ext_getElem (by simpa using hl)
  intro i h1 h2
  have h2 : i < s.cur.length := by simpa using h2
  have := h i h2
  simpa [List.getD, h2, show i < s'.cur.length by omega] using this
theorem WkO.strong {A : HS} {P : Prop} {o o' : Ob} (h : WkO A P o o') : o'.strong = o.strong := by
  rcases h with ⟨rfl, _⟩ | ⟨q, rfl, hw, _⟩
  · rfl
  · unfold Ob.strong
    rw [if_pos hw, show (o.setp true 0 q).wk = o.wk from rfl, if_pos hw]
theorem WkI.plc {A s : HS} {l : List Nat} (h : WkI A l s) : plc s.cur = plc A.cur := plc_of_get h.len (fun i hi => (h.obj i hi).1)
theorem Gath.wki {A s : HS} {G l : List Nat} (h : Gath A G) (W : WkI A l s) : Gath s.drop G := fun q hq => by
  have hq : q ∈ Go.Proofs.Ytiomemdmhcdpbaa.plc s.cur := hq
  rw [W.plc] at hq
  refine (h q hq).mono (fun z hz => ?_) (fun _ h => h) (fun p o hp => ?_)
  · show z ∈ Go.Proofs.Ytiomemdmhcdpbaa.plc s.cur; rw [W.plc]; exact hz
  · obtain ⟨i, hi, e⟩ := mem_get ob0 hp
    obtain ⟨w1, w2⟩ := W.obj i hi
    rw [e] at w1 w2
    have hi2 : i < s.cur.length := by rw [W.len]; exact hi
    refine ⟨(s.cur.getD i ob0).2, ?_, fun q hq _ => by rw [w2.strong]; exact hq⟩
    show (p, (s.cur.getD i ob0).2) ∈ s.cur
    have : s.cur.getD i ob0 = (p, (s.cur.getD i ob0).2) := Prod.ext w1 rfl
    rw [← this]; exact get_mem ob0 hi2

theorem plc_nodup {s : HS} {X : List Nat} (hr : HRep s X) : (plc s.cur).Nodup := by
  unfold List.Nodup
  rw [List.pairwise_iff_getElem]
  intro i j hi hj hij e
  have hj2 : j < s.cur.length := by simpa using hj
  have hi2 : i < s.cur.length := by omega
  have := hr.cur_lt hij hj2
  have h4 := (Ob.took_eq (hr.at_ hi2).ok).2.2.1
  simp only [List.getElem_map] at e
  have e1 : (s.cur.getD i ob0) = s.cur[i] := by simp [List.getD, hi2]
  have e2 : (s.cur.getD j ob0) = s.cur[j] := by simp [List.getD, hj2]
  have h4 : 4 ≤ (s.cur.getD i ob0).2.took := h4
  rw [e1, e2] at this
  rw [e1] at h4
  omega
/-- All that is here is come to, and nothing else. -/
theorem Gath.all {s : HS} {X : List Nat} (hr : HRep s X) (w : WF s) (ho : s.old = []) {G RA : List Nat} (h : Gath s G) (hG : ∀ x ∈ G, Placed s x) (hp : ∀ p o, Live s p o → ∀ q ∈ o.ps, PtrOk s q) (hb : Bfs (strs (nowAt s)) (addAll [] G) 0 RA) : RA.Perm (plc s.cur) := by
  have n1 := hb.nodup (addAll_nodup G (by simp))
  refine (List.perm_ext_iff_of_nodup n1 (plc_nodup hr)).2 (fun x => ⟨fun hx => ?_, fun hx => ?_⟩)
  · have := reach_live hr hp hG hb x hx
    unfold liveU at this
    rw [ho] at this
    simpa using this
  · have hc := h x hx
    clear hx
    induction hc with
    | root h1 h2 =>
      refine hb.sub _ (mem_addAll.2 (.inr ⟨h1, fun e => ?_⟩))
      obtain ⟨y, hy, e2⟩ := List.mem_map.1 h2
      have := w.posC _ hy
      omega
    | @step p q o h1 h2 h3 h4 ih =>
      obtain ⟨j, hj, ej⟩ := mem_get 0 ih
      have hst : strs (nowAt s) p = o.strong := by unfold strs nowAt; rw [obAt_eq hr (.inl h2), fw_still ho]
      refine hb.closed j (Nat.zero_le _) hj q (by rw [ej, hst]; exact h3) (fun e => ?_)
      obtain ⟨y, hy, e2⟩ := List.mem_map.1 h4
      have := w.posC _ hy
      omega
theorem tookC_sum (l : List (Nat × Ob)) : (l.map (fun x => x.2.took)).sum = tookC l := by
  induction l with
  | nil => rfl
  | cons x l ih => rw [List.map_cons, List.sum_cons, ih]; rfl
theorem Gath.sum {s : HS} {X : List Nat} (hr : HRep s X) (ho : s.old = []) {RA : List Nat} (hperm : RA.Perm (plc s.cur)) : (RA.map (fun x => (nowAt s x).took)).sum = tookC s.cur := by
  rw [(hperm.map _).sum_nat, List.map_map, ← tookC_sum]
  congr 1
  refine List.map_congr_left (fun x hx => ?_)
  show (nowAt s x.1).took = _
  unfold nowAt
  rw [obAt_eq hr (o := x.2) (.inl hx), fw_still ho]

/-- The first k objects are scanned. -/
def Prog (s : HS) (k : Nat) : Prop := k ≤ s.cur.length ∧ s.scan = begs (s.base s.u) s.cur k
theorem begs_append (b : Nat) (l m : List (Nat × Ob)) : ∀ k, k ≤ l.length → begs b (l ++ m) k = begs b l k
  | 0, _ => rfl
  | k + 1, h => by
    show begs b (l ++ m) k + ((l ++ m).getD k ob0).2.took = begs b l k + (l.getD k ob0).2.took
    rw [begs_append b l m k (by omega)]
    have : (l ++ m).getD k ob0 = l.getD k ob0 := by simp [List.getD, List.getElem?_append_left (show k < l.length by omega)]
    rw [this]
theorem Prog.flip {s : HS} : Prog s.flip 0 := ⟨Nat.zero_le _, rfl⟩
theorem Prog.goesL {s s' : HS} {l l' : List Nat} {k : Nat} (h : Prog s k) (g : GoesL s l s' l') : Prog s' k := by
  obtain ⟨m, e, _⟩ := g.ext
  have hs := g.same
  refine ⟨by rw [e, List.length_append]; have := h.1; omega, ?_⟩
  rw [e, begs_append _ _ _ _ h.1, hs.2.2.2.1, h.2]
  unfold HS.base
  rw [hs.1, hs.2.1]
theorem Prog.goes {s s' : HS} {p q : Nat} {k : Nat} (h : Prog s k) (g : Goes s p s' q) : Prog s' k := h.goesL (GoesL.one g)
theorem Prog.scan {s s' : HS} {k a : Nat} {o : Ob} (h : Prog s k) (d : CurAt s k a o) {l' : List Nat} (g : GoesL s o.strong s' l') : Prog { s'.upd k (o.setS l') with scan := s.scan + o.took } (k + 1) := by
  have d' := g.cur d
  have h' := h.goesL g
  have hcur : (s'.upd k (o.setS l')).cur = s'.cur.set k (a, o.setS l') := d'.upd_cur
  refine ⟨?_, ?_⟩
  · show k + 1 ≤ (s'.upd k (o.setS l')).cur.length
    rw [hcur, List.length_set]; exact d'.lt
  · show s.scan + o.took = begs (s'.base s'.u) (s'.upd k (o.setS l')).cur (k + 1)
    have ht : (a, o.setS l').2.took = (s'.cur.getD k ob0).2.took := by rw [d'.get]; exact (Ob.setS_same o l').took
    rw [hcur, begs_set _ _ _ _ ht]
    show _ = begs (s'.base s'.u) s'.cur k + (s'.cur.getD k ob0).2.took
    rw [d'.get, ← h'.2, g.same.2.2.2.1]
theorem Prog.at_ {s : HS} {X : List Nat} (hr : HRep s X) {k : Nat} (h : Prog s k) (hk : k < s.cur.length) : CurAt s k s.scan (s.cur.getD k ob0).2 :=
  ⟨hk, by rw [h.2, ← (hr.place hk).1]⟩
theorem Prog.top {s : HS} {X : List Nat} (hr : HRep s X) {k : Nat} (h : Prog s k) : s.scan = s.top ↔ k = s.cur.length := by
  constructor
  · intro e
    rcases Nat.lt_or_eq_of_le h.1 with hl | he
    · have h1 := (hr.place hl)
      have h2 := (Ob.took_eq (hr.at_ hl).ok).2.2.1
      have h2 : 4 ≤ (s.cur.getD k ob0).2.took := h2
      have h3 := h1.1
      have h4 := h.2
      have h5 := h1.2.2
      omega
    · exact he
  · intro e
    rw [h.2, e]; exact hr.half.cl.lie.end
theorem tookC_len {s : HS} {X : List Nat} (hr : HRep s X) : ∀ l, (∀ x ∈ l, x ∈ s.cur) → 4 * l.length ≤ tookC l
  | [], _ => by simp [tookC]
  | x :: l, h => by
    have := tookC_len hr l (fun y hy => h y (by simp [hy]))
    have h2 := (Ob.took_eq (hr.cur_ok (h x (by simp))).1).2.2.1
    show 4 * (l.length + 1) ≤ x.2.took + tookC l
    omega
theorem HRep.cur_few {s : HS} {X : List Nat} (hr : HRep s X) : 4 * s.cur.length ≤ s.n := by
  have := tookC_len hr s.cur (fun _ h => h)
  have := hr.room
  omega
/-- Nothing is left of a list whose places are here. -/
theorem Settles.here {s : HS} {X : List Nat} (hr : HRep s X) {l st lf : List Nat} (h : Settles s l st lf) (hh : ∀ q ∈ l, q ∈ plc s.cur) : st = l ∧ lf = [] := by
  induction h with
  | nil => exact ⟨rfl, rfl⟩
  | stay h hp ih =>
    obtain ⟨e1, e2⟩ := ih (fun q hq => hh q (by simp [hq]))
    rw [e1, e2]; exact ⟨rfl, rfl⟩
  | @gone l st lf p i t o h c ih => exact absurd c.mem (cur_not_old_ hr (hh p (by simp)))
  | @left l st lf p i o h c ih => exact absurd c.mem (cur_not_old_ hr (hh p (by simp)))
/-- What is settled is here. -/
theorem Settles.st_here {s : HS} {X : List Nat} (hr : HRep s X) {l st lf : List Nat} (h : Settles s l st lf) (hh : ∀ q ∈ l, q ∈ plc s.cur ∨ q ∈ opl s.old) : ∀ q ∈ st, q ∈ plc s.cur := fun q hq => by
  rcases h.st_mem hq with ⟨h1, h2⟩ | ⟨a, h1, h2⟩
  · exact (hh q h1).resolve_right h2
  · exact h2.cur hr

end Go.Proofs.Ytiomemdmhcdpbaa
