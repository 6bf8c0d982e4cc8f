/- GraphClosed returns true, whatever the input. -/
import Derived.Test.YtcacbbfeenebbaaAwake09
import Derived.Test.YtcacbbfeenebbaaBMap
set_option linter.unusedSimpArgs false
set_option linter.unusedVariables false
namespace Go.Proofs.Ytcacbbfeenebbaa
open Go.RowKit Go.Shelf Go.Maps

/-- The object at a place. -/
def objOf (ls : List (Nat × Ob)) (x : Nat) : Ob := (ls.getD ((plc ls).idxOf x) o0).2
theorem objOf_at {X : List Nat} {b e : Nat} {ls : List (Nat × Ob)} (h : Laid X b e ls) {x : Nat} (hx : x ∈ plc ls) : At X x (objOf ls x) ∧ b ≤ x ∧ x + (objOf ls x).took ≤ e := by
  have hi : (plc ls).idxOf x < (plc ls).length := List.idxOf_lt_length_of_mem hx
  have hi2 : (plc ls).idxOf x < ls.length := by simpa using hi
  have h1 := h.at _ hi2
  obtain ⟨h2, _, _, h3⟩ := Lie.at h.lie _ hi2
  have h4 : begs b ls ((plc ls).idxOf x) = x := by
    rw [← h2]
    have : (plc ls)[(plc ls).idxOf x] = x := List.getElem_idxOf hi
    revert this hi2
    generalize (plc ls).idxOf x = i at *
    intro hi2 this
    simp only [plc, List.getElem_map] at this
    simpa [List.getD, hi2] using this
  refine ⟨by rw [h4] at h1; exact h1, by rw [← h4]; exact begs_ge _ _ _, ?_⟩
  have : begs b ls ((plc ls).idxOf x) + (objOf ls x).took ≤ e := h3
  rwa [h4] at this
theorem link_objs {X0 : List Nat} {en : Nat} {ps : List Nat} {X : List Nat} {ls : List (Nat × Ob)} (h : LinkR X0 en ps ps.length 0 X ls) (hen : en ≤ 151) (h8 : ps.length ≤ 8) : Objs X ps (objOf ls) := by
  obtain rfl := h.plc
  refine ⟨fun x hx => (objOf_at h.laid hx).1, fun x hx q hq h0 => ?_, fun x hx => ?_, by omega⟩
  · have hi : (plc ls).idxOf x < (plc ls).length := List.idxOf_lt_length_of_mem hx
    have hk : LkN (plc ls) (objOf ls x) 8 := h.lk _ hi
    have ho := (objOf_at h.laid hx).1.ok
    have hq2 : q ∈ (objOf ls x).ps := by
      unfold Ob.strong at hq
      split at hq
      · cases hq
      · exact hq
    obtain ⟨m, hm, rfl⟩ := List.getElem_of_mem hq2
    have hm2 : m < (objOf ls x).p := by rw [← ho.lp]; exact hm
    have := hk m (by have := ho.sh.1; omega) hm2
    have e : (objOf ls x).ps.getD m 0 = (objOf ls x).ps[m] := by simp [List.getD, hm]
    rw [e] at this
    exact this.resolve_left h0
  · have := (objOf_at h.laid hx).2.2
    omega

/-- Why each is in it. -/
theorem bfs_why {str : Nat → List Nat} {rs R : List Nat} (h : Bfs str (addAll [] rs) 0 R) {k : Nat} (hk : k < R.length) : R.getD k 0 ∈ rs ++ (R.take k).flatMap str := by
  rw [List.mem_append]
  rcases Nat.lt_or_ge k (addAll [] rs).length with hl | hl
  · left
    obtain ⟨M, rfl⟩ := h.pref
    have : (addAll [] rs ++ M).getD k 0 ∈ addAll [] rs := by
      simp [List.getD, List.getElem?_append, hl]
    rcases mem_addAll.1 this with h | ⟨h, _⟩
    · cases h
    · exact h
  · right
    obtain ⟨j, hj, hm⟩ := h.why k hl hk
    rw [List.mem_flatMap]
    refine ⟨R.getD j 0, ?_, hm⟩
    have hj2 : j < R.length := by omega
    rw [List.mem_take_iff_getElem]
    exact ⟨j, by omega, by simp [List.getD, hj2]⟩
theorem nodup_new {R : List Nat} (h : R.Nodup) {k : Nat} (hk : k < R.length) : R.getD k 0 ∉ R.take k := by
  rw [List.mem_take_iff_getElem]
  rintro ⟨j, hj, e⟩
  have : R[j]'(by omega) = R[k] := by rw [e]; simp [List.getD, hk]
  have := (List.getElem_inj h).1 this
  omega


def SetI (W : World) (m : Nat) (L : List Nat) (wr : World) : Prop := BMap wr m L ∧ Fr (fun k => k = m) W wr


set_option maxRecDepth 100000 in
set_option maxHeartbeats 8000000 in
theorem graphClosed_walk (v : Value) (l : List Raw8) (hm : l.length ≤ maxLen) (u : Value) (ro : List Int) (hro : ∀ x ∈ ro, I64 x) (hrm : ro.length ≤ maxLen) (w : World) (hr : RowK w v 5 (l.map Raw8.cells)) (hl : ∀ o ∈ l, o.Ok w) (hu : Row w u (ro.map (Value.int .i64))) :
    Calls Try.prog 9 #[v, u] w fun e w' => e = .returned (.bool true) ∧ Below w.heap.size w w' := by
  have hmm := @run_makeMap Try.prog
  replace hr := hid hr
  replace hl := hid hl
  replace hm := hid hm
  replace hro := hid hro
  replace hrm := hid hrm
  replace hu := hid hu
  go_enter Try.func9, Try.ntmps9
  go_wp2_with fail
  refine (awake09 _).mono ?_
  rintro e w1 ⟨rfl, c1⟩
  go_wp2_with fail
  refine (new_yes _ 200 (by decide) (by decide)).mono ?_
  rintro e w2 ⟨b, c, rfl, ar, c2, lb, lc⟩
  have hwc : w.heap.size ≤ c := by have := c1.size; omega
  have hcl : c < w2.heap.size := by obtain ⟨_, ⟨t, ht⟩, _⟩ := ar; exact (Array.getElem?_eq_some_iff.1 ht).1
  replace c1 := c1.trans c2
  clear c2
  go_wp2_with fail
  refine (lay_yes (w0 := w) ar (by simp) c1 hwc v l hm.out hr.out hl.out).mono ?_
  rintro e w3 ⟨vr, ls0, X0, en, rfl, ar, lo, h1, h2, rp, f3⟩
  replace c1 := c1.join f3 (fun j hj (e : j = c) => absurd hj (by omega))
  clear f3
  obtain ⟨ps, hps⟩ : ∃ ps, plc ls0 = ps := ⟨_, rfl⟩
  rw [hps] at rp
  have hlen : ps.length = ls0.length := by rw [← hps]; simp
  have hp8 : ps.length ≤ 8 := by omega
  have hen := lo.le
  have hpb : ∀ x ∈ ps, x ≤ 131072 := fun x hx => by
    rw [← hps] at hx
    have := (objOf_at lo.laid hx).2.2
    omega
  obtain ⟨pa, pn, pc, rfl⟩ := rp.letters
  replace hps := hid hps
  replace hlen := hid hlen
  replace hpb := hid hpb
  go_wp2_with fail
  refine (link_yes (w0 := w) ar c1 hwc v l hr.out hl.out rp hcl lo.laid hps.out h1 h2 hpb.out).mono ?_
  rintro e w4 ⟨rfl, X, ls, ar, lk, f4⟩
  replace rp := rp.frB f4 (fun b hb (e : b = c) => by have := (rp.lt hb).1; omega)
  replace c1 := c1.join f4 (fun j hj (e : j = c) => absurd hj (by omega))
  have HO := hid (link_objs lk hen hp8)
  have h0 : Hid (∀ x ∈ ps, x ≠ 0) := fun x hx => by
    have h := lk.plc
    rw [← h] at hx
    have := (objOf_at lk.laid hx).2.1
    omega
  clear f4 lk lo h1 h2 hm hr hl
  go_wp2_with fail
  refine (roots_yes (hu.out.calm c1) hro.out hrm.out rp.row (by omega)).mono ?_
  rintro e w5 ⟨vq, r, rfl, rq, hin, hr5, c5⟩
  replace ar := ar.calm c5
  replace c1 := c1.trans c5
  clear c5 rp hu hro hrm
  obtain ⟨qa, qc, rfl⟩ := rq.sliceN (n := r.length) (by simp)
  obtain ⟨qn, hqn⟩ : ∃ qn, r.length = qn := ⟨_, rfl⟩
  rw [hqn] at rq hr5 ⊢
  replace hqn := hid hqn
  have HIN : Hid (∀ x ∈ r, x ≠ 0 → x ∈ ps) := fun x hx h => (hin x hx).resolve_left h
  clear hin
  go_wp2_with fail
  refine (reach_yes ar HO.out rq.row (by rw [hqn.out]; omega) HIN.out).mono ?_
  rintro e w6 ⟨vR, R, rfl, rR, hb, c6⟩
  replace ar := ar.calm c6
  replace rq := rq.calm c6
  replace c1 := c1.trans c6
  have hRn : R.Nodup := hb.nodup (addAll_nodup _ List.nodup_nil)
  have hR0 : 0 ∉ R := hb.pos (addAll_pos (by simp) _)
  have hRps : ∀ x ∈ R, x ∈ ps := hb.within (U := fun x => x ∈ ps) HO.out.str (fun x hx => by
    rcases mem_addAll.1 hx with h | ⟨h1, h2⟩
    · cases h
    · exact HIN.out x h1 h2)
  have hRl : R.length ≤ 8 := Nat.le_trans (nodup_length hRn hRps) hp8
  obtain ⟨ra, rc, rfl⟩ := rR.sliceN (n := R.length) (by simp)
  obtain ⟨n, hn⟩ : ∃ n, R.length = n := ⟨_, rfl⟩
  rw [hn] at hRl rR ⊢
  replace hb := hid hb
  replace hRn := hid hRn
  replace hR0 := hid hR0
  replace hRps := hid hRps
  replace hn := hid hn
  clear c6
  have hq6 : ∀ x ∈ ps, x ≤ 1000000 := fun x hx => by have := hpb.out x hx; omega
  have HQ := hid hq6
  clear hq6
  go_wp2_with fail
  obtain ⟨M, hM⟩ : ∃ M, w6.heap.size = M := ⟨_, rfl⟩
  obtain ⟨W, hW⟩ : ∃ W, w6.alloc (Obj.map #[] 0) = W := ⟨_, rfl⟩
  have cW : Calm w6 W := by rw [← hW]; exact (Fr.refl _ _).alloc _
  have hB0 : SetI W M [] W := ⟨by rw [← hW, ← hM]; exact BMap.made w6, Fr.refl _ _⟩
  have hWs : W.heap.size = M + 1 := by rw [← hW, ← hM]; simp
  rw [hW, hM]
  have aR : ∀ j, InB (.slice ra n rc) j → j < M := fun j hj => by have := (rR.lt hj).2; omega
  have aq : ∀ j, InB (.slice qa qn qc) j → j < M := fun j hj => by have := (rq.lt hj).2; have := c1.size; omega
  have aw : w.heap.size ≤ M := by have := c1.size; omega
  have ab : b < M := by have := ar.lt; omega
  have ac : c < M := by have h := ar; obtain ⟨_, ⟨t, ht⟩, _⟩ := h; have := (Array.getElem?_eq_some_iff.1 ht).1; omega
  replace ar := ar.calm cW
  replace rR := rR.calm cW
  replace rq := rq.calm cW
  replace c1 := c1.trans cW
  replace aR := hid aR
  replace aq := hid aq
  clear hW cW hM
  go_loopw [13] (fun i wr => ∃ k : Nat, k ≤ n ∧ i = .int .i64 k ∧ SetI W M (R.take k) wr) (fun i _ => n - (intOf i).toNat)
  case atStart => exact ⟨0, Nat.zero_le _, rfl, hB0⟩
  case round =>
    clear hB0
    obtain ⟨k, hk, rfl, hB, hF⟩ := hrel
    rcases Nat.lt_or_ge k n with hlt | hge
    · have hkR : k < R.length := by rw [hn.out]; exact hlt
      obtain ⟨g, gc, hv, _, hg0, _⟩ := (rR.frB hF (fun j hj (e : j = M) => by have := aR.out j hj; omega)).get (k := k) (by simpa using hkR)
      injection hv with hv1 hv2 hv3
      subst hv1
      rw [show (nI R).getD k 0 = ((R.getD k 0 : Nat) : Int) by simp [List.getD, hkR]] at hg0
      have hmem : R.getD k 0 ∈ R := by simp [List.getD, hkR]
      have hq := HQ.out _ (hRps.out _ hmem)
      have hni : Hid (decide (R.getD k 0 ∈ R.take k) = false) := by show _ = false; simpa using nodup_new hRn.out hkR
      have hq0 : ((R.getD k 0 : Int) == 0) = false := by
        rw [beq_eq_false_iff_ne]; intro e; have : R.getD k 0 = 0 := by omega
        rw [this] at hmem; exact hR0.out hmem
      have hstep : Hid (R.take (k + 1) = R.take k ++ [R.getD k 0]) := take_succ_getD R hkR
      have hll : Hid ((R.take k).length ≤ 1000000) := by show _ ≤ _; simp; omega
      replace hB := hid hB
      clear hv2 hv3 hkR hmem
      generalize R.take k = L at *
      generalize R.getD k 0 = q at *
      go_wp2_with (first | (at_lookup; go_must (refine wpList_blook rfl _ _ rfl M L rfl hB.out q hq rfl false hni.out ?_)) | (at_mapUpdate; go_must (refine wpList_bput rfl _ _ _ rfl M L rfl hB.out hll.out q hq rfl rfl ?_); intro w7 hB7 hF7; replace hB7 := hid hB7; replace hF7 := hid hF7))
      go_roundw
      case rel => exact ⟨k + 1, by omega, by go_num, by rw [hstep.out]; exact hB7.out, hF.trans hF7.out⟩
      case measure => simp [intOf]; omega
    · obtain rfl : n = k := by omega
      have hT : R.take n = R := List.take_of_length_le (by rw [hn.out]; omega)
      rw [hT] at hB
      clear hT hge hk
      have ar2 := ar.fr hF (by omega) (by omega)
      have rR2 := rR.frB hF (fun j hj (e : j = M) => by have := aR.out j hj; omega)
      have rq2 := rq.frB hF (fun j hj (e : j = M) => by have := aq.out j hj; omega)
      have c2 := c1.join hF (fun j hj (e : j = M) => by omega)
      have hs2 := hF.size
      clear hF ar rR rq c1
      go_wp2_with fail
      obtain ⟨M2, hM2⟩ : ∃ M2, wr.heap.size = M2 := ⟨_, rfl⟩
      obtain ⟨W2, hW2⟩ : ∃ W2, wr.alloc (Obj.map #[] 0) = W2 := ⟨_, rfl⟩
      have cW : Calm wr W2 := by rw [← hW2]; exact (Fr.refl _ _).alloc _
      have hB0 : SetI W2 M2 [] W2 := ⟨by rw [← hW2, ← hM2]; exact BMap.made wr, Fr.refl _ _⟩
      rw [hW2, hM2]
      replace ar2 := ar2.calm cW
      replace rR2 := rR2.calm cW
      replace rq2 := rq2.calm cW
      replace c2 := c2.trans cW
      replace hB := hid (hB.calm cW)
      have hMM : M < M2 := by omega
      have aR2 := aR.out
      have aq2 := aq.out
      replace aR := hid (fun j hj => Nat.lt_trans (aR2 j hj) hMM)
      replace aq := hid (fun j hj => Nat.lt_trans (aq2 j hj) hMM)
      clear aR2 aq2 hM2 hW2 cW hs2
      go_loopw [15] (fun i wr => ∃ k : Nat, k ≤ qn ∧ i = .int .i64 k ∧ SetI W2 M2 (r.take k) wr) (fun i _ => qn - (intOf i).toNat)
      case atStart => exact ⟨0, Nat.zero_le _, rfl, hB0⟩
      case round =>
        clear hB0
        obtain ⟨k, hk, rfl, hC, hF⟩ := hrel
        rcases Nat.lt_or_ge k qn with hlt | hge
        · have hkR : k < r.length := by rw [hqn.out]; exact hlt
          obtain ⟨g, gc, hv, _, hg0, _⟩ := (rq2.frB hF (fun j hj (e : j = M2) => by have := aq.out j hj; omega)).get (k := k) (by simpa using hkR)
          injection hv with hv1 hv2 hv3
          subst hv1
          rw [show (nI r).getD k 0 = ((r.getD k 0 : Nat) : Int) by simp [List.getD, hkR]] at hg0
          have hmem : r.getD k 0 ∈ r := by simp [List.getD, hkR]
          have hq : r.getD k 0 ≤ 1000000 := by
            by_cases e : r.getD k 0 = 0
            · omega
            · exact HQ.out _ (HIN.out _ hmem e)
          have hin : r.getD k 0 ≠ 0 → decide (r.getD k 0 ∈ R) = true := fun h => by
            simp only [decide_eq_true_eq]
            exact hb.out.sub _ (mem_addAll.2 (.inr ⟨hmem, h⟩))
          have hstep : Hid (r.take (k + 1) = r.take k ++ [r.getD k 0]) := take_succ_getD r hkR
          have hll : Hid ((r.take k).length ≤ 1000000) := by show _ ≤ _; simp; omega
          replace hC := hid hC
          replace hin := hid hin
          have hB3 := hid (hB.out.fr hF (by omega))
          clear hv2 hv3 hkR hmem
          generalize r.take k = L at *
          generalize r.getD k 0 = q at *
          by_cases hq0 : q = 0
          · subst hq0
            have b1 : (((0 : Nat) : Int) != 0) = false := by simp
            go_wp2_with (at_mapUpdate; go_must (refine wpList_bput rfl _ _ _ rfl M2 L rfl hC.out hll.out 0 (by omega) rfl rfl ?_); intro w7 hB7 hF7; replace hB7 := hid hB7; replace hF7 := hid hF7)
            go_roundw
            case rel => exact ⟨k + 1, by omega, by go_num, by rw [hstep.out]; exact hB7.out, hF.trans hF7.out⟩
            case measure => simp [intOf]; omega
          · have b1 : ((q : Int) != 0) = true := by simp; omega
            have b2 : ((q : Int) == 0) = false := by simp; omega
            have hrun := hB3.out.look q hq (hin.out hq0)
            clear hq0
            go_wp2_with (at_mapUpdate; go_must (refine wpList_bput rfl _ _ _ rfl M2 L rfl hC.out hll.out q hq rfl rfl ?_); intro w7 hB7 hF7; replace hB7 := hid hB7; replace hF7 := hid hF7)
            go_roundw
            case rel => exact ⟨k + 1, by omega, by go_num, by rw [hstep.out]; exact hB7.out, hF.trans hF7.out⟩
            case measure => simp [intOf]; omega
        · obtain rfl : qn = k := by omega
          have hT : r.take qn = r := List.take_of_length_le (by rw [hqn.out]; omega)
          rw [hT] at hC
          clear hT hge hk
          have ar3 := ar2.fr hF (by omega) (by omega)
          have rR3 := rR2.frB hF (fun j hj (e : j = M2) => by have := aR.out j hj; omega)
          have c3 := c2.join hF (fun j hj (e : j = M2) => by omega)
          have hB3 := hid (hB.out.fr hF (by omega))
          clear hF ar2 rR2 rq2 c2 hB
          replace hC := hid hC
          obtain ⟨W3, hW3⟩ : ∃ W3, wr = W3 := ⟨_, rfl⟩
          subst hW3
          have hM2 : M2 < wr.heap.size := hC.out.lt
          have ar4 := hid ar3
          have rR4 := hid rR3
          have c4 := hid c3
          clear ar3 rR3 c3
          have hk0 : Calm wr wr := Fr.refl _ _
          go_wp2_with fail
          go_loopw [16] (fun i wx => ∃ k : Nat, k ≤ n ∧ i = .int .i64 k ∧ Calm wr wx) (fun i _ => n - (intOf i).toNat)
          case atStart => exact ⟨0, Nat.zero_le _, rfl, hk0⟩
          case round =>
            clear hk0
            obtain ⟨k, hk, rfl, hcx⟩ := hrel
            rcases Nat.lt_or_ge k n with hlt | hge
            · have hkR : k < R.length := by rw [hn.out]; exact hlt
              obtain ⟨g, gc, hv, _, hg0, _⟩ := (rR4.out.calm hcx).get (k := k) (by simpa using hkR)
              injection hv with hv1 hv2 hv3
              subst hv1
              rw [show (nI R).getD k 0 = ((R.getD k 0 : Nat) : Int) by simp [List.getD, hkR]] at hg0
              have hmem : R.getD k 0 ∈ R := by simp [List.getD, hkR]
              have hx := hRps.out _ hmem
              have hcl := hid (hb.out.closed k (Nat.zero_le _) hkR)
              have hS := hid (strong_yes (ar4.out.calm hcx) (HO.out.at_ _ hx))
              have hsb := hid (Ob.strong_bound (HO.out.at_ _ hx).ok)
              have hsp := Ob.strong_le (HO.out.at_ _ hx).ok
              have hsp8 := (HO.out.at_ _ hx).ok.sh.1
              clear hv2 hv3 hkR hmem hx
              generalize R.getD k 0 = x at *
              replace hcl : Hid (∀ q ∈ (objOf ls x).strong, q ≠ 0 → q ∈ R) := hcl
              generalize (objOf ls x).strong = s at *
              go_wp2_with fail
              refine (hS.out).mono ?_
              rintro e w8 ⟨vs, rfl, hrow, c8⟩
              obtain ⟨va, vc, rfl⟩ := hrow.sliceN (n := s.length) (by simp)
              replace hcx := hcx.trans c8
              obtain ⟨m, hm⟩ : ∃ m, s.length = m := ⟨_, rfl⟩
              rw [hm] at hsp hrow ⊢
              replace hm := hid hm
              replace hrow := hid hrow
              have hk1 : Calm w8 w8 := Fr.refl _ _
              clear c8 hS hg0
              go_wp2_with fail
              go_loopw [19] (fun i wx => ∃ j : Nat, j ≤ m ∧ i = .int .i64 j ∧ Calm w8 wx) (fun i _ => m - (intOf i).toNat)
              case atStart => exact ⟨0, Nat.zero_le _, rfl, hk1⟩
              case round =>
                clear hk1
                obtain ⟨j, hj, rfl, hcy⟩ := hrel
                rcases Nat.lt_or_ge j m with hlt2 | hge2
                · have hjs : j < s.length := by rw [hm.out]; exact hlt2
                  obtain ⟨g2, gc2, hv, _, hg0, _⟩ := (hrow.out.calm hcy).get (k := j) (by simpa using hjs)
                  injection hv with hv1 hv2 hv3
                  subst hv1
                  rw [show (nI s).getD j 0 = ((s.getD j 0 : Nat) : Int) by simp [List.getD, hjs]] at hg0
                  have hmem : s.getD j 0 ∈ s := by simp [List.getD, hjs]
                  have hq : s.getD j 0 ≤ 1000000 := by have := hsb.out _ hmem; omega
                  have hin : Hid (s.getD j 0 ≠ 0 → decide (s.getD j 0 ∈ R) = true) := fun h => by simpa using hcl.out _ hmem h
                  have hB5 := hid (hB3.out.calm (hcx.trans hcy))
                  clear hv2 hv3 hjs hmem
                  generalize s.getD j 0 = q at *
                  by_cases hq0 : q = 0
                  · subst hq0
                    have b1 : (((0 : Nat) : Int) != 0) = false := by simp
                    go_wp2
                    go_roundw
                    case rel => exact ⟨j + 1, by omega, by go_num, hcy⟩
                    case measure => simp [intOf]; omega
                  · have b1 : ((q : Int) != 0) = true := by simp; omega
                    have b2 : ((q : Int) == 0) = false := by simp; omega
                    have hrun := hB5.out.look q hq (hin.out hq0)
                    clear hq0
                    go_wp2
                    go_roundw
                    case rel => exact ⟨j + 1, by omega, by go_num, hcy⟩
                    case measure => simp [intOf]; omega
                · obtain rfl : m = j := by omega
                  have hcz := hcx.trans hcy
                  clear hcx hcy hge2 hj
                  go_wp2
                  go_roundw
                  case rel => exact ⟨k + 1, by omega, by go_num, hcz⟩
                  case measure => simp [intOf]; omega
            · obtain rfl : n = k := by omega
              have ar5 := hid (ar4.out.calm hcx)
              have rR5 := hid (rR4.out.calm hcx)
              have c5 := c4.out.trans hcx
              have hC5 : SetI wr M2 (r ++ (R.take 0).flatMap (strs (objOf ls))) wr := ⟨by simpa using hC.out.calm hcx, Fr.refl _ _⟩
              have hsz := hcx.size
              clear ar4 rR4 c4 hC hge hk hcx hB3
              go_wp2_with fail
              go_loopw [20] (fun i wy => ∃ k : Nat, k ≤ n ∧ i = .int .i64 k ∧ SetI wr M2 (r ++ (R.take k).flatMap (strs (objOf ls))) wy) (fun i _ => n - (intOf i).toNat)
              case atStart => exact ⟨0, Nat.zero_le _, rfl, hC5⟩
              case round =>
                clear hC5
                obtain ⟨k, hk, rfl, hC, hF⟩ := hrel
                rcases Nat.lt_or_ge k n with hlt | hge
                · have hkR : k < R.length := by rw [hn.out]; exact hlt
                  obtain ⟨g, gc, hv, _, hg0, _⟩ := (rR5.out.frB hF (fun j hj (e : j = M2) => by have := aR.out j hj; omega)).get (k := k) (by simpa using hkR)
                  injection hv with hv1 hv2 hv3
                  subst hv1
                  rw [show (nI R).getD k 0 = ((R.getD k 0 : Nat) : Int) by simp [List.getD, hkR]] at hg0
                  have hmem : R.getD k 0 ∈ R := by simp [List.getD, hkR]
                  have hx := hRps.out _ hmem
                  have hq := HQ.out _ hx
                  have hwhy : Hid (decide (R.getD k 0 ∈ r ++ (R.take k).flatMap (strs (objOf ls))) = true) := by show _ = true; simpa using bfs_why hb.out hkR
                  have hstep : Hid (r ++ (R.take (k + 1)).flatMap (strs (objOf ls)) = (r ++ (R.take k).flatMap (strs (objOf ls))) ++ (objOf ls (R.getD k 0)).strong) := by
                    show _ = _
                    rw [take_succ_getD R hkR]; simp
                  have hS := hid (fun W9 (cw : Fr (fun j => j = M2) wr W9) => strong_yes ((ar5.out.fr hF (by omega) (by omega)).fr cw (by omega) (by omega)) (HO.out.at_ _ hx))
                  have hsb := hid (Ob.strong_bound (HO.out.at_ _ hx).ok)
                  have hsp := Ob.strong_le (HO.out.at_ _ hx).ok
                  have hsp8 := (HO.out.at_ _ hx).ok.sh.1
                  have hll : Hid ((r ++ (R.take k).flatMap (strs (objOf ls))).length ≤ 5 + 8 * k) := by
                    show _ ≤ _
                    rw [List.length_append, hqn.out]
                    have : ∀ (T : List Nat), (∀ x ∈ T, x ∈ ps) → (T.flatMap (strs (objOf ls))).length ≤ 8 * T.length := by
                      intro T
                      induction T with
                      | nil => simp
                      | cons a T ih =>
                        intro h
                        have h1 := ih (fun x hx => h x (by simp [hx]))
                        have h2 := Ob.strong_le (HO.out.at_ a (h a (by simp))).ok
                        have h3 := (HO.out.at_ a (h a (by simp))).ok.sh.1
                        simp only [List.flatMap_cons, List.length_append, List.length_cons]
                        have h4 : (strs (objOf ls) a).length ≤ 8 := Nat.le_trans h2 h3
                        omega
                    have := this (R.take k) (fun x hx => hRps.out x (List.mem_of_mem_take hx))
                    rw [List.length_take] at this
                    omega
                  replace hC := hid hC
                  clear hv2 hv3 hkR hmem hx
                  generalize r ++ (R.take k).flatMap (strs (objOf ls)) = L at *
                  generalize R.getD k 0 = x at *
                  generalize (objOf ls x).strong = s at *
                  go_wp2_with (at_lookup; go_must (refine wpList_blook rfl _ _ rfl M2 L rfl hC.out x hq rfl true hwhy.out ?_))
                  refine (hS.out _ (Fr.refl _ _)).mono ?_
                  rintro e w8 ⟨vs, rfl, hrow, c8⟩
                  obtain ⟨va, vc, rfl⟩ := hrow.sliceN (n := s.length) (by simp)
                  have hF8 : Fr (fun j => j = M2) _ w8 := hF.trans c8.any
                  have aS : ∀ j, InB (.slice va s.length vc) j → M2 < j := fun j hj => by have := (hrow.lt hj).1; have := hF.size; omega
                  obtain ⟨m, hm⟩ : ∃ m, s.length = m := ⟨_, rfl⟩
                  rw [hm] at hsp hrow aS ⊢
                  have hC8 : SetI w8 M2 (L ++ s.take 0) w8 := ⟨by simpa using hC.out.calm c8, Fr.refl _ _⟩
                  replace hm := hid hm
                  replace hrow := hid hrow
                  replace aS := hid aS
                  clear c8 hS hg0 hF hC
                  go_wp2_with fail
                  go_loopw [23] (fun i wy => ∃ j : Nat, j ≤ m ∧ i = .int .i64 j ∧ SetI w8 M2 (L ++ s.take j) wy) (fun i _ => m - (intOf i).toNat)
                  case atStart => exact ⟨0, Nat.zero_le _, rfl, hC8⟩
                  case round =>
                    clear hC8
                    obtain ⟨j, hj, rfl, hC, hF⟩ := hrel
                    rcases Nat.lt_or_ge j m with hlt2 | hge2
                    · have hjs : j < s.length := by rw [hm.out]; exact hlt2
                      obtain ⟨g2, gc2, hv, _, hg0, _⟩ := (hrow.out.frB hF (fun i hi (e : i = M2) => by have := aS.out i hi; omega)).get (k := j) (by simpa using hjs)
                      injection hv with hv1 hv2 hv3
                      subst hv1
                      rw [show (nI s).getD j 0 = ((s.getD j 0 : Nat) : Int) by simp [List.getD, hjs]] at hg0
                      have hq2 : s.getD j 0 ≤ 1000000 := by have := hsb.out (s.getD j 0) (by simp [List.getD, hjs]); omega
                      have hstep2 : Hid (L ++ s.take (j + 1) = (L ++ s.take j) ++ [s.getD j 0]) := by
                        show _ = _
                        rw [take_succ_getD s hjs]; simp
                      have hl2 : Hid ((L ++ s.take j).length ≤ 1000000) := by
                        show _ ≤ _
                        have := hll.out
                        rw [List.length_append, List.length_take]; omega
                      replace hC := hid hC
                      clear hv2 hv3 hjs
                      generalize L ++ s.take j = L2 at *
                      generalize s.getD j 0 = q at *
                      go_wp2_with (at_mapUpdate; go_must (refine wpList_bput rfl _ _ _ rfl M2 L2 rfl hC.out hl2.out q hq2 rfl rfl ?_); intro w9 hB9 hF9; replace hB9 := hid hB9; replace hF9 := hid hF9)
                      go_roundw
                      case rel => exact ⟨j + 1, by omega, by go_num, by rw [hstep2.out]; exact hB9.out, hF.trans hF9.out⟩
                      case measure => simp [intOf]; omega
                    · obtain rfl : m = j := by omega
                      have hT : s.take m = s := List.take_of_length_le (by rw [hm.out]; omega)
                      rw [hT] at hC
                      have hC9 := hid hC
                      have hF9 := hF8.trans hF
                      clear hT hge2 hj hC hF
                      go_wp2
                      go_roundw
                      case rel => exact ⟨k + 1, by omega, by go_num, by rw [hstep.out]; exact hC9.out, hF9⟩
                      case measure => simp [intOf]; omega
                · obtain rfl : n = k := by omega
                  have c6 := c5.join hF (fun j hj (e : j = M2) => by have := c5.size; omega)
                  clear hge hk
                  go_wp2
                  go_ret
                  exact ⟨rfl, Calm.below c6⟩

end Go.Proofs.Ytcacbbfeenebbaa
