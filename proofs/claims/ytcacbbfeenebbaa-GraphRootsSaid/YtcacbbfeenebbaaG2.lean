/- GraphRoots returns true, whatever the input. -/
import Derived.Test.YtcacbbfeenebbaaG1
import Derived.Test.YtcacbbfeenebbaaAppL
set_option linter.unusedSimpArgs false
set_option linter.unusedVariables false
namespace Go.Proofs.Ytcacbbfeenebbaa
open Go.RowKit Go.Shelf Go.Maps

theorem addAll_again (r : List Nat) : addAll [] (([0] ++ r) ++ [0] ++ r) = addAll [] r := by
  rw [addAll_append, addAll_append, addAll_append]
  have h0 : addAll [] [0] = [] := by simp [addAll, addTo]
  have h1 : ∀ L, addAll L [0] = L := fun L => by simp [addAll, addTo]
  rw [h0, h1]
  have : ∀ (s L : List Nat), (∀ x ∈ s, x = 0 ∨ x ∈ L) → addAll L s = L := by
    intro s
    induction s with
    | nil => intro L _; rfl
    | cons a s ih =>
      intro L h
      rw [addAll_cons]
      have : addTo L a = L := by unfold addTo; rw [if_pos (h a (by simp))]
      rw [this]
      exact ih L (fun x hx => h x (by simp [hx]))
  exact this r _ (fun x hx => by
    by_cases e : x = 0
    · exact .inl e
    · exact .inr (mem_addAll.2 (.inr ⟨hx, e⟩)))
theorem bfs_mono {str : Nat → List Nat} {r s R R3 : List Nat} (h : Bfs str (addAll [] r) 0 R) (h3 : Bfs str (addAll [] (r ++ s)) 0 R3) : ∀ x ∈ R, x ∈ R3 := by
  refine h.within (U := fun x => x ∈ R3) (fun x hx q hq h0 => ?_) (fun x hx => ?_)
  · obtain ⟨i, hi, rfl⟩ := List.getElem_of_mem hx
    exact h3.closed i (Nat.zero_le _) hi q (by simpa [List.getD, hi] using hq) h0
  · refine h3.sub x ?_
    rcases mem_addAll.1 hx with h | ⟨h1, h2⟩
    · cases h
    · exact mem_addAll.2 (.inr ⟨by simp [h1], h2⟩)

set_option maxRecDepth 100000 in
set_option maxHeartbeats 8000000 in
theorem graphRoots_walk (v : Value) (l : List Raw8) (hm : l.length ≤ maxLen) (u : Value) (ro : List Int) (hro : ∀ x ∈ ro, I64 x) (hrm : ro.length ≤ maxLen) (u2 : Value) (ro2 : List Int) (hro2 : ∀ x ∈ ro2, I64 x) (hrm2 : ro2.length ≤ maxLen) (w : World) (hr : RowK w v 5 (l.map Raw8.cells)) (hl : ∀ o ∈ l, o.Ok w) (hu : Row w u (ro.map (Value.int .i64))) (hu2 : Row w u2 (ro2.map (Value.int .i64))) :
    Calls Try.prog 10 #[v, u, u2] w fun e w' => e = .returned (.bool true) ∧ Below w.heap.size w w' := by
  have hmm := @run_makeMap Try.prog
  replace hr := hid hr
  replace hl := hid hl
  replace hm := hid hm
  replace hro := hid hro
  replace hrm := hid hrm
  replace hu := hid hu
  replace hro2 := hid hro2
  replace hrm2 := hid hrm2
  replace hu2 := hid hu2
  go_enter Try.func10, Try.ntmps10
  go_wp2_with fail
  refine (awake09 _).mono ?_
  rintro e w1 ⟨rfl, c1⟩
  go_wp2_with fail
  refine (new_yes _ 200 (by decide) (by decide)).mono ?_
  rintro e w2 ⟨b, c, rfl, ar, c2, lb, lc⟩
  have hwc : w.heap.size ≤ c := by have := c1.size; omega
  have hcl : c < w2.heap.size := by obtain ⟨_, ⟨t, ht⟩, _⟩ := ar; exact (Array.getElem?_eq_some_iff.1 ht).1
  replace c1 := c1.trans c2
  clear c2
  go_wp2_with fail
  refine (lay_yes (w0 := w) ar (by simp) c1 hwc v l hm.out hr.out hl.out).mono ?_
  rintro e w3 ⟨vr, ls0, X0, en, rfl, ar, lo, h1, h2, rp, f3⟩
  replace c1 := c1.join f3 (fun j hj (e : j = c) => absurd hj (by omega))
  clear f3
  obtain ⟨ps, hps⟩ : ∃ ps, plc ls0 = ps := ⟨_, rfl⟩
  rw [hps] at rp
  have hlen : ps.length = ls0.length := by rw [← hps]; simp
  have hp8 : ps.length ≤ 8 := by omega
  have hen := lo.le
  have hpb : ∀ x ∈ ps, x ≤ 131072 := fun x hx => by
    rw [← hps] at hx
    have := (objOf_at lo.laid hx).2.2
    omega
  obtain ⟨pa, pn, pc, rfl⟩ := rp.letters
  replace hps := hid hps
  replace hlen := hid hlen
  replace hpb := hid hpb
  go_wp2_with fail
  refine (link_yes (w0 := w) ar c1 hwc v l hr.out hl.out rp hcl lo.laid hps.out h1 h2 hpb.out).mono ?_
  rintro e w4 ⟨rfl, X, ls, ar, lk, f4⟩
  replace rp := rp.frB f4 (fun b hb (e : b = c) => by have := (rp.lt hb).1; omega)
  replace c1 := c1.join f4 (fun j hj (e : j = c) => absurd hj (by omega))
  have HO := hid (link_objs lk hen hp8)
  have h0 : Hid (∀ x ∈ ps, x ≠ 0) := fun x hx => by
    have h := lk.plc
    rw [← h] at hx
    have := (objOf_at lk.laid hx).2.1
    omega
  clear f4 lk lo h1 h2 hm hr hl
  go_wp2_with fail
  refine (roots_yes (hu.out.calm c1) hro.out hrm.out rp.row (by omega)).mono ?_
  rintro e w5 ⟨vq, r, rfl, rq, hin, hr5, c5⟩
  replace ar := ar.calm c5
  replace rp := rp.calm c5
  replace c1 := c1.trans c5
  clear c5 hu hro hrm
  have HIN : Hid (∀ x ∈ r, x ≠ 0 → x ∈ ps) := fun x hx h => (hin x hx).resolve_left h
  clear hin
  go_wp2_with fail
  refine (roots_yes (hu2.out.calm c1) hro2.out hrm2.out rp.row (by omega)).mono ?_
  rintro e w6 ⟨vs, s, rfl, rs, hin, hs5, c6⟩
  replace ar := ar.calm c6
  replace rq := rq.calm c6
  replace c1 := c1.trans c6
  clear c6 hu2 hro2 hrm2 rp
  have HIN2 : Hid (∀ x ∈ s, x ≠ 0 → x ∈ ps) := fun x hx h => (hin x hx).resolve_left h
  clear hin
  obtain ⟨qa, qn, qc, rfl⟩ := rq.letters
  obtain ⟨ta, tn, tc, rfl⟩ := rs.letters
  go_wp2_with fail
  refine (reach_yes ar HO.out rq.row (by omega) HIN.out).mono ?_
  rintro e w7 ⟨vR, R, rfl, rR, hb, c7⟩
  replace ar := ar.calm c7
  replace rq := rq.calm c7
  replace rs := rs.calm c7
  replace c1 := c1.trans c7
  clear c7
  obtain ⟨ra, rn, rc, rfl⟩ := rR.letters
  replace hb := hid hb
  have tok1 : True := trivial
  have hl1 : Hid (ORow (w7.alloc (.cells #[.int .i64 0] 3)) w7.heap.size (.slice (some ⟨w7.heap.size, 0, none⟩) 1 1) [0]) := ORow.lit w7 w7.heap.size [0] (Nat.le_refl _) (by decide)
  have rq1 := hid (rq.calm ((Fr.refl (fun _ => False) w7).alloc (.cells #[.int .i64 0] 3)))
  have k8 : Calm w7 (w7.alloc (.cells #[.int .i64 0] 3)) := (Fr.refl _ _).alloc _
  have hqb : Hid (∀ j, InB (.slice qa qn qc) j → j < w7.heap.size) := fun j hj => (rq.lt hj).2
  have hsb : Hid (∀ j, InB (.slice ta tn tc) j → j < w7.heap.size) := fun j hj => (rs.lt hj).2
  have rlen : Hid ((nI r).length ≤ 5) := by show _ ≤ _; simpa using hr5
  have slen : Hid ((nI s).length ≤ 5) := by show _ ≤ _; simpa using hs5
  replace rq := hid rq
  replace rs := hid rs
  generalize hrI : nI r = rI at *
  generalize hsI : nI s = sI at *
  replace hrI := hid hrI
  replace hsI := hid hsI
  go_wp2_with (first | (at_builtin; have _t := tok1; go_must (refine wpList_appL rfl _ _ rfl w7.heap.size _ [0] hl1.out rfl _ rI rq1.out.row rfl (by have := rlen.out; simp; omega) (by simp) ?_); intro v8 w8 rv8 f8 b8; obtain ⟨a8, n8, c8, rfl⟩ := rv8.letters; have rq8 := hid (rq1.out.frB f8 (fun j h1 h2 => by have := hqb.out j h1; have := InB.mk1 h2; omega)); have k9 : Calm w7 w8 := k8.join f8 (fun j h1 h2 => by have := InB.mk1 h2; omega); have s8 := hid k9.size; replace rv8 := hid rv8; clear f8 b8 tok1; have tok2 : True := trivial) | (at_builtin; have _t := tok2; go_must (refine wpList_app1 rfl _ _ rfl w7.heap.size (.slice a8 n8 c8) ([0] ++ rI) rv8.out rfl 0 rfl (by have := rlen.out; simp; omega) s8.out ?_); intro g9 c9 w9 rv9 f9 h9; have rq9 := hid (rq8.out.frB f9 (fun j h1 h2 => by have := hqb.out j h1; have := (rv8.out.lt h2).1; omega)); have k10 : Calm w7 w9 := k9.join f9 (fun j h1 h2 => by have := (rv8.out.lt h2).1; omega); have s9 := hid k10.size; replace rv9 := hid rv9; clear f9 h9 tok2; have tok3 : True := trivial) | (at_builtin; have _t := tok3; go_must (refine wpList_appL rfl _ _ rfl w7.heap.size _ _ rv9.out rfl _ rI rq9.out.row rfl (by have := rlen.out; simp; omega) s9.out ?_); intro v10 w10 rv10 f10 b10; obtain ⟨a10, n10, c10, rfl⟩ := rv10.letters; have k11 : Calm w7 w10 := k10.join f10 (fun j h1 h2 => by have := (rv9.out.lt h2).1; omega); replace rv10 := hid rv10; clear f10 b10 tok3))
  have e10 : ([0] ++ rI) ++ [0] ++ rI = nI (([0] ++ r) ++ [0] ++ r) := by rw [← hrI.out]; simp
  have rv := hid rv10.out.row
  rw [e10] at rv
  refine (reach_yes (ar.calm k11) HO.out rv.out (by simp; omega) (fun x hx h0 => HIN.out x (by simpa [h0] using hx) h0)).mono ?_
  rintro e w11 ⟨vR2, R2, rfl, rR2, hb2, c11⟩
  rw [addAll_again] at hb2
  obtain rfl := hb.out.unique hb2
  have k12 := k11.trans c11
  replace ar := ar.calm k12
  replace rq := hid (rq.out.calm k12)
  replace rs := hid (rs.out.calm k12)
  replace rR := rR.calm k12
  replace c1 := c1.trans k12
  have hs12 := k12.size
  obtain ⟨xa, xn, xc, rfl⟩ := rR2.letters
  clear k8 k9 k10 k11 k12 c11 hb2 e10 rv rv10 rv9 rv8 rq8 rq9 s8 s9 hl1 rq1 _t
  have tok4 : True := trivial
  have hl4 := hid (ORow.nil w11 w11.heap.size)
  have rlb : Hid (∀ j, InB (.slice xa xn xc) j → j < w11.heap.size) := fun j hj => (rR2.lt hj).2
  go_wp2_with (first | (at_builtin; have _t := tok4; go_must (refine wpList_appL rfl _ _ rfl w11.heap.size _ [] hl4.out rfl _ rI rq.out.row rfl (by have := rlen.out; simp; omega) (Nat.le_refl _) ?_); intro v12 w12 rv12 f12 b12; have k12 : Calm w11 w12 := f12.mono (fun j _ h => InB.nil _ h); obtain ⟨a12, n12, c12, rfl⟩ := rv12.letters; have rs12 := hid (rs.out.calm k12); have s12 := hid k12.size; replace rv12 := hid rv12; replace b12 := hid b12; clear f12 tok4; have tok5 : True := trivial) | (at_builtin; have _t := tok5; go_must (refine wpList_appL rfl _ _ rfl w11.heap.size _ _ rv12.out rfl _ sI rs12.out.row rfl (by have := rlen.out; have := slen.out; simp; omega) s12.out ?_); intro v13 w13 rv13 f13 b13; obtain ⟨a13, n13, c13, rfl⟩ := rv13.letters; have k13 : Calm w11 w13 := k12.join f13 (fun j h1 h2 => by have := (rv12.out.lt h2).1; omega); replace rv13 := hid rv13; clear f13 b13 tok5))
  have e13 : [] ++ rI ++ sI = nI (r ++ s) := by rw [← hrI.out, ← hsI.out]; simp
  have rv := hid rv13.out.row
  rw [e13] at rv
  refine (reach_yes (ar.calm k13) HO.out rv.out (by simp; omega) (fun x hx h0 => by rcases List.mem_append.1 hx with hx | hx; exact HIN.out x hx h0; exact HIN2.out x hx h0)).mono ?_
  rintro e w14 ⟨vR3, R3, rfl, rR3, hb3, c14⟩
  have k14 := k13.trans c14
  replace rR := rR.calm k14
  replace rR2 := rR2.calm k14
  replace c1 := c1.trans k14
  have hsub := bfs_mono hb.out hb3
  have hRn : R.Nodup := hb.out.nodup (addAll_nodup _ List.nodup_nil)
  have hR3n : R3.Nodup := hb3.nodup (addAll_nodup _ List.nodup_nil)
  have hR3ps : ∀ x ∈ R3, x ∈ ps := hb3.within (U := fun x => x ∈ ps) HO.out.str (fun x hx => by
    rcases mem_addAll.1 hx with h | ⟨h1, h2⟩
    · cases h
    · rcases List.mem_append.1 h1 with hx | hx
      · exact HIN.out x hx h2
      · exact HIN2.out x hx h2)
  have hR3l : R3.length ≤ 8 := Nat.le_trans (nodup_length hR3n hR3ps) hp8
  have hRl : R.length ≤ R3.length := nodup_length hRn hsub
  obtain ⟨ya, yc, rfl⟩ := rR3.sliceN (n := R3.length) (by simp)
  obtain ⟨n3, hn3⟩ : ∃ n3, R3.length = n3 := ⟨_, rfl⟩
  obtain rfl : rn = R.length := by have := rR.slice; obtain ⟨_, _, e⟩ := this; injection e with e1 e2 e3; simpa using e2
  obtain ⟨n, hn⟩ : ∃ n, R.length = n := ⟨_, rfl⟩
  rw [hn3] at hR3l hRl ⊢
  rw [hn] at hRl rR ⊢
  replace rR3 := hid rR3
  replace hsub := hid hsub
  replace hR3ps := hid hR3ps
  replace hn3 := hid hn3
  replace hn := hid hn
  clear k12 k13 k14 c14 hb hb3 e13 rv rv13 rv12 rs12 b12 s12 hl4 hRn hR3n ar rq rs rlb _t hqb hsb
  have g1 : decide (n3 < n) = false := by simp; omega
  have g2 : ¬ n3 < n := by omega
  have hrow := rR.row
  go_wp2_with fail
  refine (ints08 _ _ (nI R) (nI R) _ rR.row rR2.row (by simp; have := hn.out; omega) (by simp; have := hn.out; omega)).mono ?_
  rintro e w15 ⟨rfl, c15⟩
  rw [show decide (nI R = nI R) = true from by simp]
  replace rR := rR.calm c15
  have rR3' := rR3.out.calm c15
  rw [hn3.out] at rR3'
  replace c1 := c1.trans c15
  clear c15 rR3 rR2 hrow
  go_wp2_with fail
  obtain ⟨M, hM⟩ : ∃ M, w15.heap.size = M := ⟨_, rfl⟩
  obtain ⟨W, hW⟩ : ∃ W, w15.alloc (Obj.map #[] 0) = W := ⟨_, rfl⟩
  have cW : Calm w15 W := by rw [← hW]; exact (Fr.refl _ _).alloc _
  have hB0 : SetI W M [] W := ⟨by rw [← hW, ← hM]; exact BMap.made w15, Fr.refl _ _⟩
  rw [hW, hM]
  have aR : ∀ j, InB (.slice ra n rc) j → j < M := fun j hj => by have := (rR.lt hj).2; omega
  have aR3 : ∀ j, InB (.slice ya n3 yc) j → j < M := fun j hj => by have := (rR3'.lt hj).2; omega
  have aw : w.heap.size ≤ M := by have := c1.size; omega
  replace rR := hid (rR.calm cW)
  replace rR3' := hid (rR3'.calm cW)
  replace c1 := c1.trans cW
  have HQ : Hid (∀ x ∈ ps, x ≤ 1000000) := fun x hx => by have := hpb.out x hx; omega
  replace aR := hid aR
  replace aR3 := hid aR3
  clear hW cW hM
  go_loopw [20] (fun i wr => ∃ k : Nat, k ≤ n3 ∧ i = .int .i64 k ∧ SetI W M (R3.take k) wr) (fun i _ => n3 - (intOf i).toNat)
  case atStart => exact ⟨0, Nat.zero_le _, rfl, hB0⟩
  case round =>
    clear hB0
    obtain ⟨k, hk, rfl, hB, hF⟩ := hrel
    rcases Nat.lt_or_ge k n3 with hlt | hge
    · have hkR : k < R3.length := by rw [hn3.out]; exact hlt
      obtain ⟨g, gc, hv, _, hg0, _⟩ := (rR3'.out.frB hF (fun j hj (e : j = M) => by have := aR3.out j hj; omega)).get (k := k) (by simpa using hkR)
      injection hv with hv1 hv2 hv3
      subst hv1
      rw [show (nI R3).getD k 0 = ((R3.getD k 0 : Nat) : Int) by simp [List.getD, hkR]] at hg0
      have hq := HQ.out _ (hR3ps.out (R3.getD k 0) (by simp [List.getD, hkR]))
      have hstep : Hid (R3.take (k + 1) = R3.take k ++ [R3.getD k 0]) := take_succ_getD R3 hkR
      have hll : Hid ((R3.take k).length ≤ 1000000) := by show _ ≤ _; simp; omega
      replace hB := hid hB
      clear hv2 hv3 hkR
      generalize R3.take k = L at *
      generalize R3.getD k 0 = q at *
      go_wp2_with (at_mapUpdate; go_must (refine wpList_bput rfl _ _ _ rfl M L rfl hB.out hll.out q hq rfl rfl ?_); intro w7 hB7 hF7; replace hB7 := hid hB7; replace hF7 := hid hF7)
      go_roundw
      case rel => exact ⟨k + 1, by omega, by go_num, by rw [hstep.out]; exact hB7.out, hF.trans hF7.out⟩
      case measure => simp [intOf]; omega
    · obtain rfl : n3 = k := by omega
      have hT : R3.take n3 = R3 := List.take_of_length_le (by rw [hn3.out]; omega)
      rw [hT] at hB
      have rR4 := hid (rR.out.frB hF (fun j hj (e : j = M) => by have := aR.out j hj; omega))
      have c4 := hid (c1.join hF (fun j hj (e : j = M) => by omega))
      have hk0 : Calm wr wr := Fr.refl _ _
      replace hB := hid hB
      clear hT hge hk hF rR rR3' c1
      go_wp2_with fail
      go_loopw [21] (fun i wx => ∃ k : Nat, k ≤ n ∧ i = .int .i64 k ∧ Calm wr wx) (fun i _ => n - (intOf i).toNat)
      case atStart => exact ⟨0, Nat.zero_le _, rfl, hk0⟩
      case round =>
        clear hk0
        obtain ⟨k, hk, rfl, hcx⟩ := hrel
        rcases Nat.lt_or_ge k n with hlt | hge
        · have hkR : k < R.length := by rw [hn.out]; exact hlt
          obtain ⟨g, gc, hv, _, hg0, _⟩ := (rR4.out.calm hcx).get (k := k) (by simpa using hkR)
          injection hv with hv1 hv2 hv3
          subst hv1
          rw [show (nI R).getD k 0 = ((R.getD k 0 : Nat) : Int) by simp [List.getD, hkR]] at hg0
          have hmem : R.getD k 0 ∈ R3 := hsub.out _ (by simp [List.getD, hkR])
          have hq := HQ.out _ (hR3ps.out _ hmem)
          have hin : Hid (decide (R.getD k 0 ∈ R3) = true) := by show _ = true; simpa using hmem
          have hB5 := hid (hB.out.calm hcx)
          clear hv2 hv3 hkR hmem
          generalize R.getD k 0 = q at *
          go_wp2_with (at_lookup; go_must (refine wpList_blook rfl _ _ rfl M R3 rfl hB5.out q hq rfl true hin.out ?_))
          go_roundw
          case rel => exact ⟨k + 1, by omega, by go_num, hcx⟩
          case measure => simp [intOf]; omega
        · obtain rfl : n = k := by omega
          have c6 := c4.out.trans hcx
          clear hge hk
          go_wp2
          go_ret
          exact ⟨rfl, Calm.below c6⟩

end Go.Proofs.Ytcacbbfeenebbaa
