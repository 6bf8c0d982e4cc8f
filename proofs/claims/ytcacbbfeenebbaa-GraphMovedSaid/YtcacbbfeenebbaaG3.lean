/- GraphMoved returns true, whatever the input. -/
import Derived.Test.YtcacbbfeenebbaaMv
set_option linter.unusedSimpArgs false
set_option linter.unusedVariables false
namespace Go.Proofs.Ytcacbbfeenebbaa
open Go.RowKit Go.Shelf Go.Maps

set_option maxRecDepth 100000 in
set_option maxHeartbeats 16000000 in
theorem graphMoved_walk (v : Value) (l : List Raw8) (hm : l.length ≤ maxLen) (u : Value) (ro : List Int) (hro : ∀ x ∈ ro, I64 x) (hrm : ro.length ≤ maxLen) (u2 : Value) (od : List Int) (hod : ∀ x ∈ od, I64 x) (hom : od.length ≤ 1000000000000000) (w : World) (hr : RowK w v 5 (l.map Raw8.cells)) (hl : ∀ o ∈ l, o.Ok w) (hu : Row w u (ro.map (Value.int .i64))) (hu2 : Row w u2 (od.map (Value.int .i64))) :
    Calls Try.prog 11 #[v, u, u2] w fun e w' => e = .returned (.bool true) ∧ Below w.heap.size w w' := by
  replace hr := hid hr
  replace hl := hid hl
  replace hm := hid hm
  replace hro := hid hro
  replace hrm := hid hrm
  replace hu := hid hu
  replace hod := hid hod
  replace hu2 := hid hu2
  go_enter Try.func11, Try.ntmps11
  go_wp2_with fail
  refine (awake09 _).mono ?_
  rintro e w1 ⟨rfl, c1⟩
  go_wp2_with fail
  refine (new_yes _ 400 (by decide) (by decide)).mono ?_
  rintro e w2 ⟨b, c, rfl, ar, c2, lb, lc⟩
  have hwc : w.heap.size ≤ c := by have := c1.size; omega
  have hcl : c < w2.heap.size := by obtain ⟨_, ⟨t, ht⟩, _⟩ := ar; exact (Array.getElem?_eq_some_iff.1 ht).1
  have hbl : b < w2.heap.size := ar.lt
  replace c1 := c1.trans c2
  clear c2
  have o8 : Own (w2.alloc (.cells #[arV b] 24)) w2.heap.size 0 (arV b) := Own.new w2 _ _ 0 rfl
  have c2 : Calm w2 (w2.alloc (.cells #[arV b] 24)) := (Fr.refl _ _).alloc _
  replace ar := ar.calm c2
  replace c1 := c1.trans c2
  obtain ⟨A, hA⟩ : ∃ A, w2.heap.size = A := ⟨_, rfl⟩
  rw [hA] at o8 hcl hbl
  have a8 := o8.1
  go_wp2_with fail
  obtain ⟨w3, hw3⟩ : ∃ w3, w2.alloc (.cells #[arV b] 24) = w3 := ⟨_, rfl⟩
  have hA3 : w3.heap.size = A + 1 := by rw [← hw3, ← hA]; simp
  rw [hw3] at ar c1 o8 ⊢
  clear hw3 c2 a8 hA
  refine (lay_yes (w0 := w) ar (by simp) c1 hwc v l hm.out hr.out hl.out).mono ?_
  rintro e w4 ⟨vr, ls0, X0, en, rfl, ar, lo, h1, h2, rp, f3⟩
  replace c1 := c1.join f3 (fun j hj (e : j = c) => absurd hj (by omega))
  replace o8 := o8.fr f3 (by omega)
  have hsz4 := f3.size
  clear f3
  obtain ⟨ps, hps⟩ : ∃ ps, plc ls0 = ps := ⟨_, rfl⟩
  rw [hps] at rp
  have hlen : ps.length = ls0.length := by rw [← hps]; simp
  have hp8 : ps.length ≤ 8 := by omega
  have hen := lo.le
  have hpb : ∀ x ∈ ps, x ≤ 131072 := fun x hx => by
    rw [← hps] at hx
    have := (objOf_at lo.laid hx).2.2
    omega
  have hX0 : X0.getD 0 0 = 0 := by rw [lo.out 0 (.inl (by omega))]; simp
  have hX4 : X0.length = 400 := by rw [lo.len]; simp
  obtain ⟨pa, pc, rfl⟩ := rp.sliceN (n := ps.length) (by simp)
  obtain ⟨n, hn⟩ : ∃ n, ps.length = n := ⟨_, rfl⟩
  rw [hn] at rp hlen hp8 ⊢
  replace hn := hid hn
  have a8 := o8.1
  replace hps := hid hps
  replace hlen := hid hlen
  replace hpb := hid hpb
  go_wp2_with fail
  refine (link_yes (w0 := w) ar c1 hwc v l hr.out hl.out rp (by omega) lo.laid hps.out h1 h2 hpb.out).mono ?_
  rintro e w5 ⟨rfl, X, ls, ar, lk, f4⟩
  replace rp := rp.frB f4 (fun b hb (e : b = c) => by have := (rp.lt hb).1; omega)
  replace c1 := c1.join f4 (fun j hj (e : j = c) => absurd hj (by omega))
  replace o8 := o8.fr f4 (by omega)
  replace hX0 : X.getD 0 0 = 0 := by rw [lk.out 0 (.inl (by omega))]; exact hX0
  replace hX4 : X.length = 400 := by rw [lk.len]; exact hX4
  have hsz5 := f4.size
  have HO := hid (link_objs lk hen (by rw [hn.out]; exact hp8))
  clear f4 lo h1 h2 hm hr hl a8
  go_wp2_with fail
  refine (roots_yes (hu.out.calm c1) hro.out hrm.out rp.row (by rw [hn.out]; omega)).mono ?_
  rintro e w6 ⟨vq, r, rfl, rq, hin, hr5, c6⟩
  replace ar := ar.calm c6
  replace rp := rp.calm c6
  replace c1 := c1.trans c6
  replace o8 := o8.calm c6
  have hsz6 := c6.size
  obtain ⟨qa, qc, rfl⟩ := rq.sliceN (n := r.length) (by simp)
  have HIN : Hid (∀ x ∈ r, x ≠ 0 → x ∈ ps) := fun x hx h => (hin x hx).resolve_left h
  have a8 := o8.1
  clear hin c6 hu hro hrm
  go_wp2_with fail
  refine (canon_yes ar HO.out rq.row (by omega) HIN.out).mono ?_
  rintro e w7 ⟨vn, vs, R, lsn, B2, rfl, hb, hnr, hnd, hB2, hst, hB3, c7⟩
  replace ar := ar.calm c7
  replace rp := rp.calm c7
  replace rq := rq.calm c7
  replace c1 := c1.trans c7
  replace o8 := o8.calm c7
  have hsz7 := c7.size
  have hnlt := hid hnr.lt
  have hstlt := hid (fun j (hj : InB vs j) => hst.lt hj)
  obtain ⟨na, nn, nc, rfl⟩ := hnr.letters
  obtain ⟨ta, tn, tc, rfl⟩ := hst.letters
  have hplt := hid (fun j (hj : InB (.slice pa n pc) j) => (rp.lt hj).2)
  have hqlt := hid (fun j (hj : InB (.slice qa r.length qc) j) => (rq.lt hj).2)
  replace hnr := hid hnr
  replace hnd := hid hnd
  replace hB2 := hid hB2
  replace hst := hid hst
  replace hb := hid hb
  clear c7 a8
  go_wp2_with fail
  refine (make_yes 200 200 _ (by decide) (by decide) (by decide) (by decide)).mono ?_
  rintro e w8 ⟨rfl, c8⟩
  have hsz8 := c8.size
  have o15 := OwnL.new w8 [.int .i64 200, .int .i64 200, .int .i64 200] 61
  replace c8 := c8.alloc (.cells #[.int .i64 200, .int .i64 200, .int .i64 200] 61)
  replace ar := ar.calm c8
  replace rp := rp.calm c8
  replace rq := rq.calm c8
  replace c1 := c1.trans c8
  replace o8 := o8.calm c8
  replace hnr := hid (hnr.out.calm c8)
  replace hst := hid (hst.out.calm c8)
  go_wp2_with fail
  obtain ⟨SP, hSP⟩ : ∃ SP, w8.heap.size = SP := ⟨_, rfl⟩
  obtain ⟨W0, hW0⟩ : ∃ W0, w8.alloc (.cells #[.int .i64 200, .int .i64 200, .int .i64 200] 61) = W0 := ⟨_, rfl⟩
  rw [hSP, hW0]
  rw [hW0] at ar rp rq c1 o8 hnr hst o15
  rw [hSP] at o15
  have lsl : ls.length = n := by rw [← hn.out, ← lk.plc]; simp
  have hI0 : MvI W0 b c SP ls en od.length 0 W0 := by
    refine ⟨X, ls.map (fun x => (x.1, x.2, none)), 200, [], ar, ⟨Half.start lk.laid, hX4, hX0, ?_, ?_, fun j hj => by omega⟩, o15, Fr.refl _ _⟩
    · rw [List.map_map]; exact List.map_id _
    · have := owed_laid lk.laid; omega
  have hbc : b < A ∧ c < A ∧ A < SP := ⟨hbl, hcl, by omega⟩
  have hpl : ∀ j, InB (.slice pa n pc) j → A < j ∧ j < SP := fun j hj => ⟨by have := (rp.lt hj).1; omega, by have := hplt.out j hj; omega⟩
  have hql : ∀ j, InB (.slice qa r.length qc) j → A < j ∧ j < SP := fun j hj => ⟨by have := (rq.lt hj).1; omega, by have := hqlt.out j hj; omega⟩
  obtain ⟨ua, uc, rfl, hul⟩ := hu2.out.loop
  replace hpl := hid hpl
  replace hql := hid hql
  replace hul := hid hul
  have hSPe : w8.heap.size ≤ SP := by omega
  clear hW0 hSP o15 c8 hu2
  go_loopw [17] (fun i wr => ∃ k : Nat, k ≤ od.length + n ∧ i = .int .i64 k ∧ MvI W0 b c SP ls en od.length k wr) (fun i _ => od.length + n - (intOf i).toNat)
  case atStart => exact ⟨0, Nat.zero_le _, rfl, hI0⟩
  case round =>
    clear hI0
    obtain ⟨i, hi, rfl, X, old, T, cur, ar, mv, osp, kf⟩ := hrel
    rcases (by omega : (i < od.length ∧ n = 0) ∨ (i < od.length ∧ 0 < n) ∨ (od.length ≤ i ∧ i < od.length + n) ∨ i = od.length + n) with ⟨h1, h2⟩ | ⟨h1, h2⟩ | ⟨h1, h2⟩ | h1
    · subst h2
      have hI : MvI W0 b c SP ls en od.length (i + 1) wr := ⟨X, old, T, cur, ar, ⟨mv.half, mv.len, mv.zero, mv.same, mv.room, fun j hj => by omega⟩, osp, kf⟩
      have g1 : ((i : Int) - od.length) < 0 := by omega
      clear ar mv osp kf
      go_wp2
      go_roundw
      case rel => exact ⟨i + 1, by omega, by go_num, hI⟩
      case measure => simp [intOf]; omega
    · have hx : I64 (od.getD i 0) := hod.out _ (by simp [List.getD, h1])
      obtain ⟨ub, uoff, rfl, hub, hcu⟩ := hul.out i h1
      replace hcu := kf.cellAt (p := ⟨ub, uoff + i, none⟩) (c1.cellAt hcu id) (by simp only; omega)
      generalize od.getD i 0 = x at *
      have rp' := pk_range x (n := (n : Int)) (by omega)
      obtain ⟨k, hk⟩ : ∃ k, pk x n = k := ⟨_, rfl⟩
      rw [hk] at rp'
      obtain ⟨r1, r2⟩ := rp'
      obtain ⟨k, rfl⟩ := Int.eq_ofNat_of_zero_le r1
      have g1 : (0 : Int) < n := by omega
      replace hk := hid hk
      replace hx := hid hx
      go_wp2_with fail
      refine (pick09 x n _ hx.out (by omega)).mono ?_
      rintro e w' ⟨rfl, rfl⟩
      rw [hk.out]
      go_wp2_with fail
      have hkn : k < n := by omega
      have hik : i < od.length ∨ i = od.length + k := .inl h1
      have hol : old.length = n := by have := congrArg List.length mv.same; rw [List.length_map, lsl] at this; exact this
      have hkl : k < ps.length := by rw [hn.out]; exact hkn
      have hko : k < old.length := by rw [hol]; exact hkn
      have hkp : (old.getD k oo).1 = ps.getD k 0 := by
        have e1 : ((old.map fun x => (x.1, x.2.1)).getD k o0).1 = (old.getD k oo).1 := by simp [List.getD, hko]
        rw [← e1, mv.same, ← lk.plc]
        have : k < ls.length := by rw [lsl]; exact hkn
        simp [plc, List.getD, this]
      obtain ⟨g, gc, hv, _, hg0, _⟩ := (rp.frB kf (fun j hj e => by have := hpl.out j hj; omega)).get (k := k) (by simpa using hkl)
      injection hv with hv1 hv2 hv3
      subst hv1
      rw [show (nI ps).getD k 0 = (((old.getD k oo).1 : Nat) : Int) by rw [hkp]; simp [List.getD, hkl]] at hg0
      have hT1 : 200 ≤ T := by have := Lie.end mv.half.cl.lie; rw [← this]; exact begs_ge _ _ _
      obtain ⟨T', t', X', old', cur', hcp, mv'⟩ := mv.copy hko hik hen hT1 ar
      have a8 := (o8.fr kf (by omega)).1
      have s0 := (osp 0 _ rfl).1
      have s1 := (osp 1 _ rfl).1
      have s2 := (osp 2 _ rfl).1
      have hgl : g < wr.heap.size := World.block_lt_of_cell? wr _ hg0
      have hgc : g ≠ c := by rintro rfl; have := (hpl.out g (InB.mk.2 rfl)); omega
      have hspl := osp.lt (by simp)
      have hAl : A < wr.heap.size := by have := kf.size; have := o8.lt; omega
      have ne1 : A ≠ wr.heap.size := by omega
      have ne2 : wr.heap.size ≠ A := by omega
      have ne3 : g ≠ wr.heap.size := by omega
      have ne4 : wr.heap.size ≠ g := by omega
      have ne5 : SP ≠ wr.heap.size := by omega
      have ne6 : wr.heap.size ≠ SP := by omega
      generalize (old.getD k oo).1 = a at *
      replace mv' := hid mv'
      replace hcp := hid hcp
      replace hkp := hid hkp
      clear hv2 hv3 mv
      go_cut [19, 20, 21] (fun s19 s20 s21 wx => ∃ y, s19 = .pointer (some ⟨y, 0, none⟩) ∧ s20 = .int .i64 t' ∧ s21 = .int .i64 0 ∧ Ar wx b c X' ∧ OwnL wx y [.int .i64 200, .int .i64 200, .int .i64 T'] ∧ Fr (fun j => j = c) wr wx ∧ wr.heap.size ≤ y)
      case first =>
        go_region_held3 (fun w' => w'.cell? ⟨A, 0, none⟩ = some (arV b) ∧ w'.cell? ⟨g, k, none⟩ = some (.int .i64 a) ∧ w'.cell? ⟨SP, 0, none⟩ = some (.int .i64 200) ∧ w'.cell? ⟨SP, 1, none⟩ = some (.int .i64 200) ∧ w'.cell? ⟨SP, 2, none⟩ = some (.int .i64 T)) (go_keep)
          (first | (go_at_call 33; refine (hcp.out _ (by first | exact Fr.refl _ _ | exact (Fr.refl _ _).drew | exact ((Fr.refl _ _).drew).alloc _ | exact ((Fr.refl _ _).alloc _).drew)).mono ?_; rintro e w2 ⟨rfl, ar2, f2⟩; have ka : Fr (fun j => j = c) wr w2 := Fr.trans (by first | exact Fr.refl _ _ | exact (Fr.refl _ _).drew | exact ((Fr.refl _ _).drew).alloc _ | exact ((Fr.refl _ _).alloc _).drew) f2; have q0 := ka.cellAt a8 (by simp only; omega); have q1 := ka.cellAt hg0 hgc; have q2 := ka.cellAt s0 (by simp only; omega); have q3 := ka.cellAt s1 (by simp only; omega); have q4 := ka.cellAt s2 (by simp only; omega); try (have ow : OwnL w2 wr.heap.size [.int .i64 0, .int .i64 0, .int .i64 0] := (by first | exact (OwnL.at _ [.int .i64 0, .int .i64 0, .int .i64 0] 61 wr.heap.size rfl).fr f2 (by omega) | exact ((OwnL.at _ [.int .i64 0, .int .i64 0, .int .i64 0] 61 wr.heap.size rfl).calm ((Fr.refl _ _).drew)).fr f2 (by omega)); have m0 := (ow 0 _ rfl).1; have m1 := (ow 1 _ rfl).1; have m2 := (ow 2 _ rfl).1; have n0 := (ow 0 _ rfl).2; have n1 := (ow 1 _ rfl).2; have n2 := (ow 2 _ rfl).2)))
        · go_wp2_with fail
          go_meet
          exact ⟨w2.heap.size, rfl, rfl, rfl, ar2.calm ((Fr.refl _ _).alloc _), OwnL.new w2 [.int .i64 200, .int .i64 200, .int .i64 T'] _, ka.alloc _, ka.size⟩
        · go_wp2_with fail
          go_meet
          have o4 := ow.set3 (.int .i64 200) (.int .i64 200) (.int .i64 T')
          exact ⟨wr.heap.size, rfl, rfl, rfl, ar2.fr o4.2 (by omega) (by omega), o4.1, ka.join o4.2 (fun j hj (e : j = wr.heap.size) => absurd hj (by omega)), Nat.le_refl _⟩
      case rest =>
        obtain ⟨y, rfl, rfl, rfl, ar2, oy, fy, hy⟩ := hcut
        have osq := osp.fr fy (by omega)
        have k2 := kf.trans (fy.mono (fun j _ h => .inl h) : Fr (fun k => k = c ∨ k = SP) wr _)
        clear a8 s0 s1 s2 hg0 osp fy kf ar o8 ne1 ne2 ne3 ne4 ne5 ne6
        have x0 := (oy 0 _ rfl).1
        have x1 := (oy 1 _ rfl).1
        have x2 := (oy 2 _ rfl).1
        have p0 := (osq 0 _ rfl).1
        have q0 := (osq 0 _ rfl).2
        have p1 := (osq 1 _ rfl).1
        have q1 := (osq 1 _ rfl).2
        have p2 := (osq 2 _ rfl).1
        have q2 := (osq 2 _ rfl).2
        have ly := oy.lt (by simp)
        have lsp := osq.lt (by simp)
        go_wp2
        have o5 := osq.set3 (.int .i64 200) (.int .i64 200) (.int .i64 T')
        have ar3 := hid (ar2.fr o5.2 (by omega) (by omega))
        have k3 := k2.trans (o5.2.mono (fun j _ h => .inr h) : Fr (fun k => k = c ∨ k = SP) _ _)
        clear x0 x1 x2 p0 p1 p2 q0 q1 q2
        go_roundw
        case rel => exact ⟨i + 1, by omega, by go_num, _, _, _, _, ar3.out, mv'.out, o5.1, k3⟩
        case measure => simp [intOf]; omega
    · obtain ⟨k, rfl⟩ : ∃ k, i = od.length + k := ⟨i - od.length, by omega⟩
      have hkn : k < n := by omega
      have g1 : ¬ (od.length + k < od.length) := by omega
      have g2 : decide (od.length + k < od.length) = false := by simp
      obtain ⟨i, hik0⟩ : ∃ i, od.length + k = i := ⟨_, rfl⟩
      have e1 : (i : Int) - od.length = k := by omega
      rw [hik0] at mv g1 g2 h1 h2 ⊢
      replace hik0 := hid hik0
      go_wp2_with fail
      have hik : i < od.length ∨ i = od.length + k := .inr hik0.out.symm
      have hi0 := hik0.out
      clear e1 g1 g2
      have hol : old.length = n := by have := congrArg List.length mv.same; rw [List.length_map, lsl] at this; exact this
      have hkl : k < ps.length := by rw [hn.out]; exact hkn
      have hko : k < old.length := by rw [hol]; exact hkn
      have hkp : (old.getD k oo).1 = ps.getD k 0 := by
        have e1 : ((old.map fun x => (x.1, x.2.1)).getD k o0).1 = (old.getD k oo).1 := by simp [List.getD, hko]
        rw [← e1, mv.same, ← lk.plc]
        have : k < ls.length := by rw [lsl]; exact hkn
        simp [plc, List.getD, this]
      obtain ⟨g, gc, hv, _, hg0, _⟩ := (rp.frB kf (fun j hj e => by have := hpl.out j hj; omega)).get (k := k) (by simpa using hkl)
      injection hv with hv1 hv2 hv3
      subst hv1
      rw [show (nI ps).getD k 0 = (((old.getD k oo).1 : Nat) : Int) by rw [hkp]; simp [List.getD, hkl]] at hg0
      have hT1 : 200 ≤ T := by have := Lie.end mv.half.cl.lie; rw [← this]; exact begs_ge _ _ _
      obtain ⟨T', t', X', old', cur', hcp, mv'⟩ := mv.copy hko hik hen hT1 ar
      have a8 := (o8.fr kf (by omega)).1
      have s0 := (osp 0 _ rfl).1
      have s1 := (osp 1 _ rfl).1
      have s2 := (osp 2 _ rfl).1
      have hgl : g < wr.heap.size := World.block_lt_of_cell? wr _ hg0
      have hgc : g ≠ c := by rintro rfl; have := (hpl.out g (InB.mk.2 rfl)); omega
      have hspl := osp.lt (by simp)
      have hAl : A < wr.heap.size := by have := kf.size; have := o8.lt; omega
      have ne1 : A ≠ wr.heap.size := by omega
      have ne2 : wr.heap.size ≠ A := by omega
      have ne3 : g ≠ wr.heap.size := by omega
      have ne4 : wr.heap.size ≠ g := by omega
      have ne5 : SP ≠ wr.heap.size := by omega
      have ne6 : wr.heap.size ≠ SP := by omega
      generalize (old.getD k oo).1 = a at *
      replace mv' := hid mv'
      replace hcp := hid hcp
      replace hkp := hid hkp
      clear hv2 hv3 mv
      go_cut [19, 20, 21] (fun s19 s20 s21 wx => ∃ y, s19 = .pointer (some ⟨y, 0, none⟩) ∧ s20 = .int .i64 t' ∧ s21 = .int .i64 0 ∧ Ar wx b c X' ∧ OwnL wx y [.int .i64 200, .int .i64 200, .int .i64 T'] ∧ Fr (fun j => j = c) wr wx ∧ wr.heap.size ≤ y)
      case first =>
        go_region_held3 (fun w' => w'.cell? ⟨A, 0, none⟩ = some (arV b) ∧ w'.cell? ⟨g, k, none⟩ = some (.int .i64 a) ∧ w'.cell? ⟨SP, 0, none⟩ = some (.int .i64 200) ∧ w'.cell? ⟨SP, 1, none⟩ = some (.int .i64 200) ∧ w'.cell? ⟨SP, 2, none⟩ = some (.int .i64 T)) (go_keep)
          (first | (go_at_call 33; refine (hcp.out _ (by first | exact Fr.refl _ _ | exact (Fr.refl _ _).drew | exact ((Fr.refl _ _).drew).alloc _ | exact ((Fr.refl _ _).alloc _).drew)).mono ?_; rintro e w2 ⟨rfl, ar2, f2⟩; have ka : Fr (fun j => j = c) wr w2 := Fr.trans (by first | exact Fr.refl _ _ | exact (Fr.refl _ _).drew | exact ((Fr.refl _ _).drew).alloc _ | exact ((Fr.refl _ _).alloc _).drew) f2; have q0 := ka.cellAt a8 (by simp only; omega); have q1 := ka.cellAt hg0 hgc; have q2 := ka.cellAt s0 (by simp only; omega); have q3 := ka.cellAt s1 (by simp only; omega); have q4 := ka.cellAt s2 (by simp only; omega); try (have ow : OwnL w2 wr.heap.size [.int .i64 0, .int .i64 0, .int .i64 0] := (by first | exact (OwnL.at _ [.int .i64 0, .int .i64 0, .int .i64 0] 61 wr.heap.size rfl).fr f2 (by omega) | exact ((OwnL.at _ [.int .i64 0, .int .i64 0, .int .i64 0] 61 wr.heap.size rfl).calm ((Fr.refl _ _).drew)).fr f2 (by omega)); have m0 := (ow 0 _ rfl).1; have m1 := (ow 1 _ rfl).1; have m2 := (ow 2 _ rfl).1; have n0 := (ow 0 _ rfl).2; have n1 := (ow 1 _ rfl).2; have n2 := (ow 2 _ rfl).2)))
        · go_wp2_with fail
          go_meet
          exact ⟨w2.heap.size, rfl, rfl, rfl, ar2.calm ((Fr.refl _ _).alloc _), OwnL.new w2 [.int .i64 200, .int .i64 200, .int .i64 T'] _, ka.alloc _, ka.size⟩
        · go_wp2_with fail
          go_meet
          have o4 := ow.set3 (.int .i64 200) (.int .i64 200) (.int .i64 T')
          exact ⟨wr.heap.size, rfl, rfl, rfl, ar2.fr o4.2 (by omega) (by omega), o4.1, ka.join o4.2 (fun j hj (e : j = wr.heap.size) => absurd hj (by omega)), Nat.le_refl _⟩
      case rest =>
        obtain ⟨y, rfl, rfl, rfl, ar2, oy, fy, hy⟩ := hcut
        have osq := osp.fr fy (by omega)
        have k2 := kf.trans (fy.mono (fun j _ h => .inl h) : Fr (fun k => k = c ∨ k = SP) wr _)
        clear a8 s0 s1 s2 hg0 osp fy kf ar o8 ne1 ne2 ne3 ne4 ne5 ne6
        have x0 := (oy 0 _ rfl).1
        have x1 := (oy 1 _ rfl).1
        have x2 := (oy 2 _ rfl).1
        have p0 := (osq 0 _ rfl).1
        have q0 := (osq 0 _ rfl).2
        have p1 := (osq 1 _ rfl).1
        have q1 := (osq 1 _ rfl).2
        have p2 := (osq 2 _ rfl).1
        have q2 := (osq 2 _ rfl).2
        have ly := oy.lt (by simp)
        have lsp := osq.lt (by simp)
        go_wp2
        have o5 := osq.set3 (.int .i64 200) (.int .i64 200) (.int .i64 T')
        have ar3 := hid (ar2.fr o5.2 (by omega) (by omega))
        have k3 := k2.trans (o5.2.mono (fun j _ h => .inr h) : Fr (fun k => k = c ∨ k = SP) _ _)
        clear x0 x1 x2 p0 p1 p2 q0 q1 q2
        go_roundw
        case rel => exact ⟨i + 1, by omega, by go_num, _, _, _, _, ar3.out, mv'.out, o5.1, k3⟩
        case measure => simp [intOf]; omega
    · subst h1
      obtain ⟨ts, htl, htr⟩ := mv.turn (by rw [lsl]; omega) hen
      rw [lk.plc] at htr
      have h00 : 0 ∉ ps := fun hx => by
        rw [← lk.plc] at hx
        have := (objOf_at lk.laid hx).2.1
        omega
      have hfin := hid (fun (X' : List Nat) (h : TurnR ps ts (ls.map (·.2)) (nowF ps ts) ps.length 0 X') => h.fin htl lk h00 (by rw [hn.out]; exact hp8))
      have hlk := hid (fun x hx => (linked lk (x := x) hx))
      have hobs : Hid (∀ j, j < n → (ls.map (·.2)).getD j (Ob.new 0 0 false false 0) = objOf ls (ps.getD j 0)) := fun j hj => by
        have hj2 : j < ps.length := by rw [hn.out]; exact hj
        have hnd : ∀ j k, j < ps.length → k < ps.length → j ≠ k → ps.getD j 0 ≠ ps.getD k 0 := fun j k hj hk hjk e => by
          have hjl : j < ls.length := by rw [lsl, ← hn.out]; exact hj
          have hkl : k < ls.length := by rw [lsl, ← hn.out]; exact hk
          have b1 : begs 1 ls j = ps.getD j 0 := by have := (Lie.at lk.laid.lie j hjl).1; rw [← lk.plc, ← this]; simp [plc, List.getD, hjl]
          have b2 : begs 1 ls k = ps.getD k 0 := by have := (Lie.at lk.laid.lie k hkl).1; rw [← lk.plc, ← this]; simp [plc, List.getD, hkl]
          have sz : ∀ a, a < ls.length → begs 1 ls a < begs 1 ls (a + 1) := fun a ha => by
            obtain ⟨_, k8, _, _⟩ := Lie.at lk.laid.lie a ha
            obtain ⟨_, _, k10, _⟩ := Ob.took_eq k8
            show _ < begs 1 ls a + (ls.getD a (0, Ob.new 0 0 false false 0)).2.took
            omega
          rcases Nat.lt_or_gt_of_ne hjk with hl | hl
          · have := sz j hjl; have := begs_mono 1 ls (show j + 1 ≤ k from hl); omega
          · have := sz k hkl; have := begs_mono 1 ls (show k + 1 ≤ j from hl); omega
        have e1 : ps.idxOf (ps.getD j 0) = j := idx_nodup hnd hj2
        have hjl : j < ls.length := by rw [lsl]; exact hj
        unfold objOf
        rw [lk.plc, e1]
        simp [List.getD, hjl]
      have o9 := o8.fr kf (by omega)
      have rp9 := rp.frB kf (fun j hj e => by have := hpl.out j hj; omega)
      have hkW := kf.size
      clear hul mv osp
      obtain ⟨F, hF⟩ : ∃ F, nowF ps ts = F := ⟨_, rfl⟩
      rw [hF] at htr
      have hF2 := hid hF
      clear hF
      have g1 : decide (od.length + n < od.length + n) = false := by simp
      have a9 := o9.1
      go_wp2_with fail
      have hnow0 := hid (fun (W : World) (X' : List Nat) (ar' : Ar W b c X') (o' : Own W A 0 (arV b)) (h : TurnR ps ts (ls.map (·.2)) F 0 0 X') => True.intro)
      clear hnow0 a9 g1
      obtain ⟨W1, hW1⟩ : ∃ W1, wr = W1 := ⟨_, rfl⟩
      rw [hW1] at ar kf o9 rp9 hkW ⊢
      clear hW1
      have hI1 : ∃ X, Ar W1 b c X ∧ TurnR ps ts (ls.map (·.2)) F 0 0 X ∧ Fr (fun k => k = c) W1 W1 := ⟨X, ar, htr, Fr.refl _ _⟩
      clear ar htr
      go_loopw [23] (fun i wr => ∃ k : Nat, k ≤ n ∧ i = .int .i64 k ∧ Hid (∃ X, Ar wr b c X ∧ TurnR ps ts (ls.map (·.2)) F k 0 X ∧ Fr (fun k => k = c) W1 wr)) (fun i _ => n - (intOf i).toNat)
      case atStart => exact ⟨0, Nat.zero_le _, rfl, hid hI1⟩
      case round =>
        clear hI1
        obtain ⟨j, hj, rfl, hI⟩ := hrel
        rcases Nat.lt_or_ge j n with hlt | hge
        · obtain ⟨X, ar, tr, kr⟩ := hI.out
          have hjl : j < ps.length := by rw [hn.out]; exact hlt
          obtain ⟨g, gc, hv, _, hg0, _⟩ := (rp9.frB kr (fun i hi e => by have := hpl.out i hi; omega)).get (k := j) (by simpa using hjl)
          injection hv with hv1 hv2 hv3
          subst hv1
          rw [show (nI ps).getD j 0 = ((ps.getD j 0 : Nat) : Int) by simp [List.getD, hjl]] at hg0
          have o10 := o9.fr kr (by omega)
          have a10 := o10.1
          have hnow := now_yes ar o10 (tr.gone j hjl)
          have hA := tr.at_ j hjl
          rw [if_neg (Nat.lt_irrefl _), if_pos rfl] at hA
          have hob := hobs.out j hlt
          rw [hob] at hA
          obtain ⟨pj, hpj⟩ : ∃ pj, ps.getD j 0 = pj := ⟨_, rfl⟩
          rw [hpj] at hg0 hA hob hnow
          replace hpj := hid hpj
          replace hob := hid hob
          obtain ⟨tj, htj⟩ : ∃ tj, ts.getD j 0 = tj := ⟨_, rfl⟩
          rw [htj] at hnow hA
          replace htj := hid htj
          replace hnow := hid hnow
          replace tr := hid tr
          replace hA := hid hA
          clear hv2 hv3
          go_wp2_with fail
          refine (hnow.out).mono ?_
          rintro e w' ⟨rfl, rfl⟩
          go_wp2_with fail
          refine (at_shape ar hA.out).mono ?_
          rintro e w9 ⟨rfl, c9⟩
          have hs9a := c9.size
          obtain ⟨o, ho⟩ : ∃ o, objOf ls pj = o := ⟨_, rfl⟩
          rw [ho] at hA ⊢
          have ho8 := hA.out.ok.sh.1
          have e1 : (o.turn F 0).p = o.p := rfl
          have e2 : (o.turn F 0).d = o.d := rfl
          have e3 : (o.turn F 0).wk = o.wk := rfl
          have e4 : (o.turn F 0).fn = o.fn := rfl
          have e5 : (o.turn F 0).fr = o.fr := rfl
          simp only [e1, e2, e3, e4, e5] at ho8 ⊢
          clear e1 e2 e3 e4 e5
          have o25 := OwnL.new w9 [.int .i64 o.p, .int .i64 o.d, .bool o.wk, .bool o.fn] 31
          replace c9 := c9.alloc (.cells #[.int .i64 o.p, .int .i64 o.d, .bool o.wk, .bool o.fn] 31)
          have kr9 : Fr (fun k => k = c) W1 _ := kr.trans (Calm.any c9)
          replace ar := ar.calm c9
          have hs9 := c9.size
          have hs9' : (w9.alloc (.cells #[.int .i64 o.p, .int .i64 o.d, .bool o.wk, .bool o.fn] 31)).heap.size = w9.heap.size + 1 := by simp
          have hcs : c < wr.heap.size := by have := kr.size; have := o9.lt; omega
          clear kr c9 hnow hg0 a10
          go_wp2_with fail
          obtain ⟨Q, hQ⟩ : ∃ Q, w9.heap.size = Q := ⟨_, rfl⟩
          obtain ⟨W2, hW2⟩ : ∃ W2, w9.alloc (.cells #[.int .i64 o.p, .int .i64 o.d, .bool o.wk, .bool o.fn] 31) = W2 := ⟨_, rfl⟩
          rw [hQ, hW2]
          rw [hW2] at o25 ar kr9 hs9 hs9'
          rw [hQ] at o25 hs9' hs9a
          have hI2 : ∃ X, Ar W2 b c X ∧ TurnR ps ts (ls.map (·.2)) F j 0 X ∧ Fr (fun k => k = c) W2 W2 := ⟨X, ar, tr.out, Fr.refl _ _⟩
          clear hW2 hQ ar tr hA
          go_loopw [28] (fun i wr => ∃ k : Nat, k ≤ o.p ∧ i = .int .i64 k ∧ Hid (∃ X, Ar wr b c X ∧ TurnR ps ts (ls.map (·.2)) F j k X ∧ Fr (fun k => k = c) W2 wr)) (fun i _ => o.p - (intOf i).toNat)
          case atStart => exact ⟨0, Nat.zero_le _, rfl, hid hI2⟩
          case round =>
            clear hI2
            obtain ⟨m, hm, rfl, hI⟩ := hrel
            obtain ⟨X, ar, tr, kr⟩ := hI.out
            have z0 := ((o25.fr kr (by omega)) 0 _ rfl).1
            rcases Nat.lt_or_ge m o.p with hlt2 | hge2
            · have hjl : j < ps.length := by rw [hn.out]; exact hlt
              have hA := tr.at_ j hjl
              rw [if_neg (Nat.lt_irrefl _), if_pos rfl, hob.out, ho, htj.out] at hA
              have hpt := hid (at_ptr ar hA (i := m) hlt2)
              have hpj' : pj ∈ ps := by rw [← hpj.out]; simp [List.getD, hjl]
              obtain ⟨hok, hqq⟩ := hlk.out pj hpj'
              rw [ho] at hok hqq
              have hqm := hqq (o.ps.getD m 0) (by have := hok.lp; simp [List.getD, show m < o.ps.length by omega])
              have hpe : (o.turn F m).ps.getD m 0 = o.ps.getD m 0 := by
                show (turnL F m o.ps).getD m 0 = _
                rw [turnL_getD F m o.ps (by rw [hok.lp]; exact hlt2), if_neg (Nat.lt_irrefl _)]
              rw [hpe] at hpt
              have o11 := (o9.fr (kr9.trans kr) (by omega))
              have hnw : (∀ W, Calm wr W → Calls Try.prog 45 #[.int .i64 (o.ps.getD m 0 : Nat), .pointer (some ⟨A, 0, none⟩)] W fun e w' => e = .returned (.int .i64 (F (o.ps.getD m 0) : Nat)) ∧ Calm W w') ∧ F (o.ps.getD m 0) ≤ 131072 := by
                rcases hqm with hq0 | hq0
                · rw [hq0]
                  have hF0 : F 0 = 0 := by rw [← hF2.out]; unfold nowF; rw [if_neg h00]
                  rw [hF0]
                  exact ⟨fun W cw => (now_zero (ar.calm cw) (o11.calm cw) (by rw [tr.len]; omega) tr.zero).mono (fun e w' ⟨h1, h2⟩ => ⟨h1, by rw [h2]; exact Fr.refl _ _⟩), by omega⟩
                · have hi0 := List.idxOf_lt_length_of_mem hq0
                  have hg := tr.gone _ hi0
                  have e1 : ps.getD (ps.idxOf (o.ps.getD m 0)) 0 = o.ps.getD m 0 := by
                    have := List.getElem_idxOf hi0
                    rw [List.getD, List.getElem?_eq_getElem hi0]; exact this
                  have e2 : ts.getD (ps.idxOf (o.ps.getD m 0)) 0 = F (o.ps.getD m 0) := by rw [← hF2.out]; unfold nowF; rw [if_pos hq0]
                  rw [e1, e2] at hg
                  exact ⟨fun W cw => (now_yes (ar.calm cw) (o11.calm cw) hg).mono (fun e w' ⟨h1, h2⟩ => ⟨h1, by rw [h2]; exact Fr.refl _ _⟩), hg.le⟩
              obtain ⟨hnw, hFb⟩ := hnw
              have hmo : m < ((ls.map (·.2)).getD j (Ob.new 0 0 false false 0)).p := by rw [hob.out, ho]; exact hlt2
              have htr' := tr.step hjl hmo (by rw [hob.out, ho]; exact hFb)
              rw [hob.out, ho, htj.out] at htr'
              have hsp : ∀ W, Calm wr W → Calls Try.prog 23 #[arV b, .int .i64 tj, .int .i64 m, .int .i64 (F (o.ps.getD m 0) : Nat)] W fun e w' => e = .returned (.int .i64 0) ∧ Ar w' b c (X.set (tj + 3 + m) (F (o.ps.getD m 0))) ∧ Fr (fun k => k = c) W w' := fun W cw => at_setptr (ar.calm cw) hA hlt2 hFb
              generalize o.ps.getD m 0 = q at *
              generalize F q = fq at *
              have y0 : ∀ x : Later wr, x.w.cell? ⟨A, 0, none⟩ = some (arV b) := fun x => x.cell o11.1
              have a11 := o11.1
              replace hnw := hid hnw
              replace hsp := hid hsp
              replace htr' := hid htr'
              replace hok := hid hok
              replace hqq := hid hqq
              replace hmo := hid hmo
              replace hpe := hid hpe
              replace hA := hid hA
              clear hqm
              have hAl := o11.lt
              go_wp2_with fail
              refine (hpt.out).mono ?_
              rintro e w10 ⟨rfl, c10⟩
              have y0 : ∀ x : Later w10, x.w.cell? ⟨A, 0, none⟩ = some (arV b) := fun x => x.cell (c10.cellAt a11 id)
              clear a11
              go_wp2_with fail
              refine wp_region_calm_tail 6 (by kernel_rfl) (by kernel_rfl) ?_
              simp only [List.take_succ_cons, List.take_zero, List.drop_succ_cons, List.drop_zero]
              repeat (go_big_quiet_step ((go_at_call 45; exact Calls.calm_of (hnw.out _ (c10.trans (Later.calm _))))))
              refine wpQuiet_nil ?_
              intro w11 hw'
              have c11 := c10.trans (Later.out hw')
              clear hw' y0 c10 hpt hnw
              go_wp2_with fail
              refine (hsp.out _ c11).mono ?_
              rintro e w12 ⟨rfl, ar12, f12⟩
              have k12 : Fr (fun k => k = c) W2 w12 := kr.trans ((Calm.any c11).trans f12)
              clear hsp ar kr o11 c11 f12 tr
              go_wp2
              go_roundw
              case rel => exact ⟨m + 1, by omega, by go_num, _, ar12, htr'.out, k12⟩
              case measure => simp [intOf]; omega
            · obtain rfl : o.p = m := by omega
              have hjl : j < ps.length := by rw [hn.out]; exact hlt
              have tr' := tr.next hjl (by rw [hob.out, ho]; exact Nat.le_refl _)
              have k12 := kr9.trans kr
              clear tr kr hge2
              replace tr' := hid tr'
              go_wp2
              go_roundw
              case rel => exact ⟨j + 1, by omega, by go_num, _, ar, tr'.out, k12⟩
              case measure => simp [intOf]; omega
        · obtain rfl : n = j := by omega
          obtain ⟨X, ar, tr, kr⟩ := hI.out
          have htr := tr
          rw [← hn.out] at htr
          obtain ⟨nm, obj', ho', hx'⟩ := hfin.out X (by rw [hF2.out]; exact htr)
          rw [hF2.out] at nm ho' hx'
          go_wp2_with fail
          have k13 := kr
          obtain ⟨W3, hW3⟩ : ∃ W3, wr = W3 := ⟨_, rfl⟩
          rw [hW3] at ar k13 ⊢
          have tz := tr.zero
          have tl := tr.len
          have tg := tr.gone
          have kall : Fr (fun k => k = c ∨ k = SP) W0 W3 := kf.trans (k13.mono (fun j _ h => .inl h))
          have rq9 := rq.frB kall (fun j hj e => by have := hql.out j hj; omega)
          have o12 := o9.fr k13 (by omega)
          have hrl : Hid ((nI r).length = r.length) := by show (nI r).length = r.length; simp
          have hI3 : ORow W3 W3.heap.size (.slice none 0 0) (nI ((r.take 0).map F)) ∧ Calm W3 W3 := ⟨ORow.nil _ _, Fr.refl _ _⟩
          clear kr hge hj hI tr htr hW3
          replace tg := hid tg
          replace nm := hid nm
          replace ho' := hid ho'
          replace hx' := hid hx'
          go_loopw [31, 32] (fun v i wr => ∃ k : Nat, k ≤ r.length ∧ i = .int .i64 k ∧ Hid (ORow wr W3.heap.size v (nI ((r.take k).map F)) ∧ Calm W3 wr)) (fun _ i _ => r.length - (intOf i).toNat)
          case atStart => exact ⟨0, Nat.zero_le _, rfl, hid hI3⟩
          case round =>
            clear hI3
            obtain ⟨k, hk, rfl, hI⟩ := hrel
            obtain ⟨hro, hcx⟩ := hI.out
            rcases Nat.lt_or_ge k r.length with hlt | hge
            · obtain ⟨g, gc, hv, _, hg0, _⟩ := (rq9.calm hcx).get (k := k) (by rw [hrl.out]; exact hlt)
              injection hv with hv1 hv2 hv3
              subst hv1
              rw [show (nI r).getD k 0 = ((r.getD k 0 : Nat) : Int) by simp [List.getD, hlt]] at hg0
              have hmem : r.getD k 0 ∈ r := by simp [List.getD, hlt]
              have o13 := o12.calm hcx
              have ar13 := ar.calm hcx
              have hnw : Calls Try.prog 45 #[.int .i64 (r.getD k 0 : Nat), .pointer (some ⟨A, 0, none⟩)] wr fun e w' => e = .returned (.int .i64 (F (r.getD k 0) : Nat)) ∧ wr = w' := by
                by_cases hq0 : r.getD k 0 = 0
                · rw [hq0]
                  have hF0 : F 0 = 0 := by rw [← hF2.out]; unfold nowF; rw [if_neg h00]
                  rw [hF0]
                  exact now_zero ar13 o13 (by rw [tl]; omega) tz
                · have hq1 := HIN.out _ hmem hq0
                  have hi0 := List.idxOf_lt_length_of_mem hq1
                  have hg := tg.out _ hi0
                  have e1 : ps.getD (ps.idxOf (r.getD k 0)) 0 = r.getD k 0 := by
                    have := List.getElem_idxOf hi0
                    rw [List.getD, List.getElem?_eq_getElem hi0]; exact this
                  have e2 : ts.getD (ps.idxOf (r.getD k 0)) 0 = F (r.getD k 0) := by rw [← hF2.out]; unfold nowF; rw [if_pos hq1]
                  rw [e1, e2] at hg
                  exact now_yes ar13 o13 hg
              have hstep : Hid (nI ((r.take (k + 1)).map F) = nI ((r.take k).map F) ++ [((F (r.getD k 0) : Nat) : Int)]) := by
                show _ = _
                rw [take_succ_getD r hlt]; simp
              have hll : Hid ((nI ((r.take k).map F)).length = k) := by show _ = _; simp; omega
              obtain ⟨sa, sn, sc, rfl⟩ := hro.letters
              have hs := hid hcx.size
              have a13 := o13.1
              replace hro := hid hro
              clear hv2 hv3 hmem
              generalize nI ((r.take k).map F) = L at *
              generalize r.getD k 0 = q at *
              generalize F q = fq at *
              replace hnw := hid hnw
              go_wp2_with (first | (go_at_call 45; refine (hnw.out).mono ?_; rintro e w' ⟨rfl, rfl⟩) | (at_builtin; go_must (refine wpList_app1 rfl _ _ rfl _ _ L hro.out rfl (fq : Int) rfl (by rw [hll.out]; omega) hs.out ?_); intro g4 c4 w4 hN4 hF4 hg4; replace hN4 := hid hN4; replace hF4 := hid hF4; replace hg4 := hid hg4))
              go_roundw
              case rel => exact ⟨k + 1, by omega, by go_num, by rw [hstep.out]; exact hN4.out, hcx.join hF4.out (fun j h1 h2 => by have := (hro.out.lt h2).1; omega)⟩
              case measure => simp [intOf]; omega
            · obtain rfl : r.length = k := by omega
              rw [List.take_length] at hro
              have ar14 := ar.calm hcx
              have o14 := o12.calm hcx
              have a14 := o14.1
              obtain ⟨sa, sn, sc, rfl⟩ := hro.letters
              have hcan := hid (canon_yes ar14 ho'.out hro.row (by simp; omega) (fun x hx h0 => by
                obtain ⟨y, hy, rfl⟩ := List.mem_map.1 hx
                by_cases hy0 : y = 0
                · subst hy0; exact absurd nm.out.zero h0
                · exact List.mem_map_of_mem (HIN.out y hy hy0)))
              replace hnr := hid ((hnr.out.fr kall (fun x hx j hj e => by have := hnlt.out x hx j hj; omega)).calm hcx)
              replace hst := hid ((hst.out.frB kall (fun j hj e => by have := hstlt.out j hj; omega)).calm hcx)
              go_wp2_with fail
              refine (hcan.out).mono ?_
              rintro e w15 ⟨vn2, vs2, R2, lsn2, B22, rfl, hb2, hnr2, hnd2, hB22, hst2, hB32, c15⟩
              obtain ⟨hRps, hRn⟩ := bfs_in HO.out hb.out HIN.out
              obtain ⟨hb3, _⟩ := nm.out.bfs (str := strs (objOf ls)) (str' := strs obj') (fun x hx => by
                have e := hx'.out x hx
                obtain ⟨_, k2⟩ := hlk.out x hx
                constructor
                · show (obj' (F x)).strong = (objOf ls x).strong.map F
                  rw [e]; unfold Ob.strong; simp only; split <;> simp
                · intro q hq
                  refine k2 q ?_
                  have hq : q ∈ (objOf ls x).strong := hq
                  unfold Ob.strong at hq
                  split at hq
                  · cases hq
                  · exact hq) hb.out (fun x hx => by
                rcases mem_addAll.1 hx with h | ⟨h1, h2⟩
                · cases h
                · exact HIN.out x h1 h2)
              have hr0 : ∀ x ∈ r, x = 0 ∨ x ∈ ps := fun x hx => by
                by_cases e : x = 0
                · exact .inl e
                · exact .inr (HIN.out x hx e)
              have ea := (nm.out.addAll r [] (by simp) hr0).1
              rw [List.map_nil] at ea
              rw [← ea] at hb3
              obtain rfl := hb2.unique hb3
              have hnds : Hid (lsn.map NI.nd = lsn2.map NI.nd) := by
                show _ = _
                rw [hnd.out, hnd2, List.map_map]
                refine List.map_congr_left (fun x hx => ?_)
                show _ = (obj' (F x)).nd (R.map F)
                rw [hx'.out x (hRps x hx)]
                have := nm.out.pt hRps (hlk.out x (hRps x hx)).2
                show (⟨_, _, _, _, _, _, _, _⟩ : Nd) = ⟨_, _, _, _, _, _, ptI (R.map F) ((objOf ls x).ps.map F), _⟩
                rw [this]
              have hpt := nm.out.pt hRps hr0
              rw [hpt] at hst2
              have f1 := nodes_few HO.out hRps hRn hnd.out
              have f2 := NFew.of_map (nds := lsn.map NI.nd) hnds.out.symm (by have := f1.1; simpa using this) (fun y hy => by obtain ⟨z, hz, rfl⟩ := List.mem_map.1 hy; exact f1.2 z hz)
              have hpl2 : (ptI R r).length = r.length := ptI_length _ _
              replace hnr := hid (hnr.out.calm c15)
              replace hst := hid (hst.out.calm c15)
              have k15 := c1.join (kall.trans (Calm.any (hcx.trans c15))) (fun j hj e => by rcases e with e | e <;> omega)
              obtain ⟨na2, nn2, nc2, rfl⟩ := hnr2.letters
              obtain ⟨ta2, tn2, tc2, rfl⟩ := hst2.letters
              have hs1 := hnr2.see
              have hs2 := hst2.row
              replace hs1 := hid hs1
              replace hs2 := hid hs2
              replace hpl2 := hid hpl2
              replace f1 := hid f1
              replace f2 := hid f2
              replace hpt := hid hpt
              replace hRps := hid hRps
              replace hRn := hid hRn
              clear hnd2 hB22 hst2 hnr2 hb2 hb3 ea c15 hcan hro hcx ar14 o14 a14 hI ar o12
              go_wp2_with fail
              refine (same_is hnr.out.see hs1.out f1.out f2.out).mono ?_
              rintro e w16 ⟨rfl, c16⟩
              rw [show decide (lsn.map NI.nd = lsn2.map NI.nd) = true from decide_eq_true hnds.out]
              go_wp2_with fail
              refine (ints08 _ _ (ptI R r) (ptI R r) _ (hst.out.row.calm c16) (hs2.out.calm c16) (by rw [hpl2.out]; omega) (by rw [hpl2.out]; omega)).mono ?_
              rintro e w17 ⟨rfl, c17⟩
              rw [show decide (ptI R r = ptI R r) = true from by simp]
              go_wp2
              go_ret
              exact ⟨rfl, Calm.below ((k15.trans c16).trans c17)⟩

end Go.Proofs.Ytcacbbfeenebbaa
