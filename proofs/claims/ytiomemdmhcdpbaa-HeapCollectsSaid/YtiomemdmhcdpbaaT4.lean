/- HeapCollects returns true: its walk. -/
import Derived.Test.YtiomemdmhcdpbaaCollI
set_option linter.unusedSimpArgs false
set_option linter.unusedVariables false
namespace Go.Proofs.Ytiomemdmhcdpbaa
open Go.RowKit Go.Shelf

/-- Twins behind m collections. -/
def OutS (w : World) (b0 T m : Nat) (wr : World) : Prop :=
  ∃ σ A B R S BA BB XA XB, TwAt wr b0 T BA BB A B XA XB R S ∧ Pair σ A B R S 4 ∧ A.n = 300 ∧ A.ser = B.ser ∧ B.ser ≤ 40 ∧ (∀ m, m ≤ B.ser → σ m = m) ∧ Calm w wr ∧ w.heap.size ≤ b0 ∧ (1 ≤ m → A.mv = false)
def FlipOut (w : World) (BA : HB) (A : HS) (XA : List Nat) (e : Ending) (w' : World) : Prop :=
  ∃ b, e = .returned (.bool b) ∧ ((b = true ∧ A.mv = false ∧ HAt w' (BA.flip A.u) A.flip XA ∧ HKeep w BA w' (BA.flip A.u)) ∨ (b = false ∧ A.mv = true ∧ w = w'))
theorem flip_any {w : World} {BA : HB} {A : HS} {XA : List Nat} (h : HAt w BA A XA) : Calls Try.prog 16 #[hpV BA] w (FlipOut w BA A XA) := by
  cases hm : A.mv
  · exact (hflip_yes h hm).mono (fun e w' ⟨h1, h2, h3⟩ => ⟨true, h1, .inl ⟨rfl, hm, h2, h3⟩⟩)
  · exact (hflip_no h hm).mono (fun e w' ⟨h1, h2⟩ => ⟨false, h1, .inr ⟨rfl, hm, h2⟩⟩)

theorem took_at {s : HS} {X : List Nat} (hr : HRep s X) {RA : List Nat} (hl : ∀ x ∈ RA, x ∈ liveU s) {ls : List NI} (e : ls.map NI.nd = RA.map (fun x => (nowAt s x).nd RA)) {j : Nat} (hj : j < ls.length) :
    ∃ m t : Nat, 3 ≤ m ∧ m ≤ 19 ∧ 3 + (ls.getD j default).nd.p + (ls.getD j default).nd.d = m ∧ rnd (m : Int) = (t : Int) ∧ (RA.map (fun x => (nowAt s x).took)).getD j 0 = t := by
  have hlen : ls.length = RA.length := by have := congrArg List.length e; simpa using this
  have hj2 : j < RA.length := by omega
  have hx : RA[j] ∈ RA := List.getElem_mem hj2
  obtain ⟨o, ho⟩ := mem_liveU.1 (hl _ hx)
  have hok := (ho.at_ hr).ok
  have en : nowAt s RA[j] = o.fw s := by unfold nowAt; rw [obAt_eq hr ho]
  have e1 : (ls.getD j default).nd = (nowAt s RA[j]).nd RA := by
    have h3 : (ls.map NI.nd)[j]'(by simpa using hj) = (RA.map (fun x => (nowAt s x).nd RA))[j]'(by simpa using hj2) := by simp only [e]
    simpa [List.getD, hj] using h3
  rw [en] at e1
  have hp : (ls.getD j default).nd.p = o.p := by rw [e1]; rfl
  have hd : (ls.getD j default).nd.d = o.d := by rw [e1]; rfl
  obtain ⟨t1, t2, t3, t4⟩ := Ob.took_eq hok
  have hs : o.size = 3 + o.p + o.d := rfl
  have h1 := hok.sh.1
  have h2 := hok.sh.2.1
  refine ⟨3 + o.p + o.d, o.took, by omega, by omega, by rw [hp, hd], by rw [← hs]; exact t1.symm, ?_⟩
  have : (RA.map (fun x => (nowAt s x).took)).getD j 0 = (nowAt s RA[j]).took := by simp [List.getD, hj2]
  rw [this, en]; rfl
theorem sum_take {l : List Nat} {j : Nat} (hj : j < l.length) : (l.take (j + 1)).sum = (l.take j).sum + l.getD j 0 := by
  rw [List.take_add_one, List.sum_append]
  simp [List.getD, hj]
theorem sum_take_le (l : List Nat) (j : Nat) : (l.take j).sum ≤ l.sum := by
  have := congrArg List.sum (List.take_append_drop j l)
  rw [List.sum_append] at this
  omega

set_option maxRecDepth 100000 in
set_option maxHeartbeats 16000000 in
theorem heapCollects_walk (v : Value) (l : List Op10) (hm : l.length ≤ maxLen) (w : World) (hr : RowK w v 8 (l.map Op10.cells)) (hl : ∀ o ∈ l, o.Ok) :
    Calls Try.prog 7 #[v] w fun e w' => e = .returned (.bool true) ∧ Below w.heap.size w w' := by
  obtain ⟨ra, rc, rfl, hrk⟩ := hr.cells
  obtain ⟨n, hn⟩ : ∃ n, l.length = n := ⟨_, rfl⟩
  rw [hn] at hm ⊢
  unfold maxLen at hm
  replace hrk := hid hrk
  replace hl := hid hl
  replace hn := hid hn
  have hmn : (n : Int) ≤ 9223372036854775807 := by omega
  replace hm := hid hm
  replace hmn := hid hmn
  clear hr
  go_enter Try.func7, Try.ntmps7
  go_wp2_with fail
  refine (awake10 _).mono ?_
  rintro e w0 ⟨rfl, c0⟩
  go_wp2_with fail
  refine (begin_yes _ 300 (by decide) (by decide)).mono ?_
  rintro e w1 ⟨T, BA, BB, XA, XB, rfl, hT, c1⟩
  have hI0 := hid (TwI.start hT (c0.trans c1) c0.size)
  generalize hb0 : w0.heap.size = b0 at *
  clear hT c0 c1 hb0
  go_upto_block 0 with fail
  go_cut [5] (fun s5 wx => ∃ k, k ≤ 40 ∧ TwI w b0 T 300 k wx)
  case first =>
    go_wp2_with fail
    go_loopw [5] (fun i wr => ∃ k : Nat, k ≤ n ∧ k ≤ 40 ∧ i = .int .i64 k ∧ TwI w b0 T 300 k wr) (fun i _ => 40 - (intOf i).toNat)
    case atStart => exact ⟨0, by omega, by omega, rfl, hI0.out⟩
    case round =>
      clear hI0
      obtain ⟨k, hk, hk40, rfl, ⟨σ, A, B, R, S, BA, BB, XA, XB, hT, hP, hAn, hAB, hBs, hσ, hc, hwb⟩⟩ := hrel
      by_cases hlt : k < n ∧ k < 40
      · obtain ⟨hlt, hlt40⟩ := hlt
        have hkl : k < l.length := by rw [hn.out]; exact hlt
        obtain ⟨b, off, rfl, hcell⟩ := hrk.out k l[k] (by simp [hkl])
        have hok := hl.out l[k] (List.getElem_mem hkl)
        have g0 := hc.cellAt (p := ⟨b, off + k * 8 + 0, none⟩) (hcell 0 _ rfl) id
        have g1 := hc.cellAt (p := ⟨b, off + k * 8 + 1, none⟩) (hcell 1 _ rfl) id
        have g2 := hc.cellAt (p := ⟨b, off + k * 8 + 2, none⟩) (hcell 2 _ rfl) id
        have g3 := hc.cellAt (p := ⟨b, off + k * 8 + 3, none⟩) (hcell 3 _ rfl) id
        have g4 := hc.cellAt (p := ⟨b, off + k * 8 + 4, none⟩) (hcell 4 _ rfl) id
        have g5 := hc.cellAt (p := ⟨b, off + k * 8 + 5, none⟩) (hcell 5 _ rfl) id
        have g6 := hc.cellAt (p := ⟨b, off + k * 8 + 6, none⟩) (hcell 6 _ rfl) id
        have g7 := hc.cellAt (p := ⟨b, off + k * 8 + 7, none⟩) (hcell 7 _ rfl) id
        rw [Nat.add_zero] at g0
        have hD := hid (does_is hT hP ⟨by omega, by omega⟩ l[k] hok)
        clear hcell
        generalize l[k] = o at *
        replace hT := hid hT
        replace hP := hid hP
        go_wp2_with fail
        refine (hD.out).mono ?_
        rintro e w2 ⟨rfl, hf2, σ2, A2, B2, R2, S2, BA2, BB2, XA2, XB2, hT2, e1, e2, hP2, hn2, hg2, _⟩
        obtain ⟨hAB2, hBs2, hσ2⟩ := hg2.same hAB hσ
        have hc2 : Calm w w2 := hc.join hf2 (fun j hj h => by omega)
        have hA2n : A2.n = 300 := hn2.trans hAn
        replace hT2 := hid hT2
        replace hP2 := hid hP2
        replace hσ2 := hid hσ2
        replace hf2 := hid hf2
        clear hD hg2 hT hP g0 g1 g2 g3 g4 g5 g6 g7 hn2 hAn hok hσ
        go_wp2
        go_roundw
        case rel => exact ⟨k + 1, by omega, by omega, by go_num, σ2, A2, B2, R2, S2, BA2, BB2, XA2, XB2, hT2.out, hP2.out, hA2n, hAB2, by omega, hσ2.out, hc2, hwb⟩
        case measure => simp [intOf]; omega
      · replace hT := hid hT
        replace hP := hid hP
        rcases Nat.lt_or_ge k n with hlt2 | hge2
        · have hge40 : 40 ≤ k := by omega
          clear hlt
          go_wp2_with fail
          go_meet
          exact ⟨k, hk40, σ, A, B, R, S, BA, BB, XA, XB, hT.out, hP.out, hAn, hAB, hBs, hσ, hc, hwb⟩
        · clear hlt
          go_wp2_with fail
          go_meet
          exact ⟨k, hk40, σ, A, B, R, S, BA, BB, XA, XB, hT.out, hP.out, hAn, hAB, hBs, hσ, hc, hwb⟩
  case rest =>
    clear hI0
    obtain ⟨k0, hk0, hI⟩ := hcut
    have hO0 : Hid (OutS w b0 T 0 wc) := by
      obtain ⟨σ, A, B, R, S, BA, BB, XA, XB, hT, hP, hAn, hAB, hBs, hσ, hc, hwb⟩ := hI
      exact ⟨σ, A, B, R, S, BA, BB, XA, XB, hT, hP, hAn, hAB, by omega, hσ, hc, hwb, fun h => by omega⟩
    clear hI hk0
    go_wp2_with fail
    go_loopw [6] (fun x wz => ∃ m : Nat, m ≤ 2 ∧ x = .int .i64 m ∧ OutS w b0 T m wz) (fun x _ => 2 - (intOf x).toNat)
    case atStart => exact ⟨0, by omega, rfl, hO0.out⟩
    case round =>
      clear hO0
      obtain ⟨m, hm2, rfl, σ, A, B, R, S, BA, BB, XA, XB, hT, hP, hAn, hAB, hBs, hσ, hc, hwb, hmv⟩ := hrel
      rcases Nat.lt_or_ge m 2 with hm | hm
      · have hta := hT.cellA
        have hFl := hid (flip_any hT.ha)
        have hst := hid (fun (W2 : World) (h1 : A.mv = false) (h2 : HAt W2 (BA.flip A.u) A.flip XA) (h3 : HKeep wr BA W2 (BA.flip A.u)) =>
          (⟨σ, A.flip, B, R, S, BA.flip A.u, BB, XA, XB, [], ⟨hT.stepA h2 h3, PhS.flip hP hT.ha.rep h1, hAn, hAB, hσ, h3.hp, rfl⟩, InR.nil R 0, TwAt.from_ hT.la h3, hBs⟩ : MvS b0 T 300 BA.hp BB.hp wr 0 W2))
        have hst2 : Hid (A.mv = true → ∃ σ A B R S BA' BB' XA XB G k, CoS b0 T 300 BA.hp BB.hp σ A B R S BA' BB' XA XB 4 G k wr ∧ From b0 wr wr ∧ B.ser ≤ 40 ∧ (m = 1 → InR G R 4)) := fun h1 => by
          obtain ⟨k, hk⟩ := PhS.any hP h1
          exact ⟨σ, A, B, R, S, BA, BB, XA, XB, plc A.cur, k, ⟨hT, hk, hAn, hAB, hσ, rfl, rfl⟩, Fr.refl _ _, hBs, fun e => by rw [hmv (by omega)] at h1; cases h1⟩
        have hc1 := hid hc
        have hhp := hid (show True from trivial)
        generalize hhpa : BA.hp = hpa at *
        generalize hwo : wr = WRX at *
        generalize hhpb : BB.hp = hpb at *
        clear hT hP hAn hAB hBs hσ hc hmv
        go_wp2_with fail
        refine (hFl.out).mono ?_
        rintro e w2 ⟨b, rfl, hfl⟩
        replace hfl := hid hfl
        clear hFl
        go_upto_if 53 with fail
        go_cut [7] (fun s7 wy => ∃ σ A B R S BA' BB' XA XB G k, CoS b0 T 300 hpa hpb σ A B R S BA' BB' XA XB 4 G k wy ∧ From b0 WRX wy ∧ B.ser ≤ 40 ∧ (m = 1 → InR G R 4))
        case first =>
          rcases hfl.out with ⟨rfl, f1, f2, f3⟩ | ⟨rfl, f1, rfl⟩
          · have hF0 := hid (hst.out _ f1 f2 f3)
            clear hst hst2 hfl f1 f2 f3 hta
            go_wp2_with fail
            go_loopw [7] (fun x wz => ∃ j : Nat, j ≤ 4 ∧ x = .int .i64 j ∧ MvS b0 T 300 hpa hpb WRX j wz) (fun x _ => 4 - (intOf x).toNat)
            case atStart => exact ⟨0, by omega, rfl, hF0.out⟩
            case round =>
              clear hF0
              obtain ⟨j, hj, rfl, σ, A1, B, R1, S, BA1, BB1, XA1, XB1, G, hco, hin, hfr, hBs⟩ := hrel
              rcases Nat.lt_or_ge j 4 with hlt | hge
              · have hl1 : R1.length = 4 ∧ S.length = 4 := ⟨hco.ph.pr.rg.lr, hco.ph.pr.rg.ls⟩
                have yr := hco.tw.cellR hl1 hlt
                have y0 := hco.tw.cellA
                obtain ⟨n0, hn0, hn1, _⟩ := hco.ph.pr.rg.ref j hlt
                have C := fun W (cw : Calm wr W) => hmoved (hco.tw.ha.calm cw) (hn1.place.le hco.tw.ha.rep)
                have yr1 := yr.1
                have hstep := hid (fun (W W2 : World) (c : Calm wr W) (A2 : HS) (B2 : HB) (X2 : List Nat) (q : Nat) (g : Goes A1 (R1.getD j 0) A2 q) (h2 : HAt W2 B2 A2 X2) (k2 : HKeep W BA1 W2 B2) =>
                  (⟨σ, A2, B, R1.set j q, S, B2, BB1, X2, XB1, G ++ [q], ⟨((hco.tw.calm c).stepA h2 k2).setR hlt hl1, hco.ph.moved hco.tw.ha.rep hlt g, g.same.1.trans hco.n, g.same.2.2.2.2.1.trans hco.ser, hco.id_, k2.hp.trans hco.hpa, hco.hpb⟩, hin.snoc (by omega), ((hfr.trans (From.calm c)).trans (TwAt.from_ hco.tw.la k2)).setCell (p := ⟨T, 2 + j, none⟩) (.inl (show b0 ≤ T from hco.tw.lt)) (.int .i64 (q : Nat)), hBs⟩ : MvS b0 T 300 hpa hpb WRX (j + 1) (W2.setCell ⟨T, 2 + j, none⟩ (.int .i64 (q : Nat)))))
                have hkeep := hid (fun (W W2 : World) (c : Calm wr W) (A2 : HS) (B2 : HB) (X2 : List Nat) (h2 : HAt W2 B2 A2 X2) (k2 : HKeep W BA1 W2 B2) => ((hco.tw.calm c).stepA h2 k2).cellR hl1 hlt)
                replace C := hid C
                clear hco hn1 yr hfr hl1 hin
                generalize R1.getD j 0 = p at *
                go_wp2_with fail
                go_region_law ((go_simp; go_at_call 18; refine (C.out _ (by first | exact Fr.refl _ _ | exact (Fr.refl _ _).drew)).mono ?_; rintro e w6 ⟨A2, q, g, rfl, B2, X2, h2, k2⟩; have z := hkeep.out _ _ (by first | exact Fr.refl _ _ | exact (Fr.refl _ _).drew) _ _ _ h2 k2; have z1 := z.1; have z2 := z.2; have hF := hid (hstep.out _ _ (by first | exact Fr.refl _ _ | exact (Fr.refl _ _).drew) _ _ _ _ g h2 k2); clear g h2 k2 z))
                all_goals
                  go_wp2
                  go_roundw
                  case rel => exact ⟨j + 1, by omega, by go_num, hF.out⟩
                  case measure => simp [intOf]; omega
              · obtain rfl : j = 4 := by omega
                replace hco := hid hco
                go_wp2_with fail
                go_meet
                exact ⟨σ, A1, B, R1, S, BA1, BB1, XA1, XB1, G, 0, hco.out, hfr, hBs, fun _ => hin⟩
          · have hG := hid (hst2.out f1)
            clear hst hst2 hfl
            go_wp2_with fail
            go_meet
            exact hG.out
        case rest =>
          clear hst hst2 hfl hta
          obtain ⟨σ, A, B, R, S, BA', BB', XA, XB, G, k, hco, hfr, hBs, hIn⟩ := hcut
          have hG0 := hid (GaS.start hco hfr hBs)
          clear hco hfr hBs
          go_wp2_with fail
          go_loopw [8, 9] (fun v x wz => ∃ j : Nat, j ≤ 400 ∧ x = .int .i64 j ∧ ∃ A BA XA k told, GaS b0 T 300 hpa hpb WRX G σ A B R S BA BB' XA XB k told v j wz) (fun _ x _ => 400 - (intOf x).toNat)
          case atStart => exact ⟨0, by omega, rfl, A, BA', XA, k, [], hG0.out⟩
          case round =>
            clear hG0
            obtain ⟨j, hj, rfl, A, BA, XA, k, told, hg⟩ := hrel
            rename_i vv _ _
            obtain ⟨va, vn, vc, rfl⟩ := hg.row.letters
            have hta := hg.co.tw.cellA
            rcases Nat.lt_or_ge j 400 with hlt | hge
            · have hSc := hid (scan_ph hg.co.tw.ha hg.co.ph)
              replace hg := hid hg
              go_wp2_with fail
              refine hSc.out.mono ?_
              intro e w4 ho
              obtain ⟨bb, A1, BA1, XA1, k1, rfl, hg1, hj1⟩ := hg.out.scan ho
              have hta1 := hg1.co.tw.cellA
              have hFi := hid (finals_ph hg1.co.tw.ha hg1.co.ph)
              replace hg1 := hid hg1
              clear ho hSc hg hta
              go_wp2_with fail
              refine hFi.out.mono ?_
              intro e w5 ho
              obtain ⟨u, l', rfl, hu, hrow, hln, hb0, hstep⟩ := hg1.out.finals hj1 ho
              replace hstep := hid hstep
              clear ho hFi hta1 hg1
              go_wp2_with (at_builtin; go_must (refine wpList_appL rfl _ _ rfl b0 (.slice va vn vc) (nI told) hrow rfl u (nI l') hu.row rfl (by simp; omega) hb0 ?_; intro v' w6 hv' hfv hnv))
              obtain ⟨A2, BA2, XA2, hg2⟩ := hstep.out v' w6 hv' hfv hnv
              replace hg2 := hid hg2
              clear hstep hv' hfv hnv hrow hu
              go_wp2
              go_roundw
              case rel => exact ⟨j + 1, by omega, by go_num, A2, BA2, XA2, k1, told ++ l', hg2.out⟩
              case measure => simp [intOf]; omega
            · obtain rfl : j = 400 := by omega
              have hkd := hg.done (by omega) (by omega)
              have hDr := hid (drop_ph hg.co.tw.ha hg.co.ph hkd)
              replace hg := hid hg
              clear hkd
              go_wp2_with fail
              refine hDr.out.mono ?_
              rintro e w4 ⟨A3, BA3, XA3, stw, stf, l1, l2, s', ls0, vd, rfl, hA3, hK3, hvd, _, hP3, hga3, hmv3, hold3, hn3, hs3, hpl3, htk3, _⟩
              have hT3 := hg.out.co.tw.stepA hA3 hK3
              have hMo := hid (moving_is hA3)
              rw [hmv3] at hMo
              have hAl := hid (alike_is hT3 hP3 hg.out.co.id_)
              have hta3 := hT3.cellA
              have hrow3 : Hid (ORow w4 b0 (.slice va vn vc) (nI told)) := hg.out.row.frB hK3.fr (fun b hb => (hg.out.apr b hb).1)
              have hfr3 : Hid (From b0 WRX w4) := hg.out.fr.trans (TwAt.from_ hg.out.co.tw.la hK3)
              have hn300 : A3.n = 300 := hn3.trans hg.out.co.n
              have hpt : Hid (∀ q ∈ told, Placed A3 q) := fun q hq => (hg.out.pl q hq).imp id (fun h => by rw [hpl3]; exact h)
              have hln := hg.out.len
              have hAB3 : A3.ser = B.ser := hs3.trans hg.out.co.ser
              have hid3 := hid hg.out.co.id_
              have hBs3 := hg.out.bs
              replace hT3 := hid hT3
              replace hP3 := hid hP3
              replace hga3 := hid hga3
              clear hDr hK3 hg hs3 hn3
              go_wp2_with fail
              refine (hMo.out).mono ?_
              rintro e w5 ⟨rfl, rfl⟩
              go_wp2_with fail
              refine (hAl.out).mono ?_
              rintro e w6 ⟨rfl, c6⟩
              have hT6 := hid (hT3.out.calm c6)
              have hc6 : Hid (Calm w w6) := (hc1.out.join hfr3.out (fun j hj h => by omega)).trans c6
              have hta6 := c6.cellAt hta3 id
              have hrow6 := hid (hrow3.out.calm c6)
              clear hMo hAl hta3 hT3 hrow3 hfr3
              rcases Nat.eq_zero_or_pos m with hm0 | hm0
              · subst hm0
                go_wp2
                go_roundw
                case rel => exact ⟨1, by omega, by go_num, σ, A3, B, R, S, BA3, BB', XA3, XB, hT6.out, hP3.out, hn300, hAB3, hBs3, hid3.out, hc6.out, hwb, fun _ => hmv3⟩
                case measure => simp [intOf]
              · obtain rfl : m = 1 := by omega
                have hin := hIn rfl
                have hl3 : R.length = 4 ∧ S.length = 4 := ⟨hP3.out.rg.lr, hP3.out.rg.ls⟩
                have hgR : Hid (Gath A3 (R ++ told)) := hga3.out.sub (fun q hq => by
                  rcases List.mem_append.1 hq with h | h
                  · exact List.mem_append.2 (.inl (hin.mem (by omega) q h))
                  · exact List.mem_append.2 (.inr h))
                have hpR : Hid (∀ x ∈ R ++ told, Placed A3 x) := fun x hx => by
                  rcases List.mem_append.1 hx with h | h
                  · exact hP3.out.placed x h
                  · exact hpt.out x h
                have hb6 : Hid (b0 ≤ w6.heap.size ∧ T < w6.heap.size) := by
                  have h1 := hT6.out.lt
                  have h2 := hT6.out.cs.lt (by simp [twC])
                  exact ⟨by omega, h2⟩
                have hRw := hid (fun W (cw : Calm w6 W) => (hT6.out.rowR hl3).calm cw)
                have hCn := hid (fun W (cw : Calm w6 W) (v : Value) (hv : ORow W b0 v (nI R ++ nI told)) => hcanon (hT6.out.ha.calm cw) hP3.out.ptrs (rv := v) (rs := R ++ told) (by rw [nI, List.map_append]; exact hv.row) (by rw [List.length_append, hl3.1]; omega) hpR.out)
                have hRM := hid (fun W (cw : Calm w6 W) => room_is (hT6.out.ha.calm cw))
                have hlR : R.length = 4 := hl3.1
                go_wp2_with fail
                go_cut [12, 13, 14] (fun s12 s13 s14 wx => ∃ vn1 vs RA ls, s12 = vn1 ∧ s13 = vs ∧ s14 = .int .i64 0 ∧ Bfs (strs (nowAt A3)) (addAll [] (R ++ told)) 0 RA ∧ NSee wx vn1 ls ∧ ls.map NI.nd = RA.map (fun x => (nowAt A3 x).nd RA) ∧ Calm w6 wx)
                case first =>
                  have hle0 : Hid (([] : List Int).length + (nI R).length ≤ 1000000) := by show _ ≤ _; simp [hlR]
                  have hle2 : Hid ((nI R).length + (nI told).length ≤ 1000000) := by show _ ≤ _; simp [hlR]; omega
                  have tok1 : True := trivial
                  go_region_held3 (fun w' => w'.cell? ⟨T, 0, none⟩ = some (hpV BA3)) (go_keep) (first
                    | (have _t := tok1; refine step_appL (by rfl) _ _ (by rfl) b0 (.slice none 0 0) [] (ORow.nil _ _) (by rfl) (.slice (some ⟨T, 2, none⟩) 4 4) (nI R) (hRw.out _ (by first | with_reducible exact Fr.refl _ _ | with_reducible exact (Fr.refl _ _).drew | with_reducible exact (Fr.refl _ _).drew.drew)) (by rfl) hle0.out hb6.out.1 ?_; intro v1 W1 hr1 f1 hn1; have ka1 : Calm w6 W1 := Fr.trans (by first | with_reducible exact Fr.refl _ _ | with_reducible exact (Fr.refl _ _).drew | with_reducible exact (Fr.refl _ _).drew.drew) (f1.mono (fun b _ h => (InB.nil b h).elim)); have u1 := ka1.cellAt hta6 id; replace hr1 := hid hr1; have hn1' : Hid (∀ b, InB v1 b → w6.heap.size ≤ b) := (fun b hb => (hn1 b hb).resolve_left (InB.nil b)); clear f1 hn1 tok1; have tok2 : True := trivial)
                    | (have _t := tok2; refine step_appL (by rfl) _ _ (by rfl) b0 v1 (nI R) hr1.out (by rfl) (.slice va vn vc) (nI told) (hrow6.out.calm ka1).row (by rfl) hle2.out (Nat.le_trans hb6.out.1 ka1.size) ?_; intro v2 W2 hr2 f2 hn2; have ka2 : Calm w6 W2 := ka1.join f2 (fun j hj h => by have := hn1'.out j h; omega); have u2 := ka2.cellAt hta6 id; replace hr2 := hid hr2; clear f2 hn2 tok2; have tok3 : True := trivial)
                    | (have _t := tok3; go_at_call 36; refine (hCn.out _ ka2 v2 hr2.out).mono ?_; rintro e w10 ⟨vn1, vs1, RA, ls, B92, rfl, p1, p2, p3, p4, p5, p6, p7⟩; have ka : Calm w6 w10 := ka2.trans p7; have u3 := ka.cellAt hta6 id))
                  all_goals
                    go_wp2_with fail
                    go_meet
                    exact ⟨vn1, vs1, RA, ls, rfl, rfl, rfl, p1, p2.see, p3, ka⟩
                case rest =>
                  obtain ⟨vn1, vs, RA, ls, rfl, rfl, rfl, p1, hsee0, p3, ka⟩ := hcut
                  have u3 := ka.cellAt hta6 id
                  have hrep := hT6.out.ha.rep
                  have hlv := hid (reach_live hrep hP3.out.ptrs hpR.out p1)
                  have hperm := Gath.all hrep hP3.out.tw.wa hold3 hgR.out hpR.out hP3.out.ptrs p1
                  have hsum := Gath.sum hrep hold3 hperm
                  have hroom : A3.room = 300 - ((tookC A3.cur : Nat) : Int) := by unfold HS.room; rw [hold3, hn300]; simp [owed]
                  have hle : tookC A3.cur ≤ 300 := by have := hrep.room; rw [hold3, hn300] at this; omega
                  obtain ⟨TK, hTK⟩ : ∃ TK, RA.map (fun x => (nowAt A3 x).took) = TK := ⟨_, rfl⟩
                  obtain ⟨N, hN⟩ : ∃ N, ls.length = N := ⟨_, rfl⟩
                  have hTN : TK.length = N := by rw [← hTK, ← hN]; have := congrArg List.length p3; simpa using this.symm
                  have hNl : N ≤ 1000000 := by rw [← hN]; exact (canon_few (s := A3) (rs := R ++ told) hrep hP3.out.ptrs hpR.out (addAll_nodup _ (by simp)) p1 p3).1
                  have htk : Hid (∀ j, j < N → ∃ m t : Nat, 3 ≤ m ∧ m ≤ 19 ∧ 3 + (ls.getD j default).nd.p + (ls.getD j default).nd.d = m ∧ rnd (m : Int) = (t : Int) ∧ TK.getD j 0 = t) := fun j hj => by
                    rw [← hTK]; exact took_at hrep hlv.out p3 (by rw [hN]; exact hj)
                  rw [hTK] at hsum
                  have hU : Hid (TK.sum = tookC A3.cur) := hsum
                  obtain ⟨U, hUe⟩ : ∃ U, tookC A3.cur = U := ⟨_, rfl⟩
                  rw [hUe] at hle hroom hsum
                  replace hU : Hid (TK.sum = U) := hsum
                  replace hroom := hid hroom
                  obtain ⟨aa, ac, hvn, hsee⟩ := hsee0
                  rw [hN] at hvn hsee
                  subst hvn
                  replace hsee := hid hsee
                  replace hRM := hid (fun W (cw : Calm wc W) => hRM.out W (ka.trans cw))
                  have hTk2 : Hid (TK.length = N) := hTN
                  have hT10 := hid (hT6.out.calm ka)
                  have hc10 : Hid (Calm w wc) := hc6.out.trans ka
                  clear p1 p3 hCn hRw hgR hpR hrep hlv hperm hsum hTK hN hTN hUe hpt hta6 hrow6
                  go_wp2_with fail
                  go_loopw [15, 16] (fun u x wr => ∃ j : Nat, j ≤ N ∧ x = .int .i64 j ∧ u = .int .i64 ((TK.take j).sum : Nat) ∧ Calm wc wr) (fun _ x _ => N - (intOf x).toNat)
                  case atStart => exact ⟨0, by omega, rfl, by simp, Fr.refl _ _⟩
                  case round =>
                    obtain ⟨j, hj, rfl, rfl, hcr⟩ := hrel
                    rcases Nat.lt_or_ge j N with hlt | hge
                    · obtain ⟨bN, oN, hea, hit⟩ := hsee.out j hlt
                      subst hea
                      have hit2 := hit.calm hcr
                      have d1 := hit2.c1
                      have d2 := hit2.c2
                      have d3 := hit2.c3
                      have d4 := hit2.c4
                      obtain ⟨m, t, m3, m19, em, et, eT⟩ := htk.out j hlt
                      have hs1 := sum_take (l := TK) (j := j) (by rw [hTk2.out]; exact hlt)
                      have hs2 := sum_take_le TK (j + 1)
                      rw [hU.out, hs1, eT] at hs2
                      rw [eT] at hs1
                      replace hs1 := hid hs1
                      obtain ⟨ND, hND⟩ : ∃ ND, (ls.getD j default).nd = ND := ⟨_, rfl⟩
                      rw [hND] at d1 d2 d3 d4 em
                      obtain ⟨SM, hSM⟩ : ∃ SM, (TK.take j).sum = SM := ⟨_, rfl⟩
                      rw [hSM] at hs2 ⊢
                      clear hit hit2 hND eT
                      have hs1' : Hid ((TK.take (j + 1)).sum = SM + t) := by show _ = _; rw [hs1.out, hSM]
                      have hcast : (3 : Int) + ND.p + ND.d = (m : Int) := by rw [← em]; push_cast; rfl
                      have hp16 : ND.p ≤ 16 := by omega
                      have hd16 : ND.d ≤ 16 := by omega
                      replace hcast := hid hcast
                      replace em := hid em
                      go_wp2_with fail
                      rw [hcast.out]
                      refine (round_yes m (by omega) (by omega) _).mono ?_
                      rintro e w5 ⟨rfl, c5⟩
                      rw [et]
                      have hc5 : Hid (Calm wc w5) := Fr.trans (hcr.alloc _) c5
                      clear d1 d2 d3 d4 c5 et hs1
                      go_wp2
                      go_roundw
                      case rel => exact ⟨j + 1, by omega, by go_num, by rw [hs1'.out]; go_num, hc5.out⟩
                      case measure => simp [intOf]; omega
                    · obtain rfl : j = N := by omega
                      have hs : (TK.take j).sum = U := by rw [List.take_of_length_le (by rw [hTk2.out]; exact Nat.le_refl _)]; exact hU.out
                      rw [hs]
                      clear hs
                      have t0 := hcr.cellAt u3 id
                      have hRm2 := hRM.out wr hcr
                      rw [hroom.out] at hRm2
                      replace hRm2 := hid hRm2
                      clear hRM u3
                      go_wp2_with fail
                      refine (hRm2.out).mono ?_
                      rintro e w7 ⟨rfl, c7⟩
                      have hT7 := hid ((hT10.out.calm hcr).calm c7)
                      have hc7 : Hid (Calm w w7) := (hc10.out.trans hcr).trans c7
                      clear hRm2 c7 t0
                      go_wp2
                      go_roundw
                      case rel => exact ⟨2, by omega, by go_num, σ, A3, B, R, S, BA3, BB', XA3, XB, hT7.out, hP3.out, hn300, hAB3, hBs3, hid3.out, hc7.out, hwb, fun _ => hmv3⟩
                      case measure => simp [intOf]
      · obtain rfl : m = 2 := by omega
        replace hT := hid hT
        replace hP := hid hP
        replace hσ := hid hσ
        go_wp2_with fail
        go_ret
        exact ⟨rfl, hc.below⟩

end Go.Proofs.Ytiomemdmhcdpbaa
