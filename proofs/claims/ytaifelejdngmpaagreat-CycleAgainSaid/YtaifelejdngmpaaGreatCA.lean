/- CycleAgain returns true: its walk. -/
import Derived.Test.YtaifelejdngmpaaGreatCycA
set_option linter.unusedSimpArgs false
set_option linter.unusedVariables false
namespace Go.Proofs.YtaifelejdngmpaaGreat
open Go.RowKit Go.Shelf


set_option maxRecDepth 100000 in
set_option maxHeartbeats 16000000 in
theorem cycleAgain_walk (v : Value) (l : List Op10) (hm : l.length ≤ maxLen) (w : World) (hr : RowK w v 8 (l.map Op10.cells)) (hl : ∀ o ∈ l, o.Ok) :
    Calls Tryz.prog 5 #[v] w fun e w' => e = .returned (.bool true) ∧ Below w.heap.size w w' := by
  obtain ⟨ra, rc, rfl, hrk⟩ := hr.cells
  obtain ⟨n, hn⟩ : ∃ n, l.length = n := ⟨_, rfl⟩
  rw [hn] at hm ⊢
  unfold maxLen at hm
  replace hrk := hid hrk
  replace hl := hid hl
  replace hn := hid hn
  have hmn : (n : Int) ≤ 9223372036854775807 := by omega
  replace hm := hid hm
  replace hmn := hid hmn
  clear hr
  go_enter Tryz.func5, Tryz.ntmps5
  go_wp2_with fail
  refine (awake11 _).mono ?_
  rintro e w0 ⟨rfl, c0⟩
  go_wp2_with fail
  refine (begin_yes _ 300 (by decide) (by decide)).mono ?_
  rintro e w1 ⟨T, BA, BB, XA, XB, rfl, hT, c1⟩
  have hta := hT.cellA
  go_wp2_with fail
  refine (cnew_yes _ BA.hp).mono ?_
  rintro e w2 ⟨rfl, hy, c2⟩
  have hI0 := hid (show CyK w w0.heap.size T w1.heap.size 300 0 w2 from ⟨id, _, _, _, _, BA, BB, XA, XB, CyT.start (hp := BA.hp) hT (c0.trans c1) c0.size hy c2, CyJ.start 300⟩)
  obtain ⟨b0, hb0⟩ : ∃ b, w0.heap.size = b := ⟨_, rfl⟩
  obtain ⟨c, hc⟩ : ∃ c, w1.heap.size = c := ⟨_, rfl⟩
  rw [hb0, hc] at hI0
  rw [hc]
  clear hT c0 c1 c2 hb0 hc hta hy
  go_upto_block 0 with fail
  go_cut [6] (fun s6 wx => ∃ k, k ≤ 30 ∧ CyK w b0 T c 300 k wx)
  case first =>
    go_wp2_with fail
    go_loopw [6] (fun i wr => ∃ k : Nat, k ≤ n ∧ k ≤ 30 ∧ i = .int .i64 k ∧ CyK w b0 T c 300 k wr) (fun i _ => 30 - (intOf i).toNat)
    case atStart => exact ⟨0, by omega, by omega, rfl, hI0.out⟩
    case round =>
      clear hI0
      obtain ⟨k, hk, hkM, rfl, hI⟩ := hrel
      by_cases hlt : k < n ∧ k < 30
      · obtain ⟨hlt, hltM⟩ := hlt
        obtain ⟨σ, A, B, R, S, BA, BB, XA, XB, hT, hJ⟩ := hI
        have hkl : k < l.length := by rw [hn.out]; exact hlt
        obtain ⟨b, off, rfl, hcell⟩ := hrk.out k l[k] (by simp [hkl])
        have hok := hl.out l[k] (List.getElem_mem hkl)
        have g0 := hT.calm.cellAt (p := ⟨b, off + k * 8 + 0, none⟩) (hcell 0 _ rfl) id
        have g1 := hT.calm.cellAt (p := ⟨b, off + k * 8 + 1, none⟩) (hcell 1 _ rfl) id
        have g2 := hT.calm.cellAt (p := ⟨b, off + k * 8 + 2, none⟩) (hcell 2 _ rfl) id
        have g3 := hT.calm.cellAt (p := ⟨b, off + k * 8 + 3, none⟩) (hcell 3 _ rfl) id
        have g4 := hT.calm.cellAt (p := ⟨b, off + k * 8 + 4, none⟩) (hcell 4 _ rfl) id
        have g5 := hT.calm.cellAt (p := ⟨b, off + k * 8 + 5, none⟩) (hcell 5 _ rfl) id
        have g6 := hT.calm.cellAt (p := ⟨b, off + k * 8 + 6, none⟩) (hcell 6 _ rfl) id
        have g7 := hT.calm.cellAt (p := ⟨b, off + k * 8 + 7, none⟩) (hcell 7 _ rfl) id
        rw [Nat.add_zero] at g0
        clear hcell
        generalize l[k] = o at *
        obtain ⟨K, hK⟩ : ∃ K, pk o.kd 9 = K := ⟨_, rfl⟩
        have hKr := pk_range o.kd (n := 9) (by omega)
        rw [hK] at hKr
        have qk := hid (fun W => pick11 o.kd 9 W hok.1 (by omega))
        rw [hK] at qk
        obtain ⟨okd, oka, okb, oki, okn, ok0, ok1, ok2⟩ := hok
        have hok' : Hid (({ o with kd := K } : Op10).Ok) := ⟨(show I64 K from ⟨by omega, by omega⟩), oka, okb, oki, okn, ok0, ok1, ok2⟩
        obtain ⟨g9, hg9⟩ : ∃ g, wr.heap.size = g := ⟨_, rfl⟩
        have hD := hid (fun W (cw : Calm wr W) => doesC_is (hT.calmR cw) hJ.pr ⟨by have := hJ.ser; have := hJ.bs; omega, by have := hJ.bs; omega⟩ { o with kd := K } hok'.out)
        have hpk : pk K 13 < 9 := by unfold pk; rw [if_neg (by omega), Int.emod_eq_of_lt (by omega) (by omega)]; omega
        replace hT := hid hT
        replace hJ := hid hJ
        replace hpk := hid hpk
        clear okd oka okb oki okn ok0 ok1 ok2
        go_wp2_with fail
        try rw [hg9]
        refine (qk.out _).mono ?_
        rintro e w2 ⟨rfl, rfl⟩
        clear qk
        go_wp2_with fail
        refine (hD.out _ ((Fr.refl _ _).alloc _)).mono ?_
        rintro e w3 ⟨rfl, σ2, BA2, BB2, A2, B2, XA2, XB2, R2, S2, hT2, e1, hP2, hn2, hg2, hm2⟩
        have hI2 : Hid (CyK w b0 T c 300 (k + 1) w3) := ⟨σ2, A2, B2, R2, S2, BA2, BB2, XA2, XB2, hT2, hJ.out.does hP2 hn2 hg2 (hm2 hpk.out)⟩
        clear hD hT2 hP2 hn2 hg2 hm2 hT hJ g0 g1 g2 g3 g4 g5 g6 g7
        go_wp2
        go_roundw
        case rel => exact ⟨k + 1, by omega, by omega, by go_num, hI2.out⟩
        case measure => simp [intOf]; omega
      · replace hI := hid hI
        rcases Nat.lt_or_ge k n with hlt2 | hge2
        · have hgeM : 30 ≤ k := by omega
          clear hlt
          go_wp2_with fail
          go_meet
          exact ⟨k, hkM, hI.out⟩
        · clear hlt
          go_wp2_with fail
          go_meet
          exact ⟨k, hkM, hI.out⟩
  case rest =>
    clear hI0
    obtain ⟨k0, hk0, σ, A, B, R, S, BA, BB, XA, XB, hT, hJ⟩ := hcut
    have hI1 : Hid (AgI w b0 T c 0 0 wc) := ⟨σ, A, B, R, S, BA, BB, XA, XB, hT, hJ.pr, hJ.n, hJ.ser, by have := hJ.bs; omega, hJ.id_, by rw [hJ.mv]; rfl, fun h => by omega, fun h => by omega⟩
    clear hT hJ hk0
    go_wp2_with fail
    go_loopw [8, 9] (fun x8 x9 wz => ∃ (m : Nat) (RM : Int), m ≤ 3 ∧ x9 = .int .i64 m ∧ x8 = .int .i64 RM ∧ AgI w b0 T c m RM wz) (fun _ x9 _ => 3 - (intOf x9).toNat)
    case atStart => exact ⟨0, 0, by omega, rfl, rfl, hI1.out⟩
    case round =>
      clear hI1
      obtain ⟨m, RM, hm3, rfl, rfl, σ, A, B, R, S, BA, BB, XA, XB, hT, hP, hn, hs, hbs, hi, hmv, hfc, hw2⟩ := hrel
      rcases Nat.lt_or_ge m 3 with hm | hm
      · have hSt := hid (startR_is hT hP hmv (fun p hp => by cases hp) (by simp))
        have hTs : T < wr.heap.size := hT.tw.cs.lt (by simp [twC])
        have hold := hid (hT.tw.ha.rep.still hmv)
        have hwf := hid (hP.flip hT.tw.ha.rep hmv).tw.wa
        have hrA := hid hT.tw.ha.rep
        have hlR : Hid (R.length = 4 ∧ S.length = 4) := ⟨hP.rg.lr, hP.rg.ls⟩
        replace hP := hid hP
        replace hfc := hid hfc
        replace hw2 := hid hw2
        replace hi := hid hi
        replace hs := hid hs
        clear hT
        go_wp2_with fail
        refine hSt.out.mono ?_
        rintro e w3 ⟨u, A1, A2, l1, rd1, BA3, XA3, rv3, X1, rfl, hT3, hu, hua, hrf, g1, g2, hl1, hph, hn2, hs2⟩
        obtain ⟨ua, uc, rfl⟩ := hu.sliceN (n := 4) (by simp [hl1])
        obtain ⟨rfl, rfl⟩ := g2.of_nil
        have hfc2 : Hid (1 ≤ m → FinC A2 B S) := fun h => ((hfc.out h).keep (flip_places hold.out) rfl).keep (g1.refk hrf hwf.out).1 g1.same.2.2.2.2.2.2.1
        have hwk2 : Hid (m = 2 → WkClo A2 B S) := fun h => ((hw2.out h).1.keep (fun x u hu => ⟨x, u, (flip_live hold.out).1 hu, rfl⟩)).keep (g1.liv hrf)
        have hn300 : Hid (A2.n = 300) := hn2.trans hn
        have hser : Hid (A2.ser = B.ser) := hs2.trans hs.out
        have hT3' : Hid (CyT w b0 T c BA3 BB A2 B XA3 XB (l1.take 0 ++ R.drop 0) S 1 rv3 (.slice none 0 0) [] [] w3) := by rw [List.take_zero, List.drop_zero, List.nil_append]; exact hT3
        have hph' : Hid (PhS σ A2 B l1 S 4 l1 0) := by have := hph; rw [List.nil_append, List.append_nil] at this; exact this
        replace hu := hid hu
        replace hl1 := hid hl1
        obtain ⟨wsz, hwsz⟩ : ∃ z, wr.heap.size = z := ⟨_, rfl⟩
        rw [hwsz] at hTs hu
        clear hSt hT3 hua hrf g1 g2 hph hn2 hs2 hfc hwf
        go_wp2_with fail
        go_loopw [12] (fun x wz => ∃ j : Nat, j ≤ 4 ∧ x = .int .i64 j ∧ CyT w b0 T c BA3 BB A2 B XA3 XB (l1.take j ++ R.drop j) S 1 rv3 (.slice none 0 0) [] [] wz ∧ ORow wz wsz (.slice ua 4 uc) (nI l1)) (fun x _ => 4 - (intOf x).toNat)
        case atStart => exact ⟨0, by omega, rfl, hT3'.out, hu.out⟩
        case round =>
          clear hT3' hu
          obtain ⟨j, hj, rfl, hTj, huj⟩ := hrel
          rcases Nat.lt_or_ge j 4 with hj4 | hj4
          · obtain ⟨gv, gc, hv, hgb, hgo⟩ := huj.get (k := j) (by simp [hl1.out]; exact hj4)
            injection hv with hv1 hv2 hv3
            subst hv1
            have hjl : j < l1.length := by rw [hl1.out]; exact hj4
            rw [show (nI l1).getD j 0 = ((l1.getD j 0 : Nat) : Int) by simp [List.getD, hjl]] at hgo
            have hlj : (l1.take j ++ R.drop j).length = 4 ∧ S.length = 4 := ⟨by have := hl1.out; have := hlR.out.1; simp; omega, hlR.out.2⟩
            have hyT := hTj.tw.cellR hlj hj4
            have hyA := hTj.tw.cellA
            have hst := hid (hTj.copy hj4 hl1.out hlR.out.1 hlR.out.2)
            have hur : Hid (ORow (wr.setCell ⟨T, 2 + j, none⟩ (.int .i64 (l1.getD j 0 : Nat))) wsz (.slice (some ⟨gv, 0, none⟩) 4 uc) (nI l1)) := huj.frB ((Fr.refl (fun k => k = T) wr).setCell (p := ⟨T, 2 + j, none⟩) (.inl rfl) _) (fun b hb (e : b = T) => by have := (huj.lt hb).1; omega)
            have z0 := hgo.1
            have z1 := hyT.1
            have z2 := hyT.2
            generalize l1.getD j 0 = q at *
            generalize (l1.take j ++ R.drop j).getD j 0 = q0 at *
            clear hTj huj hgo hyT hv2 hv3 hlj
            go_wp2_with fail
            go_region
            all_goals
              go_wp2
              go_roundw
              case rel => exact ⟨j + 1, by omega, by go_num, hst.out.calmR ((Fr.refl _ _).drew), hur.out.calm ((Fr.refl _ _).drew)⟩
              case measure => simp [intOf]; omega
          · obtain rfl : j = 4 := by omega
            have hS0 : Hid (AgS w b0 T c m σ B BB XB S l1 0 false wr) := ⟨A2, BA3, XA3, 1, rv3, .slice none 0 0, [], [], 0, by
              rw [List.take_of_length_le (by rw [hl1.out]; exact Nat.le_refl _), List.drop_eq_nil_of_le (by rw [hlR.out.1]; exact Nat.le_refl _), List.append_nil] at hTj
              exact hTj, hn300.out, hser.out, by simp, by simp, fun _ => rfl, hwk2.out, .inl ⟨rfl, rfl, hph'.out, rfl, rfl, rfl, hfc2.out⟩⟩
            clear hTj huj hph' hn300 hser hwk2 hfc2
            rw [show ((4 : Nat) : Int) = 4 from rfl]
            go_wp2_with fail
            go_loopw [13, 14] (fun d x wz => ∃ s done, x = .int .i64 (s : Nat) ∧ d = .bool done ∧ AgS w b0 T c m σ B BB XB S l1 s done wz) (fun _ x _ => 200 - (intOf x).toNat)
            case atStart => exact ⟨0, false, rfl, rfl, hS0.out⟩
            case round =>
              clear hS0
              obtain ⟨s, done, rfl, rfl, hS⟩ := hrel
              have hs4 := hS.lt
              have hs5 : s < 200 := by omega
              cases done
              · have hSs := hid (hS.step hbs hi.out)
                clear hS
                go_wp2_with fail
                refine hSs.out.mono ?_
                rintro e w5 ⟨d1, rfl, hS1⟩
                replace hS1 := hid hS1
                clear hSs
                go_wp2
                go_roundw
                case rel => exact ⟨s + 1, d1, by go_num, rfl, hS1.out⟩
                case measure => simp [intOf]; omega
              · obtain ⟨A5, BA5, XA5, ph, rv5, lv5, rd5, ls5, k5, hT5, hn5, hser5, hrd5, hls5, hrm5, hwk5, hc5⟩ := hS
                obtain ⟨rfl, _, hP5, hga5, hold5, hmv5, _, hfc5, hls05, hcl5⟩ : ph = 0 ∧ _ ∧ Pair σ A5 B l1 S 4 ∧ Gath A5 (l1 ++ rd5) ∧ A5.old = [] ∧ A5.mv = false ∧ s ≤ A5.cur.length + 2 ∧ FinC A5 B S ∧ (m = 2 → ls5 = []) ∧ (1 ≤ m → ∀ n, n ∈ Sers A5 ↔ Clo B S n) := by
                  rcases hc5 with ⟨_, e, _⟩ | ⟨_, e, _⟩ | h
                  · cases e
                  · cases e
                  · exact h
                have hroom : A5.room = 300 - ((tookC A5.cur : Nat) : Int) := by unfold HS.room; rw [hold5, hn5]; simp [owed]
                have hle5 : Hid (tookC A5.cur ≤ 300) := by have := hT5.tw.ha.rep.room; rw [hold5, hn5] at this; show _ ≤ _; omega
                have hwk6 : Hid (m + 1 = 2 → WkClo A5 B S) := fun h => WkClo.of hP5 hser5 hi.out hold5 (fun x o ho => (hcl5 (by omega) _).1 (List.mem_map.2 ⟨_, ho, rfl⟩)) (fun x o h => (hT5.tw.ha.rep.cur_ok h).1)
                have hRM : Hid (m = 2 → RM = 300 - ((tookC A5.cur : Nat) : Int)) := fun h => by
                  obtain ⟨_, h2, h3⟩ := hw2.out h
                  rw [h3, tookC_eq hP.out hs.out hi.out hP5 hser5 hi.out hrA.out hT5.tw.ha.rep h2 (hcl5 (by omega))]
                obtain ⟨L, hL5⟩ : ∃ L, rd5.length = L := ⟨_, rfl⟩
                obtain ⟨M, hM5⟩ : ∃ M, ls5.length = M := ⟨_, rfl⟩
                have hL : Hid (1 ≤ m → L = 0) := fun h => by rw [← hL5, hrm5 h]; rfl
                have hM : Hid (m = 2 → M = 0) := fun h => by rw [← hM5, hls05 h]; rfl
                obtain ⟨U, hU⟩ : ∃ U, tookC A5.cur = U := ⟨_, rfl⟩
                rw [hU] at hroom hle5 hRM
                have hEnd : Hid (∀ W, CyT w b0 T c BA5 BB A5 B XA5 XB l1 S 0 (.slice none 0 0) (.slice none 0 0) [] [] W → AgI w b0 T c (m + 1) (300 - (U : Int)) W) := fun W h => ⟨σ, A5, B, l1, S, BA5, BB, XA5, XB, h, hP5, hn5, hser5, hbs, hi.out, hmv5, fun _ => hfc5, fun h => ⟨hwk6.out h, hcl5 (by omega), by rw [hU]⟩⟩
                have hRd := hid (ready_is hT5.cy)
                obtain ⟨ra5, rc5, hrv5⟩ := hT5.cy.r.sliceN (n := L) (by simp [hL5])
                obtain ⟨la5, lc5, hlv5⟩ := hT5.cy.l.sliceN (n := M) (by simp [hM5])
                rw [hrv5] at hRd
                have hAlk := hid (fun W (t : TwAt W (fun j => b0 ≤ j) T BA5 BB A5 B XA5 XB l1 S) => alike_is t hP5 hi.out)
                replace hT5 := hid hT5
                clear hP5 hga5 hc5 hls5 hfc5 hcl5 hrd5 hold5 hmv5 hrm5 hwk5 hls05 hwk6 hw2 hP hrA hs hold hn5 hser5 hL5 hM5
                go_wp2_with fail
                refine hRd.out.mono ?_
                rintro e w6 ⟨rfl, hcy6, hr6, f6⟩
                have hT6 := hT5.out.own f6 hcy6 (fun j hj => by
                  rcases hj with hj | hj | hj
                  · exact .inl hj
                  · exact (InB.nil _ hj).elim
                  · exact .inr (.inr hj))
                have hLs := hid (lost_is hT6.cy)
                rw [hlv5] at hLs
                replace hT6 := hid hT6
                clear hRd hcy6 hr6 f6 hT5
                go_wp2_with fail
                refine hLs.out.mono ?_
                rintro e w7 ⟨rfl, hcy7, hr7, f7⟩
                have hT7 := hT6.out.own f7 hcy7 (fun j hj => by
                  rcases hj with hj | hj | hj
                  · exact .inl hj
                  · exact (InB.nil _ hj).elim
                  · exact (InB.nil _ hj).elim)
                have hAl := hid (hAlk.out w7 hT7.tw)
                have hta7 := hT7.tw.cellA
                have hRm := hid (fun W (cw : Calm w7 W) => room_is (hT7.tw.ha.calm cw))
                rw [hroom] at hRm
                replace hT7 := hid hT7
                clear hLs hcy7 hr7 f7 hT6 hAlk hroom hU hrv5 hlv5
                have hle6 := hle5.out
                have hm012 : m = 0 ∨ m = 1 ∨ m = 2 := by omega
                rcases hm012 with rfl | rfl | rfl
                · skip
                  go_wp2_with fail
                  refine (hAl.out).mono ?_
                  rintro e w8 ⟨rfl, c8⟩
                  have hT8 := hid (hT7.out.calmR c8)
                  have hta8 := c8.cellAt hta7 id
                  have hRm2 := hid (hRm.out w8 c8)
                  go_wp2_with fail
                  refine (hRm2.out).mono ?_
                  rintro e w10 ⟨rfl, c10⟩
                  have hI3 := hid (hEnd.out w10 (hT8.out.calmR c10))
                  clear hAl hT8 hT7 hRm hRm2 hEnd
                  go_wp2
                  go_roundw
                  case rel => exact ⟨1, _, by omega, by go_num, rfl, hI3.out⟩
                  case measure => simp [intOf]
                · skip
                  have hL0 : L = 0 := hL.out (by omega)
                  subst hL0
                  go_wp2_with fail
                  refine (hAl.out).mono ?_
                  rintro e w8 ⟨rfl, c8⟩
                  have hT8 := hid (hT7.out.calmR c8)
                  have hta8 := c8.cellAt hta7 id
                  have hRm2 := hid (hRm.out w8 c8)
                  go_wp2_with fail
                  refine (hRm2.out).mono ?_
                  rintro e w10 ⟨rfl, c10⟩
                  have hI3 := hid (hEnd.out w10 (hT8.out.calmR c10))
                  clear hAl hT8 hT7 hRm hRm2 hEnd
                  go_wp2
                  go_roundw
                  case rel => exact ⟨2, _, by omega, by go_num, rfl, hI3.out⟩
                  case measure => simp [intOf]
                · skip
                  have hL0 : L = 0 := hL.out (by omega)
                  have hM0 : M = 0 := hM.out rfl
                  have hRe := hRM.out rfl
                  subst hL0
                  subst hM0
                  subst hRe
                  go_wp2_with fail
                  refine (hAl.out).mono ?_
                  rintro e w8 ⟨rfl, c8⟩
                  have hT8 := hid (hT7.out.calmR c8)
                  have hta8 := c8.cellAt hta7 id
                  have hRm1 := hid (hRm.out w8 c8)
                  go_wp2_with fail
                  refine (hRm1.out).mono ?_
                  rintro e w9 ⟨rfl, c9⟩
                  have hta9 := c9.cellAt hta8 id
                  have hRm2 := hid (hRm.out w9 (c8.trans c9))
                  go_wp2_with fail
                  refine (hRm2.out).mono ?_
                  rintro e w10 ⟨rfl, c10⟩
                  have hI3 := hid (hEnd.out w10 ((hT8.out.calmR c9).calmR c10))
                  clear hAl hT8 hT7 hRm hRm2 hEnd
                  go_wp2
                  go_roundw
                  case rel => exact ⟨3, _, by omega, by go_num, rfl, hI3.out⟩
                  case measure => simp [intOf]
      · obtain rfl : m = 3 := by omega
        have hcx := hid hT.calm
        clear hT hP hw2 hfc
        go_wp2_with fail
        go_ret
        exact ⟨rfl, (show Calm w wr from hcx.out).below⟩

end Go.Proofs.YtaifelejdngmpaaGreat
