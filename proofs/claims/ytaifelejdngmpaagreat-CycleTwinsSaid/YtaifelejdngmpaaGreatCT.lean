/- CycleTwins returns true: its walk. -/
import Derived.Test.YtaifelejdngmpaaGreatCycI
set_option linter.unusedSimpArgs false
set_option linter.unusedVariables false
namespace Go.Proofs.YtaifelejdngmpaaGreat
open Go.RowKit Go.Shelf


set_option maxRecDepth 100000 in
set_option maxHeartbeats 16000000 in
theorem cycleTwins_walk (v : Value) (l : List Op10) (hm : l.length ≤ maxLen) (w : World) (hr : RowK w v 8 (l.map Op10.cells)) (hl : ∀ o ∈ l, o.Ok) :
    Calls Tryz.prog 3 #[v] w fun e w' => e = .returned (.bool true) ∧ Below w.heap.size w w' := by
  obtain ⟨ra, rc, rfl, hrk⟩ := hr.cells
  obtain ⟨n, hn⟩ : ∃ n, l.length = n := ⟨_, rfl⟩
  rw [hn] at hm ⊢
  unfold maxLen at hm
  replace hrk := hid hrk
  replace hl := hid hl
  replace hn := hid hn
  have hmn : (n : Int) ≤ 9223372036854775807 := by omega
  replace hm := hid hm
  replace hmn := hid hmn
  clear hr
  go_enter Tryz.func3, Tryz.ntmps3
  go_wp2_with fail
  refine (awake11 _).mono ?_
  rintro e w0 ⟨rfl, c0⟩
  go_wp2_with fail
  refine (begin_yes _ 150 (by decide) (by decide)).mono ?_
  rintro e w1 ⟨T, BA, BB, XA, XB, rfl, hT, c1⟩
  have hta := hT.cellA
  go_wp2_with fail
  refine (cnew_yes _ BA.hp).mono ?_
  rintro e w2 ⟨rfl, hy, c2⟩
  have hI0 := hid (show CyI w w0.heap.size T w1.heap.size 150 0 w2 from ⟨id, _, _, _, _, BA, BB, XA, XB, 0, _, _, [], [], CyT.start (hp := BA.hp) hT (c0.trans c1) c0.size hy c2, CyJ.start 150⟩)
  obtain ⟨b0, hb0⟩ : ∃ b, w0.heap.size = b := ⟨_, rfl⟩
  obtain ⟨c, hc⟩ : ∃ c, w1.heap.size = c := ⟨_, rfl⟩
  rw [hb0, hc] at hI0
  rw [hc]
  clear hT c0 c1 c2 hb0 hc hta hy
  go_wp2_with fail
  go_loopw [6] (fun i wr => ∃ k : Nat, k ≤ n ∧ k ≤ 60 ∧ i = .int .i64 k ∧ CyI w b0 T c 150 k wr) (fun i _ => 60 - (intOf i).toNat)
  case atStart => exact ⟨0, by omega, by omega, rfl, hI0.out⟩
  case round =>
    clear hI0
    obtain ⟨k, hk, hk60, rfl, hI⟩ := hrel
    by_cases hlt : k < n ∧ k < 60
    · obtain ⟨hlt, hlt60⟩ := hlt
      have hI' := hid hI
      obtain ⟨σ, A, B, R, S, BA, BB, XA, XB, ph, rv, lv, rd, ls, hT, hJ⟩ := hI
      have hkl : k < l.length := by rw [hn.out]; exact hlt
      obtain ⟨b, off, rfl, hcell⟩ := hrk.out k l[k] (by simp [hkl])
      have hok := hl.out l[k] (List.getElem_mem hkl)
      have g0 := hT.calm.cellAt (p := ⟨b, off + k * 8 + 0, none⟩) (hcell 0 _ rfl) id
      have g1 := hT.calm.cellAt (p := ⟨b, off + k * 8 + 1, none⟩) (hcell 1 _ rfl) id
      have g2 := hT.calm.cellAt (p := ⟨b, off + k * 8 + 2, none⟩) (hcell 2 _ rfl) id
      have g3 := hT.calm.cellAt (p := ⟨b, off + k * 8 + 3, none⟩) (hcell 3 _ rfl) id
      have g4 := hT.calm.cellAt (p := ⟨b, off + k * 8 + 4, none⟩) (hcell 4 _ rfl) id
      have g5 := hT.calm.cellAt (p := ⟨b, off + k * 8 + 5, none⟩) (hcell 5 _ rfl) id
      have g6 := hT.calm.cellAt (p := ⟨b, off + k * 8 + 6, none⟩) (hcell 6 _ rfl) id
      have g7 := hT.calm.cellAt (p := ⟨b, off + k * 8 + 7, none⟩) (hcell 7 _ rfl) id
      rw [Nat.add_zero] at g0
      clear hcell
      generalize l[k] = o at *
      have hpk := hid (fun W => pick11 o.kd 13 W hok.1 (by omega))
      have hrg := pk_range o.kd (n := 13) (by omega)
      have cw := (Fr.refl (fun _ => False) wr).alloc (.cells #[.int .i64 o.kd, .int .i64 o.a, .int .i64 o.b, .int .i64 o.i, .int .i64 o.n, .int .i64 o.s0, .int .i64 o.s1, .int .i64 o.s2] 34)
      have o8 := OwnL.new wr [.int .i64 o.kd, .int .i64 o.a, .int .i64 o.b, .int .i64 o.i, .int .i64 o.n, .int .i64 o.s0, .int .i64 o.s1, .int .i64 o.s2] 34
      go_wp2_with fail
      refine (hpk.out _).mono ?_
      rintro e w2 ⟨rfl, rfl⟩
      obtain ⟨K, hK⟩ : ∃ K, pk o.kd 13 = K := ⟨_, rfl⟩
      rw [hK] at hrg ⊢
      have hTW := hid (hT.calmR cw)
      have hJ' := hid hJ
      replace hK := hid hK
      replace o8 := hid o8
      have hok' := hid hok
      obtain ⟨g9, hg9⟩ : ∃ g, wr.heap.size = g := ⟨_, rfl⟩
      rw [hg9] at o8 ⊢
      generalize World.alloc wr _ = w2 at *
      clear g0 g1 g2 g3 g4 g5 g6 g7 hT hJ hok hpk cw hI' hrk hg9
      obtain ⟨hrg0, hrg1⟩ := hrg
      go_upto_block 2 with fail
      go_cut [11] (fun s11 wx => CyI w b0 T c 150 (k + 1) wx)
      case first =>
        rcases Int.lt_or_le K 9 with hK9 | hK9
        · have hD := hid (doesC_is hTW.out hJ'.out.pr ⟨by have := hJ'.out.ser; have := hJ'.out.bs; omega, by have := hJ'.out.bs; omega⟩ o hok'.out)
          have y0 := (o8.out 0 _ rfl).1
          have y1 := (o8.out 1 _ rfl).1
          have y2 := (o8.out 2 _ rfl).1
          have y3 := (o8.out 3 _ rfl).1
          have y4 := (o8.out 4 _ rfl).1
          have y5 := (o8.out 5 _ rfl).1
          have y6 := (o8.out 6 _ rfl).1
          have y7 := (o8.out 7 _ rfl).1
          go_wp2_with fail
          refine (hD.out).mono ?_
          rintro e w3 ⟨rfl, σ2, BA2, BB2, A2, B2, XA2, XB2, R2, S2, hT2, e1, hP2, hn2, hg2, hm2⟩
          have hI2 : Hid (CyI w b0 T c 150 (k + 1) w3) := ⟨σ2, A2, B2, R2, S2, BA2, BB2, XA2, XB2, ph, rv, lv, rd, ls, hT2, hJ'.out.does hP2 hn2 hg2 (hm2 (by rw [hK.out]; exact hK9))⟩
          clear hD hT2 hP2 hn2 hg2 hm2 hTW hJ' y0 y1 y2 y3 y4 y5 y6 y7
          go_wp2_with fail
          go_meet
          exact hI2.out
        · by_cases hK10 : K = 9
          · subst hK10
            by_cases hph : ph = 0
            · subst hph
              have hSt := hid (startR_is hTW.out hJ'.out.pr (by rw [hJ'.out.mv]; rfl) hJ'.out.rdl (by have := hJ'.out.rdn; omega))
              have hTs : T < w2.heap.size := hTW.out.tw.cs.lt (by simp [twC])
              go_wp2_with fail
              refine hSt.out.mono ?_
              rintro e w3 ⟨u, A1, A2, l1, rd1, BA3, XA3, rv3, X1, rfl, hT3, hu, hua, hrf, g1, g2, hl1, hph, hn2, hs2⟩
              obtain ⟨ua, uc, rfl⟩ := hu.sliceN (n := 4) (by simp [hl1])
              have hJ2 : Hid (CyJ σ A2 B l1 S 1 rd1 ls 150 (k + 1)) := by
                have hJ := hJ'.out
                have h4 := hJ.bs; have h5 := hJ.rdn; have h6 := hJ.lsn
                obtain ⟨X2, hr2⟩ := g1.rep hrf
                exact ⟨hph.pr, hn2.trans hJ.n, hs2.trans hJ.ser, by omega, hJ.id_, hph.mv, by omega, by rw [g2.len]; omega, by omega, g2.le hr2 hJ.rdl⟩
              have hlR : Hid (R.length = 4 ∧ S.length = 4) := ⟨hJ'.out.pr.rg.lr, hJ'.out.pr.rg.ls⟩
              have hT3' : Hid (CyT w b0 T c BA3 BB A2 B XA3 XB (l1.take 0 ++ R.drop 0) S 1 rv3 lv rd1 ls w3) := by rw [List.take_zero, List.drop_zero, List.nil_append]; exact hT3
              replace hu := hid hu
              replace hl1 := hid hl1
              obtain ⟨wsz, hwsz⟩ : ∃ z, w2.heap.size = z := ⟨_, rfl⟩
              rw [hwsz] at hTs hu
              clear hSt hT3 hua hrf g1 g2 hph hn2 hs2 hTW hJ' o8
              go_wp2_with fail
              go_loopw [11] (fun x wz => ∃ j : Nat, j ≤ 4 ∧ x = .int .i64 j ∧ CyT w b0 T c BA3 BB A2 B XA3 XB (l1.take j ++ R.drop j) S 1 rv3 lv rd1 ls wz ∧ ORow wz wsz (.slice ua 4 uc) (nI l1)) (fun x _ => 4 - (intOf x).toNat)
              case atStart => exact ⟨0, by omega, rfl, hT3'.out, hu.out⟩
              case round =>
                clear hT3' hu
                obtain ⟨j, hj, rfl, hTj, huj⟩ := hrel
                rcases Nat.lt_or_ge j 4 with hj4 | hj4
                · obtain ⟨gv, gc, hv, hgb, hgo⟩ := huj.get (k := j) (by simp [hl1.out]; exact hj4)
                  injection hv with hv1 hv2 hv3
                  subst hv1
                  have hjl : j < l1.length := by rw [hl1.out]; exact hj4
                  rw [show (nI l1).getD j 0 = ((l1.getD j 0 : Nat) : Int) by simp [List.getD, hjl]] at hgo
                  have hlj : (l1.take j ++ R.drop j).length = 4 ∧ S.length = 4 := ⟨by have := hl1.out; have := hlR.out.1; simp; omega, hlR.out.2⟩
                  have hyT := hTj.tw.cellR hlj hj4
                  have hyA := hTj.tw.cellA
                  have hst : Hid (CyT w b0 T c BA3 BB A2 B XA3 XB (l1.take (j + 1) ++ R.drop (j + 1)) S 1 rv3 lv rd1 ls (wr.setCell ⟨T, 2 + j, none⟩ (.int .i64 (l1.getD j 0 : Nat)))) := by
                    have h1 := hTj.setR (v := l1.getD j 0) hj4 hlj
                    have e2 : (l1.take j ++ R.drop j).set j (l1.getD j 0) = l1.take (j + 1) ++ R.drop (j + 1) := by
                      have hjR : j < R.length := by rw [hlR.out.1]; exact hj4
                      have hlt : (l1.take j).length = j := by rw [List.length_take]; omega
                      rw [List.drop_eq_getElem_cons hjR, List.set_append_right _ _ (by omega), hlt, Nat.sub_self, List.set_cons_zero, take_succ_getD l1 hjl, List.append_assoc]
                      rfl
                    rw [e2] at h1
                    exact h1
                  have hur : Hid (ORow (wr.setCell ⟨T, 2 + j, none⟩ (.int .i64 (l1.getD j 0 : Nat))) wsz (.slice (some ⟨gv, 0, none⟩) 4 uc) (nI l1)) := huj.frB ((Fr.refl (fun k => k = T) wr).setCell (p := ⟨T, 2 + j, none⟩) (.inl rfl) _) (fun b hb (e : b = T) => by have := (huj.lt hb).1; omega)
                  have z0 := hgo.1
                  have z1 := hyT.1
                  have z2 := hyT.2
                  generalize l1.getD j 0 = q at *
                  generalize (l1.take j ++ R.drop j).getD j 0 = q0 at *
                  clear hTj huj hgo hyT hv2 hv3 hlj
                  go_wp2_with fail
                  go_region
                  all_goals
                    go_wp2
                    go_roundw
                    case rel => exact ⟨j + 1, by omega, by go_num, hst.out.calmR ((Fr.refl _ _).drew), hur.out.calm ((Fr.refl _ _).drew)⟩
                    case measure => simp [intOf]; omega
                · obtain rfl : j = 4 := by omega
                  have hI2 : Hid (CyI w b0 T c 150 (k + 1) wr) := ⟨σ, A2, B, l1, S, BA3, BB, XA3, XB, 1, rv3, lv, rd1, ls, by
                    rw [List.take_of_length_le (by rw [hl1.out]; exact Nat.le_refl _), List.drop_eq_nil_of_le (by rw [hlR.out.1]; exact Nat.le_refl _), List.append_nil] at hTj
                    exact hTj, hJ2.out⟩
                  clear hTj huj
                  go_wp2_with fail
                  go_meet
                  exact hI2.out
            · have hSt := hid (start_no hTW.out.cy hph (.slice (some ⟨T, 2, none⟩) 4 4))
              have hI2 : Hid (CyI w b0 T c 150 (k + 1) w2) := ⟨σ, A, B, R, S, BA, BB, XA, XB, ph, rv, lv, rd, ls, hTW.out, hJ'.out.more⟩
              go_wp2_with fail
              refine (hSt.out).mono ?_
              rintro e w3 ⟨rfl, rfl⟩
              clear hSt hTW hJ' o8
              go_wp2_with fail
              go_loopw [11] (fun x wz => x = .int .i64 0 ∧ wz = w2) (fun _ _ => 0)
              case atStart => exact ⟨rfl, rfl⟩
              case round =>
                obtain ⟨rfl, rfl⟩ := hrel
                go_wp2_with fail
                go_meet
                exact hI2.out
          · have hS := hid (CyI.step (⟨σ, A, B, R, S, BA, BB, XA, XB, ph, rv, lv, rd, ls, hTW.out, hJ'.out⟩ : CyI w b0 T c 150 k w2) hk60)
            have hKn : ¬ K < 9 := by omega
            clear hTW hJ' o8
            go_wp2_with fail
            refine hS.out.mono ?_
            rintro e w3 ⟨⟨bb, rfl⟩, hI2⟩
            replace hI2 := hid hI2
            go_wp2_with fail
            go_meet
            exact hI2.out
      case rest =>
        clear hTW hJ' o8 hok' hK
        obtain ⟨σ, A, B, R, S, BA, BB, XA, XB, ph, rv, lv, rd, ls, hT, hJ⟩ := hcut
        have hAl := hid (alike_is hT.tw hJ.pr hJ.id_)
        replace hT := hid hT
        replace hJ := hid hJ
        go_wp2_with fail
        refine (hAl.out).mono ?_
        rintro e w3 ⟨rfl, c3⟩
        have hI2 : Hid (CyI w b0 T c 150 (k + 1) w3) := ⟨σ, A, B, R, S, BA, BB, XA, XB, ph, rv, lv, rd, ls, hT.out.calmR c3, hJ.out⟩
        clear hAl c3 hT hJ
        go_wp2
        go_roundw
        case rel => exact ⟨k + 1, by omega, by omega, by go_num, hI2.out⟩
        case measure => simp [intOf]; omega
    · have hc := hid (show Calm w wr from by obtain ⟨σ, A, B, R, S, BA, BB, XA, XB, ph, rv, lv, rd, ls, hT, hJ⟩ := hI; exact hT.calm)
      clear hI
      rcases Nat.lt_or_ge k n with hlt2 | hge2
      · have hge60 : 60 ≤ k := by omega
        clear hlt
        go_wp2
        go_ret
        exact ⟨rfl, hc.out.below⟩
      · clear hlt
        go_wp2
        go_ret
        exact ⟨rfl, hc.out.below⟩

end Go.Proofs.YtaifelejdngmpaaGreat
