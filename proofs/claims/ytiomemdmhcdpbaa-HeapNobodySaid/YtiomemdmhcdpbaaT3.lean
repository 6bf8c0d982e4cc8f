/- HeapNobody returns true: its walk. -/
import Derived.Test.YtiomemdmhcdpbaaTwI
set_option linter.unusedSimpArgs false
set_option linter.unusedVariables false
namespace Go.Proofs.Ytiomemdmhcdpbaa
open Go.RowKit Go.Shelf

set_option maxRecDepth 100000 in
set_option maxHeartbeats 16000000 in
theorem heapNobody_walk (v : Value) (l : List Op10) (hm : l.length ≤ maxLen) (a : Int) (ha : I64 a) (i : Int) (hi : I64 i) (w : World) (hr : RowK w v 8 (l.map Op10.cells)) (hl : ∀ o ∈ l, o.Ok) :
    Calls Try.prog 10 #[v, .int .i64 a, .int .i64 i] w fun e w' => e = .returned (.bool true) ∧ Below w.heap.size w w' := by
  obtain ⟨ra, rc, rfl, hrk⟩ := hr.cells
  obtain ⟨n, hn⟩ : ∃ n, l.length = n := ⟨_, rfl⟩
  rw [hn] at hm ⊢
  unfold maxLen at hm
  replace hrk := hid hrk
  replace hl := hid hl
  replace hn := hid hn
  have hmn : (n : Int) ≤ 9223372036854775807 := by omega
  replace hm := hid hm
  replace hmn := hid hmn
  clear hr
  go_enter Try.func10, Try.ntmps10
  go_wp2_with fail
  refine (awake10 _).mono ?_
  rintro e w0 ⟨rfl, c0⟩
  go_wp2_with fail
  refine (begin_yes _ 150 (by decide) (by decide)).mono ?_
  rintro e w1 ⟨T, BA, BB, XA, XB, rfl, hT, c1⟩
  have hI0 := hid (TwI.start hT (c0.trans c1) c0.size)
  generalize hb0 : w0.heap.size = b0 at *
  clear hT c0 c1 hb0
  go_wp2_with fail
  go_loopw [9] (fun i wr => ∃ k : Nat, k ≤ n ∧ k ≤ 30 ∧ i = .int .i64 k ∧ TwI w b0 T 150 k wr) (fun i _ => 30 - (intOf i).toNat)
  case atStart => exact ⟨0, by omega, by omega, rfl, hI0.out⟩
  case round =>
    clear hI0
    obtain ⟨k, hk, hk60, rfl, ⟨σ, A, B, R, S, BA, BB, XA, XB, hT, hP, hAn, hAB, hBs, hσ, hc, hwb⟩⟩ := hrel
    by_cases hlt : k < n ∧ k < 30
    · obtain ⟨hlt, hlt30⟩ := hlt
      have hkl : k < l.length := by rw [hn.out]; exact hlt
      obtain ⟨b, off, rfl, hcell⟩ := hrk.out k l[k] (by simp [hkl])
      have hok := hl.out l[k] (List.getElem_mem hkl)
      have g0 := hc.cellAt (p := ⟨b, off + k * 8 + 0, none⟩) (hcell 0 _ rfl) id
      have g1 := hc.cellAt (p := ⟨b, off + k * 8 + 1, none⟩) (hcell 1 _ rfl) id
      have g2 := hc.cellAt (p := ⟨b, off + k * 8 + 2, none⟩) (hcell 2 _ rfl) id
      have g3 := hc.cellAt (p := ⟨b, off + k * 8 + 3, none⟩) (hcell 3 _ rfl) id
      have g4 := hc.cellAt (p := ⟨b, off + k * 8 + 4, none⟩) (hcell 4 _ rfl) id
      have g5 := hc.cellAt (p := ⟨b, off + k * 8 + 5, none⟩) (hcell 5 _ rfl) id
      have g6 := hc.cellAt (p := ⟨b, off + k * 8 + 6, none⟩) (hcell 6 _ rfl) id
      have g7 := hc.cellAt (p := ⟨b, off + k * 8 + 7, none⟩) (hcell 7 _ rfl) id
      rw [Nat.add_zero] at g0
      have hD := hid (does_is hT hP ⟨by omega, by omega⟩ l[k] hok)
      clear hcell
      generalize l[k] = o at *
      replace hT := hid hT
      replace hP := hid hP
      go_wp2_with fail
      refine (hD.out).mono ?_
      rintro e w2 ⟨rfl, hf2, σ2, A2, B2, R2, S2, BA2, BB2, XA2, XB2, hT2, e1, e2, hP2, hn2, hg2, _⟩
      obtain ⟨hAB2, hBs2, hσ2⟩ := hg2.same hAB hσ
      have hc2 : Calm w w2 := hc.join hf2 (fun j hj h => by omega)
      have hA2n : A2.n = 150 := hn2.trans hAn
      replace hT2 := hid hT2
      replace hP2 := hid hP2
      replace hσ2 := hid hσ2
      replace hf2 := hid hf2
      clear hD hg2 hT hP g0 g1 g2 g3 g4 g5 g6 g7 hn2 hAn hok hσ
      go_wp2
      go_roundw
      case rel => exact ⟨k + 1, by omega, by omega, by go_num, σ2, A2, B2, R2, S2, BA2, BB2, XA2, XB2, hT2.out, hP2.out, hA2n, hAB2, by omega, hσ2.out, hc2, hwb⟩
      case measure => simp [intOf]; omega
    · have hta := hT.cellA
      have hHe := hid (fun W (cw : Calm wr W) (p : Int) (hp : I64 p) => here_is (hT.ha.calm cw) p hp)
      have hn0 := hid (fun W (cw : Calm wr W) (p : Int) (hp : I64 p) (hm : p ∉ nI (plc A.cur)) => hshape_no (hT.ha.calm cw) hp hm)
      have hn1 := hid (fun W (cw : Calm wr W) (p : Int) (hp : I64 p) (hm : p ∉ nI (plc A.cur)) => hserial_no (hT.ha.calm cw) hp hm)
      have hn2 := hid (fun W (cw : Calm wr W) (p : Int) (hp : I64 p) (hm : p ∉ nI (plc A.cur)) => hptr_no (hT.ha.calm cw) hp hm i)
      have hn3 := hid (fun W (cw : Calm wr W) (p : Int) (hp : I64 p) (hm : p ∉ nI (plc A.cur)) => hnum_no (hT.ha.calm cw) hp hm i)
      have hn4 := hid (fun W (cw : Calm wr W) (p : Int) (hp : I64 p) (hm : p ∉ nI (plc A.cur)) => hsetptr_no (hT.ha.calm cw) hp hm i 0)
      have hn5 := hid (fun W (cw : Calm wr W) (p : Int) (hp : I64 p) (hm : p ∉ nI (plc A.cur)) => hsetnum_no (hT.ha.calm cw) hp hm i 1)
      have hn6 := hid (fun W (cw : Calm wr W) (p : Int) (hp : I64 p) (hm : p ∉ nI (plc A.cur)) => hsetfreed_no (hT.ha.calm cw) hp hm true)
      have hn7 := hid (fun W (cw : Calm wr W) (p : Int) (hp : I64 p) (hm : p ∉ nI (plc A.cur)) => hsetsecond_no (hT.ha.calm cw) hp hm 1)
      have hAl := hid (fun W (cw : Calm wr W) => alike_is (hT.calm cw) hP hσ)
      have qp := hid (fun W => pick10 a 310 W ha (by omega))
      have hpr := pk_range a (n := 310) (by omega)
      obtain ⟨P, hP3⟩ : ∃ P, pk a 310 = P := ⟨_, rfl⟩
      rw [hP3] at qp hpr
      have hPo : Hid (I64 P) := by constructor <;> omega
      have hao : Hid (I64 a) := ha
      replace hT := hid hT
      replace hP := hid hP
      replace hσ := hid hσ
      clear hP3 hpr ha
      rcases Nat.lt_or_ge k n with hlt2 | hge2
      · have hge30 : 30 ≤ k := by omega
        clear hlt
        go_wp2_with fail
        refine (qp.out _).mono ?_
        rintro e w2 ⟨rfl, rfl⟩
        clear qp
        go_wp2_with fail
        obtain ⟨G, hG⟩ : ∃ G, wr.heap.size = G := ⟨_, rfl⟩
        have hg0 : Hid (OwnL (wr.alloc (.cells #[.int .i64 a, .int .i64 P, .int .i64 0, .int .i64 (-1)] 3)) G [.int .i64 a, .int .i64 P, .int .i64 0, .int .i64 (-1)]) := OwnL.at wr [.int .i64 a, .int .i64 P, .int .i64 0, .int .i64 (-1)] 3 G hG.symm
        have kc0 : Hid (Calm wr (wr.alloc (.cells #[.int .i64 a, .int .i64 P, .int .i64 0, .int .i64 (-1)] 3))) := (Fr.refl _ _).alloc _
        generalize hw0 : wr = w0' at *
        rw [hG]
        generalize w0'.alloc _ = w5 at *
        go_loopw [55] (fun x wr => ∃ j : Nat, j ≤ 4 ∧ x = .int .i64 j ∧ Calm w0' wr ∧ OwnL wr G [.int .i64 a, .int .i64 P, .int .i64 0, .int .i64 (-1)]) (fun x _ => 4 - (intOf x).toNat)
        case atStart => exact ⟨0, by omega, rfl, kc0.out, hg0.out⟩
        case round =>
          clear hg0 kc0
          obtain ⟨j, hj, rfl, kc, og⟩ := hrel
          rcases Nat.lt_or_ge j 4 with hj4 | hj4
          · obtain ⟨p, hpo, hpc⟩ : ∃ p, I64 p ∧ wr.cell? ⟨G, j, none⟩ = some (.int .i64 p) := by
              have : j = 0 ∨ j = 1 ∨ j = 2 ∨ j = 3 := by omega
              rcases this with rfl | rfl | rfl | rfl
              · exact ⟨a, hao.out, (og 0 _ rfl).1⟩
              · exact ⟨P, hPo.out, (og 1 _ rfl).1⟩
              · exact ⟨0, by constructor <;> omega, (og 2 _ rfl).1⟩
              · exact ⟨-1, by constructor <;> omega, (og 3 _ rfl).1⟩
            have ht := kc.cellAt hta id
            replace hpo := hid hpo
            replace og := hid og
            rcases Classical.em (p ∈ nI (plc A.cur)) with hin | hin
            · have hde := decide_eq_true hin
              have hh := hid (hHe.out _ kc p hpo.out)
              rw [hde] at hh
              clear hde hin
              go_wp2_with fail
              refine (hh.out).mono ?_
              rintro e w6 ⟨rfl, c6⟩
              replace kc := kc.trans c6
              replace og := hid (og.out.calm c6)
              go_wp2
              go_roundw
              case rel => exact ⟨j + 1, by omega, by go_num, kc, og.out⟩
              case measure => simp [intOf]; omega
            · have hde := decide_eq_false hin
              have hh := hid (hHe.out _ kc p hpo.out)
              rw [hde] at hh
              replace hin := hid hin
              clear hde
              go_wp2_with fail
              refine (hh.out).mono ?_
              rintro e w6 ⟨rfl, c6⟩
              replace kc := kc.trans c6
              replace og := hid (og.out.calm c6)
              replace ht := c6.cellAt ht id
              go_wp2_with fail
              refine (hn0.out _ kc p hpo.out hin.out).mono ?_
              rintro e w20 ⟨rfl, c7⟩
              replace og := hid (og.out.calm c7)
              replace ht := (c7).cellAt ht id
              replace kc := kc.trans c7
              have hlt20 := World.block_lt_of_cell? _ _ ht
              have hT20 : T < w20.heap.size := hlt20
              clear hlt20
              go_wp2_with fail
              refine (hn1.out _ (kc.alloc _) p hpo.out hin.out).mono ?_
              rintro e w21 ⟨rfl, c7⟩
              replace og := hid ((og.out.alloc _).calm c7)
              replace ht := (((Fr.refl (fun _ => False) w20).alloc _).trans c7).cellAt ht id
              replace kc := (kc.alloc _).trans c7
              go_wp2_with fail
              refine (hn2.out _ kc p hpo.out hin.out).mono ?_
              rintro e w22 ⟨rfl, c7⟩
              replace og := hid (og.out.calm c7)
              replace ht := (c7).cellAt ht id
              replace kc := kc.trans c7
              go_wp2_with fail
              refine (hn3.out _ kc p hpo.out hin.out).mono ?_
              rintro e w23 ⟨rfl, c7⟩
              replace og := hid (og.out.calm c7)
              replace ht := (c7).cellAt ht id
              replace kc := kc.trans c7
              go_wp2_with fail
              refine (hn4.out _ kc p hpo.out hin.out).mono ?_
              rintro e w24 ⟨rfl, c7⟩
              replace og := hid (og.out.calm c7)
              replace ht := (c7).cellAt ht id
              replace kc := kc.trans c7
              go_wp2_with fail
              refine (hn5.out _ kc p hpo.out hin.out).mono ?_
              rintro e w25 ⟨rfl, c7⟩
              replace og := hid (og.out.calm c7)
              replace ht := (c7).cellAt ht id
              replace kc := kc.trans c7
              go_wp2_with fail
              refine (hn6.out _ kc p hpo.out hin.out).mono ?_
              rintro e w26 ⟨rfl, c7⟩
              replace og := hid (og.out.calm c7)
              replace ht := (c7).cellAt ht id
              replace kc := kc.trans c7
              go_wp2_with fail
              refine (hn7.out _ kc p hpo.out hin.out).mono ?_
              rintro e w27 ⟨rfl, c7⟩
              replace og := hid (og.out.calm c7)
              replace ht := (c7).cellAt ht id
              replace kc := kc.trans c7
              go_wp2
              go_roundw
              case rel => exact ⟨j + 1, by omega, by go_num, kc, og.out⟩
              case measure => simp [intOf]; omega
          · obtain rfl : j = 4 := by omega
            replace hAl := hid (hAl.out _ kc)
            replace og := hid og
            have hcc := hid (hc.trans kc)
            go_wp2_with fail
            refine (hAl.out).mono ?_
            rintro e w9 ⟨rfl, c9⟩
            go_wp2
            go_ret
            exact ⟨rfl, (show Calm w _ from hcc.out.trans c9).below⟩
      · clear hlt
        go_wp2_with fail
        refine (qp.out _).mono ?_
        rintro e w2 ⟨rfl, rfl⟩
        clear qp
        go_wp2_with fail
        obtain ⟨G, hG⟩ : ∃ G, wr.heap.size = G := ⟨_, rfl⟩
        have hg0 : Hid (OwnL (wr.alloc (.cells #[.int .i64 a, .int .i64 P, .int .i64 0, .int .i64 (-1)] 3)) G [.int .i64 a, .int .i64 P, .int .i64 0, .int .i64 (-1)]) := OwnL.at wr [.int .i64 a, .int .i64 P, .int .i64 0, .int .i64 (-1)] 3 G hG.symm
        have kc0 : Hid (Calm wr (wr.alloc (.cells #[.int .i64 a, .int .i64 P, .int .i64 0, .int .i64 (-1)] 3))) := (Fr.refl _ _).alloc _
        generalize hw0 : wr = w0' at *
        rw [hG]
        generalize w0'.alloc _ = w5 at *
        go_loopw [55] (fun x wr => ∃ j : Nat, j ≤ 4 ∧ x = .int .i64 j ∧ Calm w0' wr ∧ OwnL wr G [.int .i64 a, .int .i64 P, .int .i64 0, .int .i64 (-1)]) (fun x _ => 4 - (intOf x).toNat)
        case atStart => exact ⟨0, by omega, rfl, kc0.out, hg0.out⟩
        case round =>
          clear hg0 kc0
          obtain ⟨j, hj, rfl, kc, og⟩ := hrel
          rcases Nat.lt_or_ge j 4 with hj4 | hj4
          · obtain ⟨p, hpo, hpc⟩ : ∃ p, I64 p ∧ wr.cell? ⟨G, j, none⟩ = some (.int .i64 p) := by
              have : j = 0 ∨ j = 1 ∨ j = 2 ∨ j = 3 := by omega
              rcases this with rfl | rfl | rfl | rfl
              · exact ⟨a, hao.out, (og 0 _ rfl).1⟩
              · exact ⟨P, hPo.out, (og 1 _ rfl).1⟩
              · exact ⟨0, by constructor <;> omega, (og 2 _ rfl).1⟩
              · exact ⟨-1, by constructor <;> omega, (og 3 _ rfl).1⟩
            have ht := kc.cellAt hta id
            replace hpo := hid hpo
            replace og := hid og
            rcases Classical.em (p ∈ nI (plc A.cur)) with hin | hin
            · have hde := decide_eq_true hin
              have hh := hid (hHe.out _ kc p hpo.out)
              rw [hde] at hh
              clear hde hin
              go_wp2_with fail
              refine (hh.out).mono ?_
              rintro e w6 ⟨rfl, c6⟩
              replace kc := kc.trans c6
              replace og := hid (og.out.calm c6)
              go_wp2
              go_roundw
              case rel => exact ⟨j + 1, by omega, by go_num, kc, og.out⟩
              case measure => simp [intOf]; omega
            · have hde := decide_eq_false hin
              have hh := hid (hHe.out _ kc p hpo.out)
              rw [hde] at hh
              replace hin := hid hin
              clear hde
              go_wp2_with fail
              refine (hh.out).mono ?_
              rintro e w6 ⟨rfl, c6⟩
              replace kc := kc.trans c6
              replace og := hid (og.out.calm c6)
              replace ht := c6.cellAt ht id
              go_wp2_with fail
              refine (hn0.out _ kc p hpo.out hin.out).mono ?_
              rintro e w20 ⟨rfl, c7⟩
              replace og := hid (og.out.calm c7)
              replace ht := (c7).cellAt ht id
              replace kc := kc.trans c7
              have hlt20 := World.block_lt_of_cell? _ _ ht
              have hT20 : T < w20.heap.size := hlt20
              clear hlt20
              go_wp2_with fail
              refine (hn1.out _ (kc.alloc _) p hpo.out hin.out).mono ?_
              rintro e w21 ⟨rfl, c7⟩
              replace og := hid ((og.out.alloc _).calm c7)
              replace ht := (((Fr.refl (fun _ => False) w20).alloc _).trans c7).cellAt ht id
              replace kc := (kc.alloc _).trans c7
              go_wp2_with fail
              refine (hn2.out _ kc p hpo.out hin.out).mono ?_
              rintro e w22 ⟨rfl, c7⟩
              replace og := hid (og.out.calm c7)
              replace ht := (c7).cellAt ht id
              replace kc := kc.trans c7
              go_wp2_with fail
              refine (hn3.out _ kc p hpo.out hin.out).mono ?_
              rintro e w23 ⟨rfl, c7⟩
              replace og := hid (og.out.calm c7)
              replace ht := (c7).cellAt ht id
              replace kc := kc.trans c7
              go_wp2_with fail
              refine (hn4.out _ kc p hpo.out hin.out).mono ?_
              rintro e w24 ⟨rfl, c7⟩
              replace og := hid (og.out.calm c7)
              replace ht := (c7).cellAt ht id
              replace kc := kc.trans c7
              go_wp2_with fail
              refine (hn5.out _ kc p hpo.out hin.out).mono ?_
              rintro e w25 ⟨rfl, c7⟩
              replace og := hid (og.out.calm c7)
              replace ht := (c7).cellAt ht id
              replace kc := kc.trans c7
              go_wp2_with fail
              refine (hn6.out _ kc p hpo.out hin.out).mono ?_
              rintro e w26 ⟨rfl, c7⟩
              replace og := hid (og.out.calm c7)
              replace ht := (c7).cellAt ht id
              replace kc := kc.trans c7
              go_wp2_with fail
              refine (hn7.out _ kc p hpo.out hin.out).mono ?_
              rintro e w27 ⟨rfl, c7⟩
              replace og := hid (og.out.calm c7)
              replace ht := (c7).cellAt ht id
              replace kc := kc.trans c7
              go_wp2
              go_roundw
              case rel => exact ⟨j + 1, by omega, by go_num, kc, og.out⟩
              case measure => simp [intOf]; omega
          · obtain rfl : j = 4 := by omega
            replace hAl := hid (hAl.out _ kc)
            replace og := hid og
            have hcc := hid (hc.trans kc)
            go_wp2_with fail
            refine (hAl.out).mono ?_
            rintro e w9 ⟨rfl, c9⟩
            go_wp2
            go_ret
            exact ⟨rfl, (show Calm w _ from hcc.out.trans c9).below⟩

end Go.Proofs.Ytiomemdmhcdpbaa
