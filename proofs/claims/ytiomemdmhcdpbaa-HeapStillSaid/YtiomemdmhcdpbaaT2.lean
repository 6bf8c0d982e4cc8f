/- HeapStill returns true: its walk. -/
import Derived.Test.YtiomemdmhcdpbaaTwI
set_option linter.unusedSimpArgs false
set_option linter.unusedVariables false
namespace Go.Proofs.Ytiomemdmhcdpbaa
open Go.RowKit Go.Shelf

theorem Pair.rg_i64 {σ : Nat → Nat} {A B : HS} {R S : List Nat} {X : List Nat} (h : Pair σ A B R S 4) (hA : HRep A X) (j : Nat) : I64 ((R.getD j 0 : Nat) : Int) := by
  by_cases hj : j < 4
  · have : R.getD j 0 ≤ 131072 := by
      rcases h.rg.here j hj with h1 | h1
      · omega
      · exact hA.plc_le h1
    constructor <;> omega
  · have : R.getD j 0 = 0 := by simp [List.getD, h.rg.lr, hj]
    rw [this]; constructor <;> omega
set_option maxRecDepth 100000 in
set_option maxHeartbeats 16000000 in
theorem heapStill_walk (v : Value) (l : List Op10) (hm : l.length ≤ maxLen) (w : World) (hr : RowK w v 8 (l.map Op10.cells)) (hl : ∀ o ∈ l, o.Ok) :
    Calls Try.prog 9 #[v] w fun e w' => e = .returned (.bool true) ∧ Below w.heap.size w w' := by
  obtain ⟨ra, rc, rfl, hrk⟩ := hr.cells
  obtain ⟨n, hn⟩ : ∃ n, l.length = n := ⟨_, rfl⟩
  rw [hn] at hm ⊢
  unfold maxLen at hm
  replace hrk := hid hrk
  replace hl := hid hl
  replace hn := hid hn
  have hmn : (n : Int) ≤ 9223372036854775807 := by omega
  replace hm := hid hm
  replace hmn := hid hmn
  clear hr
  go_enter Try.func9, Try.ntmps9
  go_wp2_with fail
  refine (awake10 _).mono ?_
  rintro e w0 ⟨rfl, c0⟩
  go_wp2_with fail
  refine (begin_yes _ 150 (by decide) (by decide)).mono ?_
  rintro e w1 ⟨T, BA, BB, XA, XB, rfl, hT, c1⟩
  have hI0 := hid (TwJ.start hT (c0.trans c1) c0.size)
  generalize hb0 : w0.heap.size = b0 at *
  clear hT c0 c1 hb0
  go_wp2_with fail
  go_loopw [5] (fun i wr => ∃ k : Nat, k ≤ n ∧ k ≤ 30 ∧ i = .int .i64 k ∧ TwJ w b0 T 150 k wr) (fun i _ => 30 - (intOf i).toNat)
  case atStart => exact ⟨0, by omega, by omega, rfl, hI0.out⟩
  case round =>
    clear hI0
    obtain ⟨k, hk, hk60, rfl, ⟨σ, A, B, R, S, BA, BB, XA, XB, hT, hP, hAn, hAB, hBs, hσ, hc, hwb, hmv⟩⟩ := hrel
    by_cases hlt : k < n ∧ k < 30
    · obtain ⟨hlt, hlt30⟩ := hlt
      have hkl : k < l.length := by rw [hn.out]; exact hlt
      obtain ⟨b, off, rfl, hcell⟩ := hrk.out k l[k] (by simp [hkl])
      have hok := hl.out l[k] (List.getElem_mem hkl)
      have g0 := hc.cellAt (p := ⟨b, off + k * 8 + 0, none⟩) (hcell 0 _ rfl) id
      have g1 := hc.cellAt (p := ⟨b, off + k * 8 + 1, none⟩) (hcell 1 _ rfl) id
      have g2 := hc.cellAt (p := ⟨b, off + k * 8 + 2, none⟩) (hcell 2 _ rfl) id
      have g3 := hc.cellAt (p := ⟨b, off + k * 8 + 3, none⟩) (hcell 3 _ rfl) id
      have g4 := hc.cellAt (p := ⟨b, off + k * 8 + 4, none⟩) (hcell 4 _ rfl) id
      have g5 := hc.cellAt (p := ⟨b, off + k * 8 + 5, none⟩) (hcell 5 _ rfl) id
      have g6 := hc.cellAt (p := ⟨b, off + k * 8 + 6, none⟩) (hcell 6 _ rfl) id
      have g7 := hc.cellAt (p := ⟨b, off + k * 8 + 7, none⟩) (hcell 7 _ rfl) id
      rw [Nat.add_zero] at g0
      clear hcell
      generalize l[k] = o at *
      obtain ⟨K, hK⟩ : ∃ K, pk o.kd 9 = K := ⟨_, rfl⟩
      have hKr := pk_range o.kd (n := 9) (by omega)
      rw [hK] at hKr
      have qk := hid (fun W => pick10 o.kd 9 W hok.1 (by omega))
      rw [hK] at qk
      obtain ⟨okd, oka, okb, oki, okn, ok0, ok1, ok2⟩ := hok
      have hok' : Hid (({ o with kd := K } : Op10).Ok) := ⟨(show I64 K from ⟨by omega, by omega⟩), oka, okb, oki, okn, ok0, ok1, ok2⟩
      obtain ⟨G, hG⟩ : ∃ G, wr.heap.size = G := ⟨_, rfl⟩
      have hD := hid (fun W (cw : Calm wr W) => does_is (hT.calm cw) hP ⟨by omega, by omega⟩ { o with kd := K } hok'.out)
      have hpk : pk K 13 < 9 := by unfold pk; rw [if_neg (by omega), Int.emod_eq_of_lt (by omega) (by omega)]; omega
      have hT0 := hT.cellA
      replace hT := hid hT
      replace hP := hid hP
      replace hσ := hid hσ
      replace hpk := hid hpk
      clear okd oka okb oki okn ok0 ok1 ok2
      go_wp2_with fail
      try rw [hG]
      refine (qk.out _).mono ?_
      rintro e w2 ⟨rfl, rfl⟩
      clear qk
      go_wp2_with fail
      refine (hD.out _ ((Fr.refl _ _).alloc _)).mono ?_
      rintro e w2 ⟨rfl, hf2, σ2, A2, B2, R2, S2, BA2, BB2, XA2, XB2, hT2, e1, e2, hP2, hn2, hg2, hm2⟩
      obtain ⟨hAB2, hBs2, hσ2⟩ := hg2.same hAB hσ.out
      have hc2 : Calm w w2 := (hc.trans ((Fr.refl _ _).alloc _)).join hf2 (fun j hj h => by omega)
      have hA2n : A2.n = 150 := hn2.trans hAn
      have hmv2 : A2.mv = false := (hm2 hpk.out).trans hmv
      replace hT2 := hid hT2
      replace hP2 := hid hP2
      replace hσ2 := hid hσ2
      replace hf2 := hid hf2
      clear hD hg2 hT hP g0 g1 g2 g3 g4 g5 g6 g7 hn2 hAn hσ
      go_wp2
      go_roundw
      case rel => exact ⟨k + 1, by omega, by omega, by go_num, σ2, A2, B2, R2, S2, BA2, BB2, XA2, XB2, hT2.out, hP2.out, hA2n, hAB2, by omega, hσ2.out, hc2, hwb, hmv2⟩
      case measure => simp [intOf]; omega
    · have hold : A.old = [] := hT.ha.rep.still hmv
      have hl2 : R.length = 4 ∧ S.length = 4 := ⟨hP.rg.lr, hP.rg.ls⟩
      have hta := hT.cellA
      have hR := hid (fun W (cw : Calm wr W) => room_is (hT.ha.calm cw))
      have hDr := hid (fun W (cw : Calm wr W) => hdrop_still (hT.ha.calm cw) hmv)
      have hSc := hid (fun W (cw : Calm wr W) => hscan_still (hT.ha.calm cw) hmv)
      have hFi := hid (fun W (cw : Calm wr W) => hfinals_still (hT.ha.calm cw) hmv)
      have hMv := hid (fun W (cw : Calm wr W) => moving_is (hT.ha.calm cw))
      have hMd := hid (fun W (cw : Calm wr W) (j : Nat) => hmoved_not (a := (R.getD j 0 : Nat)) (hT.ha.calm cw) (hP.rg_i64 hT.ha.rep j) (by rw [hold]; simp))
      have hAl := hid (fun W (cw : Calm wr W) => alike_is (hT.calm cw) hP hσ)
      have hrr := hid (fun j (hj : j < 4) => (hT.cellR hl2 hj).1)
      rw [hmv] at hMv
      obtain ⟨RM, hRM⟩ : ∃ RM, A.room = RM := ⟨_, rfl⟩
      rw [hRM] at hR
      replace hT := hid hT
      replace hP := hid hP
      replace hσ := hid hσ
      clear hold hRM
      rcases Nat.lt_or_ge k n with hlt2 | hge2
      · have hge30 : 30 ≤ k := by omega
        clear hlt
        have hta0 := hta
        go_wp2_with fail
        refine (hR.out _ (Fr.refl _ _)).mono ?_
        rintro e w2 ⟨rfl, c2⟩
        replace hta := c2.cellAt hta id
        go_wp2_with fail
        refine (hDr.out _ c2).mono ?_
        rintro e w3 ⟨rfl, rfl⟩
        replace c2 := hid c2
        go_wp2_with fail
        generalize hwo : wr = wo at *
        clear hwo hta
        go_loopw [10] (fun x wz => ∃ j : Nat, j ≤ 4 ∧ x = .int .i64 j ∧ Calm wo wz) (fun x _ => 4 - (intOf x).toNat)
        case atStart => exact ⟨0, by omega, rfl, c2.out⟩
        case round =>
          clear c2
          obtain ⟨j, hj, rfl, kc⟩ := hrel
          have t0 := kc.cellAt hta0 id
          rcases Nat.lt_or_ge j 4 with hj4 | hj4
          · have tj := kc.cellAt (hrr.out j hj4) id
            have hMj := hid (fun W (cw : Calm wr W) => hMd.out W (kc.trans cw) j)
            have hj4i : ((j : Nat) : Int) < 4 := by omega
            replace kc := hid kc
            clear hta0
            generalize R.getD j 0 = p at *
            go_wp2_with fail
            go_region_held3 (fun w' => w'.cell? ⟨T, 0, none⟩ = some (hpV BA) ∧ w'.cell? ⟨T, 2 + j, none⟩ = some (.int .i64 (p : Nat))) (go_keep)
              (first | (go_at_call 18; refine (hMj.out _ (by first | exact Fr.refl _ _ | exact (Fr.refl _ _).drew)).mono ?_; rintro e w7 ⟨rfl, c7⟩; have ka : Calm wr w7 := Fr.trans (by first | exact Fr.refl _ _ | exact (Fr.refl _ _).drew) c7; have u0 := ka.cellAt t0 id; have u1 := ka.cellAt tj id))
            all_goals
              go_wp2
              go_roundw
              case rel => exact ⟨j + 1, by omega, by go_num, kc.out.trans ka⟩
              case measure => simp [intOf]; omega
          · obtain rfl : j = 4 := by omega
            replace kc := hid kc
            clear hta0
            go_wp2_with fail
            refine (hSc.out _ kc.out).mono ?_
            rintro e w5 ⟨rfl, rfl⟩
            go_wp2_with fail
            refine (hFi.out _ kc.out).mono ?_
            rintro e w5 ⟨rfl, rfl⟩
            go_wp2_with fail
            refine (hMv.out _ kc.out).mono ?_
            rintro e w5 ⟨rfl, rfl⟩
            go_wp2_with fail
            refine (hR.out _ kc.out).mono ?_
            rintro e w5 ⟨rfl, c5⟩
            go_wp2_with fail
            refine (hAl.out _ (kc.out.trans c5)).mono ?_
            rintro e w6 ⟨rfl, c6⟩
            go_wp2
            go_ret
            exact ⟨rfl, (show Calm w _ from hc.trans (kc.out.trans (c5.trans c6))).below⟩
      · clear hlt
        have hta0 := hta
        go_wp2_with fail
        refine (hR.out _ (Fr.refl _ _)).mono ?_
        rintro e w2 ⟨rfl, c2⟩
        replace hta := c2.cellAt hta id
        go_wp2_with fail
        refine (hDr.out _ c2).mono ?_
        rintro e w3 ⟨rfl, rfl⟩
        replace c2 := hid c2
        go_wp2_with fail
        generalize hwo : wr = wo at *
        clear hwo hta
        go_loopw [10] (fun x wz => ∃ j : Nat, j ≤ 4 ∧ x = .int .i64 j ∧ Calm wo wz) (fun x _ => 4 - (intOf x).toNat)
        case atStart => exact ⟨0, by omega, rfl, c2.out⟩
        case round =>
          clear c2
          obtain ⟨j, hj, rfl, kc⟩ := hrel
          have t0 := kc.cellAt hta0 id
          rcases Nat.lt_or_ge j 4 with hj4 | hj4
          · have tj := kc.cellAt (hrr.out j hj4) id
            have hMj := hid (fun W (cw : Calm wr W) => hMd.out W (kc.trans cw) j)
            have hj4i : ((j : Nat) : Int) < 4 := by omega
            replace kc := hid kc
            clear hta0
            generalize R.getD j 0 = p at *
            go_wp2_with fail
            go_region_held3 (fun w' => w'.cell? ⟨T, 0, none⟩ = some (hpV BA) ∧ w'.cell? ⟨T, 2 + j, none⟩ = some (.int .i64 (p : Nat))) (go_keep)
              (first | (go_at_call 18; refine (hMj.out _ (by first | exact Fr.refl _ _ | exact (Fr.refl _ _).drew)).mono ?_; rintro e w7 ⟨rfl, c7⟩; have ka : Calm wr w7 := Fr.trans (by first | exact Fr.refl _ _ | exact (Fr.refl _ _).drew) c7; have u0 := ka.cellAt t0 id; have u1 := ka.cellAt tj id))
            all_goals
              go_wp2
              go_roundw
              case rel => exact ⟨j + 1, by omega, by go_num, kc.out.trans ka⟩
              case measure => simp [intOf]; omega
          · obtain rfl : j = 4 := by omega
            replace kc := hid kc
            clear hta0
            go_wp2_with fail
            refine (hSc.out _ kc.out).mono ?_
            rintro e w5 ⟨rfl, rfl⟩
            go_wp2_with fail
            refine (hFi.out _ kc.out).mono ?_
            rintro e w5 ⟨rfl, rfl⟩
            go_wp2_with fail
            refine (hMv.out _ kc.out).mono ?_
            rintro e w5 ⟨rfl, rfl⟩
            go_wp2_with fail
            refine (hR.out _ kc.out).mono ?_
            rintro e w5 ⟨rfl, c5⟩
            go_wp2_with fail
            refine (hAl.out _ (kc.out.trans c5)).mono ?_
            rintro e w6 ⟨rfl, c6⟩
            go_wp2
            go_ret
            exact ⟨rfl, (show Calm w _ from hc.trans (kc.out.trans (c5.trans c6))).below⟩

end Go.Proofs.Ytiomemdmhcdpbaa
