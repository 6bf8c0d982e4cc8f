/- HeapTwins returns true: its walk. -/
import Derived.Test.YtiomemdmhcdpbaaTwI
set_option linter.unusedSimpArgs false
set_option linter.unusedVariables false
namespace Go.Proofs.Ytiomemdmhcdpbaa
open Go.RowKit Go.Shelf

set_option maxRecDepth 100000 in
set_option maxHeartbeats 16000000 in
theorem heapTwins_walk (v : Value) (l : List Op10) (hm : l.length ≤ maxLen) (w : World) (hr : RowK w v 8 (l.map Op10.cells)) (hl : ∀ o ∈ l, o.Ok) :
    Calls Try.prog 6 #[v] w fun e w' => e = .returned (.bool true) ∧ Below w.heap.size w w' := by
  obtain ⟨ra, rc, rfl, hrk⟩ := hr.cells
  obtain ⟨n, hn⟩ : ∃ n, l.length = n := ⟨_, rfl⟩
  rw [hn] at hm ⊢
  unfold maxLen at hm
  replace hrk := hid hrk
  replace hl := hid hl
  replace hn := hid hn
  have hmn : (n : Int) ≤ 9223372036854775807 := by omega
  replace hm := hid hm
  replace hmn := hid hmn
  clear hr
  go_enter Try.func6, Try.ntmps6
  go_wp2_with fail
  refine (awake10 _).mono ?_
  rintro e w0 ⟨rfl, c0⟩
  go_wp2_with fail
  refine (begin_yes _ 150 (by decide) (by decide)).mono ?_
  rintro e w1 ⟨T, BA, BB, XA, XB, rfl, hT, c1⟩
  have hI0 := hid (TwI.start hT (c0.trans c1) c0.size)
  generalize hb0 : w0.heap.size = b0 at *
  clear hT c0 c1 hb0
  go_wp2_with fail
  go_loopw [5] (fun i wr => ∃ k : Nat, k ≤ n ∧ k ≤ 60 ∧ i = .int .i64 k ∧ TwI w b0 T 150 k wr) (fun i _ => 60 - (intOf i).toNat)
  case atStart => exact ⟨0, by omega, by omega, rfl, hI0.out⟩
  case round =>
    clear hI0
    obtain ⟨k, hk, hk60, rfl, ⟨σ, A, B, R, S, BA, BB, XA, XB, hT, hP, hAn, hAB, hBs, hσ, hc, hwb⟩⟩ := hrel
    by_cases hlt : k < n ∧ k < 60
    · obtain ⟨hlt, hlt60⟩ := hlt
      have hkl : k < l.length := by rw [hn.out]; exact hlt
      obtain ⟨b, off, rfl, hcell⟩ := hrk.out k l[k] (by simp [hkl])
      have hok := hl.out l[k] (List.getElem_mem hkl)
      have g0 := hc.cellAt (p := ⟨b, off + k * 8 + 0, none⟩) (hcell 0 _ rfl) id
      have g1 := hc.cellAt (p := ⟨b, off + k * 8 + 1, none⟩) (hcell 1 _ rfl) id
      have g2 := hc.cellAt (p := ⟨b, off + k * 8 + 2, none⟩) (hcell 2 _ rfl) id
      have g3 := hc.cellAt (p := ⟨b, off + k * 8 + 3, none⟩) (hcell 3 _ rfl) id
      have g4 := hc.cellAt (p := ⟨b, off + k * 8 + 4, none⟩) (hcell 4 _ rfl) id
      have g5 := hc.cellAt (p := ⟨b, off + k * 8 + 5, none⟩) (hcell 5 _ rfl) id
      have g6 := hc.cellAt (p := ⟨b, off + k * 8 + 6, none⟩) (hcell 6 _ rfl) id
      have g7 := hc.cellAt (p := ⟨b, off + k * 8 + 7, none⟩) (hcell 7 _ rfl) id
      rw [Nat.add_zero] at g0
      have hD := hid (does_is hT hP ⟨by omega, by omega⟩ l[k] hok)
      clear hcell
      generalize l[k] = o at *
      replace hT := hid hT
      replace hP := hid hP
      go_wp2_with fail
      refine (hD.out).mono ?_
      rintro e w2 ⟨rfl, hf2, σ2, A2, B2, R2, S2, BA2, BB2, XA2, XB2, hT2, e1, e2, hP2, hn2, hg2, _⟩
      obtain ⟨hAB2, hBs2, hσ2⟩ := hg2.same hAB hσ
      have hc2 : Calm w w2 := hc.join hf2 (fun j hj h => by omega)
      have hA2n : A2.n = 150 := hn2.trans hAn
      have hAl := hid (alike_is hT2 hP2 hσ2)
      replace hT2 := hid hT2
      replace hP2 := hid hP2
      replace hσ2 := hid hσ2
      replace hf2 := hid hf2
      clear hD hg2 hT hP g0 g1 g2 g3 g4 g5 g6 g7 hn2 hAn hok hσ
      go_wp2_with fail
      refine (hAl.out).mono ?_
      rintro e w3 ⟨rfl, c3⟩
      have hT3 := hid (hT2.out.calm c3)
      have hc3 := hc2.trans c3
      go_wp2
      go_roundw
      case rel => exact ⟨k + 1, by omega, by omega, by go_num, σ2, A2, B2, R2, S2, BA2, BB2, XA2, XB2, hT3.out, hP2.out, hA2n, hAB2, by omega, hσ2.out, hc3, hwb⟩
      case measure => simp [intOf]; omega
    · replace hT := hid hT
      replace hP := hid hP
      replace hσ := hid hσ
      rcases Nat.lt_or_ge k n with hlt2 | hge2
      · have hge60 : 60 ≤ k := by omega
        clear hlt
        go_wp2
        go_ret
        exact ⟨rfl, hc.below⟩
      · clear hlt
        go_wp2
        go_ret
        exact ⟨rfl, hc.below⟩

end Go.Proofs.Ytiomemdmhcdpbaa
