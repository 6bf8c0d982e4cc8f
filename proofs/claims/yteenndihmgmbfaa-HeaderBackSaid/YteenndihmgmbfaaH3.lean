/- HeaderBack returns true, whatever the input. -/
import Derived.Test.YteenndihmgmbfaaLaw06
set_option linter.unusedSimpArgs false
set_option linter.unusedVariables false
namespace Go.Proofs.Yteenndihmgmbfaa
open Go.RowKit Go.Shelf

set_option maxRecDepth 100000 in
set_option maxHeartbeats 1000000 in
theorem headerBack_walk (w0 : Int) (hw : 0 ≤ w0 ∧ w0 ≤ 18446744073709551615) (w : World) :
    Calls Try.prog 7 #[.int .u64 w0] w fun e w' => e = .returned (.bool true) ∧ Below w.heap.size w w' := by
  obtain ⟨W, rfl⟩ := Int.eq_ofNat_of_zero_le hw.1
  have hW : Hid (W < 18446744073709551616) := by show W < 18446744073709551616; omega
  clear hw
  go_enter Try.func7, Try.ntmps7
  go_wp2_with fail
  refine (awake06 _).mono ?_
  rintro e w1 ⟨rfl, c1⟩
  go_wp2_with fail
  obtain ⟨W1, hW1⟩ : ∃ W1, w1.alloc (.cells #[.int .u64 (W : Int), .int .u64 ((W : Int) % 4096), .int .u64 ((W : Int) % 524300)] 24) = W1 := ⟨_, rfl⟩
  obtain ⟨B, hB⟩ : ∃ B, w1.heap.size = B := ⟨_, rfl⟩
  have f0 : ∀ k : Nat, k < 3 → ∃ V : Nat, V < 18446744073709551616 ∧ W1.cell? ⟨B, k, none⟩ = some (wV V) := by
    intro k hk
    have h := hW.out
    rw [← hW1, ← hB]
    match k, hk with
    | 0, _ => exact ⟨W, h, World.cell?_alloc_new w1 _ _ 0⟩
    | 1, _ => exact ⟨W % 4096, by omega, (World.cell?_alloc_new w1 _ _ 1).trans (by simp)⟩
    | 2, _ => exact ⟨W % 524300, by omega, (World.cell?_alloc_new w1 _ _ 2).trans (by simp)⟩
  have F0 : Hid (∀ k : Nat, k < 3 → ∃ V : Nat, V < 18446744073709551616 ∧ W1.cell? ⟨B, k, none⟩ = some (wV V)) := f0
  have k1 : Calm w W1 := by rw [← hW1]; exact Fr.alloc c1 _
  rw [hW1, hB]
  clear hW1 hB f0 c1
  go_loopw [23] (fun i wr => ∃ k : Nat, k ≤ 3 ∧ i = .int .i64 k ∧ Calm W1 wr) (fun i _ => 3 - (intOf i).toNat)
  case atStart => exact ⟨0, by omega, rfl, Fr.refl _ _⟩
  case round =>
    obtain ⟨k, hk, rfl, hc⟩ := hrel
    by_cases hlt : k < 3
    · obtain ⟨V, hV, hcell⟩ := F0.out k hlt
      have hcr : wr.cell? ⟨B, k, none⟩ = some (wV V) := hc.cellAt hcell id
      clear hcell
      have HV : Hid (V < 18446744073709551616) := hV
      clear hV
      by_cases hh : ∃ p d wk fn fr, isHead V p d wk fn fr
      · obtain ⟨p, d, wk, fn, fr, ok, e⟩ := hh
        have OK : Hid (okS p d wk fn) := ok
        have HE : Hid (hd p d wk fn fr = V) := e
        have odd : V % 2 = 1 := isHead_odd ⟨ok, e⟩
        have ODD : Hid (V % 2 = 1) := odd
        clear ok e odd
        go_wp2_with fail
        rw [← HE.out]
        refine (shape_yes p d wk fn fr OK.out _).mono ?_
        rw [HE.out]
        rintro e w2 ⟨rfl, c2⟩
        go_wp2_with fail
        refine (head_yes p d wk fn fr OK.out _).mono ?_
        rintro e w3 ⟨rfl, c3⟩
        rw [HE.out]
        have hne : ((V : Int) != (V : Int)) = false := by simp
        go_wp2_with fail
        refine (where_no V HV.out (by have := ODD.out; omega) _).mono ?_
        rintro e w' ⟨rfl, rfl⟩
        go_wp2
        go_roundw
        case rel => exact ⟨k + 1, by omega, by go_num, ((hc.trans c2).trans (Fr.alloc (Fr.refl _ _) _)).trans c3⟩
        case measure => simp [intOf]; omega
      · have HN : Hid (∀ p d wk fn fr, ¬ isHead V p d wk fn fr) := fun p d wk fn fr h => hh ⟨p, d, wk, fn, fr, h⟩
        clear hh
        by_cases hg : 1 ≤ V / 4 ∧ V / 4 ≤ 131072 ∧ V % 4 = 2
        · obtain ⟨g1, g2, g3⟩ := hg
          have G3 : Hid (V % 4 = 2) := g3
          clear g3
          go_wp2_with fail
          refine (shape_no V HV.out HN.out _).mono ?_
          rintro e w2 ⟨rfl, c2⟩
          go_wp2_with fail
          refine (where_yes V HV.out g1 g2 G3.out _).mono ?_
          rintro e w' ⟨rfl, rfl⟩
          go_wp2_with fail
          refine (gone_yes _ (by omega) (by omega) _).mono ?_
          rintro e w' ⟨rfl, rfl⟩
          rw [show Int.toNat ((V : Int) / 4) * 4 + 2 = V from by have := G3.out; omega]
          have hne : ((V : Int) != (V : Int)) = false := by simp
          go_wp2
          go_roundw
          case rel => exact ⟨k + 1, by omega, by go_num, (hc.trans c2).trans (Fr.alloc (Fr.refl _ _) _)⟩
          case measure => simp [intOf]; omega
        · have HG : Hid (V / 4 < 1 ∨ 131072 < V / 4 ∨ V % 4 ≠ 2) := by show V / 4 < 1 ∨ 131072 < V / 4 ∨ V % 4 ≠ 2; omega
          clear hg
          go_wp2_with fail
          refine (shape_no V HV.out HN.out _).mono ?_
          rintro e w2 ⟨rfl, c2⟩
          go_wp2_with fail
          refine (where_no V HV.out HG.out _).mono ?_
          rintro e w' ⟨rfl, rfl⟩
          go_wp2
          go_roundw
          case rel => exact ⟨k + 1, by omega, by go_num, (hc.trans c2).trans (Fr.alloc (Fr.refl _ _) _)⟩
          case measure => simp [intOf]; omega
    · obtain rfl : k = 3 := by omega
      go_wp2
      go_ret
      exact ⟨rfl, Calm.below (k1.trans hc)⟩

end Go.Proofs.Yteenndihmgmbfaa
