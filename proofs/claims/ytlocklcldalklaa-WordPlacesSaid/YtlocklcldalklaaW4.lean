/- WordBack returns true, whatever the input. -/
import Derived.Test.YtlocklcldalklaaW3
import Derived.OwnWalk
set_option linter.unusedSimpArgs false
set_option linter.unusedVariables false
namespace Go.Proofs.Ytlocklcldalklaa
open Go.RowKit Go.Shelf
attribute [local go_sem] Oper.semAt_some

/-- The number k, cut to its width. -/
def cutv (ws l : List Int) (k : Nat) : Nat := if k < l.length then (l.getD k 0).toNat % 2 ^ (ws.getD k 0).toNat else 0
def cuts (ws l : List Int) : Nat → List Nat
  | 0 => []
  | k + 1 => cuts ws l k ++ [cutv ws l k]

theorem cuts_length (ws l : List Int) : ∀ k, (cuts ws l k).length = k
  | 0 => rfl
  | k + 1 => by simp [cuts, cuts_length ws l k]
theorem cuts_getD (ws l : List Int) : ∀ {n k : Nat}, k < n → (cuts ws l n).getD k 0 = cutv ws l k
  | 0, k, h => by omega
  | n + 1, k, h => by
    show (cuts ws l n ++ [_]).getD k 0 = _
    by_cases hk : k = n
    · subst hk
      have : (cuts ws l k).length = k := cuts_length ws l k
      simp [List.getD, this]
    · have hl : k < (cuts ws l n).length := by rw [cuts_length]; omega
      have := cuts_getD ws l (n := n) (k := k) (by omega)
      simp only [List.getD, List.getElem?_append_left hl] at this ⊢
      exact this
theorem cutv_lt (ws l : List Int) (k : Nat) : cutv ws l k < 2 ^ (ws.getD k 0).toNat := by
  unfold cutv
  split
  · exact Nat.mod_lt _ (Nat.two_pow_pos _)
  · exact Nat.two_pow_pos _
theorem wid_le (raw : List Int) : ∀ k j, j < (wid raw k).1.length → (wid raw k).1.getD j 0 ≤ 20
  | 0, j, h => by simp [wid] at h
  | k + 1, j, h => by
    obtain ⟨p1, p2⟩ := pk_range (raw.getD k 0) (n := 20) (by decide)
    simp only [wid] at h ⊢
    split
    · rename_i hc
      rw [if_pos hc] at h
      rw [List.length_append] at h
      simp at h
      rcases Nat.lt_or_ge j (wid raw k).1.length with h' | h'
      · have := wid_le raw k j h'
        simp only [List.getD, List.getElem?_append_left h'] at this ⊢
        exact this
      · obtain rfl : j = (wid raw k).1.length := by omega
        have : ((wid raw k).1 ++ [1 + pk (raw.getD k 0) 20]).getD (wid raw k).1.length 0 = 1 + pk (raw.getD k 0) 20 := by simp [List.getD]
        rw [this]; omega
    · rename_i hc
      rw [if_neg hc] at h
      exact wid_le raw k j h
theorem map_wV (vs : List Nat) : vs.map wV = (vs.map (fun n : Nat => (n : Int))).map (Value.int .u64) := by simp

set_option maxRecDepth 100000 in
set_option maxHeartbeats 1000000 in
theorem wordBack_walk (v : Value) (l : List Int) (hl : ∀ x ∈ l, I64 x) (hm : l.length ≤ maxLen) (v2 : Value) (l2 : List Int) (hl2 : ∀ x ∈ l2, 0 ≤ x ∧ x ≤ 18446744073709551615) (hm2 : l2.length ≤ maxLen) (w : World) (hr : Row w v (l.map (Value.int .i64))) (hr2 : Row w v2 (l2.map (Value.int .u64))) :
    Calls Try.prog 4 #[v, v2] w fun e w' => e = .returned (.bool true) ∧ Below w.heap.size w w' := by
  obtain ⟨i0, hi, hz0, hz1, hz2⟩ := info_parts info_u64
  obtain ⟨la, lcap, rfl, LR⟩ := hr2.cells
  have hm2' : (l2.length : Int) ≤ 9223372036854775807 := by unfold maxLen at hm2; omega
  go_enter Try.func4, Try.ntmps4
  go_wp2_with fail
  refine (awake01 _).mono ?_
  rintro e w1 ⟨rfl, c1⟩
  go_wp2_with fail
  refine (widths_is v l _ hl hm (hr.calm c1)).mono ?_
  rintro e w2 ⟨r, rfl, hws, c2⟩
  replace c1 := c1.trans c2
  obtain ⟨hf, _, _, _, hlen⟩ := wid_fits l (min l.length 20)
  have hl20 : (wid l (min l.length 20)).1.length ≤ 20 := by omega
  have hle := hid (wid_le l (min l.length 20))
  clear hlen hr hl hm c2
  generalize (wid l (min l.length 20)).1 = ws at *
  obtain ⟨a, cap, rfl, HR⟩ := hws.cells
  have hf' := hid hf
  go_wp2_with fail
  go_loopw [7, 8] (fun o i wr => ∃ k : Nat, k ≤ ws.length ∧ i = .int .i64 k ∧ wr.ownsRow w2.heap.size 22 1 o k ((cuts ws l2 k).map wV) ∧ Calm w2 wr) (fun _ i _ => ws.length - (intOf i).toNat)
  case atStart => exact ⟨0, by omega, rfl, World.ownsRow_nil _ _ _ _, Fr.refl _ _⟩
  case round =>
    obtain ⟨k, hk, rfl, ho, hc⟩ := hrel
    obtain ⟨o0, on, oc, rfl⟩ : ∃ va vn vc, u7 = .slice va vn vc := by
      obtain ⟨va, vc, h, _⟩ := Row.of_owns ho
      exact ⟨va, _, vc, h⟩
    have HO := hid ho
    clear ho
    rcases Nat.lt_or_ge k ws.length with hlt | hge
    · obtain ⟨b, off, rfl, hcell⟩ := HR.out k hlt
      have d0 := hc.cellAt hcell id
      obtain ⟨f1, f2, f3⟩ := hf.at hlt
      have hcu : Hid (cuts ws l2 (k + 1) = cuts ws l2 k ++ [cutv ws l2 k]) := rfl
      have hsz : Hid (w2.heap.size ≤ wr.heap.size) := hc.size
      rcases Nat.lt_or_ge k l2.length with hk2 | hk2
      · obtain ⟨b2, off2, rfl, hcell2⟩ := LR.out k hk2
        have d1 := (c1.trans hc).cellAt hcell2 id
        obtain ⟨x1, x2⟩ := hl2 (l2.getD k 0) (by simp [List.getD, hk2])
        have hcv : cutv ws l2 k = (l2.getD k 0).toNat % 2 ^ (ws.getD k 0).toNat := by unfold cutv; rw [if_pos hk2]
        clear hcell hcell2 hl2 hr2 LR HR hws hf
        obtain ⟨d, hd⟩ := Int.eq_ofNat_of_zero_le (show 0 ≤ ws.getD k 0 by omega)
        obtain ⟨x, hx⟩ := Int.eq_ofNat_of_zero_le x1
        rw [hd] at d0 hcv f2 f3
        rw [hx] at d1 hcv x2
        rw [Int.toNat_natCast, Int.toNat_natCast] at hcv
        clear x1 hx
        have hd20 : d ≤ 20 := by have := hle.out k hlt; rw [hd] at this; omega
        clear hd
        obtain ⟨M, hM⟩ : ∃ M : Nat, 2 ^ d = M := ⟨_, rfl⟩
        have hMp : 0 < M := by rw [← hM]; exact Nat.two_pow_pos d
        have hM2 : M ≤ 1048576 := by rw [← hM]; exact Nat.le_trans (pow_le hd20) (by decide)
        have hMi : (2 : Int) ^ d = (M : Int) := by rw [← hM]; push_cast; rfl
        rw [hM] at hcv
        have hw1 : IntKind.u64.wrap (1 * 2 ^ d) = (M : Int) := by rw [hMi, Int.one_mul, IntKind.wrap_u64]; omega
        have hw2 : IntKind.u64.wrap (2 ^ d) = (M : Int) := by rw [hMi, IntKind.wrap_u64]; omega
        have hw3 : IntKind.u64.wrap (M : Int) = (M : Int) := by rw [IntKind.wrap_u64]; omega
        have hM0 : ((M : Int) == 0) = false := by simp; omega
        obtain ⟨y, hy⟩ : ∃ y : Nat, x % M = y := ⟨_, rfl⟩
        have ht2 : (x : Int) % (M : Int) = (y : Int) := by rw [← hy]; push_cast; rfl
        have ht : Int.tmod (x : Int) (M : Int) = (y : Int) := by rw [Int.tmod_eq_emod_of_nonneg (by omega)]; exact ht2
        rw [hy] at hcv
        replace hy := hid hy
        replace hM := hid hM
        replace hcv := hid hcv
        clear hle
        go_wp2_with fail
        go_quiet (fail)
        have hc' : Calm w2 (wr.drewN nq) := hc.drewN nq
        have HO' := hid (ownsRow_fr HO.out ((Fr.refl (fun _ => False) wr).drewN nq) (fun _ _ => id))
        have hsz' := hid (show w2.heap.size ≤ (wr.drewN nq).heap.size from hc'.size)
        clear hc HO hsz d0 d1 ht ht2 hM0 hw1 hw2 hw3 hMi
        generalize wr.drewN nq = wq at *
        have hc := hc'
        have HO := HO'
        have hsz := hsz'
        clear hc' HO' hsz'
        go_wp2_with (at_builtin; refine wpList_append_own _ rfl _ _ 34 rfl w2.heap.size 22 i0 (.int .u64 0) 1 8 Try.underlying34 hi hz0 hz1 hz2 rfl (by decide) _ _ _ rfl (HO.out.alloc _) ⟨wq.heap.size, 0, none⟩ 1 1 [wV y] rfl rfl (cell_one_new _ _ _) (by simp [Value.oneCell']) (by unfold maxLen; omega) (by omega) (by have := hsz.out; simp; omega) ?_; intro v' w1' hown' hgrow _; obtain ⟨g', cap', rfl⟩ := ownsRow_succ hown'; have hF := hid (Fr.append1 HO.out hgrow); clear hgrow; replace hown' := hid hown')
        go_roundw
        case rel =>
          refine ⟨k + 1, by omega, by go_num, ?_, hc.join hF.out (by intros; omega)⟩
          rw [hcu.out, List.map_append, hcv.out]; exact hown'.out
        case measure => simp [intOf]; omega
      · have hcv : Hid (cutv ws l2 k = 0) := by show cutv ws l2 k = 0; unfold cutv; rw [if_neg (by omega)]
        clear hcell d0 hl2 hr2 LR HR hws hf hle
        go_wp2_with (at_builtin; refine wpList_append_own _ rfl _ _ 34 rfl w2.heap.size 22 i0 (.int .u64 0) 1 8 Try.underlying34 hi hz0 hz1 hz2 rfl (by decide) _ _ _ rfl (HO.out.alloc _) ⟨wr.heap.size, 0, none⟩ 1 1 [wV 0] rfl rfl (cell_one_new _ _ _) (by simp [Value.oneCell']) (by unfold maxLen; omega) (by omega) (by have := hsz.out; simp; omega) ?_; intro v' w1' hown' hgrow _; obtain ⟨g', cap', rfl⟩ := ownsRow_succ hown'; have hF := hid (Fr.append1 HO.out hgrow); clear hgrow; replace hown' := hid hown')
        go_roundw
        case rel =>
          refine ⟨k + 1, by omega, by go_num, ?_, hc.join hF.out (by intros; omega)⟩
          rw [hcu.out, List.map_append, hcv.out]; exact hown'.out
        case measure => simp [intOf]; omega
    · obtain rfl : k = ws.length := by omega
      have hsm : Small ws (cuts ws l2 ws.length) := fun k hk => by rw [cuts_getD ws l2 hk]; exact cutv_lt ws l2 k
      have hcl := cuts_length ws l2 ws.length
      have hup := unpk_packed hf hsm hcl.symm (Nat.le_refl _)
      rw [List.take_of_length_le (by omega)] at hup
      have hlt := packed_lt hf hsm (Nat.le_refl _)
      have hps := packed_small hf hsm (Nat.le_refl _)
      have ho6 : (ofs ws ws.length).toNat ≤ 64 := by have := hf.le; omega
      have hov := (over_iff hlt ho6).2 hps
      rw [← allm_eq hf (Nat.le_refl _)] at hov
      have hrow := Row.of_owns HO.out
      have hcl' := hid hcl
      replace hup := hid hup
      replace hov := hid hov
      clear hcl hps ho6 hf HR LR hl2 hr2 hk hge hle
      go_wp2_with fail
      refine (pack_yes ws (cuts ws l2 ws.length) hf'.out hsm hcl'.out.symm (by omega) _ _ _ (hws.calm hc) hrow).mono ?_
      rintro e w4 ⟨rfl, c4⟩
      go_wp2_with fail
      refine (unpack_yes ws _ hlt hf'.out (by omega) _ _ ((hws.calm hc).calm c4)).mono ?_
      rintro e w5 ⟨c5, ⟨h1, rfl⟩ | ⟨h1, u, rfl, hu⟩⟩
      · exact absurd hov.out h1
      rw [hup.out, map_wV] at hu
      have hrow2 := (hrow.calm c4).calm c5
      rw [map_wV] at hrow2
      go_wp2_with fail
      refine (same01 u _ _ _ _ hu hrow2 (by simp [hcl'.out]; omega) (by simp [hcl'.out]; omega)).mono ?_
      rintro e w6 ⟨rfl, c6⟩
      rw [decide_eq_true rfl]
      go_wp2
      go_ret
      exact ⟨rfl, Calm.below ((((c1.trans hc).trans c4).trans c5).trans c6)⟩

end Go.Proofs.Ytlocklcldalklaa
