/- WordPlaces returns true, whatever the input. -/
import Derived.Test.YtlocklcldalklaaW4
set_option linter.unusedSimpArgs false
set_option linter.unusedVariables false
namespace Go.Proofs.Ytlocklcldalklaa
open Go.RowKit Go.Shelf
attribute [local go_sem] Oper.semAt_some

theorem Row.of_ownL {w : World} {g : Nat} {vs : List Value} (h : OwnL w g vs) (c : Nat) : Row w (.slice (some ⟨g, 0, none⟩) vs.length c) vs :=
  ⟨_, c, rfl, .inr ⟨g, 0, rfl, fun i hi => by rw [Nat.zero_add]; exact (h i _ (by simp [hi])).1⟩⟩

theorem ownL_of_row {w : World} {base : Nat} {e : TypeId} {g n cap : Nat} {xs : List Value} (h : w.ownsRow base e 1 (.slice (some ⟨g, 0, none⟩) n cap) n xs) : OwnL w g xs := by
  obtain ⟨hl, h⟩ := h
  rcases h with ⟨h, _⟩ | ⟨g', cap', cur, hv, _, hg, hn, _, hcur, hx⟩
  · cases h
  · cases hv
    intro i v hv
    have hi : i < xs.length := (List.getElem?_eq_some_iff.1 hv).1
    have h2 : cur[i]? = some v := by
      rw [← Array.getElem?_toList, ← hv, ← hx, List.getElem?_take, if_pos (by omega)]
    have hi2 : i < cur.size := (Array.getElem?_eq_some_iff.1 h2).1
    refine ⟨by simp [World.cell?, hg, h2], by simp [World.frozen?, hg]⟩

theorem zeros (n : Nat) : (madeCells (Value.int .u64 0).cells (n * 1)).toList = (List.replicate n 0).map wV := by
  rw [Nat.mul_one]
  apply List.ext_getElem
  · simp [madeCells]
  · intro i h1 h2
    simp [madeCells, Value.cells, Nat.mod_one]

theorem set_getD (n c y k : Nat) (hc : c < n) : ((List.replicate n 0).set c y).getD k 0 = if k = c then y else 0 := by
  simp only [List.getD, List.getElem?_set, List.length_replicate, List.getElem?_replicate]
  by_cases h : c = k
  · subst h; simp [hc]
  · have h' : ¬ k = c := fun e => h e.symm
    simp only [h, h', if_false]
    split <;> rfl

set_option maxRecDepth 100000 in
set_option maxHeartbeats 2000000 in
theorem wordPlaces_walk (v : Value) (l : List Int) (hl : ∀ x ∈ l, I64 x) (hm : l.length ≤ maxLen) (q : Int) (hq : I64 q) (V : Int) (hV : 0 ≤ V ∧ V ≤ 18446744073709551615) (w : World) (hr : Row w v (l.map (Value.int .i64))) :
    Calls Try.prog 8 #[v, .int .i64 q, .int .u64 V] w fun e w' => e = .returned (.bool true) ∧ Below w.heap.size w w' := by
  obtain ⟨i0, hi, hz0, hz1, hz2⟩ := info_parts info_u64
  obtain ⟨V1, V2⟩ := hV
  obtain ⟨V, rfl⟩ := Int.eq_ofNat_of_zero_le V1
  clear V1
  go_enter Try.func8, Try.ntmps8
  go_wp2_with fail
  refine (awake01 _).mono ?_
  rintro e w1 ⟨rfl, c1⟩
  go_wp2_with fail
  refine (widths_is v l _ hl hm (hr.calm c1)).mono ?_
  rintro e w2 ⟨r, rfl, hws, c2⟩
  replace c1 := c1.trans c2
  obtain ⟨hf, _, _, _, hlen⟩ := wid_fits l (min l.length 20)
  have hl20 : (wid l (min l.length 20)).1.length ≤ 20 := by omega
  have hle := wid_le l (min l.length 20)
  clear hlen hr hl hm c2
  generalize (wid l (min l.length 20)).1 = ws at *
  obtain ⟨a, cap, rfl, HR⟩ := hws.cells
  rcases Nat.eq_zero_or_pos ws.length with h0 | hpos
  · clear hf hle HR hws
    have hz : (ws.length : Int) = 0 := by omega
    have hz' : ((ws.length : Int) == 0) = true := by simp [h0]
    rw [h0]
    clear hz hz' h0 hl20
    go_wp2
    go_ret
    exact ⟨rfl, Calm.below c1⟩
  obtain ⟨k1, k2⟩ := pk_range q (n := ws.length) (by omega)
  obtain ⟨c, hc⟩ := Int.eq_ofNat_of_zero_le k1
  rw [hc] at k2
  have hcn : c < ws.length := by omega
  have hne : ((ws.length : Int) == 0) = false := by rw [beq_eq_false_iff_ne]; omega
  obtain ⟨b, off, rfl, hcell⟩ := HR.out c hcn
  obtain ⟨f1, f2, f3⟩ := hf.at hcn
  obtain ⟨d, hd⟩ := Int.eq_ofNat_of_zero_le (Int.le_trans (by decide) f2 : (0 : Int) ≤ ws.getD c 0)
  obtain ⟨o, ho⟩ := Int.eq_ofNat_of_zero_le f1
  have hd20 : d ≤ 20 := by have := hle c hcn; rw [hd] at this; omega
  rw [hd] at f2 f3 hcell
  rw [ho] at f3
  obtain ⟨M, hM⟩ : ∃ M : Nat, 2 ^ d = M := ⟨_, rfl⟩
  have hMp : 0 < M := by rw [← hM]; exact Nat.two_pow_pos d
  have hM2 : M ≤ 1048576 := by rw [← hM]; exact Nat.le_trans (pow_le hd20) (by decide)
  have hMi : (2 : Int) ^ d = (M : Int) := by rw [← hM]; push_cast; rfl
  have hw1 : IntKind.u64.wrap (1 * 2 ^ d) = (M : Int) := by rw [hMi, Int.one_mul, IntKind.wrap_u64]; omega
  have hw2 : IntKind.u64.wrap (2 ^ d) = (M : Int) := by rw [hMi, IntKind.wrap_u64]; omega
  have hw3 : IntKind.u64.wrap (M : Int) = (M : Int) := by rw [IntKind.wrap_u64]; omega
  have hM0 : ((M : Int) == 0) = false := by simp; omega
  obtain ⟨y, hy⟩ : ∃ y : Nat, V % M = y := ⟨_, rfl⟩
  have hyM : y < M := by rw [← hy]; exact Nat.mod_lt _ hMp
  have ht2 : (V : Int) % (M : Int) = (y : Int) := by rw [← hy]; push_cast; rfl
  have ht : Int.tmod (V : Int) (M : Int) = (y : Int) := by rw [Int.tmod_eq_emod_of_nonneg (by omega)]; exact ht2
  have hvg := set_getD ws.length c y
  have hsm : Small ws ((List.replicate ws.length 0).set c y) := fun k hk => by
    rw [hvg k hcn]
    by_cases h : k = c
    · subst h; rw [if_pos rfl, hd, Int.toNat_natCast, hM]; exact hyM
    · rw [if_neg h]; exact Nat.two_pow_pos _
  have hp1 := packed_one hf hsm c (fun k hk => by rw [hvg k hcn, if_neg hk]) (Nat.le_refl _)
  have hp2 := packed_get hf hsm (Nat.le_refl _) hcn
  have hp3 := packed_lt hf hsm (Nat.le_refl _)
  rw [if_pos hcn, hvg c hcn, if_pos rfl, ho, Int.toNat_natCast] at hp1
  rw [hvg c hcn, if_pos rfl, ho, hd, Int.toNat_natCast, Int.toNat_natCast] at hp2
  obtain ⟨P, hP⟩ : ∃ P, packed ws ((List.replicate ws.length 0).set c y) ws.length = P := ⟨_, rfl⟩
  rw [hP] at hp1 hp2 hp3
  have hsh := (shl_eq (s := o) (d := d) (v := y) (by omega) (by rw [hM]; exact hyM)).1
  rw [← hp1] at hsh
  have hPi : (y : Int) * 2 ^ o = (P : Int) := by rw [hp1]; push_cast; rfl
  replace hy := hid hy
  replace hM := hid hM
  replace hp1 := hid hp1
  replace hP := hid hP
  replace ho := hid ho
  replace hd := hid hd
  replace hc := hid hc
  replace hf := hid hf
  replace hle := hid hle
  replace hvg := hid hvg
  replace hp2 := hid hp2
  replace hsh := hid hsh
  replace hPi := hid hPi
  clear k1 hpos f1
  go_wp2_with fail
  refine (pick01 q ws.length _ hq (by omega)).mono ?_
  rintro e w2' ⟨rfl, rfl⟩
  rw [hc.out]
  go_wp2_with (at_make; refine wpList_make_full _ rfl _ _ 34 rfl w2.heap.size 22 i0 (.int .u64 0) 1 Try.underlying34 hi hz0 hz1 .i64 .i64 ws.length ws.length ws.length rfl rfl rfl rfl (by rw [hz2]; omega) (by unfold maxLen; omega) (Nat.le_refl _) ?_; intro w3 hown hgrow; rw [zeros] at hown; have c3 : Hid (Calm w2 w3) := Fr.grown (Fr.refl _ _) hgrow (fun k hk => by cases hk); have OL := ownL_of_row hown; have own0 := OL c (wV 0) (by simp [hcn]); have own1 := own0.1; have own2 := own0.2; have hcell2 := c3.out.cellAt hcell id; clear hown hgrow own0; replace OL := hid OL)
  have OL2 := hid (OL.out.set c (wV y) (by simp [hcn]))
  have cw : Calm w2 (w3.setCell ⟨w2.heap.size, c, none⟩ (wV y)) := Fr.setCell c3.out (.inr (Nat.le_refl _)) _
  have hws4 := hws.calm cw
  have cc := c1.trans cw
  obtain ⟨w4, hw4⟩ : ∃ w4, w3.setCell ⟨w2.heap.size, c, none⟩ (wV y) = w4 := ⟨_, rfl⟩
  rw [hw4] at OL2 cw hws4 cc ⊢
  obtain ⟨a', cap', hv', HR4⟩ := hws4.cells
  cases hv'
  clear hw4 own1 own2 hcell2 OL c3 HR hw1 hw2 hw3 hM0 ht ht2 hMi
  go_loopw [11, 12] (fun o i wr => ∃ k : Nat, k ≤ c ∧ i = .int .i64 k ∧ o = .int .i64 (ofs ws k) ∧ wr = w4) (fun _ i _ => c - (intOf i).toNat)
  case atStart => exact ⟨0, by omega, rfl, rfl, rfl⟩
  case round =>
    obtain ⟨k, hk, rfl, rfl, rfl⟩ := hrel
    rcases Nat.lt_or_ge k c with hlt | hge
    · obtain ⟨b5, off5, hb5, hcell5⟩ := HR4.out k (by omega)
      cases hb5
      obtain ⟨f1', f2', f3'⟩ := hf.out.at (k := k) (by omega)
      have he : Hid (ofs ws (k + 1) = ofs ws k + ws.getD k 0) := rfl
      generalize ofs ws k = o' at *
      generalize ws.getD k 0 = x' at *
      clear hws hws4 HR4
      go_wp2
      go_roundw
      case rel => exact ⟨k + 1, by omega, by go_num, by rw [he.out], by trivial⟩
      case measure => simp [intOf]; omega
    · obtain rfl : k = c := by omega
      have hvl : ((List.replicate ws.length 0).set k y).length = ws.length := by simp
      have hrow : Row wr (.slice (some ⟨w2.heap.size, 0, none⟩) ws.length ws.length) (((List.replicate ws.length 0).set k y).map wV) := by
        have := Row.of_ownL OL2.out ws.length
        rw [← List.map_set] at this
        simpa [hvl] using this
      have own1 := (OL2.out k (wV y) (by simp [hcn])).1
      obtain ⟨b5, off5, hb5, hcell5⟩ := HR4.out k (by omega)
      cases hb5
      rw [hd.out] at hcell5
      rw [ho.out]
      replace hvl := hid hvl
      clear HR4 OL2 hws hk hge
      go_wp2_with fail
      refine (pack_yes ws _ hf.out hsm hvl.out.symm (by omega) _ _ _ hws4 hrow).mono ?_
      rintro e w5 ⟨rfl, c5⟩
      rw [hP.out]
      have q1 := c5.cellAt own1 id
      have q2 := c5.cellAt hcell5 id
      clear own1 hcell5 hrow hws4
      have hsh' := hsh.out
      have hPi' := hPi.out
      go_wp2_with fail
      have r1 : ∀ x : Later w5, x.w.cell? ⟨w2.heap.size, k, none⟩ = some (wV y) := fun x => x.cell q1
      have r2 : ∀ x : Later w5, x.w.cell? ⟨b, off + k, none⟩ = some (.int .i64 d) := fun x => x.cell q2
      have g1 : ((P : Int) == (P : Int)) = true := by simp
      have g2 : ((y : Int) == (y : Int)) = true := by simp
      have gg := fun W' => get_nat P o d hp3 (by omega) (by omega) W'
      rw [hp2.out] at gg
      refine wp_region_calm (by kernel_rfl) (by kernel_rfl) ?_
      repeat (go_big_quiet_step ((go_at_call 14; exact Calls.calm_of (gg _))))
      refine wpQuiet_nil ?_
      intro W2 hw'
      have c2 := Later.out hw'
      clear hw' r1 r2
      go_wp2
      go_ret
      exact ⟨rfl, Calm.below ((cc.trans c5).trans c2)⟩

end Go.Proofs.Ytlocklcldalklaa
