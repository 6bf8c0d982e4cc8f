/- WordForth returns true, whatever the input. -/
import Derived.Test.YtlocklcldalklaaW2
import Derived.LoopN
set_option linter.unusedSimpArgs false
set_option linter.unusedVariables false
namespace Go.Proofs.Ytlocklcldalklaa
open Go.RowKit Go.Shelf
attribute [local go_sem] Oper.semAt_some

/-- A row's cells, hidden. -/
theorem Row.cells {w : World} {v : Value} {q : IntKind} {ws : List Int} (h : Row w v (ws.map (Value.int q))) :
    ∃ a cap, v = .slice a ws.length cap ∧ Hid (∀ i, i < ws.length → ∃ b off, a = some ⟨b, off, none⟩ ∧ w.cell? ⟨b, off + i, none⟩ = some (.int q (ws.getD i 0))) := by
  obtain ⟨a, cap, hv, hc⟩ := h.at
  rw [List.length_map] at hv
  refine ⟨a, cap, hv, fun i hi => ?_⟩
  obtain ⟨b, off, h1, h2⟩ := hc i (by simpa using hi)
  exact ⟨b, off, h1, by rw [h2]; simp [List.getD, hi]⟩

set_option maxRecDepth 100000 in
set_option maxHeartbeats 1000000 in
theorem wordForth_walk (v : Value) (l : List Int) (hl : ∀ x ∈ l, I64 x) (hm : l.length ≤ maxLen) (X : Int) (hX : 0 ≤ X ∧ X ≤ 18446744073709551615) (w : World) (hr : Row w v (l.map (Value.int .i64))) :
    Calls Try.prog 5 #[v, .int .u64 X] w fun e w' => e = .returned (.bool true) ∧ Below w.heap.size w w' := by
  obtain ⟨X1, X2⟩ := hX
  obtain ⟨X, rfl⟩ := Int.eq_ofNat_of_zero_le X1
  have hX : X < 18446744073709551616 := by omega
  clear X1 X2
  go_enter Try.func5, Try.ntmps5
  go_wp2_with fail
  refine (awake01 _).mono ?_
  rintro e w1 ⟨rfl, c1⟩
  go_wp2_with fail
  refine (widths_is v l _ hl hm (hr.calm c1)).mono ?_
  rintro e w2 ⟨r, rfl, hws, c2⟩
  replace c1 := c1.trans c2
  obtain ⟨hf, _, _, _, hlen⟩ := wid_fits l (min l.length 20)
  have hl20 : (wid l (min l.length 20)).1.length ≤ 20 := by omega
  clear hlen hr hl hm c2
  generalize (wid l (min l.length 20)).1 = ws at *
  obtain ⟨a, cap, rfl, HR⟩ := hws.cells
  have hf' := hid hf
  go_wp2_with fail
  go_loopw [7, 8] (fun o i wr => ∃ k : Nat, k ≤ ws.length ∧ i = .int .i64 k ∧ o = .int .i64 (ofs ws k) ∧ wr = w2) (fun _ i _ => ws.length - (intOf i).toNat)
  case atStart => exact ⟨0, by omega, rfl, rfl, rfl⟩
  case round =>
    obtain ⟨k, hk, rfl, rfl, rfl⟩ := hrel
    rcases Nat.lt_or_ge k ws.length with hlt | hge
    · obtain ⟨b, off, rfl, hcell⟩ := HR.out k hlt
      obtain ⟨f1, f2, f3⟩ := hf.at hlt
      have he : Hid (ofs ws (k + 1) = ofs ws k + ws.getD k 0) := rfl
      generalize ofs ws k = o at *
      generalize ws.getD k 0 = x at *
      clear hws HR hf
      go_wp2
      go_roundw
      case rel => exact ⟨k + 1, by omega, by go_num, by rw [he.out], by trivial⟩
      case measure => simp [intOf]; omega
    · obtain rfl : k = ws.length := by omega
      obtain ⟨o, ho⟩ : ∃ o : Nat, ofs ws ws.length = o := ⟨(ofs ws ws.length).toNat, by have := ofs_mono hf.pos (i := 0) (Nat.zero_le _) (Nat.le_refl _); have h0 : ofs ws 0 = 0 := rfl; omega⟩
      have ho6 : o ≤ 64 := by have := hf.le; omega
      have hall : allm ws ws.length = mk 0 o := by rw [allm_eq hf (Nat.le_refl _), ho, Int.toNat_natCast]
      have hov := over_iff hX ho6
      have hpk := packed_unpk X hf (vs := unpk ws X ws.length) (fun k hk => unpk_getD ws X hk) (Nat.le_refl _)
      rw [ho, Int.toNat_natCast] at hpk
      have hsm : Small ws (unpk ws X ws.length) := fun k hk => by rw [unpk_getD ws X hk]; exact gt_lt _ _ _
      have hul := unpk_length ws X ws.length
      replace hall := hid hall
      replace hpk := hid hpk
      replace hul := hid hul
      replace hov := hid hov
      rw [ho]
      replace ho := hid ho
      clear hf hk hge
      go_wp2_with fail
      refine (unpack_yes ws X hX hf'.out (by omega) _ _ hws).mono ?_
      rintro e w3 ⟨c3, ⟨h1, rfl⟩ | ⟨h1, u, rfl, hu⟩⟩
      · rw [hall.out] at h1
        have hbig : 2 ^ o ≤ X := by
          rcases Nat.lt_or_ge X (2 ^ o) with h | h
          · exact absurd (hov.out.2 h) h1
          · exact h
        have hlt : (o : Int) < 64 := by
          rcases Nat.lt_or_ge o 64 with h | h
          · omega
          · obtain rfl : o = 64 := by omega
            rw [two64] at hbig; omega
        have hq : (0 : Int) < (X : Int) / 2 ^ o := by
          have h : 0 < X / 2 ^ o := Nat.div_pos hbig (Nat.two_pow_pos o)
          have e : (X : Int) / 2 ^ o = ((X / 2 ^ o : Nat) : Int) := by push_cast; rfl
          omega
        clear h1 hbig
        go_wp2
        go_ret
        exact ⟨rfl, Calm.below (c1.trans c3)⟩
      · rw [hall.out] at h1
        have hsmall := hov.out.1 h1
        have hq : (X : Int) / 2 ^ o = 0 := by
          have e : (X : Int) / 2 ^ o = ((X / 2 ^ o : Nat) : Int) := by push_cast; rfl
          rw [e, Nat.div_eq_of_lt hsmall]; rfl
        have hback : Hid (packed ws (unpk ws X ws.length) ws.length = X) := by
          show packed ws (unpk ws X ws.length) ws.length = X
          rw [hpk.out, Nat.mod_eq_of_lt hsmall]
        clear h1 hsmall
        by_cases hlt : (o : Int) < 64
        all_goals
          go_wp2_with fail
          refine (pack_yes ws (unpk ws X ws.length) hf'.out hsm hul.out.symm (by omega) _ _ _ (hws.calm c3) hu).mono ?_
          rintro e w4 ⟨rfl, c4⟩
          rw [hback.out]
          go_wp2
          go_ret
          exact ⟨rfl, Calm.below ((c1.trans c3).trans c4)⟩

end Go.Proofs.Ytlocklcldalklaa
