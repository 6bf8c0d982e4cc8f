/- SpaceTakes returns true, whatever the input. -/
import Derived.Test.YtflegkhpnepfhaaS1
set_option linter.unusedSimpArgs false
set_option linter.unusedVariables false
namespace Go.Proofs.Ytflegkhpnepfhaa
open Go.RowKit Go.Shelf

/-- A row of ints that was there before the call, read in a later world. -/
theorem Row.int_at {w wr : World} {b off i : Nat} {x : Int} (h : w.cell? ⟨b, off + i, none⟩ = some (.int .i64 x)) (c : Calm w wr) : wr.cell? ⟨b, off + i, none⟩ = some (.int .i64 x) := c.cellAt h id

set_option maxRecDepth 100000 in
set_option maxHeartbeats 4000000 in
theorem spaceTakes_core (a0 a1 a2 : Int) (A0 : I64 a0) (A1 : I64 a1) (A2 : I64 a2) (ad : Option Addr) (lb lo cap : Nat) (l : List Int) (hlen : l.length ≤ 9223372036854775807) (hl : ∀ x ∈ l, I64 x) (w : World)
    (had : 0 < l.length → ad = some ⟨lb, lo, none⟩) (hcell : ∀ i, i < l.length → w.cell? ⟨lb, lo + i, none⟩ = some (.int .i64 (l.getD i 0))) :
    Calls Try.prog 8 #[.agg #[.int .i64 a0, .int .i64 a1, .int .i64 a2], .slice ad l.length cap] w fun e w' => e = .returned (.bool true) ∧ Below w.heap.size w w' := by
  obtain ⟨N, hN⟩ : ∃ N, l.length = N := ⟨_, rfl⟩
  have hL : Hid (∀ i, i < N → I64 (l.getD i 0)) := by
    intro i hi
    rw [← hN] at hi
    have : l.getD i 0 = l[i] := by simp [List.getD, hi]
    rw [this]; exact hl _ (List.getElem_mem hi)
  rw [hN] at had hcell hlen ⊢
  have HAD : Hid (0 < N → ad = some ⟨lb, lo, none⟩) := had
  have HC : Hid (∀ i, i < N → w.cell? ⟨lb, lo + i, none⟩ = some (.int .i64 (l.getD i 0))) := hcell
  have HN9 : Hid (N ≤ 9223372036854775807) := hlen
  clear hN hl had hcell hlen
  go_enter Try.func8, Try.ntmps8
  go_wp2_with fail
  refine (awake05 _).mono ?_
  rintro e w1 ⟨rfl, c1⟩
  have o := (OwnL.new w [.int .i64 a0, .int .i64 a1, .int .i64 a2] 28).calm c1
  have x0 := (o 0 _ rfl).1
  have x1 := (o 1 _ rfl).1
  have x2 := (o 2 _ rfl).1
  have k1 : Calm w w1 := (Fr.alloc (Fr.refl _ w) _).trans c1
  clear c1 o
  go_wp2_with fail
  refine (fit05 a0 a1 a2 A0 A1 A2 _).mono ?_
  rintro e w2 ⟨b, s, t, ⟨b1, b2, s1, s2, t1, t2⟩, rfl, c2⟩
  clear x0 x1 x2
  have OK : Hid (okP b s t) := ⟨b1, by omega, s1, by omega, t1, t2⟩
  have k2 := k1.trans c2
  clear k1 c2
  go_wp2_with fail
  refine (empty_any b s t _ OK.out).mono ?_
  rintro e w3 ⟨rfl, c3⟩
  have k3 := k2.trans c3
  clear k2 c3 OK t1 t2
  go_wp2_with fail
  have o : OwnL (w3.alloc (.cells #[.int .i64 b, .int .i64 s, .int .i64 b] 30)) w3.heap.size [.int .i64 b, .int .i64 s, .int .i64 b] := OwnL.new w3 [.int .i64 b, .int .i64 s, .int .i64 b] _
  have k4 := Fr.alloc k3 (.cells #[.int .i64 b, .int .i64 s, .int .i64 b] 30)
  obtain ⟨B, hB⟩ : ∃ B, w3.heap.size = B := ⟨_, rfl⟩
  have hBw : w.heap.size ≤ B := by rw [← hB]; exact k3.size
  rw [hB] at o ⊢
  clear hB k3
  go_loopw [7, 8] (fun e i wr => ∃ (k : Nat) (t : Int), k ≤ 30 ∧ k ≤ N ∧ b ≤ t ∧ t ≤ b + s ∧ i = .int .i64 k ∧ e = .int .i64 t ∧ OwnL wr B [.int .i64 b, .int .i64 s, .int .i64 t] ∧ Calm w wr) (fun _ i _ => 30 - (intOf i).toNat)
  case atStart => exact ⟨0, b, by omega, by omega, by omega, by omega, rfl, rfl, o, k4⟩
  case round =>
    clear o k4
    obtain ⟨k, t', hk30, hkN, t1, t2, rfl, rfl, o, hc⟩ := hrel
    have OK : Hid (okP b s t') := ⟨b1, by omega, s1, by omega, t1, t2⟩
    have x0 := (o 0 _ rfl).1
    have x1 := (o 1 _ rfl).1
    have x2 := (o 2 _ rfl).1
    have bl := o.lt (by simp)
    by_cases hlt : k < N ∧ k < 30
    · obtain ⟨g1, g2⟩ := hlt
      have q := HAD.out (by omega)
      subst q
      have li := hL.out k g1
      have d0 : wr.cell? ⟨lb, lo + k, none⟩ = some (.int .i64 (l.getD k 0)) := hc.cellAt (HC.out k g1) id
      obtain ⟨v, hv⟩ : ∃ v, l.getD k 0 = v := ⟨_, rfl⟩
      rw [hv] at li d0
      clear hv
      have rp := pk_range v (n := 40) (by omega)
      obtain ⟨m, hm⟩ : ∃ m, pk v 40 = m := ⟨_, rfl⟩
      rw [hm] at rp
      obtain ⟨m1, m2⟩ := rp
      have HM : Hid (pk v 40 = m) := hm
      clear hm
      have rb := rnd_spec (n := 1 + m) (by omega)
      have rb2 := rnd_small48 (n := 1 + m) (by omega)
      obtain ⟨r, hr⟩ : ∃ r, rnd (1 + m) = r := ⟨_, rfl⟩
      rw [hr] at rb rb2
      obtain ⟨r1, r2, _⟩ := rb
      have HR : Hid (rnd (1 + m) = r) := hr
      clear hr
      go_wp2_with fail
      refine (pick05 v 40 _ li (by omega)).mono ?_
      rintro e w' ⟨rfl, rfl⟩
      rw [HM.out]
      go_wp2_with fail
      refine (round_yes _ (by omega) (by omega) _).mono ?_
      rintro e w4 ⟨rfl, c4⟩
      rw [HR.out]
      clear x0 x1 x2
      replace o := o.calm c4
      replace hc := hc.trans c4
      clear c4
      have x0 := (o 0 _ rfl).1
      have x1 := (o 1 _ rfl).1
      have x2 := (o 2 _ rfl).1
      go_wp2_with fail
      refine (used_any b s t' _ OK.out).mono ?_
      rintro e w5 ⟨rfl, c5⟩
      clear x0 x1 x2
      replace o := o.calm c5
      replace hc := hc.trans c5
      clear c5
      have x0 := (o 0 _ rfl).1
      have x1 := (o 1 _ rfl).1
      have x2 := (o 2 _ rfl).1
      go_wp2_with fail
      by_cases hfit : r ≤ s - (t' - b)
      · refine (take_yes b s t' (1 + m) _ OK.out (by omega) (by omega) (by rw [HR.out]; exact hfit)).mono ?_
        rintro e w6 ⟨rfl, c6⟩
        rw [HR.out]
        clear x0 x1 x2
        replace o := o.calm c6
        replace hc := hc.trans c6
        clear c6
        have x0 := (o 0 _ rfl).1
        have x1 := (o 1 _ rfl).1
        have x2 := (o 2 _ rfl).1
        have bl6 := o.lt (by simp)
        go_wp2_with fail
        have od : OwnL (w6.alloc (.cells #[.int .i64 b, .int .i64 s, .int .i64 (t' + r)] 30)) w6.heap.size [.int .i64 b, .int .i64 s, .int .i64 (t' + r)] := OwnL.new w6 [.int .i64 b, .int .i64 s, .int .i64 (t' + r)] _
        replace o := o.alloc (.cells #[.int .i64 b, .int .i64 s, .int .i64 (t' + r)] 30)
        replace hc := Fr.alloc hc (.cells #[.int .i64 b, .int .i64 s, .int .i64 (t' + r)] 30)
        have hDB : B < w6.heap.size := bl6
        obtain ⟨W7, hW7⟩ : ∃ W7, w6.alloc (.cells #[.int .i64 b, .int .i64 s, .int .i64 (t' + r)] 30) = W7 := ⟨_, rfl⟩
        obtain ⟨D, hD⟩ : ∃ D, w6.heap.size = D := ⟨_, rfl⟩
        rw [hW7] at od o hc ⊢
        rw [hD] at od hDB ⊢
        clear hW7 hD bl6 x0 x1 x2
        have OT : Hid (okP b s (t' + r)) := ⟨b1, by omega, s1, by omega, by omega, by omega⟩
        have q0 : ∀ x : Later W7, x.w.cell? ⟨B, 0, none⟩ = some (.int .i64 b) := fun x => x.cell (o 0 _ rfl).1
        have q1 : ∀ x : Later W7, x.w.cell? ⟨B, 1, none⟩ = some (.int .i64 s) := fun x => x.cell (o 1 _ rfl).1
        have q2 : ∀ x : Later W7, x.w.cell? ⟨B, 2, none⟩ = some (.int .i64 t') := fun x => x.cell (o 2 _ rfl).1
        have d1 : decide (r ≤ s - (t' - b)) = true := by simpa using hfit
        have wr1 : IntKind.i64.wrap (t' - b + (s - (t' - b))) = s := by rw [IntWalk.i64_in _ (by omega)]; omega
        have e1 : (s != s) = false := by simp
        refine wp_region_calm (by kernel_rfl) (by kernel_rfl) ?_
        repeat (go_big_quiet_step ((go_at_call 22; exact Calls.calm_of (left_any b s t' _ OK.out))))
        refine wpQuiet_nil ?_
        intro w8 hw'
        have c8 := Later.out hw'
        clear hw' q0 q1 q2 d1 wr1 e1
        replace o := o.calm c8
        replace hc := hc.trans c8
        replace od := od.calm c8
        clear c8
        have z0 := (od 0 _ rfl).1
        have z1 := (od 1 _ rfl).1
        have z2 := (od 2 _ rfl).1
        go_wp2_with fail
        refine (used_any b s (t' + r) _ OT.out).mono ?_
        rintro e w9 ⟨rfl, c9⟩
        clear z0 z1 z2
        replace o := o.calm c9
        replace hc := hc.trans c9
        replace od := od.calm c9
        clear c9
        have z0 := (od 0 _ rfl).1
        have z1 := (od 1 _ rfl).1
        have z2 := (od 2 _ rfl).1
        have e2 : (t' + r - b != t' - b + r) = false := by simp; omega
        go_wp2_with fail
        clear e2
        refine (has_yes b s (t' + r) t' _ OT.out (by omega) (by omega)).mono ?_
        rintro e w10 ⟨rfl, c10⟩
        clear z0 z1 z2
        replace o := o.calm c10
        replace hc := hc.trans c10
        replace od := od.calm c10
        clear c10
        have z0 := (od 0 _ rfl).1
        have z1 := (od 1 _ rfl).1
        have z2 := (od 2 _ rfl).1
        go_wp2_with fail
        refine (has_yes b s (t' + r) _ _ OT.out (by omega) (by omega)).mono ?_
        rintro e w11 ⟨rfl, c11⟩
        clear z0 z1 z2
        replace o := o.calm c11
        replace hc := hc.trans c11
        replace od := od.calm c11
        clear c11
        have z0 := (od 0 _ rfl).1
        have z1 := (od 1 _ rfl).1
        have z2 := (od 2 _ rfl).1
        go_wp2_with fail
        refine (has_no b s (t' + r) _ _ OT.out (by omega)).mono ?_
        rintro e w12 ⟨rfl, c12⟩
        clear z0 z1 z2
        replace o := o.calm c12
        replace hc := hc.trans c12
        replace od := od.calm c12
        clear c12
        have x0 := (o 0 _ rfl).1
        have x1 := (o 1 _ rfl).1
        have x2 := (o 2 _ rfl).1
        go_wp2_with fail
        refine (has_no b s t' _ _ OK.out (by omega)).mono ?_
        rintro e w13 ⟨rfl, c13⟩
        clear x0 x1 x2
        replace o := o.calm c13
        replace hc := hc.trans c13
        replace od := od.calm c13
        clear c13
        have z0 := (od 0 _ rfl).1
        have z1 := (od 1 _ rfl).1
        have z2 := (od 2 _ rfl).1
        have x0 := (o 0 _ rfl).1
        have x1 := (o 1 _ rfl).1
        have x2 := (o 2 _ rfl).1
        have y0 := (o 0 _ rfl).2
        have y1 := (o 1 _ rfl).2
        have y2 := (o 2 _ rfl).2
        go_wp2
        go_roundw
        case rel =>
          obtain ⟨u0, uf⟩ := o.set3 (.int .i64 b) (.int .i64 s) (.int .i64 (t' + r))
          exact ⟨k + 1, t' + r, by omega, by omega, by omega, by omega, by go_num, rfl, u0, hc.join uf (by intro j h1 h2; omega)⟩
        case measure => simp [intOf]; omega
      · refine (take_full b s t' (1 + m) _ OK.out (by omega) (by omega) (by rw [HR.out]; omega)).mono ?_
        rintro e w6 ⟨rfl, c6⟩
        clear x0 x1 x2
        replace o := o.calm c6
        replace hc := hc.trans c6
        clear c6
        have x0 := (o 0 _ rfl).1
        have x1 := (o 1 _ rfl).1
        have x2 := (o 2 _ rfl).1
        have bl6 := o.lt (by simp)
        go_wp2_with fail
        have od : OwnL (w6.alloc (.cells #[.int .i64 b, .int .i64 s, .int .i64 t'] 30)) w6.heap.size [.int .i64 b, .int .i64 s, .int .i64 t'] := OwnL.new w6 [.int .i64 b, .int .i64 s, .int .i64 t'] _
        replace o := o.alloc (.cells #[.int .i64 b, .int .i64 s, .int .i64 t'] 30)
        replace hc := Fr.alloc hc (.cells #[.int .i64 b, .int .i64 s, .int .i64 t'] 30)
        have hDB : B < w6.heap.size := bl6
        obtain ⟨W7, hW7⟩ : ∃ W7, w6.alloc (.cells #[.int .i64 b, .int .i64 s, .int .i64 t'] 30) = W7 := ⟨_, rfl⟩
        obtain ⟨D, hD⟩ : ∃ D, w6.heap.size = D := ⟨_, rfl⟩
        rw [hW7] at od o hc ⊢
        rw [hD] at od hDB ⊢
        clear hW7 hD bl6 x0 x1 x2
        have q0 : ∀ x : Later W7, x.w.cell? ⟨B, 0, none⟩ = some (.int .i64 b) := fun x => x.cell (o 0 _ rfl).1
        have q1 : ∀ x : Later W7, x.w.cell? ⟨B, 1, none⟩ = some (.int .i64 s) := fun x => x.cell (o 1 _ rfl).1
        have q2 : ∀ x : Later W7, x.w.cell? ⟨B, 2, none⟩ = some (.int .i64 t') := fun x => x.cell (o 2 _ rfl).1
        have d1 : decide (r ≤ s - (t' - b)) = false := by simpa using hfit
        have wr1 : IntKind.i64.wrap (t' - b + (s - (t' - b))) = s := by rw [IntWalk.i64_in _ (by omega)]; omega
        have e1 : (s != s) = false := by simp
        refine wp_region_calm (by kernel_rfl) (by kernel_rfl) ?_
        repeat (go_big_quiet_step ((go_at_call 22; exact Calls.calm_of (left_any b s t' _ OK.out))))
        refine wpQuiet_nil ?_
        intro w8 hw'
        have c8 := Later.out hw'
        clear hw' q0 q1 q2 d1 wr1 e1
        replace o := o.calm c8
        replace hc := hc.trans c8
        replace od := od.calm c8
        clear c8
        have z0 := (od 0 _ rfl).1
        have z1 := (od 1 _ rfl).1
        have z2 := (od 2 _ rfl).1
        have x0 := (o 0 _ rfl).1
        have x1 := (o 1 _ rfl).1
        have x2 := (o 2 _ rfl).1
        go_wp2
        go_roundw
        case rel => exact ⟨k + 1, t', by omega, by omega, by omega, by omega, by go_num, rfl, o, hc⟩
        case measure => simp [intOf]; omega
    · rcases (by omega : N ≤ k ∨ (k < N ∧ 30 ≤ k)) with h9 | ⟨h9, h10⟩
      all_goals
        clear hlt
        go_wp2_with fail
        refine (sright_yes b s t' _ OK.out).mono ?_
        rintro e w4 ⟨rfl, c4⟩
        go_wp2
        go_ret
        exact ⟨by first | rfl | (simp; omega), Calm.below (hc.trans c4)⟩

theorem spaceTakes_walk (xs : List Int) (hx : xs.length = 3) (hxb : ∀ x ∈ xs, I64 x) (v : Value) (l : List Int) (hl : ∀ x ∈ l, I64 x) (hm : l.length ≤ maxLen) (w : World) (hr : Row w v (l.map (Value.int .i64))) :
    Calls Try.prog 8 #[.agg (xs.map (Value.int .i64)).toArray, v] w fun e w' => e = .returned (.bool true) ∧ Below w.heap.size w w' := by
  obtain ⟨a0, a1, a2, rfl, A0, A1, A2⟩ := arr3 hx hxb
  obtain ⟨lb, lo, cap, hv, hc⟩ := hr.ints
  unfold maxLen at hm
  rcases hv with rfl | ⟨a, rfl, rfl⟩
  · exact spaceTakes_core a0 a1 a2 A0 A1 A2 _ lb lo cap l hm hl w (fun _ => rfl) hc
  · exact spaceTakes_core a0 a1 a2 A0 A1 A2 a 0 0 cap [] (by simp) (by simp) w (by simp) (by simp)

end Go.Proofs.Ytflegkhpnepfhaa
