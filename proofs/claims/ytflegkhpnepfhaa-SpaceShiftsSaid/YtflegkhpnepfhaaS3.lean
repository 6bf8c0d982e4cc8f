/- SpaceShifts returns true, whatever the input. -/
import Derived.Test.YtflegkhpnepfhaaS2
set_option linter.unusedSimpArgs false
set_option linter.unusedVariables false
namespace Go.Proofs.Ytflegkhpnepfhaa
open Go.RowKit Go.Shelf

theorem take_not (b s t n : Int) (w : World) (h : okP b s t) (n2 : n ≤ 65536) (hl : ¬ (1 ≤ n ∧ rnd n ≤ s - (t - b))) :
    Calls Try.prog 21 #[spV b s t, .int .i64 n] w fun e w' => e = .returned (.tuple #[spV b s t, .int .i64 0, .bool false]) ∧ Calm w w' := by
  by_cases h1 : 1 ≤ n
  · exact take_full b s t n w h h1 n2 (by omega)
  · exact take_bad b s t n w h (by omega)

set_option maxRecDepth 100000 in
set_option maxHeartbeats 4000000 in
theorem spaceShifts_core (a0 a1 a2 : Int) (A0 : I64 a0) (A1 : I64 a1) (A2 : I64 a2) (y : Int) (hy : I64 y) (ad : Option Addr) (lb lo cap : Nat) (l : List Int) (hlen : l.length ≤ 9223372036854775807) (hl : ∀ x ∈ l, I64 x) (w : World)
    (had : 0 < l.length → ad = some ⟨lb, lo, none⟩) (hcell : ∀ i, i < l.length → w.cell? ⟨lb, lo + i, none⟩ = some (.int .i64 (l.getD i 0))) :
    Calls Try.prog 10 #[.agg #[.int .i64 a0, .int .i64 a1, .int .i64 a2], .int .i64 y, .slice ad l.length cap] w fun e w' => e = .returned (.bool true) ∧ Below w.heap.size w w' := by
  obtain ⟨N, hN⟩ : ∃ N, l.length = N := ⟨_, rfl⟩
  have hL : Hid (∀ i, i < N → I64 (l.getD i 0)) := by
    intro i hi
    rw [← hN] at hi
    have : l.getD i 0 = l[i] := by simp [List.getD, hi]
    rw [this]; exact hl _ (List.getElem_mem hi)
  rw [hN] at had hcell hlen ⊢
  have HAD : Hid (0 < N → ad = some ⟨lb, lo, none⟩) := had
  have HC : Hid (∀ i, i < N → w.cell? ⟨lb, lo + i, none⟩ = some (.int .i64 (l.getD i 0))) := hcell
  have HN9 : Hid (N ≤ 9223372036854775807) := hlen
  clear hN hl had hcell hlen
  have rd := pk_range y (n := 1000) (by omega)
  obtain ⟨d, hd⟩ : ∃ d, pk y 1000 = d := ⟨_, rfl⟩
  rw [hd] at rd
  obtain ⟨d1, d2⟩ := rd
  have HD : Hid (pk y 1000 = d) := hd
  clear hd
  go_enter Try.func10, Try.ntmps10
  go_wp2_with fail
  refine (awake05 _).mono ?_
  rintro e w1 ⟨rfl, c1⟩
  have o := (OwnL.new w [.int .i64 a0, .int .i64 a1, .int .i64 a2] 28).calm c1
  have x0 := (o 0 _ rfl).1
  have x1 := (o 1 _ rfl).1
  have x2 := (o 2 _ rfl).1
  have k1 : Calm w w1 := (Fr.alloc (Fr.refl _ w) _).trans c1
  clear c1 o
  go_wp2_with fail
  refine (fit05 a0 a1 a2 A0 A1 A2 _).mono ?_
  rintro e w2 ⟨b, s, t, ⟨b1, b2, s1, s2, t1, t2⟩, rfl, c2⟩
  clear x0 x1 x2
  have OK : Hid (okP b s t) := ⟨b1, by omega, s1, by omega, t1, t2⟩
  have k2 := k1.trans c2
  clear k1 c2
  go_wp2_with fail
  refine (empty_any b s t _ OK.out).mono ?_
  rintro e w3 ⟨rfl, c3⟩
  have k3 := k2.trans c3
  clear k2 c3 OK t1 t2
  go_wp2_with fail
  have o : OwnL (w3.alloc (.cells #[.int .i64 b, .int .i64 s, .int .i64 b] 30)) w3.heap.size [.int .i64 b, .int .i64 s, .int .i64 b] := OwnL.new w3 [.int .i64 b, .int .i64 s, .int .i64 b] _
  have k4 := Fr.alloc k3 (.cells #[.int .i64 b, .int .i64 s, .int .i64 b] 30)
  refine (pick05 y 1000 _ hy (by omega)).mono ?_
  rintro e w' ⟨rfl, rfl⟩
  rw [HD.out]
  obtain ⟨B, hB⟩ : ∃ B, w3.heap.size = B := ⟨_, rfl⟩
  have hBw : w.heap.size ≤ B := by rw [← hB]; exact k3.size
  obtain ⟨W4, hW4⟩ : ∃ W4, w3.alloc (.cells #[.int .i64 b, .int .i64 s, .int .i64 b] 30) = W4 := ⟨_, rfl⟩
  rw [hB] at o ⊢
  rw [hW4] at o k4 ⊢
  clear hB k3 hW4
  have x0 := (o 0 _ rfl).1
  have x1 := (o 1 _ rfl).1
  have x2 := (o 2 _ rfl).1
  go_wp2_with fail
  clear x0 x1 x2
  refine (make_yes (b + d) s _ (by omega) (by omega) (by omega) (by omega)).mono ?_
  rintro e w5 ⟨rfl, c5⟩
  replace o := o.calm c5
  have hc := k4.trans c5
  clear k4 c5
  have bl := o.lt (by simp)
  go_wp2_with fail
  have p : OwnL (w5.alloc (.cells #[.int .i64 (b + d), .int .i64 s, .int .i64 (b + d)] 30)) w5.heap.size [.int .i64 (b + d), .int .i64 s, .int .i64 (b + d)] := OwnL.new w5 [.int .i64 (b + d), .int .i64 s, .int .i64 (b + d)] _
  replace o := o.alloc (.cells #[.int .i64 (b + d), .int .i64 s, .int .i64 (b + d)] 30)
  replace hc := Fr.alloc hc (.cells #[.int .i64 (b + d), .int .i64 s, .int .i64 (b + d)] 30)
  obtain ⟨E, hE⟩ : ∃ E, w5.heap.size = E := ⟨_, rfl⟩
  rw [hE] at p bl ⊢
  clear hE
  go_loopw [12] (fun i wr => ∃ (k : Nat) (t : Int), k ≤ 20 ∧ k ≤ N ∧ b ≤ t ∧ t ≤ b + s ∧ i = .int .i64 k ∧ OwnL wr B [.int .i64 b, .int .i64 s, .int .i64 t] ∧ OwnL wr E [.int .i64 (b + d), .int .i64 s, .int .i64 (t + d)] ∧ Calm w wr) (fun i _ => 20 - (intOf i).toNat)
  case atStart => exact ⟨0, b, by omega, by omega, by omega, by omega, rfl, o, p, hc⟩
  case round =>
    clear o p hc
    obtain ⟨k, t', hk30, hkN, t1, t2, rfl, o, p, hc⟩ := hrel
    have OK : Hid (okP b s t') := ⟨b1, by omega, s1, by omega, t1, t2⟩
    have OE : Hid (okP (b + d) s (t' + d)) := ⟨by omega, by omega, s1, by omega, by omega, by omega⟩
    by_cases hlt : k < N ∧ k < 20
    · obtain ⟨g1, g2⟩ := hlt
      have q := HAD.out (by omega)
      subst q
      have li := hL.out k g1
      have d0 : wr.cell? ⟨lb, lo + k, none⟩ = some (.int .i64 (l.getD k 0)) := hc.cellAt (HC.out k g1) id
      obtain ⟨v, hv⟩ : ∃ v, l.getD k 0 = v := ⟨_, rfl⟩
      rw [hv] at li d0
      clear hv
      have rp := pk_range v (n := 40) (by omega)
      obtain ⟨m, hm⟩ : ∃ m, pk v 40 = m := ⟨_, rfl⟩
      rw [hm] at rp
      obtain ⟨m1, m2⟩ := rp
      have HM : Hid (pk v 40 = m) := hm
      clear hm
      by_cases hfit : 1 ≤ m ∧ rnd m ≤ s - (t' - b)
      · have rb := rnd_spec (n := m) (by omega)
        obtain ⟨r, hr⟩ : ∃ r, rnd m = r := ⟨_, rfl⟩
        rw [hr] at rb
        obtain ⟨r1, r2, r3⟩ := rb
        have hr2 : r ≤ s - (t' - b) := by rw [← hr]; exact hfit.2
        have F : Hid (1 ≤ m ∧ rnd m ≤ s - (t' - b)) := hfit
        have HR : Hid (rnd m = r) := hr
        clear hr hfit
        go_wp2_with fail
        refine (pick05 v 40 _ li (by omega)).mono ?_
        rintro e w' ⟨rfl, rfl⟩
        rw [HM.out]
        have x0 := (o 0 _ rfl).1
        have x1 := (o 1 _ rfl).1
        have x2 := (o 2 _ rfl).1
        go_wp2_with fail
        clear x0 x1 x2
        refine (take_yes b s t' m _ OK.out F.out.1 (by omega) F.out.2).mono ?_
        rintro e w6 ⟨rfl, c6⟩
        rw [HR.out]
        replace o := o.calm c6
        replace p := p.calm c6
        replace hc := hc.trans c6
        clear c6
        have y0 := (p 0 _ rfl).1
        have y1 := (p 1 _ rfl).1
        have y2 := (p 2 _ rfl).1
        have bl6 := o.lt (by simp)
        have pl6 := p.lt (by simp)
        go_wp2_with fail
        clear y0 y1 y2
        have u : OwnL (w6.alloc (.cells #[.int .i64 b, .int .i64 s, .int .i64 (t' + r)] 30)) w6.heap.size [.int .i64 b, .int .i64 s, .int .i64 (t' + r)] := OwnL.new w6 [.int .i64 b, .int .i64 s, .int .i64 (t' + r)] _
        replace o := o.alloc (.cells #[.int .i64 b, .int .i64 s, .int .i64 (t' + r)] 30)
        replace p := p.alloc (.cells #[.int .i64 b, .int .i64 s, .int .i64 (t' + r)] 30)
        replace hc := Fr.alloc hc (.cells #[.int .i64 b, .int .i64 s, .int .i64 (t' + r)] 30)
        obtain ⟨W7, hW7⟩ : ∃ W7, w6.alloc (.cells #[.int .i64 b, .int .i64 s, .int .i64 (t' + r)] 30) = W7 := ⟨_, rfl⟩
        obtain ⟨U, hU⟩ : ∃ U, w6.heap.size = U := ⟨_, rfl⟩
        rw [hW7] at u o p hc ⊢
        rw [hU] at u bl6 pl6 ⊢
        clear hW7 hU
        refine (take_yes (b + d) s (t' + d) m _ OE.out F.out.1 (by omega) (by have := F.out.2; omega)).mono ?_
        rintro e w8 ⟨rfl, c8⟩
        rw [HR.out]
        replace o := o.calm c8
        replace p := p.calm c8
        replace hc := hc.trans c8
        replace u := u.calm c8
        clear c8
        have x0 := (o 0 _ rfl).1
        have x1 := (o 1 _ rfl).1
        have x2 := (o 2 _ rfl).1
        have y0 := (p 0 _ rfl).1
        have y1 := (p 1 _ rfl).1
        have y2 := (p 2 _ rfl).1
        have x0f := (o 0 _ rfl).2
        have x1f := (o 1 _ rfl).2
        have x2f := (o 2 _ rfl).2
        have y0f := (p 0 _ rfl).2
        have y1f := (p 1 _ rfl).2
        have y2f := (p 2 _ rfl).2
        have z0 := (u 0 _ rfl).1
        have z1 := (u 1 _ rfl).1
        have z2 := (u 2 _ rfl).1
        have bl8 := o.lt (by simp)
        have pl8 := p.lt (by simp)
        have ul8 := u.lt (by simp)
        have e1 : (t' + d != t' + d) = false := by simp
        have e2 : (t' + r - b != t' + d + r - (b + d)) = false := by simp; omega
        go_wp2
        go_roundw
        case rel =>
          have oo := ((o.set3 (.int .i64 b) (.int .i64 s) (.int .i64 (t' + r))).1.far ⟨E, 0, none⟩ (.int .i64 (b + d)) (by simp; omega)).far ⟨E, 1, none⟩ (.int .i64 s) (by simp; omega) |>.far ⟨E, 2, none⟩ (.int .i64 (t' + d + r)) (by simp; omega)
          have pp := (((p.far ⟨B, 0, none⟩ (.int .i64 b) (by simp; omega)).far ⟨B, 1, none⟩ (.int .i64 s) (by simp; omega)).far ⟨B, 2, none⟩ (.int .i64 (t' + r)) (by simp; omega)).set3 (.int .i64 (b + d)) (.int .i64 s) (.int .i64 (t' + d + r))
          have hcc := (hc.join (o.set3 (.int .i64 b) (.int .i64 s) (.int .i64 (t' + r))).2 (by intro j h1 h2; omega)).join pp.2 (by intro j h1 h2; omega)
          exact ⟨k + 1, (t' + r), by omega, by omega, by omega, by omega, by go_num, oo.alloc _, (by rw [show t' + r + d = t' + d + r from by omega]; exact pp.1.alloc _), hcc.alloc _⟩
        case measure => simp [intOf]; omega
      · have F : Hid (¬ (1 ≤ m ∧ rnd m ≤ s - (t' - b))) := hfit
        clear hfit
        go_wp2_with fail
        refine (pick05 v 40 _ li (by omega)).mono ?_
        rintro e w' ⟨rfl, rfl⟩
        rw [HM.out]
        have x0 := (o 0 _ rfl).1
        have x1 := (o 1 _ rfl).1
        have x2 := (o 2 _ rfl).1
        go_wp2_with fail
        clear x0 x1 x2
        refine (take_not b s t' m _ OK.out (by omega) F.out).mono ?_
        rintro e w6 ⟨rfl, c6⟩
        replace o := o.calm c6
        replace p := p.calm c6
        replace hc := hc.trans c6
        clear c6
        have y0 := (p 0 _ rfl).1
        have y1 := (p 1 _ rfl).1
        have y2 := (p 2 _ rfl).1
        have bl6 := o.lt (by simp)
        have pl6 := p.lt (by simp)
        go_wp2_with fail
        clear y0 y1 y2
        have u : OwnL (w6.alloc (.cells #[.int .i64 b, .int .i64 s, .int .i64 t'] 30)) w6.heap.size [.int .i64 b, .int .i64 s, .int .i64 t'] := OwnL.new w6 [.int .i64 b, .int .i64 s, .int .i64 t'] _
        replace o := o.alloc (.cells #[.int .i64 b, .int .i64 s, .int .i64 t'] 30)
        replace p := p.alloc (.cells #[.int .i64 b, .int .i64 s, .int .i64 t'] 30)
        replace hc := Fr.alloc hc (.cells #[.int .i64 b, .int .i64 s, .int .i64 t'] 30)
        obtain ⟨W7, hW7⟩ : ∃ W7, w6.alloc (.cells #[.int .i64 b, .int .i64 s, .int .i64 t'] 30) = W7 := ⟨_, rfl⟩
        obtain ⟨U, hU⟩ : ∃ U, w6.heap.size = U := ⟨_, rfl⟩
        rw [hW7] at u o p hc ⊢
        rw [hU] at u bl6 pl6 ⊢
        clear hW7 hU
        refine (take_not (b + d) s (t' + d) m _ OE.out (by omega) (fun h => F.out ⟨h.1, by have := h.2; omega⟩)).mono ?_
        rintro e w8 ⟨rfl, c8⟩
        replace o := o.calm c8
        replace p := p.calm c8
        replace hc := hc.trans c8
        replace u := u.calm c8
        clear c8
        have x0 := (o 0 _ rfl).1
        have x1 := (o 1 _ rfl).1
        have x2 := (o 2 _ rfl).1
        have y0 := (p 0 _ rfl).1
        have y1 := (p 1 _ rfl).1
        have y2 := (p 2 _ rfl).1
        have x0f := (o 0 _ rfl).2
        have x1f := (o 1 _ rfl).2
        have x2f := (o 2 _ rfl).2
        have y0f := (p 0 _ rfl).2
        have y1f := (p 1 _ rfl).2
        have y2f := (p 2 _ rfl).2
        have z0 := (u 0 _ rfl).1
        have z1 := (u 1 _ rfl).1
        have z2 := (u 2 _ rfl).1
        have bl8 := o.lt (by simp)
        have pl8 := p.lt (by simp)
        have ul8 := u.lt (by simp)
        have e2 : (t' - b != t' + d - (b + d)) = false := by simp; omega
        go_wp2
        go_roundw
        case rel =>
          have oo := ((o.set3 (.int .i64 b) (.int .i64 s) (.int .i64 t')).1.far ⟨E, 0, none⟩ (.int .i64 (b + d)) (by simp; omega)).far ⟨E, 1, none⟩ (.int .i64 s) (by simp; omega) |>.far ⟨E, 2, none⟩ (.int .i64 (t' + d)) (by simp; omega)
          have pp := (((p.far ⟨B, 0, none⟩ (.int .i64 b) (by simp; omega)).far ⟨B, 1, none⟩ (.int .i64 s) (by simp; omega)).far ⟨B, 2, none⟩ (.int .i64 t') (by simp; omega)).set3 (.int .i64 (b + d)) (.int .i64 s) (.int .i64 (t' + d))
          have hcc := (hc.join (o.set3 (.int .i64 b) (.int .i64 s) (.int .i64 t')).2 (by intro j h1 h2; omega)).join pp.2 (by intro j h1 h2; omega)
          exact ⟨k + 1, t', by omega, by omega, by omega, by omega, by go_num, oo.alloc _, pp.1.alloc _, hcc.alloc _⟩
        case measure => simp [intOf]; omega
    · rcases (by omega : N ≤ k ∨ (k < N ∧ 20 ≤ k)) with h9 | ⟨h9, h10⟩
      all_goals
        clear hlt
        go_wp2_with fail
        have q0 : ∀ x : Later wr, x.w.cell? ⟨B, 0, none⟩ = some (.int .i64 b) := fun x => x.cell (o 0 _ rfl).1
        have q1 : ∀ x : Later wr, x.w.cell? ⟨B, 1, none⟩ = some (.int .i64 s) := fun x => x.cell (o 1 _ rfl).1
        have q2 : ∀ x : Later wr, x.w.cell? ⟨B, 2, none⟩ = some (.int .i64 t') := fun x => x.cell (o 2 _ rfl).1
        have p0 : ∀ x : Later wr, x.w.cell? ⟨E, 0, none⟩ = some (.int .i64 (b + d)) := fun x => x.cell (p 0 _ rfl).1
        have p1 : ∀ x : Later wr, x.w.cell? ⟨E, 1, none⟩ = some (.int .i64 s) := fun x => x.cell (p 1 _ rfl).1
        have p2 : ∀ x : Later wr, x.w.cell? ⟨E, 2, none⟩ = some (.int .i64 (t' + d)) := fun x => x.cell (p 2 _ rfl).1
        have e1 : (t' - b == t' + d - (b + d)) = true := by simp; omega
        have e2 : (s - (t' - b) == s - (t' + d - (b + d))) = true := by simp; omega
        refine wp_region_calm (by kernel_rfl) (by kernel_rfl) ?_
        repeat (go_big_quiet_step ((first | (go_at_call 19; exact Calls.calm_of (used_any _ _ _ _ (by first | exact OK.out | exact OE.out))) | (go_at_call 22; exact Calls.calm_of (left_any _ _ _ _ (by first | exact OK.out | exact OE.out))))))
        refine wpQuiet_nil ?_
        intro w9 hw'
        have c9 := Later.out hw'
        clear hw' q0 q1 q2 p0 p1 p2
        go_wp2
        go_ret
        exact ⟨rfl, Calm.below (hc.trans c9)⟩

theorem spaceShifts_walk (xs : List Int) (hx : xs.length = 3) (hxb : ∀ x ∈ xs, I64 x) (y : Int) (hy : I64 y) (v : Value) (l : List Int) (hl : ∀ x ∈ l, I64 x) (hm : l.length ≤ maxLen) (w : World) (hr : Row w v (l.map (Value.int .i64))) :
    Calls Try.prog 10 #[.agg (xs.map (Value.int .i64)).toArray, .int .i64 y, v] w fun e w' => e = .returned (.bool true) ∧ Below w.heap.size w w' := by
  obtain ⟨a0, a1, a2, rfl, A0, A1, A2⟩ := arr3 hx hxb
  obtain ⟨lb, lo, cap, hv, hc⟩ := hr.ints
  unfold maxLen at hm
  rcases hv with rfl | ⟨a, rfl, rfl⟩
  · exact spaceShifts_core a0 a1 a2 A0 A1 A2 y hy _ lb lo cap l hm hl w (fun _ => rfl) hc
  · exact spaceShifts_core a0 a1 a2 A0 A1 A2 y hy a 0 0 cap [] (by simp) (by simp) w (by simp) (by simp)

end Go.Proofs.Ytflegkhpnepfhaa
