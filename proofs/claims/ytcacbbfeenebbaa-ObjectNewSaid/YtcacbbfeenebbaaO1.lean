/- ObjectNew returns true, whatever the input. -/
import Derived.Test.YtcacbbfeenebbaaRow07
set_option linter.unusedSimpArgs false
set_option linter.unusedVariables false
namespace Go.Proofs.Ytcacbbfeenebbaa
open Go.RowKit Go.Shelf

theorem fl40 : (fl (List.replicate 40 0) 0 12345 40).length = 40 ∧ ∀ j, j < 40 → (fl (List.replicate 40 0) 0 12345 40).getD j 0 = 12345 :=
  ⟨by rw [fl_length]; simp, fun j hj => by rw [fl_getD _ _ _ _ _ (by simp), if_pos (by omega)]⟩

set_option maxRecDepth 100000 in
set_option maxHeartbeats 2000000 in
theorem objectNew_walk (xs : List Int) (hx : xs.length = 3) (hxb : ∀ x ∈ xs, I64 x) (at_ : Int) (hat : I64 at_) (ser : Int) (hser : I64 ser) (w : World) :
    Calls Try.prog 3 #[.agg (xs.map (Value.int .i64)).toArray, .int .i64 at_, .int .i64 ser] w fun e w' => e = .returned (.bool true) ∧ Below w.heap.size w w' := by
  obtain ⟨a0, a1, a2, rfl, A0, A1, A2⟩ := arr3 hx hxb
  clear hx hxb
  simp only [List.map_cons, List.map_nil]
  have rk := pk_range at_ (n := 44) (by omega)
  have rm := pk_range ser (n := 1099511627777) (by omega)
  obtain ⟨K, hK⟩ : ∃ K, pk at_ 44 = K := ⟨_, rfl⟩
  obtain ⟨M, hM⟩ : ∃ M, pk ser 1099511627777 = M := ⟨_, rfl⟩
  rw [hK] at rk
  rw [hM] at rm
  obtain ⟨rk1, rk2⟩ := rk
  obtain ⟨rm1, rm2⟩ := rm
  obtain ⟨K, rfl⟩ := Int.eq_ofNat_of_zero_le rk1
  obtain ⟨M, rfl⟩ := Int.eq_ofNat_of_zero_le rm1
  replace hK := hid hK
  replace hM := hid hM
  replace A0 := hid A0
  replace A1 := hid A1
  replace A2 := hid A2
  replace hat := hid hat
  replace hser := hid hser
  go_enter Try.func3, Try.ntmps3
  go_wp2_with fail
  refine (awake07 _).mono ?_
  rintro e w1 ⟨rfl, c1⟩
  have oa := (OwnL.new w [.int .i64 a0, .int .i64 a1, .int .i64 a2] 22).calm c1
  have s1 := c1.size
  rw [World.size_alloc] at s1
  replace c1 := ((Fr.refl _ w).alloc _).trans c1
  go_wp2_with fail
  refine (new_yes _ 40 (by decide) (by decide)).mono ?_
  rintro e w2 ⟨b, c, rfl, ar, c2, lb, lc⟩
  replace oa := oa.calm c2
  have kc := c1.trans c2
  clear c1 c2
  go_wp2_with fail
  refine (fill_yes _ b c _ ar 0 40 12345 (by simp)).mono ?_
  rintro e w3 ⟨rfl, ar3, f3⟩
  replace oa := oa.fr f3 (by omega)
  obtain ⟨fl1, fl2⟩ := fl40
  generalize fl (List.replicate 40 0) 0 12345 40 = F at *
  replace kc := kc.join f3 (fun k hk (e : k = c) => by omega)
  clear f3 ar
  replace fl1 := hid fl1
  replace fl2 := hid fl2
  have x0 := (oa 0 _ rfl).1
  have x1 := (oa 1 _ rfl).1
  have x2 := (oa 2 _ rfl).1
  go_wp2_with fail
  refine (fit06 a0 a1 a2 A0.out A1.out A2.out _).mono ?_
  rintro e w4 ⟨p, d, wk, fn, hok, rfl, c4⟩
  have o10 := OwnL.new w4 [.int .i64 p, .int .i64 d, .bool wk, .bool fn] 31
  replace ar3 := ar3.calm c4
  have ar4 := ar3.calm (Fr.alloc (Fr.refl _ _) (.cells #[.int .i64 p, .int .i64 d, .bool wk, .bool fn] 31))
  have hcl := (ar3.cell (k := 0) (by have := fl1.out; omega)).lt
  replace kc := (kc.trans c4).alloc (.cells #[.int .i64 p, .int .i64 d, .bool wk, .bool fn] 31)
  clear x0 x1 x2 oa c4 ar3
  have p8 := hok.1
  have d8 := hok.2.1
  replace hok := hid hok
  go_wp2_with fail
  refine (pick07 at_ 44 _ hat.out (by omega)).mono ?_
  rintro e w' ⟨rfl, rfl⟩
  rw [hK.out]
  go_wp2_with fail
  refine (pick07 ser 1099511627777 _ hser.out (by omega)).mono ?_
  rintro e w' ⟨rfl, rfl⟩
  rw [hM.out]
  obtain ⟨N, hN⟩ : ∃ N, 3 + p + d = N := ⟨_, rfl⟩
  have hcast : (3 : Int) + p + d = (N : Int) := by rw [← hN]; push_cast; rfl
  rw [hcast]
  have hN3 : 3 ≤ N := by omega
  have hN19 : N ≤ 19 := by omega
  replace hcast := hid hcast
  replace hN := hid hN
  have hM2 : Hid (M ≤ 1099511627776) := by show M ≤ 1099511627776; omega
  clear rm1 rm2
  by_cases hroom : K + N ≤ 40
  · have hr2 : ¬ ((K : Int) + N > 40) := by omega
    go_wp2_with fail
    refine (omake_yes _ b c _ ar4 K p d wk fn M hok.out (by rw [fl1.out, hN.out]; exact hroom) hM2.out).mono ?_
    rintro e w5 ⟨rfl, ar5, f5⟩
    have hl5 := made_length F K p d wk fn M
    rw [fl1.out] at hl5
    have at5 := made_at (xs := F) (a := K) (ser := M) hok.out hM2.out (by rw [fl1.out, hN.out]; exact hroom)
    have get5 := fun j => made_getD (xs := F) (a := K) (p := p) (d := d) (wk := wk) (fn := fn) (ser := M) (by rw [fl1.out, hN.out]; exact hroom) j
    rw [hN.out] at get5
    generalize made F K p d wk fn M = X at *
    replace o10 := o10.fr f5 (by omega)
    replace kc := kc.join f5 (fun k hk (e : k = c) => by omega)
    clear f5 ar4
    replace at5 := hid at5
    replace get5 := hid get5
    replace hl5 := hid hl5
    replace hroom := hid hroom
    have x0 := (o10 0 _ rfl).1
    have x1 := (o10 1 _ rfl).1
    have x2 := (o10 2 _ rfl).1
    have x3 := (o10 3 _ rfl).1
    go_wp2_with fail
    refine (omake_arg _ b K p d wk fn (-1) hok.out (.inl (by omega))).mono ?_
    rintro e w6 ⟨rfl, c6⟩
    replace o10 := o10.calm c6
    replace ar5 := ar5.calm c6
    replace kc := kc.trans c6
    clear c6 x0 x1 x2 x3
    have x0 := (o10 0 _ rfl).1
    have x1 := (o10 1 _ rfl).1
    have x2 := (o10 2 _ rfl).1
    have x3 := (o10 3 _ rfl).1
    go_wp2_with fail
    refine (omake_arg _ b K p d wk fn 1099511627777 hok.out (.inr (by omega))).mono ?_
    rintro e w7 ⟨rfl, c7⟩
    replace ar5 := ar5.calm c7
    replace kc := kc.trans c7
    clear c7 x0 x1 x2 x3 o10
    go_wp2_with fail
    refine (at_second ar5 at5.out).mono ?_
    rintro e w8 ⟨rfl, c8⟩
    rw [show (Ob.new p d wk fn M).snd = 0 from rfl]
    replace ar5 := ar5.calm c8
    replace kc := kc.trans c8
    clear c8
    go_wp2_with fail
    refine (at_serial ar5 at5.out).mono ?_
    rintro e w9 ⟨rfl, c9⟩
    rw [show (Ob.new p d wk fn M).ser = M from rfl]
    replace ar5 := ar5.calm c9
    replace kc := kc.trans c9
    clear c9
    go_wp2_with fail
    refine (at_shape ar5 at5.out).mono ?_
    rintro e w10 ⟨rfl, c10⟩
    rw [show (Ob.new p d wk fn M).p = p from rfl, show (Ob.new p d wk fn M).d = d from rfl, show (Ob.new p d wk fn M).wk = wk from rfl, show (Ob.new p d wk fn M).fn = fn from rfl, show (Ob.new p d wk fn M).fr = false from rfl]
    replace ar5 := ar5.calm c10
    replace kc := kc.trans c10
    clear c10
    go_wp2_with fail
    have kc' := kc.alloc (.cells #[.int .i64 p, .int .i64 d, .bool wk, .bool fn] 31)
    have ar' := ar5.calm (Fr.alloc (Fr.refl _ _) (.cells #[.int .i64 p, .int .i64 d, .bool wk, .bool fn] 31))
    obtain ⟨W, hW⟩ : ∃ W, w10.alloc (.cells #[.int .i64 p, .int .i64 d, .bool wk, .bool fn] 31) = W := ⟨_, rfl⟩
    rw [hW] at kc' ar' ⊢
    clear hW ar5 kc hcl hM hok hK at5 hcast hN lb lc
    go_loopw [24] (fun i wr => ∃ k : Nat, k ≤ N - 3 ∧ i = .int .i64 k ∧ wr = W) (fun i _ => N - (intOf i).toNat)
    case atStart => exact ⟨0, by omega, rfl, rfl⟩
    case round =>
      obtain ⟨k, hk, rfl, rfl⟩ := hrel
      rcases Nat.lt_or_ge k (N - 3) with hlt | hge
      · have g1 : (k : Int) < N - 3 := by omega
        go_wp2_with fail
        have hc2 : ((K : Int) + 3 + k) = ((K + 3 + k : Nat) : Int) := by push_cast; rfl
        rw [hc2]
        refine (load_yes _ b c _ ar' (K + 3 + k) (by have := hl5.out; have := hroom.out; omega)).mono ?_
        rintro e w6 ⟨rfl, rfl⟩
        rw [get5.out, if_neg (by omega), if_neg (by omega), if_pos (by omega)]
        replace hc2 := hid hc2
        go_wp2
        go_roundw
        case rel => exact ⟨k + 1, by omega, by go_num, by trivial⟩
        case measure => simp [intOf]; omega
      · have g1 : ¬ ((k : Int) < N - 3) := by omega
        clear hk hge
        go_wp2_with fail
        go_loopw [27] (fun i W2 => ∃ k : Nat, k ≤ 40 ∧ i = .int .i64 k ∧ W2 = wr) (fun i _ => 40 - (intOf i).toNat)
        case atStart => exact ⟨0, by omega, rfl, rfl⟩
        case round =>
          obtain ⟨j, hj, rfl, rfl⟩ := hrel
          rcases Nat.lt_or_ge j 40 with hlt | hge
          · by_cases h1 : j < K
            · go_wp2_with fail
              refine (load_yes _ b c _ ar' j (by have := hl5.out; omega)).mono ?_
              rintro e w6 ⟨rfl, rfl⟩
              rw [get5.out, if_neg (by omega), if_neg (by omega), if_neg (by omega), fl2.out j hlt]
              go_wp2
              go_roundw
              case rel => exact ⟨j + 1, by omega, by go_num, by trivial⟩
              case measure => simp [intOf]; omega
            · have h1' : ¬ ((j : Int) < K) := by omega
              by_cases h2 : K + N ≤ j
              · have h2' : (K : Int) + N ≤ j := by omega
                replace h2 := hid h2
                go_wp2_with fail
                refine (load_yes _ b c _ ar' j (by have := hl5.out; omega)).mono ?_
                rintro e w6 ⟨rfl, rfl⟩
                rw [get5.out, if_neg (by omega), if_neg (by omega), if_neg (by omega), fl2.out j hlt]
                go_wp2
                go_roundw
                case rel => exact ⟨j + 1, by omega, by go_num, by trivial⟩
                case measure => simp [intOf]; omega
              · have h2' : ¬ ((K : Int) + N ≤ j) := by omega
                replace h2 := hid h2
                go_wp2_with fail
                refine (load_yes _ b c _ ar' j (by have := hl5.out; omega)).mono ?_
                rintro e w6 ⟨rfl, rfl⟩
                generalize X.getD j 0 = V at *
                go_wp2
                go_roundw
                case rel => exact ⟨j + 1, by omega, by go_num, by trivial⟩
                case measure => simp [intOf]; omega
          · have h1 : ¬ ((j : Int) < 40) := by omega
            clear hj hge
            go_wp2
            go_ret
            exact ⟨rfl, Calm.below kc'⟩
  · have hr2 : (K : Int) + N > 40 := by omega
    go_wp2_with fail
    refine (omake_room _ b c _ ar4 K p d wk fn M hok.out (by rw [fl1.out, hN.out]; omega) (by omega) hM2.out).mono ?_
    rintro e w5 ⟨rfl, c5⟩
    replace ar4 := ar4.calm c5
    replace kc := kc.trans c5
    clear c5 o10
    go_wp2_with fail
    refine (load_yes _ b c _ ar4 39 (by have := fl1.out; omega)).mono ?_
    rintro e w6 ⟨rfl, rfl⟩
    rw [fl2.out 39 (by omega)]
    go_wp2
    go_ret
    exact ⟨rfl, Calm.below kc⟩

end Go.Proofs.Ytcacbbfeenebbaa
