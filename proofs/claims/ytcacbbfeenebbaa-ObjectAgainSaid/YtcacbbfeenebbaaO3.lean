/- ObjectAgain returns true, whatever the input. -/
import Derived.Test.YtcacbbfeenebbaaRow07
import Derived.Test.YtcacbbfeenebbaaOpen2
set_option linter.unusedSimpArgs false
set_option linter.unusedVariables false
namespace Go.Proofs.Ytcacbbfeenebbaa
open Go.RowKit Go.Shelf

/-- An object lies at 0. -/
def AgainI (b c : Nat) (w : World) : Prop := ∃ X o, Ar w b c X ∧ At X 0 o ∧ X.length = 60

theorem pick07c (c n : Int) (w : World) (hc : I64 c) (hn : 0 < n) :
    Calls Try.prog 16 #[.int .i64 c, .int .i64 n] w fun e w' => e = .returned (.int .i64 (pk c n)) ∧ Calm w w' :=
  (pick07 c n w hc hn).mono fun e w' ⟨he, hw⟩ => ⟨he, hw ▸ Fr.refl _ _⟩

theorem has_dec (K p : Nat) : Has (decide (K < p)) K p := by
  by_cases h : K < p
  · simp only [h, decide_true]; exact .lt (by omega) (by omega)
  · simp only [h, decide_false]; exact .ge (by omega)

theorem bif_length {bp : Bool} {X Y : List Nat} {n : Nat} (h : X.length = n) (h' : Y.length = n) : (bif bp then X else Y).length = n := by cases bp <;> assumption

set_option maxRecDepth 100000 in
set_option maxHeartbeats 4000000 in
theorem objectAgain_walk (xs : List Int) (hx : xs.length = 3) (hxb : ∀ x ∈ xs, I64 x) (ys : List Int) (hy : ys.length = 3) (hyb : ∀ x ∈ ys, I64 x) (v : Value) (l : List Op7) (hm : l.length ≤ maxLen) (w : World)
    (hr : RowK w v 5 (l.map Op7.cells)) (hl : ∀ o ∈ l, o.Ok) :
    Calls Try.prog 6 #[.agg (xs.map (Value.int .i64)).toArray, .agg (ys.map (Value.int .i64)).toArray, v] w fun e w' => e = .returned (.bool true) ∧ Below w.heap.size w w' := by
  obtain ⟨a0, a1, a2, rfl, A0, A1, A2⟩ := arr3 hx hxb
  obtain ⟨b0, b1, b2, rfl, B0, B1, B2⟩ := arr3 hy hyb
  clear hx hxb hy hyb
  simp only [List.map_cons, List.map_nil]
  unfold maxLen at hm
  obtain ⟨sa, cap, rfl, hcells⟩ := hr.cells
  replace hr := hid hr
  replace hl := hid hl
  replace hcells := hid hcells
  replace A0 := hid A0
  replace A1 := hid A1
  replace A2 := hid A2
  replace B0 := hid B0
  replace B1 := hid B1
  replace B2 := hid B2
  go_enter Try.func6, Try.ntmps6
  go_wp2_with fail
  refine (awake07 _).mono ?_
  rintro e w1 ⟨rfl, c1⟩
  have oa := ((OwnL.new w [.int .i64 a0, .int .i64 a1, .int .i64 a2] 22).alloc (.cells #[.int .i64 b0, .int .i64 b1, .int .i64 b2] 22)).calm c1
  have ob := (OwnL.at (w.alloc (.cells #[.int .i64 a0, .int .i64 a1, .int .i64 a2] 22)) [.int .i64 b0, .int .i64 b1, .int .i64 b2] 22 (w.heap.size + 1) (by simp))
  have s0 := c1.size
  have k0 : Calm w ((w.alloc (.cells #[.int .i64 a0, .int .i64 a1, .int .i64 a2] 22)).alloc (.cells #[.int .i64 b0, .int .i64 b1, .int .i64 b2] 22)) := ((Fr.refl _ w).alloc _).alloc _
  have s1 : w.heap.size + 1 < ((w.alloc (.cells #[.int .i64 a0, .int .i64 a1, .int .i64 a2] 22)).alloc (.cells #[.int .i64 b0, .int .i64 b1, .int .i64 b2] 22)).heap.size := by simp
  generalize (w.alloc (.cells #[.int .i64 a0, .int .i64 a1, .int .i64 a2] 22)).alloc (.cells #[.int .i64 b0, .int .i64 b1, .int .i64 b2] 22) = W0 at *
  have x0 := (oa 0 _ rfl).1
  have x1 := (oa 1 _ rfl).1
  have x2 := (oa 2 _ rfl).1
  go_wp2_with fail
  refine (row07 a0 a1 a2 a0 a1 a2 A0.out A1.out A2.out A0.out A1.out A2.out _).mono ?_
  rintro e w2 ⟨b, c, p, d, wk, fn, p', d', wk', fn', hok, hok', rfl, ar, c2, lb, lc, ft, ft'⟩
  clear ft ft' x0 x1 x2 oa
  have p8 := hok.1
  have d8 := hok.2.1
  have p8' := hok'.1
  have d8' := hok'.2.1
  have hl1 : (made (List.replicate 60 0) 0 p d wk fn 1).length = 60 := by rw [made_length]; simp
  have at1 := made_far (xs := made (List.replicate 60 0) 0 p d wk fn 1) (a := 3 + p + d) (p := p') (d := d') (wk := wk') (fn := fn') (ser := 2) (by rw [hl1]; omega) (made_at (xs := List.replicate 60 0) (a := 0) (ser := 1) hok (by omega) (by simp; omega)) (.inl (by simp [Ob.new, Ob.size]))
  have hl2 : (made (made (List.replicate 60 0) 0 p d wk fn 1) (3 + p + d) p' d' wk' fn' 2).length = 60 := by rw [made_length, hl1]
  generalize made (made (List.replicate 60 0) 0 p d wk fn 1) (3 + p + d) p' d' wk' fn' 2 = X at *
  have hlc : W0.heap.size ≤ c := by omega
  replace ar := ar.calm (((Fr.refl _ _).alloc (.cells #[.int .i64 p, .int .i64 d, .bool wk, .bool fn] 31)).alloc (.cells #[.int .i64 p', .int .i64 d', .bool wk', .bool fn'] 31))
  have kc := ((c1.trans c2).alloc (.cells #[.int .i64 p, .int .i64 d, .bool wk, .bool fn] 31)).alloc (.cells #[.int .i64 p', .int .i64 d', .bool wk', .bool fn'] 31)
  have hI : Hid (AgainI b c ((w2.alloc (.cells #[.int .i64 p, .int .i64 d, .bool wk, .bool fn] 31)).alloc (.cells #[.int .i64 p', .int .i64 d', .bool wk', .bool fn'] 31))) := ⟨X, _, ar, at1, hl2⟩
  clear hl1 hl2 at1 ar c1 c2 lb lc hok hok' p8 d8 p8' d8' s0
  generalize 3 + p + d = N at *
  go_wp2_with fail
  go_loopw [12] (fun i wr => ∃ k : Nat, k ≤ l.length ∧ k ≤ 20 ∧ i = .int .i64 k ∧ Hid (AgainI b c wr) ∧ Calm W0 wr) (fun i _ => 20 - (intOf i).toNat)
  case atStart => exact ⟨0, by omega, by omega, rfl, hI, kc⟩
  case round =>
    clear hI kc
    obtain ⟨k, hk, hk2, rfl, hI, kr⟩ := hrel
    rcases (by omega : (k < l.length ∧ k < 20) ∨ ¬ (k < l.length ∧ k < 20)) with ⟨hlt, hlt2⟩ | hge
    · have ho : l[k]? = some l[k] := by simp [hlt]
      obtain ⟨bb, off, rfl, hc⟩ := hcells.out k _ ho
      obtain ⟨O1, O2, O3, O4, O5⟩ := hl.out _ (List.getElem_mem hlt)
      generalize l[k] = o at *
      obtain ⟨kd, oat, oi, on, oW⟩ := o
      have z2 := kr.cellAt (k0.cellAt (hc 2 _ rfl) id) id
      have z3 := kr.cellAt (k0.cellAt (hc 3 _ rfl) id) id
      have z4 := kr.cellAt (k0.cellAt (hc 4 _ rfl) id) id
      dsimp only at O1 O2 O3 O4 O5 z2 z3 z4
      obtain ⟨X, ob, ar, at1, hX⟩ := hI.out
      have rp := pk_range oi (n := 9) (by omega)
      have rn := pk_range on (n := 99) (by omega)
      obtain ⟨P, hP⟩ : ∃ P, pk oi 9 = P := ⟨_, rfl⟩
      obtain ⟨V, hV⟩ : ∃ V, pk on 99 = V := ⟨_, rfl⟩
      rw [hP] at rp
      rw [hV] at rn
      obtain ⟨rp1, rp2⟩ := rp
      obtain ⟨rn1, rn2⟩ := rn
      obtain ⟨P, rfl⟩ := Int.eq_ofNat_of_zero_le rp1
      obtain ⟨V, rfl⟩ := Int.eq_ofNat_of_zero_le rn1
      replace at1 := hid at1
      replace hX := hid hX
      replace hI := hid hI
      replace hcells := hid hcells
      replace hl := hid hl
      replace O1 := hid O1
      replace O2 := hid O2
      replace O3 := hid O3
      replace O4 := hid O4
      replace O5 := hid O5
      replace hP := hid hP
      replace hV := hid hV
      replace ho := hid ho
      have g1 : (k : Int) < l.length := by omega
      have g2 : (k : Int) < 20 := by omega
      have q2 : ∀ x : Later wr, x.w.cell? ⟨bb, off + k * 5 + 2, none⟩ = some (.int .i64 oi) := fun x => x.cell z2
      have q3 : ∀ x : Later wr, x.w.cell? ⟨bb, off + k * 5 + 3, none⟩ = some (.int .i64 on) := fun x => x.cell z3
      go_wp2_with fail
      refine wp_region_calm_tail 13 (by kernel_rfl) (by kernel_rfl) ?_
      simp only [List.take_succ_cons, List.take_zero, List.drop_succ_cons, List.drop_zero]
      repeat (go_big_quiet_step ((go_at_call 16; exact Calls.calm_of (pick07c _ _ _ (by first | exact O3.out | exact O4.out) (by omega)))))
      refine wpQuiet_nil ?_
      intro w2 hw'
      have c2 := Later.out hw'
      have hbb : bb < w.heap.size := World.block_lt_of_cell? w _ (hc 2 _ rfl)
      clear hw' q2 q3
      replace z2 := c2.cellAt z2 id
      replace z3 := c2.cellAt z3 id
      replace z4 := c2.cellAt z4 id
      replace ar := ar.calm c2
      replace kr := kr.trans c2
      clear c2
      go_wp2_with fail
      rw [hP.out, hV.out]
      refine (at_setptr_if ar at1.out (k := (P : Int)) (has_dec P ob.p) (by omega : V ≤ 131072)).mono ?_
      rintro e w3 ⟨rfl, ar3, f3⟩
      have at3 := hid (Has.at_ptr at1.out (k := (P : Int)) (v := V) (has_dec P ob.p) (by omega))
      have hX3 := hid (bif_length (bp := decide (P < ob.p)) (X := X.set (0 + 3 + (P : Int).toNat) V) (by rw [List.length_set]; exact hX.out) hX.out)
      replace z2 := f3.cellAt z2 (show ¬ bb = c by omega)
      replace z3 := f3.cellAt z3 (show ¬ bb = c by omega)
      replace z4 := f3.cellAt z4 (show ¬ bb = c by omega)
      replace kr := kr.join f3 (fun j hj (e : j = c) => by omega)
      clear f3 ar at1 hX
      generalize (bif decide (P < ob.p) then X.set (0 + 3 + (P : Int).toNat) V else X) = X3 at *
      generalize (bif decide (P < ob.p) then { ob with ps := ob.ps.set (P : Int).toNat V } else ob) = o3 at *
      generalize (bif decide (P < ob.p) then (0 : Int) else 71) = r3 at *
      have q2 : ∀ x : Later w3, x.w.cell? ⟨bb, off + k * 5 + 2, none⟩ = some (.int .i64 oi) := fun x => x.cell z2
      have q3 : ∀ x : Later w3, x.w.cell? ⟨bb, off + k * 5 + 3, none⟩ = some (.int .i64 on) := fun x => x.cell z3
      go_wp2_with fail
      refine wp_region_calm_tail 12 (by kernel_rfl) (by kernel_rfl) ?_
      simp only [List.take_succ_cons, List.take_zero, List.drop_succ_cons, List.drop_zero]
      repeat (go_big_quiet_step ((go_at_call 16; exact Calls.calm_of (pick07c _ _ _ (by first | exact O3.out | exact O4.out) (by omega)))))
      refine wpQuiet_nil ?_
      intro w4 hw'
      have c4 := Later.out hw'
      clear hw' q2 q3
      replace z3 := c4.cellAt z3 id
      replace z4 := c4.cellAt z4 id
      replace ar3 := ar3.calm c4
      replace kr := kr.trans c4
      clear c4 z2
      go_wp2_with fail
      rw [hP.out]
      refine (at_setnum_if ar3 at3.out (k := (P : Int)) (has_dec P o3.d) O4.out).mono ?_
      rintro e w5 ⟨rfl, ar5, f5⟩
      have at5 := hid (Has.at_num at3.out (k := (P : Int)) (v := on) (has_dec P o3.d) O4.out)
      have hX5 := hid (bif_length (bp := decide (P < o3.d)) (X := X3.set (0 + 3 + o3.p + (P : Int).toNat) (zg on)) (by rw [List.length_set]; exact hX3.out) hX3.out)
      replace z3 := f5.cellAt z3 (show ¬ bb = c by omega)
      replace z4 := f5.cellAt z4 (show ¬ bb = c by omega)
      replace kr := kr.join f5 (fun j hj (e : j = c) => by omega)
      clear f5 ar3 at3 hX3
      generalize (bif decide (P < o3.d) then X3.set (0 + 3 + o3.p + (P : Int).toNat) (zg on) else X3) = X5 at *
      generalize (bif decide (P < o3.d) then { o3 with ns := o3.ns.set (P : Int).toNat (zg on) } else o3) = o5 at *
      generalize (bif decide (P < o3.d) then (0 : Int) else 71) = r5 at *
      go_wp2_with fail
      refine (at_setsecond ar5 at5.out oW).mono ?_
      rintro e w6 ⟨rfl, ar6, f6⟩
      have at6 := hid (at5.out.setSnd oW)
      have hX6 : Hid ((X5.set (0 + 1) oW).length = 60) := by show (X5.set (0 + 1) oW).length = 60; rw [List.length_set]; exact hX5.out
      replace z3 := f6.cellAt z3 (show ¬ bb = c by omega)
      replace kr := kr.join f6 (fun j hj (e : j = c) => by omega)
      clear f6 ar5 at5 hX5 z4
      generalize X5.set (0 + 1) oW = X6 at *
      generalize { o5 with snd := oW } = o6 at *
      go_wp2_with fail
      refine (at_setfreed ar6 at6.out _).mono ?_
      rintro e w7 ⟨rfl, ar7, f7⟩
      have at7 := at6.out.setHead (on.tmod 2 == 0)
      have hX7 : (X6.set 0 (hd o6.p o6.d o6.wk o6.fn (on.tmod 2 == 0))).length = 60 := by rw [List.length_set]; exact hX6.out
      replace kr := kr.join f7 (fun j hj (e : j = c) => by omega)
      have hI7 : Hid (AgainI b c w7) := ⟨_, _, ar7, at7, hX7⟩
      clear f7 ar6 ar7 at6 at7 hX6 hX7 z3
      go_wp2
      go_roundw
      case rel => exact ⟨k + 1, by omega, by omega, by go_num, hI7, kr⟩
      case measure => simp [intOf]; omega
    · by_cases hkl : k < l.length
      · have g1 : (k : Int) < l.length := by omega
        have g2 : ¬ ((k : Int) < 20) := by omega
        clear hge hkl hk2 hk
        obtain ⟨X, o, ar, at1, hX⟩ := hI.out
        replace ob := ob.calm kr
        have x0 := (ob 0 _ rfl).1
        have x1 := (ob 1 _ rfl).1
        have x2 := (ob 2 _ rfl).1
        replace at1 := hid at1
        replace hX := hid hX
        clear hI hcells hr hl
        go_wp2_with fail
        refine (fit06 b0 b1 b2 B0.out B1.out B2.out _).mono ?_
        rintro e w3 ⟨q, d2, wk2, fn2, hok, rfl, c3⟩
        have q8 := hok.1
        have d8 := hok.2.1
        have o13 := OwnL.new w3 [.int .i64 q, .int .i64 d2, .bool wk2, .bool fn2] 31
        have ar3 := (ar.calm c3).calm (Fr.alloc (Fr.refl _ _) (.cells #[.int .i64 q, .int .i64 d2, .bool wk2, .bool fn2] 31))
        have hcl := (ar.cell (k := 0) (by have := hX.out; omega)).lt
        have hcl2 := c3.size
        replace kr := (kr.trans c3).alloc (.cells #[.int .i64 q, .int .i64 d2, .bool wk2, .bool fn2] 31)
        clear x0 x1 x2 ob c3 ar
        have okh := hid hok
        clear hok
        have y0 := (o13 0 _ rfl).1
        have y1 := (o13 1 _ rfl).1
        have y2 := (o13 2 _ rfl).1
        have y3 := (o13 3 _ rfl).1
        go_wp2_with fail
        refine (omake_yes _ b c _ ar3 0 q d2 wk2 fn2 9 okh.out (by have := hX.out; omega) (by decide)).mono ?_
        rintro e w4 ⟨rfl, ar4, f4⟩
        have at4 := made_at (xs := X) (a := 0) (p := q) (d := d2) (wk := wk2) (fn := fn2) (ser := 9) okh.out (by omega) (by have := hX.out; omega)
        replace kr := kr.join f4 (fun j hj (e : j = c) => by omega)
        replace o13 := o13.fr f4 (by omega)
        clear f4 ar3 at1 y0 y1 y2 y3
        generalize made X 0 q d2 wk2 fn2 9 = X4 at *
        replace at4 := hid at4
        go_wp2_with fail
        refine (at_shape ar4 at4.out).mono ?_
        rintro e w5 ⟨rfl, c5⟩
        rw [show (Ob.new q d2 wk2 fn2 9).p = q from rfl, show (Ob.new q d2 wk2 fn2 9).d = d2 from rfl, show (Ob.new q d2 wk2 fn2 9).wk = wk2 from rfl, show (Ob.new q d2 wk2 fn2 9).fn = fn2 from rfl, show (Ob.new q d2 wk2 fn2 9).fr = false from rfl]
        have o14 := OwnL.new w5 [.int .i64 q, .int .i64 d2, .bool wk2, .bool fn2] 31
        replace c5 := c5.alloc (.cells #[.int .i64 q, .int .i64 d2, .bool wk2, .bool fn2] 31)
        replace ar4 := ar4.calm c5
        replace o13 := o13.calm c5
        replace kr := kr.trans c5
        clear c5
        go_wp2_with fail
        refine (at_serial ar4 at4.out).mono ?_
        rintro e w6 ⟨rfl, c6⟩
        rw [show ((Ob.new q d2 wk2 fn2 9).ser : Int) = 9 from rfl]
        replace ar4 := ar4.calm c6
        replace o13 := o13.calm c6
        replace o14 := o14.calm c6
        replace kr := kr.trans c6
        clear c6
        go_wp2_with fail
        refine (at_second ar4 at4.out).mono ?_
        rintro e w7 ⟨rfl, c7⟩
        rw [show wV (Ob.new q d2 wk2 fn2 9).snd = .int .u64 0 from rfl]
        replace ar4 := ar4.calm c7
        replace o13 := o13.calm c7
        replace o14 := o14.calm c7
        replace kr := kr.trans c7
        clear c7
        go_wp2_with fail
        go_loopw [21] (fun i wr => ∃ k : Nat, k ≤ q ∧ i = .int .i64 k ∧ Calm w7 wr) (fun i _ => q - (intOf i).toNat)
        case atStart => exact ⟨0, by omega, rfl, Fr.refl _ _⟩
        case round =>
          obtain ⟨i, hi, rfl, c8⟩ := hrel
          replace ar4 := ar4.calm c8
          replace o13 := o13.calm c8
          replace o14 := o14.calm c8
          replace kr := kr.trans c8
          have y0 := (o13 0 _ rfl).1
          have y1 := (o13 1 _ rfl).1
          have y2 := (o13 2 _ rfl).1
          have y3 := (o13 3 _ rfl).1
          rcases Nat.lt_or_ge i q with hlt | hge
          · have g3 : (i : Int) < q := by omega
            go_wp2_with fail
            refine (at_ptr ar4 at4.out (i := i) hlt).mono ?_
            rintro e w9 ⟨rfl, c9⟩
            rw [show (Ob.new q d2 wk2 fn2 9).ps.getD i 0 = 0 from by simp [Ob.new, List.getD, hlt]]
            replace c8 := c8.trans c9
            clear y0 y1 y2 y3
            go_wp2
            go_roundw
            case rel => exact ⟨i + 1, by omega, by go_num, c8⟩
            case measure => simp [intOf]; omega
          · have g3 : ¬ ((i : Int) < q) := by omega
            clear hge hi c8
            go_wp2_with fail
            go_loopw [24] (fun i W2 => ∃ k : Nat, k ≤ d2 ∧ i = .int .i64 k ∧ Calm wr W2) (fun i _ => d2 - (intOf i).toNat)
            case atStart => exact ⟨0, by omega, rfl, Fr.refl _ _⟩
            case round =>
              obtain ⟨j, hj, rfl, c9⟩ := hrel
              clear y0 y1 y2 y3
              replace ar4 := ar4.calm c9
              replace o13 := o13.calm c9
              replace o14 := o14.calm c9
              replace kr := kr.trans c9
              have y0 := (o13 0 _ rfl).1
              have y1 := (o13 1 _ rfl).1
              have y2 := (o13 2 _ rfl).1
              have y3 := (o13 3 _ rfl).1
              rcases Nat.lt_or_ge j d2 with hlt | hge
              · have g4 : (j : Int) < d2 := by omega
                go_wp2_with fail
                refine (at_num ar4 at4.out (i := j) hlt).mono ?_
                rintro e w10 ⟨rfl, c10⟩
                rw [show zt ((Ob.new q d2 wk2 fn2 9).ns.getD j 0) = 0 from by simp [Ob.new, List.getD, hlt, zt]]
                replace c9 := c9.trans c10
                clear y0 y1 y2 y3
                go_wp2
                go_roundw
                case rel => exact ⟨j + 1, by omega, by go_num, c9⟩
                case measure => simp [intOf]; omega
              · have g4 : ¬ ((j : Int) < d2) := by omega
                clear hge hj c9
                have z0 := (o14 0 _ rfl).1
                have z1 := (o14 1 _ rfl).1
                have z2 := (o14 2 _ rfl).1
                have z3 := (o14 3 _ rfl).1
                go_wp2
                go_ret
                exact ⟨rfl, Calm.below (k0.trans kr)⟩
      · have g1 : ¬ ((k : Int) < l.length) := by omega
        clear hge hkl hk2 hk
        obtain ⟨X, o, ar, at1, hX⟩ := hI.out
        replace ob := ob.calm kr
        have x0 := (ob 0 _ rfl).1
        have x1 := (ob 1 _ rfl).1
        have x2 := (ob 2 _ rfl).1
        replace at1 := hid at1
        replace hX := hid hX
        clear hI hcells hr hl
        go_wp2_with fail
        refine (fit06 b0 b1 b2 B0.out B1.out B2.out _).mono ?_
        rintro e w3 ⟨q, d2, wk2, fn2, hok, rfl, c3⟩
        have q8 := hok.1
        have d8 := hok.2.1
        have o13 := OwnL.new w3 [.int .i64 q, .int .i64 d2, .bool wk2, .bool fn2] 31
        have ar3 := (ar.calm c3).calm (Fr.alloc (Fr.refl _ _) (.cells #[.int .i64 q, .int .i64 d2, .bool wk2, .bool fn2] 31))
        have hcl := (ar.cell (k := 0) (by have := hX.out; omega)).lt
        have hcl2 := c3.size
        replace kr := (kr.trans c3).alloc (.cells #[.int .i64 q, .int .i64 d2, .bool wk2, .bool fn2] 31)
        clear x0 x1 x2 ob c3 ar
        have okh := hid hok
        clear hok
        have y0 := (o13 0 _ rfl).1
        have y1 := (o13 1 _ rfl).1
        have y2 := (o13 2 _ rfl).1
        have y3 := (o13 3 _ rfl).1
        go_wp2_with fail
        refine (omake_yes _ b c _ ar3 0 q d2 wk2 fn2 9 okh.out (by have := hX.out; omega) (by decide)).mono ?_
        rintro e w4 ⟨rfl, ar4, f4⟩
        have at4 := made_at (xs := X) (a := 0) (p := q) (d := d2) (wk := wk2) (fn := fn2) (ser := 9) okh.out (by omega) (by have := hX.out; omega)
        replace kr := kr.join f4 (fun j hj (e : j = c) => by omega)
        replace o13 := o13.fr f4 (by omega)
        clear f4 ar3 at1 y0 y1 y2 y3
        generalize made X 0 q d2 wk2 fn2 9 = X4 at *
        replace at4 := hid at4
        go_wp2_with fail
        refine (at_shape ar4 at4.out).mono ?_
        rintro e w5 ⟨rfl, c5⟩
        rw [show (Ob.new q d2 wk2 fn2 9).p = q from rfl, show (Ob.new q d2 wk2 fn2 9).d = d2 from rfl, show (Ob.new q d2 wk2 fn2 9).wk = wk2 from rfl, show (Ob.new q d2 wk2 fn2 9).fn = fn2 from rfl, show (Ob.new q d2 wk2 fn2 9).fr = false from rfl]
        have o14 := OwnL.new w5 [.int .i64 q, .int .i64 d2, .bool wk2, .bool fn2] 31
        replace c5 := c5.alloc (.cells #[.int .i64 q, .int .i64 d2, .bool wk2, .bool fn2] 31)
        replace ar4 := ar4.calm c5
        replace o13 := o13.calm c5
        replace kr := kr.trans c5
        clear c5
        go_wp2_with fail
        refine (at_serial ar4 at4.out).mono ?_
        rintro e w6 ⟨rfl, c6⟩
        rw [show ((Ob.new q d2 wk2 fn2 9).ser : Int) = 9 from rfl]
        replace ar4 := ar4.calm c6
        replace o13 := o13.calm c6
        replace o14 := o14.calm c6
        replace kr := kr.trans c6
        clear c6
        go_wp2_with fail
        refine (at_second ar4 at4.out).mono ?_
        rintro e w7 ⟨rfl, c7⟩
        rw [show wV (Ob.new q d2 wk2 fn2 9).snd = .int .u64 0 from rfl]
        replace ar4 := ar4.calm c7
        replace o13 := o13.calm c7
        replace o14 := o14.calm c7
        replace kr := kr.trans c7
        clear c7
        go_wp2_with fail
        go_loopw [21] (fun i wr => ∃ k : Nat, k ≤ q ∧ i = .int .i64 k ∧ Calm w7 wr) (fun i _ => q - (intOf i).toNat)
        case atStart => exact ⟨0, by omega, rfl, Fr.refl _ _⟩
        case round =>
          obtain ⟨i, hi, rfl, c8⟩ := hrel
          replace ar4 := ar4.calm c8
          replace o13 := o13.calm c8
          replace o14 := o14.calm c8
          replace kr := kr.trans c8
          have y0 := (o13 0 _ rfl).1
          have y1 := (o13 1 _ rfl).1
          have y2 := (o13 2 _ rfl).1
          have y3 := (o13 3 _ rfl).1
          rcases Nat.lt_or_ge i q with hlt | hge
          · have g3 : (i : Int) < q := by omega
            go_wp2_with fail
            refine (at_ptr ar4 at4.out (i := i) hlt).mono ?_
            rintro e w9 ⟨rfl, c9⟩
            rw [show (Ob.new q d2 wk2 fn2 9).ps.getD i 0 = 0 from by simp [Ob.new, List.getD, hlt]]
            replace c8 := c8.trans c9
            clear y0 y1 y2 y3
            go_wp2
            go_roundw
            case rel => exact ⟨i + 1, by omega, by go_num, c8⟩
            case measure => simp [intOf]; omega
          · have g3 : ¬ ((i : Int) < q) := by omega
            clear hge hi c8
            go_wp2_with fail
            go_loopw [24] (fun i W2 => ∃ k : Nat, k ≤ d2 ∧ i = .int .i64 k ∧ Calm wr W2) (fun i _ => d2 - (intOf i).toNat)
            case atStart => exact ⟨0, by omega, rfl, Fr.refl _ _⟩
            case round =>
              obtain ⟨j, hj, rfl, c9⟩ := hrel
              clear y0 y1 y2 y3
              replace ar4 := ar4.calm c9
              replace o13 := o13.calm c9
              replace o14 := o14.calm c9
              replace kr := kr.trans c9
              have y0 := (o13 0 _ rfl).1
              have y1 := (o13 1 _ rfl).1
              have y2 := (o13 2 _ rfl).1
              have y3 := (o13 3 _ rfl).1
              rcases Nat.lt_or_ge j d2 with hlt | hge
              · have g4 : (j : Int) < d2 := by omega
                go_wp2_with fail
                refine (at_num ar4 at4.out (i := j) hlt).mono ?_
                rintro e w10 ⟨rfl, c10⟩
                rw [show zt ((Ob.new q d2 wk2 fn2 9).ns.getD j 0) = 0 from by simp [Ob.new, List.getD, hlt, zt]]
                replace c9 := c9.trans c10
                clear y0 y1 y2 y3
                go_wp2
                go_roundw
                case rel => exact ⟨j + 1, by omega, by go_num, c9⟩
                case measure => simp [intOf]; omega
              · have g4 : ¬ ((j : Int) < d2) := by omega
                clear hge hj c9
                have z0 := (o14 0 _ rfl).1
                have z1 := (o14 1 _ rfl).1
                have z2 := (o14 2 _ rfl).1
                have z3 := (o14 3 _ rfl).1
                go_wp2
                go_ret
                exact ⟨rfl, Calm.below (k0.trans kr)⟩

end Go.Proofs.Ytcacbbfeenebbaa
