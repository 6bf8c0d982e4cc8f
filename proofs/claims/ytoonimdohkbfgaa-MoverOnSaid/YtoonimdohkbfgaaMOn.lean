/- MoverOn returns true, whatever the input. -/
import Derived.Test.YtoonimdohkbfgaaMvP
set_option linter.unusedSimpArgs false
set_option linter.unusedVariables false
namespace Go.Proofs.Ytoonimdohkbfgaa
open Go.RowKit Go.Shelf

theorem Fr.cell1 (w : World) (g q : Nat) (v : Value) : Fr (fun j => j = g) w (w.setCell ⟨g, q, none⟩ v) := (Fr.refl (fun j => j = g) w).setCell (p := ⟨g, q, none⟩) (.inl rfl) v

set_option maxRecDepth 100000 in
set_option maxHeartbeats 8000000 in
theorem moverOn_walk (v : Value) (l : List Raw8) (hm : l.length ≤ maxLen) (w : World) (hr : RowK w v 5 (l.map Raw8.cells)) (hl : ∀ o ∈ l, o.Ok w) :
    Calls Try.prog 4 #[v] w fun e w' => e = .returned (.bool true) ∧ Below w.heap.size w w' := by
  replace hr := hid hr
  replace hl := hid hl
  replace hm := hid hm
  go_enter Try.func4, Try.ntmps4
  go_wp2_with fail
  refine (awake08 _).mono ?_
  rintro e w1 ⟨rfl, c1⟩
  go_wp2_with fail
  refine (new_yes _ 600 (by decide) (by decide)).mono ?_
  rintro e w2 ⟨b, c, rfl, ar, c2, lb, lc⟩
  have hwc : w.heap.size ≤ c := by have := c1.size; omega
  have hcl : c < w2.heap.size := by obtain ⟨_, ⟨t, ht⟩, _⟩ := ar; exact (Array.getElem?_eq_some_iff.1 ht).1
  have hbl : b < w2.heap.size := ar.lt
  replace c1 := c1.trans c2
  clear c2
  go_wp2_with fail
  refine (lay_yes (w0 := w) ar (by simp) c1 hwc v l hm.out hr.out hl.out).mono ?_
  rintro e w3 ⟨vr, ls, X, en, rfl, ar, lo, h1, h2, ro, f3⟩
  have hB0 := c1.size
  have hs3 := f3.size
  replace c1 := c1.join f3 (fun j hj (e : j = c) => absurd hj (by omega))
  obtain ⟨on, ht, hp⟩ := On.start lo.laid (by rw [lo.len]; simp) lo.le 200
  rw [hp] at ro
  have hN8 : (ls.map (·.2)).length ≤ 8 := by simpa using h2
  clear f3 lb lc h1 hm hr hl lo h2 hp
  generalize ls.map (·.2) = os at *
  obtain ⟨sa, sc, rfl⟩ := ro.sliceN (wh_len os 1 200 0)
  obtain ⟨n, hn⟩ : ∃ n, os.length = n := ⟨_, rfl⟩
  rw [hn] at ht hN8 ro
  simp only [hn]
  generalize w2.heap.size = B0 at *
  replace hn := hid hn
  replace ht := hid ht
  go_wp2_with fail
  generalize hW : w3 = W at *
  clear hW
  have hk : Hid (ORow W B0 (.slice sa n sc) (wh os 1 200 0)) := ro
  clear ro
  go_loopw [7, 8, 9] (fun v7 v8 i wr => ∃ (k : Nat) (L : List (Value × List Nat)), k ≤ n ∧ i = .int .i64 k ∧ Hid (SRow wr W.heap.size v7 (os.take k)) ∧ Hid (WWR wr W.heap.size v8 L) ∧ Hid (L.map (·.2) = (os.take k).map fun o => o.ws.tail) ∧ Hid (∀ x ∈ L, Apr2 v7 x.1) ∧ Hid (Apr2 v7 v8) ∧ Calm W wr) (fun _ _ i _ => n - (intOf i).toNat)
  case atStart => exact ⟨0, [], by omega, rfl, SRow.nil _ _, WWR.nil _ _, hid rfl, hid (by simp), hid (fun k h1 _ => InB.nil _ h1), Fr.refl _ _⟩
  case round =>
    obtain ⟨k, L, hkn, rfl, hS, hL, hLm, hx1, hx2, kr⟩ := hrel
    have lS : Hid (∀ b, InB u7 b → W.heap.size ≤ b ∧ b < wr.heap.size) := fun b hb => hS.out.lt hb
    have lL := hid hL.out.lt
    have hsw := kr.size
    rcases Nat.lt_or_ge k n with hlt | hge
    · have g1 : (k : Int) < n := by omega
      have ho := on.old k (Nat.zero_le _) (by rw [hn.out]; exact hlt)
      obtain ⟨g, gc, hv, hgB, hg0, _⟩ := (hk.out.calm kr).get (k := k) (by rw [wh_len, hn.out]; exact hlt)
      injection hv with hv1 hv2 hv3
      subst hv1
      rw [wh_get (by rw [hn.out]; exact hlt)] at hg0
      simp only [Nat.not_lt_zero, decide_false, cond_false] at hg0
      have e1 : Hid (os.take (k + 1) = os.take k ++ [os.getD k dO]) := by
        show _ = _
        have : k < os.length := by rw [hn.out]; exact hlt
        rw [List.take_succ_eq_append_getElem this]; simp [List.getD, this]
      have hlS : Hid ((os.take k).length = k) := by show (os.take k).length = k; simp [hn.out]; omega
      have hlL : Hid (L.length = k) := by have := congrArg List.length hLm.out; rw [List.length_map, List.length_map] at this; exact this.trans hlS.out
      generalize os.getD k dO = o at *
      generalize os.take k = OS at *
      obtain ⟨a, ha⟩ : ∃ a, 1 + tk os k = a := ⟨_, rfl⟩
      rw [ha] at ho hg0
      obtain ⟨va, vn, vc, rfl⟩ := hS.out.letters
      obtain ⟨ua, un, uc, rfl⟩ := hL.out.letters
      have hgl : g < W.heap.size := by have := World.block_lt_of_cell? wr _ hg0; obtain ⟨g', gc', hv', _, hg0', _⟩ := hk.out.get (k := k) (by rw [wh_len, hn.out]; exact hlt); injection hv' with q1; injection q1 with q1; injection q1 with q1; subst q1; exact World.block_lt_of_cell? W _ hg0'
      have ar1 := ar.calm kr
      clear hv2 hv3 ha
      replace ho := hid ho
      go_wp2_with fail
      refine (at_shape ar1 ho.out).mono ?_
      rintro e w4 ⟨rfl, c4⟩
      replace c4 := c4.alloc (.cells #[.int .i64 o.p, .int .i64 o.d, .bool o.wk, .bool o.fn] 27)
      have hS1 := hid (hS.out.calm c4)
      have hs4 := hid c4.size
      go_wp2_with (at_builtin; go_must (refine wpList_appS rfl _ _ rfl W.heap.size (.slice va vn vc) OS hS1.out rfl o _ rfl (by simp) (by have := hlS.out; omega) (by have := hs4.out; omega) ?_); intro g5 c5 w5 hS5 hF5 hg5; have f5 := (Calm.any c4 : Fr (InB (.slice va vn vc)) _ _).trans hF5; have hg5c := f5.cellAt hg0 (fun e => by have := (lS.out _ e).1; simp only at this; omega); replace f5 := hid f5; replace hS5 := hid hS5; replace hF5 := hid hF5; replace hg5 := hid hg5)
      replace f5 := f5.out
      have ar5 := ar1.fr f5 (fun e => by have := (lS.out _ e).1; omega) (fun e => by have := (lS.out _ e).1; omega)
      have hs5 := hid hF5.out.size
      have hL5 := hid (hL.out.frB f5 ⟨fun b h1 h2 => hx2.out b h2 h1, fun x hx b h1 h2 => hx1.out x hx b h2 h1⟩)
      refine (words08_yes ar5 ho.out).mono ?_
      rintro e w6 ⟨y, rfl, hy, c6⟩
      obtain ⟨ya, yn, yc, rfl⟩ := hy.letters
      have hL6 := hid (hL5.out.calm c6)
      have hyl : Hid (∀ b, InB (.slice ya yn yc) b → w5.heap.size ≤ b ∧ b < w6.heap.size) := fun b hb => hy.ltB hb
      have hy6 := hid (hy.mono (base' := W.heap.size) (by have := hs4.out; have := hs5.out; omega))
      have hs6 := hid c6.size
      have hap : Hid (Apr2 (.slice ua un uc) (.slice ya yn yc)) := fun j h1 h2 => by
        have := (lL.out.1 j h1).2; have := (hyl.out j h2).1; have := hs4.out; have := hs5.out; omega
      clear hy
      go_wp2_with (at_builtin; go_must (refine wpList_appWW rfl _ _ rfl W.heap.size (.slice ua un uc) L hL6.out rfl ya yn yc _ hy6.out hap.out _ rfl (by simp) (by have := hlL.out; omega) (by have := hs4.out; have := hs5.out; have := hs6.out; omega) ?_); intro g7 c7 w7 hL7 hF7 hg7; replace hL7 := hid hL7; replace hF7 := hid hF7; replace hg7 := hid hg7)
      have hlt5 := (hS5.out.lt (b := g5) (InB.mk.2 rfl)).2
      have hs4' := hs4.out
      have hs5' := hs5.out
      have hs6' := hs6.out
      have hS7 := hid ((hS5.out.calm c6).frB hF7.out (fun j h1 h2 => by
        obtain rfl := InB.mk1 h1
        rcases hg5.out with h | h
        · exact hx2.out _ h h2
        · have := (lL.out.1 _ h2).2; omega))
      have hxa : Hid (∀ x ∈ L ++ [(Value.slice ya yn yc, o.ws.tail)], Apr2 (.slice (some ⟨g5, 0, none⟩) (OS.length + 1) c5) x.1) := fun x hx j h1 h2 => by
        obtain rfl := InB.mk1 h1
        rcases List.mem_append.1 hx with hx | hx
        · rcases hg5.out with h | h
          · exact hx1.out _ hx _ h h2
          · have := (lL.out.2 _ hx _ h2).2; omega
        · rw [List.mem_singleton.1 hx] at h2
          have := (hyl.out _ h2).1; omega
      have hxb : Hid (Apr2 (.slice (some ⟨g5, 0, none⟩) (OS.length + 1) c5) (.slice (some ⟨g7, 0, none⟩) (L.length + 1) c7)) := fun j h1 h2 => by
        obtain rfl := InB.mk1 h1
        obtain rfl := InB.mk1 h2
        rcases hg7.out with h7 | h7
        · rcases hg5.out with h | h
          · exact hx2.out _ h h7
          · have := (lL.out.1 _ h7).2; omega
        · omega
      have k7 : Calm W w7 := by
        refine Fr.join (Fr.join (kr.join f5 (fun j hj e => by have := (lS.out _ e).1; omega)) (Calm.any c6 : Fr (fun _ => False) _ _) (fun _ _ h => h)) hF7.out (fun j hj e => by have := (lL.out.1 _ e).1; omega)
      have hm7 : Hid ((L ++ [(Value.slice ya yn yc, o.ws.tail)]).map (·.2) = (os.take (k + 1)).map fun o => o.ws.tail) := by
        show _ = _
        rw [List.map_append, hLm.out, e1.out, List.map_append]; rfl
      go_wp2_with fail
      go_roundw
      case rel => exact ⟨k + 1, _, by omega, by go_num, by rw [e1.out]; exact hS7, hL7, hm7, hxa, hxb, k7⟩
      case measure => simp [intOf]; omega
    · obtain rfl : k = n := by omega
      have g1 : ¬ ((k : Int) < k) := by omega
      have e9 : os.take k = os := List.take_of_length_le (by have := hn.out; omega)
      rw [e9] at hS hLm
      replace ar := hid (ar.calm kr)
      have hvB : Hid (∀ j, InB (.slice sa k sc) j → B0 ≤ j ∧ j < W.heap.size) := fun j hj => hk.out.lt hj
      replace hk := hid (hk.out.calm kr)
      replace c1 := c1.trans kr
      replace on := hid on
      clear e9 hge hkn
      go_wp2_with fail
      generalize W.heap.size = B1 at *
      clear kr
      go_loopw [13] (fun i wx => ∃ (m bo : Nat) (X : List Nat), m ≤ 2 ∧ i = .int .i64 ((m : Int) + 1) ∧ 1 ≤ bo ∧ bo + 150 ≤ 200 * (m + 1) ∧ Hid (Ar wx b c X) ∧ Hid (On X os bo (200 * (m + 1)) 0) ∧ Hid (ORow wx B0 (.slice sa k sc) (wh os bo (200 * (m + 1)) 0)) ∧ Fr (fun j => j = c ∨ InB (.slice sa k sc) j) wr wx) (fun i _ => 4 - (intOf i).toNat)
      case atStart => exact ⟨0, 1, X, by omega, rfl, by omega, by omega, ar, on, hk, Fr.refl _ _⟩
      case round =>
        obtain ⟨m, bo, X', hm2, rfl, hb1, hb2, ar2, on2, ro, f2⟩ := hrel
        rcases Nat.lt_or_ge m 2 with hlt | hge
        · have g2 : (m : Int) + 1 < 3 := by omega
          obtain ⟨BN, hBN⟩ : ∃ BN, 200 * (m + 1) = BN := ⟨_, rfl⟩
          rw [hBN] at hb2 on2 ro
          have hc2 : (200 : Int) * ((m : Int) + 1) = (BN : Int) := by rw [← hBN]; push_cast; rfl
          have hBl : BN ≤ 400 := by omega
          replace hBN := hid hBN
          replace hc2 := hid hc2
          go_wp2_with fail
          rw [hc2.out]
          refine (make_yes BN 200 _ (by omega) (by omega) (by omega) (by omega)).mono ?_
          rintro e w5 ⟨rfl, c5⟩
          have hs5 := c5.size
          have o14 := OwnL.new w5 [.int .i64 BN, .int .i64 200, .int .i64 BN] 56
          replace c5 := c5.alloc (.cells #[.int .i64 BN, .int .i64 200, .int .i64 BN] 56)
          have hgP : Hid (∀ j, InB (.slice sa k sc) j → B0 ≤ j ∧ j < w5.heap.size) := fun j hj => by have := ro.out.lt hj; omega
          replace ar2 := hid (ar2.out.calm c5)
          replace ro := hid (ro.out.calm c5)
          have s14 := o14.lt (by simp)
          have hP : wr.heap.size ≤ w5.heap.size := hs5
          have hP0 := Nat.le_trans f2.size hs5
          replace f2 := f2.trans (Calm.any c5)
          clear c5
          go_wp2_with fail
          generalize hW : World.alloc _ (.cells #[.int .i64 BN, .int .i64 200, .int .i64 BN] 56) = W3 at *
          generalize w5.heap.size = P at *
          clear hW
          go_loopw [16] (fun i wy => ∃ (q : Nat) (X : List Nat), q ≤ k ∧ i = .int .i64 q ∧ Hid (Ar wy b c X) ∧ Hid (On X os bo BN q) ∧ OwnL wy P [.int .i64 BN, .int .i64 200, .int .i64 (BN + tk os q : Nat)] ∧ Hid (ORow wy B0 (.slice sa k sc) (wh os bo BN q)) ∧ Fr (fun j => j = c ∨ j = P ∨ InB (.slice sa k sc) j) W3 wy) (fun i _ => k - (intOf i).toNat)
          case atStart => exact ⟨0, X', by omega, rfl, ar2, on2, o14, ro, Fr.refl _ _⟩
          case round =>
            obtain ⟨q, X2, hqk, rfl, ar3, on3, o15, ro3, f3⟩ := hrel
            have hs3' := f3.size
            rcases Nat.lt_or_ge q k with hlq | hge
            · have g3 : (q : Int) < k := by omega
              have hqn : q < os.length := by rw [hn.out]; exact hlq
              obtain ⟨g, gc, hv, hgB, hg0, hg1⟩ := ro3.out.get (k := q) (by rw [wh_len]; exact hqn)
              injection hv with hv1 hv2 hv3
              subst hv1
              rw [wh_get hqn] at hg0
              simp only [Nat.lt_irrefl, decide_false, cond_false] at hg0
              have hA := on3.out.old q (Nat.le_refl _) hqn
              have hst := on3.out.step hqn hb2 (by omega) (by rw [hn.out]; exact ht.out) hb1
              have hset := wh_set (bo := bo) (bn := BN) hqn
              have htk : tk os q + (os.getD q dO).took ≤ 150 := Nat.le_trans (tk_mono os (i := q + 1) hlq) ht.out
              have hT' : BN + tk os (q + 1) = BN + tk os q + (os.getD q dO).took := by show BN + (tk os q + _) = _; omega
              obtain ⟨t1, t2, t3, t4⟩ := Ob.took_eq hA.ok
              have hlen := on3.out.len
              have hcp := hid (fun W' (cw : Calm wr W') => copy_yes W' b c X2 (ar3.out.calm cw) (bo + tk os q) _ hA BN 200 (BN + tk os q) ⟨by omega, by omega, by omega, by omega, by omega, by omega⟩ (by rw [← t1]; omega) (by omega) (by omega))
              rw [← t1, show ((BN + tk os q : Nat) : Int) + ((os.getD q dO).took : Int) = ((BN + tk os (q + 1) : Nat) : Int) by rw [hT']; push_cast; rfl] at hcp
              change Hid (∀ W', Calm wr W' → Calls _ _ _ _ fun e w' => _ ∧ Ar w' b c (cpd X2 (bo + tk os q) (BN + tk os q) (os.getD q dO).size) ∧ _) at hcp
              generalize cpd X2 (bo + tk os q) (BN + tk os q) (os.getD q dO).size = X3 at *
              obtain ⟨T', hTT⟩ : ∃ T', BN + tk os (q + 1) = T' := ⟨_, rfl⟩
              rw [hTT] at hT' hcp
              generalize BN + tk os q = T at *
              generalize bo + tk os q = a at *
              have hgl : g < wr.heap.size := World.block_lt_of_cell? wr _ hg0
              have hgn := hgP.out g (InB.mk.2 rfl)
              have s0 := (o15 0 _ rfl).1
              have s1 := (o15 1 _ rfl).1
              have s2 := (o15 2 _ rfl).1
              have ne1 : g ≠ wr.heap.size := by omega
              have ne2 : wr.heap.size ≠ g := by omega
              have ne3 : P ≠ wr.heap.size := by omega
              have ne4 : wr.heap.size ≠ P := by omega
              replace hst := hid hst
              replace hset := hid hset
              replace hTT := hid hTT
              clear hT'
              replace ro3 := hid ro3.out
              clear hA hv2 hv3 t1 t2 t3 t4 htk hlen
              go_upto_region 21 with fail
              go_cut [17, 18, 19] (fun s17 s18 s19 wx => ∃ y, s17 = .pointer (some ⟨y, 0, none⟩) ∧ s18 = .int .i64 T ∧ s19 = .int .i64 0 ∧ Ar wx b c X3 ∧ OwnL wx y [.int .i64 BN, .int .i64 200, .int .i64 T'] ∧ Fr (fun j => j = c) wr wx ∧ wr.heap.size ≤ y)
              case first =>
                go_region_held3 (fun w' => w'.cell? ⟨g, q, none⟩ = some (.int .i64 a) ∧ w'.cell? ⟨P, 0, none⟩ = some (.int .i64 BN) ∧ w'.cell? ⟨P, 1, none⟩ = some (.int .i64 200) ∧ w'.cell? ⟨P, 2, none⟩ = some (.int .i64 T)) (go_keep)
                  (first | (go_at_call 20; refine (hcp.out _ (by first | exact Fr.refl _ _ | exact (Fr.refl _ _).drew | exact ((Fr.refl _ _).drew).alloc _ | exact ((Fr.refl _ _).alloc _).drew)).mono ?_; rintro e w2 ⟨rfl, ar2, f2⟩; have ka : Fr (fun j => j = c) wr w2 := Fr.trans (by first | exact Fr.refl _ _ | exact (Fr.refl _ _).drew | exact ((Fr.refl _ _).drew).alloc _ | exact ((Fr.refl _ _).alloc _).drew) f2; have q1 := ka.cellAt hg0 (by simp only; omega); have q2 := ka.cellAt s0 (by simp only; omega); have q3 := ka.cellAt s1 (by simp only; omega); have q4 := ka.cellAt s2 (by simp only; omega); try (have ow : OwnL w2 wr.heap.size [.int .i64 0, .int .i64 0, .int .i64 0] := (by first | exact (OwnL.at _ [.int .i64 0, .int .i64 0, .int .i64 0] 56 wr.heap.size rfl).fr f2 (by omega) | exact ((OwnL.at _ [.int .i64 0, .int .i64 0, .int .i64 0] 56 wr.heap.size rfl).calm ((Fr.refl _ _).drew)).fr f2 (by omega)); have m0 := (ow 0 _ rfl).1; have m1 := (ow 1 _ rfl).1; have m2 := (ow 2 _ rfl).1; have n0 := (ow 0 _ rfl).2; have n1 := (ow 1 _ rfl).2; have n2 := (ow 2 _ rfl).2)))
                · go_wp2_with fail
                  go_meet
                  exact ⟨w2.heap.size, rfl, rfl, rfl, ar2.calm ((Fr.refl _ _).alloc _), OwnL.new w2 [.int .i64 BN, .int .i64 200, .int .i64 T'] _, ka.alloc _, ka.size⟩
                · go_wp2_with fail
                  go_meet
                  have o4 := ow.set3 (.int .i64 BN) (.int .i64 200) (.int .i64 T')
                  exact ⟨wr.heap.size, rfl, rfl, rfl, ar2.fr o4.2 (by omega) (by omega), o4.1, ka.join o4.2 (fun j hj (e : j = wr.heap.size) => absurd hj (by omega)), Nat.le_refl _⟩
              case rest =>
                obtain ⟨y, rfl, rfl, rfl, ar4, oy, fy, hy⟩ := hcut
                have o16 := o15.fr fy (by omega)
                have f4 := f3.trans (fy.mono (fun j _ h => .inl h) : Fr (fun j => j = c ∨ j = P ∨ InB (.slice (some ⟨g, 0, none⟩) k sc) j) wr _)
                have z0 := fy.cellAt hg0 (by simp only; omega)
                have z1 := fy.frozenAt hg0 hg1 (by simp only; omega)
                have ro4 := hid (ro3.out.frB fy (fun j hj e => by have := InB.mk1 hj; omega))
                clear s0 s1 s2 hg0 hg1 o15 fy f3 ar3 ro3 ne1 ne2 ne3 ne4 hcp
                have x0 := (oy 0 _ rfl).1
                have x1 := (oy 1 _ rfl).1
                have x2 := (oy 2 _ rfl).1
                have p0 := (o16 0 _ rfl).1
                have r0 := (o16 0 _ rfl).2
                have p1 := (o16 1 _ rfl).1
                have r1 := (o16 1 _ rfl).2
                have p2 := (o16 2 _ rfl).1
                have r2 := (o16 2 _ rfl).2
                have ly := oy.lt (by simp)
                have lsp := o16.lt (by simp)
                have ne5 : g ≠ P := by omega
                have ne6 : P ≠ g := by omega
                go_wp2
                have o5 := o16.set3 (.int .i64 BN) (.int .i64 200) (.int .i64 T')
                have ar5 := ar4.fr o5.2 (by omega) (by omega)
                have ro5 := (ro4.out.frB o5.2 (fun j hj e => by have := InB.mk1 hj; omega)).set (k := q) (by rw [wh_len]; exact hqn) (T : Int)
                rw [hset.out] at ro5
                clear x0 x1 x2 p0 p1 p2 r0 r1 r2 z0 z1
                have hfr : Fr (fun j => j = c ∨ j = P ∨ InB (.slice (some ⟨g, 0, none⟩) k sc) j) W3 _ := (f4.trans (o5.2.mono (fun j _ h => .inr (.inl h)))).setCell (p := ⟨g, q, none⟩) (.inl (.inr (.inr (InB.mk.2 rfl)))) (.int .i64 T)
                have ar6 := hid (ar5.fr (Fr.cell1 _ g q (.int .i64 T)) (by omega) (by omega))
                have o6 := o5.1.fr (Fr.cell1 _ g q (.int .i64 T)) (by omega)
                replace ro5 := hid ro5
                go_roundw
                case rel => exact ⟨q + 1, X3, by omega, by go_num, ar6, hst, by rw [hTT.out]; exact o6, ro5, hfr⟩
                case measure => simp [intOf]; omega
            · obtain rfl : q = k := by omega
              have g3 : ¬ ((q : Int) < q) := by omega
              have hT := ht.out
              have x0 := (o15 0 _ rfl).1
              have x1 := (o15 1 _ rfl).1
              have x2 := (o15 2 _ rfl).1
              have hwk := hid (fun W' (cw : Calm wr W') => walk_is (ar3.out.calm cw) BN 200 (BN + tk os q) ⟨by omega, by omega, by omega, by omega, by omega, by omega⟩ (newL os BN q) (on3.out.laid q (Nat.le_refl _)).lie)
              rw [show ((200 : Nat) : Int) = 200 from rfl] at hwk
              generalize BN + tk os q = T at *
              go_wp2_with fail
              refine (hwk.out _ (Fr.refl _ _)).mono ?_
              rintro e w6 ⟨vw, rfl, rw6, c6⟩
              have hpl : nI (plc (newL os BN q)) = wh os bo BN q := by have := plc_newL os bo BN; rw [hn.out] at this; exact this
              rw [hpl] at rw6
              obtain ⟨wa, wn, wc, rfl⟩ := rw6.letters
              have hwl : (wh os bo BN q).length ≤ 1000000 := by rw [wh_len, hn.out]; omega
              go_wp2_with fail
              refine (ints08 _ _ _ _ _ rw6.row (ro3.out.calm c6).row hwl hwl).mono ?_
              rintro e w7 ⟨rfl, c7⟩
              simp only [decide_true]
              go_wp2_with fail
              have hBn := hBN.out
              have ar7 := hid ((ar3.out.calm c6).calm c7)
              have on7 := hid (by have := on3.out; rw [← hn.out] at this; exact this.turn (bx := 200 * (m + 1 + 1)))
              have ro7 := hid ((ro3.out.calm c6).calm c7)
              rw [show wh os bo BN q = wh os BN (200 * (m + 1 + 1)) 0 by rw [← hn.out]; exact wh_turn _ _ _ _] at ro7
              have f7 := f2.join ((f3.trans (Calm.any c6)).trans (Calm.any c7)) (fun j hj e => e.elim .inl (fun e => e.elim (fun e => absurd hj (by omega)) .inr))
              go_roundw
              case rel => exact ⟨m + 1, BN, X2, by omega, by go_num, by omega, by omega, ar7, on7, ro7, f7⟩
              case measure => simp [intOf]; omega
        · obtain rfl : m = 2 := by omega
          have g2 : ¬ (((2 : Nat) : Int) + 1 < 3) := by decide
          go_wp2_with fail
          have hS2 := hid (hS.out.frB f2 (fun j hj e => by
            have := (hS.out.lt hj).1
            rcases e with e | e
            · omega
            · have := (hvB.out _ e).2; omega))
          have hL2 := hid (hL.out.frB f2 (hL.out.out (fun j h1 h2 e => by
            rcases e with e | e
            · omega
            · have := (hvB.out _ e).2; omega)))
          replace c1 := c1.join f2 (fun j hj e => by
            rcases e with e | e
            · omega
            · have := (hvB.out _ e).1; omega)
          have hLl : Hid (L.length = k) := by have := congrArg List.length hLm.out; rw [List.length_map, List.length_map, hn.out] at this; exact this
          clear hS hL f2 hge hm2 hb2 ar on hk
          go_loopw [20] (fun i wy => ∃ r : Nat, r ≤ k ∧ i = .int .i64 r ∧ Calm wr wy) (fun i _ => k - (intOf i).toNat)
          case atStart => exact ⟨0, by omega, rfl, Fr.refl _ _⟩
          case round =>
            obtain ⟨r, hrk, rfl, kr⟩ := hrel
            rcases Nat.lt_or_ge r k with hlt | hge
            · have g3 : (r : Int) < k := by omega
              have hrn : r < os.length := by rw [hn.out]; exact hlt
              obtain ⟨g, gc, hv, _, hg0, _⟩ := (ro.out.calm kr).get (k := r) (by rw [wh_len]; exact hrn)
              injection hv with hv1 hv2 hv3
              subst hv1
              rw [wh_get hrn] at hg0
              simp only [Nat.not_lt_zero, decide_false, cond_false] at hg0
              have ho := on2.out.old r (Nat.zero_le _) hrn
              obtain ⟨sg, sgc, hv7, _, x0, x1, x2, x3⟩ := (hS2.out.calm kr).get hrn
              obtain ⟨lg, lgc, hv8, _, y0, hyw⟩ := (hL2.out.calm kr).get (k := r) (by rw [hLl.out]; exact hlt)
              rw [hn.out] at hv7
              rw [hLl.out] at hv8
              have e2 : (L.getD r dW).2 = (os.getD r dO).ws.tail := by
                have h1 := congrArg (fun l => l[r]?) hLm.out
                have h2 : r < L.length := by rw [hLl.out]; exact hlt
                simp [List.getElem?_map, h2, hrn] at h1
                simp [List.getD, h2, hrn, h1]
              rw [e2] at hyw
              generalize (L.getD r dW).1 = y at *
              generalize os.getD r dO = o at *
              generalize bo + tk os r = a at *
              have hws : o.ws.tail.length = 2 + o.p + o.d := by rw [List.length_tail, Ob.ws_length ho.ok]; simp only [Ob.size]; omega
              have p8 := ho.ok.sh.1
              have d8 := ho.ok.sh.2.1
              replace ho := hid ho
              have ar3 := ar2.out.calm kr
              obtain ⟨yb, yo, yc, rfl, hyc⟩ := Row.words hyw.row (by omega)
              clear hv2 hv3 e2
              subst hv7
              subst hv8
              go_wp2_with fail
              refine (at_shape ar3 ho.out).mono ?_
              rintro e w4 ⟨rfl, c4⟩
              have o21 := OwnL.new w4 [.int .i64 o.p, .int .i64 o.d, .bool o.wk, .bool o.fn] 27
              replace c4 := c4.alloc (.cells #[.int .i64 o.p, .int .i64 o.d, .bool o.wk, .bool o.fn] 27)
              replace x0 := c4.cellAt x0 id
              replace x1 := c4.cellAt x1 id
              replace x2 := c4.cellAt x2 id
              replace x3 := c4.cellAt x3 id
              replace y0 := c4.cellAt y0 id
              replace hg0 := c4.cellAt hg0 id
              replace ar3 := ar3.calm c4
              have hyc2 : Hid (∀ i, i < o.ws.tail.length → _) := fun i hi => c4.cellAt (hyc i hi) id
              clear hyc
              go_wp2_with fail
              refine (words08_yes ar3 ho.out).mono ?_
              rintro e w6 ⟨z, rfl, hz, c6⟩
              obtain ⟨zb, zo, zc, rfl, hzc⟩ := Row.words hz.row (by omega)
              replace x0 := c6.cellAt x0 id
              replace x1 := c6.cellAt x1 id
              replace x2 := c6.cellAt x2 id
              replace x3 := c6.cellAt x3 id
              replace y0 := c6.cellAt y0 id
              replace o21 := o21.calm c6
              have hyc3 : Hid (∀ i, i < o.ws.tail.length → _) := fun i hi => c6.cellAt (hyc2.out i hi) id
              replace hzc := hid hzc
              replace kr := (kr.trans c4).trans c6
              generalize o.ws.tail = T at *
              obtain ⟨K, hK⟩ : ∃ K, T.length = K := ⟨_, rfl⟩
              rw [hK] at hzc hyc3 hws y0
              simp only [hK]
              replace hK := hid hK
              replace hz := hid hz
              replace hyw := hid hyw
              replace hws := hid hws
              have q0 := (o21 0 _ rfl).1
              have q1 := (o21 1 _ rfl).1
              have q2 := (o21 2 _ rfl).1
              have q3 := (o21 3 _ rfl).1
              clear hyc2 hg0
              go_wp2_with fail
              rw [Nat.add_zero] at x0
              have hKK : ((K : Int) != (K : Int)) = false := by simp
              go_region
              go_wp2_with fail
              have kd : Calm w6 w6.drew := (Fr.refl _ _).drew
              replace kr := kr.trans kd
              have hzd : Hid (∀ i, i < K → _) := fun i hi => kd.cellAt (hzc.out i hi) id
              have hyd : Hid (∀ i, i < K → _) := fun i hi => kd.cellAt (hyc3.out i hi) id
              replace y0 := kd.cellAt y0 id
              have hK20 : K ≤ 20 := by have := hws.out; omega
              clear q0 q1 q2 q3 x0 x1 x2 x3 o21 hS2 hL2 kd hzc hyc3 hz hyw ar3 c4 c6 hKK
              generalize w6.drew = W9 at *
              go_loopw [25] (fun i wz => ∃ e : Nat, e ≤ K ∧ i = .int .i64 e ∧ Calm W9 wz) (fun i _ => K - (intOf i).toNat)
              case atStart => exact ⟨0, by omega, rfl, Fr.refl _ _⟩
              case round =>
                obtain ⟨e, hek, rfl, kz⟩ := hrel
                rcases Nat.lt_or_ge e K with hle | hge
                · have g4 : (e : Int) < K := by omega
                  have z1 := kz.cellAt (hzd.out e hle) id
                  have z2 := kz.cellAt (hyd.out e hle) id
                  have z3 := kz.cellAt y0 id
                  clear y0
                  generalize T.getD e 0 = u at *
                  go_wp2_with fail
                  go_region
                  go_wp2_with fail
                  go_roundw
                  case rel => exact ⟨e + 1, by omega, by go_num, kz.drew⟩
                  case measure => simp [intOf]; omega
                · obtain rfl : e = K := by omega
                  have g4 : ¬ ((e : Int) < e) := by omega
                  have k9 := kr.trans kz
                  clear y0 hge
                  go_wp2_with fail
                  go_roundw
                  case rel => exact ⟨r + 1, by omega, by go_num, k9⟩
                  case measure => simp [intOf]; omega
            · obtain rfl : r = k := by omega
              have g3 : ¬ ((r : Int) < r) := by omega
              clear hS2 hL2 hge
              go_wp2
              go_ret
              exact ⟨rfl, Calm.below (c1.trans kr)⟩

end Go.Proofs.Ytoonimdohkbfgaa
