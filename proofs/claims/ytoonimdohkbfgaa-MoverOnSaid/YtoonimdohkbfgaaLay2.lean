/- Layer 8's Lay, walked. -/
import Derived.Test.YtoonimdohkbfgaaLay
set_option linter.unusedSimpArgs false
set_option linter.unusedVariables false
namespace Go.Proofs.Ytoonimdohkbfgaa
open Go.RowKit Go.Shelf

theorem pick08c (c n : Int) (w : World) (hc : I64 c) (hn : 0 < n) :
    Calls Try.prog 40 #[.int .i64 c, .int .i64 n] w fun e w' => e = .returned (.int .i64 (pk c n)) ∧ Calm w w' :=
  (pick08 c n w hc hn).mono fun e w' ⟨he, hw⟩ => ⟨he, hw ▸ Fr.refl _ _⟩

def LayPost (w : World) (b c : Nat) (xs : List Nat) (m : Nat) (e : Ending) (w' : World) : Prop :=
  ∃ v l X en, e = .returned v ∧ Ar w' b c X ∧ LayO xs X en l ∧ l.length ≤ m ∧ l.length ≤ 8 ∧ ORow w' w.heap.size v (nI (plc l)) ∧ Fr (fun k => k = c) w w'

/-- Where a round begins. -/
def LayI (b c P : Nat) (xs : List Nat) (k : Nat) (v : Value) (W : World) : Prop :=
  ∃ l X e, Ar W b c X ∧ LayO xs X e l ∧ l.length = k ∧ OwnL W P [.int .i64 1, .int .i64 150, .int .i64 e] ∧ ORow W (P + 1) v (nI (plc l))

theorem hasD (K p : Nat) : Has (decide (K < p)) K p := by
  by_cases h : K < p
  · simp only [h, decide_true]; exact .lt (by omega) (by omega)
  · simp only [h, decide_false]; exact .ge (by omega)

theorem nI_len (l : List (Nat × Ob)) : (nI (plc l)).length = l.length := by simp [plc]


set_option maxRecDepth 100000 in
set_option maxHeartbeats 8000000 in
theorem lay_yes {w0 w : World} {b c : Nat} {xs : List Nat} (h : Ar w b c xs) (hx : 151 ≤ xs.length) (hw : Calm w0 w) (hc0 : w0.heap.size ≤ c) (v : Value) (l : List Raw8) (hm : l.length ≤ maxLen) (hr : RowK w0 v 5 (l.map Raw8.cells)) (hl : ∀ o ∈ l, o.Ok w0) :
    Calls Try.prog 17 #[arV b, v] w (LayPost w b c xs l.length) := by
  obtain ⟨i0, hi, hz0, hz1, hz2⟩ := info_parts info_int
  obtain ⟨sa, cap, rfl, hcells⟩ := hr.cells
  unfold maxLen at hm
  have hcl : c < w.heap.size := by obtain ⟨_, ⟨t, ht⟩, _⟩ := h; exact (Array.getElem?_eq_some_iff.1 ht).1
  have hbl := h.lt
  have hlen := h.2.2.2
  have hw0 := hw.size
  replace hcells := hid hcells
  replace hr := hid hr
  replace hl := hid hl
  replace h := hid h
  replace hw := hid hw
  replace hx := hid hx
  go_enter Try.func17, Try.ntmps17
  go_wp2_with fail
  refine (make_yes 1 150 _ (by decide) (by decide) (by decide) (by decide)).mono ?_
  rintro e w1 ⟨rfl, c1⟩
  have hP := c1.size
  have o5 := OwnL.new w1 [.int .i64 1, .int .i64 150, .int .i64 1] 56
  replace c1 := c1.alloc (.cells #[.int .i64 1, .int .i64 150, .int .i64 1] 56)
  have hI : Hid (LayI b c w1.heap.size xs 0 (.slice none 0 0) (w1.alloc (.cells #[.int .i64 1, .int .i64 150, .int .i64 1] 56))) :=
    ⟨[], xs, 1, h.out.calm c1, ⟨rfl, rfl, by omega, fun i hi => by simp at hi, fun _ _ => rfl⟩, rfl, o5, ORow.nil _ _⟩
  go_wp2_with fail
  generalize w1.heap.size = P at *
  go_loopw [7, 8] (fun o i wr => ∃ k : Nat, k ≤ l.length ∧ k ≤ 8 ∧ i = .int .i64 k ∧ Hid (LayI b c P xs k o wr) ∧ Fr (fun j => j = c) w wr) (fun _ i _ => 8 - (intOf i).toNat)
  case atStart => exact ⟨0, by omega, by omega, rfl, hI, Calm.any c1⟩
  case round =>
    clear hI o5 c1
    obtain ⟨k, hk, hk2, rfl, hI, kr⟩ := hrel
    rcases (by omega : (k < l.length ∧ k < 8) ∨ ¬ (k < l.length ∧ k < 8)) with ⟨hlt, hlt2⟩ | hge
    · have ho : l[k]? = some l[k] := by simp [hlt]
      obtain ⟨bb, off, rfl, hc⟩ := hcells.out k _ ho
      obtain ⟨O1, O2, O3, O4, O5, O6⟩ := hl.out _ (List.getElem_mem hlt)
      generalize l[k] = r at *
      obtain ⟨s0, s1', s2, F, f, fr⟩ := r
      obtain ⟨fa, fcap, hFv, hFr⟩ := Row.at O4
      rw [List.length_map] at hFv
      dsimp only at hFv
      subst hFv
      have HF : Hid (∀ i (h : i < f.length), ∃ b off, fa = some ⟨b, off, none⟩ ∧ w0.cell? ⟨b, off + i, none⟩ = some (.int .i64 (f.getD i 0))) := fun i h => by
        obtain ⟨b, off, h1, h2⟩ := hFr i (by simpa using h)
        exact ⟨b, off, h1, by rw [h2]; simp [List.getD, h]⟩
      clear hFr
      have hbb : bb < w0.heap.size := World.block_lt_of_cell? w0 _ (hc 0 _ rfl)
      have z0 := kr.cellAt (hw.out.cellAt (hc 0 _ rfl) id) (show ¬ bb = c by omega)
      have z1 := kr.cellAt (hw.out.cellAt (hc 1 _ rfl) id) (show ¬ bb = c by omega)
      have z2 := kr.cellAt (hw.out.cellAt (hc 2 _ rfl) id) (show ¬ bb = c by omega)
      have z3 := kr.cellAt (hw.out.cellAt (hc 3 _ rfl) id) (show ¬ bb = c by omega)
      have z4 := kr.cellAt (hw.out.cellAt (hc 4 _ rfl) id) (show ¬ bb = c by omega)
      dsimp only at O1 O2 O3 O4 O5 O6 z0 z1 z2 z3 z4
      rw [Nat.add_zero] at z0
      have g1 : (k : Int) < l.length := by omega
      have g2 : (k : Int) < 8 := by omega
      replace O1 := hid O1
      replace O2 := hid O2
      replace O3 := hid O3
      replace O4 := hid O4
      replace O5 := hid O5
      replace hc := hid hc
      replace ho := hid ho
      have hwr := kr.size
      have ne1 : bb ≠ wr.heap.size := by omega
      have ne2 : wr.heap.size ≠ bb := by omega
      go_upto_region 6 with fail
      go_cut [9] (fun s9 wx => ∃ g p d wk fn, s9 = .pointer (some ⟨g, 0, none⟩) ∧ Hid (okS p d wk fn) ∧ OwnL wx g [.int .i64 (p : Nat), .int .i64 (d : Nat), .bool wk, .bool fn] ∧ Calm wr wx ∧ wr.heap.size ≤ g)
      case first =>
        go_region_held3 (fun w' => w'.cell? ⟨bb, off + k * 5, none⟩ = some (.int .i64 s0) ∧ w'.cell? ⟨bb, off + k * 5 + 1, none⟩ = some (.int .i64 s1') ∧ w'.cell? ⟨bb, off + k * 5 + 2, none⟩ = some (.int .i64 s2)) (go_keep)
          (first | (go_at_call 25; refine (fit06d s0 s1' s2 O1.out O2.out O3.out _).mono ?_; rintro e w2 ⟨p, d, wk, fn, hok, rfl, c2, ft⟩; replace hok := hid hok; have ka : Calm wr w2 := Fr.trans (by first | exact Fr.refl _ _ | exact (Fr.refl _ _).drew | exact ((Fr.refl _ _).drew).alloc _ | exact ((Fr.refl _ _).alloc _).drew) c2; have q0 := ka.cellAt z0 id; have q1 := ka.cellAt z1 id; have q2 := ka.cellAt z2 id; try (have ow : OwnL w2 wr.heap.size [.int .i64 0, .int .i64 0, .bool false, .bool false] := (by first | exact (OwnL.at _ [.int .i64 0, .int .i64 0, .bool false, .bool false] 27 wr.heap.size rfl).calm c2 | exact ((OwnL.at _ [.int .i64 0, .int .i64 0, .bool false, .bool false] 27 wr.heap.size rfl).calm ((Fr.refl _ _).drew)).calm c2); have m0 := (ow 0 _ rfl).1; have m1 := (ow 1 _ rfl).1; have m2 := (ow 2 _ rfl).1; have m3 := (ow 3 _ rfl).1; have n0 := (ow 0 _ rfl).2; have n1 := (ow 1 _ rfl).2; have n2 := (ow 2 _ rfl).2; have n3 := (ow 3 _ rfl).2)))
        · go_wp2_with fail
          go_meet
          exact ⟨w2.heap.size, p, d, wk, fn, rfl, hok, OwnL.new _ _ _, ka.alloc _, ka.size⟩
        · go_wp2_with fail
          go_meet
          have o4 := ow.set4 (.int .i64 p) (.int .i64 d) (.bool wk) (.bool fn)
          exact ⟨wr.heap.size, p, d, wk, fn, rfl, hok, o4.1, ka.join o4.2 (fun j hj (e : j = wr.heap.size) => absurd hj (by omega)), Nat.le_refl _⟩
      case rest =>
        obtain ⟨g, p, d, wk, fn, rfl, hok, og, cc, hg⟩ := hcut
        obtain ⟨ls, X, e, ar, lo, hlk, o5, ro⟩ := hI.out
        clear hI z0 z1 z2
        replace z3 := cc.cellAt z3 id
        replace z4 := cc.cellAt z4 id
        replace ar := ar.calm cc
        replace o5 := o5.calm cc
        replace ro := ro.calm cc
        replace kr := kr.trans (Calm.any cc)
        have hwr2 := kr.size
        clear cc
        have p8 := hok.out.1
        have d8 := hok.out.2.1
        have he1 := lo.laid.lie.le
        have he2 := lo.le
        have hlx := lo.len
        have hlk2 : ls.length ≤ 8 := by omega
        have x0 := (o5 0 _ rfl).1
        have x1 := (o5 1 _ rfl).1
        have x2 := (o5 2 _ rfl).1
        have y0 := (og 0 _ rfl).1
        have y1 := (og 1 _ rfl).1
        have y2 := (og 2 _ rfl).1
        have y3 := (og 3 _ rfl).1
        obtain ⟨n, hn⟩ : ∃ n, 3 + p + d = n := ⟨_, rfl⟩
        have hcast : (3 : Int) + p + d = (n : Int) := by rw [← hn]; push_cast; rfl
        have hn19 : n ≤ 19 := by omega
        have hn3 : 3 ≤ n := by omega
        obtain ⟨R, hR⟩ : ∃ R : Nat, rnd (n : Int) = (R : Int) := ⟨(rnd (n : Int)).toNat, by have := rnd_spec (n := (n : Int)) (by omega); omega⟩
        have hrb := rnd_spec (n := (n : Int)) (by omega)
        rw [hR] at hrb
        obtain ⟨hr1, hr2, hr3⟩ := hrb
        replace hcast := hid hcast
        replace hn := hid hn
        replace hlx := hid hlx
        replace hlk := hid hlk
        by_cases hfit : (R : Int) ≤ 150 - ((e : Int) - 1)
        · have htk := hid (fun W => take_yes 1 150 e n W ⟨by omega, by omega, by omega, by omega, by omega, by omega⟩ (by omega) (by omega) (by rw [hR]; exact hfit))
          replace hR := hid hR
          have hxl : Hid (e + n ≤ X.length) := by show e + n ≤ X.length; have := hlx.out; have := hx.out; omega
          replace lo := hid lo
          go_wp2_with fail
          rw [hcast.out]
          refine (htk.out _).mono ?_
          rintro e w3 ⟨rfl, c3⟩
          rw [hR.out]
          clear htk x0 x1 x2 y0 y1 y2 y3
          replace z3 := c3.cellAt z3 id
          replace z4 := c3.cellAt z4 id
          replace ar := ar.calm c3
          replace o5 := o5.calm c3
          replace ro := ro.calm c3
          replace og := og.calm c3
          replace kr := kr.trans (Calm.any c3)
          have o10 := OwnL.new w3 [.int .i64 1, .int .i64 150, .int .i64 (e + R)] 56
          have c4 : Calm w3 (w3.alloc (.cells #[.int .i64 1, .int .i64 150, .int .i64 (e + R)] 56)) := (Fr.refl _ _).alloc _
          replace z3 := c4.cellAt z3 id
          replace z4 := c4.cellAt z4 id
          replace ar := ar.calm c4
          replace o5 := o5.calm c4
          replace ro := ro.calm c4
          replace og := og.calm c4
          replace kr := kr.trans (Calm.any c4)
          have k3 := c3.size
          have k4 := og.lt (by simp)
          clear c3 c4
          have y0 := (og 0 _ rfl).1
          have y1 := (og 1 _ rfl).1
          have y2 := (og 2 _ rfl).1
          have y3 := (og 3 _ rfl).1
          go_wp2_with fail
          have hc1 : ((k : Int) + 1) = ((k + 1 : Nat) : Int) := by push_cast; rfl
          rw [hc1]
          refine (omake_yes _ b c X ar e p d wk fn (k + 1) hok.out (by rw [hn.out]; exact hxl.out) (by omega)).mono ?_
          rintro e w5 ⟨rfl, ar5, f5⟩
          have at5 := made_at (xs := X) (a := e) (ser := k + 1) hok.out (by omega) (by rw [hn.out]; exact hxl.out)
          have lj : Hid (LayJ (made X e p d wk fn (k + 1)) (made X e p d wk fn (k + 1)) e (Ob.new p d wk fn (k + 1)) (Ob.new p d wk fn (k + 1))) := ⟨at5, rfl, rfl, rfl, rfl, fun _ _ => rfl⟩
          replace hc1 := hid hc1
          have hgc : g ≠ c := by omega
          have hPc : P ≠ c := by omega
          replace z3 := f5.cellAt z3 (show ¬ bb = c by omega)
          replace z4 := f5.cellAt z4 (show ¬ bb = c by omega)
          replace o5 := o5.fr f5 (by omega)
          replace o10 := o10.fr f5 (by omega)
          replace ro := ro.fr f5 (fun j hj (e : j = c) => by omega)
          replace kr := kr.trans f5
          have k5 := f5.size
          rw [World.size_alloc] at k5
          clear f5 y0 y1 y2 y3 og at5 ar
          have y0 := (o10 0 _ rfl).1
          have y1 := (o10 1 _ rfl).1
          have y2 := (o10 2 _ rfl).1
          have x0 := (o5 0 _ rfl).1
          have u0 := (o5 0 _ rfl).2
          have x1 := (o5 1 _ rfl).1
          have u1 := (o5 1 _ rfl).2
          have x2 := (o5 2 _ rfl).1
          have u2 := (o5 2 _ rfl).2
          have k6 := o5.lt (by simp)
          have k7 := o10.lt (by simp)
          go_upto_region 10 with fail
          have q5 := o5.set3 (.int .i64 1) (.int .i64 150) (.int .i64 ((e : Int) + R))
          generalize hW6 : World.setCell _ _ (.int .i64 ((e : Int) + R)) = W6 at *
          obtain ⟨o6, f6⟩ := q5
          replace z3 := f6.cellAt z3 (show ¬ bb = P by omega)
          replace z4 := f6.cellAt z4 (show ¬ bb = P by omega)
          have ar6 := hid (ar5.fr f6 (by omega) (by omega))
          replace ro := hid (ro.fr f6 (fun j hj (e : j = P) => by omega))
          replace kr := kr.join f6 (fun j hj (e : j = P) => absurd hj (by omega))
          have k8 := f6.size
          have k9 := o6.lt (by simp)
          clear f6 o5 o10 hW6 x0 x1 x2 u0 u1 u2 y0 y1 y2 ar5
          have hln : Hid ((nI (plc ls)).length = k) := by show (nI (plc ls)).length = k; rw [nI_len]; exact hlk.out
          obtain ⟨sa, sn, sc, rfl⟩ := ro.out.letters
          obtain ⟨L, hL⟩ : ∃ L, nI (plc ls) = L := ⟨_, rfl⟩
          rw [hL] at ro hln
          replace hL := hid hL
          have k10 : Hid (P + 1 ≤ W6.heap.size) := by show P + 1 ≤ W6.heap.size; omega
          go_wp2_with (at_builtin; refine wpList_append_own _ rfl _ _ 50 rfl (P + 1) 3 i0 (.int .i64 0) 1 8 Try.underlying50 hi hz0 hz1 hz2 rfl (by decide) _ _ _ rfl (ro.out.alloc _) ⟨W6.heap.size, 0, none⟩ 1 1 [.int .i64 e] rfl rfl (cell_one_new _ _ _) (by simp [Value.oneCell']) (by have := hln.out; unfold maxLen; omega) (by have := hln.out; omega) (by have := k10.out; simp; omega) ?_; intro v' w7 hown' hgrow _; obtain ⟨g', cap', rfl⟩ := ownsRow_succ hown'; have hF := hid (Fr.append1 ro.out hgrow); clear hgrow; replace hown' := hid hown')
          have f7 := hF.out
          replace z3 := f7.cellAt z3 (show ¬ P + 1 ≤ bb by omega)
          replace z4 := f7.cellAt z4 (show ¬ P + 1 ≤ bb by omega)
          have ar7 := hid (ar6.out.fr f7 (by omega) (by omega))
          replace o6 := o6.fr f7 (by omega)
          replace kr := kr.join f7 (fun j hj (e : P + 1 ≤ j) => absurd hj (by omega))
          have ro7 : Hid (ORow w7 (P + 1) (.slice (some ⟨g', 0, none⟩) (L.length + 1) cap') (L ++ [(e : Int)])) := by
            show World.ownsRow _ _ _ _ _ _ _
            rw [List.length_append, iVs, List.map_append]
            exact hown'.out
          have k11 := f7.size
          have k12 := o6.lt (by simp)
          have hlm : Hid (L.length + 1 = k + 1) := by show L.length + 1 = k + 1; rw [hln.out]
          generalize L.length + 1 = Ln at *
          clear f7 hF hown' ar6 ro
          go_wp2_with fail
          go_loopw [13] (fun j wq => ∃ (J : Nat) (X' : List Nat) (o' : Ob), J ≤ f.length ∧ J ≤ 8 ∧ j = .int .i64 J ∧ Hid (Ar wq b c X') ∧ Hid (LayJ (made X e p d wk fn (k + 1)) X' e (Ob.new p d wk fn (k + 1)) o') ∧ Fr (fun j => j = c) w7 wq) (fun j _ => 8 - (intOf j).toNat)
          case atStart => exact ⟨0, _, _, by omega, by omega, rfl, ar7, lj, Fr.refl _ _⟩
          case round =>
            clear ar7 lj
            obtain ⟨J, X', o', hJ, hJ2, rfl, ar7, lj, f8⟩ := hrel
            have y3 := f8.cellAt z3 (show ¬ bb = c by omega)
            have y4 := f8.cellAt z4 (show ¬ bb = c by omega)
            rcases (by omega : (J < f.length ∧ J < 8) ∨ ¬ (J < f.length ∧ J < 8)) with ⟨jlt, jlt2⟩ | jge
            · obtain ⟨bf, of, hfa, hfc⟩ := HF.out J jlt
              subst hfa
              have hbf : bf < w0.heap.size := World.block_lt_of_cell? w0 _ hfc
              have v3 := f8.cellAt (kr.cellAt (hw.out.cellAt hfc id) (show ¬ bf = c by omega)) (show ¬ bf = c by omega)
              have hxI : Hid (I64 (f.getD J 0)) := O5.out _ (by simp [List.getD, jlt])
              generalize f.getD J 0 = xJ at *
              have rv := pk_range xJ (n := 131073) (by omega)
              obtain ⟨V, hV⟩ : ∃ V, pk xJ 131073 = V := ⟨_, rfl⟩
              rw [hV] at rv
              obtain ⟨rv1, rv2⟩ := rv
              obtain ⟨V, rfl⟩ := Int.eq_ofNat_of_zero_le rv1
              have hV2 : Hid (V ≤ 131072) := by show V ≤ 131072; omega
              replace hV := hid hV
              have j1 : (J : Int) < f.length := by omega
              have j2 : (J : Int) < 8 := by omega
              clear rv1 rv2
              go_wp2_with fail
              refine (pick08 xJ 131073 _ hxI.out (by omega)).mono ?_
              rintro e w8 ⟨rfl, rfl⟩
              rw [hV.out]
              go_wp2_with fail
              refine (at_setptr_if ar7.out lj.out.at_ (k := (J : Int)) (hasD J o'.p) hV2.out).mono ?_
              rintro e w8 ⟨rfl, ar8, f9⟩
              have lj8 := hid (lj.out.ptr (k := (J : Int)) (v := V) (hasD J o'.p) hV2.out)
              replace y3 := f9.cellAt y3 (show ¬ bb = c by omega)
              replace v3 := f9.cellAt v3 (show ¬ bf = c by omega)
              replace f8 := f8.trans f9
              generalize (bif decide (J < o'.p) then X'.set (e + 3 + (J : Int).toNat) V else X') = X8 at *
              generalize (bif decide (J < o'.p) then { o' with ps := o'.ps.set (J : Int).toNat V } else o') = o8 at *
              generalize (bif decide (J < o'.p) then (0 : Int) else 71) = r8 at *
              replace ar8 := hid ar8
              clear f9 ar7 lj y4
              go_wp2_with fail
              refine (at_setnum_if ar8.out lj8.out.at_ (k := (J : Int)) (hasD J o8.d) hxI.out).mono ?_
              rintro e w9 ⟨rfl, ar9, f9⟩
              have lj9 := hid (lj8.out.num (k := (J : Int)) (v := xJ) (hasD J o8.d) hxI.out)
              replace f8 := f8.trans f9
              generalize (bif decide (J < o8.d) then X8.set (e + 3 + o8.p + (J : Int).toNat) (zg xJ) else X8) = X9 at *
              generalize (bif decide (J < o8.d) then { o8 with ns := o8.ns.set (J : Int).toNat (zg xJ) } else o8) = o9 at *
              generalize (bif decide (J < o8.d) then (0 : Int) else 71) = r9 at *
              replace ar9 := hid ar9
              clear f9 ar8 lj8 y3 v3
              go_wp2_with fail
              go_roundw
              case rel => exact ⟨J + 1, X9, o9, by omega, by omega, by go_num, ar9, lj9, f8⟩
              case measure => simp [intOf]; omega
            · by_cases jl : J < f.length
              · have j1 : (J : Int) < f.length := by omega
                have j2 : ¬ ((J : Int) < 8) := by omega
                clear jge jl hJ hJ2
                go_wp2_with fail
                refine (at_setfreed ar7.out lj.out.at_ fr).mono ?_
                rintro e w8 ⟨rfl, ar8, f9⟩
                have lj8 := lj.out.freed fr
                replace f8 := f8.trans f9
                have st := LayO.step (o := { o' with fr := fr }) lo.out hok.out (by rw [hn.out, hR.out]; omega) hx.out (by rw [hlk.out]; exact lj8)
                have hI2 : Hid (LayI b c P xs (k + 1) (.slice (some ⟨g', 0, none⟩) Ln cap') w8) :=
                  ⟨_, _, _, ar8, st, by rw [List.length_append, hlk.out]; rfl, by
                    have e1 : (((e + (rnd ((3 + p + d : Nat) : Int)).toNat : Nat) : Int)) = (e : Int) + R := by rw [hn.out, hR.out]; push_cast; rfl
                    rw [e1]; exact o6.fr f8 (by omega), by
                    have e2 : nI (plc (ls ++ [(e, { o' with fr := fr })])) = L ++ [(e : Int)] := by simp only [plc, nI, List.map_append, List.map_cons, List.map_nil] at hL ⊢; rw [hL.out]
                    rw [e2]; exact ro7.out.fr f8 (fun j hj (e : j = c) => by omega)⟩
                clear st ar8 f9 lj8
                go_wp2_with fail
                go_roundw
                case rel => exact ⟨k + 1, by omega, by omega, by go_num, hI2, kr.trans f8⟩
                case measure => simp [intOf]; omega
              · have j1 : ¬ ((J : Int) < f.length) := by omega
                clear jge jl hJ hJ2
                go_wp2_with fail
                refine (at_setfreed ar7.out lj.out.at_ fr).mono ?_
                rintro e w8 ⟨rfl, ar8, f9⟩
                have lj8 := lj.out.freed fr
                replace f8 := f8.trans f9
                have st := LayO.step (o := { o' with fr := fr }) lo.out hok.out (by rw [hn.out, hR.out]; omega) hx.out (by rw [hlk.out]; exact lj8)
                have hI2 : Hid (LayI b c P xs (k + 1) (.slice (some ⟨g', 0, none⟩) Ln cap') w8) :=
                  ⟨_, _, _, ar8, st, by rw [List.length_append, hlk.out]; rfl, by
                    have e1 : (((e + (rnd ((3 + p + d : Nat) : Int)).toNat : Nat) : Int)) = (e : Int) + R := by rw [hn.out, hR.out]; push_cast; rfl
                    rw [e1]; exact o6.fr f8 (by omega), by
                    have e2 : nI (plc (ls ++ [(e, { o' with fr := fr })])) = L ++ [(e : Int)] := by simp only [plc, nI, List.map_append, List.map_cons, List.map_nil] at hL ⊢; rw [hL.out]
                    rw [e2]; exact ro7.out.fr f8 (fun j hj (e : j = c) => by omega)⟩
                clear st ar8 f9 lj8
                go_wp2_with fail
                go_roundw
                case rel => exact ⟨k + 1, by omega, by omega, by go_num, hI2, kr.trans f8⟩
                case measure => simp [intOf]; omega
        · have htk := hid (fun W => take_full 1 150 e n W ⟨by omega, by omega, by omega, by omega, by omega, by omega⟩ (by omega) (by omega) (by rw [hR]; omega))
          replace hR := hid hR
          replace lo := hid lo
          go_wp2_with fail
          rw [hcast.out]
          refine (htk.out _).mono ?_
          rintro e w3 ⟨rfl, c3⟩
          replace ar := ar.calm c3
          replace ro := ro.calm c3
          replace kr := kr.trans (Calm.any c3)
          obtain ⟨sa, sn, sc, rfl⟩ := ro.letters
          clear htk x0 x1 x2 y0 y1 y2 y3 og z3 z4 o5 c3
          go_wp2
          go_ret
          exact ⟨_, ls, X, e, rfl, ar.calm ((Fr.refl _ _).alloc _), lo.out, by have := hlk.out; omega, by omega, (ro.calm ((Fr.refl _ _).alloc _)).mono (by omega), kr.alloc _⟩
    · obtain ⟨ls, X, e, ar, lo, hlk, o5, ro⟩ := hI.out
      obtain ⟨sa, sn, sc, rfl⟩ := ro.letters
      have lo' := hid lo
      have hlk' := hid hlk
      clear lo hlk
      by_cases hkl : k < l.length
      · have g1 : (k : Int) < l.length := by omega
        have g2 : ¬ ((k : Int) < 8) := by omega
        clear hge hkl
        go_wp2
        go_ret
        exact ⟨_, ls, X, e, rfl, ar, lo'.out, by have := hlk'.out; omega, by have := hlk'.out; omega, ro.mono (by omega), kr⟩
      · have g1 : ¬ ((k : Int) < l.length) := by omega
        clear hge hkl
        go_wp2
        go_ret
        exact ⟨_, ls, X, e, rfl, ar, lo'.out, by have := hlk'.out; omega, by have := hlk'.out; omega, ro.mono (by omega), kr⟩

end Go.Proofs.Ytoonimdohkbfgaa
