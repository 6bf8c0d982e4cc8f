/- MoverRoom returns true, whatever the input. -/
import Derived.Test.YtcacbbfeenebbaaLay2
set_option linter.unusedSimpArgs false
set_option linter.unusedVariables false
namespace Go.Proofs.Ytcacbbfeenebbaa
open Go.RowKit Go.Shelf

/-- A slice of words of the call's own. -/
def WRow (w : World) (base : Nat) (v : Value) (l : List Nat) : Prop := w.ownsRow base 29 1 v l.length (l.map wV)
theorem WRow.nil (w : World) (base : Nat) : WRow w base (.slice none 0 0) [] := World.ownsRow_nil _ _ _ _
theorem WRow.row {w : World} {base : Nat} {v : Value} {l : List Nat} (h : WRow w base v l) : Row w v (l.map wV) := Row.of_owns h
theorem WRow.fr {S : Nat → Prop} {w w' : World} {base : Nat} {v : Value} {l : List Nat} (h : WRow w base v l) (f : Fr S w w') (hs : ∀ k, base ≤ k → ¬ S k) : WRow w' base v l := ownsRow_fr h f hs
theorem WRow.calm {w w' : World} {base : Nat} {v : Value} {l : List Nat} (h : WRow w base v l) (f : Calm w w') : WRow w' base v l := ownsRow_fr h f (fun _ _ => id)
theorem WRow.letters {w : World} {base : Nat} {v : Value} {l : List Nat} (h : WRow w base v l) : ∃ a n c, v = .slice a n c := by
  obtain ⟨a, c, h, _⟩ := h.row
  exact ⟨a, _, c, h⟩
theorem take_succ_getDN (l : List Nat) {k : Nat} (hk : k < l.length) : l.take (k + 1) = l.take k ++ [l.getD k 0] := by
  rw [List.take_succ_eq_append_getElem hk]; simp [List.getD, hk]

theorem Row.words {w : World} {v : Value} {X : List Nat} (h : Row w v (X.map wV)) (h0 : 0 < X.length) :
    ∃ b off cap, v = .slice (some ⟨b, off, none⟩) X.length cap ∧ ∀ i, i < X.length → w.cell? ⟨b, off + i, none⟩ = some (wV (X.getD i 0)) := by
  obtain ⟨a, cap, rfl, h⟩ := h
  rcases h with h | ⟨b, off, rfl, hc⟩
  · have := congrArg List.length h; simp at this; subst this; simp at h0
  · exact ⟨b, off, cap, by simp, fun i hi => by rw [hc i (by simpa using hi)]; simp [List.getD, hi]⟩

/-- Where the object k lies. -/
theorem plc_get {xs : List Nat} {b e : Nat} {l : List (Nat × Ob)} (h : Lie xs b e l) {k : Nat} (hk : k < l.length) : (nI (plc l)).getD k 0 = (begs b l k : Nat) := by
  have := (Lie.at h k hk).1
  simp [List.getD, hk] at this
  simp [plc, List.getD, hk, this]

set_option maxRecDepth 100000 in
set_option maxHeartbeats 8000000 in
theorem moverRoom_walk (v : Value) (l : List Raw8) (hm : l.length ≤ maxLen) (q : Int) (hq : I64 q) (z : Int) (hz : I64 z) (w : World) (hr : RowK w v 5 (l.map Raw8.cells)) (hl : ∀ o ∈ l, o.Ok w) :
    Calls Try.prog 7 #[v, .int .i64 q, .int .i64 z] w fun e w' => e = .returned (.bool true) ∧ Below w.heap.size w w' := by
  obtain ⟨i0, hi, hz0, hz1, hz2⟩ := info_parts info_w
  replace hr := hid hr
  replace hl := hid hl
  replace hm := hid hm
  replace hq := hid hq
  replace hz := hid hz
  go_enter Try.func7, Try.ntmps7
  go_wp2_with fail
  refine (awake08 _).mono ?_
  rintro e w1 ⟨rfl, c1⟩
  go_wp2_with fail
  refine (new_yes _ 400 (by decide) (by decide)).mono ?_
  rintro e w2 ⟨b, c, rfl, ar, c2, lb, lc⟩
  have hwc : w.heap.size ≤ c := by have := c1.size; omega
  replace c1 := c1.trans c2
  clear c2
  go_wp2_with fail
  refine (lay_yes (w0 := w) ar (by simp) c1 hwc v l hm.out hr.out hl.out).mono ?_
  rintro e w3 ⟨vr, ls, X, en, rfl, ar, lo, h1, h2, ro, f3⟩
  replace c1 := c1.join f3 (fun j hj (e : j = c) => absurd hj (by omega))
  have hlen := lo.len
  simp only [List.length_replicate] at hlen
  clear f3 lb h1 hm hr hl
  by_cases h0 : ls.length = 0
  · obtain ⟨sa, sc, rfl⟩ := ro.sliceN ((nI_len ls).trans h0)
    clear ro lo hlen
    go_wp2
    go_ret
    exact ⟨rfl, Calm.below c1⟩
  · obtain ⟨sa, sc, rfl⟩ := ro.sliceN (nI_len ls)
    have hn0 : ((ls.length : Int) == 0) = false := by rw [beq_eq_false_iff_ne]; omega
    have hrow := ro.row
    have rq := pk_range q (n := (ls.length : Int)) (by omega)
    obtain ⟨K, hK⟩ : ∃ K, pk q ls.length = K := ⟨_, rfl⟩
    rw [hK] at rq
    obtain ⟨rq1, rq2⟩ := rq
    obtain ⟨K, rfl⟩ := Int.eq_ofNat_of_zero_le rq1
    have hKl : K < ls.length := by omega
    have ho := lo.laid.at K hKl
    have hget := plc_get lo.laid.lie hKl
    generalize (ls.getD K (0, Ob.new 0 0 false false 0)).2 = o at *
    generalize begs 1 ls K = A at *
    obtain ⟨ba, oa, ca, hv, hcell⟩ := Row.ints hrow
    have hcK := hcell K (by rw [nI_len]; exact hKl)
    rw [hget] at hcK
    have hsa : sa = some ⟨ba, oa, none⟩ := by
      rcases hv with hv | ⟨a', hv, hnil⟩
      · simp only [Value.slice.injEq] at hv; exact hv.1
      · have := congrArg List.length hnil; rw [nI_len] at this; exact absurd this h0
    subst hsa
    clear hv hcell hrow hget ro lo
    have hbl := ar.lt
    have hA := ho.room
    have p8 := ho.ok.sh.1
    have d8 := ho.ok.sh.2.1
    replace hK := hid hK
    replace ho := hid ho
    generalize ls.length = m at *
    go_wp2_with fail
    refine (pick08 q m _ hq.out (by omega)).mono ?_
    rintro e w' ⟨rfl, rfl⟩
    rw [hK.out]
    go_wp2_with fail
    refine (at_shape ar ho.out).mono ?_
    rintro e w4 ⟨rfl, c4⟩
    have o12 := OwnL.new w4 [.int .i64 o.p, .int .i64 o.d, .bool o.wk, .bool o.fn] 31
    replace c4 := c4.alloc (.cells #[.int .i64 o.p, .int .i64 o.d, .bool o.wk, .bool o.fn] 31)
    replace ar := ar.calm c4
    replace c1 := c1.trans c4
    clear c4 hcK
    have x0 := (o12 0 _ rfl).1
    have x1 := (o12 1 _ rfl).1
    have x2 := (o12 2 _ rfl).1
    have x3 := (o12 3 _ rfl).1
    obtain ⟨n, hn⟩ : ∃ n, 3 + o.p + o.d = n := ⟨_, rfl⟩
    have hcast : (3 : Int) + o.p + o.d = (n : Int) := by rw [← hn]; push_cast; rfl
    have hn3 : 3 ≤ n := by omega
    have hn19 : n ≤ 19 := by omega
    have hsz : Hid (o.size = n) := hn
    have rz := pk_range z (n := (n : Int)) (by omega)
    obtain ⟨M, hM⟩ : ∃ M, pk z n = M := ⟨_, rfl⟩
    rw [hM] at rz
    obtain ⟨rz1, rz2⟩ := rz
    obtain ⟨M, rfl⟩ := Int.eq_ofNat_of_zero_le rz1
    replace hcast := hid hcast
    replace hn := hid hn
    replace hM := hid hM
    go_wp2_with fail
    rw [hcast.out]
    refine (pick08 z n _ hz.out (by omega)).mono ?_
    rintro e w' ⟨rfl, rfl⟩
    rw [hM.out]
    clear x0 x1 x2 x3 o12
    go_wp2_with fail
    refine (make_yes 200 M _ (by decide) (by decide) (by omega) (by omega)).mono ?_
    rintro e w5 ⟨rfl, c5⟩
    have o15 := OwnL.new w5 [.int .i64 200, .int .i64 M, .int .i64 200] 61
    replace c5 := c5.alloc (.cells #[.int .i64 200, .int .i64 M, .int .i64 200] 61)
    replace ar := ar.calm c5
    replace c1 := c1.trans c5
    have s15 := o15.lt (by simp)
    clear c5
    go_wp2_with fail
    generalize hW : World.alloc _ (.cells #[.int .i64 200, .int .i64 M, .int .i64 200] 61) = W at *
    generalize w5.heap.size = P at *
    clear hW
    have hX := hid hlen
    clear hlen hA
    go_loopw [17, 18] (fun o' i wr => ∃ k : Nat, k ≤ 400 ∧ i = .int .i64 k ∧ Hid (WRow wr W.heap.size o' (X.take k)) ∧ Calm W wr) (fun _ i _ => 400 - (intOf i).toNat)
    case atStart => exact ⟨0, by omega, rfl, WRow.nil _ _, Fr.refl _ _⟩
    case round =>
      obtain ⟨k, hk, rfl, hro, kr⟩ := hrel
      rcases Nat.lt_or_ge k 400 with hlt | hge
      · have g1 : (k : Int) < 400 := by omega
        have e2 : Hid (X.take (k + 1) = X.take k ++ [X.getD k 0]) := take_succ_getDN X (by have := hX.out; omega)
        have hln : Hid ((X.take k).length = k) := by show (X.take k).length = k; simp [hX.out]; omega
        have hs : Hid (W.heap.size ≤ wr.heap.size) := kr.size
        obtain ⟨sa, sn, sc, rfl⟩ := hro.out.letters
        generalize X.take k = L at *
        go_wp2_with fail
        refine (load_yes _ b c X (ar.calm kr) k (by have := hX.out; omega)).mono ?_
        rintro e w6 ⟨rfl, rfl⟩
        generalize X.getD k 0 = u at *
        go_wp2_with (at_builtin; refine wpList_append_own _ rfl _ _ 64 rfl W.heap.size 29 i0 (.int .u64 0) 1 8 Try.underlying64 hi hz0 hz1 hz2 rfl (by decide) _ _ _ rfl (hro.out.alloc _) ⟨w6.heap.size, 0, none⟩ 1 1 [.int .u64 u] rfl rfl (cell_one_new _ _ _) (by simp [Value.oneCell']) (by have := hln.out; unfold maxLen; omega) (by have := hln.out; omega) (by have := hs.out; simp; omega) ?_; intro v' w4 hown' hgrow _; obtain ⟨g', cap', rfl⟩ := ownsRow_succ hown'; have hF := hid (Fr.append1 hro.out hgrow); clear hgrow; replace hown' := hid hown')
        go_roundw
        case rel =>
          refine ⟨k + 1, by omega, by go_num, ?_, kr.join hF.out (fun j h1 h2 => absurd h1 (by omega))⟩
          rw [e2.out]
          show World.ownsRow _ _ _ _ _ _ _
          rw [List.length_append, List.map_append]
          exact hown'.out
        case measure => simp [intOf]; omega
      · obtain rfl : k = 400 := by omega
        have g1 : ¬ ((400 : Int) < 400) := by omega
        have e3 : Hid (X.take 400 = X) := List.take_of_length_le (by have := hX.out; omega)
        obtain ⟨sa, sn, sc, rfl⟩ := hro.out.letters
        have hrow := hro.out.row
        rw [e3.out] at hrow
        clear hge hk hro
        replace ar := ar.calm kr
        replace o15 := o15.calm kr
        replace c1 := c1.trans kr
        have x0 := (o15 0 _ rfl).1
        have x1 := (o15 1 _ rfl).1
        have x2 := (o15 2 _ rfl).1
        have hso : rnd (o.size : Int) ≥ n := by rw [hsz.out]; exact (rnd_spec (n := (n : Int)) (by omega)).1
        go_wp2_with fail
        refine (copy_room _ b c X ar A o ho.out 200 M 200 ⟨by decide, by decide, by omega, by omega, by decide, by omega⟩ (by omega)).mono ?_
        rintro e w6 ⟨rfl, c6⟩
        have o21 := OwnL.new w6 [.int .i64 200, .int .i64 M, .int .i64 200] 61
        replace c6 := c6.alloc (.cells #[.int .i64 200, .int .i64 M, .int .i64 200] 61)
        replace ar := ar.calm c6
        replace o15 := o15.calm c6
        replace hrow := hrow.calm c6
        replace c1 := c1.trans c6
        have s21 := o15.lt (by simp)
        have s22 := o21.lt (by simp)
        clear c6 x0 x1 x2 hso
        have x0 := (o15 0 _ rfl).1
        have x1 := (o15 1 _ rfl).1
        have x2 := (o15 2 _ rfl).1
        have y0 := (o21 0 _ rfl).1
        have y1 := (o21 1 _ rfl).1
        have y2 := (o21 2 _ rfl).1
        obtain ⟨bw, ow, cw, hv, hcell⟩ := Row.words hrow (by have := hX.out; omega)
        rw [hX.out] at hv hcell
        simp only [Value.slice.injEq] at hv
        obtain ⟨rfl, rfl, rfl⟩ := hv
        replace hcell := hid hcell
        clear hrow
        go_wp2_with fail
        generalize hW2 : World.alloc _ (.cells #[.int .i64 200, .int .i64 M, .int .i64 200] 61) = W2 at *
        clear x0 x1 x2 y0 y1 y2 o15 o21 hW2
        go_loopw [24] (fun i wr => ∃ k : Nat, k ≤ 400 ∧ i = .int .i64 k ∧ wr = W2) (fun i _ => 400 - (intOf i).toNat)
        case atStart => exact ⟨0, by omega, rfl, rfl⟩
        case round =>
          obtain ⟨k, hk, rfl, rfl⟩ := hrel
          rcases Nat.lt_or_ge k 400 with hlt | hge
          · have g1 : (k : Int) < 400 := by omega
            have c0 := hcell.out k hlt
            go_wp2_with fail
            refine (load_yes _ b c X ar k (by have := hX.out; omega)).mono ?_
            rintro e w7 ⟨rfl, rfl⟩
            generalize X.getD k 0 = u at *
            go_wp2_with fail
            go_roundw
            case rel => exact ⟨k + 1, by omega, by go_num, by trivial⟩
            case measure => simp [intOf]; omega
          · obtain rfl : k = 400 := by omega
            have g1 : ¬ ((400 : Int) < 400) := by omega
            clear hge hk
            go_wp2_with fail
            refine (mat_here _ b c X ar A o ho.out).mono ?_
            rintro e w' ⟨rfl, rfl⟩
            go_wp2
            go_ret
            exact ⟨rfl, Calm.below c1⟩

end Go.Proofs.Ytcacbbfeenebbaa
