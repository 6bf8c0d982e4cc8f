/- Layer 9's example. -/
import Derived.Test.YtcacbbfeenebbaaSame
import Derived.Test.YtcacbbfeenebbaaLaw09
set_option linter.unusedSimpArgs false
set_option linter.unusedVariables false
namespace Go.Proofs.Ytcacbbfeenebbaa
open Go.RowKit Go.Shelf Go.Maps

set_option maxHeartbeats 1000000 in
theorem strong_none {w : World} {b c : Nat} {xs : List Nat} (h : Ar w b c xs) (a : Nat) (hat : a < xs.length) (hW : xs.getD a 0 < 18446744073709551616) (hh : ∀ p d wk fn fr, ¬ isHead (xs.getD a 0) p d wk fn fr) :
    Calls Try.prog 42 #[arV b, .int .i64 a] w fun e w' => e = .returned (.tuple #[.slice none 0 0, .int .i64 70]) ∧ Calm w w' := by
  have H := hid (oshape_none w b c xs h a hat hW hh)
  clear h hh hW
  go_enter Try.func42, Try.ntmps42
  go_wp2_with fail
  refine (H.out).mono ?_
  rintro e w1 ⟨rfl, c1⟩
  go_wp2
  go_ret2
  exact ⟨rfl, c1.alloc _⟩

set_option maxHeartbeats 2000000 in
theorem from_bad {w : World} {b c : Nat} {xs : List Nat} (h : Ar w b c xs) {q : Nat} (hq1 : 1 ≤ q) (hat : q < xs.length) (hW : xs.getD q 0 < 18446744073709551616) (hh : ∀ p d wk fn fr, ¬ isHead (xs.getD q 0) p d wk fn fr)
    (rb roff rc : Nat) (hr : w.cell? ⟨rb, roff, none⟩ = some (.int .i64 q)) :
    Calls Try.prog 70 #[arV b, .slice (some ⟨rb, roff, none⟩) 1 rc] w fun e w' => e = .returned (.tuple #[.pointer none, .int .i64 70]) ∧ Calm w w' := by
  have hmm := @run_makeMap Try.prog
  have hlen := h.2.2.2
  have HA := hid h
  have hrl := World.block_lt_of_cell? w _ hr
  have HS := hid (fun W (cw : Calm w W) => strong_none (h.calm cw) q hat hW hh)
  replace hr := hid hr
  clear h hh hW
  go_enter Try.func70, Try.ntmps70
  go_wp2_with fail
  obtain ⟨W0, hW0⟩ : ∃ W0, (w.alloc (Obj.map #[] 0)).alloc (Obj.cells #[Value.slice none 0 0, Value.map (some w.heap.size)] 125) = W0 := ⟨_, rfl⟩
  have hc0 : Cm W0 (w.heap.size + 1) w.heap.size (.slice none 0 0) [] := by
    rw [← hW0]
    exact ⟨Own.at _ _ _ _ 0 (by simp) rfl, Own.at _ _ _ _ 1 (by simp) rfl, ORow.nil _ _, World.ownsMap.alloc (World.ownsMap_made w Try.prog 3 _) _, InB.nil _, InB.nil _, by omega, List.nodup_nil⟩
  have k0 : Calm w W0 := by rw [← hW0]; exact ((Fr.refl _ _).alloc _).alloc _
  rw [hW0]
  have hcell := k0.cellAt (p := ⟨rb, roff, none⟩) hr.out id
  have hadd : Hid (addTo [] q = [q]) := by show addTo [] q = [q]; simp [addTo]; omega
  clear hW0
  replace hc0 := hid hc0
  refine wp_loop_rounds 2 ?_
  rw [rounds_succ]
  go_wp2_with fail
  refine (to_is hc0.out q (by omega) (by simp)).mono ?_
  rintro e w2 ⟨rfl, v', hcm2, hf2, hn2⟩
  rw [hadd.out] at hcm2
  have k2 : Calm w w2 := k0.join hf2 (fun j h1 h2 => by
    rcases h2 with rfl | rfl | h2
    · omega
    · omega
    · exact InB.nil _ h2)
  obtain ⟨sa, sc, rfl⟩ := hcm2.row.sliceN (n := 1) (by simp)
  have p0 := hcm2.places.1
  obtain ⟨g, c', hv, _, hg0, _⟩ := hcm2.row.get (k := 0) (by simp)
  injection hv with hv1 hv2 hv3
  subst hv1
  rw [show (nI [q]).getD 0 0 = ((q : Nat) : Int) by simp] at hg0
  replace hcm2 := hid hcm2
  clear hf2 hn2 hv2 hv3 hcell
  go_wp2_with fail
  rw [rounds_succ]
  go_wp2_with fail
  refine wp_loop_rounds 1 ?_
  rw [rounds_succ]
  go_wp2_with fail
  refine (HS.out _ k2).mono ?_
  rintro e w3 ⟨rfl, c3⟩
  go_wp2
  go_ret2
  exact ⟨rfl, k2.trans c3⟩

set_option maxHeartbeats 1000000 in
theorem reach_bad {w : World} {b c : Nat} {xs : List Nat} (h : Ar w b c xs) {q : Nat} (hq1 : 1 ≤ q) (hat : q < xs.length) (hW : xs.getD q 0 < 18446744073709551616) (hh : ∀ p d wk fn fr, ¬ isHead (xs.getD q 0) p d wk fn fr)
    (rb roff rc : Nat) (hr : w.cell? ⟨rb, roff, none⟩ = some (.int .i64 q)) :
    Calls Try.prog 41 #[arV b, .slice (some ⟨rb, roff, none⟩) 1 rc] w fun e w' => e = .returned (.tuple #[.slice none 0 0, .int .i64 70]) ∧ Calm w w' := by
  have HF := hid (from_bad h hq1 hat hW hh rb roff rc hr)
  clear h hh hr hW
  go_enter Try.func41, Try.ntmps41
  go_wp2_with fail
  refine (HF.out).mono ?_
  rintro e w1 ⟨rfl, hc⟩
  go_wp2
  go_ret2
  exact ⟨rfl, hc⟩

def o09 : Ob := { Ob.new 1 0 false false 4 with ps := [1] }
def x09 : List Nat := (made (List.replicate 20 0) 1 1 0 false false 4).set (1 + 3 + 0) 1
theorem x09_len : x09.length = 20 := by rw [x09, List.length_set, made_length]; simp
theorem x09_at : At x09 1 o09 := (made_at (xs := List.replicate 20 0) (a := 1) (p := 1) (d := 0) (wk := false) (fn := false) (ser := 4) ⟨by decide, by decide, fun h => by cases h⟩ (by decide) (by decide)).setPtr (i := 0) (v := 1) (by decide) (by decide)
theorem x09_two : x09.getD 2 0 = 0 := by
  rw [x09, getD_set, if_neg (by simp), made_getD (by decide)]; simp
theorem x09_objs : Objs x09 [1] (fun _ => o09) := ⟨by simp; exact x09_at, by simp [Ob.strong, o09, Ob.new], by simp, by simp⟩
theorem bfs09 {R rs : List Nat} (hr : addAll [] rs = [1]) (h : Bfs (strs fun _ => o09) (addAll [] rs) 0 R) : R = [1] := by
  rw [hr] at h
  refine h.unique (.step (by simp) (.done ?_))
  show (addAll [1] o09.strong).length ≤ 1
  decide

set_option maxRecDepth 100000 in
set_option maxHeartbeats 4000000 in
theorem awake09 (w : World) :
    Calls Try.prog 38 #[] w fun e w' => e = .returned (.bool true) ∧ Calm w w' := by
  have ok : Hid (okS 1 0 false false) := ⟨by decide, by decide, fun h => by cases h⟩
  have HO := hid x09_objs
  go_enter Try.func38, Try.ntmps38
  go_wp2_with fail
  refine (new_yes _ 20 (by decide) (by decide)).mono ?_
  rintro e w1 ⟨b, c, rfl, ar, c1, lb, lc⟩
  go_wp2_with fail
  refine (omake_yes _ b c _ ar 1 1 0 false false 4 ok.out (by simp) (by decide)).mono ?_
  rintro e w2 ⟨rfl, ar, f2⟩
  replace c1 := c1.join f2 (fun k hk (e : k = c) => absurd hk (by omega))
  clear f2
  have hm := made_at (xs := List.replicate 20 0) (a := 1) (p := 1) (d := 0) (wk := false) (fn := false) (ser := 4) ok.out (by decide) (by decide)
  have hS := hid (at_setptr ar hm (i := 0) (v := 1) (by decide) (by decide))
  clear hm ar
  go_wp2_with fail
  refine (hS.out).mono ?_
  rintro e w3 ⟨rfl, ar, f3⟩
  replace ar : Ar w3 b c x09 := ar
  replace c1 := c1.join f3 (fun k hk (e : k = c) => absurd hk (by omega))
  clear f3 hS
  go_wp2_with fail
  have r1 := Row.new w3 (iVs (nI [1, 0])) 3 2
  have k1 : Calm w3 (w3.alloc (.cells #[.int .i64 1, .int .i64 0] 3)) := (Fr.refl _ _).alloc _
  refine (canon_yes (ar.calm k1) HO.out (rs := [1, 0]) r1 (by decide) (by decide)).mono ?_
  rintro e w4 ⟨vn, vs, R, ls, B2, rfl, hb, hnr, hls, hB2, hst, hB3, c4⟩
  obtain rfl := bfs09 (by decide) hb
  replace hls : ls.map NI.nd = [⟨4, 1, 0, false, false, false, [0], []⟩] := hls
  replace hst : ORow w4 B2 vs [0, -1] := hst
  replace ar := (ar.calm k1).calm c4
  replace c1 := (c1.trans k1).trans c4
  have hn1 := hid hnr.see
  have hs1 := hid hst.row
  obtain ⟨na, nn, nc, rfl⟩ := hnr.letters
  obtain ⟨ta, tn, tc, rfl⟩ := hst.letters
  clear r1 k1 hb hnr hst hB2 c4
  go_wp2_with fail
  have r1 := Row.new w4 (iVs (nI [0, 1, 1])) 3 3
  have k1 : Calm w4 (w4.alloc (.cells #[.int .i64 0, .int .i64 1, .int .i64 1] 3)) := (Fr.refl _ _).alloc _
  refine (reach_yes (ar.calm k1) HO.out (rs := [0, 1, 1]) r1 (by decide) (by decide)).mono ?_
  rintro e w5 ⟨vr, R, rfl, hrr, hb, c5⟩
  obtain rfl := bfs09 (by decide) hb
  have k2 := k1.trans c5
  have hr1 := hid hrr.row
  obtain ⟨ra, rn, rc, rfl⟩ := hrr.letters
  replace ar := ar.calm k2
  replace c1 := c1.trans k2
  replace hn1 := hid (hn1.out.calm k2)
  replace hs1 := hid (hs1.out.calm k2)
  clear r1 k1 hb hrr c5 k2
  go_wp2_with fail
  have k1 : Calm w5 (w5.alloc (.cells #[.int .i64 2] 3)) := (Fr.refl _ _).alloc _
  have r2 : (w5.alloc (.cells #[.int .i64 2] 3)).cell? ⟨w5.heap.size, 0, none⟩ = some (.int .i64 (2 : Nat)) := World.cell?_alloc_new _ _ _ _
  refine (reach_bad (ar.calm k1) (q := 2) (by decide) (by rw [x09_len]; decide) (by rw [x09_two]; decide) (fun p d wk fn fr h => by have := isHead_odd h; rw [x09_two] at this; omega) _ 0 1 r2).mono ?_
  rintro e w6 ⟨rfl, c6⟩
  have k2 := k1.trans c6
  replace c1 := c1.trans k2
  replace hn1 := hid (hn1.out.calm k2)
  replace hs1 := hid (hs1.out.calm k2)
  replace hr1 := hid (hr1.out.calm k2)
  clear k1 k2 c6 r2 ar
  go_wp2_with fail
  have hfew := NFew.of_map hls (by decide) (by decide)
  have hz : NSee ((w6.alloc (.cells #[.int .i64 0] 3)).alloc (.cells #[.int .i64 4, .int .i64 1, .int .i64 0, .bool false, .bool false, .bool false, .slice (some ⟨w6.heap.size, 0, none⟩) 1 1, .slice none 0 0] 118)) (.slice (some ⟨w6.heap.size + 1, 0, none⟩) 1 1) [⟨⟨4, 1, 0, false, false, false, [0], []⟩, .slice (some ⟨w6.heap.size, 0, none⟩) 1 1, .slice none 0 0⟩] := by
    have o := OwnL.at (w6.alloc (.cells #[.int .i64 0] 3)) (ndC 4 1 0 false false false (.slice (some ⟨w6.heap.size, 0, none⟩) 1 1) (.slice none 0 0)) 118 (w6.heap.size + 1) (by simp)
    refine ⟨_, _, rfl, fun k hk => ?_⟩
    obtain rfl : k = 0 := by simpa using hk
    exact ⟨_, 0, rfl, (o 0 _ rfl).1, (o 1 _ rfl).1, (o 2 _ rfl).1, (o 3 _ rfl).1, (o 4 _ rfl).1, (o 5 _ rfl).1, (o 6 _ rfl).1, (o 7 _ rfl).1, (Row.new w6 (iVs [0]) 3 1).calm ((Fr.refl _ _).alloc _), Row.nil _⟩
  have k1 : Calm w6 ((w6.alloc (.cells #[.int .i64 0] 3)).alloc (.cells #[.int .i64 4, .int .i64 1, .int .i64 0, .bool false, .bool false, .bool false, .slice (some ⟨w6.heap.size, 0, none⟩) 1 1, .slice none 0 0] 118)) := ((Fr.refl _ _).alloc _).alloc _
  have hE : Hid (decide (ls.map NI.nd = [⟨4, 1, 0, false, false, false, [0], []⟩]) = true) := by show _ = true; rw [hls]; simp
  have hE2 : Hid (decide (ls.map NI.nd = ([] : List NI).map NI.nd) = false) := by show _ = false; rw [hls]; simp
  clear hls
  refine (same_is (hn1.out.calm k1) hz hfew (NFew.of_map rfl (by simp) (by simp))).mono ?_
  rintro e w7 ⟨rfl, c7⟩
  replace hE : Hid (decide (ls.map NI.nd = List.map NI.nd [⟨⟨4, 1, 0, false, false, false, [0], []⟩, .slice (some ⟨w6.heap.size, 0, none⟩) 1 1, .slice none 0 0⟩]) = true) := hE.out
  rw [hE.out]
  have k2 := k1.trans c7
  replace c1 := c1.trans k2
  replace hn1 := hid (hn1.out.calm k2)
  replace hs1 := hid (hs1.out.calm k2)
  replace hr1 := hid (hr1.out.calm k2)
  clear k1 k2 c7 hz hE
  go_wp2_with fail
  have k1 : Calm w7 (w7.alloc (.cells #[.int .i64 0, .int .i64 (-1)] 3)) := (Fr.refl _ _).alloc _
  refine (ints08 _ _ [0, -1] [0, -1] _ (hs1.out.calm k1) (Row.new w7 (iVs [0, -1]) 3 2) (by decide) (by decide)).mono ?_
  rintro e w8 ⟨rfl, c8⟩
  have k2 := k1.trans c8
  replace c1 := c1.trans k2
  replace hn1 := hid (hn1.out.calm k2)
  replace hr1 := hid (hr1.out.calm k2)
  clear k1 k2 c8 hs1
  rw [show decide (([0, -1] : List Int) = [0, -1]) = true from by decide]
  go_wp2_with fail
  have k1 : Calm w8 (w8.alloc (.cells #[.int .i64 1] 3)) := (Fr.refl _ _).alloc _
  refine (ints08 _ _ (nI [1]) [1] _ (hr1.out.calm k1) (Row.new w8 (iVs [1]) 3 1) (by decide) (by decide)).mono ?_
  rintro e w9 ⟨rfl, c9⟩
  have k2 := k1.trans c9
  replace c1 := c1.trans k2
  replace hn1 := hid (hn1.out.calm k2)
  clear k1 k2 c9 hr1
  rw [show decide (nI [1] = [1]) = true from by decide]
  go_wp2_with fail
  refine (same_is hn1.out (⟨none, 0, rfl, fun k hk => absurd hk (by simp)⟩ : NSee w9 (.slice none 0 0) []) hfew (NFew.of_map rfl (by decide) (by decide))).mono ?_
  rintro e w10 ⟨rfl, c10⟩
  rw [hE2.out]
  replace c1 := c1.trans c10
  go_wp2
  go_ret
  exact ⟨rfl, c1⟩

end Go.Proofs.Ytcacbbfeenebbaa
