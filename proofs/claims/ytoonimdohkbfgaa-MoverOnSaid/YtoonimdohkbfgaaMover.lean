/- What the functions of package mover return: At, Move, Copy. What the functions of package mover return: Copy. What the functions of package mover return: Strong, SetStrong, words. What the functions of package mover return: words; how objects lie in a space. What the functions of package mover return: objects, Walk. What the functions of package mover return: Walk. What a Copy does to objects: plain lists. -/
import Derived.Test.YtoonimdohkbfgaaObject
import Derived.Test.YtoonimdohkbfgaaSpace
import Derived.Laws.CopyOwn
import Derived.OwnWalk
import Derived.Test.YtoonimdohkbfgaaKit
import Derived.OwnWalkIn
set_option linter.unusedSimpArgs false
set_option linter.unusedVariables false
namespace Go.Proofs.Ytoonimdohkbfgaa
open Go.RowKit Go.Shelf

/-- What lay at a place is elsewhere now. -/
structure Gone (xs : List Nat) (a t : Nat) : Prop where
  lt : a < xs.length
  pos : 1 ≤ t
  le : t ≤ 131072
  word : xs.getD a 0 = t * 4 + 2

theorem mat_gone (w : World) (b c : Nat) (xs : List Nat) (h : Ar w b c xs) (a t : Nat) (hg : Gone xs a t) :
    Calls Try.prog 37 #[arV b, .int .i64 a] w fun e w' => e = .returned (.tuple #[.int .i64 t, .bool true]) ∧ w' = w := by
  obtain ⟨h1, h2, h3, h4⟩ := hg
  have HA := hid h
  replace h4 := hid h4
  have h5 : Hid ((t * 4 + 2) / 4 = t) := by show (t * 4 + 2) / 4 = t; omega
  clear h
  go_enter Try.func37, Try.ntmps37
  go_wp2_with fail
  refine (load_yes _ b c xs HA.out a h1).mono ?_
  rintro e w' ⟨rfl, rfl⟩
  rw [h4.out]
  go_wp2_with fail
  refine (where_yes (t * 4 + 2) (by omega) (by omega) (by omega) (by omega) _).mono ?_
  rintro e w' ⟨rfl, rfl⟩
  rw [h5.out]
  go_wp2
  go_ret2
  exact ⟨rfl, rfl⟩

theorem mat_no (w : World) (b c : Nat) (xs : List Nat) (h : Ar w b c xs) (a : Nat) (h1 : a < xs.length) (hW : xs.getD a 0 < 18446744073709551616) (ho : xs.getD a 0 / 4 < 1 ∨ 131072 < xs.getD a 0 / 4 ∨ xs.getD a 0 % 4 ≠ 2) :
    Calls Try.prog 37 #[arV b, .int .i64 a] w fun e w' => e = .returned (.tuple #[.int .i64 0, .bool false]) ∧ w' = w := by
  have HA := hid h
  obtain ⟨s, hS⟩ : ∃ s, xs.getD a 0 = s := ⟨_, rfl⟩
  rw [hS] at hW ho
  have HW := hid hW
  have HO := hid ho
  replace hS := hid hS
  clear h hW ho
  go_enter Try.func37, Try.ntmps37
  go_wp2_with fail
  refine (load_yes _ b c xs HA.out a h1).mono ?_
  rintro e w' ⟨rfl, rfl⟩
  rw [hS.out]
  go_wp2_with fail
  refine (where_no s HW.out HO.out _).mono ?_
  rintro e w' ⟨rfl, rfl⟩
  go_wp2
  go_ret2
  exact ⟨rfl, rfl⟩

theorem mat_far (w : World) (b c : Nat) (xs : List Nat) (h : Ar w b c xs) (k : Int) (hk : k < 0 ∨ xs.length ≤ k) (hk64 : I64 k) :
    Calls Try.prog 37 #[arV b, .int .i64 k] w fun e w' => e = .returned (.tuple #[.int .i64 0, .bool false]) ∧ w' = w := by
  have HA := hid h
  have HK := hid hk
  have HK2 := hid hk64
  clear h hk hk64
  go_enter Try.func37, Try.ntmps37
  go_wp2_with fail
  refine (load_no _ b c xs HA.out k HK.out HK2.out).mono ?_
  rintro e w' ⟨rfl, rfl⟩
  go_wp2
  go_ret2
  exact ⟨rfl, rfl⟩

theorem hd_odd (p d : Nat) (wk fn fr : Bool) : hd p d wk fn fr % 2 = 1 := by
  unfold hd; omega

theorem At.head {xs : List Nat} {a : Nat} {o : Ob} (h : At xs a o) : xs.getD a 0 = hd o.p o.d o.wk o.fn o.fr := h.isObj.head
theorem At.lt {xs : List Nat} {a : Nat} {o : Ob} (h : At xs a o) : a < xs.length := by have := h.room; simp only [Ob.size] at this; omega

theorem mat_here (w : World) (b c : Nat) (xs : List Nat) (h : Ar w b c xs) (a : Nat) (o : Ob) (ho : At xs a o) :
    Calls Try.prog 37 #[arV b, .int .i64 a] w fun e w' => e = .returned (.tuple #[.int .i64 0, .bool false]) ∧ w' = w := by
  have h1 := ho.head
  have h2 := hd_odd o.p o.d o.wk o.fn o.fr
  have h3 := hd_lt (fr := o.fr) ho.ok.sh
  exact mat_no w b c xs h a ho.lt (by omega) (.inr (.inr (by omega)))

/-- The words when n of them were laid elsewhere. -/
def mv (xs : List Nat) (f t n : Nat) : List Nat := Go.splice xs t ((List.range n).map fun i => xs.getD (f + i) 0)
theorem mv_length {xs : List Nat} {f t n : Nat} (h : t + n ≤ xs.length) : (mv xs f t n).length = xs.length := length_splice _ _ _ (by simpa using h)
theorem mv_getD {xs : List Nat} {f t n : Nat} (h : t + n ≤ xs.length) (j : Nat) : (mv xs f t n).getD j 0 = if t ≤ j ∧ j < t + n then xs.getD (f + (j - t)) 0 else xs.getD j 0 := by
  unfold mv Go.splice
  simp only [List.getD, List.getElem?_append, List.length_take, List.length_map, List.length_range, List.getElem?_map, List.getElem?_drop, List.getElem?_take]
  have e : min t xs.length = t := by omega
  rw [e]
  by_cases h1 : j < t
  · rw [if_pos h1, if_pos h1, if_neg (by omega)]
  · rw [if_neg h1]
    by_cases h2 : j - t < n
    · rw [if_pos h2, if_pos (by omega), List.getElem?_range h2]; simp
    · rw [if_neg h2, if_neg (by omega), show t + n + (j - t - n) = j by omega]

theorem Fr.setRow {S : Nat → Prop} {a w : World} (h : Fr S a w) {g : Nat} (hg : S g ∨ a.heap.size ≤ g) (cs : Array Value) : Fr S a (w.setRow g cs) :=
  ⟨h.os, h.tape, h.output, Nat.le_trans h.size (by simp), fun k hk hs => by
    rw [setRow_other w g k cs (by rintro rfl; rcases hg with hg | hg; exact hs hg; omega)]; exact h.block k hk hs⟩

theorem addr_at {b off n : Nat} : (⟨b, off, none⟩ : Addr).add n = ⟨b, off + n, none⟩ := by
  unfold Addr.add; split <;> simp_all

theorem one_w : (Try.prog.info? 33).map (·.size) = some 1 := by kernel_rfl

set_option maxHeartbeats 1000000 in
theorem move_yes (w : World) (b c : Nat) (xs : List Nat) (h : Ar w b c xs) (f t n : Nat) (hn : 0 < n) (hf : f + n ≤ xs.length) (ht : t + n ≤ xs.length) :
    Calls Try.prog 43 #[arV b, .int .i64 f, .int .i64 t, .int .i64 n] w fun e w' => e = .returned (.int .i64 0) ∧ Ar w' b c (mv xs f t n) ∧ Fr (fun k => k = c) w w' := by
  have HA := hid h
  have h4 := h.2.2.2
  have hn0 : (0 : Int) < n := by omega
  go_enter Try.func43, Try.ntmps43
  go_wp2_with fail
  refine (stretch_yes _ b c xs HA.out f n hf).mono ?_
  rintro e w' ⟨rfl, rfl⟩
  go_wp2_with fail
  refine (stretch_yes _ b c xs HA.out t n ht).mono ?_
  rintro e w' ⟨rfl, rfl⟩
  clear h
  go_wp2_with fail
  have hA2 := HA.out
  obtain ⟨q1, q2, q3, q4⟩ := hA2
  have r1 : ∀ x : Later w', x.w.cell? ⟨b, 0, none⟩ = some (.slice (some ⟨c, 0, none⟩) xs.length xs.length) := fun x => x.cell q1.1
  clear q1 q2 q3 q4
  refine wp_region_calm_tail 18 (by kernel_rfl) (by kernel_rfl) ?_
  simp only [List.take_succ_cons, List.take_zero, List.drop_succ_cons, List.drop_zero]
  repeat (go_big_quiet_step (fail))
  refine wpQuiet_nil ?_
  intro w2 hw'
  have c2 := Later.out hw'
  clear hw' r1
  have hA3 := HA.out.calm c2
  obtain ⟨q1, ⟨T0, q2⟩, q3, q4⟩ := hA3
  have hcl : c < w2.heap.size := (Array.getElem?_eq_some_iff.1 q2).1
  have hsrc : ∀ j v, ((List.range n).map fun i => wV (xs.getD (f + i) 0))[j]? = some v → w2.cell? ((⟨c, f, none⟩ : Addr).add j) = some v := by
    intro j v hj
    have hjn : j < n := by simpa using (List.getElem?_eq_some_iff.1 hj).1
    rw [addr_at]
    rw [List.getElem?_map, List.getElem?_range hjn] at hj
    simp at hj
    subst hj
    have := ((Whole.own ⟨T0, q2⟩) (f + j) (wV (xs.getD (f + j) 0)) (by simp [List.getD, show f + j < xs.length by omega])).1
    exact this
  rw [show t + n - t = n by omega, show f + n - f = n by omega]
  refine wpList_copy_own rfl (.tmp 31) (.tmp 40) 53 53 rfl 33 Try.underlying53 one_w c t n (xs.length - t) ⟨c, f, none⟩ n (xs.length - f) rfl rfl (xs.map wV).toArray T0 q2 ((List.range n).map fun i => wV (xs.getD (f + i) 0)) (by simp) hsrc (by simp; omega) (by intro v hv; simp at hv; obtain ⟨i, _, rfl⟩ := hv; simp [Value.oneCell']) ?_
  have hrow := setRow_heap w2 c _ ((xs.map wV).toArray.toList.take t ++ (((List.range n).map fun i => wV (xs.getD (f + i) 0)) ++ (xs.map wV).toArray.toList.drop (t + ((List.range n).map fun i => wV (xs.getD (f + i) 0)).length))).toArray T0 (0, 0) q2
  have hfr := Fr.setRow (Fr.refl (fun k => k = c) w2) (.inl rfl) ((xs.map wV).toArray.toList.take t ++ (((List.range n).map fun i => wV (xs.getD (f + i) 0)) ++ (xs.map wV).toArray.toList.drop (t + ((List.range n).map fun i => wV (xs.getD (f + i) 0)).length))).toArray
  generalize w2.setRow c ((xs.map wV).toArray.toList.take t ++ (((List.range n).map fun i => wV (xs.getD (f + i) 0)) ++ (xs.map wV).toArray.toList.drop (t + ((List.range n).map fun i => wV (xs.getD (f + i) 0)).length))).toArray = w3 at *
  have e : ((xs.map wV).toArray.toList.take t ++ (((List.range n).map fun i => wV (xs.getD (f + i) 0)) ++ (xs.map wV).toArray.toList.drop (t + ((List.range n).map fun i => wV (xs.getD (f + i) 0)).length))) = (mv xs f t n).map wV := by
    simp [mv, Go.splice, List.map_take, List.map_drop]
  rw [e] at hrow
  have ar : Hid (Ar w3 b c (mv xs f t n)) := ⟨by rw [mv_length ht]; exact q1.fr hfr q3, ⟨T0, hrow⟩, q3, by rw [mv_length ht]; exact q4⟩
  have fr : Hid (Fr (fun k => k = c) w' w3) := (Calm.any c2).trans hfr
  clear hrow hfr q1 q2 hsrc c2 e
  go_wp2
  go_ret
  exact ⟨rfl, ar.out, fr.out⟩

end Go.Proofs.Ytoonimdohkbfgaa

namespace Go.Proofs.Ytoonimdohkbfgaa
open Go.RowKit Go.Shelf


set_option maxHeartbeats 1000000 in
theorem copy_gone (w : World) (b c : Nat) (xs : List Nat) (h : Ar w b c xs) (a t : Nat) (hg : Gone xs a t) (B S T : Int) :
    Calls Try.prog 20 #[arV b, .int .i64 a, spV B S T] w fun e w' => e = .returned (.tuple #[spV B S T, .int .i64 t, .int .i64 0]) ∧ Calm w w' := by
  have HA := hid h
  have HG := hid hg
  clear h hg
  go_enter Try.func20, Try.ntmps20
  have o5 := (OwnL.new w [.int .i64 B, .int .i64 S, .int .i64 T] 56).alloc (.cells #[.int .i64 0, .int .i64 0, .int .i64 0] 56)
  have o6 := OwnL.at (w.alloc (.cells #[.int .i64 B, .int .i64 S, .int .i64 T] 56)) [.int .i64 0, .int .i64 0, .int .i64 0] 56 (w.heap.size + 1) (by simp)
  have k1 : Calm w ((w.alloc (.cells #[.int .i64 B, .int .i64 S, .int .i64 T] 56)).alloc (.cells #[.int .i64 0, .int .i64 0, .int .i64 0] 56)) := ((Fr.refl _ _).alloc _).alloc _
  replace HA := hid (HA.out.calm k1)
  go_wp2_with fail
  refine (mat_gone _ b c xs HA.out a t HG.out).mono ?_
  rintro e w' ⟨rfl, rfl⟩
  generalize hW : World.alloc _ (.cells #[.int .i64 0, .int .i64 0, .int .i64 0] 56) = W at *
  have x0 := (o5 0 _ rfl).1
  have x1 := (o5 1 _ rfl).1
  have x2 := (o5 2 _ rfl).1
  have y0 := (o6 0 _ rfl).1
  have z0 := (o6 0 _ rfl).2
  have y1 := (o6 1 _ rfl).1
  have z1 := (o6 1 _ rfl).2
  have y2 := (o6 2 _ rfl).1
  have z2 := (o6 2 _ rfl).2
  have lt6 := o6.lt (by simp)
  go_wp2
  have o7 := o6.set3 (.int .i64 B) (.int .i64 S) (.int .i64 T)
  replace k1 : Calm w _ := k1.join o7.2 (by intros; omega)
  clear x0 x1 x2 y0 y1 y2 z0 z1 z2 o5 o6
  have u0 := (o7.1 0 _ rfl).1
  have u1 := (o7.1 1 _ rfl).1
  have u2 := (o7.1 2 _ rfl).1
  exact bodyPost_ret (v := .tuple #[spV B S T, .int .i64 t, .int .i64 0]) (by simp [results, Try.f20, go_sem, u0, u1, u2]) rfl ⟨rfl, k1⟩

set_option maxHeartbeats 2000000 in
theorem copy_room (w : World) (b c : Nat) (xs : List Nat) (h : Ar w b c xs) (a : Nat) (o : Ob) (ho : At xs a o) (B S T : Int) (hp : okP B S T) (hl : S - (T - B) < rnd o.size) :
    Calls Try.prog 20 #[arV b, .int .i64 a, spV B S T] w fun e w' => e = .returned (.tuple #[spV B S T, .int .i64 0, .int .i64 80]) ∧ Calm w w' := by
  have HA := hid h
  have HO := hid ho
  have HP := hid hp
  have HL := hid hl
  have p8 := ho.ok.sh.1
  have d8 := ho.ok.sh.2.1
  have hs : Hid (o.size = 3 + o.p + o.d) := rfl
  clear h ho hp hl
  go_enter Try.func20, Try.ntmps20
  have o5 := (OwnL.new w [.int .i64 B, .int .i64 S, .int .i64 T] 56).alloc (.cells #[.int .i64 0, .int .i64 0, .int .i64 0] 56)
  have o6 := OwnL.at (w.alloc (.cells #[.int .i64 B, .int .i64 S, .int .i64 T] 56)) [.int .i64 0, .int .i64 0, .int .i64 0] 56 (w.heap.size + 1) (by simp)
  have k1 : Calm w ((w.alloc (.cells #[.int .i64 B, .int .i64 S, .int .i64 T] 56)).alloc (.cells #[.int .i64 0, .int .i64 0, .int .i64 0] 56)) := ((Fr.refl _ _).alloc _).alloc _
  replace HA := hid (HA.out.calm k1)
  go_wp2_with fail
  refine (mat_here _ b c xs HA.out a o HO.out).mono ?_
  rintro e w' ⟨rfl, rfl⟩
  generalize hW : World.alloc _ (.cells #[.int .i64 0, .int .i64 0, .int .i64 0] 56) = W at *
  go_wp2_with fail
  refine (at_shape HA.out HO.out).mono ?_
  rintro e w1 ⟨rfl, c1⟩
  have o11 := OwnL.new w1 [.int .i64 o.p, .int .i64 o.d, .bool o.wk, .bool o.fn] 27
  replace c1 := c1.alloc (.cells #[.int .i64 o.p, .int .i64 o.d, .bool o.wk, .bool o.fn] 27)
  replace o5 := o5.calm c1
  replace o6 := o6.calm c1
  replace k1 := k1.trans c1
  have x0 := (o11 0 _ rfl).1
  have x1 := (o11 1 _ rfl).1
  have x2 := (o11 2 _ rfl).1
  have x3 := (o11 3 _ rfl).1
  clear hW c1
  go_wp2_with fail
  refine (size_yes o.p o.d o.wk o.fn HO.out.ok.sh _).mono ?_
  rintro e w2 ⟨rfl, c2⟩
  replace o5 := o5.calm c2
  replace o6 := o6.calm c2
  replace k1 := k1.trans c2
  clear x0 x1 x2 x3 o11 c2
  have hc : (3 : Int) + o.p + o.d = (o.size : Int) := by rw [hs.out]; push_cast; rfl
  rw [hc]
  have hsz : o.size ≤ 19 := by have := hs.out; omega
  have hsz1 : 3 ≤ o.size := by have := hs.out; omega
  replace hc := hid hc
  generalize o.size = n at *
  have x0 := (o5 0 _ rfl).1
  have x1 := (o5 1 _ rfl).1
  have x2 := (o5 2 _ rfl).1
  go_wp2_with fail
  refine (take_full B S T n _ HP.out (by omega) (by omega) HL.out).mono ?_
  rintro e w3 ⟨rfl, c3⟩
  replace o5 := o5.calm c3
  replace o6 := o6.calm c3
  replace k1 := k1.trans c3
  clear x0 x1 x2 c3
  have x0 := (o5 0 _ rfl).1
  have x1 := (o5 1 _ rfl).1
  have x2 := (o5 2 _ rfl).1
  have y0 := (o6 0 _ rfl).1
  have z0 := (o6 0 _ rfl).2
  have y1 := (o6 1 _ rfl).1
  have z1 := (o6 1 _ rfl).2
  have y2 := (o6 2 _ rfl).1
  have z2 := (o6 2 _ rfl).2
  have lt6 := o6.lt (by simp)
  have lt5 := o5.lt (by simp)
  go_wp2
  have o7 := o6.set3 (.int .i64 B) (.int .i64 S) (.int .i64 T)
  replace k1 : Calm w _ := (k1.join o7.2 (by intros; omega)).alloc (.cells #[.int .i64 B, .int .i64 S, .int .i64 T] 56)
  have o8 := o7.1.alloc (.cells #[.int .i64 B, .int .i64 S, .int .i64 T] 56)
  clear x0 x1 x2 y0 y1 y2 z0 z1 z2 o5 o6 o7
  have u0 := (o8 0 _ rfl).1
  have u1 := (o8 1 _ rfl).1
  have u2 := (o8 2 _ rfl).1
  exact bodyPost_ret (v := .tuple #[spV B S T, .int .i64 0, .int .i64 80]) (by simp [results, Try.f20, go_sem, u0, u1, u2]) rfl ⟨rfl, k1⟩

set_option maxHeartbeats 2000000 in
theorem copy_yes (w : World) (b c : Nat) (xs : List Nat) (h : Ar w b c xs) (a : Nat) (o : Ob) (ho : At xs a o) (B S : Int) (T : Nat) (hp : okP B S T) (hl : rnd o.size ≤ S - (T - B)) (hT : 1 ≤ T) (hr : T + o.size ≤ xs.length) :
    Calls Try.prog 20 #[arV b, .int .i64 a, spV B S T] w fun e w' => e = .returned (.tuple #[spV B S (T + rnd o.size), .int .i64 T, .int .i64 0]) ∧ Ar w' b c ((mv xs a T o.size).set a (T * 4 + 2)) ∧ Fr (fun k => k = c) w w' := by
  have HA := hid h
  have HO := hid ho
  have HP := hid hp
  have p8 := ho.ok.sh.1
  have d8 := ho.ok.sh.2.1
  have hs : Hid (o.size = 3 + o.p + o.d) := rfl
  have hal := ho.lt
  have har := ho.room
  have hlen := h.2.2.2
  have hcl : c < w.heap.size := (h.cell hal).lt
  have hbl := h.lt
  clear h ho hp
  go_enter Try.func20, Try.ntmps20
  have o5 := (OwnL.new w [.int .i64 B, .int .i64 S, .int .i64 T] 56).alloc (.cells #[.int .i64 0, .int .i64 0, .int .i64 0] 56)
  have o6 := OwnL.at (w.alloc (.cells #[.int .i64 B, .int .i64 S, .int .i64 T] 56)) [.int .i64 0, .int .i64 0, .int .i64 0] 56 (w.heap.size + 1) (by simp)
  have k1 : Calm w ((w.alloc (.cells #[.int .i64 B, .int .i64 S, .int .i64 T] 56)).alloc (.cells #[.int .i64 0, .int .i64 0, .int .i64 0] 56)) := ((Fr.refl _ _).alloc _).alloc _
  replace HA := hid (HA.out.calm k1)
  go_wp2_with fail
  refine (mat_here _ b c xs HA.out a o HO.out).mono ?_
  rintro e w' ⟨rfl, rfl⟩
  generalize hW : World.alloc _ (.cells #[.int .i64 0, .int .i64 0, .int .i64 0] 56) = W at *
  have kw := k1.size
  go_wp2_with fail
  refine (at_shape HA.out HO.out).mono ?_
  rintro e w1 ⟨rfl, c1⟩
  have o11 := OwnL.new w1 [.int .i64 o.p, .int .i64 o.d, .bool o.wk, .bool o.fn] 27
  replace c1 := c1.alloc (.cells #[.int .i64 o.p, .int .i64 o.d, .bool o.wk, .bool o.fn] 27)
  replace o5 := o5.calm c1
  replace o6 := o6.calm c1
  replace HA := hid (HA.out.calm c1)
  replace k1 := k1.trans c1
  have x0 := (o11 0 _ rfl).1
  have x1 := (o11 1 _ rfl).1
  have x2 := (o11 2 _ rfl).1
  have x3 := (o11 3 _ rfl).1
  clear hW c1
  go_wp2_with fail
  refine (size_yes o.p o.d o.wk o.fn HO.out.ok.sh _).mono ?_
  rintro e w2 ⟨rfl, c2⟩
  replace o5 := o5.calm c2
  replace o6 := o6.calm c2
  replace HA := hid (HA.out.calm c2)
  replace k1 := k1.trans c2
  clear x0 x1 x2 x3 o11 c2
  have hc : (3 : Int) + o.p + o.d = (o.size : Int) := by rw [hs.out]; push_cast; rfl
  rw [hc]
  have hsz : o.size ≤ 19 := by have := hs.out; omega
  have hsz1 : 3 ≤ o.size := by have := hs.out; omega
  replace hc := hid hc
  obtain ⟨n, hn⟩ : ∃ n, o.size = n := ⟨_, rfl⟩
  rw [hn] at hl hr har hsz hsz1 hs ⊢
  replace hn := hid hn
  obtain ⟨r, hr0⟩ : ∃ r, rnd (n : Int) = r := ⟨_, rfl⟩
  have hrb := rnd_spec (n := (n : Int)) (by omega)
  rw [hr0] at hl hrb
  obtain ⟨hr1, hr2, hr3⟩ := hrb
  have x0 := (o5 0 _ rfl).1
  have x1 := (o5 1 _ rfl).1
  have x2 := (o5 2 _ rfl).1
  have htk := take_yes B S T n w2 HP.out (by omega) (by omega) (by rw [hr0]; exact hl)
  rw [hr0] at htk
  replace htk := hid htk
  replace hr0 := hid hr0
  have hT0 : ((T : Int) == 0) = false := by simp; omega
  have hgt : ¬ ((n : Int) > xs.length - T) := by omega
  go_wp2_with fail
  refine (htk.out).mono ?_
  rintro e w3 ⟨rfl, c3⟩
  replace o5 := o5.calm c3
  replace o6 := o6.calm c3
  replace HA := hid (HA.out.calm c3)
  replace k1 := k1.trans c3
  have kw4 := k1.size
  clear x0 x1 x2 c3 htk o5
  have o16 := OwnL.new w3 [.int .i64 B, .int .i64 S, .int .i64 (T + r)] 56
  have c4 : Calm w3 (w3.alloc (.cells #[.int .i64 B, .int .i64 S, .int .i64 (T + r)] 56)) := (Fr.refl _ _).alloc _
  replace o6 := o6.calm c4
  replace HA := hid (HA.out.calm c4)
  replace k1 := k1.trans c4
  have kw3 := c4.size
  clear c4
  go_wp2_with fail
  refine (len_is _ b c xs HA.out).mono ?_
  rintro e w' ⟨rfl, rfl⟩
  go_wp2_with fail
  refine (gone_yes T (by omega) (by omega) _).mono ?_
  rintro e w' ⟨rfl, rfl⟩
  rw [Int.toNat_natCast]
  go_wp2_with fail
  refine (move_yes _ b c xs HA.out a T n (by omega) har hr).mono ?_
  rintro e w5 ⟨rfl, ar5, f5⟩
  have hl5 : (mv xs a T n).length = xs.length := mv_length hr
  replace o6 := o6.fr f5 (by omega)
  replace o16 := o16.fr f5 (by omega)
  replace ar5 := hid ar5
  have kf : Fr (fun k => k = c) w w5 := (Calm.any k1).trans f5
  obtain ⟨Y, hY⟩ : ∃ Y, mv xs a T n = Y := ⟨_, rfl⟩
  rw [hY] at hl5 ar5
  replace hY := hid hY
  have k5 := f5.size
  clear f5
  go_wp2_with fail
  refine (store_yes _ b c Y ar5.out a (by omega) (T * 4 + 2)).mono ?_
  rintro e w6 ⟨rfl, rfl⟩
  have ar6 := hid (ar5.out.set (k := a) (by omega) (T * 4 + 2))
  have f6 : Fr (fun k => k = c) w5 (w5.setCell ⟨c, a, none⟩ (wV (T * 4 + 2))) := (Fr.refl (fun k => k = c) w5).setCell (p := ⟨c, a, none⟩) (.inl rfl) _
  replace o6 := o6.fr f6 (by omega)
  replace o16 := o16.fr f6 (by omega)
  replace kf := kf.trans f6
  generalize w5.setCell ⟨c, a, none⟩ (wV (T * 4 + 2)) = w6 at *
  have lt6 := o6.lt (by simp)
  have lt16 := o16.lt (by simp)
  have x0 := (o16 0 _ rfl).1
  have x1 := (o16 1 _ rfl).1
  have x2 := (o16 2 _ rfl).1
  have y0 := (o6 0 _ rfl).1
  have z0 := (o6 0 _ rfl).2
  have y1 := (o6 1 _ rfl).1
  have z1 := (o6 1 _ rfl).2
  have y2 := (o6 2 _ rfl).1
  have z2 := (o6 2 _ rfl).2
  clear hl hr hal har
  go_wp2
  have o7 := o6.set3 (.int .i64 B) (.int .i64 S) (.int .i64 (T + r))
  have ar7 := ar6.out.fr o7.2 (by omega) (by omega)
  replace kf : Fr (fun k => k = c) w _ := kf.join o7.2 (fun k hk (e : k = w.heap.size + 1) => absurd hk (by omega))
  clear x0 x1 x2 y0 y1 y2 z0 z1 z2 o6
  have u0 := (o7.1 0 _ rfl).1
  have u1 := (o7.1 1 _ rfl).1
  have u2 := (o7.1 2 _ rfl).1
  exact bodyPost_ret (v := .tuple #[spV B S (T + r), .int .i64 T, .int .i64 0]) (by simp [results, Try.f20, go_sem, u0, u1, u2]) rfl ⟨by rw [hn.out, hr0.out], by rw [hn.out, hY.out]; exact ar7, kf⟩

end Go.Proofs.Ytoonimdohkbfgaa

namespace Go.Proofs.Ytoonimdohkbfgaa
open Go.RowKit Go.Shelf

theorem info_int : (Try.prog.info? 3).map (fun i => (i.zero, i.size, i.bytes)) = some (some (.int .i64 0), 1, 8) := by kernel_rfl

/-- Ints, as values. -/
abbrev iVs (l : List Int) : List Value := l.map (Value.int .i64)
/-- Places, as ints. -/
abbrev nI (l : List Nat) : List Int := l.map fun x : Nat => (x : Int)

/-- A slice of ints of the call's own. -/
def ORow (w : World) (base : Nat) (v : Value) (l : List Int) : Prop := w.ownsRow base 3 1 v l.length (iVs l)
theorem ORow.nil (w : World) (base : Nat) : ORow w base (.slice none 0 0) [] := World.ownsRow_nil _ _ _ _
theorem ORow.row {w : World} {base : Nat} {v : Value} {l : List Int} (h : ORow w base v l) : Row w v (iVs l) := Row.of_owns h
theorem ORow.fr {S : Nat → Prop} {w w' : World} {base : Nat} {v : Value} {l : List Int} (h : ORow w base v l) (f : Fr S w w') (hs : ∀ k, base ≤ k → ¬ S k) : ORow w' base v l := ownsRow_fr h f hs
theorem ORow.calm {w w' : World} {base : Nat} {v : Value} {l : List Int} (h : ORow w base v l) (f : Calm w w') : ORow w' base v l := ownsRow_fr h f (fun _ _ => id)
theorem ORow.slice {w : World} {base : Nat} {v : Value} {l : List Int} (h : ORow w base v l) : ∃ a c, v = .slice a l.length c := by
  obtain ⟨a, c, h, _⟩ := h.row
  exact ⟨a, c, by simpa using h⟩
theorem ORow.letters {w : World} {base : Nat} {v : Value} {l : List Int} (h : ORow w base v l) : ∃ a n c, v = .slice a n c := by
  obtain ⟨a, c, h⟩ := h.slice
  exact ⟨a, _, c, h⟩
theorem ORow.sliceN {w : World} {base : Nat} {v : Value} {l : List Int} (h : ORow w base v l) {n : Nat} (hn : l.length = n) : ∃ a c, v = .slice a n c := hn ▸ h.slice
theorem ORow.mono {w : World} {base base' : Nat} {v : Value} {l : List Int} (h : ORow w base v l) (hb : base' ≤ base) : ORow w base' v l := by
  refine ⟨h.1, ?_⟩
  rcases h.2 with h | ⟨g, cap, cur, h1, h2, h3⟩
  · exact .inl h
  · exact .inr ⟨g, cap, cur, h1, by omega, h3⟩

/-- An object's strong pointers. -/
def Ob.strong (o : Ob) : List Nat := if o.wk then [] else o.ps
theorem Ob.strong_length {o : Ob} (h : o.Ok) : o.strong.length = if o.wk then 0 else o.p := by
  unfold Ob.strong; split
  · rfl
  · exact h.lp
theorem Ob.strong_le {o : Ob} (h : o.Ok) : o.strong.length ≤ o.p := by
  rw [Ob.strong_length h]; split <;> omega
theorem Ob.strong_get {o : Ob} (h : o.Ok) {k : Nat} (hk : k < o.strong.length) : o.strong.getD k 0 = o.ps.getD k 0 := by
  have := Ob.strong_length h
  unfold Ob.strong at *
  split
  · rename_i hw; rw [if_pos hw] at hk; simp at hk
  · rfl

theorem take_succ_getD (l : List Nat) {k : Nat} (hk : k < l.length) : l.take (k + 1) = l.take k ++ [l.getD k 0] := by
  rw [List.take_succ_eq_append_getElem hk]; simp [List.getD, hk]

end Go.Proofs.Ytoonimdohkbfgaa

namespace Go.Proofs.Ytoonimdohkbfgaa
open Go.RowKit Go.Shelf

/-- The object that lay, or lies, at a place: here, or where it is gone to. -/
def Was (xs : List Nat) (a : Nat) (o : Ob) : Prop := At xs a o ∨ ∃ t, Gone xs a t ∧ At xs t o

set_option maxHeartbeats 1000000 in
theorem words_yes {w : World} {b c : Nat} {xs : List Nat} (h : Ar w b c xs) {a : Nat} {o : Ob} (ho : Was xs a o) :
    Calls Try.prog 60 #[arV b, .int .i64 a] w fun e w' => e = .returned (.tuple #[.int .i64 (rnd o.size), .bool true]) ∧ Calm w w' := by
  have HA := hid h
  have hs : Hid (o.size = 3 + o.p + o.d) := rfl
  rcases ho with ho | ⟨t, hg, ho⟩
  · have HO := hid ho
    have p8 := ho.ok.sh.1
    have d8 := ho.ok.sh.2.1
    clear h ho
    go_enter Try.func60, Try.ntmps60
    go_wp2_with fail
    refine (mat_here _ b c xs HA.out a o HO.out).mono ?_
    rintro e w' ⟨rfl, rfl⟩
    go_wp2_with fail
    refine (at_shape HA.out HO.out).mono ?_
    rintro e w1 ⟨rfl, c1⟩
    have o6 := OwnL.new w1 [.int .i64 o.p, .int .i64 o.d, .bool o.wk, .bool o.fn] 27
    replace c1 := c1.alloc (.cells #[.int .i64 o.p, .int .i64 o.d, .bool o.wk, .bool o.fn] 27)
    have x0 := (o6 0 _ rfl).1
    have x1 := (o6 1 _ rfl).1
    have x2 := (o6 2 _ rfl).1
    have x3 := (o6 3 _ rfl).1
    go_wp2_with fail
    refine (size_yes o.p o.d o.wk o.fn HO.out.ok.sh _).mono ?_
    rintro e w2 ⟨rfl, c2⟩
    replace c1 := c1.trans c2
    clear c2 x0 x1 x2 x3 o6
    have hc : (3 : Int) + o.p + o.d = (o.size : Int) := by rw [hs.out]; push_cast; rfl
    rw [hc]
    have hb1 : o.size ≤ 19 := by have := hs.out; omega
    have hb2 : 3 ≤ o.size := by have := hs.out; omega
    replace hc := hid hc
    go_wp2_with fail
    refine (round_yes _ (by omega) (by omega) _).mono ?_
    rintro e w3 ⟨rfl, c3⟩
    go_wp2
    go_ret2
    exact ⟨rfl, c1.trans c3⟩
  · have HO := hid ho
    have HG := hid hg
    have p8 := ho.ok.sh.1
    have d8 := ho.ok.sh.2.1
    clear h ho hg
    go_enter Try.func60, Try.ntmps60
    go_wp2_with fail
    refine (mat_gone _ b c xs HA.out a t HG.out).mono ?_
    rintro e w' ⟨rfl, rfl⟩
    go_wp2_with fail
    refine (at_shape HA.out HO.out).mono ?_
    rintro e w1 ⟨rfl, c1⟩
    have o6 := OwnL.new w1 [.int .i64 o.p, .int .i64 o.d, .bool o.wk, .bool o.fn] 27
    replace c1 := c1.alloc (.cells #[.int .i64 o.p, .int .i64 o.d, .bool o.wk, .bool o.fn] 27)
    have x0 := (o6 0 _ rfl).1
    have x1 := (o6 1 _ rfl).1
    have x2 := (o6 2 _ rfl).1
    have x3 := (o6 3 _ rfl).1
    go_wp2_with fail
    refine (size_yes o.p o.d o.wk o.fn HO.out.ok.sh _).mono ?_
    rintro e w2 ⟨rfl, c2⟩
    replace c1 := c1.trans c2
    clear c2 x0 x1 x2 x3 o6
    have hc : (3 : Int) + o.p + o.d = (o.size : Int) := by rw [hs.out]; push_cast; rfl
    rw [hc]
    have hb1 : o.size ≤ 19 := by have := hs.out; omega
    have hb2 : 3 ≤ o.size := by have := hs.out; omega
    replace hc := hid hc
    go_wp2_with fail
    refine (round_yes _ (by omega) (by omega) _).mono ?_
    rintro e w3 ⟨rfl, c3⟩
    go_wp2
    go_ret2
    exact ⟨rfl, c1.trans c3⟩

/-- How many words an object takes. -/
def Ob.took (o : Ob) : Nat := (rnd o.size).toNat
theorem Ob.took_eq {o : Ob} (h : o.Ok) : (o.took : Int) = rnd o.size ∧ o.size ≤ o.took ∧ 4 ≤ o.took ∧ o.took ≤ 24 := by
  have h1 : o.size = 3 + o.p + o.d := rfl
  have h2 := h.sh.1
  have h3 := h.sh.2.1
  have h4 := rnd_spec (n := (o.size : Int)) (by omega)
  have h5 := rnd_mono (a := (o.size : Int)) (b := 19) (by omega) (by omega)
  have h6 : rnd 19 = 24 := by decide
  unfold Ob.took
  omega

/-- Objects one behind the other, from a place to another: their places. -/
def Lie (xs : List Nat) : Nat → Nat → List (Nat × Ob) → Prop
  | b, e, [] => b = e
  | b, e, (a, o) :: l => a = b ∧ o.Ok ∧ Was xs a o ∧ Lie xs (b + o.took) e l

theorem Lie.le {xs : List Nat} : ∀ {l : List (Nat × Ob)} {b e : Nat}, Lie xs b e l → b + 4 * l.length ≤ e
  | [], b, e, h => by simp [Lie] at h; simp; omega
  | (a, o) :: l, b, e, ⟨_, h1, _, h2⟩ => by
    have := Lie.le h2
    have := (Ob.took_eq h1).2.2.1
    simp; omega

end Go.Proofs.Ytoonimdohkbfgaa

namespace Go.Proofs.Ytoonimdohkbfgaa
open Go.RowKit Go.Shelf
attribute [local go_sem] Oper.semAt_some

theorem Own.keeps {keep : Nat → Prop} {w w' : World} {b i : Nat} {v : Value} (h : Own w b i v) (k : Keeps keep w w') (hb : keep b) : Own w' b i v :=
  ⟨(World.cell?_of_block (w := w) (a := ⟨b, i, none⟩) (k.2 b hb)).trans h.1, (World.frozen?_of_block (w := w) (a := ⟨b, i, none⟩) (k.2 b hb)).trans h.2⟩
theorem Ar.keeps {keep : Nat → Prop} {w w' : World} {p c : Nat} {xs : List Nat} (h : Ar w p c xs) (k : Keeps keep w w') (hp : keep p) (hc : keep c) : Ar w' p c xs := by
  obtain ⟨h1, ⟨t, h2⟩, h3⟩ := h
  exact ⟨h1.keeps k hp, ⟨t, (k.2 c hc).trans h2⟩, h3⟩

/-- The places of objects. -/
abbrev plc (l : List (Nat × Ob)) : List Nat := l.map (·.1)
/-- Where the object k begins. -/
def begs (b : Nat) (l : List (Nat × Ob)) : Nat → Nat
  | 0 => b
  | k + 1 => begs b l k + (l.getD k (0, Ob.new 0 0 false false 0)).2.took
theorem begs_cons (b : Nat) (x : Nat × Ob) (l : List (Nat × Ob)) : ∀ k, begs b (x :: l) (k + 1) = begs (b + x.2.took) l k
  | 0 => rfl
  | k + 1 => by
    show begs b (x :: l) (k + 1) + _ = begs (b + x.2.took) l k + _
    rw [begs_cons b x l k]; rfl
theorem Lie.at {xs : List Nat} : ∀ {l : List (Nat × Ob)} {b e : Nat}, Lie xs b e l → ∀ k, k < l.length →
    (l.getD k (0, Ob.new 0 0 false false 0)).1 = begs b l k ∧ (l.getD k (0, Ob.new 0 0 false false 0)).2.Ok ∧ Was xs (begs b l k) (l.getD k (0, Ob.new 0 0 false false 0)).2 ∧ begs b l (k + 1) ≤ e
  | (a, o) :: l, b, e, ⟨h0, h1, h2, h3⟩, 0, _ => ⟨h0, h1, h0 ▸ h2, by have := h3.le; show b + o.took ≤ e; omega⟩
  | (a, o) :: l, b, e, ⟨h0, h1, h2, h3⟩, k + 1, hk => by
    have := Lie.at h3 k (by simpa using hk)
    rw [begs_cons, begs_cons]
    exact this
theorem Lie.end {xs : List Nat} : ∀ {l : List (Nat × Ob)} {b e : Nat}, Lie xs b e l → begs b l l.length = e
  | [], b, e, h => h
  | (a, o) :: l, b, e, ⟨h0, h1, h2, h3⟩ => by
    show begs b ((a, o) :: l) (l.length + 1) = e
    rw [begs_cons]; exact Lie.end h3

/-- What the walk leans on. -/
def walkKeep (b c sb ab : Nat) (k : Nat) : Prop := k = b ∨ k = c ∨ k = sb ∨ k = ab

theorem objects_in (F : Fence) (n : Nat) (w : World) (b : Nat) (B S T : Int) (hF : F.fn 45) (hro : F.round = none) :
    CallsIn F n Try.prog 45 #[arV b, spV B S T] w fun e w' => e = .returned (.func (.func 59) #[] #[.pointer (some ⟨w.heap.size + 1, 0, none⟩), .pointer (some ⟨w.heap.size, 0, none⟩)]) ∧ w' = (w.alloc (.cells #[arV b] 25)).alloc (.cells #[.int .i64 B, .int .i64 S, .int .i64 T] 56) := by
  refine callsIn_of_wp Try.func45 rfl hF ?_ hro
  simp only [Try.ntmps45, List.size_toArray, List.length_cons, List.length_nil, Nat.reduceAdd, Nat.reduceSub, Array.replicate_succ, Array.replicate_zero, List.push_toArray, List.append_toArray, List.nil_append, List.cons_append]
  gi_wp2
  go_ret
  exact ⟨rfl, rfl⟩

set_option maxRecDepth 4000 in
set_option maxHeartbeats 1000000 in
theorem objects1_seq (n : Nat) (hn : 1 ≤ n) (w0 : World) (b c sb ab : Nat) (xs : List Nat) (h : Ar w0 b c xs) (B S T : Nat) (hok : okP B S T) (l : List (Nat × Ob)) (hl : Lie xs B T l)
    (hs : OwnL w0 sb [.int .i64 B, .int .i64 S, .int .i64 T]) (ha : Own w0 ab 0 (arV b)) :
    SeqAt Fence.wide n Try.prog 59 #[.pointer (some ⟨sb, 0, none⟩), .pointer (some ⟨ab, 0, none⟩)] (fun k => #[.int .i64 (begs B l k : Nat)]) l.length true (walkKeep b c sb ab) w0 := fun y J Jx W hkW _ hJ hJx hN hY h0 => by
  have H := hid h
  have HL := hid hl
  have HS : Hid (∀ i v, [Value.int .i64 B, .int .i64 S, .int .i64 T][i]? = some v → Own w0 sb i v) := hs
  have HA := hid ha
  have HOK := hid hok
  have hT : (T : Int) ≤ 131072 := by obtain ⟨_, _, _, _, _, _⟩ := hok; omega
  clear h hl hs ha hok
  refine callsIn_of_wp Try.func59 rfl trivial ?_ rfl
  simp only [Try.ntmps59, List.size_toArray, List.length_cons, List.length_nil, Nat.reduceAdd, Nat.reduceSub, Array.replicate_succ, Array.replicate_zero, List.push_toArray, List.append_toArray, List.nil_append, List.cons_append, Array.append_empty]
  have s0 := ((HS.out 0 _ rfl).keeps hkW (.inr (.inr (.inl rfl)))).1
  have s1 := ((HS.out 1 _ rfl).keeps hkW (.inr (.inr (.inl rfl)))).1
  have s2 := ((HS.out 2 _ rfl).keeps hkW (.inr (.inr (.inl rfl)))).1
  gi_wp2_with fail
  refine ⟨trivial, (callsIn_wide.2 (sright_yes B S T _ HOK.out)).mono ?_⟩
  rintro e w1 ⟨rfl, c1⟩
  have t0 := c1.cellAt s0 id
  have t2 := c1.cellAt s2 id
  have hk1 := hkW.trans (Keeps.of_fr (keep := walkKeep b c sb ab) c1 (fun k hk => ⟨by
    rcases hk with rfl | rfl | rfl | rfl
    · exact (H.out.keeps hkW (.inl rfl) (.inr (.inl rfl))).lt
    · have := H.out.keeps hkW (.inl rfl) (.inr (.inl rfl)); obtain ⟨_, ⟨t, ht⟩, _⟩ := this; exact (Array.getElem?_eq_some_iff.1 ht).1
    · exact ((HS.out 0 _ rfl).keeps hkW (.inr (.inr (.inl rfl)))).lt
    · exact (HA.out.keeps hkW (.inr (.inr (.inr rfl)))).lt, id⟩))
  have hj0 := hJ 0 _ _ h0 c1
  clear s0 s1 s2
  gi_wp2_with fail
  gi_loopw [4] (fun p wr => ∃ k : Nat, k ≤ l.length ∧ p = .int .i64 (begs B l k : Nat) ∧ J k wr ∧ Keeps (walkKeep b c sb ab) w0 wr) (fun p _ => T - (intOf p).toNat)
  case atStart => exact ⟨0, Nat.zero_le _, rfl, hj0, hk1⟩
  case round =>
    obtain ⟨k, hk, rfl, hj, hkk⟩ := hrel
    have s2 := ((HS.out 2 _ rfl).keeps hkk (.inr (.inr (.inl rfl)))).1
    have a0 := (HA.out.keeps hkk (.inr (.inr (.inr rfl)))).1
    have ar := H.out.keeps hkk (.inl rfl) (.inr (.inl rfl))
    clear t0 t2 hk1 hj0
    rcases Nat.lt_or_ge k l.length with hlt | hge
    · obtain ⟨_, l2, l3, l4⟩ := HL.out.at k hlt
      have l5 : begs B l (k + 1) = begs B l k + (l.getD k (0, Ob.new 0 0 false false 0)).2.took := rfl
      obtain ⟨q1, q2, q3, q4⟩ := Ob.took_eq l2
      generalize (l.getD k (0, Ob.new 0 0 false false 0)).2 = o at *
      obtain ⟨p, hp⟩ : ∃ p, begs B l k = p := ⟨_, rfl⟩
      rw [hp] at l3 l5
      have hlT : p < T := by omega
      have hYk := hid (fun W => hY k W hlt)
      rw [hp] at hYk ⊢
      rw [l5] at l4
      have L5 := hid l5
      have Q1 := hid q1
      have L3 := hid l3
      clear l5 q1 hp hY l3
      gi_wp2_with fail
      refine ⟨trivial, (callsIn_wide.2 (words_yes ar L3.out)).mono ?_⟩
      rintro e w2 ⟨rfl, c2⟩
      rw [← Q1.out]
      have hk2 := hkk.trans (Keeps.of_fr (keep := walkKeep b c sb ab) c2 (fun k hk => ⟨by
        rcases hk with rfl | rfl | rfl | rfl
        · exact ar.lt
        · obtain ⟨_, ⟨t, ht⟩, _⟩ := ar; exact (Array.getElem?_eq_some_iff.1 ht).1
        · exact ((HS.out 0 _ rfl).keeps hkk (.inr (.inr (.inl rfl)))).lt
        · exact (HA.out.keeps hkk (.inr (.inr (.inr rfl)))).lt, id⟩))
      obtain ⟨fn, tmps, assign, body, hy, hR⟩ := hYk.out w2 (hJ k _ _ hj c2)
      clear ar a0 s2
      gi_wp2
      refine hR.mono ?_
      rintro e W1 (⟨rfl, hJ1, hk3⟩ | ⟨rfl, hx1⟩)
      · gi_wp2
        go_roundw
        case rel => exact ⟨k + 1, by omega, by rw [L5.out]; go_num, hJ1, hk2.trans hk3⟩
        case measure => simp [intOf]; omega
      · gi_wp2
        exact bodyPost_ret (v := .tuple #[]) (by simp [results, Try.f59, go_sem]) rfl ⟨⟨_, rfl⟩, .inr hx1⟩
    · obtain rfl : k = l.length := by omega
      have he : begs B l l.length = T := HL.out.end
      rw [he]
      clear hge hk
      gi_wp2
      go_end0
      exact ⟨⟨_, rfl⟩, .inl hj⟩

end Go.Proofs.Ytoonimdohkbfgaa

namespace Go.Proofs.Ytoonimdohkbfgaa
open Go.RowKit Go.Shelf
attribute [local go_sem] Oper.semAt_some

def WalkI (w : World) (l : List (Nat × Ob)) (k : Nat) (W : World) : Prop :=
  (∃ v, Own W (w.heap.size + 1) 0 v ∧ ORow W (w.heap.size + 6) v (nI (plc (l.take k)))) ∧ Calm w W ∧ k ≤ l.length
def WalkI1 (w : World) (b : Nat) (B S T : Nat) (l : List (Nat × Ob)) (k : Nat) (a : Act) (W : World) : Prop :=
  WalkI w l k W ∧ a = { tmps := #[arV b, spV B S T, undef, .pointer (some ⟨w.heap.size, 0, none⟩), .slice none 0 0, .pointer (some ⟨w.heap.size + 1, 0, none⟩), .int .i64 (begs B l k : Nat), arV b, spV B S T,
    .func (.func 59) #[] #[.pointer (some ⟨w.heap.size + 1 + 1 + 1, 0, none⟩), .pointer (some ⟨w.heap.size + 1 + 1, 0, none⟩)], .int .i64 (begs B l k : Nat), undef, undef, undef, undef, undef], defers := [] }
theorem WalkI.fr {S : Nat → Prop} {w A A' : World} {l : List (Nat × Ob)} {k : Nat} (h : WalkI w l k A) (f : Fr S A A') (hs : ∀ j, S j → j = w.heap.size + 4 ∨ j = w.heap.size + 5) : WalkI w l k A' := by
  obtain ⟨⟨v, h1, h2⟩, h3, h4⟩ := h
  exact ⟨⟨v, h1.fr f (fun hh => by have := hs _ hh; omega), h2.fr f (fun j hj hh => by have := hs _ hh; omega)⟩, h3.join f (fun j hj hh => by have := hs _ hh; omega), h4⟩

theorem plc_succ (l : List (Nat × Ob)) {xs : List Nat} {B T : Nat} (hl : Lie xs B T l) {k : Nat} (hk : k < l.length) : nI (plc (l.take (k + 1))) = nI (plc (l.take k)) ++ [((begs B l k : Nat) : Int)] := by
  have := (Lie.at hl k hk).1
  rw [List.take_succ_eq_append_getElem hk]
  simp [List.getD, hk] at this
  simp only [plc, nI, List.map_append, List.map_cons, List.map_nil, this]

def WalkPost (w : World) (l : List (Nat × Ob)) (e : Ending) (w' : World) : Prop := ∃ v, e = .returned v ∧ ORow w' w.heap.size v (nI (plc l)) ∧ Calm w w'

set_option maxRecDepth 4000 in
set_option maxHeartbeats 2000000 in
theorem walk_is {w : World} {b c : Nat} {xs : List Nat} (h : Ar w b c xs) (B S T : Nat) (hok : okP B S T) (l : List (Nat × Ob)) (hl : Lie xs B T l) :
    Calls Try.prog 22 #[arV b, spV B S T] w (WalkPost w l) := by
  obtain ⟨i0, hi, hz0, hz1, hz2⟩ := info_parts info_int
  refine (callsIn_wide (n := 9)).1 ?_
  refine callsIn_of_wp_marks Try.func22 rfl trivial ?_ rfl
  simp only [Try.ntmps22, List.size_toArray, List.length_cons, List.length_nil, Nat.reduceAdd, Nat.reduceSub, Array.replicate_succ, Array.replicate_zero, List.push_toArray, List.append_toArray, List.nil_append, List.cons_append]
  gi_wp2_with (refine ⟨trivial, ?_⟩; gi_at_call 45; refine (objects_in _ _ _ b B S T trivial rfl).mono ?_; rintro e w' ⟨rfl, rfl⟩)
  have H := hid h
  have HL := hid hl
  have HOK := hid hok
  have hlen : l.length ≤ 40000 := by have := hl.le; obtain ⟨_, _, _, _, _, _⟩ := hok; omega
  have hbl := h.lt
  have hcl : c < w.heap.size := by obtain ⟨_, ⟨t, ht⟩, _⟩ := h; exact (Array.getElem?_eq_some_iff.1 ht).1
  clear h hl hok
  obtain ⟨W0, hW0⟩ : ∃ W0, ((((w.alloc (Obj.cells #[Value.int IntKind.i64 B, Value.int IntKind.i64 S, Value.int IntKind.i64 T] 56)).alloc (Obj.cells #[Value.slice none 0 0] 50)).alloc (Obj.cells #[arV b] 25)).alloc (Obj.cells #[Value.int IntKind.i64 B, Value.int IntKind.i64 S, Value.int IntKind.i64 T] 56)) = W0 := ⟨_, rfl⟩
  have i2 : Own W0 (w.heap.size + 1) 0 (.slice none 0 0) := by rw [← hW0]; exact ((Own.at (w.alloc _) _ _ _ 0 (by simp) rfl).alloc _).alloc _
  have ia : Own W0 (w.heap.size + 1 + 1) 0 (arV b) := by rw [← hW0]; exact (Own.at ((w.alloc _).alloc _) _ _ _ 0 (by simp) rfl).alloc _
  have is : OwnL W0 (w.heap.size + 1 + 1 + 1) [.int .i64 B, .int .i64 S, .int .i64 T] := by rw [← hW0]; exact OwnL.at (((w.alloc _).alloc _).alloc _) _ _ _ (by simp)
  have i4 : W0.heap.size = w.heap.size + 4 := by rw [← hW0]; simp
  have i5 : Calm w W0 := by rw [← hW0]; exact ((((Fr.refl _ w).alloc _).alloc _).alloc _).alloc _
  rw [hW0]
  have hI4 := hid i4
  refine wpIn_rangeAt (g := .tmp 9) rfl (by decide) (gf := 59) (lb := #[.pointer (some ⟨w.heap.size + 1 + 1 + 1, 0, none⟩), .pointer (some ⟨w.heap.size + 1 + 1, 0, none⟩)]) rfl trivial (enters_of Try.func59 (by kernel_rfl) rfl)
    (objects1_seq 8 (by decide) W0 b c (w.heap.size + 1 + 1 + 1) (w.heap.size + 1 + 1) xs (H.out.calm i5) B S T HOK.out l HL.out is ia) (Keeps.refl _ _) (fun k hk => by rcases hk with rfl | rfl | rfl | rfl <;> omega) (fun _ => rfl)
    (WalkI w l) (WalkI1 w b B S T l) (fun c W => False)
    ?hI ?hI1 ?hIx ?hN ?h0 ?assign ?body ?done ?stop
  case hI =>
    rintro k A A' a hl
    exact a.fr hl (fun j hj => by rw [i4] at hj; omega)
  case hI1 =>
    rintro k a' A A' ⟨a, rfl⟩ hl
    exact ⟨a.fr hl (fun j hj => by rw [i4] at hj; omega), rfl⟩
  case hIx =>
    rintro c A A' h hl
    exact h
  case hN =>
    rintro h
    cases h
  case h0 => exact ⟨⟨_, i2, by simpa [plc] using ORow.nil _ _⟩, i5, Nat.zero_le _⟩
  case assign =>
    rintro y k W hk ha hs
    clear i2 ia is i5 hW0
    gi_wp2
    exact ⟨Keeps.refl _ _, ha, rfl⟩
  case body =>
    rintro y k a W hk ⟨⟨⟨v2, a2, a3⟩, a4, a5⟩, rfl⟩ hs
    have b2 := a2.1
    have b3 := a2.2
    have hp := hid (plc_succ l HL.out hk)
    have hln : Hid ((nI (plc (l.take k))).length = k) := by show (nI (plc (l.take k))).length = k; simp [plc]; omega
    rw [i4] at hs
    clear i2 ia is i5 hW0 i4
    generalize nI (plc (l.take k)) = L at *
    gi_wp2_with (gi_at_builtin; refine wpListIn_append_own _ rfl _ _ 50 rfl (w.heap.size + 6) 3 i0 (.int .i64 0) 1 8 Try.underlying50 hi hz0 hz1 hz2 rfl (by decide) _ _ _ rfl (a3.alloc _) ⟨W.heap.size, 0, none⟩ 1 1 [.int .i64 (begs B l k : Nat)] rfl rfl (cell_one_new _ _ _) (by simp [Value.oneCell']) (by have := hln.out; unfold maxLen; omega) (by have := hln.out; omega) (by simp; omega) ?_; intro v' w1 hown' hgrow _; obtain ⟨g', cap', rfl⟩ := ownsRow_succ hown'; have hF := Fr.append1 a3 hgrow; have c2 := (a2.fr hF (by omega)).1; have c3 := (a2.fr hF (by omega)).2; have hF2 : Hid (Fr (fun b => b = w.heap.size + 1 ∨ w.heap.size + 6 ≤ b) W w1) := hF.mono (fun _ _ h => .inr h); clear hF hgrow)
    have hV : Fr (fun b => b = w.heap.size + 1 ∨ w.heap.size + 6 ≤ b) W (w1.setCell ⟨w.heap.size + 1, 0, none⟩ (.slice (some ⟨g', 0, none⟩) (L.length + 1) cap')) := hF2.out.setCell (.inl (.inl rfl)) _
    have hb : Own (w1.setCell ⟨w.heap.size + 1, 0, none⟩ (.slice (some ⟨g', 0, none⟩) (L.length + 1) cap')) (w.heap.size + 1) 0 (.slice (some ⟨g', 0, none⟩) (L.length + 1) cap') := Own.set ⟨c2, c3⟩ _
    have hr : ORow (w1.setCell ⟨w.heap.size + 1, 0, none⟩ (.slice (some ⟨g', 0, none⟩) (L.length + 1) cap')) (w.heap.size + 6) (.slice (some ⟨g', 0, none⟩) (L.length + 1) cap') (nI (plc (l.take (k + 1)))) := by
      rw [hp.out]
      show World.ownsRow _ _ _ _ _ _ _
      rw [List.length_append, iVs, List.map_append]
      exact ownsRow_setCell_below hown' (by simp) _
    have hI5 := hI4.out
    refine ⟨Keeps.of_fr hV ?_, ⟨_, hb, hr⟩, a4.join hV (fun j h1 h2 => by omega), by omega⟩
    rintro j ((rfl | rfl | rfl | rfl) | rfl | rfl) <;> (refine ⟨by omega, ?_⟩; rintro (h | h) <;> omega)
  case done =>
    rintro W hf ⟨⟨v2, a2, a3⟩, a4, a5⟩ hD
    have b1 := a2.1
    have b2 := a2.2
    rw [i4] at hD
    clear i2 ia is i5 hW0
    gi_wp2
    refine ⟨by simp, .inl ⟨_, _, rfl, run_takeDeferred hD, ?_⟩⟩
    have hp : Fr (fun b => b = w.heap.size + 4) W (W.putObj (w.heap.size + 4) (.deferred none)) := (Fr.refl (fun b => b = w.heap.size + 4) W).putObj (.inl rfl) _
    rw [List.take_length] at a3
    exact ⟨_, results_tmp rfl _ _ _, _, rfl, (a3.fr hp (by intro b hb; omega)).mono (by omega), a4.join hp (by intro b h1 h2; omega)⟩
  case stop =>
    rintro c W h
    exact h.elim

end Go.Proofs.Ytoonimdohkbfgaa

namespace Go.Proofs.Ytoonimdohkbfgaa

/-- The words behind a Copy. -/
def cpd (xs : List Nat) (a T n : Nat) : List Nat := (mv xs a T n).set a (T * 4 + 2)
theorem cpd_length {xs : List Nat} {a T n : Nat} (h : T + n ≤ xs.length) : (cpd xs a T n).length = xs.length := by
  rw [cpd, List.length_set, mv_length h]
theorem cpd_getD {xs : List Nat} {a T n : Nat} (h : T + n ≤ xs.length) (ha : a < xs.length) (j : Nat) :
    (cpd xs a T n).getD j 0 = if j = a then T * 4 + 2 else if T ≤ j ∧ j < T + n then xs.getD (a + (j - T)) 0 else xs.getD j 0 := by
  rw [cpd, getD_set, mv_length h, mv_getD h]
  by_cases e : j = a
  · rw [if_pos (by omega), if_pos e]
  · rw [if_neg (by omega), if_neg e]

/-- The object lies there, as it was. -/
theorem cpd_at {xs : List Nat} {a T : Nat} {o : Ob} (ho : At xs a o) (hr : T + o.size ≤ xs.length) (hd : a + o.size ≤ T ∨ T + o.size ≤ a) : At (cpd xs a T o.size) T o := by
  have hs : 3 ≤ o.size := by simp only [Ob.size]; omega
  refine ho.of_eq (by rw [cpd_length hr]; exact hr) fun i hi => ?_
  rw [cpd_getD hr ho.lt, if_neg (by omega), if_pos (by omega), show T + i - T = i by omega]
theorem cpd_gone {xs : List Nat} {a T : Nat} {o : Ob} (ho : At xs a o) (hr : T + o.size ≤ xs.length) (hT : 1 ≤ T) (hT2 : T ≤ 131072) : Gone (cpd xs a T o.size) a T :=
  ⟨by rw [cpd_length hr]; exact ho.lt, hT, hT2, by rw [cpd_getD hr ho.lt, if_pos rfl]⟩
/-- Another object. -/
theorem cpd_far {xs : List Nat} {a T n : Nat} (hr : T + n ≤ xs.length) (ha : a < xs.length) {b : Nat} {p : Ob} (hp : At xs b p) (h1 : a < b ∨ b + p.size ≤ a) (h2 : T + n ≤ b ∨ b + p.size ≤ T) : At (cpd xs a T n) b p := by
  refine hp.of_eq (by rw [cpd_length hr]; exact hp.room) fun i hi => ?_
  rw [cpd_getD hr ha, if_neg (by omega), if_neg (by omega)]
theorem cpd_gone_far {xs : List Nat} {a T n : Nat} (hr : T + n ≤ xs.length) (ha : a < xs.length) {b t : Nat} (hg : Gone xs b t) (h1 : b ≠ a) (h2 : b < T ∨ T + n ≤ b) : Gone (cpd xs a T n) b t :=
  ⟨by rw [cpd_length hr]; exact hg.lt, hg.pos, hg.le, by rw [cpd_getD hr ha, if_neg h1, if_neg (by omega)]; exact hg.word⟩

end Go.Proofs.Ytoonimdohkbfgaa
