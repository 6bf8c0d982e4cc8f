/- What the functions of package mover return: At, Move, Copy. What the functions of package mover return: Copy. What the functions of package mover return: Strong, SetStrong, words. What the functions of package mover return: words; how objects lie in a space. What the functions of package mover return: objects, Walk. What the functions of package mover return: Walk. What a Copy does to objects: plain lists. -/
import Derived.Test.YtiomemdmhcdpbaaObject
import Derived.Test.YtiomemdmhcdpbaaSpace
import Derived.Laws.CopyOwn
import Derived.OwnWalk
import Derived.Test.YtiomemdmhcdpbaaKit
import Derived.OwnWalkIn
set_option linter.unusedSimpArgs false
set_option linter.unusedVariables false
namespace Go.Proofs.Ytiomemdmhcdpbaa
open Go.RowKit Go.Shelf

/-- What lay at a place is elsewhere now. -/
structure Gone (xs : List Nat) (a t : Nat) : Prop where
  lt : a < xs.length
  pos : 1 ≤ t
  le : t ≤ 131072
  word : xs.getD a 0 = t * 4 + 2

theorem mat_gone (w : World) (b c : Nat) (xs : List Nat) (h : Ar w b c xs) (a t : Nat) (hg : Gone xs a t) :
    Calls Try.prog 69 #[arV b, .int .i64 a] w fun e w' => e = .returned (.tuple #[.int .i64 t, .bool true]) ∧ w' = w := by
  obtain ⟨h1, h2, h3, h4⟩ := hg
  have HA := hid h
  replace h4 := hid h4
  have h5 : Hid ((t * 4 + 2) / 4 = t) := by show (t * 4 + 2) / 4 = t; omega
  clear h
  go_enter Try.func69, Try.ntmps69
  go_wp2_with fail
  refine (load_yes _ b c xs HA.out a h1).mono ?_
  rintro e w' ⟨rfl, rfl⟩
  rw [h4.out]
  go_wp2_with fail
  refine (where_yes (t * 4 + 2) (by omega) (by omega) (by omega) (by omega) _).mono ?_
  rintro e w' ⟨rfl, rfl⟩
  rw [h5.out]
  go_wp2
  go_ret2
  exact ⟨rfl, rfl⟩

theorem mat_no (w : World) (b c : Nat) (xs : List Nat) (h : Ar w b c xs) (a : Nat) (h1 : a < xs.length) (hW : xs.getD a 0 < 18446744073709551616) (ho : xs.getD a 0 / 4 < 1 ∨ 131072 < xs.getD a 0 / 4 ∨ xs.getD a 0 % 4 ≠ 2) :
    Calls Try.prog 69 #[arV b, .int .i64 a] w fun e w' => e = .returned (.tuple #[.int .i64 0, .bool false]) ∧ w' = w := by
  have HA := hid h
  obtain ⟨s, hS⟩ : ∃ s, xs.getD a 0 = s := ⟨_, rfl⟩
  rw [hS] at hW ho
  have HW := hid hW
  have HO := hid ho
  replace hS := hid hS
  clear h hW ho
  go_enter Try.func69, Try.ntmps69
  go_wp2_with fail
  refine (load_yes _ b c xs HA.out a h1).mono ?_
  rintro e w' ⟨rfl, rfl⟩
  rw [hS.out]
  go_wp2_with fail
  refine (where_no s HW.out HO.out _).mono ?_
  rintro e w' ⟨rfl, rfl⟩
  go_wp2
  go_ret2
  exact ⟨rfl, rfl⟩

theorem mat_far (w : World) (b c : Nat) (xs : List Nat) (h : Ar w b c xs) (k : Int) (hk : k < 0 ∨ xs.length ≤ k) (hk64 : I64 k) :
    Calls Try.prog 69 #[arV b, .int .i64 k] w fun e w' => e = .returned (.tuple #[.int .i64 0, .bool false]) ∧ w' = w := by
  have HA := hid h
  have HK := hid hk
  have HK2 := hid hk64
  clear h hk hk64
  go_enter Try.func69, Try.ntmps69
  go_wp2_with fail
  refine (load_no _ b c xs HA.out k HK.out HK2.out).mono ?_
  rintro e w' ⟨rfl, rfl⟩
  go_wp2
  go_ret2
  exact ⟨rfl, rfl⟩

theorem hd_odd (p d : Nat) (wk fn fr : Bool) : hd p d wk fn fr % 2 = 1 := by
  unfold hd; omega

theorem At.head {xs : List Nat} {a : Nat} {o : Ob} (h : At xs a o) : xs.getD a 0 = hd o.p o.d o.wk o.fn o.fr := h.isObj.head
theorem At.lt {xs : List Nat} {a : Nat} {o : Ob} (h : At xs a o) : a < xs.length := by have := h.room; simp only [Ob.size] at this; omega

theorem mat_here (w : World) (b c : Nat) (xs : List Nat) (h : Ar w b c xs) (a : Nat) (o : Ob) (ho : At xs a o) :
    Calls Try.prog 69 #[arV b, .int .i64 a] w fun e w' => e = .returned (.tuple #[.int .i64 0, .bool false]) ∧ w' = w := by
  have h1 := ho.head
  have h2 := hd_odd o.p o.d o.wk o.fn o.fr
  have h3 := hd_lt (fr := o.fr) ho.ok.sh
  exact mat_no w b c xs h a ho.lt (by omega) (.inr (.inr (by omega)))

/-- The words when n of them were laid elsewhere. -/
def mv (xs : List Nat) (f t n : Nat) : List Nat := Go.splice xs t ((List.range n).map fun i => xs.getD (f + i) 0)
theorem mv_length {xs : List Nat} {f t n : Nat} (h : t + n ≤ xs.length) : (mv xs f t n).length = xs.length := length_splice _ _ _ (by simpa using h)
theorem mv_getD {xs : List Nat} {f t n : Nat} (h : t + n ≤ xs.length) (j : Nat) : (mv xs f t n).getD j 0 = if t ≤ j ∧ j < t + n then xs.getD (f + (j - t)) 0 else xs.getD j 0 := by
  unfold mv Go.splice
  simp only [List.getD, List.getElem?_append, List.length_take, List.length_map, List.length_range, List.getElem?_map, List.getElem?_drop, List.getElem?_take]
  have e : min t xs.length = t := by omega
  rw [e]
  by_cases h1 : j < t
  · rw [if_pos h1, if_pos h1, if_neg (by omega)]
  · rw [if_neg h1]
    by_cases h2 : j - t < n
    · rw [if_pos h2, if_pos (by omega), List.getElem?_range h2]; simp
    · rw [if_neg h2, if_neg (by omega), show t + n + (j - t - n) = j by omega]

theorem Fr.setRow {S : Nat → Prop} {a w : World} (h : Fr S a w) {g : Nat} (hg : S g ∨ a.heap.size ≤ g) (cs : Array Value) : Fr S a (w.setRow g cs) :=
  ⟨h.os, h.tape, h.output, Nat.le_trans h.size (by simp), fun k hk hs => by
    rw [setRow_other w g k cs (by rintro rfl; rcases hg with hg | hg; exact hs hg; omega)]; exact h.block k hk hs⟩

theorem addr_at {b off n : Nat} : (⟨b, off, none⟩ : Addr).add n = ⟨b, off + n, none⟩ := by
  unfold Addr.add; split <;> simp_all

theorem one_w : (Try.prog.info? 72).map (·.size) = some 1 := by kernel_rfl

set_option maxHeartbeats 1000000 in
theorem move_yes (w : World) (b c : Nat) (xs : List Nat) (h : Ar w b c xs) (f t n : Nat) (hn : 0 < n) (hf : f + n ≤ xs.length) (ht : t + n ≤ xs.length) :
    Calls Try.prog 88 #[arV b, .int .i64 f, .int .i64 t, .int .i64 n] w fun e w' => e = .returned (.int .i64 0) ∧ Ar w' b c (mv xs f t n) ∧ Fr (fun k => k = c) w w' := by
  have HA := hid h
  have h4 := h.2.2.2
  have hn0 : (0 : Int) < n := by omega
  go_enter Try.func88, Try.ntmps88
  go_wp2_with fail
  refine (stretch_yes _ b c xs HA.out f n hf).mono ?_
  rintro e w' ⟨rfl, rfl⟩
  go_wp2_with fail
  refine (stretch_yes _ b c xs HA.out t n ht).mono ?_
  rintro e w' ⟨rfl, rfl⟩
  clear h
  go_wp2_with fail
  have hA2 := HA.out
  obtain ⟨q1, q2, q3, q4⟩ := hA2
  have r1 : ∀ x : Later w', x.w.cell? ⟨b, 0, none⟩ = some (.slice (some ⟨c, 0, none⟩) xs.length xs.length) := fun x => x.cell q1.1
  clear q1 q2 q3 q4
  refine wp_region_calm_tail 18 (by kernel_rfl) (by kernel_rfl) ?_
  simp only [List.take_succ_cons, List.take_zero, List.drop_succ_cons, List.drop_zero]
  repeat (go_big_quiet_step (fail))
  refine wpQuiet_nil ?_
  intro w2 hw'
  have c2 := Later.out hw'
  clear hw' r1
  have hA3 := HA.out.calm c2
  obtain ⟨q1, ⟨T0, q2⟩, q3, q4⟩ := hA3
  have hcl : c < w2.heap.size := (Array.getElem?_eq_some_iff.1 q2).1
  have hsrc : ∀ j v, ((List.range n).map fun i => wV (xs.getD (f + i) 0))[j]? = some v → w2.cell? ((⟨c, f, none⟩ : Addr).add j) = some v := by
    intro j v hj
    have hjn : j < n := by simpa using (List.getElem?_eq_some_iff.1 hj).1
    rw [addr_at]
    rw [List.getElem?_map, List.getElem?_range hjn] at hj
    simp at hj
    subst hj
    have := ((Whole.own ⟨T0, q2⟩) (f + j) (wV (xs.getD (f + j) 0)) (by simp [List.getD, show f + j < xs.length by omega])).1
    exact this
  rw [show t + n - t = n by omega, show f + n - f = n by omega]
  refine wpList_copy_own rfl (.tmp 31) (.tmp 40) 116 116 rfl 72 Try.underlying116 one_w c t n (xs.length - t) ⟨c, f, none⟩ n (xs.length - f) rfl rfl (xs.map wV).toArray T0 q2 ((List.range n).map fun i => wV (xs.getD (f + i) 0)) (by simp) hsrc (by simp; omega) (by intro v hv; simp at hv; obtain ⟨i, _, rfl⟩ := hv; simp [Value.oneCell']) ?_
  have hrow := setRow_heap w2 c _ ((xs.map wV).toArray.toList.take t ++ (((List.range n).map fun i => wV (xs.getD (f + i) 0)) ++ (xs.map wV).toArray.toList.drop (t + ((List.range n).map fun i => wV (xs.getD (f + i) 0)).length))).toArray T0 (0, 0) q2
  have hfr := Fr.setRow (Fr.refl (fun k => k = c) w2) (.inl rfl) ((xs.map wV).toArray.toList.take t ++ (((List.range n).map fun i => wV (xs.getD (f + i) 0)) ++ (xs.map wV).toArray.toList.drop (t + ((List.range n).map fun i => wV (xs.getD (f + i) 0)).length))).toArray
  generalize w2.setRow c ((xs.map wV).toArray.toList.take t ++ (((List.range n).map fun i => wV (xs.getD (f + i) 0)) ++ (xs.map wV).toArray.toList.drop (t + ((List.range n).map fun i => wV (xs.getD (f + i) 0)).length))).toArray = w3 at *
  have e : ((xs.map wV).toArray.toList.take t ++ (((List.range n).map fun i => wV (xs.getD (f + i) 0)) ++ (xs.map wV).toArray.toList.drop (t + ((List.range n).map fun i => wV (xs.getD (f + i) 0)).length))) = (mv xs f t n).map wV := by
    simp [mv, Go.splice, List.map_take, List.map_drop]
  rw [e] at hrow
  have ar : Hid (Ar w3 b c (mv xs f t n)) := ⟨by rw [mv_length ht]; exact q1.fr hfr q3, ⟨T0, hrow⟩, q3, by rw [mv_length ht]; exact q4⟩
  have fr : Hid (Fr (fun k => k = c) w' w3) := (Calm.any c2).trans hfr
  clear hrow hfr q1 q2 hsrc c2 e
  go_wp2
  go_ret
  exact ⟨rfl, ar.out, fr.out⟩

end Go.Proofs.Ytiomemdmhcdpbaa

namespace Go.Proofs.Ytiomemdmhcdpbaa
open Go.RowKit Go.Shelf


set_option maxHeartbeats 1000000 in
theorem copy_gone (w : World) (b c : Nat) (xs : List Nat) (h : Ar w b c xs) (a t : Nat) (hg : Gone xs a t) (B S T : Int) :
    Calls Try.prog 56 #[arV b, .int .i64 a, spV B S T] w fun e w' => e = .returned (.tuple #[spV B S T, .int .i64 t, .int .i64 0]) ∧ Calm w w' := by
  have HA := hid h
  have HG := hid hg
  clear h hg
  go_enter Try.func56, Try.ntmps56
  have o5 := (OwnL.new w [.int .i64 B, .int .i64 S, .int .i64 T] 78).alloc (.cells #[.int .i64 0, .int .i64 0, .int .i64 0] 78)
  have o6 := OwnL.at (w.alloc (.cells #[.int .i64 B, .int .i64 S, .int .i64 T] 78)) [.int .i64 0, .int .i64 0, .int .i64 0] 78 (w.heap.size + 1) (by simp)
  have k1 : Calm w ((w.alloc (.cells #[.int .i64 B, .int .i64 S, .int .i64 T] 78)).alloc (.cells #[.int .i64 0, .int .i64 0, .int .i64 0] 78)) := ((Fr.refl _ _).alloc _).alloc _
  replace HA := hid (HA.out.calm k1)
  go_wp2_with fail
  refine (mat_gone _ b c xs HA.out a t HG.out).mono ?_
  rintro e w' ⟨rfl, rfl⟩
  generalize hW : World.alloc _ (.cells #[.int .i64 0, .int .i64 0, .int .i64 0] 78) = W at *
  have x0 := (o5 0 _ rfl).1
  have x1 := (o5 1 _ rfl).1
  have x2 := (o5 2 _ rfl).1
  have y0 := (o6 0 _ rfl).1
  have z0 := (o6 0 _ rfl).2
  have y1 := (o6 1 _ rfl).1
  have z1 := (o6 1 _ rfl).2
  have y2 := (o6 2 _ rfl).1
  have z2 := (o6 2 _ rfl).2
  have lt6 := o6.lt (by simp)
  go_wp2
  have o7 := o6.set3 (.int .i64 B) (.int .i64 S) (.int .i64 T)
  replace k1 : Calm w _ := k1.join o7.2 (by intros; omega)
  clear x0 x1 x2 y0 y1 y2 z0 z1 z2 o5 o6
  have u0 := (o7.1 0 _ rfl).1
  have u1 := (o7.1 1 _ rfl).1
  have u2 := (o7.1 2 _ rfl).1
  exact bodyPost_ret (v := .tuple #[spV B S T, .int .i64 t, .int .i64 0]) (by simp [results, Try.f56, go_sem, u0, u1, u2]) rfl ⟨rfl, k1⟩

set_option maxHeartbeats 2000000 in
theorem copy_room (w : World) (b c : Nat) (xs : List Nat) (h : Ar w b c xs) (a : Nat) (o : Ob) (ho : At xs a o) (B S T : Int) (hp : okP B S T) (hl : S - (T - B) < rnd o.size) :
    Calls Try.prog 56 #[arV b, .int .i64 a, spV B S T] w fun e w' => e = .returned (.tuple #[spV B S T, .int .i64 0, .int .i64 80]) ∧ Calm w w' := by
  have HA := hid h
  have HO := hid ho
  have HP := hid hp
  have HL := hid hl
  have p8 := ho.ok.sh.1
  have d8 := ho.ok.sh.2.1
  have hs : Hid (o.size = 3 + o.p + o.d) := rfl
  clear h ho hp hl
  go_enter Try.func56, Try.ntmps56
  have o5 := (OwnL.new w [.int .i64 B, .int .i64 S, .int .i64 T] 78).alloc (.cells #[.int .i64 0, .int .i64 0, .int .i64 0] 78)
  have o6 := OwnL.at (w.alloc (.cells #[.int .i64 B, .int .i64 S, .int .i64 T] 78)) [.int .i64 0, .int .i64 0, .int .i64 0] 78 (w.heap.size + 1) (by simp)
  have k1 : Calm w ((w.alloc (.cells #[.int .i64 B, .int .i64 S, .int .i64 T] 78)).alloc (.cells #[.int .i64 0, .int .i64 0, .int .i64 0] 78)) := ((Fr.refl _ _).alloc _).alloc _
  replace HA := hid (HA.out.calm k1)
  go_wp2_with fail
  refine (mat_here _ b c xs HA.out a o HO.out).mono ?_
  rintro e w' ⟨rfl, rfl⟩
  generalize hW : World.alloc _ (.cells #[.int .i64 0, .int .i64 0, .int .i64 0] 78) = W at *
  go_wp2_with fail
  refine (at_shape HA.out HO.out).mono ?_
  rintro e w1 ⟨rfl, c1⟩
  have o11 := OwnL.new w1 [.int .i64 o.p, .int .i64 o.d, .bool o.wk, .bool o.fn] 32
  replace c1 := c1.alloc (.cells #[.int .i64 o.p, .int .i64 o.d, .bool o.wk, .bool o.fn] 32)
  replace o5 := o5.calm c1
  replace o6 := o6.calm c1
  replace k1 := k1.trans c1
  have x0 := (o11 0 _ rfl).1
  have x1 := (o11 1 _ rfl).1
  have x2 := (o11 2 _ rfl).1
  have x3 := (o11 3 _ rfl).1
  clear hW c1
  go_wp2_with fail
  refine (size_yes o.p o.d o.wk o.fn HO.out.ok.sh _).mono ?_
  rintro e w2 ⟨rfl, c2⟩
  replace o5 := o5.calm c2
  replace o6 := o6.calm c2
  replace k1 := k1.trans c2
  clear x0 x1 x2 x3 o11 c2
  have hc : (3 : Int) + o.p + o.d = (o.size : Int) := by rw [hs.out]; push_cast; rfl
  rw [hc]
  have hsz : o.size ≤ 19 := by have := hs.out; omega
  have hsz1 : 3 ≤ o.size := by have := hs.out; omega
  replace hc := hid hc
  generalize o.size = n at *
  have x0 := (o5 0 _ rfl).1
  have x1 := (o5 1 _ rfl).1
  have x2 := (o5 2 _ rfl).1
  go_wp2_with fail
  refine (take_full B S T n _ HP.out (by omega) (by omega) HL.out).mono ?_
  rintro e w3 ⟨rfl, c3⟩
  replace o5 := o5.calm c3
  replace o6 := o6.calm c3
  replace k1 := k1.trans c3
  clear x0 x1 x2 c3
  have x0 := (o5 0 _ rfl).1
  have x1 := (o5 1 _ rfl).1
  have x2 := (o5 2 _ rfl).1
  have y0 := (o6 0 _ rfl).1
  have z0 := (o6 0 _ rfl).2
  have y1 := (o6 1 _ rfl).1
  have z1 := (o6 1 _ rfl).2
  have y2 := (o6 2 _ rfl).1
  have z2 := (o6 2 _ rfl).2
  have lt6 := o6.lt (by simp)
  have lt5 := o5.lt (by simp)
  go_wp2
  have o7 := o6.set3 (.int .i64 B) (.int .i64 S) (.int .i64 T)
  replace k1 : Calm w _ := (k1.join o7.2 (by intros; omega)).alloc (.cells #[.int .i64 B, .int .i64 S, .int .i64 T] 78)
  have o8 := o7.1.alloc (.cells #[.int .i64 B, .int .i64 S, .int .i64 T] 78)
  clear x0 x1 x2 y0 y1 y2 z0 z1 z2 o5 o6 o7
  have u0 := (o8 0 _ rfl).1
  have u1 := (o8 1 _ rfl).1
  have u2 := (o8 2 _ rfl).1
  exact bodyPost_ret (v := .tuple #[spV B S T, .int .i64 0, .int .i64 80]) (by simp [results, Try.f56, go_sem, u0, u1, u2]) rfl ⟨rfl, k1⟩

set_option maxHeartbeats 2000000 in
theorem copy_yes (w : World) (b c : Nat) (xs : List Nat) (h : Ar w b c xs) (a : Nat) (o : Ob) (ho : At xs a o) (B S : Int) (T : Nat) (hp : okP B S T) (hl : rnd o.size ≤ S - (T - B)) (hT : 1 ≤ T) (hr : T + o.size ≤ xs.length) :
    Calls Try.prog 56 #[arV b, .int .i64 a, spV B S T] w fun e w' => e = .returned (.tuple #[spV B S (T + rnd o.size), .int .i64 T, .int .i64 0]) ∧ Ar w' b c ((mv xs a T o.size).set a (T * 4 + 2)) ∧ Fr (fun k => k = c) w w' := by
  have HA := hid h
  have HO := hid ho
  have HP := hid hp
  have p8 := ho.ok.sh.1
  have d8 := ho.ok.sh.2.1
  have hs : Hid (o.size = 3 + o.p + o.d) := rfl
  have hal := ho.lt
  have har := ho.room
  have hlen := h.2.2.2
  have hcl : c < w.heap.size := (h.cell hal).lt
  have hbl := h.lt
  clear h ho hp
  go_enter Try.func56, Try.ntmps56
  have o5 := (OwnL.new w [.int .i64 B, .int .i64 S, .int .i64 T] 78).alloc (.cells #[.int .i64 0, .int .i64 0, .int .i64 0] 78)
  have o6 := OwnL.at (w.alloc (.cells #[.int .i64 B, .int .i64 S, .int .i64 T] 78)) [.int .i64 0, .int .i64 0, .int .i64 0] 78 (w.heap.size + 1) (by simp)
  have k1 : Calm w ((w.alloc (.cells #[.int .i64 B, .int .i64 S, .int .i64 T] 78)).alloc (.cells #[.int .i64 0, .int .i64 0, .int .i64 0] 78)) := ((Fr.refl _ _).alloc _).alloc _
  replace HA := hid (HA.out.calm k1)
  go_wp2_with fail
  refine (mat_here _ b c xs HA.out a o HO.out).mono ?_
  rintro e w' ⟨rfl, rfl⟩
  generalize hW : World.alloc _ (.cells #[.int .i64 0, .int .i64 0, .int .i64 0] 78) = W at *
  have kw := k1.size
  go_wp2_with fail
  refine (at_shape HA.out HO.out).mono ?_
  rintro e w1 ⟨rfl, c1⟩
  have o11 := OwnL.new w1 [.int .i64 o.p, .int .i64 o.d, .bool o.wk, .bool o.fn] 32
  replace c1 := c1.alloc (.cells #[.int .i64 o.p, .int .i64 o.d, .bool o.wk, .bool o.fn] 32)
  replace o5 := o5.calm c1
  replace o6 := o6.calm c1
  replace HA := hid (HA.out.calm c1)
  replace k1 := k1.trans c1
  have x0 := (o11 0 _ rfl).1
  have x1 := (o11 1 _ rfl).1
  have x2 := (o11 2 _ rfl).1
  have x3 := (o11 3 _ rfl).1
  clear hW c1
  go_wp2_with fail
  refine (size_yes o.p o.d o.wk o.fn HO.out.ok.sh _).mono ?_
  rintro e w2 ⟨rfl, c2⟩
  replace o5 := o5.calm c2
  replace o6 := o6.calm c2
  replace HA := hid (HA.out.calm c2)
  replace k1 := k1.trans c2
  clear x0 x1 x2 x3 o11 c2
  have hc : (3 : Int) + o.p + o.d = (o.size : Int) := by rw [hs.out]; push_cast; rfl
  rw [hc]
  have hsz : o.size ≤ 19 := by have := hs.out; omega
  have hsz1 : 3 ≤ o.size := by have := hs.out; omega
  replace hc := hid hc
  obtain ⟨n, hn⟩ : ∃ n, o.size = n := ⟨_, rfl⟩
  rw [hn] at hl hr har hsz hsz1 hs ⊢
  replace hn := hid hn
  obtain ⟨r, hr0⟩ : ∃ r, rnd (n : Int) = r := ⟨_, rfl⟩
  have hrb := rnd_spec (n := (n : Int)) (by omega)
  rw [hr0] at hl hrb
  obtain ⟨hr1, hr2, hr3⟩ := hrb
  have x0 := (o5 0 _ rfl).1
  have x1 := (o5 1 _ rfl).1
  have x2 := (o5 2 _ rfl).1
  have htk := take_yes B S T n w2 HP.out (by omega) (by omega) (by rw [hr0]; exact hl)
  rw [hr0] at htk
  replace htk := hid htk
  replace hr0 := hid hr0
  have hT0 : ((T : Int) == 0) = false := by simp; omega
  have hgt : ¬ ((n : Int) > xs.length - T) := by omega
  go_wp2_with fail
  refine (htk.out).mono ?_
  rintro e w3 ⟨rfl, c3⟩
  replace o5 := o5.calm c3
  replace o6 := o6.calm c3
  replace HA := hid (HA.out.calm c3)
  replace k1 := k1.trans c3
  have kw4 := k1.size
  clear x0 x1 x2 c3 htk o5
  have o16 := OwnL.new w3 [.int .i64 B, .int .i64 S, .int .i64 (T + r)] 78
  have c4 : Calm w3 (w3.alloc (.cells #[.int .i64 B, .int .i64 S, .int .i64 (T + r)] 78)) := (Fr.refl _ _).alloc _
  replace o6 := o6.calm c4
  replace HA := hid (HA.out.calm c4)
  replace k1 := k1.trans c4
  have kw3 := c4.size
  clear c4
  go_wp2_with fail
  refine (len_is _ b c xs HA.out).mono ?_
  rintro e w' ⟨rfl, rfl⟩
  go_wp2_with fail
  refine (gone_yes T (by omega) (by omega) _).mono ?_
  rintro e w' ⟨rfl, rfl⟩
  rw [Int.toNat_natCast]
  go_wp2_with fail
  refine (move_yes _ b c xs HA.out a T n (by omega) har hr).mono ?_
  rintro e w5 ⟨rfl, ar5, f5⟩
  have hl5 : (mv xs a T n).length = xs.length := mv_length hr
  replace o6 := o6.fr f5 (by omega)
  replace o16 := o16.fr f5 (by omega)
  replace ar5 := hid ar5
  have kf : Fr (fun k => k = c) w w5 := (Calm.any k1).trans f5
  obtain ⟨Y, hY⟩ : ∃ Y, mv xs a T n = Y := ⟨_, rfl⟩
  rw [hY] at hl5 ar5
  replace hY := hid hY
  have k5 := f5.size
  clear f5
  go_wp2_with fail
  refine (store_yes _ b c Y ar5.out a (by omega) (T * 4 + 2)).mono ?_
  rintro e w6 ⟨rfl, rfl⟩
  have ar6 := hid (ar5.out.set (k := a) (by omega) (T * 4 + 2))
  have f6 : Fr (fun k => k = c) w5 (w5.setCell ⟨c, a, none⟩ (wV (T * 4 + 2))) := (Fr.refl (fun k => k = c) w5).setCell (p := ⟨c, a, none⟩) (.inl rfl) _
  replace o6 := o6.fr f6 (by omega)
  replace o16 := o16.fr f6 (by omega)
  replace kf := kf.trans f6
  generalize w5.setCell ⟨c, a, none⟩ (wV (T * 4 + 2)) = w6 at *
  have lt6 := o6.lt (by simp)
  have lt16 := o16.lt (by simp)
  have x0 := (o16 0 _ rfl).1
  have x1 := (o16 1 _ rfl).1
  have x2 := (o16 2 _ rfl).1
  have y0 := (o6 0 _ rfl).1
  have z0 := (o6 0 _ rfl).2
  have y1 := (o6 1 _ rfl).1
  have z1 := (o6 1 _ rfl).2
  have y2 := (o6 2 _ rfl).1
  have z2 := (o6 2 _ rfl).2
  clear hl hr hal har
  go_wp2
  have o7 := o6.set3 (.int .i64 B) (.int .i64 S) (.int .i64 (T + r))
  have ar7 := ar6.out.fr o7.2 (by omega) (by omega)
  replace kf : Fr (fun k => k = c) w _ := kf.join o7.2 (fun k hk (e : k = w.heap.size + 1) => absurd hk (by omega))
  clear x0 x1 x2 y0 y1 y2 z0 z1 z2 o6
  have u0 := (o7.1 0 _ rfl).1
  have u1 := (o7.1 1 _ rfl).1
  have u2 := (o7.1 2 _ rfl).1
  exact bodyPost_ret (v := .tuple #[spV B S (T + r), .int .i64 T, .int .i64 0]) (by simp [results, Try.f56, go_sem, u0, u1, u2]) rfl ⟨by rw [hn.out, hr0.out], by rw [hn.out, hY.out]; exact ar7, kf⟩

end Go.Proofs.Ytiomemdmhcdpbaa

namespace Go.Proofs.Ytiomemdmhcdpbaa
open Go.RowKit Go.Shelf

theorem info_int : (Try.prog.info? 3).map (fun i => (i.zero, i.size, i.bytes)) = some (some (.int .i64 0), 1, 8) := by kernel_rfl

/-- Ints, as values. -/
abbrev iVs (l : List Int) : List Value := l.map (Value.int .i64)
/-- Places, as ints. -/
abbrev nI (l : List Nat) : List Int := l.map fun x : Nat => (x : Int)

/-- A slice of ints of the call's own. -/
def ORow (w : World) (base : Nat) (v : Value) (l : List Int) : Prop := w.ownsRow base 3 1 v l.length (iVs l)
theorem ORow.nil (w : World) (base : Nat) : ORow w base (.slice none 0 0) [] := World.ownsRow_nil _ _ _ _
theorem ORow.row {w : World} {base : Nat} {v : Value} {l : List Int} (h : ORow w base v l) : Row w v (iVs l) := Row.of_owns h
theorem ORow.fr {S : Nat → Prop} {w w' : World} {base : Nat} {v : Value} {l : List Int} (h : ORow w base v l) (f : Fr S w w') (hs : ∀ k, base ≤ k → ¬ S k) : ORow w' base v l := ownsRow_fr h f hs
theorem ORow.calm {w w' : World} {base : Nat} {v : Value} {l : List Int} (h : ORow w base v l) (f : Calm w w') : ORow w' base v l := ownsRow_fr h f (fun _ _ => id)
theorem ORow.slice {w : World} {base : Nat} {v : Value} {l : List Int} (h : ORow w base v l) : ∃ a c, v = .slice a l.length c := by
  obtain ⟨a, c, h, _⟩ := h.row
  exact ⟨a, c, by simpa using h⟩
theorem ORow.letters {w : World} {base : Nat} {v : Value} {l : List Int} (h : ORow w base v l) : ∃ a n c, v = .slice a n c := by
  obtain ⟨a, c, h⟩ := h.slice
  exact ⟨a, _, c, h⟩
theorem ORow.sliceN {w : World} {base : Nat} {v : Value} {l : List Int} (h : ORow w base v l) {n : Nat} (hn : l.length = n) : ∃ a c, v = .slice a n c := hn ▸ h.slice
theorem ORow.mono {w : World} {base base' : Nat} {v : Value} {l : List Int} (h : ORow w base v l) (hb : base' ≤ base) : ORow w base' v l := by
  refine ⟨h.1, ?_⟩
  rcases h.2 with h | ⟨g, cap, cur, h1, h2, h3⟩
  · exact .inl h
  · exact .inr ⟨g, cap, cur, h1, by omega, h3⟩

/-- An object's strong pointers. -/
def Ob.strong (o : Ob) : List Nat := if o.wk then [] else o.ps
theorem Ob.strong_length {o : Ob} (h : o.Ok) : o.strong.length = if o.wk then 0 else o.p := by
  unfold Ob.strong; split
  · rfl
  · exact h.lp
theorem Ob.strong_le {o : Ob} (h : o.Ok) : o.strong.length ≤ o.p := by
  rw [Ob.strong_length h]; split <;> omega
theorem Ob.strong_get {o : Ob} (h : o.Ok) {k : Nat} (hk : k < o.strong.length) : o.strong.getD k 0 = o.ps.getD k 0 := by
  have := Ob.strong_length h
  unfold Ob.strong at *
  split
  · rename_i hw; rw [if_pos hw] at hk; simp at hk
  · rfl

theorem strcnt_yes (w : World) (o : Ob) (h : o.Ok) :
    Calls Try.prog 95 #[shV o.p o.d o.wk o.fn] w fun e w' => e = .returned (.int .i64 o.strong.length) ∧ Calm w w' := by
  rw [Ob.strong_length h]
  cases hw : o.wk
  all_goals
    go_enter Try.func95, Try.ntmps95
    go_wp2
    go_ret
    exact ⟨rfl, Fr.alloc (Fr.refl _ _) _⟩

theorem take_succ_getD (l : List Nat) {k : Nat} (hk : k < l.length) : l.take (k + 1) = l.take k ++ [l.getD k 0] := by
  rw [List.take_succ_eq_append_getElem hk]; simp [List.getD, hk]

set_option maxRecDepth 4000 in
set_option maxHeartbeats 1000000 in
theorem strong_yes {w : World} {b c : Nat} {xs : List Nat} (h : Ar w b c xs) {a : Nat} {o : Ob} (ho : At xs a o) :
    Calls Try.prog 66 #[arV b, .int .i64 a] w fun e w' => ∃ v, e = .returned (.tuple #[v, .int .i64 0]) ∧ ORow w' w.heap.size v (nI o.strong) ∧ Calm w w' := by
  obtain ⟨i0, hi, hz0, hz1, hz2⟩ := info_parts info_int
  have HA := hid h
  have HO := hid ho
  have p8 := ho.ok.sh.1
  have hsl := Ob.strong_le ho.ok
  have hsg : Hid (∀ k, k < o.strong.length → o.strong.getD k 0 = o.ps.getD k 0) := fun k hk => Ob.strong_get ho.ok hk
  clear h ho
  go_enter Try.func66, Try.ntmps66
  go_wp2_with fail
  refine (at_shape HA.out HO.out).mono ?_
  rintro e w1 ⟨rfl, c1⟩
  have o6 := OwnL.new w1 [.int .i64 o.p, .int .i64 o.d, .bool o.wk, .bool o.fn] 32
  replace c1 := c1.alloc (.cells #[.int .i64 o.p, .int .i64 o.d, .bool o.wk, .bool o.fn] 32)
  have x0 := (o6 0 _ rfl).1
  have x1 := (o6 1 _ rfl).1
  have x2 := (o6 2 _ rfl).1
  have x3 := (o6 3 _ rfl).1
  go_wp2_with fail
  refine (strcnt_yes _ o HO.out.ok).mono ?_
  rintro e w2 ⟨rfl, c2⟩
  replace c1 := c1.trans c2
  clear c2 x0 x1 x2 x3 o6
  obtain ⟨n, hn⟩ : ∃ n, o.strong.length = n := ⟨_, rfl⟩
  rw [hn] at hsl hsg ⊢
  replace hn := hid hn
  go_wp2_with fail
  go_loopw [9, 25] (fun l i wr => ∃ k : Nat, k ≤ n ∧ i = .int .i64 k ∧ Hid (ORow wr w.heap.size l (nI (o.strong.take k))) ∧ Calm w wr) (fun _ i _ => n - (intOf i).toNat)
  case atStart => exact ⟨0, by omega, rfl, ORow.nil _ _, c1⟩
  case round =>
    obtain ⟨k, hk, rfl, hr, ck⟩ := hrel
    rcases Nat.lt_or_ge k n with hlt | hge
    · have e1 := hsg.out k hlt
      have e2 : Hid (nI (o.strong.take (k + 1)) = nI (o.strong.take k) ++ [((o.strong.getD k 0 : Nat) : Int)]) := by show nI (o.strong.take (k + 1)) = _; rw [take_succ_getD o.strong (by rw [hn.out]; exact hlt)]; simp
      have hln : Hid ((nI (o.strong.take k)).length = k) := by show (nI (o.strong.take k)).length = k; simp [hn.out]; omega
      have hq : o.ps.getD k 0 ≤ 131072 := HO.out.ok.ptr (by omega)
      obtain ⟨sa, sn, sc, rfl⟩ := hr.out.letters
      have hap := hid (fun W (cw : Calm wr W) => at_ptr (HA.out.calm (ck.trans cw)) HO.out (i := k) (by omega))
      rw [← e1] at hap hq
      replace e1 := hid e1
      generalize nI (o.strong.take k) = L at *
      generalize o.strong.getD k 0 = q at *
      go_wp2_with fail
      refine (hap.out _ (Fr.refl _ _)).mono ?_
      rintro e w3 ⟨rfl, c3⟩
      have ho3 := hid (hr.out.calm c3)
      have hs3 : Hid (w.heap.size ≤ w3.heap.size) := (ck.trans c3).size
      clear hap
      go_wp2_with (at_builtin; refine wpList_append_own _ rfl _ _ 23 rfl w.heap.size 3 i0 (.int .i64 0) 1 8 Try.underlying23 hi hz0 hz1 hz2 rfl (by decide) _ _ _ rfl (ho3.out.alloc _) ⟨w3.heap.size, 0, none⟩ 1 1 [.int .i64 q] rfl rfl (cell_one_new _ _ _) (by simp [Value.oneCell']) (by have := hln.out; unfold maxLen; omega) (by have := hln.out; omega) (by have := hs3.out; simp; omega) ?_; intro v' w4 hown' hgrow _; obtain ⟨g', cap', rfl⟩ := ownsRow_succ hown'; have hF := hid (Fr.append1 ho3.out hgrow); clear hgrow; replace hown' := hid hown')
      go_roundw
      case rel =>
        refine ⟨k + 1, by omega, by go_num, ?_, (ck.trans c3).join hF.out (fun j h1 h2 => absurd h1 (by omega))⟩
        have := hown'.out
        rw [e2.out]
        show World.ownsRow _ _ _ _ _ _ _
        rw [List.length_append, iVs, List.map_append]
        exact this
      case measure => simp [intOf]; omega
    · obtain rfl : k = n := by omega
      have e3 : Hid (o.strong.take k = o.strong) := List.take_of_length_le (by rw [hn.out]; omega)
      have hln : Hid ((nI (o.strong.take k)).length = k) := by show (nI (o.strong.take k)).length = k; simp [hn.out]
      obtain ⟨sa, sc, rfl⟩ := hr.out.sliceN hln.out
      go_wp2
      refine bodyPost_ret (v := .tuple #[.slice sa k sc, .int .i64 0]) (by simp [results, Try.f66, go_sem]) rfl ⟨_, rfl, ?_, ck⟩
      have := hr.out
      rwa [e3.out] at this

end Go.Proofs.Ytiomemdmhcdpbaa

namespace Go.Proofs.Ytiomemdmhcdpbaa
open Go.RowKit Go.Shelf

/-- The object that lay, or lies, at a place: here, or where it is gone to. -/
def Was (xs : List Nat) (a : Nat) (o : Ob) : Prop := At xs a o ∨ ∃ t, Gone xs a t ∧ At xs t o


/-- How many words an object takes. -/
def Ob.took (o : Ob) : Nat := (rnd o.size).toNat
theorem Ob.took_eq {o : Ob} (h : o.Ok) : (o.took : Int) = rnd o.size ∧ o.size ≤ o.took ∧ 4 ≤ o.took ∧ o.took ≤ 24 := by
  have h1 : o.size = 3 + o.p + o.d := rfl
  have h2 := h.sh.1
  have h3 := h.sh.2.1
  have h4 := rnd_spec (n := (o.size : Int)) (by omega)
  have h5 := rnd_mono (a := (o.size : Int)) (b := 19) (by omega) (by omega)
  have h6 : rnd 19 = 24 := by decide
  unfold Ob.took
  omega

/-- Objects one behind the other, from a place to another: their places. -/
def Lie (xs : List Nat) : Nat → Nat → List (Nat × Ob) → Prop
  | b, e, [] => b = e
  | b, e, (a, o) :: l => a = b ∧ o.Ok ∧ Was xs a o ∧ Lie xs (b + o.took) e l

theorem Lie.le {xs : List Nat} : ∀ {l : List (Nat × Ob)} {b e : Nat}, Lie xs b e l → b + 4 * l.length ≤ e
  | [], b, e, h => by simp [Lie] at h; simp; omega
  | (a, o) :: l, b, e, ⟨_, h1, _, h2⟩ => by
    have := Lie.le h2
    have := (Ob.took_eq h1).2.2.1
    simp; omega

end Go.Proofs.Ytiomemdmhcdpbaa

namespace Go.Proofs.Ytiomemdmhcdpbaa
open Go.RowKit Go.Shelf
attribute [local go_sem] Oper.semAt_some

theorem Own.keeps {keep : Nat → Prop} {w w' : World} {b i : Nat} {v : Value} (h : Own w b i v) (k : Keeps keep w w') (hb : keep b) : Own w' b i v :=
  ⟨(World.cell?_of_block (w := w) (a := ⟨b, i, none⟩) (k.2 b hb)).trans h.1, (World.frozen?_of_block (w := w) (a := ⟨b, i, none⟩) (k.2 b hb)).trans h.2⟩
theorem Ar.keeps {keep : Nat → Prop} {w w' : World} {p c : Nat} {xs : List Nat} (h : Ar w p c xs) (k : Keeps keep w w') (hp : keep p) (hc : keep c) : Ar w' p c xs := by
  obtain ⟨h1, ⟨t, h2⟩, h3⟩ := h
  exact ⟨h1.keeps k hp, ⟨t, (k.2 c hc).trans h2⟩, h3⟩

/-- The places of objects. -/
abbrev plc (l : List (Nat × Ob)) : List Nat := l.map (·.1)
/-- Where the object k begins. -/
def begs (b : Nat) (l : List (Nat × Ob)) : Nat → Nat
  | 0 => b
  | k + 1 => begs b l k + (l.getD k (0, Ob.new 0 0 false false 0)).2.took
theorem begs_cons (b : Nat) (x : Nat × Ob) (l : List (Nat × Ob)) : ∀ k, begs b (x :: l) (k + 1) = begs (b + x.2.took) l k
  | 0 => rfl
  | k + 1 => by
    show begs b (x :: l) (k + 1) + _ = begs (b + x.2.took) l k + _
    rw [begs_cons b x l k]; rfl
theorem Lie.at {xs : List Nat} : ∀ {l : List (Nat × Ob)} {b e : Nat}, Lie xs b e l → ∀ k, k < l.length →
    (l.getD k (0, Ob.new 0 0 false false 0)).1 = begs b l k ∧ (l.getD k (0, Ob.new 0 0 false false 0)).2.Ok ∧ Was xs (begs b l k) (l.getD k (0, Ob.new 0 0 false false 0)).2 ∧ begs b l (k + 1) ≤ e
  | (a, o) :: l, b, e, ⟨h0, h1, h2, h3⟩, 0, _ => ⟨h0, h1, h0 ▸ h2, by have := h3.le; show b + o.took ≤ e; omega⟩
  | (a, o) :: l, b, e, ⟨h0, h1, h2, h3⟩, k + 1, hk => by
    have := Lie.at h3 k (by simpa using hk)
    rw [begs_cons, begs_cons]
    exact this
theorem Lie.end {xs : List Nat} : ∀ {l : List (Nat × Ob)} {b e : Nat}, Lie xs b e l → begs b l l.length = e
  | [], b, e, h => h
  | (a, o) :: l, b, e, ⟨h0, h1, h2, h3⟩ => by
    show begs b ((a, o) :: l) (l.length + 1) = e
    rw [begs_cons]; exact Lie.end h3

/-- What the walk leans on. -/
def walkKeep (b c sb ab : Nat) (k : Nat) : Prop := k = b ∨ k = c ∨ k = sb ∨ k = ab

end Go.Proofs.Ytiomemdmhcdpbaa

namespace Go.Proofs.Ytiomemdmhcdpbaa
open Go.RowKit Go.Shelf
attribute [local go_sem] Oper.semAt_some

def WalkI (w : World) (l : List (Nat × Ob)) (k : Nat) (W : World) : Prop :=
  (∃ v, Own W (w.heap.size + 1) 0 v ∧ ORow W (w.heap.size + 6) v (nI (plc (l.take k)))) ∧ Calm w W ∧ k ≤ l.length
theorem WalkI.fr {S : Nat → Prop} {w A A' : World} {l : List (Nat × Ob)} {k : Nat} (h : WalkI w l k A) (f : Fr S A A') (hs : ∀ j, S j → j = w.heap.size + 4 ∨ j = w.heap.size + 5) : WalkI w l k A' := by
  obtain ⟨⟨v, h1, h2⟩, h3, h4⟩ := h
  exact ⟨⟨v, h1.fr f (fun hh => by have := hs _ hh; omega), h2.fr f (fun j hj hh => by have := hs _ hh; omega)⟩, h3.join f (fun j hj hh => by have := hs _ hh; omega), h4⟩

theorem plc_succ (l : List (Nat × Ob)) {xs : List Nat} {B T : Nat} (hl : Lie xs B T l) {k : Nat} (hk : k < l.length) : nI (plc (l.take (k + 1))) = nI (plc (l.take k)) ++ [((begs B l k : Nat) : Int)] := by
  have := (Lie.at hl k hk).1
  rw [List.take_succ_eq_append_getElem hk]
  simp [List.getD, hk] at this
  simp only [plc, nI, List.map_append, List.map_cons, List.map_nil, this]

def WalkPost (w : World) (l : List (Nat × Ob)) (e : Ending) (w' : World) : Prop := ∃ v, e = .returned v ∧ ORow w' w.heap.size v (nI (plc l)) ∧ Calm w w'

end Go.Proofs.Ytiomemdmhcdpbaa

namespace Go.Proofs.Ytiomemdmhcdpbaa

/-- The words behind a Copy. -/
def cpd (xs : List Nat) (a T n : Nat) : List Nat := (mv xs a T n).set a (T * 4 + 2)
theorem cpd_length {xs : List Nat} {a T n : Nat} (h : T + n ≤ xs.length) : (cpd xs a T n).length = xs.length := by
  rw [cpd, List.length_set, mv_length h]
theorem cpd_getD {xs : List Nat} {a T n : Nat} (h : T + n ≤ xs.length) (ha : a < xs.length) (j : Nat) :
    (cpd xs a T n).getD j 0 = if j = a then T * 4 + 2 else if T ≤ j ∧ j < T + n then xs.getD (a + (j - T)) 0 else xs.getD j 0 := by
  rw [cpd, getD_set, mv_length h, mv_getD h]
  by_cases e : j = a
  · rw [if_pos (by omega), if_pos e]
  · rw [if_neg (by omega), if_neg e]

/-- The object lies there, as it was. -/
theorem cpd_at {xs : List Nat} {a T : Nat} {o : Ob} (ho : At xs a o) (hr : T + o.size ≤ xs.length) (hd : a + o.size ≤ T ∨ T + o.size ≤ a) : At (cpd xs a T o.size) T o := by
  have hs : 3 ≤ o.size := by simp only [Ob.size]; omega
  refine ho.of_eq (by rw [cpd_length hr]; exact hr) fun i hi => ?_
  rw [cpd_getD hr ho.lt, if_neg (by omega), if_pos (by omega), show T + i - T = i by omega]
theorem cpd_gone {xs : List Nat} {a T : Nat} {o : Ob} (ho : At xs a o) (hr : T + o.size ≤ xs.length) (hT : 1 ≤ T) (hT2 : T ≤ 131072) : Gone (cpd xs a T o.size) a T :=
  ⟨by rw [cpd_length hr]; exact ho.lt, hT, hT2, by rw [cpd_getD hr ho.lt, if_pos rfl]⟩
/-- Another object. -/
theorem cpd_far {xs : List Nat} {a T n : Nat} (hr : T + n ≤ xs.length) (ha : a < xs.length) {b : Nat} {p : Ob} (hp : At xs b p) (h1 : a < b ∨ b + p.size ≤ a) (h2 : T + n ≤ b ∨ b + p.size ≤ T) : At (cpd xs a T n) b p := by
  refine hp.of_eq (by rw [cpd_length hr]; exact hp.room) fun i hi => ?_
  rw [cpd_getD hr ha, if_neg (by omega), if_neg (by omega)]
theorem cpd_gone_far {xs : List Nat} {a T n : Nat} (hr : T + n ≤ xs.length) (ha : a < xs.length) {b t : Nat} (hg : Gone xs b t) (h1 : b ≠ a) (h2 : b < T ∨ T + n ≤ b) : Gone (cpd xs a T n) b t :=
  ⟨by rw [cpd_length hr]; exact hg.lt, hg.pos, hg.le, by rw [cpd_getD hr ha, if_neg h1, if_neg (by omega)]; exact hg.word⟩

end Go.Proofs.Ytiomemdmhcdpbaa
