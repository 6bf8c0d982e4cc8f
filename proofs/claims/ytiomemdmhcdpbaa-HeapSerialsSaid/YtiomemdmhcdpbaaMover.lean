/- What the functions of package mover return: At, Move, Copy. -/
import Derived.Test.YtiomemdmhcdpbaaObAt
import Derived.Test.YtiomemdmhcdpbaaSpace
import Derived.Laws.CopyOwn
set_option linter.unusedSimpArgs false
set_option linter.unusedVariables false
namespace Go.Proofs.Ytiomemdmhcdpbaa
open Go.RowKit Go.Shelf

/-- What lay at a place is elsewhere now. -/
structure Gone (xs : List Nat) (a t : Nat) : Prop where
  lt : a < xs.length
  pos : 1 ≤ t
  le : t ≤ 131072
  word : xs.getD a 0 = t * 4 + 2

theorem mat_gone (w : World) (b c : Nat) (xs : List Nat) (h : Ar w b c xs) (a t : Nat) (hg : Gone xs a t) :
    Calls Try.prog 69 #[arV b, .int .i64 a] w fun e w' => e = .returned (.tuple #[.int .i64 t, .bool true]) ∧ w' = w := by
  obtain ⟨h1, h2, h3, h4⟩ := hg
  have HA := hid h
  replace h4 := hid h4
  have h5 : Hid ((t * 4 + 2) / 4 = t) := by show (t * 4 + 2) / 4 = t; omega
  clear h
  go_enter Try.func69, Try.ntmps69
  go_wp2_with fail
  refine (load_yes _ b c xs HA.out a h1).mono ?_
  rintro e w' ⟨rfl, rfl⟩
  rw [h4.out]
  go_wp2_with fail
  refine (where_yes (t * 4 + 2) (by omega) (by omega) (by omega) (by omega) _).mono ?_
  rintro e w' ⟨rfl, rfl⟩
  rw [h5.out]
  go_wp2
  go_ret2
  exact ⟨rfl, rfl⟩

theorem mat_no (w : World) (b c : Nat) (xs : List Nat) (h : Ar w b c xs) (a : Nat) (h1 : a < xs.length) (hW : xs.getD a 0 < 18446744073709551616) (ho : xs.getD a 0 / 4 < 1 ∨ 131072 < xs.getD a 0 / 4 ∨ xs.getD a 0 % 4 ≠ 2) :
    Calls Try.prog 69 #[arV b, .int .i64 a] w fun e w' => e = .returned (.tuple #[.int .i64 0, .bool false]) ∧ w' = w := by
  have HA := hid h
  obtain ⟨s, hS⟩ : ∃ s, xs.getD a 0 = s := ⟨_, rfl⟩
  rw [hS] at hW ho
  have HW := hid hW
  have HO := hid ho
  replace hS := hid hS
  clear h hW ho
  go_enter Try.func69, Try.ntmps69
  go_wp2_with fail
  refine (load_yes _ b c xs HA.out a h1).mono ?_
  rintro e w' ⟨rfl, rfl⟩
  rw [hS.out]
  go_wp2_with fail
  refine (where_no s HW.out HO.out _).mono ?_
  rintro e w' ⟨rfl, rfl⟩
  go_wp2
  go_ret2
  exact ⟨rfl, rfl⟩

theorem mat_far (w : World) (b c : Nat) (xs : List Nat) (h : Ar w b c xs) (k : Int) (hk : k < 0 ∨ xs.length ≤ k) (hk64 : I64 k) :
    Calls Try.prog 69 #[arV b, .int .i64 k] w fun e w' => e = .returned (.tuple #[.int .i64 0, .bool false]) ∧ w' = w := by
  have HA := hid h
  have HK := hid hk
  have HK2 := hid hk64
  clear h hk hk64
  go_enter Try.func69, Try.ntmps69
  go_wp2_with fail
  refine (load_no _ b c xs HA.out k HK.out HK2.out).mono ?_
  rintro e w' ⟨rfl, rfl⟩
  go_wp2
  go_ret2
  exact ⟨rfl, rfl⟩

theorem hd_odd (p d : Nat) (wk fn fr : Bool) : hd p d wk fn fr % 2 = 1 := by
  unfold hd; omega

theorem At.head {xs : List Nat} {a : Nat} {o : Ob} (h : At xs a o) : xs.getD a 0 = hd o.p o.d o.wk o.fn o.fr := h.isObj.head
theorem At.lt {xs : List Nat} {a : Nat} {o : Ob} (h : At xs a o) : a < xs.length := by have := h.room; simp only [Ob.size] at this; omega

theorem mat_here (w : World) (b c : Nat) (xs : List Nat) (h : Ar w b c xs) (a : Nat) (o : Ob) (ho : At xs a o) :
    Calls Try.prog 69 #[arV b, .int .i64 a] w fun e w' => e = .returned (.tuple #[.int .i64 0, .bool false]) ∧ w' = w := by
  have h1 := ho.head
  have h2 := hd_odd o.p o.d o.wk o.fn o.fr
  have h3 := hd_lt (fr := o.fr) ho.ok.sh
  exact mat_no w b c xs h a ho.lt (by omega) (.inr (.inr (by omega)))

/-- The words when n of them were laid elsewhere. -/
def mv (xs : List Nat) (f t n : Nat) : List Nat := Go.splice xs t ((List.range n).map fun i => xs.getD (f + i) 0)
theorem mv_length {xs : List Nat} {f t n : Nat} (h : t + n ≤ xs.length) : (mv xs f t n).length = xs.length := length_splice _ _ _ (by simpa using h)
theorem mv_getD {xs : List Nat} {f t n : Nat} (h : t + n ≤ xs.length) (j : Nat) : (mv xs f t n).getD j 0 = if t ≤ j ∧ j < t + n then xs.getD (f + (j - t)) 0 else xs.getD j 0 := by
  unfold mv Go.splice
  simp only [List.getD, List.getElem?_append, List.length_take, List.length_map, List.length_range, List.getElem?_map, List.getElem?_drop, List.getElem?_take]
  have e : min t xs.length = t := by omega
  rw [e]
  by_cases h1 : j < t
  · rw [if_pos h1, if_pos h1, if_neg (by omega)]
  · rw [if_neg h1]
    by_cases h2 : j - t < n
    · rw [if_pos h2, if_pos (by omega), List.getElem?_range h2]; simp
    · rw [if_neg h2, if_neg (by omega), show t + n + (j - t - n) = j by omega]

theorem Fr.setRow {S : Nat → Prop} {a w : World} (h : Fr S a w) {g : Nat} (hg : S g ∨ a.heap.size ≤ g) (cs : Array Value) : Fr S a (w.setRow g cs) :=
  ⟨h.os, h.tape, h.output, Nat.le_trans h.size (by simp), fun k hk hs => by
    rw [setRow_other w g k cs (by rintro rfl; rcases hg with hg | hg; exact hs hg; omega)]; exact h.block k hk hs⟩

theorem addr_at {b off n : Nat} : (⟨b, off, none⟩ : Addr).add n = ⟨b, off + n, none⟩ := by
  unfold Addr.add; split <;> simp_all

theorem one_w : (Try.prog.info? 72).map (·.size) = some 1 := by kernel_rfl

set_option maxHeartbeats 1000000 in
theorem move_yes (w : World) (b c : Nat) (xs : List Nat) (h : Ar w b c xs) (f t n : Nat) (hn : 0 < n) (hf : f + n ≤ xs.length) (ht : t + n ≤ xs.length) :
    Calls Try.prog 88 #[arV b, .int .i64 f, .int .i64 t, .int .i64 n] w fun e w' => e = .returned (.int .i64 0) ∧ Ar w' b c (mv xs f t n) ∧ Fr (fun k => k = c) w w' := by
  have HA := hid h
  have h4 := h.2.2.2
  have hn0 : (0 : Int) < n := by omega
  go_enter Try.func88, Try.ntmps88
  go_wp2_with fail
  refine (stretch_yes _ b c xs HA.out f n hf).mono ?_
  rintro e w' ⟨rfl, rfl⟩
  go_wp2_with fail
  refine (stretch_yes _ b c xs HA.out t n ht).mono ?_
  rintro e w' ⟨rfl, rfl⟩
  clear h
  go_wp2_with fail
  have hA2 := HA.out
  obtain ⟨q1, q2, q3, q4⟩ := hA2
  have r1 : ∀ x : Later w', x.w.cell? ⟨b, 0, none⟩ = some (.slice (some ⟨c, 0, none⟩) xs.length xs.length) := fun x => x.cell q1.1
  clear q1 q2 q3 q4
  refine wp_region_calm_tail 18 (by kernel_rfl) (by kernel_rfl) ?_
  simp only [List.take_succ_cons, List.take_zero, List.drop_succ_cons, List.drop_zero]
  repeat (go_big_quiet_step (fail))
  refine wpQuiet_nil ?_
  intro w2 hw'
  have c2 := Later.out hw'
  clear hw' r1
  have hA3 := HA.out.calm c2
  obtain ⟨q1, ⟨T0, q2⟩, q3, q4⟩ := hA3
  have hcl : c < w2.heap.size := (Array.getElem?_eq_some_iff.1 q2).1
  have hsrc : ∀ j v, ((List.range n).map fun i => wV (xs.getD (f + i) 0))[j]? = some v → w2.cell? ((⟨c, f, none⟩ : Addr).add j) = some v := by
    intro j v hj
    have hjn : j < n := by simpa using (List.getElem?_eq_some_iff.1 hj).1
    rw [addr_at]
    rw [List.getElem?_map, List.getElem?_range hjn] at hj
    simp at hj
    subst hj
    have := ((Whole.own ⟨T0, q2⟩) (f + j) (wV (xs.getD (f + j) 0)) (by simp [List.getD, show f + j < xs.length by omega])).1
    exact this
  rw [show t + n - t = n by omega, show f + n - f = n by omega]
  refine wpList_copy_own rfl (.tmp 31) (.tmp 40) 116 116 rfl 72 Try.underlying116 one_w c t n (xs.length - t) ⟨c, f, none⟩ n (xs.length - f) rfl rfl (xs.map wV).toArray T0 q2 ((List.range n).map fun i => wV (xs.getD (f + i) 0)) (by simp) hsrc (by simp; omega) (by intro v hv; simp at hv; obtain ⟨i, _, rfl⟩ := hv; simp [Value.oneCell']) ?_
  have hrow := setRow_heap w2 c _ ((xs.map wV).toArray.toList.take t ++ (((List.range n).map fun i => wV (xs.getD (f + i) 0)) ++ (xs.map wV).toArray.toList.drop (t + ((List.range n).map fun i => wV (xs.getD (f + i) 0)).length))).toArray T0 (0, 0) q2
  have hfr := Fr.setRow (Fr.refl (fun k => k = c) w2) (.inl rfl) ((xs.map wV).toArray.toList.take t ++ (((List.range n).map fun i => wV (xs.getD (f + i) 0)) ++ (xs.map wV).toArray.toList.drop (t + ((List.range n).map fun i => wV (xs.getD (f + i) 0)).length))).toArray
  generalize w2.setRow c ((xs.map wV).toArray.toList.take t ++ (((List.range n).map fun i => wV (xs.getD (f + i) 0)) ++ (xs.map wV).toArray.toList.drop (t + ((List.range n).map fun i => wV (xs.getD (f + i) 0)).length))).toArray = w3 at *
  have e : ((xs.map wV).toArray.toList.take t ++ (((List.range n).map fun i => wV (xs.getD (f + i) 0)) ++ (xs.map wV).toArray.toList.drop (t + ((List.range n).map fun i => wV (xs.getD (f + i) 0)).length))) = (mv xs f t n).map wV := by
    simp [mv, Go.splice, List.map_take, List.map_drop]
  rw [e] at hrow
  have ar : Hid (Ar w3 b c (mv xs f t n)) := ⟨by rw [mv_length ht]; exact q1.fr hfr q3, ⟨T0, hrow⟩, q3, by rw [mv_length ht]; exact q4⟩
  have fr : Hid (Fr (fun k => k = c) w' w3) := (Calm.any c2).trans hfr
  clear hrow hfr q1 q2 hsrc c2 e
  go_wp2
  go_ret
  exact ⟨rfl, ar.out, fr.out⟩

end Go.Proofs.Ytiomemdmhcdpbaa
