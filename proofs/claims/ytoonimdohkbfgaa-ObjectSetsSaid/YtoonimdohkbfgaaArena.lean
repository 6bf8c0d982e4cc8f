/- What the functions of package arena return. More of package arena: stretch, Fill, New. -/
import Derived.Test.YtoonimdohkbfgaaWord
import Derived.Test.YtoonimdohkbfgaaKit
import Derived.LoopN
import Derived.Laws.Rows
import Derived.OwnWalk
set_option linter.unusedSimpArgs false
set_option linter.unusedVariables false
namespace Go.Proofs.Ytoonimdohkbfgaa
open Go.RowKit Go.Shelf

/-- A block of one's own, known whole. -/
def Whole (w : World) (c : Nat) (vs : List Value) : Prop := ∃ t, w.heap[c]? = some (.cells vs.toArray t (0, 0))
theorem Whole.own {w : World} {c : Nat} {vs : List Value} (h : Whole w c vs) : OwnL w c vs := by
  obtain ⟨t, hg⟩ := h
  intro i v hv
  exact ⟨by simp [World.cell?, hg, hv], by simp [World.frozen?, hg]⟩
theorem Whole.fr {S : Nat → Prop} {w w' : World} {c : Nat} {vs : List Value} (h : Whole w c vs) (f : Fr S w w') (hs : ¬ S c) : Whole w' c vs := by
  obtain ⟨t, hg⟩ := h
  exact ⟨t, f.heapAt hg hs⟩
theorem Whole.set {w : World} {c : Nat} {vs : List Value} (h : Whole w c vs) (k : Nat) (u : Value) : Whole (w.setCell ⟨c, k, none⟩ u) c (vs.set k u) := by
  obtain ⟨t, hg⟩ := h
  exact ⟨t, by rw [heap_setCell_same _ _ _ _ _ _ hg]; simp⟩

/-- An arena: its struct's block p, its words' block c, its words. -/
def Ar (w : World) (p c : Nat) (xs : List Nat) : Prop :=
  Own w p 0 (.slice (some ⟨c, 0, none⟩) xs.length xs.length) ∧ Whole w c (xs.map wV) ∧ p ≠ c ∧ xs.length ≤ 65536

/-- An arena's pointer. -/
abbrev arV (p : Nat) : Value := .pointer (some ⟨p, 0, none⟩)

theorem Ar.fr {S : Nat → Prop} {w w' : World} {p c : Nat} {xs : List Nat} (h : Ar w p c xs) (f : Fr S w w') (hp : ¬ S p) (hc : ¬ S c) : Ar w' p c xs :=
  ⟨h.1.fr f hp, h.2.1.fr f hc, h.2.2⟩
theorem Ar.calm {w w' : World} {p c : Nat} {xs : List Nat} (h : Ar w p c xs) (f : Calm w w') : Ar w' p c xs := h.fr f id id
theorem Ar.cell {w : World} {p c : Nat} {xs : List Nat} (h : Ar w p c xs) {k : Nat} (hk : k < xs.length) : Own w c k (wV (xs.getD k 0)) :=
  h.2.1.own k _ (by simp [List.getD, hk])
theorem Ar.set {w : World} {p c : Nat} {xs : List Nat} (h : Ar w p c xs) {k : Nat} (hk : k < xs.length) (v : Nat) : Ar (w.setCell ⟨c, k, none⟩ (wV v)) p c (xs.set k v) := by
  obtain ⟨h1, h2, h3, h4⟩ := h
  refine ⟨?_, ?_, h3, by simpa using h4⟩
  · rw [List.length_set]; exact h1.far _ _ (fun e => h3 e.symm)
  · have := h2.set k (wV v)
    rwa [← List.map_set] at this
theorem Ar.lt {w : World} {p c : Nat} {xs : List Nat} (h : Ar w p c xs) : p < w.heap.size := h.1.lt

theorem len_is (w : World) (p c : Nat) (xs : List Nat) (h : Ar w p c xs) :
    Calls Try.prog 35 #[arV p] w fun e w' => e = .returned (.int .i64 xs.length) ∧ w' = w := by
  obtain ⟨h1, _, _, h4⟩ := h
  have b1 := h1.1
  go_enter Try.func35, Try.ntmps35
  go_wp2
  go_ret
  exact ⟨rfl, rfl⟩

theorem load_yes (w : World) (p c : Nat) (xs : List Nat) (h : Ar w p c xs) (k : Nat) (hk : k < xs.length) :
    Calls Try.prog 24 #[arV p, .int .i64 k] w fun e w' => e = .returned (.tuple #[wV (xs.getD k 0), .int .i64 0]) ∧ w' = w := by
  have b1 := h.1.1
  have b2 := (h.cell hk).1
  have h4 := h.2.2.2
  generalize xs.getD k 0 = x at *
  have HA := hid h
  clear h
  go_enter Try.func24, Try.ntmps24
  go_wp2_with fail
  refine (len_is _ p c xs HA.out).mono ?_
  rintro e w' ⟨rfl, rfl⟩
  go_wp2
  exact bodyPost_ret (v := .tuple #[wV x, .int .i64 0]) (by simp [results, Try.f24, go_sem]) rfl ⟨rfl, rfl⟩

theorem load_no (w : World) (p c : Nat) (xs : List Nat) (h : Ar w p c xs) (k : Int) (hk : k < 0 ∨ xs.length ≤ k) (hk64 : I64 k) :
    Calls Try.prog 24 #[arV p, .int .i64 k] w fun e w' => e = .returned (.tuple #[wV 0, .int .i64 20]) ∧ w' = w := by
  have HA := hid h
  have b1 := h.1.1
  have h4 := h.2.2.2
  clear h
  obtain ⟨k1, k2⟩ := hk64
  by_cases hneg : k < 0
  · go_enter Try.func24, Try.ntmps24
    go_wp2
    exact bodyPost_ret (v := .tuple #[wV 0, .int .i64 20]) (by simp [results, Try.f24, go_sem]) rfl ⟨rfl, rfl⟩
  · have hge : (xs.length : Int) ≤ k := by omega
    clear hk
    go_enter Try.func24, Try.ntmps24
    go_wp2_with fail
    refine (len_is _ p c xs HA.out).mono ?_
    rintro e w' ⟨rfl, rfl⟩
    go_wp2
    exact bodyPost_ret (v := .tuple #[wV 0, .int .i64 20]) (by simp [results, Try.f24, go_sem]) rfl ⟨rfl, rfl⟩

theorem store_yes (w : World) (p c : Nat) (xs : List Nat) (h : Ar w p c xs) (k : Nat) (hk : k < xs.length) (v : Nat) :
    Calls Try.prog 44 #[arV p, .int .i64 k, wV v] w fun e w' => e = .returned (.int .i64 0) ∧ w' = w.setCell ⟨c, k, none⟩ (wV v) := by
  have b1 := h.1.1
  have b2 := (h.cell hk).1
  have b3 := (h.cell hk).2
  have h4 := h.2.2.2
  generalize xs.getD k 0 = x at *
  have HA := hid h
  clear h
  go_enter Try.func44, Try.ntmps44
  go_wp2_with fail
  refine (len_is _ p c xs HA.out).mono ?_
  rintro e w' ⟨rfl, rfl⟩
  go_wp2
  go_ret
  exact ⟨rfl, rfl⟩

theorem store_no (w : World) (p c : Nat) (xs : List Nat) (h : Ar w p c xs) (k : Int) (hk : k < 0 ∨ xs.length ≤ k) (hk64 : I64 k) (v : Nat) :
    Calls Try.prog 44 #[arV p, .int .i64 k, wV v] w fun e w' => e = .returned (.int .i64 20) ∧ w' = w := by
  have HA := hid h
  have b1 := h.1.1
  have h4 := h.2.2.2
  clear h
  obtain ⟨k1, k2⟩ := hk64
  by_cases hneg : k < 0
  · go_enter Try.func44, Try.ntmps44
    go_wp2
    go_ret
    exact ⟨rfl, rfl⟩
  · have hge : (xs.length : Int) ≤ k := by omega
    clear hk
    go_enter Try.func44, Try.ntmps44
    go_wp2_with fail
    refine (len_is _ p c xs HA.out).mono ?_
    rintro e w' ⟨rfl, rfl⟩
    go_wp2
    go_ret
    exact ⟨rfl, rfl⟩

end Go.Proofs.Ytoonimdohkbfgaa

namespace Go.Proofs.Ytoonimdohkbfgaa
open Go.RowKit Go.Shelf

theorem stretch_yes (w : World) (p c : Nat) (xs : List Nat) (h : Ar w p c xs) (at_ n : Nat) (hn : at_ + n ≤ xs.length) :
    Calls Try.prog 58 #[arV p, .int .i64 at_, .int .i64 n] w fun e w' => e = .returned (.bool true) ∧ w' = w := by
  have HA := hid h
  have h4 := h.2.2.2
  have h5 : (at_ : Int) ≤ xs.length := by omega
  have h6 : (n : Int) ≤ xs.length - at_ := by omega
  clear h
  go_enter Try.func58, Try.ntmps58
  go_wp2_with fail
  refine (len_is _ p c xs HA.out).mono ?_
  rintro e w' ⟨rfl, rfl⟩
  go_wp2_with fail
  refine (len_is _ p c xs HA.out).mono ?_
  rintro e w' ⟨rfl, rfl⟩
  go_wp2
  go_ret
  exact ⟨rfl, rfl⟩

theorem stretch_no (w : World) (p c : Nat) (xs : List Nat) (h : Ar w p c xs) (at_ n : Nat) (hn : xs.length < at_ + n) (hb : at_ ≤ 1000000) (hb2 : n ≤ 1000000) :
    Calls Try.prog 58 #[arV p, .int .i64 at_, .int .i64 n] w fun e w' => e = .returned (.bool false) ∧ w' = w := by
  have HA := hid h
  have h4 := h.2.2.2
  clear h
  by_cases h5 : (at_ : Int) ≤ xs.length
  · have h6 : ¬ ((n : Int) ≤ xs.length - at_) := by omega
    go_enter Try.func58, Try.ntmps58
    go_wp2_with fail
    refine (len_is _ p c xs HA.out).mono ?_
    rintro e w' ⟨rfl, rfl⟩
    go_wp2_with fail
    refine (len_is _ p c xs HA.out).mono ?_
    rintro e w' ⟨rfl, rfl⟩
    go_wp2
    go_ret
    exact ⟨congrArg Ending.returned (congrArg Value.bool (decide_eq_false (by omega))), rfl⟩
  · go_enter Try.func58, Try.ntmps58
    go_wp2_with fail
    refine (len_is _ p c xs HA.out).mono ?_
    rintro e w' ⟨rfl, rfl⟩
    go_wp2
    go_ret
    exact ⟨rfl, rfl⟩

/-- The first n words from at on made v. -/
def fl (xs : List Nat) (at_ v : Nat) : Nat → List Nat
  | 0 => xs
  | k + 1 => (fl xs at_ v k).set (at_ + k) v
theorem fl_length (xs : List Nat) (at_ v : Nat) : ∀ n, (fl xs at_ v n).length = xs.length
  | 0 => rfl
  | n + 1 => by simp [fl, fl_length xs at_ v n]
theorem fl_getD (xs : List Nat) (at_ v : Nat) (j : Nat) : ∀ n, at_ + n ≤ xs.length → (fl xs at_ v n).getD j 0 = if at_ ≤ j ∧ j < at_ + n then v else xs.getD j 0
  | 0, _ => by rw [if_neg (by omega)]; rfl
  | n + 1, h => by
    have ih := fl_getD xs at_ v j n (by omega)
    have hl := fl_length xs at_ v n
    simp only [fl, List.getD, List.getElem?_set, hl] at ih ⊢
    by_cases hj : at_ + n = j
    · subst hj
      rw [if_pos rfl, if_pos (by omega), if_pos (by omega)]; rfl
    · rw [if_neg hj, ih]
      by_cases h2 : at_ ≤ j ∧ j < at_ + n
      · rw [if_pos h2, if_pos (by omega)]
      · rw [if_neg h2, if_neg (by omega)]

set_option maxHeartbeats 1000000 in
theorem fill_yes (w : World) (p c : Nat) (xs : List Nat) (h : Ar w p c xs) (at_ n v : Nat) (hn : at_ + n ≤ xs.length) :
    Calls Try.prog 46 #[arV p, .int .i64 at_, .int .i64 n, wV v] w fun e w' => e = .returned (.int .i64 0) ∧ Ar w' p c (fl xs at_ v n) ∧ Fr (fun b => b = c) w w' := by
  have HA := hid h
  have h4 := h.2.2.2
  go_enter Try.func46, Try.ntmps46
  go_wp2_with fail
  refine (stretch_yes _ p c xs HA.out at_ n hn).mono ?_
  rintro e w' ⟨rfl, rfl⟩
  clear h
  go_wp2_with fail
  go_loopw [16] (fun i wr => ∃ k : Nat, k ≤ n ∧ i = .int .i64 k ∧ Hid (Ar wr p c (fl xs at_ v k)) ∧ Fr (fun b => b = c) w' wr) (fun i _ => n - (intOf i).toNat)
  case atStart => exact ⟨0, by omega, rfl, HA, Fr.refl _ _⟩
  case round =>
    obtain ⟨k, hk, rfl, ha, hfr⟩ := hrel
    rcases Nat.lt_or_ge k n with hlt | hge
    · have hl := fl_length xs at_ v k
      have b1 := ha.out.1.1
      have b2 := (ha.out.cell (k := at_ + k) (by omega)).1
      have b3 := (ha.out.cell (k := at_ + k) (by omega)).2
      have hs : Hid (Ar (wr.setCell ⟨c, at_ + k, none⟩ (wV v)) p c (fl xs at_ v (k + 1))) := ha.out.set (k := at_ + k) (by omega) v
      rw [hl] at b1
      generalize (fl xs at_ v k).getD (at_ + k) 0 = x at *
      replace hl := hid hl
      clear HA
      go_wp2
      go_roundw
      case rel => exact ⟨k + 1, by omega, by go_num, hs, hfr.setCell (.inl rfl) _⟩
      case measure => simp [intOf]; omega
    · obtain rfl : k = n := by omega
      clear HA
      go_wp2
      go_ret
      exact ⟨rfl, ha.out, hfr⟩

theorem fill_no (w : World) (p c : Nat) (xs : List Nat) (h : Ar w p c xs) (at_ n v : Nat) (hn : xs.length < at_ + n) (hb : at_ ≤ 1000000) (hb2 : n ≤ 1000000) :
    Calls Try.prog 46 #[arV p, .int .i64 at_, .int .i64 n, wV v] w fun e w' => e = .returned (.int .i64 20) ∧ w' = w := by
  go_enter Try.func46, Try.ntmps46
  go_wp2_with fail
  refine (stretch_no _ p c xs h at_ n hn hb hb2).mono ?_
  rintro e w' ⟨rfl, rfl⟩
  go_wp2
  go_ret
  exact ⟨rfl, rfl⟩

theorem info_w : (Try.prog.info? 33).map (fun i => (i.zero, i.size, i.bytes)) = some (some (.int .u64 0), 1, 8) := by kernel_rfl

theorem own_of_row {w : World} {base : Nat} {e : TypeId} {g n cap : Nat} {xs : List Value} (h : w.ownsRow base e 1 (.slice (some ⟨g, 0, none⟩) n cap) n xs) : OwnL w g xs := by
  obtain ⟨hl, h⟩ := h
  rcases h with ⟨h, _⟩ | ⟨g', cap', cur, hv, _, hg, hn, _, hcur, hx⟩
  · cases h
  · cases hv
    intro i v hv
    have hi : i < xs.length := (List.getElem?_eq_some_iff.1 hv).1
    have h2 : cur[i]? = some v := by
      rw [← Array.getElem?_toList, ← hv, ← hx, List.getElem?_take, if_pos (by omega)]
    have hi2 : i < cur.size := (Array.getElem?_eq_some_iff.1 h2).1
    refine ⟨by simp [World.cell?, hg, h2], by simp [World.frozen?, hg]⟩

theorem whole_of_row {w : World} {base : Nat} {e : TypeId} {g n : Nat} {xs : List Value} (h : w.ownsRow base e 1 (.slice (some ⟨g, 0, none⟩) n n) n xs) : Whole w g xs := by
  obtain ⟨hl, h⟩ := h
  rcases h with ⟨h, _⟩ | ⟨g', cap', cur, hv, _, hg, hn, _, hcur, hx⟩
  · cases h
  · cases hv
    have : cur = xs.toArray := by
      rw [← hx, Nat.mul_one, List.take_of_length_le (by simp; omega)]
    exact ⟨e, by rw [hg, this]⟩

theorem noughts (n : Nat) : (madeCells (Value.int .u64 0).cells (n * 1)).toList = (List.replicate n 0).map wV := by
  rw [Nat.mul_one]
  apply List.ext_getElem
  · simp [madeCells]
  · intro i h1 h2
    simp [madeCells, Value.cells, Nat.mod_one]

set_option maxRecDepth 4000 in
set_option maxHeartbeats 1000000 in
theorem new_yes (w : World) (n : Nat) (h1 : 1 ≤ n) (h2 : n ≤ 65536) :
    Calls Try.prog 16 #[.int .i64 n] w fun e w' => ∃ p c, e = .returned (.tuple #[arV p, .int .i64 0]) ∧ Ar w' p c (List.replicate n 0) ∧ Calm w w' ∧ w.heap.size ≤ p ∧ w.heap.size ≤ c := by
  obtain ⟨i0, hi, hz0, hz1, hz2⟩ := info_parts info_w
  go_enter Try.func16, Try.ntmps16
  go_wp2_with (at_make; (refine wpList_make_full _ rfl _ _ 53 rfl w.heap.size 33 i0 (.int .u64 0) 1 Try.underlying53 hi hz0 hz1 .i64 .i64 n n n rfl rfl rfl rfl (by rw [hz2]; omega) (by unfold maxLen; omega) (Nat.le_refl _) ?_; intro w3 hown hgrow; rw [noughts] at hown; have c3 : Hid (Calm w w3) := Fr.grown (Fr.refl _ _) hgrow (fun k hk => by cases hk); have OL := hid (whole_of_row hown); have LT := hid ((own_of_row hown) 0 (wV 0) (by simp [show 0 < n by omega])).lt; clear hown hgrow))
  have lt := LT.out
  refine bodyPost_ret (v := .tuple #[arV w3.heap.size, .int .i64 0]) (by simp [results, Try.f16, go_sem]) rfl ⟨w3.heap.size, w.heap.size, rfl, ⟨?_, OL.out.fr (Fr.alloc (Fr.refl (fun _ => False) _) _) id, by omega, by simpa using h2⟩, c3.out.alloc _, by omega, Nat.le_refl _⟩
  rw [List.length_replicate]
  exact Own.new _ _ _ 0 rfl

end Go.Proofs.Ytoonimdohkbfgaa
