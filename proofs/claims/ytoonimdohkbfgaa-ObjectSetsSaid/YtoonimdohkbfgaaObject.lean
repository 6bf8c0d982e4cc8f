/- What the functions of package object return. More of package object: Make. Objects by their words: what sets of words do to them. Plain lists, no program. More of package object: field, Serial, Second. More of package object: field of numbers, to, change. More of package object: Ptr, Num. More of package object: SetPtr. More of package object: SetSecond. More of package object: what fails. What the functions of package object do to objects. -/
import Derived.Test.YtoonimdohkbfgaaArena
import Derived.Test.YtoonimdohkbfgaaHead
set_option linter.unusedSimpArgs false
set_option linter.unusedVariables false
namespace Go.Proofs.Ytoonimdohkbfgaa
open Go.RowKit Go.Shelf

/-- The words ahead of an object's fields, from at on: its shape, freed or not. -/
structure IsObj (xs : List Nat) (at_ p d : Nat) (wk fn fr : Bool) : Prop where
  ok : okS p d wk fn
  room : at_ + (3 + p + d) ≤ xs.length
  head : xs.getD at_ 0 = hd p d wk fn fr

theorem oshape_yes (w : World) (b c : Nat) (xs : List Nat) (h : Ar w b c xs) (at_ p d : Nat) (wk fn fr : Bool) (ho : IsObj xs at_ p d wk fn fr) :
    Calls Try.prog 11 #[arV b, .int .i64 at_] w fun e w' => e = .returned (.tuple #[shV p d wk fn, .bool fr, .int .i64 0]) ∧ Calm w w' := by
  obtain ⟨h1, h2, h3⟩ := ho
  have HA := hid h
  have h4 := h.2.2.2
  have p8 := h1.1
  have d8 := h1.2.1
  replace h1 := hid h1
  go_enter Try.func11, Try.ntmps11
  go_wp2_with fail
  refine (load_yes _ b c xs (h.calm (Fr.alloc (Fr.refl _ _) _)) at_ (by omega)).mono ?_
  rintro e w1 ⟨rfl, rfl⟩
  rw [h3]
  clear h
  have o1 := OwnL.new w [.int .i64 0, .int .i64 0, .bool false, .bool false] 27
  have k1 : Calm w (w.alloc (.cells #[.int .i64 0, .int .i64 0, .bool false, .bool false] 27)) := Fr.alloc (Fr.refl _ _) _
  go_wp2_with fail
  refine (shape_yes p d wk fn fr h1.out _).mono ?_
  rintro e w2 ⟨rfl, c2⟩
  replace o1 := o1.calm c2
  replace k1 := k1.trans c2
  have b0 := (o1 0 _ rfl).1
  have b1 := (o1 1 _ rfl).1
  have b2 := (o1 2 _ rfl).1
  have b3 := (o1 3 _ rfl).1
  have f0 := (o1 0 _ rfl).2
  have f1 := (o1 1 _ rfl).2
  have f2 := (o1 2 _ rfl).2
  have f3 := (o1 3 _ rfl).2
  clear c2
  go_wp2_with fail
  have o2 := o1.set4 (.int .i64 p) (.int .i64 d) (.bool wk) (.bool fn)
  replace k1 : Calm w _ := k1.join o2.2 (by intros; omega)
  obtain ⟨W', hW'⟩ : ∃ W', ((((w2.setCell ⟨w.heap.size, 0, none⟩ (.int .i64 p)).setCell ⟨w.heap.size, 1, none⟩ (.int .i64 d)).setCell ⟨w.heap.size, 2, none⟩ (.bool wk)).setCell ⟨w.heap.size, 3, none⟩ (.bool fn)) = W' := ⟨_, rfl⟩
  rw [hW'] at o2 k1 ⊢
  clear b0 b1 b2 b3 f0 f1 f2 f3 o1 hW'
  obtain ⟨o1, -⟩ := o2
  refine (size_yes p d wk fn h1.out _).mono ?_
  rintro e w3 ⟨rfl, c3⟩
  replace o1 := o1.calm c3
  replace k1 := k1.trans c3
  clear c3
  have b0 := (o1 0 _ rfl).1
  have b1 := (o1 1 _ rfl).1
  have b2 := (o1 2 _ rfl).1
  have b3 := (o1 3 _ rfl).1
  have f0 := (o1 0 _ rfl).2
  have f1 := (o1 1 _ rfl).2
  have f2 := (o1 2 _ rfl).2
  have f3 := (o1 3 _ rfl).2
  go_wp2_with fail
  refine (len_is _ b c xs (HA.out.calm k1)).mono ?_
  rintro e w4 ⟨rfl, rfl⟩
  have h5 : ¬ ((3 : Int) + p + d > xs.length - at_) := by omega
  go_wp2
  have o3 := o1.set4 (.int .i64 p) (.int .i64 d) (.bool wk) (.bool fn)
  have u0 := (o3.1 0 _ rfl).1
  have u1 := (o3.1 1 _ rfl).1
  have u2 := (o3.1 2 _ rfl).1
  have u3 := (o3.1 3 _ rfl).1
  have k2 : Calm w _ := k1.join o3.2 (by intros; omega)
  clear b0 b1 b2 b3 f0 f1 f2 f3 o1 o3
  refine bodyPost_ret (v := .tuple #[shV p d wk fn, .bool fr, .int .i64 0]) (by simp [results, Try.f11, go_sem, u0, u1, u2, u3]) rfl ⟨rfl, k2⟩

/-- Where no object is: what one asks for there. -/
def NoObj (xs : List Nat) (at_ : Int) : Prop := at_ < 0 ∨ xs.length ≤ at_

theorem optr_yes (p d : Int) (wk fn : Bool) (at_ i : Int) (w : World) (h1 : 0 ≤ i) (h2 : i < p) (h3 : 0 ≤ at_) (h4 : at_ ≤ 1000000) (h5 : p ≤ 8) :
    Calls Try.prog 27 #[shV p d wk fn, .int .i64 at_, .int .i64 i] w fun e w' => e = .returned (.tuple #[.int .i64 (at_ + 3 + i), .int .i64 0]) ∧ Calm w w' := by
  go_enter Try.func27, Try.ntmps27
  go_wp2
  go_ret2
  exact ⟨rfl, Fr.alloc (Fr.refl _ _) _⟩

theorem optr_no (p d : Int) (wk fn : Bool) (at_ i : Int) (w : World) (h : i < 0 ∨ p ≤ i) :
    Calls Try.prog 27 #[shV p d wk fn, .int .i64 at_, .int .i64 i] w fun e w' => e = .returned (.tuple #[.int .i64 0, .int .i64 71]) ∧ Calm w w' := by
  by_cases hn : i < 0
  all_goals
    go_enter Try.func27, Try.ntmps27
    go_wp2
    go_ret2
    exact ⟨rfl, Fr.alloc (Fr.refl _ _) _⟩

theorem onum_yes (p d : Int) (wk fn : Bool) (at_ i : Int) (w : World) (h1 : 0 ≤ i) (h2 : i < d) (h3 : 0 ≤ at_) (h4 : at_ ≤ 1000000) (h5 : d ≤ 8) (h6 : 0 ≤ p) (h7 : p ≤ 8) :
    Calls Try.prog 30 #[shV p d wk fn, .int .i64 at_, .int .i64 i] w fun e w' => e = .returned (.tuple #[.int .i64 (at_ + 3 + p + i), .int .i64 0]) ∧ Calm w w' := by
  go_enter Try.func30, Try.ntmps30
  go_wp2
  go_ret2
  exact ⟨rfl, Fr.alloc (Fr.refl _ _) _⟩

theorem onum_no (p d : Int) (wk fn : Bool) (at_ i : Int) (w : World) (h : i < 0 ∨ d ≤ i) :
    Calls Try.prog 30 #[shV p d wk fn, .int .i64 at_, .int .i64 i] w fun e w' => e = .returned (.tuple #[.int .i64 0, .int .i64 71]) ∧ Calm w w' := by
  by_cases hn : i < 0
  all_goals
    go_enter Try.func30, Try.ntmps30
    go_wp2
    go_ret2
    exact ⟨rfl, Fr.alloc (Fr.refl _ _) _⟩

end Go.Proofs.Ytoonimdohkbfgaa

namespace Go.Proofs.Ytoonimdohkbfgaa
open Go.RowKit Go.Shelf

/-- The words behind a Make. -/
def made (xs : List Nat) (at_ p d : Nat) (wk fn : Bool) (ser : Nat) : List Nat :=
  (((fl xs at_ 0 (3 + p + d)).set at_ (hd p d wk fn false)).set (at_ + 1) 0).set (at_ + 2) ser

theorem omake_yes (w : World) (b c : Nat) (xs : List Nat) (h : Ar w b c xs) (at_ p d : Nat) (wk fn : Bool) (ser : Nat) (hok : okS p d wk fn) (hroom : at_ + (3 + p + d) ≤ xs.length) (hs : ser ≤ 1099511627776) :
    Calls Try.prog 23 #[arV b, .int .i64 at_, shV p d wk fn, .int .i64 ser] w fun e w' => e = .returned (.int .i64 0) ∧ Ar w' b c (made xs at_ p d wk fn ser) ∧ Fr (fun k => k = c) w w' := by
  have h4 := h.2.2.2
  have p8 := hok.1
  have d8 := hok.2.1
  have HA := hid h
  have hcl : c < w.heap.size := (h.cell (k := at_) (by omega)).lt
  clear h
  have hok' := hid hok
  clear hok
  go_enter Try.func23, Try.ntmps23
  have o1 := OwnL.new w [.int .i64 p, .int .i64 d, .bool wk, .bool fn] 27
  have k1 : Calm w (w.alloc (.cells #[.int .i64 p, .int .i64 d, .bool wk, .bool fn] 27)) := Fr.alloc (Fr.refl _ _) _
  go_wp2_with fail
  refine (size_yes p d wk fn hok'.out _).mono ?_
  rintro e w1 ⟨rfl, c1⟩
  replace o1 := o1.calm c1
  replace k1 := k1.trans c1
  clear c1
  go_wp2_with fail
  have hcast : (3 : Int) + p + d = ((3 + p + d : Nat) : Int) := by push_cast; rfl
  rw [hcast]
  refine (fill_yes w1 b c xs (HA.out.calm k1) at_ (3 + p + d) 0 hroom).mono ?_
  rintro e w2 ⟨rfl, ha, f2⟩
  replace o1 := o1.fr f2 (by omega)
  have k2 : Fr (fun k => k = c) w w2 := (Calm.any k1).trans f2
  have b0 := (o1 0 _ rfl).1
  have b1 := (o1 1 _ rfl).1
  have b2 := (o1 2 _ rfl).1
  have b3 := (o1 3 _ rfl).1
  replace ha := hid ha
  replace hcast := hid hcast
  clear k1 f2
  go_wp2_with fail
  refine (head_yes p d wk fn false hok'.out _).mono ?_
  rintro e w3 ⟨rfl, c3⟩
  replace ha := hid (ha.out.calm c3)
  replace k2 := k2.join c3 (fun _ _ h => h.elim)
  clear c3 b0 b1 b2 b3 o1
  have hl := fl_length xs at_ 0 (3 + p + d)
  go_wp2_with fail
  refine (free_yes 0 (by decide) (by decide) _).mono ?_
  rintro e w4 ⟨rfl, rfl⟩
  go_wp2_with fail
  refine (store_yes _ b c _ ha.out at_ (by omega) (hd p d wk fn false)).mono ?_
  rintro e w5 ⟨rfl, rfl⟩
  have a1 := hid (ha.out.set (k := at_) (by omega) (hd p d wk fn false))
  have k3 := k2.setCell (p := ⟨c, at_, none⟩) (.inl rfl) (wV (hd p d wk fn false))
  go_wp2_with fail
  have hc1 : ((at_ : Int) + 1) = ((at_ + 1 : Nat) : Int) := by push_cast; rfl
  rw [hc1]
  have hl1 : ((fl xs at_ 0 (3 + p + d)).set at_ (hd p d wk fn false)).length = xs.length := by rw [List.length_set, hl]
  refine (store_yes _ b c _ a1.out (at_ + 1) (by omega) 0).mono ?_
  rintro e w6 ⟨rfl, rfl⟩
  have a2 := hid (a1.out.set (k := at_ + 1) (by omega) 0)
  have k4 := k3.setCell (p := ⟨c, at_ + 1, none⟩) (.inl rfl) (wV 0)
  clear k2 k3 a1 ha hl
  replace hc1 := hid hc1
  replace hl1 := hid hl1
  go_wp2_with fail
  have hc2 : ((at_ : Int) + 2) = ((at_ + 2 : Nat) : Int) := by push_cast; rfl
  rw [hc2]
  have hl2 : (((fl xs at_ 0 (3 + p + d)).set at_ (hd p d wk fn false)).set (at_ + 1) 0).length = xs.length := by rw [List.length_set, hl1.out]
  refine (store_yes _ b c _ a2.out (at_ + 2) (by omega) ser).mono ?_
  rintro e w7 ⟨rfl, rfl⟩
  have a3 := hid (a2.out.set (k := at_ + 2) (by omega) ser)
  have k5 := k4.setCell (p := ⟨c, at_ + 2, none⟩) (.inl rfl) (wV ser)
  replace hc2 := hid hc2
  replace hl2 := hid hl2
  go_wp2
  go_ret
  exact ⟨rfl, a3.out, k5⟩

end Go.Proofs.Ytoonimdohkbfgaa

namespace Go.Proofs.Ytoonimdohkbfgaa

/-- An object: its shape, whether it is freed, its second word, its serial, its pointers, its numbers as words. -/
structure Ob where
  p : Nat
  d : Nat
  wk : Bool
  fn : Bool
  fr : Bool
  snd : Nat
  ser : Nat
  ps : List Nat
  ns : List Nat

/-- Its words. -/
def Ob.ws (o : Ob) : List Nat := hd o.p o.d o.wk o.fn o.fr :: o.snd :: o.ser :: (o.ps ++ o.ns)
def Ob.size (o : Ob) : Nat := 3 + o.p + o.d

structure Ob.Ok (o : Ob) : Prop where
  sh : okS o.p o.d o.wk o.fn
  lp : o.ps.length = o.p
  ln : o.ns.length = o.d
  ser : o.ser ≤ 1099511627776
  ps : ∀ x ∈ o.ps, x ≤ 131072
  ns : ∀ x ∈ o.ns, x < 18446744073709551616

theorem Ob.ws_length {o : Ob} (h : o.Ok) : o.ws.length = o.size := by
  simp [Ob.ws, Ob.size, h.lp, h.ln]; omega

/-- The object o lies at a place. -/
structure At (xs : List Nat) (a : Nat) (o : Ob) : Prop where
  ok : o.Ok
  room : a + o.size ≤ xs.length
  word : ∀ i, i < o.size → xs.getD (a + i) 0 = o.ws.getD i 0

theorem At.isObj {xs : List Nat} {a : Nat} {o : Ob} (h : At xs a o) : IsObj xs a o.p o.d o.wk o.fn o.fr :=
  ⟨h.ok.sh, by have := h.room; simp only [Ob.size] at this; omega, by simpa [Ob.ws] using h.word 0 (by simp [Ob.size]; omega)⟩

theorem At.snd {xs : List Nat} {a : Nat} {o : Ob} (h : At xs a o) : xs.getD (a + 1) 0 = o.snd := by
  simpa [Ob.ws] using h.word 1 (by simp [Ob.size]; omega)
theorem At.ser {xs : List Nat} {a : Nat} {o : Ob} (h : At xs a o) : xs.getD (a + 2) 0 = o.ser := by
  simpa [Ob.ws] using h.word 2 (by simp [Ob.size]; omega)
theorem Ob.ws_ptr {o : Ob} (h : o.Ok) {i : Nat} (hi : i < o.p) : o.ws.getD (3 + i) 0 = o.ps.getD i 0 := by
  have hl := h.lp
  rw [Nat.add_comm 3 i]
  simp [Ob.ws, List.getD, List.getElem?_append, show i < o.ps.length by omega]
theorem Ob.ws_num {o : Ob} (h : o.Ok) {i : Nat} (hi : i < o.d) : o.ws.getD (3 + o.p + i) 0 = o.ns.getD i 0 := by
  have hl := h.lp
  rw [show 3 + o.p + i = (o.p + i) + 3 by omega]
  simp [Ob.ws, List.getD, List.getElem?_append, show ¬ o.p + i < o.ps.length by omega, show o.p + i - o.ps.length = i by omega]
theorem At.ptr {xs : List Nat} {a : Nat} {o : Ob} (h : At xs a o) {i : Nat} (hi : i < o.p) : xs.getD (a + 3 + i) 0 = o.ps.getD i 0 := by
  have := h.word (3 + i) (by simp only [Ob.size]; omega)
  rw [Ob.ws_ptr h.ok hi] at this
  rwa [← Nat.add_assoc] at this
theorem At.num {xs : List Nat} {a : Nat} {o : Ob} (h : At xs a o) {i : Nat} (hi : i < o.d) : xs.getD (a + 3 + o.p + i) 0 = o.ns.getD i 0 := by
  have := h.word (3 + o.p + i) (by simp only [Ob.size]; omega)
  rw [Ob.ws_num h.ok hi] at this
  rwa [show a + (3 + o.p + i) = a + 3 + o.p + i by omega] at this
theorem Ob.Ok.ptr {o : Ob} (h : o.Ok) {i : Nat} (hi : i < o.p) : o.ps.getD i 0 ≤ 131072 := by
  have hl := h.lp
  have hi' : i < o.ps.length := by omega
  simpa [List.getD, hi'] using h.ps o.ps[i] (List.getElem_mem _)
theorem Ob.Ok.num {o : Ob} (h : o.Ok) {i : Nat} (hi : i < o.d) : o.ns.getD i 0 < 18446744073709551616 := by
  have hl := h.ln
  have hi' : i < o.ns.length := by omega
  simpa [List.getD, hi'] using h.ns o.ns[i] (List.getElem_mem _)

theorem getD_set (xs : List Nat) (i j v : Nat) : (xs.set i v).getD j 0 = if i = j ∧ i < xs.length then v else xs.getD j 0 := by
  simp only [List.getD, List.getElem?_set]
  by_cases h : i = j
  · subst h
    by_cases h2 : i < xs.length
    · simp [h2]
    · simp [h2]
  · simp [h]

/-- Sets of words that lie elsewhere. -/
theorem At.far {xs : List Nat} {a : Nat} {o : Ob} (h : At xs a o) {k v : Nat} (hk : k < a ∨ a + o.size ≤ k) : At (xs.set k v) a o := by
  refine ⟨h.ok, by rw [List.length_set]; exact h.room, fun i hi => ?_⟩
  rw [getD_set, if_neg (by omega)]
  exact h.word i hi

/-- Whatever words agree. -/
theorem At.of_eq {xs ys : List Nat} {a b : Nat} {o : Ob} (h : At xs a o) (hl : b + o.size ≤ ys.length) (he : ∀ i, i < o.size → ys.getD (b + i) 0 = xs.getD (a + i) 0) : At ys b o :=
  ⟨h.ok, hl, fun i hi => (he i hi).trans (h.word i hi)⟩

theorem At.setPtr {xs : List Nat} {a : Nat} {o : Ob} (h : At xs a o) {i v : Nat} (hi : i < o.p) (hv : v ≤ 131072) : At (xs.set (a + 3 + i) v) a { o with ps := o.ps.set i v } := by
  have hl := h.ok.lp
  have hln := h.ok.ln
  have hr := h.room
  refine ⟨⟨h.ok.sh, by simpa using hl, hln, h.ok.ser, fun x hx => ?_, h.ok.ns⟩, by rw [List.length_set]; exact hr, fun j hj => ?_⟩
  · rcases List.mem_or_eq_of_mem_set hx with hx | rfl
    · exact h.ok.ps x hx
    · exact hv
  · have hj' : j < o.size := hj
    have hw := h.word j hj'
    simp only [Ob.size] at hr hj'
    rw [getD_set]
    by_cases hj3 : 3 + i = j
    · subst hj3
      rw [if_pos (by omega)]
      have e : 3 + i = i + 1 + 1 + 1 := by omega
      rw [e]
      simp [Ob.ws, List.getD, List.getElem?_append, show i < o.ps.length by omega]
    · rw [if_neg (by omega), hw]
      match j, hj3 with
      | 0, _ => simp [Ob.ws]
      | 1, _ => simp [Ob.ws]
      | 2, _ => simp [Ob.ws]
      | j + 3, hj3 =>
        simp only [Ob.ws, List.getD, List.getElem?_cons_succ, List.getElem?_append, List.length_set, List.getElem?_set]
        by_cases h1 : j < o.ps.length
        · rw [if_pos h1, if_pos h1, if_neg (by omega)]
        · rw [if_neg h1, if_neg h1]

theorem At.setNum {xs : List Nat} {a : Nat} {o : Ob} (h : At xs a o) {i v : Nat} (hi : i < o.d) (hv : v < 18446744073709551616) : At (xs.set (a + 3 + o.p + i) v) a { o with ns := o.ns.set i v } := by
  have hl := h.ok.lp
  have hln := h.ok.ln
  have hr := h.room
  refine ⟨⟨h.ok.sh, hl, by simpa using hln, h.ok.ser, h.ok.ps, fun x hx => ?_⟩, by rw [List.length_set]; exact hr, fun j hj => ?_⟩
  · rcases List.mem_or_eq_of_mem_set hx with hx | rfl
    · exact h.ok.ns x hx
    · exact hv
  · have hj' : j < o.size := hj
    have hw := h.word j hj'
    simp only [Ob.size] at hr hj'
    rw [getD_set]
    by_cases hj3 : 3 + o.p + i = j
    · subst hj3
      rw [if_pos (by omega)]
      have e : 3 + o.p + i = (o.p + i) + 1 + 1 + 1 := by omega
      rw [e]
      simp [Ob.ws, List.getD, List.getElem?_append, show ¬ o.p + i < o.ps.length by omega, show o.p + i - o.ps.length = i by omega, show i < o.ns.length by omega]
    · rw [if_neg (by omega), hw]
      match j, hj3 with
      | 0, _ => simp [Ob.ws]
      | 1, _ => simp [Ob.ws]
      | 2, _ => simp [Ob.ws]
      | j + 3, hj3 =>
        simp only [Ob.ws, List.getD, List.getElem?_cons_succ, List.getElem?_append, List.length_set, List.getElem?_set]
        by_cases h1 : j < o.ps.length
        · rw [if_pos h1, if_pos h1]
        · rw [if_neg h1, if_neg h1, if_neg (by omega)]

theorem At.setHead {xs : List Nat} {a : Nat} {o : Ob} (h : At xs a o) (fr' : Bool) : At (xs.set a (hd o.p o.d o.wk o.fn fr')) a { o with fr := fr' } := by
  have hr := h.room
  refine ⟨⟨h.ok.sh, h.ok.lp, h.ok.ln, h.ok.ser, h.ok.ps, h.ok.ns⟩, by rw [List.length_set]; exact hr, fun j hj => ?_⟩
  have hj' : j < o.size := hj
  have hw := h.word j hj'
  rw [getD_set]
  simp only [Ob.size] at hr
  match j with
  | 0 => rw [if_pos (by omega)]; simp [Ob.ws]
  | j + 1 => rw [if_neg (by omega), hw]; simp [Ob.ws]

theorem At.setSnd {xs : List Nat} {a : Nat} {o : Ob} (h : At xs a o) (v : Nat) : At (xs.set (a + 1) v) a { o with snd := v } := by
  have hr := h.room
  refine ⟨⟨h.ok.sh, h.ok.lp, h.ok.ln, h.ok.ser, h.ok.ps, h.ok.ns⟩, by rw [List.length_set]; exact hr, fun j hj => ?_⟩
  have hj' : j < o.size := hj
  have hw := h.word j hj'
  rw [getD_set]
  simp only [Ob.size] at hr
  match j with
  | 0 => rw [if_neg (by omega), hw]; simp [Ob.ws]
  | 1 => rw [if_pos (by omega)]; simp [Ob.ws]
  | j + 2 => rw [if_neg (by omega), hw]; simp [Ob.ws]

/-- An object that was just laid. -/
def Ob.new (p d : Nat) (wk fn : Bool) (ser : Nat) : Ob := ⟨p, d, wk, fn, false, 0, ser, List.replicate p 0, List.replicate d 0⟩
theorem Ob.new_ok {p d : Nat} {wk fn : Bool} {ser : Nat} (h : okS p d wk fn) (hs : ser ≤ 1099511627776) : (Ob.new p d wk fn ser).Ok :=
  ⟨h, by simp [Ob.new], by simp [Ob.new], hs, fun x hx => by simp [Ob.new] at hx; omega, fun x hx => by simp [Ob.new] at hx; omega⟩

theorem made_length (xs : List Nat) (a p d : Nat) (wk fn : Bool) (ser : Nat) : (made xs a p d wk fn ser).length = xs.length := by
  simp [made, fl_length]

theorem made_getD {xs : List Nat} {a p d : Nat} {wk fn : Bool} {ser : Nat} (hr : a + (3 + p + d) ≤ xs.length) (j : Nat) :
    (made xs a p d wk fn ser).getD j 0 = if j = a then hd p d wk fn false else if j = a + 2 then ser else if a ≤ j ∧ j < a + (3 + p + d) then 0 else xs.getD j 0 := by
  have hl : (fl xs a 0 (3 + p + d)).length = xs.length := fl_length _ _ _ _
  simp only [made]
  rw [getD_set, getD_set, getD_set, fl_getD _ _ _ _ _ hr]
  simp only [List.length_set, hl]
  by_cases h1 : j = a
  · subst h1
    rw [if_neg (by omega), if_neg (by omega), if_pos (by omega), if_pos rfl]
  · rw [if_neg h1]
    by_cases h2 : j = a + 2
    · subst h2
      rw [if_pos (by omega), if_pos rfl]
    · rw [if_neg h2, if_neg (by omega)]
      by_cases h3 : j = a + 1
      · subst h3
        rw [if_pos (by omega), if_pos (by omega)]
      · rw [if_neg (by omega), if_neg (by omega)]

theorem made_at {xs : List Nat} {a p d : Nat} {wk fn : Bool} {ser : Nat} (h : okS p d wk fn) (hs : ser ≤ 1099511627776) (hr : a + (3 + p + d) ≤ xs.length) : At (made xs a p d wk fn ser) a (Ob.new p d wk fn ser) := by
  refine ⟨Ob.new_ok h hs, by rw [made_length]; exact hr, fun i hi => ?_⟩
  have hi' : i < 3 + p + d := hi
  rw [made_getD hr]
  match i with
  | 0 => simp [Ob.ws, Ob.new]
  | 1 => rw [if_neg (by omega), if_neg (by omega), if_pos (by omega)]; simp [Ob.ws, Ob.new]
  | 2 => simp [Ob.ws, Ob.new]
  | i + 3 =>
    rw [if_neg (by omega), if_neg (by omega), if_pos (by omega)]
    simp only [Ob.ws, Ob.new, List.getD, List.getElem?_cons_succ, List.getElem?_append, List.getElem?_replicate, List.length_replicate]
    by_cases h1 : i < p
    · simp [h1]
    · simp [h1, show i - p < d by omega]

theorem made_far {xs : List Nat} {a p d : Nat} {wk fn : Bool} {ser : Nat} (hr : a + (3 + p + d) ≤ xs.length) {b : Nat} {o : Ob} (h : At xs b o) (hb : b + o.size ≤ a ∨ a + (3 + p + d) ≤ b) : At (made xs a p d wk fn ser) b o := by
  refine h.of_eq (by rw [made_length]; exact h.room) fun i hi => ?_
  rw [made_getD hr, if_neg (by omega), if_neg (by omega), if_neg (by omega)]

end Go.Proofs.Ytoonimdohkbfgaa

namespace Go.Proofs.Ytoonimdohkbfgaa
open Go.RowKit Go.Shelf

theorem oserial_yes (w : World) (b c : Nat) (xs : List Nat) (h : Ar w b c xs) (at_ p d : Nat) (wk fn fr : Bool) (ho : IsObj xs at_ p d wk fn fr) (hs : xs.getD (at_ + 2) 0 ≤ 1099511627776) :
    Calls Try.prog 12 #[arV b, .int .i64 at_] w fun e w' => e = .returned (.tuple #[.int .i64 (xs.getD (at_ + 2) 0 : Nat), .int .i64 0]) ∧ Calm w w' := by
  have HA := hid h
  have HO := hid ho
  have hr := ho.room
  have h4 := h.2.2.2
  clear h ho
  obtain ⟨s, hS⟩ : ∃ s, xs.getD (at_ + 2) 0 = s := ⟨_, rfl⟩
  rw [hS] at hs ⊢
  replace hS := hid hS
  go_enter Try.func12, Try.ntmps12
  go_wp2_with fail
  refine (oshape_yes _ b c xs HA.out at_ p d wk fn fr HO.out).mono ?_
  rintro e w1 ⟨rfl, c1⟩
  go_wp2_with fail
  have hc2 : ((at_ : Int) + 2) = ((at_ + 2 : Nat) : Int) := by push_cast; rfl
  rw [hc2]
  refine (load_yes _ b c xs (HA.out.calm (c1.alloc _)) (at_ + 2) (by omega)).mono ?_
  rintro e w2 ⟨rfl, rfl⟩
  rw [hS.out]
  replace hc2 := hid hc2
  go_wp2
  exact bodyPost_ret (v := .tuple #[.int .i64 s, .int .i64 0]) (by simp [results, Try.f12, go_sem]) rfl ⟨rfl, c1.alloc _⟩

theorem ofield_ptr_yes (w : World) (b c : Nat) (xs : List Nat) (h : Ar w b c xs) (at_ p d : Nat) (wk fn fr : Bool) (ho : IsObj xs at_ p d wk fn fr) (i : Nat) (hi : i < p) :
    Calls Try.prog 26 #[arV b, .int .i64 at_, .int .i64 i, .func (.func 27) #[] #[]] w fun e w' => e = .returned (.tuple #[.int .i64 ((at_ : Int) + 3 + i), .int .i64 0]) ∧ Calm w w' := by
  have HA := hid h
  have HO := hid ho
  have hr := ho.room
  have h4 := h.2.2.2
  have p8 := ho.ok.1
  clear h ho
  go_enter Try.func26, Try.ntmps26
  go_wp2_with fail
  refine (oshape_yes _ b c xs HA.out at_ p d wk fn fr HO.out).mono ?_
  rintro e w1 ⟨rfl, c1⟩
  go_wp2_with fail
  refine (optr_yes p d wk fn at_ i _ (by omega) (by omega) (by omega) (by omega) (by omega)).mono ?_
  rintro e w2 ⟨rfl, c2⟩
  go_wp2
  exact bodyPost_ret (v := .tuple #[.int .i64 ((at_ : Int) + 3 + i), .int .i64 0]) (by simp [results, Try.f26, go_sem]) rfl ⟨rfl, (c1.alloc _).trans c2⟩

end Go.Proofs.Ytoonimdohkbfgaa

namespace Go.Proofs.Ytoonimdohkbfgaa
open Go.RowKit Go.Shelf

theorem ofield_num_yes (w : World) (b c : Nat) (xs : List Nat) (h : Ar w b c xs) (at_ p d : Nat) (wk fn fr : Bool) (ho : IsObj xs at_ p d wk fn fr) (i : Nat) (hi : i < d) :
    Calls Try.prog 26 #[arV b, .int .i64 at_, .int .i64 i, .func (.func 30) #[] #[]] w fun e w' => e = .returned (.tuple #[.int .i64 ((at_ : Int) + 3 + p + i), .int .i64 0]) ∧ Calm w w' := by
  have HA := hid h
  have HO := hid ho
  have hr := ho.room
  have h4 := h.2.2.2
  have p8 := ho.ok.1
  have d8 := ho.ok.2.1
  clear h ho
  go_enter Try.func26, Try.ntmps26
  go_wp2_with fail
  refine (oshape_yes _ b c xs HA.out at_ p d wk fn fr HO.out).mono ?_
  rintro e w1 ⟨rfl, c1⟩
  go_wp2_with fail
  refine (onum_yes p d wk fn at_ i _ (by omega) (by omega) (by omega) (by omega) (by omega) (by omega) (by omega)).mono ?_
  rintro e w2 ⟨rfl, c2⟩
  go_wp2
  exact bodyPost_ret (v := .tuple #[.int .i64 ((at_ : Int) + 3 + p + i), .int .i64 0]) (by simp [results, Try.f26, go_sem]) rfl ⟨rfl, (c1.alloc _).trans c2⟩

/-- change, with a closure that makes any word v. -/
theorem ochange_yes (w : World) (b c : Nat) (xs : List Nat) (h : Ar w b c xs) (k : Nat) (hk : k < xs.length) (g v : Nat) (hg : Own w g 0 (wV v)) (hgc : g ≠ c) :
    Calls Try.prog 28 #[arV b, .int .i64 k, .func (.func 49) #[] #[.pointer (some ⟨g, 0, none⟩)]] w fun e w' => e = .returned (.int .i64 0) ∧ Ar w' b c (xs.set k v) ∧ Fr (fun b => b = c) w w' := by
  have HA := hid h
  have h4 := h.2.2.2
  have g1 := hg.1
  have hs := hid (h.set hk v)
  clear h
  go_enter Try.func28, Try.ntmps28
  go_wp2_with fail
  refine (load_yes _ b c xs HA.out k hk).mono ?_
  rintro e w1 ⟨rfl, rfl⟩
  go_wp2_with (first | (go_at_call 44; refine (store_yes _ b c xs HA.out k hk v).mono ?_; rintro e w2 ⟨rfl, rfl⟩) | go_in)
  go_ret
  exact ⟨rfl, hs.out, Fr.setCell (S := fun b => b = c) (p := ⟨c, k, none⟩) (Fr.refl _ _) (.inl rfl) _⟩

end Go.Proofs.Ytoonimdohkbfgaa

namespace Go.Proofs.Ytoonimdohkbfgaa
open Go.RowKit Go.Shelf

theorem ogetptr_yes (w : World) (b c : Nat) (xs : List Nat) (h : Ar w b c xs) (at_ p d : Nat) (wk fn fr : Bool) (ho : IsObj xs at_ p d wk fn fr) (i : Nat) (hi : i < p) (hs : xs.getD (at_ + 3 + i) 0 ≤ 1099511627776) :
    Calls Try.prog 13 #[arV b, .int .i64 at_, .int .i64 i] w fun e w' => e = .returned (.tuple #[.int .i64 (xs.getD (at_ + 3 + i) 0 : Nat), .int .i64 0]) ∧ Calm w w' := by
  have HA := hid h
  have HO := hid ho
  have hr := ho.room
  have h4 := h.2.2.2
  clear h ho
  obtain ⟨s, hS⟩ : ∃ s, xs.getD (at_ + 3 + i) 0 = s := ⟨_, rfl⟩
  rw [hS] at hs ⊢
  replace hS := hid hS
  go_enter Try.func13, Try.ntmps13
  go_wp2_with fail
  refine (ofield_ptr_yes _ b c xs HA.out at_ p d wk fn fr HO.out i hi).mono ?_
  rintro e w1 ⟨rfl, c1⟩
  go_wp2_with fail
  have hc2 : ((at_ : Int) + 3 + i) = ((at_ + 3 + i : Nat) : Int) := by push_cast; rfl
  rw [hc2]
  refine (load_yes _ b c xs (HA.out.calm c1) (at_ + 3 + i) (by omega)).mono ?_
  rintro e w2 ⟨rfl, rfl⟩
  rw [hS.out]
  replace hc2 := hid hc2
  go_wp2
  exact bodyPost_ret (v := .tuple #[.int .i64 s, .int .i64 0]) (by simp [results, Try.f13, go_sem]) rfl ⟨rfl, c1⟩

theorem ogetnum_yes (w : World) (b c : Nat) (xs : List Nat) (h : Ar w b c xs) (at_ p d : Nat) (wk fn fr : Bool) (ho : IsObj xs at_ p d wk fn fr) (i : Nat) (hi : i < d) (hs : xs.getD (at_ + 3 + p + i) 0 < 18446744073709551616) :
    Calls Try.prog 14 #[arV b, .int .i64 at_, .int .i64 i] w fun e w' => e = .returned (.tuple #[.int .i64 (zt (xs.getD (at_ + 3 + p + i) 0)), .int .i64 0]) ∧ Calm w w' := by
  have HA := hid h
  have HO := hid ho
  have hr := ho.room
  have h4 := h.2.2.2
  clear h ho
  obtain ⟨s, hS⟩ : ∃ s, xs.getD (at_ + 3 + p + i) 0 = s := ⟨_, rfl⟩
  rw [hS] at hs ⊢
  replace hS := hid hS
  go_enter Try.func14, Try.ntmps14
  go_wp2_with fail
  refine (ofield_num_yes _ b c xs HA.out at_ p d wk fn fr HO.out i hi).mono ?_
  rintro e w1 ⟨rfl, c1⟩
  go_wp2_with fail
  have hc2 : ((at_ : Int) + 3 + p + i) = ((at_ + 3 + p + i : Nat) : Int) := by push_cast; rfl
  rw [hc2]
  refine (load_yes _ b c xs (HA.out.calm c1) (at_ + 3 + p + i) (by omega)).mono ?_
  rintro e w2 ⟨rfl, rfl⟩
  rw [hS.out]
  replace hc2 := hid hc2
  go_wp2_with fail
  refine (zag_yes s _ hs).mono ?_
  rintro e w3 ⟨rfl, c3⟩
  go_wp2
  exact bodyPost_ret (v := .tuple #[.int .i64 (zt s), .int .i64 0]) (by simp [results, Try.f14, go_sem]) rfl ⟨rfl, c1.trans c3⟩

end Go.Proofs.Ytoonimdohkbfgaa

namespace Go.Proofs.Ytoonimdohkbfgaa
open Go.RowKit Go.Shelf

theorem oto_is (w : World) (v : Nat) :
    Calls Try.prog 29 #[wV v] w fun e w' => e = .returned (.func (.func 49) #[] #[.pointer (some ⟨w.heap.size, 0, none⟩)]) ∧ w' = w.alloc (.cells #[wV v] 33) := by
  go_enter Try.func29, Try.ntmps29
  go_wp2
  go_ret
  exact ⟨rfl, rfl⟩

theorem osetptr_yes (w : World) (b c : Nat) (xs : List Nat) (h : Ar w b c xs) (at_ p d : Nat) (wk fn fr : Bool) (ho : IsObj xs at_ p d wk fn fr) (i : Nat) (hi : i < p) (v : Nat) (hv : v ≤ 131072) :
    Calls Try.prog 8 #[arV b, .int .i64 at_, .int .i64 i, .int .i64 v] w fun e w' => e = .returned (.int .i64 0) ∧ Ar w' b c (xs.set (at_ + 3 + i) v) ∧ Fr (fun k => k = c) w w' := by
  have HA := hid h
  have HO := hid ho
  have hr := ho.room
  have h4 := h.2.2.2
  have hcl : c < w.heap.size := (h.cell (k := at_) (by omega)).lt
  clear h ho
  go_enter Try.func8, Try.ntmps8
  go_wp2_with fail
  refine (ofield_ptr_yes _ b c xs HA.out at_ p d wk fn fr HO.out i hi).mono ?_
  rintro e w1 ⟨rfl, c1⟩
  go_wp2_with fail
  refine (oto_is _ v).mono ?_
  rintro e w2 ⟨rfl, rfl⟩
  go_wp2_with fail
  have hc2 : ((at_ : Int) + 3 + i) = ((at_ + 3 + i : Nat) : Int) := by push_cast; rfl
  rw [hc2]
  refine (ochange_yes _ b c xs (HA.out.calm (c1.alloc _)) (at_ + 3 + i) (by omega) w1.heap.size v (Own.new _ _ _ 0 rfl) (by have := c1.size; omega)).mono ?_
  rintro e w3 ⟨rfl, ha, f⟩
  replace hc2 := hid hc2
  replace ha := hid ha
  go_wp2
  go_ret
  exact ⟨rfl, ha.out, (Calm.any (c1.alloc _)).trans f⟩

theorem osetnum_yes (w : World) (b c : Nat) (xs : List Nat) (h : Ar w b c xs) (at_ p d : Nat) (wk fn fr : Bool) (ho : IsObj xs at_ p d wk fn fr) (i : Nat) (hi : i < d) (n : Int) (hn : I64 n) :
    Calls Try.prog 9 #[arV b, .int .i64 at_, .int .i64 i, .int .i64 n] w fun e w' => e = .returned (.int .i64 0) ∧ Ar w' b c (xs.set (at_ + 3 + p + i) (zg n)) ∧ Fr (fun k => k = c) w w' := by
  have HA := hid h
  have HO := hid ho
  have hr := ho.room
  have h4 := h.2.2.2
  have hcl : c < w.heap.size := (h.cell (k := at_) (by omega)).lt
  clear h ho
  go_enter Try.func9, Try.ntmps9
  go_wp2_with fail
  refine (ofield_num_yes _ b c xs HA.out at_ p d wk fn fr HO.out i hi).mono ?_
  rintro e w1 ⟨rfl, c1⟩
  go_wp2_with fail
  refine (zig_yes n _ hn).mono ?_
  rintro e w2 ⟨rfl, c2⟩
  replace c1 := c1.trans c2
  go_wp2_with fail
  refine (oto_is _ (zg n)).mono ?_
  rintro e w2' ⟨rfl, rfl⟩
  go_wp2_with fail
  have hc2 : ((at_ : Int) + 3 + p + i) = ((at_ + 3 + p + i : Nat) : Int) := by push_cast; rfl
  rw [hc2]
  refine (ochange_yes _ b c xs (HA.out.calm (c1.alloc _)) (at_ + 3 + p + i) (by omega) w2.heap.size (zg n) (Own.new _ _ _ 0 rfl) (by have := c1.size; omega)).mono ?_
  rintro e w3 ⟨rfl, ha, f⟩
  replace hc2 := hid hc2
  replace ha := hid ha
  go_wp2
  go_ret
  exact ⟨rfl, ha.out, (Calm.any (c1.alloc _)).trans f⟩

end Go.Proofs.Ytoonimdohkbfgaa

namespace Go.Proofs.Ytoonimdohkbfgaa
open Go.RowKit Go.Shelf
theorem osetfreed_yes (w : World) (b c : Nat) (xs : List Nat) (h : Ar w b c xs) (at_ p d : Nat) (wk fn fr fr' : Bool) (ho : IsObj xs at_ p d wk fn fr) :
    Calls Try.prog 10 #[arV b, .int .i64 at_, .bool fr'] w fun e w' => e = .returned (.int .i64 0) ∧ Ar w' b c (xs.set at_ (hd p d wk fn fr')) ∧ Fr (fun k => k = c) w w' := by
  have HA := hid h
  have HO := hid ho
  have hr := ho.room
  have h4 := h.2.2.2
  have hcl : c < w.heap.size := (h.cell (k := at_) (by omega)).lt
  clear h ho
  go_enter Try.func10, Try.ntmps10
  go_wp2_with fail
  refine (oshape_yes _ b c xs HA.out at_ p d wk fn fr HO.out).mono ?_
  rintro e w1 ⟨rfl, c1⟩
  go_wp2_with fail
  refine (head_yes p d wk fn fr' HO.out.ok _).mono ?_
  rintro e w2 ⟨rfl, c2⟩
  replace c1 := (c1.alloc _).trans c2
  go_wp2_with fail
  refine (oto_is _ (hd p d wk fn fr')).mono ?_
  rintro e w3 ⟨rfl, rfl⟩
  go_wp2_with fail
  refine (ochange_yes _ b c xs (HA.out.calm (c1.alloc _)) at_ (by omega) w2.heap.size (hd p d wk fn fr') (Own.new _ _ _ 0 rfl) (by have := c1.size; omega)).mono ?_
  rintro e w4 ⟨rfl, ha, f⟩
  replace ha := hid ha
  go_wp2
  go_ret
  exact ⟨rfl, ha.out, (Calm.any (c1.alloc _)).trans f⟩

end Go.Proofs.Ytoonimdohkbfgaa

namespace Go.Proofs.Ytoonimdohkbfgaa
open Go.RowKit Go.Shelf

theorem omake_arg (w : World) (b : Nat) (at_ : Int) (p d : Nat) (wk fn : Bool) (ser : Int) (hok : okS p d wk fn) (hs : ser < 0 ∨ 1099511627776 < ser) :
    Calls Try.prog 23 #[arV b, .int .i64 at_, shV p d wk fn, .int .i64 ser] w fun e w' => e = .returned (.int .i64 1) ∧ Calm w w' := by
  by_cases hn : ser < 0
  · clear hs
    go_enter Try.func23, Try.ntmps23
    go_wp2_with fail
    refine (size_yes p d wk fn hok _).mono ?_
    rintro e w1 ⟨rfl, c1⟩
    go_wp2
    go_ret
    exact ⟨rfl, (Fr.alloc (Fr.refl _ _) _).trans c1⟩
  · have h2 : 1099511627776 < ser := by omega
    clear hs
    go_enter Try.func23, Try.ntmps23
    go_wp2_with fail
    refine (size_yes p d wk fn hok _).mono ?_
    rintro e w1 ⟨rfl, c1⟩
    go_wp2
    go_ret
    exact ⟨rfl, (Fr.alloc (Fr.refl _ _) _).trans c1⟩

theorem omake_room (w : World) (b c : Nat) (xs : List Nat) (h : Ar w b c xs) (at_ p d : Nat) (wk fn : Bool) (ser : Nat) (hok : okS p d wk fn) (hroom : xs.length < at_ + (3 + p + d)) (hat : at_ ≤ 1000000) (hs : ser ≤ 1099511627776) :
    Calls Try.prog 23 #[arV b, .int .i64 at_, shV p d wk fn, .int .i64 ser] w fun e w' => e = .returned (.int .i64 20) ∧ Calm w w' := by
  have p8 := hok.1
  have d8 := hok.2.1
  have HA := hid h
  clear h
  have hok' := hid hok
  clear hok
  go_enter Try.func23, Try.ntmps23
  have k1 : Calm w (w.alloc (.cells #[.int .i64 p, .int .i64 d, .bool wk, .bool fn] 27)) := Fr.alloc (Fr.refl _ _) _
  go_wp2_with fail
  refine (size_yes p d wk fn hok'.out _).mono ?_
  rintro e w1 ⟨rfl, c1⟩
  replace k1 := k1.trans c1
  clear c1
  go_wp2_with fail
  have hcast : (3 : Int) + p + d = ((3 + p + d : Nat) : Int) := by push_cast; rfl
  rw [hcast]
  refine (fill_no w1 b c xs (HA.out.calm k1) at_ (3 + p + d) 0 hroom hat (by omega)).mono ?_
  rintro e w2 ⟨rfl, rfl⟩
  replace hcast := hid hcast
  go_wp2
  go_ret
  exact ⟨rfl, k1⟩

/-- No object at a place out of the arena. -/
theorem oshape_far (w : World) (b c : Nat) (xs : List Nat) (h : Ar w b c xs) (k : Int) (hk : k < 0 ∨ xs.length ≤ k) (hk64 : I64 k) :
    Calls Try.prog 11 #[arV b, .int .i64 k] w fun e w' => e = .returned (.tuple #[shV 0 0 false false, .bool false, .int .i64 20]) ∧ Calm w w' := by
  have HA := hid h
  clear h
  go_enter Try.func11, Try.ntmps11
  go_wp2_with fail
  have HK := hid hk
  have HK64 := hid hk64
  clear hk hk64
  refine (load_no _ b c xs (HA.out.calm (Fr.alloc (Fr.refl _ _) _)) k HK.out HK64.out).mono ?_
  rintro e w1 ⟨rfl, rfl⟩
  go_wp2
  exact bodyPost_ret (v := .tuple #[shV 0 0 false false, .bool false, .int .i64 20]) (by simp [results, Try.f11, go_sem]) rfl ⟨rfl, Fr.refl _ _ |>.alloc _⟩

theorem oshape_none (w : World) (b c : Nat) (xs : List Nat) (h : Ar w b c xs) (at_ : Nat) (hat : at_ < xs.length) (hW : xs.getD at_ 0 < 18446744073709551616) (hh : ∀ p d wk fn fr, ¬ isHead (xs.getD at_ 0) p d wk fn fr) :
    Calls Try.prog 11 #[arV b, .int .i64 at_] w fun e w' => e = .returned (.tuple #[shV 0 0 false false, .bool false, .int .i64 70]) ∧ Calm w w' := by
  have HA := hid h
  have h4 := h.2.2.2
  obtain ⟨s, hS⟩ : ∃ s, xs.getD at_ 0 = s := ⟨_, rfl⟩
  rw [hS] at hh hW
  replace hS := hid hS
  have HH := hid hh
  have HW := hid hW
  clear h hh hW
  go_enter Try.func11, Try.ntmps11
  go_wp2_with fail
  refine (load_yes _ b c xs (HA.out.calm (Fr.alloc (Fr.refl _ _) _)) at_ hat).mono ?_
  rintro e w1 ⟨rfl, rfl⟩
  rw [hS.out]
  have o1 := OwnL.new w [.int .i64 0, .int .i64 0, .bool false, .bool false] 27
  have k1 : Calm w (w.alloc (.cells #[.int .i64 0, .int .i64 0, .bool false, .bool false] 27)) := Fr.alloc (Fr.refl _ _) _
  go_wp2_with fail
  refine (shape_no s HW.out HH.out _).mono ?_
  rintro e w2 ⟨rfl, c2⟩
  replace o1 := o1.calm c2
  replace k1 := k1.trans c2
  have b0 := (o1 0 _ rfl).1
  have b1 := (o1 1 _ rfl).1
  have b2 := (o1 2 _ rfl).1
  have b3 := (o1 3 _ rfl).1
  have f0 := (o1 0 _ rfl).2
  have f1 := (o1 1 _ rfl).2
  have f2 := (o1 2 _ rfl).2
  have f3 := (o1 3 _ rfl).2
  clear c2
  go_wp2
  have o3 := (o1.set4 (.int .i64 0) (.int .i64 0) (.bool false) (.bool false)).1.set4 (.int .i64 0) (.int .i64 0) (.bool false) (.bool false)
  have k2 : Calm w _ := (k1.join (o1.set4 (.int .i64 0) (.int .i64 0) (.bool false) (.bool false)).2 (by intros; omega)).join o3.2 (by intros; omega)
  have u0 := (o3.1 0 _ rfl).1
  have u1 := (o3.1 1 _ rfl).1
  have u2 := (o3.1 2 _ rfl).1
  have u3 := (o3.1 3 _ rfl).1
  clear b0 b1 b2 b3 f0 f1 f2 f3 o1 o3
  refine bodyPost_ret (v := .tuple #[shV 0 0 false false, .bool false, .int .i64 70]) (by simp [results, Try.f11, go_sem, u0, u1, u2, u3]) rfl ⟨rfl, k2⟩

theorem ofield_ptr_no (w : World) (b c : Nat) (xs : List Nat) (h : Ar w b c xs) (at_ p d : Nat) (wk fn fr : Bool) (ho : IsObj xs at_ p d wk fn fr) (i : Int) (hi : i < 0 ∨ (p : Int) ≤ i) :
    Calls Try.prog 26 #[arV b, .int .i64 at_, .int .i64 i, .func (.func 27) #[] #[]] w fun e w' => e = .returned (.tuple #[.int .i64 0, .int .i64 71]) ∧ Calm w w' := by
  have HA := hid h
  have HO := hid ho
  have HI := hid hi
  clear h ho hi
  go_enter Try.func26, Try.ntmps26
  go_wp2_with fail
  refine (oshape_yes _ b c xs HA.out at_ p d wk fn fr HO.out).mono ?_
  rintro e w1 ⟨rfl, c1⟩
  go_wp2_with fail
  refine (optr_no p d wk fn at_ i _ HI.out).mono ?_
  rintro e w2 ⟨rfl, c2⟩
  go_wp2
  exact bodyPost_ret (v := .tuple #[.int .i64 0, .int .i64 71]) (by simp [results, Try.f26, go_sem]) rfl ⟨rfl, (c1.alloc _).trans c2⟩

theorem ofield_num_no (w : World) (b c : Nat) (xs : List Nat) (h : Ar w b c xs) (at_ p d : Nat) (wk fn fr : Bool) (ho : IsObj xs at_ p d wk fn fr) (i : Int) (hi : i < 0 ∨ (d : Int) ≤ i) :
    Calls Try.prog 26 #[arV b, .int .i64 at_, .int .i64 i, .func (.func 30) #[] #[]] w fun e w' => e = .returned (.tuple #[.int .i64 0, .int .i64 71]) ∧ Calm w w' := by
  have HA := hid h
  have HO := hid ho
  have HI := hid hi
  clear h ho hi
  go_enter Try.func26, Try.ntmps26
  go_wp2_with fail
  refine (oshape_yes _ b c xs HA.out at_ p d wk fn fr HO.out).mono ?_
  rintro e w1 ⟨rfl, c1⟩
  go_wp2_with fail
  refine (onum_no p d wk fn at_ i _ HI.out).mono ?_
  rintro e w2 ⟨rfl, c2⟩
  go_wp2
  exact bodyPost_ret (v := .tuple #[.int .i64 0, .int .i64 71]) (by simp [results, Try.f26, go_sem]) rfl ⟨rfl, (c1.alloc _).trans c2⟩

theorem ogetptr_no (w : World) (b c : Nat) (xs : List Nat) (h : Ar w b c xs) (at_ p d : Nat) (wk fn fr : Bool) (ho : IsObj xs at_ p d wk fn fr) (i : Int) (hi : i < 0 ∨ (p : Int) ≤ i) :
    Calls Try.prog 13 #[arV b, .int .i64 at_, .int .i64 i] w fun e w' => e = .returned (.tuple #[.int .i64 0, .int .i64 71]) ∧ Calm w w' := by
  have HI := hid hi
  clear hi
  go_enter Try.func13, Try.ntmps13
  go_wp2_with fail
  refine (ofield_ptr_no _ b c xs h at_ p d wk fn fr ho i HI.out).mono ?_
  rintro e w1 ⟨rfl, c1⟩
  clear ho h
  go_wp2
  exact bodyPost_ret (v := .tuple #[.int .i64 0, .int .i64 71]) (by simp [results, Try.f13, go_sem]) rfl ⟨rfl, c1⟩

theorem ogetnum_no (w : World) (b c : Nat) (xs : List Nat) (h : Ar w b c xs) (at_ p d : Nat) (wk fn fr : Bool) (ho : IsObj xs at_ p d wk fn fr) (i : Int) (hi : i < 0 ∨ (d : Int) ≤ i) :
    Calls Try.prog 14 #[arV b, .int .i64 at_, .int .i64 i] w fun e w' => e = .returned (.tuple #[.int .i64 0, .int .i64 71]) ∧ Calm w w' := by
  have HI := hid hi
  clear hi
  go_enter Try.func14, Try.ntmps14
  go_wp2_with fail
  refine (ofield_num_no _ b c xs h at_ p d wk fn fr ho i HI.out).mono ?_
  rintro e w1 ⟨rfl, c1⟩
  clear ho h
  go_wp2
  exact bodyPost_ret (v := .tuple #[.int .i64 0, .int .i64 71]) (by simp [results, Try.f14, go_sem]) rfl ⟨rfl, c1⟩

theorem osetptr_no (w : World) (b c : Nat) (xs : List Nat) (h : Ar w b c xs) (at_ p d : Nat) (wk fn fr : Bool) (ho : IsObj xs at_ p d wk fn fr) (i v : Int) (hi : i < 0 ∨ (p : Int) ≤ i) :
    Calls Try.prog 8 #[arV b, .int .i64 at_, .int .i64 i, .int .i64 v] w fun e w' => e = .returned (.int .i64 71) ∧ Calm w w' := by
  have HI := hid hi
  clear hi
  go_enter Try.func8, Try.ntmps8
  go_wp2_with fail
  refine (ofield_ptr_no _ b c xs h at_ p d wk fn fr ho i HI.out).mono ?_
  rintro e w1 ⟨rfl, c1⟩
  clear ho h
  go_wp2
  go_ret
  exact ⟨rfl, c1⟩

theorem osetnum_no (w : World) (b c : Nat) (xs : List Nat) (h : Ar w b c xs) (at_ p d : Nat) (wk fn fr : Bool) (ho : IsObj xs at_ p d wk fn fr) (i v : Int) (hi : i < 0 ∨ (d : Int) ≤ i) :
    Calls Try.prog 9 #[arV b, .int .i64 at_, .int .i64 i, .int .i64 v] w fun e w' => e = .returned (.int .i64 71) ∧ Calm w w' := by
  have HI := hid hi
  clear hi
  go_enter Try.func9, Try.ntmps9
  go_wp2_with fail
  refine (ofield_num_no _ b c xs h at_ p d wk fn fr ho i HI.out).mono ?_
  rintro e w1 ⟨rfl, c1⟩
  clear ho h
  go_wp2
  go_ret
  exact ⟨rfl, c1⟩

end Go.Proofs.Ytoonimdohkbfgaa

namespace Go.Proofs.Ytoonimdohkbfgaa
open Go.RowKit Go.Shelf

/-- The field k is there, or it is not. -/
def Has (bp : Bool) (k : Int) (n : Nat) : Prop := (bp = true ∧ 0 ≤ k ∧ k < n) ∨ (bp = false ∧ (k < 0 ∨ (n : Int) ≤ k))

section
variable {w : World} {b c : Nat} {xs : List Nat} (h : Ar w b c xs) {a : Nat} {o : Ob} (ho : At xs a o)
include h ho

theorem at_shape : Calls Try.prog 11 #[arV b, .int .i64 a] w fun e w' => e = .returned (.tuple #[shV o.p o.d o.wk o.fn, .bool o.fr, .int .i64 0]) ∧ Calm w w' :=
  oshape_yes w b c xs h a _ _ _ _ _ ho.isObj

theorem at_serial : Calls Try.prog 12 #[arV b, .int .i64 a] w fun e w' => e = .returned (.tuple #[.int .i64 o.ser, .int .i64 0]) ∧ Calm w w' := by
  have := oserial_yes w b c xs h a _ _ _ _ _ ho.isObj (by rw [ho.ser]; exact ho.ok.ser)
  rwa [ho.ser] at this

theorem at_ptr {i : Nat} (hi : i < o.p) : Calls Try.prog 13 #[arV b, .int .i64 a, .int .i64 i] w fun e w' => e = .returned (.tuple #[.int .i64 (o.ps.getD i 0 : Nat), .int .i64 0]) ∧ Calm w w' := by
  have := ogetptr_yes w b c xs h a _ _ _ _ _ ho.isObj i hi (by rw [ho.ptr hi]; have := ho.ok.ptr hi; omega)
  rwa [ho.ptr hi] at this

theorem at_ptr_no {i : Int} (hi : i < 0 ∨ (o.p : Int) ≤ i) : Calls Try.prog 13 #[arV b, .int .i64 a, .int .i64 i] w fun e w' => e = .returned (.tuple #[.int .i64 0, .int .i64 71]) ∧ Calm w w' :=
  ogetptr_no w b c xs h a _ _ _ _ _ ho.isObj i hi

theorem at_num {i : Nat} (hi : i < o.d) : Calls Try.prog 14 #[arV b, .int .i64 a, .int .i64 i] w fun e w' => e = .returned (.tuple #[.int .i64 (zt (o.ns.getD i 0)), .int .i64 0]) ∧ Calm w w' := by
  have := ogetnum_yes w b c xs h a _ _ _ _ _ ho.isObj i hi (by rw [ho.num hi]; exact ho.ok.num hi)
  rwa [ho.num hi] at this

theorem at_num_no {i : Int} (hi : i < 0 ∨ (o.d : Int) ≤ i) : Calls Try.prog 14 #[arV b, .int .i64 a, .int .i64 i] w fun e w' => e = .returned (.tuple #[.int .i64 0, .int .i64 71]) ∧ Calm w w' :=
  ogetnum_no w b c xs h a _ _ _ _ _ ho.isObj i hi

theorem at_setptr {i v : Nat} (hi : i < o.p) (hv : v ≤ 131072) : Calls Try.prog 8 #[arV b, .int .i64 a, .int .i64 i, .int .i64 v] w fun e w' => e = .returned (.int .i64 0) ∧ Ar w' b c (xs.set (a + 3 + i) v) ∧ Fr (fun k => k = c) w w' :=
  osetptr_yes w b c xs h a _ _ _ _ _ ho.isObj i hi v hv

theorem at_setptr_no {i v : Int} (hi : i < 0 ∨ (o.p : Int) ≤ i) : Calls Try.prog 8 #[arV b, .int .i64 a, .int .i64 i, .int .i64 v] w fun e w' => e = .returned (.int .i64 71) ∧ Calm w w' :=
  osetptr_no w b c xs h a _ _ _ _ _ ho.isObj i v hi

theorem at_setnum {i : Nat} {v : Int} (hi : i < o.d) (hv : I64 v) : Calls Try.prog 9 #[arV b, .int .i64 a, .int .i64 i, .int .i64 v] w fun e w' => e = .returned (.int .i64 0) ∧ Ar w' b c (xs.set (a + 3 + o.p + i) (zg v)) ∧ Fr (fun k => k = c) w w' :=
  osetnum_yes w b c xs h a _ _ _ _ _ ho.isObj i hi v hv

theorem at_setnum_no {i v : Int} (hi : i < 0 ∨ (o.d : Int) ≤ i) : Calls Try.prog 9 #[arV b, .int .i64 a, .int .i64 i, .int .i64 v] w fun e w' => e = .returned (.int .i64 71) ∧ Calm w w' :=
  osetnum_no w b c xs h a _ _ _ _ _ ho.isObj i v hi

theorem at_setfreed (fr' : Bool) : Calls Try.prog 10 #[arV b, .int .i64 a, .bool fr'] w fun e w' => e = .returned (.int .i64 0) ∧ Ar w' b c (xs.set a (hd o.p o.d o.wk o.fn fr')) ∧ Fr (fun k => k = c) w w' :=
  osetfreed_yes w b c xs h a _ _ _ _ _ _ ho.isObj

theorem at_ptr_if {bp : Bool} {k : Int} (hk : Has bp k o.p) : Calls Try.prog 13 #[arV b, .int .i64 a, .int .i64 k] w fun e w' => e = .returned (.tuple #[.int .i64 (bif bp then (o.ps.getD k.toNat 0 : Nat) else 0), .int .i64 (bif bp then 0 else 71)]) ∧ Calm w w' := by
  rcases hk with ⟨rfl, h1, h2⟩ | ⟨rfl, h1⟩
  · obtain ⟨K, rfl⟩ := Int.eq_ofNat_of_zero_le h1
    exact at_ptr h ho (by omega)
  · exact at_ptr_no h ho h1

theorem at_num_if {bp : Bool} {k : Int} (hk : Has bp k o.d) : Calls Try.prog 14 #[arV b, .int .i64 a, .int .i64 k] w fun e w' => e = .returned (.tuple #[.int .i64 (bif bp then zt (o.ns.getD k.toNat 0) else 0), .int .i64 (bif bp then 0 else 71)]) ∧ Calm w w' := by
  rcases hk with ⟨rfl, h1, h2⟩ | ⟨rfl, h1⟩
  · obtain ⟨K, rfl⟩ := Int.eq_ofNat_of_zero_le h1
    exact at_num h ho (by omega)
  · exact at_num_no h ho h1

theorem at_setptr_if {bp : Bool} {k : Int} {v : Nat} (hk : Has bp k o.p) (hv : v ≤ 131072) : Calls Try.prog 8 #[arV b, .int .i64 a, .int .i64 k, .int .i64 v] w fun e w' => e = .returned (.int .i64 (bif bp then 0 else 71)) ∧ Ar w' b c (bif bp then xs.set (a + 3 + k.toNat) v else xs) ∧ Fr (fun k => k = c) w w' := by
  rcases hk with ⟨rfl, h1, h2⟩ | ⟨rfl, h1⟩
  · obtain ⟨K, rfl⟩ := Int.eq_ofNat_of_zero_le h1
    exact at_setptr h ho (by omega) hv
  · exact (at_setptr_no h ho h1).mono fun e w' ⟨he, hc⟩ => ⟨he, h.calm hc, hc.any⟩

theorem at_setnum_if {bp : Bool} {k v : Int} (hk : Has bp k o.d) (hv : I64 v) : Calls Try.prog 9 #[arV b, .int .i64 a, .int .i64 k, .int .i64 v] w fun e w' => e = .returned (.int .i64 (bif bp then 0 else 71)) ∧ Ar w' b c (bif bp then xs.set (a + 3 + o.p + k.toNat) (zg v) else xs) ∧ Fr (fun k => k = c) w w' := by
  rcases hk with ⟨rfl, h1, h2⟩ | ⟨rfl, h1⟩
  · obtain ⟨K, rfl⟩ := Int.eq_ofNat_of_zero_le h1
    exact at_setnum h ho (by omega) hv
  · exact (at_setnum_no h ho h1).mono fun e w' ⟨he, hc⟩ => ⟨he, h.calm hc, hc.any⟩
end

theorem Has.at_ptr {xs : List Nat} {a : Nat} {o : Ob} (ho : At xs a o) {bp : Bool} {k : Int} {v : Nat} (hk : Has bp k o.p) (hv : v ≤ 131072) :
    At (bif bp then xs.set (a + 3 + k.toNat) v else xs) a (bif bp then { o with ps := o.ps.set k.toNat v } else o) := by
  rcases hk with ⟨rfl, h1, h2⟩ | ⟨rfl, h1⟩
  · exact ho.setPtr (by omega) hv
  · exact ho
theorem Has.at_num {xs : List Nat} {a : Nat} {o : Ob} (ho : At xs a o) {bp : Bool} {k v : Int} (hk : Has bp k o.d) (hv : I64 v) :
    At (bif bp then xs.set (a + 3 + o.p + k.toNat) (zg v) else xs) a (bif bp then { o with ns := o.ns.set k.toNat (zg v) } else o) := by
  rcases hk with ⟨rfl, h1, h2⟩ | ⟨rfl, h1⟩
  · exact ho.setNum (by omega) (zg_lt hv)
  · exact ho
theorem Has.lt {k : Int} {n : Nat} (h1 : 0 ≤ k) (h2 : k < n) : Has true k n := .inl ⟨rfl, h1, h2⟩
theorem Has.neg {k : Int} {n : Nat} (h1 : k < 0) : Has false k n := .inr ⟨rfl, .inl h1⟩
theorem Has.ge {k : Int} {n : Nat} (h1 : (n : Int) ≤ k) : Has false k n := .inr ⟨rfl, .inr h1⟩

end Go.Proofs.Ytoonimdohkbfgaa
