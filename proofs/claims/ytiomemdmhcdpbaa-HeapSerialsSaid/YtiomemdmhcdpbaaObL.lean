/- Objects by their words: what sets of words do to them. Plain lists, no program. -/
import Derived.Test.YtiomemdmhcdpbaaObject
set_option linter.unusedSimpArgs false
set_option linter.unusedVariables false
namespace Go.Proofs.Ytiomemdmhcdpbaa

/-- An object: its shape, whether it is freed, its second word, its serial, its pointers, its numbers as words. -/
structure Ob where
  p : Nat
  d : Nat
  wk : Bool
  fn : Bool
  fr : Bool
  snd : Nat
  ser : Nat
  ps : List Nat
  ns : List Nat

/-- Its words. -/
def Ob.ws (o : Ob) : List Nat := hd o.p o.d o.wk o.fn o.fr :: o.snd :: o.ser :: (o.ps ++ o.ns)
def Ob.size (o : Ob) : Nat := 3 + o.p + o.d

structure Ob.Ok (o : Ob) : Prop where
  sh : okS o.p o.d o.wk o.fn
  lp : o.ps.length = o.p
  ln : o.ns.length = o.d
  ser : o.ser ≤ 1099511627776
  ps : ∀ x ∈ o.ps, x ≤ 131072
  ns : ∀ x ∈ o.ns, x < 18446744073709551616

theorem Ob.ws_length {o : Ob} (h : o.Ok) : o.ws.length = o.size := by
  simp [Ob.ws, Ob.size, h.lp, h.ln]; omega

/-- The object o lies at a place. -/
structure At (xs : List Nat) (a : Nat) (o : Ob) : Prop where
  ok : o.Ok
  room : a + o.size ≤ xs.length
  word : ∀ i, i < o.size → xs.getD (a + i) 0 = o.ws.getD i 0

theorem At.isObj {xs : List Nat} {a : Nat} {o : Ob} (h : At xs a o) : IsObj xs a o.p o.d o.wk o.fn o.fr :=
  ⟨h.ok.sh, by have := h.room; simp only [Ob.size] at this; omega, by simpa [Ob.ws] using h.word 0 (by simp [Ob.size]; omega)⟩

theorem At.snd {xs : List Nat} {a : Nat} {o : Ob} (h : At xs a o) : xs.getD (a + 1) 0 = o.snd := by
  simpa [Ob.ws] using h.word 1 (by simp [Ob.size]; omega)
theorem At.ser {xs : List Nat} {a : Nat} {o : Ob} (h : At xs a o) : xs.getD (a + 2) 0 = o.ser := by
  simpa [Ob.ws] using h.word 2 (by simp [Ob.size]; omega)
theorem Ob.ws_ptr {o : Ob} (h : o.Ok) {i : Nat} (hi : i < o.p) : o.ws.getD (3 + i) 0 = o.ps.getD i 0 := by
  have hl := h.lp
  rw [Nat.add_comm 3 i]
  simp [Ob.ws, List.getD, List.getElem?_append, show i < o.ps.length by omega]
theorem Ob.ws_num {o : Ob} (h : o.Ok) {i : Nat} (hi : i < o.d) : o.ws.getD (3 + o.p + i) 0 = o.ns.getD i 0 := by
  have hl := h.lp
  rw [show 3 + o.p + i = (o.p + i) + 3 by omega]
  simp [Ob.ws, List.getD, List.getElem?_append, show ¬ o.p + i < o.ps.length by omega, show o.p + i - o.ps.length = i by omega]
theorem At.ptr {xs : List Nat} {a : Nat} {o : Ob} (h : At xs a o) {i : Nat} (hi : i < o.p) : xs.getD (a + 3 + i) 0 = o.ps.getD i 0 := by
  have := h.word (3 + i) (by simp only [Ob.size]; omega)
  rw [Ob.ws_ptr h.ok hi] at this
  rwa [← Nat.add_assoc] at this
theorem At.num {xs : List Nat} {a : Nat} {o : Ob} (h : At xs a o) {i : Nat} (hi : i < o.d) : xs.getD (a + 3 + o.p + i) 0 = o.ns.getD i 0 := by
  have := h.word (3 + o.p + i) (by simp only [Ob.size]; omega)
  rw [Ob.ws_num h.ok hi] at this
  rwa [show a + (3 + o.p + i) = a + 3 + o.p + i by omega] at this
theorem Ob.Ok.ptr {o : Ob} (h : o.Ok) {i : Nat} (hi : i < o.p) : o.ps.getD i 0 ≤ 131072 := by
  have hl := h.lp
  have hi' : i < o.ps.length := by omega
  simpa [List.getD, hi'] using h.ps o.ps[i] (List.getElem_mem _)
theorem Ob.Ok.num {o : Ob} (h : o.Ok) {i : Nat} (hi : i < o.d) : o.ns.getD i 0 < 18446744073709551616 := by
  have hl := h.ln
  have hi' : i < o.ns.length := by omega
  simpa [List.getD, hi'] using h.ns o.ns[i] (List.getElem_mem _)

theorem getD_set (xs : List Nat) (i j v : Nat) : (xs.set i v).getD j 0 = if i = j ∧ i < xs.length then v else xs.getD j 0 := by
  simp only [List.getD, List.getElem?_set]
  by_cases h : i = j
  · subst h
    by_cases h2 : i < xs.length
    · simp [h2]
    · simp [h2]
  · simp [h]

/-- Sets of words that lie elsewhere. -/
theorem At.far {xs : List Nat} {a : Nat} {o : Ob} (h : At xs a o) {k v : Nat} (hk : k < a ∨ a + o.size ≤ k) : At (xs.set k v) a o := by
  refine ⟨h.ok, by rw [List.length_set]; exact h.room, fun i hi => ?_⟩
  rw [getD_set, if_neg (by omega)]
  exact h.word i hi

/-- Whatever words agree. -/
theorem At.of_eq {xs ys : List Nat} {a b : Nat} {o : Ob} (h : At xs a o) (hl : b + o.size ≤ ys.length) (he : ∀ i, i < o.size → ys.getD (b + i) 0 = xs.getD (a + i) 0) : At ys b o :=
  ⟨h.ok, hl, fun i hi => (he i hi).trans (h.word i hi)⟩

theorem At.setPtr {xs : List Nat} {a : Nat} {o : Ob} (h : At xs a o) {i v : Nat} (hi : i < o.p) (hv : v ≤ 131072) : At (xs.set (a + 3 + i) v) a { o with ps := o.ps.set i v } := by
  have hl := h.ok.lp
  have hln := h.ok.ln
  have hr := h.room
  refine ⟨⟨h.ok.sh, by simpa using hl, hln, h.ok.ser, fun x hx => ?_, h.ok.ns⟩, by rw [List.length_set]; exact hr, fun j hj => ?_⟩
  · rcases List.mem_or_eq_of_mem_set hx with hx | rfl
    · exact h.ok.ps x hx
    · exact hv
  · have hj' : j < o.size := hj
    have hw := h.word j hj'
    simp only [Ob.size] at hr hj'
    rw [getD_set]
    by_cases hj3 : 3 + i = j
    · subst hj3
      rw [if_pos (by omega)]
      have e : 3 + i = i + 1 + 1 + 1 := by omega
      rw [e]
      simp [Ob.ws, List.getD, List.getElem?_append, show i < o.ps.length by omega]
    · rw [if_neg (by omega), hw]
      match j, hj3 with
      | 0, _ => simp [Ob.ws]
      | 1, _ => simp [Ob.ws]
      | 2, _ => simp [Ob.ws]
      | j + 3, hj3 =>
        simp only [Ob.ws, List.getD, List.getElem?_cons_succ, List.getElem?_append, List.length_set, List.getElem?_set]
        by_cases h1 : j < o.ps.length
        · rw [if_pos h1, if_pos h1, if_neg (by omega)]
        · rw [if_neg h1, if_neg h1]

theorem At.setNum {xs : List Nat} {a : Nat} {o : Ob} (h : At xs a o) {i v : Nat} (hi : i < o.d) (hv : v < 18446744073709551616) : At (xs.set (a + 3 + o.p + i) v) a { o with ns := o.ns.set i v } := by
  have hl := h.ok.lp
  have hln := h.ok.ln
  have hr := h.room
  refine ⟨⟨h.ok.sh, hl, by simpa using hln, h.ok.ser, h.ok.ps, fun x hx => ?_⟩, by rw [List.length_set]; exact hr, fun j hj => ?_⟩
  · rcases List.mem_or_eq_of_mem_set hx with hx | rfl
    · exact h.ok.ns x hx
    · exact hv
  · have hj' : j < o.size := hj
    have hw := h.word j hj'
    simp only [Ob.size] at hr hj'
    rw [getD_set]
    by_cases hj3 : 3 + o.p + i = j
    · subst hj3
      rw [if_pos (by omega)]
      have e : 3 + o.p + i = (o.p + i) + 1 + 1 + 1 := by omega
      rw [e]
      simp [Ob.ws, List.getD, List.getElem?_append, show ¬ o.p + i < o.ps.length by omega, show o.p + i - o.ps.length = i by omega, show i < o.ns.length by omega]
    · rw [if_neg (by omega), hw]
      match j, hj3 with
      | 0, _ => simp [Ob.ws]
      | 1, _ => simp [Ob.ws]
      | 2, _ => simp [Ob.ws]
      | j + 3, hj3 =>
        simp only [Ob.ws, List.getD, List.getElem?_cons_succ, List.getElem?_append, List.length_set, List.getElem?_set]
        by_cases h1 : j < o.ps.length
        · rw [if_pos h1, if_pos h1]
        · rw [if_neg h1, if_neg h1, if_neg (by omega)]

theorem At.setHead {xs : List Nat} {a : Nat} {o : Ob} (h : At xs a o) (fr' : Bool) : At (xs.set a (hd o.p o.d o.wk o.fn fr')) a { o with fr := fr' } := by
  have hr := h.room
  refine ⟨⟨h.ok.sh, h.ok.lp, h.ok.ln, h.ok.ser, h.ok.ps, h.ok.ns⟩, by rw [List.length_set]; exact hr, fun j hj => ?_⟩
  have hj' : j < o.size := hj
  have hw := h.word j hj'
  rw [getD_set]
  simp only [Ob.size] at hr
  match j with
  | 0 => rw [if_pos (by omega)]; simp [Ob.ws]
  | j + 1 => rw [if_neg (by omega), hw]; simp [Ob.ws]

theorem At.setSnd {xs : List Nat} {a : Nat} {o : Ob} (h : At xs a o) (v : Nat) : At (xs.set (a + 1) v) a { o with snd := v } := by
  have hr := h.room
  refine ⟨⟨h.ok.sh, h.ok.lp, h.ok.ln, h.ok.ser, h.ok.ps, h.ok.ns⟩, by rw [List.length_set]; exact hr, fun j hj => ?_⟩
  have hj' : j < o.size := hj
  have hw := h.word j hj'
  rw [getD_set]
  simp only [Ob.size] at hr
  match j with
  | 0 => rw [if_neg (by omega), hw]; simp [Ob.ws]
  | 1 => rw [if_pos (by omega)]; simp [Ob.ws]
  | j + 2 => rw [if_neg (by omega), hw]; simp [Ob.ws]

/-- An object that was just laid. -/
def Ob.new (p d : Nat) (wk fn : Bool) (ser : Nat) : Ob := ⟨p, d, wk, fn, false, 0, ser, List.replicate p 0, List.replicate d 0⟩
theorem Ob.new_ok {p d : Nat} {wk fn : Bool} {ser : Nat} (h : okS p d wk fn) (hs : ser ≤ 1099511627776) : (Ob.new p d wk fn ser).Ok :=
  ⟨h, by simp [Ob.new], by simp [Ob.new], hs, fun x hx => by simp [Ob.new] at hx; omega, fun x hx => by simp [Ob.new] at hx; omega⟩

theorem made_length (xs : List Nat) (a p d : Nat) (wk fn : Bool) (ser : Nat) : (made xs a p d wk fn ser).length = xs.length := by
  simp [made, fl_length]

theorem made_getD {xs : List Nat} {a p d : Nat} {wk fn : Bool} {ser : Nat} (hr : a + (3 + p + d) ≤ xs.length) (j : Nat) :
    (made xs a p d wk fn ser).getD j 0 = if j = a then hd p d wk fn false else if j = a + 2 then ser else if a ≤ j ∧ j < a + (3 + p + d) then 0 else xs.getD j 0 := by
  have hl : (fl xs a 0 (3 + p + d)).length = xs.length := fl_length _ _ _ _
  simp only [made]
  rw [getD_set, getD_set, getD_set, fl_getD _ _ _ _ _ hr]
  simp only [List.length_set, hl]
  by_cases h1 : j = a
  · subst h1
    rw [if_neg (by omega), if_neg (by omega), if_pos (by omega), if_pos rfl]
  · rw [if_neg h1]
    by_cases h2 : j = a + 2
    · subst h2
      rw [if_pos (by omega), if_pos rfl]
    · rw [if_neg h2, if_neg (by omega)]
      by_cases h3 : j = a + 1
      · subst h3
        rw [if_pos (by omega), if_pos (by omega)]
      · rw [if_neg (by omega), if_neg (by omega)]

theorem made_at {xs : List Nat} {a p d : Nat} {wk fn : Bool} {ser : Nat} (h : okS p d wk fn) (hs : ser ≤ 1099511627776) (hr : a + (3 + p + d) ≤ xs.length) : At (made xs a p d wk fn ser) a (Ob.new p d wk fn ser) := by
  refine ⟨Ob.new_ok h hs, by rw [made_length]; exact hr, fun i hi => ?_⟩
  have hi' : i < 3 + p + d := hi
  rw [made_getD hr]
  match i with
  | 0 => simp [Ob.ws, Ob.new]
  | 1 => rw [if_neg (by omega), if_neg (by omega), if_pos (by omega)]; simp [Ob.ws, Ob.new]
  | 2 => simp [Ob.ws, Ob.new]
  | i + 3 =>
    rw [if_neg (by omega), if_neg (by omega), if_pos (by omega)]
    simp only [Ob.ws, Ob.new, List.getD, List.getElem?_cons_succ, List.getElem?_append, List.getElem?_replicate, List.length_replicate]
    by_cases h1 : i < p
    · simp [h1]
    · simp [h1, show i - p < d by omega]

theorem made_far {xs : List Nat} {a p d : Nat} {wk fn : Bool} {ser : Nat} (hr : a + (3 + p + d) ≤ xs.length) {b : Nat} {o : Ob} (h : At xs b o) (hb : b + o.size ≤ a ∨ a + (3 + p + d) ≤ b) : At (made xs a p d wk fn ser) b o := by
  refine h.of_eq (by rw [made_length]; exact h.room) fun i hi => ?_
  rw [made_getD hr, if_neg (by omega), if_neg (by omega), if_neg (by omega)]

end Go.Proofs.Ytiomemdmhcdpbaa
