/- ObjectFields returns true, whatever the input. -/
import Derived.Test.YtcacbbfeenebbaaRow07
set_option linter.unusedSimpArgs false
set_option linter.unusedVariables false
namespace Go.Proofs.Ytcacbbfeenebbaa
open Go.RowKit Go.Shelf

/-- What is told behind both sets. -/
theorem fields_plain {o : Ob} (hok : o.Ok) {bp bd : Bool} {k n : Int} {V : Nat} (H1 : Has bp k o.p) (H2 : Has bd k o.d) :
    (bif bp then (((o.ps.set k.toNat V).getD k.toNat 0 : Nat) : Int) else 0) = (bif bp then (V : Int) else 0) ∧ (bif bd then zt ((o.ns.set k.toNat (zg n)).getD k.toNat 0) else 0) = (bif bd then n else 0) := by
  have h1 := hok.lp
  have h2 := hok.ln
  constructor
  · rcases H1 with ⟨rfl, a, b⟩ | ⟨rfl, _⟩
    · rw [cond_true, cond_true, getD_set, if_pos (by omega)]
    · rfl
  · rcases H2 with ⟨rfl, a, b⟩ | ⟨rfl, _⟩
    · rw [cond_true, cond_true, getD_set, if_pos (by omega), zt_zg]
    · rfl

/-- Which fields are there. -/
def Five (bp bd : Bool) (k : Int) (p d : Nat) : Prop := Has bp k p ∧ Has bd k d ∧ ((decide (0 ≤ k) = false ∧ bp = false ∧ bd = false) ∨ (decide (0 ≤ k) = true ∧ decide (k < p) = bp ∧ decide (k < d) = bd))
theorem five (k : Int) (p d : Nat) : ∃ bp bd, Five bp bd k p d := by
  by_cases h : k < 0
  · exact ⟨false, false, .neg h, .neg h, .inl ⟨by simp; omega, rfl, rfl⟩⟩
  · refine ⟨decide (k < p), decide (k < d), ?_, ?_, .inr ⟨by simp; omega, rfl, rfl⟩⟩
    · by_cases h2 : k < p
      · simp only [h2, decide_true]; exact .lt (by omega) h2
      · simp only [h2, decide_false]; exact .ge (by omega)
    · by_cases h2 : k < d
      · simp only [h2, decide_true]; exact .lt (by omega) h2
      · simp only [h2, decide_false]; exact .ge (by omega)

set_option maxRecDepth 100000 in
set_option maxHeartbeats 4000000 in
theorem objectFields_walk (xs : List Int) (hx : xs.length = 3) (hxb : ∀ x ∈ xs, I64 x) (i : Int) (hi : I64 i) (n : Int) (hn : I64 n) (w : World) :
    Calls Try.prog 4 #[.agg (xs.map (Value.int .i64)).toArray, .int .i64 i, .int .i64 n] w fun e w' => e = .returned (.bool true) ∧ Below w.heap.size w w' := by
  obtain ⟨a0, a1, a2, rfl, A0, A1, A2⟩ := arr3 hx hxb
  clear hx hxb
  simp only [List.map_cons, List.map_nil]
  have rv := pk_range n (n := 99) (by omega)
  have ri := pk_range i (n := 10) (by omega)
  obtain ⟨V, hV⟩ : ∃ V, pk n 99 = V := ⟨_, rfl⟩
  obtain ⟨I, hI⟩ : ∃ I, pk i 10 = I := ⟨_, rfl⟩
  rw [hV] at rv
  rw [hI] at ri
  obtain ⟨rv1, rv2⟩ := rv
  obtain ⟨ri1, ri2⟩ := ri
  obtain ⟨V, rfl⟩ := Int.eq_ofNat_of_zero_le rv1
  have hv : Hid (V ≤ 131072) := by show V ≤ 131072; omega
  replace hV := hid hV
  replace hI := hid hI
  replace A0 := hid A0
  replace A1 := hid A1
  replace A2 := hid A2
  replace hi := hid hi
  replace hn := hid hn
  by_cases par : n.tmod 2 = 0
  · have par' : (n.tmod 2 == 0) = true := by simpa using par
    replace par := hid par
    obtain ⟨k, hk⟩ : ∃ k, I = k + 1 := ⟨I - 1, by omega⟩
    subst hk
    go_enter Try.func4, Try.ntmps4
    go_wp2_with fail
    refine (awake07 _).mono ?_
    rintro e w1 ⟨rfl, c1⟩
    have oa := (OwnL.new w [.int .i64 a0, .int .i64 a1, .int .i64 a2] 22).calm c1
    have s1 := c1.size
    rw [World.size_alloc] at s1
    replace c1 := ((Fr.refl _ w).alloc _).trans c1
    have x0 := (oa 0 _ rfl).1
    have x1 := (oa 1 _ rfl).1
    have x2 := (oa 2 _ rfl).1
    go_wp2_with fail
    refine (row07 a0 a1 a2 a0 a1 a2 A0.out A1.out A2.out A0.out A1.out A2.out _).mono ?_
    rintro e w2 ⟨b, c, p, d, wk, fn, p', d', wk', fn', hok, hok', rfl, ar, c2, lb, lc, ft, ft'⟩
    obtain ⟨rfl, rfl, rfl, rfl⟩ := ft.eq ft'
    clear ft ft' hok' x0 x1 x2 oa
    have hl1 : (made (List.replicate 60 0) 0 p d wk fn 1).length = 60 := by rw [made_length]; simp
    have p8 := hok.1
    have d8 := hok.2.1
    have at1 := made_at (xs := made (List.replicate 60 0) 0 p d wk fn 1) (a := 3 + p + d) (ser := 2) hok (by omega) (by rw [hl1]; omega)
    generalize made (made (List.replicate 60 0) 0 p d wk fn 1) (3 + p + d) p d wk fn 2 = X at *
    clear hl1
    obtain ⟨N, hN⟩ : ∃ N, 3 + p + d = N := ⟨_, rfl⟩
    rw [hN] at at1 ⊢
    have hcl := (ar.cell (k := N) (by have := at1.room; simp only [Ob.size, Ob.new] at this; omega)).lt
    have o9 := (OwnL.new w2 [.int .i64 p, .int .i64 d, .bool wk, .bool fn] 31).alloc (.cells #[.int .i64 p, .int .i64 d, .bool wk, .bool fn] 31)
    replace ar := ar.calm (((Fr.refl _ _).alloc (.cells #[.int .i64 p, .int .i64 d, .bool wk, .bool fn] 31)).alloc (.cells #[.int .i64 p, .int .i64 d, .bool wk, .bool fn] 31))
    have kc := ((c1.trans c2).alloc (.cells #[.int .i64 p, .int .i64 d, .bool wk, .bool fn] 31)).alloc (.cells #[.int .i64 p, .int .i64 d, .bool wk, .bool fn] 31)
    have s2 := c2.size
    clear c1 c2
    obtain ⟨bp, bd, H1, H2, hcase⟩ := five k p d
    have hfin := fields_plain (k := k) (n := n) (V := V) (Ob.new_ok hok (by omega : 2 ≤ 1099511627776)) (show Has bp k (Ob.new p d wk fn 2).p from H1) (show Has bd k (Ob.new p d wk fn 2).d from H2)
    replace at1 := hid at1
    replace hN := hid hN
    replace hok := hid hok
    replace hfin := hid hfin
    replace H1 := hid H1
    replace H2 := hid H2
    have x0 := (o9 0 _ rfl).1
    have x1 := (o9 1 _ rfl).1
    have x2 := (o9 2 _ rfl).1
    have x3 := (o9 3 _ rfl).1
    go_wp2_with fail
    refine (pick07 i 10 _ hi.out (by omega)).mono ?_
    rintro e w' ⟨rfl, rfl⟩
    rw [hI.out]
    obtain ⟨W, hW⟩ : ∃ W, (w2.alloc (.cells #[.int .i64 p, .int .i64 d, .bool wk, .bool fn] 31)).alloc (.cells #[.int .i64 p, .int .i64 d, .bool wk, .bool fn] 31) = W := ⟨_, rfl⟩
    rw [hW] at ar kc x0 x1 x2 x3 ⊢
    clear hW
    clear o9
    have hB0 : w.heap.size < c := by omega
    rcases hcase with ⟨e1, rfl, rfl⟩ | ⟨e1, e2, e3⟩
    ·
      have hB := hid hB0
      clear hB0
      go_wp2_with fail
      refine (pick07 n 99 _ hn.out (by omega)).mono ?_
      rintro e w' ⟨rfl, rfl⟩
      rw [hV.out]
      go_wp2_with fail
      refine (at_setptr_if ar at1.out H1.out hv.out).mono ?_
      rintro e w3 ⟨rfl, ar3, f3⟩
      have at2 := hid (Has.at_ptr at1.out H1.out hv.out)
      replace kc := kc.join f3 (fun j hj (e : j = c) => by have := hB.out; omega)
      clear f3
      go_wp2_with fail
      refine (at_setnum_if ar3 at2.out H2.out hn.out).mono ?_
      rintro e w4 ⟨rfl, ar4, f4⟩
      have at3 := hid (Has.at_num at2.out H2.out hn.out)
      replace kc := kc.join f4 (fun j hj (e : j = c) => by have := hB.out; omega)
      clear f4 ar3
      go_wp2_with fail
      refine (at_ptr_if ar4 at3.out H1.out).mono ?_
      rintro e w5 ⟨he, c5⟩
      replace he := he.trans (congrArg (fun x => Ending.returned (.tuple #[.int .i64 x, .int .i64 (bif _ then 0 else 71)])) hfin.out.1)
      replace kc := kc.trans c5
      replace ar4 := ar4.calm c5
      simp only [cond_true, cond_false] at he
      subst he
      clear c5
      go_wp2_with fail
      refine (at_num_if ar4 at3.out H2.out).mono ?_
      rintro e w6 ⟨he, c6⟩
      replace he := he.trans (congrArg (fun x => Ending.returned (.tuple #[.int .i64 x, .int .i64 (bif _ then 0 else 71)])) hfin.out.2)
      replace kc := kc.trans c6
      simp only [cond_true, cond_false] at he
      subst he
      clear c6 ar4
      first | (go_wp2_with fail; refine (pick07 n 99 _ hn.out (by omega)).mono ?_; rintro e w' ⟨rfl, rfl⟩; rw [hV.out]; go_wp2; go_ret; exact ⟨rfl, Calm.below kc⟩) | (go_wp2; go_ret; exact ⟨rfl, Calm.below kc⟩)
    · cases bp <;> cases bd
      all_goals
        have hB := hid hB0
        clear hB0
        go_wp2_with fail
        refine (pick07 n 99 _ hn.out (by omega)).mono ?_
        rintro e w' ⟨rfl, rfl⟩
        rw [hV.out]
        go_wp2_with fail
        refine (at_setptr_if ar at1.out H1.out hv.out).mono ?_
        rintro e w3 ⟨rfl, ar3, f3⟩
        have at2 := hid (Has.at_ptr at1.out H1.out hv.out)
        replace kc := kc.join f3 (fun j hj (e : j = c) => by have := hB.out; omega)
        clear f3
        go_wp2_with fail
        refine (at_setnum_if ar3 at2.out H2.out hn.out).mono ?_
        rintro e w4 ⟨rfl, ar4, f4⟩
        have at3 := hid (Has.at_num at2.out H2.out hn.out)
        replace kc := kc.join f4 (fun j hj (e : j = c) => by have := hB.out; omega)
        clear f4 ar3
        go_wp2_with fail
        refine (at_ptr_if ar4 at3.out H1.out).mono ?_
        rintro e w5 ⟨he, c5⟩
        replace he := he.trans (congrArg (fun x => Ending.returned (.tuple #[.int .i64 x, .int .i64 (bif _ then 0 else 71)])) hfin.out.1)
        replace kc := kc.trans c5
        replace ar4 := ar4.calm c5
        simp only [cond_true, cond_false] at he
        subst he
        clear c5
        go_wp2_with fail
        refine (at_num_if ar4 at3.out H2.out).mono ?_
        rintro e w6 ⟨he, c6⟩
        replace he := he.trans (congrArg (fun x => Ending.returned (.tuple #[.int .i64 x, .int .i64 (bif _ then 0 else 71)])) hfin.out.2)
        replace kc := kc.trans c6
        simp only [cond_true, cond_false] at he
        subst he
        clear c6 ar4
        first | (go_wp2_with fail; refine (pick07 n 99 _ hn.out (by omega)).mono ?_; rintro e w' ⟨rfl, rfl⟩; rw [hV.out]; go_wp2; go_ret; exact ⟨rfl, Calm.below kc⟩) | (go_wp2; go_ret; exact ⟨rfl, Calm.below kc⟩)
  · have par' : (n.tmod 2 == 0) = false := by simpa using par
    replace par := hid par
    go_enter Try.func4, Try.ntmps4
    go_wp2_with fail
    refine (awake07 _).mono ?_
    rintro e w1 ⟨rfl, c1⟩
    have oa := (OwnL.new w [.int .i64 a0, .int .i64 a1, .int .i64 a2] 22).calm c1
    have s1 := c1.size
    rw [World.size_alloc] at s1
    replace c1 := ((Fr.refl _ w).alloc _).trans c1
    have x0 := (oa 0 _ rfl).1
    have x1 := (oa 1 _ rfl).1
    have x2 := (oa 2 _ rfl).1
    go_wp2_with fail
    refine (row07 a0 a1 a2 a0 a1 a2 A0.out A1.out A2.out A0.out A1.out A2.out _).mono ?_
    rintro e w2 ⟨b, c, p, d, wk, fn, p', d', wk', fn', hok, hok', rfl, ar, c2, lb, lc, ft, ft'⟩
    obtain ⟨rfl, rfl, rfl, rfl⟩ := ft.eq ft'
    clear ft ft' hok' x0 x1 x2 oa
    have hl1 : (made (List.replicate 60 0) 0 p d wk fn 1).length = 60 := by rw [made_length]; simp
    have p8 := hok.1
    have d8 := hok.2.1
    have at1 := made_at (xs := made (List.replicate 60 0) 0 p d wk fn 1) (a := 3 + p + d) (ser := 2) hok (by omega) (by rw [hl1]; omega)
    generalize made (made (List.replicate 60 0) 0 p d wk fn 1) (3 + p + d) p d wk fn 2 = X at *
    clear hl1
    obtain ⟨N, hN⟩ : ∃ N, 3 + p + d = N := ⟨_, rfl⟩
    rw [hN] at at1 ⊢
    have hcl := (ar.cell (k := N) (by have := at1.room; simp only [Ob.size, Ob.new] at this; omega)).lt
    have o9 := (OwnL.new w2 [.int .i64 p, .int .i64 d, .bool wk, .bool fn] 31).alloc (.cells #[.int .i64 p, .int .i64 d, .bool wk, .bool fn] 31)
    replace ar := ar.calm (((Fr.refl _ _).alloc (.cells #[.int .i64 p, .int .i64 d, .bool wk, .bool fn] 31)).alloc (.cells #[.int .i64 p, .int .i64 d, .bool wk, .bool fn] 31))
    have kc := ((c1.trans c2).alloc (.cells #[.int .i64 p, .int .i64 d, .bool wk, .bool fn] 31)).alloc (.cells #[.int .i64 p, .int .i64 d, .bool wk, .bool fn] 31)
    have s2 := c2.size
    clear c1 c2
    obtain ⟨bp, bd, H1, H2, hcase⟩ := five i p d
    have hfin := fields_plain (k := i) (n := n) (V := V) (Ob.new_ok hok (by omega : 2 ≤ 1099511627776)) (show Has bp i (Ob.new p d wk fn 2).p from H1) (show Has bd i (Ob.new p d wk fn 2).d from H2)
    replace at1 := hid at1
    replace hN := hid hN
    replace hok := hid hok
    replace hfin := hid hfin
    replace H1 := hid H1
    replace H2 := hid H2
    have x0 := (o9 0 _ rfl).1
    have x1 := (o9 1 _ rfl).1
    have x2 := (o9 2 _ rfl).1
    have x3 := (o9 3 _ rfl).1
    clear o9
    have hB0 : w.heap.size < c := by omega
    rcases hcase with ⟨e1, rfl, rfl⟩ | ⟨e1, e2, e3⟩
    ·
      have hB := hid hB0
      clear hB0
      go_wp2_with fail
      refine (pick07 n 99 _ hn.out (by omega)).mono ?_
      rintro e w' ⟨rfl, rfl⟩
      rw [hV.out]
      go_wp2_with fail
      refine (at_setptr_if ar at1.out H1.out hv.out).mono ?_
      rintro e w3 ⟨rfl, ar3, f3⟩
      have at2 := hid (Has.at_ptr at1.out H1.out hv.out)
      replace kc := kc.join f3 (fun j hj (e : j = c) => by have := hB.out; omega)
      clear f3
      go_wp2_with fail
      refine (at_setnum_if ar3 at2.out H2.out hn.out).mono ?_
      rintro e w4 ⟨rfl, ar4, f4⟩
      have at3 := hid (Has.at_num at2.out H2.out hn.out)
      replace kc := kc.join f4 (fun j hj (e : j = c) => by have := hB.out; omega)
      clear f4 ar3
      go_wp2_with fail
      refine (at_ptr_if ar4 at3.out H1.out).mono ?_
      rintro e w5 ⟨he, c5⟩
      replace he := he.trans (congrArg (fun x => Ending.returned (.tuple #[.int .i64 x, .int .i64 (bif _ then 0 else 71)])) hfin.out.1)
      replace kc := kc.trans c5
      replace ar4 := ar4.calm c5
      simp only [cond_true, cond_false] at he
      subst he
      clear c5
      go_wp2_with fail
      refine (at_num_if ar4 at3.out H2.out).mono ?_
      rintro e w6 ⟨he, c6⟩
      replace he := he.trans (congrArg (fun x => Ending.returned (.tuple #[.int .i64 x, .int .i64 (bif _ then 0 else 71)])) hfin.out.2)
      replace kc := kc.trans c6
      simp only [cond_true, cond_false] at he
      subst he
      clear c6 ar4
      first | (go_wp2_with fail; refine (pick07 n 99 _ hn.out (by omega)).mono ?_; rintro e w' ⟨rfl, rfl⟩; rw [hV.out]; go_wp2; go_ret; exact ⟨rfl, Calm.below kc⟩) | (go_wp2; go_ret; exact ⟨rfl, Calm.below kc⟩)
    · cases bp <;> cases bd
      all_goals
        have hB := hid hB0
        clear hB0
        go_wp2_with fail
        refine (pick07 n 99 _ hn.out (by omega)).mono ?_
        rintro e w' ⟨rfl, rfl⟩
        rw [hV.out]
        go_wp2_with fail
        refine (at_setptr_if ar at1.out H1.out hv.out).mono ?_
        rintro e w3 ⟨rfl, ar3, f3⟩
        have at2 := hid (Has.at_ptr at1.out H1.out hv.out)
        replace kc := kc.join f3 (fun j hj (e : j = c) => by have := hB.out; omega)
        clear f3
        go_wp2_with fail
        refine (at_setnum_if ar3 at2.out H2.out hn.out).mono ?_
        rintro e w4 ⟨rfl, ar4, f4⟩
        have at3 := hid (Has.at_num at2.out H2.out hn.out)
        replace kc := kc.join f4 (fun j hj (e : j = c) => by have := hB.out; omega)
        clear f4 ar3
        go_wp2_with fail
        refine (at_ptr_if ar4 at3.out H1.out).mono ?_
        rintro e w5 ⟨he, c5⟩
        replace he := he.trans (congrArg (fun x => Ending.returned (.tuple #[.int .i64 x, .int .i64 (bif _ then 0 else 71)])) hfin.out.1)
        replace kc := kc.trans c5
        replace ar4 := ar4.calm c5
        simp only [cond_true, cond_false] at he
        subst he
        clear c5
        go_wp2_with fail
        refine (at_num_if ar4 at3.out H2.out).mono ?_
        rintro e w6 ⟨he, c6⟩
        replace he := he.trans (congrArg (fun x => Ending.returned (.tuple #[.int .i64 x, .int .i64 (bif _ then 0 else 71)])) hfin.out.2)
        replace kc := kc.trans c6
        simp only [cond_true, cond_false] at he
        subst he
        clear c6 ar4
        first | (go_wp2_with fail; refine (pick07 n 99 _ hn.out (by omega)).mono ?_; rintro e w' ⟨rfl, rfl⟩; rw [hV.out]; go_wp2; go_ret; exact ⟨rfl, Calm.below kc⟩) | (go_wp2; go_ret; exact ⟨rfl, Calm.below kc⟩)

end Go.Proofs.Ytcacbbfeenebbaa
