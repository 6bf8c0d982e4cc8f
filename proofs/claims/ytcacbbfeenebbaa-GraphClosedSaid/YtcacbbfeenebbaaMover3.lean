/- What the functions of package mover return: Strong, SetStrong, words. -/
import Derived.Test.YtcacbbfeenebbaaMover2
import Derived.OwnWalk
set_option linter.unusedSimpArgs false
set_option linter.unusedVariables false
namespace Go.Proofs.Ytcacbbfeenebbaa
open Go.RowKit Go.Shelf

theorem info_int : (Try.prog.info? 3).map (fun i => (i.zero, i.size, i.bytes)) = some (some (.int .i64 0), 1, 8) := by kernel_rfl

/-- Ints, as values. -/
abbrev iVs (l : List Int) : List Value := l.map (Value.int .i64)
/-- Places, as ints. -/
abbrev nI (l : List Nat) : List Int := l.map fun x : Nat => (x : Int)

/-- A slice of ints of the call's own. -/
def ORow (w : World) (base : Nat) (v : Value) (l : List Int) : Prop := w.ownsRow base 3 1 v l.length (iVs l)
theorem ORow.nil (w : World) (base : Nat) : ORow w base (.slice none 0 0) [] := World.ownsRow_nil _ _ _ _
theorem ORow.row {w : World} {base : Nat} {v : Value} {l : List Int} (h : ORow w base v l) : Row w v (iVs l) := Row.of_owns h
theorem ORow.fr {S : Nat → Prop} {w w' : World} {base : Nat} {v : Value} {l : List Int} (h : ORow w base v l) (f : Fr S w w') (hs : ∀ k, base ≤ k → ¬ S k) : ORow w' base v l := ownsRow_fr h f hs
theorem ORow.calm {w w' : World} {base : Nat} {v : Value} {l : List Int} (h : ORow w base v l) (f : Calm w w') : ORow w' base v l := ownsRow_fr h f (fun _ _ => id)
theorem ORow.slice {w : World} {base : Nat} {v : Value} {l : List Int} (h : ORow w base v l) : ∃ a c, v = .slice a l.length c := by
  obtain ⟨a, c, h, _⟩ := h.row
  exact ⟨a, c, by simpa using h⟩
theorem ORow.letters {w : World} {base : Nat} {v : Value} {l : List Int} (h : ORow w base v l) : ∃ a n c, v = .slice a n c := by
  obtain ⟨a, c, h⟩ := h.slice
  exact ⟨a, _, c, h⟩
theorem ORow.sliceN {w : World} {base : Nat} {v : Value} {l : List Int} (h : ORow w base v l) {n : Nat} (hn : l.length = n) : ∃ a c, v = .slice a n c := hn ▸ h.slice
theorem ORow.mono {w : World} {base base' : Nat} {v : Value} {l : List Int} (h : ORow w base v l) (hb : base' ≤ base) : ORow w base' v l := by
  refine ⟨h.1, ?_⟩
  rcases h.2 with h | ⟨g, cap, cur, h1, h2, h3⟩
  · exact .inl h
  · exact .inr ⟨g, cap, cur, h1, by omega, h3⟩

/-- An object's strong pointers. -/
def Ob.strong (o : Ob) : List Nat := if o.wk then [] else o.ps
theorem Ob.strong_length {o : Ob} (h : o.Ok) : o.strong.length = if o.wk then 0 else o.p := by
  unfold Ob.strong; split
  · rfl
  · exact h.lp
theorem Ob.strong_le {o : Ob} (h : o.Ok) : o.strong.length ≤ o.p := by
  rw [Ob.strong_length h]; split <;> omega
theorem Ob.strong_get {o : Ob} (h : o.Ok) {k : Nat} (hk : k < o.strong.length) : o.strong.getD k 0 = o.ps.getD k 0 := by
  have := Ob.strong_length h
  unfold Ob.strong at *
  split
  · rename_i hw; rw [if_pos hw] at hk; simp at hk
  · rfl

theorem strcnt_yes (w : World) (o : Ob) (h : o.Ok) :
    Calls Try.prog 71 #[shV o.p o.d o.wk o.fn] w fun e w' => e = .returned (.int .i64 o.strong.length) ∧ Calm w w' := by
  rw [Ob.strong_length h]
  cases hw : o.wk
  all_goals
    go_enter Try.func71, Try.ntmps71
    go_wp2
    go_ret
    exact ⟨rfl, Fr.alloc (Fr.refl _ _) _⟩

theorem take_succ_getD (l : List Nat) {k : Nat} (hk : k < l.length) : l.take (k + 1) = l.take k ++ [l.getD k 0] := by
  rw [List.take_succ_eq_append_getElem hk]; simp [List.getD, hk]

set_option maxRecDepth 4000 in
set_option maxHeartbeats 1000000 in
theorem strong_yes {w : World} {b c : Nat} {xs : List Nat} (h : Ar w b c xs) {a : Nat} {o : Ob} (ho : At xs a o) :
    Calls Try.prog 42 #[arV b, .int .i64 a] w fun e w' => ∃ v, e = .returned (.tuple #[v, .int .i64 0]) ∧ ORow w' w.heap.size v (nI o.strong) ∧ Calm w w' := by
  obtain ⟨i0, hi, hz0, hz1, hz2⟩ := info_parts info_int
  have HA := hid h
  have HO := hid ho
  have p8 := ho.ok.sh.1
  have hsl := Ob.strong_le ho.ok
  have hsg : Hid (∀ k, k < o.strong.length → o.strong.getD k 0 = o.ps.getD k 0) := fun k hk => Ob.strong_get ho.ok hk
  clear h ho
  go_enter Try.func42, Try.ntmps42
  go_wp2_with fail
  refine (at_shape HA.out HO.out).mono ?_
  rintro e w1 ⟨rfl, c1⟩
  have o6 := OwnL.new w1 [.int .i64 o.p, .int .i64 o.d, .bool o.wk, .bool o.fn] 31
  replace c1 := c1.alloc (.cells #[.int .i64 o.p, .int .i64 o.d, .bool o.wk, .bool o.fn] 31)
  have x0 := (o6 0 _ rfl).1
  have x1 := (o6 1 _ rfl).1
  have x2 := (o6 2 _ rfl).1
  have x3 := (o6 3 _ rfl).1
  go_wp2_with fail
  refine (strcnt_yes _ o HO.out.ok).mono ?_
  rintro e w2 ⟨rfl, c2⟩
  replace c1 := c1.trans c2
  clear c2 x0 x1 x2 x3 o6
  obtain ⟨n, hn⟩ : ∃ n, o.strong.length = n := ⟨_, rfl⟩
  rw [hn] at hsl hsg ⊢
  replace hn := hid hn
  go_wp2_with fail
  go_loopw [9, 25] (fun l i wr => ∃ k : Nat, k ≤ n ∧ i = .int .i64 k ∧ Hid (ORow wr w.heap.size l (nI (o.strong.take k))) ∧ Calm w wr) (fun _ i _ => n - (intOf i).toNat)
  case atStart => exact ⟨0, by omega, rfl, ORow.nil _ _, c1⟩
  case round =>
    obtain ⟨k, hk, rfl, hr, ck⟩ := hrel
    rcases Nat.lt_or_ge k n with hlt | hge
    · have e1 := hsg.out k hlt
      have e2 : Hid (nI (o.strong.take (k + 1)) = nI (o.strong.take k) ++ [((o.strong.getD k 0 : Nat) : Int)]) := by show nI (o.strong.take (k + 1)) = _; rw [take_succ_getD o.strong (by rw [hn.out]; exact hlt)]; simp
      have hln : Hid ((nI (o.strong.take k)).length = k) := by show (nI (o.strong.take k)).length = k; simp [hn.out]; omega
      have hq : o.ps.getD k 0 ≤ 131072 := HO.out.ok.ptr (by omega)
      obtain ⟨sa, sn, sc, rfl⟩ := hr.out.letters
      have hap := hid (fun W (cw : Calm wr W) => at_ptr (HA.out.calm (ck.trans cw)) HO.out (i := k) (by omega))
      rw [← e1] at hap hq
      replace e1 := hid e1
      generalize nI (o.strong.take k) = L at *
      generalize o.strong.getD k 0 = q at *
      go_wp2_with fail
      refine (hap.out _ (Fr.refl _ _)).mono ?_
      rintro e w3 ⟨rfl, c3⟩
      have ho3 := hid (hr.out.calm c3)
      have hs3 : Hid (w.heap.size ≤ w3.heap.size) := (ck.trans c3).size
      clear hap
      go_wp2_with (at_builtin; refine wpList_append_own _ rfl _ _ 58 rfl w.heap.size 3 i0 (.int .i64 0) 1 8 Try.underlying58 hi hz0 hz1 hz2 rfl (by decide) _ _ _ rfl (ho3.out.alloc _) ⟨w3.heap.size, 0, none⟩ 1 1 [.int .i64 q] rfl rfl (cell_one_new _ _ _) (by simp [Value.oneCell']) (by have := hln.out; unfold maxLen; omega) (by have := hln.out; omega) (by have := hs3.out; simp; omega) ?_; intro v' w4 hown' hgrow _; obtain ⟨g', cap', rfl⟩ := ownsRow_succ hown'; have hF := hid (Fr.append1 ho3.out hgrow); clear hgrow; replace hown' := hid hown')
      go_roundw
      case rel =>
        refine ⟨k + 1, by omega, by go_num, ?_, (ck.trans c3).join hF.out (fun j h1 h2 => absurd h1 (by omega))⟩
        have := hown'.out
        rw [e2.out]
        show World.ownsRow _ _ _ _ _ _ _
        rw [List.length_append, iVs, List.map_append]
        exact this
      case measure => simp [intOf]; omega
    · obtain rfl : k = n := by omega
      have e3 : Hid (o.strong.take k = o.strong) := List.take_of_length_le (by rw [hn.out]; omega)
      have hln : Hid ((nI (o.strong.take k)).length = k) := by show (nI (o.strong.take k)).length = k; simp [hn.out]
      obtain ⟨sa, sc, rfl⟩ := hr.out.sliceN hln.out
      go_wp2
      refine bodyPost_ret (v := .tuple #[.slice sa k sc, .int .i64 0]) (by simp [results, Try.f42, go_sem]) rfl ⟨_, rfl, ?_, ck⟩
      have := hr.out
      rwa [e3.out] at this

end Go.Proofs.Ytcacbbfeenebbaa
