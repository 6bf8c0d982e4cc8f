/- What package graph's come does: to, index. -/
import Derived.Test.YtiomemdmhcdpbaaIRow
import Derived.Test.YtiomemdmhcdpbaaGraphL
import Derived.Test.YtiomemdmhcdpbaaTail
set_option linter.unusedSimpArgs false
set_option linter.unusedVariables false
namespace Go.Proofs.Ytiomemdmhcdpbaa
open Go.RowKit Go.Shelf Go.Maps

/-- The map of the orders of L. -/
def OMap (w : World) (m : Nat) (L : List Nat) : Prop := w.ownsMap (H := Unit) Try.prog 3 (plainElem Try.prog 3) m L.length (ordD L)
theorem mlaw : Keyed Try.prog 3 := int_keyed Try.underlying3
theorem zero_i (w : World) : (zeroValue 3).run Try.prog w = .ok (.int .i64 0) w := by kernel_rfl
theorem key_of {n : Int} (h : I64 n) : keyOf Try.prog 3 (.int .i64 n) = some (.int .i64 n) := keyOf_int_mk Try.underlying3 (WalkArith.wf_i64 (by omega))
theorem OMap.fr {S : Nat → Prop} {w w' : World} {m : Nat} {L : List Nat} (h : OMap w m L) (f : Fr S w w') (hs : ¬ S m) : OMap w' m L := by
  obtain ⟨es, clock, hb, r⟩ := h
  exact ⟨es, clock, f.heapAt hb hs, r⟩
theorem OMap.lt {w : World} {m : Nat} {L : List Nat} (h : OMap w m L) : m < w.heap.size := World.ownsMap.lt h

theorem wpList_look_yes {ops : Array Oper} {rest : List Oper} {o : Oper} {a : Act} {Q : Exit → Act → World → Prop} {w : World} (hg : o.guard = none) (m x : Operand) (hop : o.op = Op.lookup 139 m x true)
    (b : Nat) (L : List Nat) (hn : L.Nodup) (hm : a.eval m = .map (some b)) (hown : OMap w b L) (q : Nat) (hq : q ≤ 1000000) (hx : a.eval x = .int .i64 q) (hi : q ∈ L)
    (h : wpList Try.prog ops Q rest (a.put o.dst (.tuple #[.int .i64 (L.idxOf q : Nat), .bool true])) w) : wpList Try.prog ops Q (o :: rest) a w := by
  refine wpList_lookup_own_ok_int w hg m x _ hop 3 3 .i64 mlaw Try.underlying139 Try.underlying3 (zero_i w) b _ _ hm hown _ (.int .i64 q) hx (key_of ⟨by omega, by omega⟩) ?_
  intro c hc hw
  rw [at_ordD hn, if_pos hi] at hc
  rw [has_ordD]
  simp [hi]
  have : c = (L.idxOf q : Nat) := by simpa using hc.symm
  rw [this]; exact h
theorem wpList_look_no {ops : Array Oper} {rest : List Oper} {o : Oper} {a : Act} {Q : Exit → Act → World → Prop} {w : World} (hg : o.guard = none) (m x : Operand) (hop : o.op = Op.lookup 139 m x true)
    (b : Nat) (L : List Nat) (hn : L.Nodup) (hm : a.eval m = .map (some b)) (hown : OMap w b L) (q : Nat) (hq : q ≤ 1000000) (hx : a.eval x = .int .i64 q) (hi : q ∉ L)
    (h : wpList Try.prog ops Q rest (a.put o.dst (.tuple #[.int .i64 0, .bool false])) w) : wpList Try.prog ops Q (o :: rest) a w := by
  refine wpList_lookup_own_ok_int w hg m x _ hop 3 3 .i64 mlaw Try.underlying139 Try.underlying3 (zero_i w) b _ _ hm hown _ (.int .i64 q) hx (key_of ⟨by omega, by omega⟩) ?_
  intro c hc hw
  rw [at_ordD hn, if_neg hi] at hc
  rw [has_ordD]
  simp [hi]
  have : c = 0 := by simpa using hc.symm
  rw [this]; exact h
theorem wpList_omap_put {ops : Array Oper} {rest : List Oper} {o : Oper} {a : Act} {Q : Exit → Act → World → Prop} {w : World} (hg : o.guard = none) (m x v : Operand) (hop : o.op = Op.mapUpdate 139 m x v)
    (b : Nat) (L : List Nat) (hm : a.eval m = .map (some b)) (hown : OMap w b L) (hl : L.length ≤ 1000000) (q : Nat) (hq : q ≤ 1000000) (hx : a.eval x = .int .i64 q) (hv : a.eval v = .int .i64 L.length)
    (h : ∀ w', OMap w' b (L ++ [q]) → Fr (fun k => k = b) w w' → wpList Try.prog ops Q rest (a.put o.dst undef) w') : wpList Try.prog ops Q (o :: rest) a w := by
  refine wpList_mapUpdate_own w hg m x v _ hop 3 3 mlaw Try.underlying139 _ b _ _ hm hown (by unfold maxLen; omega) _ _ (.int .i64 q) hx hv (key_of ⟨by omega, by omega⟩) _ [] (plainElem_int Try.underlying3 (WalkArith.wf_i64 (by omega))) ?_
  intro w' h1 h2
  refine h w' ?_ (Fr.grown (Fr.refl _ _) h2 (fun k hk => .inl (by simpa using hk.symm)))
  unfold OMap
  rw [ordD_snoc, List.length_append]
  exact h1

/-- What one has come to: the struct's block p, its map's block m, its places' slice v, the places. -/
structure Cm (w : World) (p m : Nat) (v : Value) (L : List Nat) : Prop where
  places : Own w p 0 v
  order : Own w p 1 (.map (some m))
  row : ORow w 0 v (nI L)
  map : OMap w m L
  ap : ¬ InB v p
  am : ¬ InB v m
  mp : m ≠ p
  nodup : L.Nodup
theorem Cm.fr {S : Nat → Prop} {w w' : World} {p m : Nat} {v : Value} {L : List Nat} (h : Cm w p m v L) (f : Fr S w w') (h1 : ¬ S p) (h2 : ¬ S m) (h3 : ∀ b, InB v b → ¬ S b) : Cm w' p m v L :=
  ⟨h.places.fr f h1, h.order.fr f h1, h.row.frB f h3, h.map.fr f h2, h.ap, h.am, h.mp, h.nodup⟩
theorem Cm.calm {w w' : World} {p m : Nat} {v : Value} {L : List Nat} (h : Cm w p m v L) (f : Calm w w') : Cm w' p m v L := h.fr f id id (fun _ _ => id)
/-- The blocks of it. -/
def CmB (p m : Nat) (v : Value) (b : Nat) : Prop := b = p ∨ b = m ∨ InB v b

def ToPost (w : World) (p m : Nat) (v : Value) (L : List Nat) (q : Nat) (e : Ending) (w' : World) : Prop :=
  e = .returned (.tuple #[]) ∧ ∃ v', Cm w' p m v' (addTo L q) ∧ Fr (CmB p m v) w w' ∧ ∀ b, InB v' b → InB v b ∨ w.heap.size ≤ b

set_option maxHeartbeats 1000000 in
theorem to_is {w : World} {p m : Nat} {v : Value} {L : List Nat} (h : Cm w p m v L) (q : Nat) (hq : q ≤ 131072) (hl : L.length ≤ 100000) :
    Calls Try.prog 112 #[.pointer (some ⟨p, 0, none⟩), .int .i64 q] w (ToPost w p m v L q) := by
  have H := hid h
  have hlt := h.map.lt
  have hlp := h.places.lt
  have p0 := h.places.1
  have p0' := h.places.2
  have p1 := h.order.1
  obtain ⟨sa, sn, sc, rfl⟩ := h.row.letters
  have hm := hid h.map
  have hn := hid h.nodup
  have hr := hid h.row
  clear h
  by_cases h0 : q = 0
  · subst h0
    have hadd : Hid (addTo L 0 = L) := by show addTo L 0 = L; simp [addTo]
    go_enter Try.func112, Try.ntmps112
    go_wp2
    refine bodyPost_ret (v := .tuple #[]) (by simp [results, Try.f112, go_sem]) rfl ⟨rfl, _, by rw [hadd.out]; exact H.out, Fr.refl _ _, fun b hb => .inl hb⟩
  have hq0 : ((q : Int) == 0) = false := by simp; omega
  by_cases hi : q ∈ L
  · have hadd : Hid (addTo L q = L) := by show addTo L q = L; simp [addTo, hi]
    replace hi := hid hi
    clear h0
    go_enter Try.func112, Try.ntmps112
    go_wp2_with (at_lookup; refine wpList_look_yes rfl _ _ rfl m L hn.out rfl hm.out q (by omega) rfl hi.out ?_)
    refine bodyPost_ret (v := .tuple #[]) (by simp [results, Try.f112, go_sem]) rfl ⟨rfl, _, by rw [hadd.out]; exact H.out, Fr.refl _ _, fun b hb => .inl hb⟩
  · have hadd : Hid (addTo L q = L ++ [q]) := by show addTo L q = L ++ [q]; simp [addTo, hi, h0]
    replace hi := hid hi
    clear h0
    obtain rfl : sn = L.length := by have := hr.out.slice; obtain ⟨_, _, e⟩ := this; injection e with e1 e2 e3; simpa using e2
    have q0 : ∀ x : Later w, x.w.cell? ⟨p, 0, none⟩ = some (.slice sa L.length sc) := fun x => x.cell p0
    have q1 : ∀ x : Later w, x.w.cell? ⟨p, 0 + 1, none⟩ = some (.map (some m)) := fun x => x.cell p1
    go_enter Try.func112, Try.ntmps112
    go_wp2_with (at_lookup; refine wpList_look_no rfl _ _ rfl m L hn.out rfl hm.out q (by omega) rfl hi.out ?_)
    refine wp_region_calm_tail 10 (by kernel_rfl) (by kernel_rfl) ?_
    simp only [List.take_succ_cons, List.take_zero, List.drop_succ_cons, List.drop_zero]
    repeat (go_big_quiet_step (fail))
    refine wpQuiet_nil ?_
    intro w2 hw'
    have c2 := Later.out hw'
    clear hw' q0 q1 p0 p0' p1
    refine wpList_omap_put rfl _ _ _ rfl m L rfl (hm.out.fr c2 id) (by omega) q (by omega) rfl rfl ?_
    intro w3 hm3 f3
    have hmp := H.out.mp
    have hap := H.out.ap
    have ham := H.out.am
    have o3 := ((H.out.places.calm c2).fr f3 (by omega))
    have r3 := (hr.out.calm c2).frB f3 (by rintro b hb rfl; exact ham hb)
    have k3 : Fr (CmB p m (.slice sa L.length sc)) w w3 := (Calm.any c2).trans (f3.mono (fun k _ hk => .inr (.inl hk)))
    have u0 := o3.1
    have u1 := o3.2
    replace hap := hid hap
    replace ham := hid ham
    replace hmp := hid hmp
    replace f3 := hid f3
    replace hm3 := hid hm3
    replace r3 := hid r3
    replace k3 := hid k3
    have p1' := H.out.order.2
    replace H := H.out.order.1
    go_wp2_with (at_builtin; refine wpList_app1 rfl _ _ rfl 0 _ _ r3.out rfl q rfl (by simp; omega) (Nat.zero_le _) ?_; intro g c w4 hr4 f4 hg; have v0 := (o3.fr f4 hap.out).1; have v1 := (o3.fr f4 hap.out).2; replace f4 := hid f4; replace hr4 := hid hr4)
    have k4 := k3.out.trans (f4.out.mono (fun k _ hk => .inr (.inr hk)))
    have hgp : p ≠ g := by
      rcases hg with hg | hg
      · rintro rfl; exact hap.out hg
      · have := k3.out.size; omega
    have hgm : m ≠ g := by
      rcases hg with hg | hg
      · rintro rfl; exact ham.out hg
      · have := k3.out.size; omega
    refine bodyPost_end (by simp [results, Try.f112, go_sem]) rfl ⟨rfl, .slice (some ⟨g, 0, none⟩) (L.length + 1) c, ?_, k4.setCell (.inl (.inl rfl)) _, ?_⟩
    · rw [hadd.out]
      have fs : Fr (fun b => b = p) w4 (w4.setCell ⟨p, 0, none⟩ (.slice (some ⟨g, 0, none⟩) (L.length + 1) c)) := (Fr.refl (fun b => b = p) w4).setCell (p := ⟨p, 0, none⟩) (.inl rfl) _
      refine ⟨Own.set ⟨v0, v1⟩ _, ?_, ?_, ?_, ?_, ?_, hmp.out, ?_⟩
      · have h1 : Own w p 1 (.map (some m)) := ⟨H, p1'⟩
        exact (((h1.calm c2).fr f3.out (by simpa using Ne.symm hmp.out)).fr f4.out hap.out).other _ _ (.inr (by simp))
      · have := hr4.out
        simp only [List.length_map] at this
        rw [show nI (L ++ [q]) = nI L ++ [(q : Int)] by simp]
        exact this.frB fs (by intro b hb; rw [InB.mk1 hb]; exact fun h => hgp h.symm)
      · exact (hm3.out.fr f4.out ham.out).fr fs (by simpa using hmp.out)
      · intro h; exact hgp (InB.mk1 h)
      · intro h; exact hgm (InB.mk1 h)
      · rw [← hadd.out]; exact addTo_nodup hn.out q
    · intro b hb
      obtain rfl := InB.mk1 hb
      rcases hg with hg | hg
      · exact .inl hg
      · right; have := k3.out.size; omega


/-- Where a place stands: the number that index tells. -/
def ixOf (L : List Nat) (q : Nat) : Int := if q = 0 then -1 else if q ∈ L then (L.idxOf q : Nat) else -2

set_option maxHeartbeats 1000000 in
theorem index_is {w : World} {p m : Nat} {v : Value} {L : List Nat} (h : Cm w p m v L) (q : Nat) (hq : q ≤ 131072) :
    Calls Try.prog 99 #[.pointer (some ⟨p, 0, none⟩), .int .i64 q] w fun e w' => e = .returned (.int .i64 (ixOf L q)) ∧ w = w' := by
  have p1 := h.order.1
  have hm := hid h.map
  have hn := hid h.nodup
  clear h
  by_cases h0 : q = 0
  · subst h0
    have hx : Hid (ixOf L 0 = -1) := by show ixOf L 0 = -1; simp [ixOf]
    go_enter Try.func99, Try.ntmps99
    go_wp2
    go_ret
    exact ⟨by rw [hx.out]; rfl, rfl⟩
  have hq0 : ((q : Int) == 0) = false := by simp; omega
  by_cases hi : q ∈ L
  · have hx : Hid (ixOf L q = (L.idxOf q : Nat)) := by show ixOf L q = _; simp [ixOf, hi, h0]
    replace hi := hid hi
    clear h0
    go_enter Try.func99, Try.ntmps99
    go_wp2_with (at_lookup; refine wpList_look_yes rfl _ _ rfl m L hn.out rfl hm.out q (by omega) rfl hi.out ?_)
    go_ret
    exact ⟨by rw [hx.out]; rfl, rfl⟩
  · have hx : Hid (ixOf L q = -2) := by show ixOf L q = _; simp [ixOf, hi, h0]
    replace hi := hid hi
    clear h0
    go_enter Try.func99, Try.ntmps99
    go_wp2_with (at_lookup; refine wpList_look_no rfl _ _ rfl m L hn.out rfl hm.out q (by omega) rfl hi.out ?_)
    go_ret
    exact ⟨by rw [hx.out]; rfl, rfl⟩

end Go.Proofs.Ytiomemdmhcdpbaa
