/- What package graph's node does. -/
import Derived.Test.YtiomemdmhcdpbaaFrom
import Derived.Test.YtiomemdmhcdpbaaTail
set_option linter.unusedSimpArgs false
set_option linter.unusedVariables false
namespace Go.Proofs.Ytiomemdmhcdpbaa
open Go.RowKit Go.Shelf Go.Maps

theorem OwnL.set8 {w : World} {B : Nat} {a b c d e f g i : Value} (h : OwnL w B [a, b, c, d, e, f, g, i]) (x0 x1 x2 x3 x4 x5 x6 x7 : Value) : OwnL ((((((((w.setCell ⟨B, 0, none⟩ x0).setCell ⟨B, 1, none⟩ x1).setCell ⟨B, 2, none⟩ x2).setCell ⟨B, 3, none⟩ x3).setCell ⟨B, 4, none⟩ x4).setCell ⟨B, 5, none⟩ x5).setCell ⟨B, 6, none⟩ x6).setCell ⟨B, 7, none⟩ x7) B [x0, x1, x2, x3, x4, x5, x6, x7] ∧ Fr (fun k => k = B) w ((((((((w.setCell ⟨B, 0, none⟩ x0).setCell ⟨B, 1, none⟩ x1).setCell ⟨B, 2, none⟩ x2).setCell ⟨B, 3, none⟩ x3).setCell ⟨B, 4, none⟩ x4).setCell ⟨B, 5, none⟩ x5).setCell ⟨B, 6, none⟩ x6).setCell ⟨B, 7, none⟩ x7) :=
  ⟨((((((((h.set 0 x0 (by simp)).set 1 x1 (by simp)).set 2 x2 (by simp)).set 3 x3 (by simp)).set 4 x4 (by simp)).set 5 x5 (by simp)).set 6 x6 (by simp)).set 7 x7 (by simp)), (((((((((Fr.refl (fun k => k = B) w).setCell (p := ⟨B, 0, none⟩) (.inl rfl) x0).setCell (p := ⟨B, 1, none⟩) (.inl rfl) x1).setCell (p := ⟨B, 2, none⟩) (.inl rfl) x2).setCell (p := ⟨B, 3, none⟩) (.inl rfl) x3).setCell (p := ⟨B, 4, none⟩) (.inl rfl) x4).setCell (p := ⟨B, 5, none⟩) (.inl rfl) x5).setCell (p := ⟨B, 6, none⟩) (.inl rfl) x6).setCell (p := ⟨B, 7, none⟩) (.inl rfl) x7)⟩

/-- A node's cells, and its value. -/
abbrev ndC (ser : Int) (p d : Nat) (wk fn fr : Bool) (vp vn : Value) : List Value := [.int .i64 ser, .int .i64 p, .int .i64 d, .bool wk, .bool fn, .bool fr, vp, vn]
abbrev ndV (ser : Int) (p d : Nat) (wk fn fr : Bool) (vp vn : Value) : Value := .agg #[.int .i64 ser, .int .i64 p, .int .i64 d, .bool wk, .bool fn, .bool fr, vp, vn]
/-- An object's pointers and numbers, as a node tells them. -/
def ptI (L : List Nat) (l : List Nat) : List Int := l.map (ixOf L)
def nmI (l : List Nat) : List Int := l.map zt
theorem ptI_length (L l : List Nat) : (ptI L l).length = l.length := by simp [ptI]
theorem nmI_length (l : List Nat) : (nmI l).length = l.length := by simp [nmI]

def NodePost (w : World) (L : List Nat) (o : Ob) (e : Ending) (w' : World) : Prop :=
  ∃ vp vn, e = .returned (.tuple #[ndV o.ser o.p o.d o.wk o.fn o.fr vp vn, .int .i64 0]) ∧ ORow w' w.heap.size vp (ptI L o.ps) ∧ ORow w' w.heap.size vn (nmI o.ns) ∧ (∀ b, InB vp b → ¬ InB vn b) ∧ Calm w w'

structure NodeI (w : World) (R S N : Nat) (o : Ob) (vp vn : Value) (lp ln : List Int) (wr : World) : Prop where
  r : OwnL wr R (ndC 0 0 0 false false false (.slice none 0 0) (.slice none 0 0))
  s : OwnL wr S [.int .i64 o.p, .int .i64 o.d, .bool o.wk, .bool o.fn]
  n : OwnL wr N (ndC o.ser o.p o.d o.wk o.fn o.fr vp vn)
  p : ORow wr (N + 1) vp lp
  q : ORow wr (N + 1) vn ln
  a : ∀ b, InB vp b → ¬ InB vn b
  calm : Calm w wr
  rs : R < S
  sn : S < N
  wR : w.heap.size ≤ R
theorem NodeI.to {w : World} {R S N : Nat} {o : Ob} {vp vn : Value} {lp ln : List Int} {wr w' : World} (h : NodeI w R S N o vp vn lp ln wr) (c : Calm wr w') : NodeI w R S N o vp vn lp ln w' :=
  ⟨h.r.calm c, h.s.calm c, h.n.calm c, h.p.calm c, h.q.calm c, h.a, h.calm.trans c, h.rs, h.sn, h.wR⟩
theorem NodeI.ptr {w : World} {R S N : Nat} {o : Ob} {vp vn : Value} {lp ln : List Int} {wr w' : World} (h : NodeI w R S N o vp vn lp ln wr) {g n c : Nat} {lp' : List Int}
    (hr : ORow w' (N + 1) (.slice (some ⟨g, 0, none⟩) n c) lp') (hf : Fr (InB vp) wr w') (hg : InB vp g ∨ wr.heap.size ≤ g) :
    NodeI w R S N o (.slice (some ⟨g, 0, none⟩) n c) vn lp' ln (w'.setCell ⟨N, 6, none⟩ (.slice (some ⟨g, 0, none⟩) n c)) := by
  have hs : Fr (fun b => b = N) w' (w'.setCell ⟨N, 6, none⟩ (.slice (some ⟨g, 0, none⟩) n c)) := (Fr.refl (fun b => b = N) w').setCell (p := ⟨N, 6, none⟩) (.inl rfl) _
  have hb : ∀ b, InB vp b → N + 1 ≤ b := fun b hb => (h.p.lt hb).1
  have hq : ∀ b, InB vn b → N + 1 ≤ b := fun b hb => (h.q.lt hb).1
  have l1 := h.rs; have l2 := h.sn; have l3 := h.wR; have l4 := h.calm.size
  have hN : N < wr.heap.size := h.n.lt (by simp)
  refine ⟨(h.r.fr hf ?_).fr hs (by omega), (h.s.fr hf ?_).fr hs (by omega), (h.n.fr hf ?_).set 6 _ (by simp), hr.frB hs ?_, (h.q.frB hf ?_).frB hs ?_, ?_, (h.calm.join hf ?_).join hs ?_, l1, l2, l3⟩
  · intro hx; have := hb _ hx; omega
  · intro hx; have := hb _ hx; omega
  · intro hx; have := hb _ hx; omega
  · intro b hx; have := (hr.lt hx).1; omega
  · intro b hx hy; exact h.a b hy hx
  · intro b hx; have := hq b hx; omega
  · intro b hx hy
    obtain rfl := InB.mk1 hx
    rcases hg with hg | hg
    · exact h.a _ hg hy
    · have := (h.q.lt hy).2; omega
  · intro b h1 hx; have := hb b hx; omega
  · intro b h1 hx; omega
theorem NodeI.num {w : World} {R S N : Nat} {o : Ob} {vp vn : Value} {lp ln : List Int} {wr w' : World} (h : NodeI w R S N o vp vn lp ln wr) {g n c : Nat} {ln' : List Int}
    (hr : ORow w' (N + 1) (.slice (some ⟨g, 0, none⟩) n c) ln') (hf : Fr (InB vn) wr w') (hg : InB vn g ∨ wr.heap.size ≤ g) :
    NodeI w R S N o vp (.slice (some ⟨g, 0, none⟩) n c) lp ln' (w'.setCell ⟨N, 7, none⟩ (.slice (some ⟨g, 0, none⟩) n c)) := by
  have hs : Fr (fun b => b = N) w' (w'.setCell ⟨N, 7, none⟩ (.slice (some ⟨g, 0, none⟩) n c)) := (Fr.refl (fun b => b = N) w').setCell (p := ⟨N, 7, none⟩) (.inl rfl) _
  have hb : ∀ b, InB vp b → N + 1 ≤ b := fun b hb => (h.p.lt hb).1
  have hq : ∀ b, InB vn b → N + 1 ≤ b := fun b hb => (h.q.lt hb).1
  have l1 := h.rs; have l2 := h.sn; have l3 := h.wR; have l4 := h.calm.size
  have hN : N < wr.heap.size := h.n.lt (by simp)
  refine ⟨(h.r.fr hf ?_).fr hs (by omega), (h.s.fr hf ?_).fr hs (by omega), (h.n.fr hf ?_).set 7 _ (by simp), (h.p.frB hf ?_).frB hs ?_, hr.frB hs ?_, ?_, (h.calm.join hf ?_).join hs ?_, l1, l2, l3⟩
  · intro hx; have := hq _ hx; omega
  · intro hx; have := hq _ hx; omega
  · intro hx; have := hq _ hx; omega
  · intro b hx hy; exact h.a b hx hy
  · intro b hx; have := hb b hx; omega
  · intro b hx; have := (hr.lt hx).1; omega
  · intro b hx hy
    obtain rfl := InB.mk1 hy
    rcases hg with hg | hg
    · exact h.a _ hx hg
    · have := (h.p.lt hx).2; omega
  · intro b h1 hx; have := hq b hx; omega
  · intro b h1 hx; omega

def NodeP (w : World) (R S : Nat) (o : Ob) (L : List Nat) (k : Nat) (wr : World) : Prop := ∃ vp, NodeI w R S (S + 1) o vp (.slice none 0 0) (ptI L (o.ps.take k)) (nmI (o.ns.take 0)) wr
def NodeQ (w : World) (R S : Nat) (o : Ob) (L : List Nat) (k : Nat) (wr : World) : Prop := ∃ vp vn, NodeI w R S (S + 1) o vp vn (ptI L o.ps) (nmI (o.ns.take k)) wr

set_option maxRecDepth 4000 in
set_option maxHeartbeats 2000000 in
theorem node_yes {w : World} {b c : Nat} {xs : List Nat} (h : Ar w b c xs) {a : Nat} {o : Ob} (ho : At xs a o) {cp cm : Nat} {cv : Value} {L : List Nat} (hc : Cm w cp cm cv L) :
    Calls Try.prog 98 #[arV b, .int .i64 a, .pointer (some ⟨cp, 0, none⟩)] w (NodePost w L o) := by
  have HA := hid h
  have HO := hid ho
  have HC := hid hc
  have p8 := ho.ok.sh.1
  have d8 := ho.ok.sh.2.1
  clear h ho hc
  go_enter Try.func98, Try.ntmps98
  go_wp2_with fail
  have o1 : OwnL (w.alloc (.cells #[.int .i64 0, .int .i64 0, .int .i64 0, .bool false, .bool false, .bool false, .slice none 0 0, .slice none 0 0] 63)) w.heap.size (ndC 0 0 0 false false false (.slice none 0 0) (.slice none 0 0)) := OwnL.new w _ _
  have k1 : Calm w (w.alloc (.cells #[.int .i64 0, .int .i64 0, .int .i64 0, .bool false, .bool false, .bool false, .slice none 0 0, .slice none 0 0] 63)) := (Fr.refl _ _).alloc _
  generalize w.alloc (.cells #[.int .i64 0, .int .i64 0, .int .i64 0, .bool false, .bool false, .bool false, .slice none 0 0, .slice none 0 0] 63) = W at *
  refine (at_shape (HA.out.calm k1) HO.out).mono ?_
  rintro e w1 ⟨rfl, c1⟩
  replace o1 := o1.calm c1
  replace k1 := k1.trans c1
  have hlt := o1.lt (by simp)
  have o2 := OwnL.new w1 [.int .i64 o.p, .int .i64 o.d, .bool o.wk, .bool o.fn] 32
  have c2 : Calm w1 (w1.alloc (.cells #[.int .i64 o.p, .int .i64 o.d, .bool o.wk, .bool o.fn] 32)) := (Fr.refl _ _).alloc _
  replace o1 := o1.calm c2
  replace k1 := k1.trans c2
  have hs2 : (w1.alloc (.cells #[.int .i64 o.p, .int .i64 o.d, .bool o.wk, .bool o.fn] 32)).heap.size = w1.heap.size + 1 := by simp
  have x0 := (o2 0 _ rfl).1
  have x1 := (o2 1 _ rfl).1
  have x2 := (o2 2 _ rfl).1
  have x3 := (o2 3 _ rfl).1
  clear c1 c2
  go_wp2_with fail
  have o3 := OwnL.at (w1.alloc (.cells #[.int .i64 o.p, .int .i64 o.d, .bool o.wk, .bool o.fn] 32)) (ndC 0 o.p o.d o.wk o.fn o.fr (.slice none 0 0) (.slice none 0 0)) 63 (w1.heap.size + 1) (by simp)
  obtain ⟨W2, hW2⟩ : ∃ W2, (w1.alloc (.cells #[.int .i64 o.p, .int .i64 o.d, .bool o.wk, .bool o.fn] 32)).alloc (.cells #[.int .i64 0, .int .i64 o.p, .int .i64 o.d, .bool o.wk, .bool o.fn, .bool o.fr, .slice none 0 0, .slice none 0 0] 63) = W2 := ⟨_, rfl⟩
  have c3 : Calm (w1.alloc (.cells #[.int .i64 o.p, .int .i64 o.d, .bool o.wk, .bool o.fn] 32)) W2 := by rw [← hW2]; exact (Fr.refl _ _).alloc _
  replace o3 : OwnL W2 (w1.heap.size + 1) (ndC 0 o.p o.d o.wk o.fn o.fr (.slice none 0 0) (.slice none 0 0)) := by rw [← hW2]; exact o3
  rw [hW2]
  replace o1 := o1.calm c3
  replace o2 := o2.calm c3
  replace k1 := k1.trans c3
  clear hW2 c3 hs2 x0 x1 x2 x3
  refine (at_serial (HA.out.calm k1) HO.out).mono ?_
  rintro e w4 ⟨rfl, c4⟩
  replace o1 := o1.calm c4
  replace o2 := o2.calm c4
  replace o3 := o3.calm c4
  replace k1 := k1.trans c4
  clear c4
  have y0 := (o3 0 _ rfl).1
  have y1 := (o3 0 _ rfl).2
  have z0 := (o2 0 _ rfl).1
  have hI : NodeI w w.heap.size w1.heap.size (w1.heap.size + 1) o (.slice none 0 0) (.slice none 0 0) (ptI L (o.ps.take 0)) (nmI (o.ns.take 0)) (w4.setCell ⟨w1.heap.size + 1, 0, none⟩ (.int .i64 o.ser)) := by
    have hs : Fr (fun b => b = w1.heap.size + 1) w4 (w4.setCell ⟨w1.heap.size + 1, 0, none⟩ (.int .i64 o.ser)) := (Fr.refl (fun b => b = w1.heap.size + 1) w4).setCell (p := ⟨w1.heap.size + 1, 0, none⟩) (.inl rfl) _
    exact ⟨o1.fr hs (by omega), o2.fr hs (by omega), o3.set 0 _ (by simp), ORow.nil _ _, ORow.nil _ _, fun b hb => absurd hb (InB.nil b), k1.join hs (by intro b h1 h2; omega), hlt, by omega, Nat.le_refl _⟩
  clear o1 o2 o3 k1
  obtain ⟨R, hR⟩ : ∃ R, w.heap.size = R := ⟨_, rfl⟩
  obtain ⟨S, hS⟩ : ∃ S, w1.heap.size = S := ⟨_, rfl⟩
  rw [hR, hS] at hI
  rw [hS] at y0 y1 z0
  rw [hR, hS]
  clear hlt
  replace hR := hid hR
  clear hS
  have hI0 : NodeP w R S o L 0 (w4.setCell ⟨S + 1, 0, none⟩ (.int .i64 o.ser)) := ⟨_, hI⟩
  clear hI
  go_wp2_with fail
  clear y0 y1 z0
  go_loopw [45] (fun i wr => ∃ k : Nat, k ≤ o.p ∧ i = .int .i64 k ∧ NodeP w R S o L k wr) (fun i _ => o.p - (intOf i).toNat)
  case atStart => exact ⟨0, Nat.zero_le _, rfl, hI0⟩
  case round =>
    clear hI0
    obtain ⟨k, hk, rfl, vp, hI⟩ := hrel
    rcases Nat.lt_or_ge k o.p with hlt | hge
    · have hap := hid (fun W (cw : Calm wr W) => at_ptr (HA.out.calm (hI.calm.trans cw)) HO.out (i := k) hlt)
      have hq : o.ps.getD k 0 ≤ 131072 := HO.out.ok.ptr hlt
      have hstep : Hid (ptI L (o.ps.take (k + 1)) = ptI L (o.ps.take k) ++ [ixOf L (o.ps.getD k 0)]) := by
        show ptI L (o.ps.take (k + 1)) = _
        rw [take_succ_getD o.ps (by rw [HO.out.ok.lp]; exact hlt)]; simp [ptI]
      have hln : Hid ((ptI L (o.ps.take k)).length = k) := by show (ptI L (o.ps.take k)).length = k; rw [ptI_length, List.length_take, HO.out.ok.lp]; omega
      replace hI := hid hI
      generalize ptI L (o.ps.take k) = lp at *
      generalize o.ps.getD k 0 = q at *
      go_wp2_with fail
      refine (hap.out _ (Fr.refl _ _)).mono ?_
      rintro e w5 ⟨rfl, c5⟩
      have hI5 := hid (hI.out.to c5)
      have hC5 := hid (HC.out.calm hI5.out.calm)
      clear hI hap c5
      go_wp2_with fail
      have q6 : ∀ w', Calm w5 w' → w'.cell? ⟨S + 1, 6, none⟩ = some vp := fun w' c => ((hI5.out.n.calm c) 6 _ rfl).1
      have c6 : Calm w5 w5.drew := (Fr.refl _ _).drew
      refine wp_region_helds 4 6 (fun w' => Calm w5 w') (by kernel_rfl) (by kernel_rfl) c6 ?_
      generalize w5.drew = w6 at *
      refine heldList_step (.pointer (some ⟨S + 1, 6, none⟩)) rfl (fun w' hw' => ?_) (fun _ _ _ h => h) ?_
      · go_simp
      refine heldList_step vp rfl (fun w' hw' => ?_) (fun _ _ _ h => h) ?_
      · have h1 := q6 w' hw'
        go_simp
      refine heldList_step (.pointer (some ⟨cp, 0, none⟩)) rfl (fun w' hw' => ?_) (fun _ _ _ h => h) ?_
      · go_simp
      refine heldList_step (.int .i64 q) rfl (fun w' hw' => ?_) (fun _ _ _ h => h) ?_
      · go_simp
      clear q6
      have hI6 := hid (hI5.out.to c6)
      have hC6 := hid (hC5.out.calm c6)
      refine heldSeq_step rfl ?_
      unfold Oper.wp
      go_simp
      refine (index_is hC6.out q hq).mono ?_
      rintro e w' ⟨rfl, rfl⟩
      refine ⟨c6, ?_⟩
      refine heldSeq_step rfl ?_
      unfold Oper.wp
      go_simp
      refine ⟨c6.alloc _, ?_⟩
      simp only [heldSeq]
      refine wpList_app1 rfl _ _ rfl (S + 1 + 1) vp lp hI6.out.p rfl (ixOf L q) rfl (by rw [hln.out]; omega) (by have := hI6.out.n.lt (by simp); omega) ?_
      intro g gc w7 hr7 hf7 hg7
      have hn7 := ((hI6.out.n.fr hf7 (fun hx => by have := (hI6.out.p.lt hx).1; omega)) 6 _ rfl)
      have u0 := hn7.1
      have u1 := hn7.2
      have hI7 := hid (hI6.out.ptr hr7 hf7 hg7)
      clear hn7
      replace hr7 := hid hr7
      replace hf7 := hid hf7
      replace hg7 := hid hg7
      go_wp2
      go_roundw
      case rel => exact ⟨k + 1, by omega, by go_num, _, by rw [hstep.out]; exact hI7.out⟩
      case measure => simp [intOf]; omega
    · obtain rfl : k = o.p := by omega
      have hT : o.ps.take o.p = o.ps := List.take_of_length_le (by rw [HO.out.ok.lp]; omega)
      rw [hT] at hI
      have hI0 : NodeQ w R S o L 0 wr := ⟨_, _, hI⟩
      have z1 := (hI.s 1 _ rfl).1
      clear hT hI hge hk
      go_wp2
      clear z1
      go_loopw [70] (fun i wr => ∃ k : Nat, k ≤ o.d ∧ i = .int .i64 k ∧ NodeQ w R S o L k wr) (fun i _ => o.d - (intOf i).toNat)
      case atStart => exact ⟨0, Nat.zero_le _, rfl, hI0⟩
      case round =>
        clear hI0
        obtain ⟨k, hk, rfl, vp, vn, hI⟩ := hrel
        rcases Nat.lt_or_ge k o.d with hlt | hge
        · have hap := hid (fun W (cw : Calm wr W) => at_num (HA.out.calm (hI.calm.trans cw)) HO.out (i := k) hlt)
          have hstep : Hid (nmI (o.ns.take (k + 1)) = nmI (o.ns.take k) ++ [zt (o.ns.getD k 0)]) := by
            show nmI (o.ns.take (k + 1)) = _
            rw [take_succ_getD o.ns (by rw [HO.out.ok.ln]; exact hlt)]; simp [nmI]
          have hln : Hid ((nmI (o.ns.take k)).length = k) := by show (nmI (o.ns.take k)).length = k; rw [nmI_length, List.length_take, HO.out.ok.ln]; omega
          replace hI := hid hI
          generalize nmI (o.ns.take k) = ln at *
          generalize zt (o.ns.getD k 0) = q at *
          go_wp2_with fail
          refine (hap.out _ (Fr.refl _ _)).mono ?_
          rintro e w5 ⟨rfl, c5⟩
          have hI6 := hid (hI.out.to c5)
          have z7 := (hI6.out.n 7 _ rfl).1
          clear hI hap c5
          go_wp2_with (at_builtin; refine wpList_app1 rfl _ _ rfl (S + 1 + 1) vn ln hI6.out.q rfl q rfl (by rw [hln.out]; omega) (by have := hI6.out.n.lt (by simp); omega) ?_; intro g gc w7 hr7 hf7 hg7; have hn7 := ((hI6.out.n.fr hf7 (fun hx => by have := (hI6.out.q.lt hx).1; omega)) 7 _ rfl); have u0 := hn7.1; have u1 := hn7.2; have hI7 := hid (hI6.out.num hr7 hf7 hg7); clear hn7; replace hr7 := hid hr7; replace hf7 := hid hf7; replace hg7 := hid hg7)
          go_roundw
          case rel => exact ⟨k + 1, by omega, by go_num, _, _, by rw [hstep.out]; exact hI7.out⟩
          case measure => simp [intOf]; omega
        · obtain rfl : k = o.d := by omega
          have hT : o.ns.take o.d = o.ns := List.take_of_length_le (by rw [HO.out.ok.ln]; omega)
          rw [hT] at hI
          obtain ⟨pa, pn, pc, rfl⟩ := hI.p.letters
          obtain ⟨qa, qn, qc, rfl⟩ := hI.q.letters
          have x0 := (hI.n 0 _ rfl).1
          have x1 := (hI.n 1 _ rfl).1
          have x2 := (hI.n 2 _ rfl).1
          have x3 := (hI.n 3 _ rfl).1
          have x4 := (hI.n 4 _ rfl).1
          have x5 := (hI.n 5 _ rfl).1
          have x6 := (hI.n 6 _ rfl).1
          have x7 := (hI.n 7 _ rfl).1
          have lt := hI.n.lt (by simp)
          have y0 := (hI.r 0 _ rfl).1
          have z0 := (hI.r 0 _ rfl).2
          have y1 := (hI.r 1 _ rfl).1
          have z1 := (hI.r 1 _ rfl).2
          have y2 := (hI.r 2 _ rfl).1
          have z2 := (hI.r 2 _ rfl).2
          have y3 := (hI.r 3 _ rfl).1
          have z3 := (hI.r 3 _ rfl).2
          have y4 := (hI.r 4 _ rfl).1
          have z4 := (hI.r 4 _ rfl).2
          have y5 := (hI.r 5 _ rfl).1
          have z5 := (hI.r 5 _ rfl).2
          have y6 := (hI.r 6 _ rfl).1
          have z6 := (hI.r 6 _ rfl).2
          have y7 := (hI.r 7 _ rfl).1
          have z7 := (hI.r 7 _ rfl).2
          replace hI := hid hI
          go_wp2
          have o9 := OwnL.set8 hI.out.r (.int .i64 o.ser) (.int .i64 o.p) (.int .i64 o.d) (.bool o.wk) (.bool o.fn) (.bool o.fr) (.slice pa pn pc) (.slice qa qn qc)
          generalize World.setCell _ (⟨R, 7, none⟩ : Addr) _ = w9 at *
          obtain ⟨o9, f9⟩ := o9
          clear x0 x1 x2 x3 x4 x5 x6 x7 y0 y1 y2 y3 y4 y5 y6 y7 z0 z1 z2 z3 z4 z5 z6 z7
          have x0 := (o9 0 _ rfl).1
          have x1 := (o9 1 _ rfl).1
          have x2 := (o9 2 _ rfl).1
          have x3 := (o9 3 _ rfl).1
          have x4 := (o9 4 _ rfl).1
          have x5 := (o9 5 _ rfl).1
          have x6 := (o9 6 _ rfl).1
          have x7 := (o9 7 _ rfl).1
          have hp9 := hI.out.p.frB f9 (fun b hb => by have := (hI.out.p.lt hb).1; have := hI.out.rs; omega)
          have hq9 := hI.out.q.frB f9 (fun b hb => by have := (hI.out.q.lt hb).1; have := hI.out.rs; omega)
          have hw9 : w.heap.size ≤ S + 2 := by have := hI.out.rs; have := hI.out.wR; omega
          refine bodyPost_ret (v := .tuple #[ndV o.ser o.p o.d o.wk o.fn o.fr (.slice pa pn pc) (.slice qa qn qc), .int .i64 0]) (by simp [results, Try.f98, go_sem, x0, x1, x2, x3, x4, x5, x6, x7]) rfl ⟨_, _, rfl, hp9.mono hw9, hq9.mono hw9, hI.out.a, hI.out.calm.join f9 (fun b h1 h2 => by have := hI.out.wR; omega)⟩

end Go.Proofs.Ytiomemdmhcdpbaa
