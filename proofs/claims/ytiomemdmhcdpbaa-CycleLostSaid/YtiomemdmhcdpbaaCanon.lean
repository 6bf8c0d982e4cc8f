/- What package graph's node does. Rows of nodes of the call's own. What package graph's Reach and Canon do. What slices.Equal at []int, and package graph's Same, return. What package graph's Same returns. -/
import Derived.Test.YtiomemdmhcdpbaaCome
import Derived.Test.YtiomemdmhcdpbaaKit
import Derived.Test.YtiomemdmhcdpbaaLay
set_option linter.unusedSimpArgs false
set_option linter.unusedVariables false
namespace Go.Proofs.Ytiomemdmhcdpbaa
open Go.RowKit Go.Shelf Go.Maps

theorem OwnL.set8 {w : World} {B : Nat} {a b c d e f g i : Value} (h : OwnL w B [a, b, c, d, e, f, g, i]) (x0 x1 x2 x3 x4 x5 x6 x7 : Value) : OwnL ((((((((w.setCell ⟨B, 0, none⟩ x0).setCell ⟨B, 1, none⟩ x1).setCell ⟨B, 2, none⟩ x2).setCell ⟨B, 3, none⟩ x3).setCell ⟨B, 4, none⟩ x4).setCell ⟨B, 5, none⟩ x5).setCell ⟨B, 6, none⟩ x6).setCell ⟨B, 7, none⟩ x7) B [x0, x1, x2, x3, x4, x5, x6, x7] ∧ Fr (fun k => k = B) w ((((((((w.setCell ⟨B, 0, none⟩ x0).setCell ⟨B, 1, none⟩ x1).setCell ⟨B, 2, none⟩ x2).setCell ⟨B, 3, none⟩ x3).setCell ⟨B, 4, none⟩ x4).setCell ⟨B, 5, none⟩ x5).setCell ⟨B, 6, none⟩ x6).setCell ⟨B, 7, none⟩ x7) :=
  ⟨((((((((h.set 0 x0 (by simp)).set 1 x1 (by simp)).set 2 x2 (by simp)).set 3 x3 (by simp)).set 4 x4 (by simp)).set 5 x5 (by simp)).set 6 x6 (by simp)).set 7 x7 (by simp)), (((((((((Fr.refl (fun k => k = B) w).setCell (p := ⟨B, 0, none⟩) (.inl rfl) x0).setCell (p := ⟨B, 1, none⟩) (.inl rfl) x1).setCell (p := ⟨B, 2, none⟩) (.inl rfl) x2).setCell (p := ⟨B, 3, none⟩) (.inl rfl) x3).setCell (p := ⟨B, 4, none⟩) (.inl rfl) x4).setCell (p := ⟨B, 5, none⟩) (.inl rfl) x5).setCell (p := ⟨B, 6, none⟩) (.inl rfl) x6).setCell (p := ⟨B, 7, none⟩) (.inl rfl) x7)⟩

/-- A node's cells, and its value. -/
abbrev ndC (ser : Int) (p d : Nat) (wk fn fr : Bool) (vp vn : Value) : List Value := [.int .i64 ser, .int .i64 p, .int .i64 d, .bool wk, .bool fn, .bool fr, vp, vn]
abbrev ndV (ser : Int) (p d : Nat) (wk fn fr : Bool) (vp vn : Value) : Value := .agg #[.int .i64 ser, .int .i64 p, .int .i64 d, .bool wk, .bool fn, .bool fr, vp, vn]
/-- An object's pointers and numbers, as a node tells them. -/
def ptI (L : List Nat) (l : List Nat) : List Int := l.map (ixOf L)
def nmI (l : List Nat) : List Int := l.map zt
theorem ptI_length (L l : List Nat) : (ptI L l).length = l.length := by simp [ptI]
theorem nmI_length (l : List Nat) : (nmI l).length = l.length := by simp [nmI]

def NodePost (w : World) (L : List Nat) (o : Ob) (e : Ending) (w' : World) : Prop :=
  ∃ vp vn, e = .returned (.tuple #[ndV o.ser o.p o.d o.wk o.fn o.fr vp vn, .int .i64 0]) ∧ ORow w' w.heap.size vp (ptI L o.ps) ∧ ORow w' w.heap.size vn (nmI o.ns) ∧ (∀ b, InB vp b → ¬ InB vn b) ∧ Calm w w'

structure NodeI (w : World) (R S N : Nat) (o : Ob) (vp vn : Value) (lp ln : List Int) (wr : World) : Prop where
  r : OwnL wr R (ndC 0 0 0 false false false (.slice none 0 0) (.slice none 0 0))
  s : OwnL wr S [.int .i64 o.p, .int .i64 o.d, .bool o.wk, .bool o.fn]
  n : OwnL wr N (ndC o.ser o.p o.d o.wk o.fn o.fr vp vn)
  p : ORow wr (N + 1) vp lp
  q : ORow wr (N + 1) vn ln
  a : ∀ b, InB vp b → ¬ InB vn b
  calm : Calm w wr
  rs : R < S
  sn : S < N
  wR : w.heap.size ≤ R
theorem NodeI.to {w : World} {R S N : Nat} {o : Ob} {vp vn : Value} {lp ln : List Int} {wr w' : World} (h : NodeI w R S N o vp vn lp ln wr) (c : Calm wr w') : NodeI w R S N o vp vn lp ln w' :=
  ⟨h.r.calm c, h.s.calm c, h.n.calm c, h.p.calm c, h.q.calm c, h.a, h.calm.trans c, h.rs, h.sn, h.wR⟩
theorem NodeI.ptr {w : World} {R S N : Nat} {o : Ob} {vp vn : Value} {lp ln : List Int} {wr w' : World} (h : NodeI w R S N o vp vn lp ln wr) {g n c : Nat} {lp' : List Int}
    (hr : ORow w' (N + 1) (.slice (some ⟨g, 0, none⟩) n c) lp') (hf : Fr (InB vp) wr w') (hg : InB vp g ∨ wr.heap.size ≤ g) :
    NodeI w R S N o (.slice (some ⟨g, 0, none⟩) n c) vn lp' ln (w'.setCell ⟨N, 6, none⟩ (.slice (some ⟨g, 0, none⟩) n c)) := by
  have hs : Fr (fun b => b = N) w' (w'.setCell ⟨N, 6, none⟩ (.slice (some ⟨g, 0, none⟩) n c)) := (Fr.refl (fun b => b = N) w').setCell (p := ⟨N, 6, none⟩) (.inl rfl) _
  have hb : ∀ b, InB vp b → N + 1 ≤ b := fun b hb => (h.p.lt hb).1
  have hq : ∀ b, InB vn b → N + 1 ≤ b := fun b hb => (h.q.lt hb).1
  have l1 := h.rs; have l2 := h.sn; have l3 := h.wR; have l4 := h.calm.size
  have hN : N < wr.heap.size := h.n.lt (by simp)
  refine ⟨(h.r.fr hf ?_).fr hs (by omega), (h.s.fr hf ?_).fr hs (by omega), (h.n.fr hf ?_).set 6 _ (by simp), hr.frB hs ?_, (h.q.frB hf ?_).frB hs ?_, ?_, (h.calm.join hf ?_).join hs ?_, l1, l2, l3⟩
  · intro hx; have := hb _ hx; omega
  · intro hx; have := hb _ hx; omega
  · intro hx; have := hb _ hx; omega
  · intro b hx; have := (hr.lt hx).1; omega
  · intro b hx hy; exact h.a b hy hx
  · intro b hx; have := hq b hx; omega
  · intro b hx hy
    obtain rfl := InB.mk1 hx
    rcases hg with hg | hg
    · exact h.a _ hg hy
    · have := (h.q.lt hy).2; omega
  · intro b h1 hx; have := hb b hx; omega
  · intro b h1 hx; omega
theorem NodeI.num {w : World} {R S N : Nat} {o : Ob} {vp vn : Value} {lp ln : List Int} {wr w' : World} (h : NodeI w R S N o vp vn lp ln wr) {g n c : Nat} {ln' : List Int}
    (hr : ORow w' (N + 1) (.slice (some ⟨g, 0, none⟩) n c) ln') (hf : Fr (InB vn) wr w') (hg : InB vn g ∨ wr.heap.size ≤ g) :
    NodeI w R S N o vp (.slice (some ⟨g, 0, none⟩) n c) lp ln' (w'.setCell ⟨N, 7, none⟩ (.slice (some ⟨g, 0, none⟩) n c)) := by
  have hs : Fr (fun b => b = N) w' (w'.setCell ⟨N, 7, none⟩ (.slice (some ⟨g, 0, none⟩) n c)) := (Fr.refl (fun b => b = N) w').setCell (p := ⟨N, 7, none⟩) (.inl rfl) _
  have hb : ∀ b, InB vp b → N + 1 ≤ b := fun b hb => (h.p.lt hb).1
  have hq : ∀ b, InB vn b → N + 1 ≤ b := fun b hb => (h.q.lt hb).1
  have l1 := h.rs; have l2 := h.sn; have l3 := h.wR; have l4 := h.calm.size
  have hN : N < wr.heap.size := h.n.lt (by simp)
  refine ⟨(h.r.fr hf ?_).fr hs (by omega), (h.s.fr hf ?_).fr hs (by omega), (h.n.fr hf ?_).set 7 _ (by simp), (h.p.frB hf ?_).frB hs ?_, hr.frB hs ?_, ?_, (h.calm.join hf ?_).join hs ?_, l1, l2, l3⟩
  · intro hx; have := hq _ hx; omega
  · intro hx; have := hq _ hx; omega
  · intro hx; have := hq _ hx; omega
  · intro b hx hy; exact h.a b hx hy
  · intro b hx; have := hb b hx; omega
  · intro b hx; have := (hr.lt hx).1; omega
  · intro b hx hy
    obtain rfl := InB.mk1 hy
    rcases hg with hg | hg
    · exact h.a _ hx hg
    · have := (h.p.lt hx).2; omega
  · intro b h1 hx; have := hq b hx; omega
  · intro b h1 hx; omega

def NodeP (w : World) (R S : Nat) (o : Ob) (L : List Nat) (k : Nat) (wr : World) : Prop := ∃ vp, NodeI w R S (S + 1) o vp (.slice none 0 0) (ptI L (o.ps.take k)) (nmI (o.ns.take 0)) wr
def NodeQ (w : World) (R S : Nat) (o : Ob) (L : List Nat) (k : Nat) (wr : World) : Prop := ∃ vp vn, NodeI w R S (S + 1) o vp vn (ptI L o.ps) (nmI (o.ns.take k)) wr

set_option maxRecDepth 4000 in
set_option maxHeartbeats 2000000 in
theorem node_yes {w : World} {b c : Nat} {xs : List Nat} (h : Ar w b c xs) {a : Nat} {o : Ob} (ho : At xs a o) {cp cm : Nat} {cv : Value} {L : List Nat} (hc : Cm w cp cm cv L) :
    Calls Try.prog 98 #[arV b, .int .i64 a, .pointer (some ⟨cp, 0, none⟩)] w (NodePost w L o) := by
  have HA := hid h
  have HO := hid ho
  have HC := hid hc
  have p8 := ho.ok.sh.1
  have d8 := ho.ok.sh.2.1
  clear h ho hc
  go_enter Try.func98, Try.ntmps98
  go_wp2_with fail
  have o1 : OwnL (w.alloc (.cells #[.int .i64 0, .int .i64 0, .int .i64 0, .bool false, .bool false, .bool false, .slice none 0 0, .slice none 0 0] 63)) w.heap.size (ndC 0 0 0 false false false (.slice none 0 0) (.slice none 0 0)) := OwnL.new w _ _
  have k1 : Calm w (w.alloc (.cells #[.int .i64 0, .int .i64 0, .int .i64 0, .bool false, .bool false, .bool false, .slice none 0 0, .slice none 0 0] 63)) := (Fr.refl _ _).alloc _
  generalize w.alloc (.cells #[.int .i64 0, .int .i64 0, .int .i64 0, .bool false, .bool false, .bool false, .slice none 0 0, .slice none 0 0] 63) = W at *
  refine (at_shape (HA.out.calm k1) HO.out).mono ?_
  rintro e w1 ⟨rfl, c1⟩
  replace o1 := o1.calm c1
  replace k1 := k1.trans c1
  have hlt := o1.lt (by simp)
  have o2 := OwnL.new w1 [.int .i64 o.p, .int .i64 o.d, .bool o.wk, .bool o.fn] 32
  have c2 : Calm w1 (w1.alloc (.cells #[.int .i64 o.p, .int .i64 o.d, .bool o.wk, .bool o.fn] 32)) := (Fr.refl _ _).alloc _
  replace o1 := o1.calm c2
  replace k1 := k1.trans c2
  have hs2 : (w1.alloc (.cells #[.int .i64 o.p, .int .i64 o.d, .bool o.wk, .bool o.fn] 32)).heap.size = w1.heap.size + 1 := by simp
  have x0 := (o2 0 _ rfl).1
  have x1 := (o2 1 _ rfl).1
  have x2 := (o2 2 _ rfl).1
  have x3 := (o2 3 _ rfl).1
  clear c1 c2
  go_wp2_with fail
  have o3 := OwnL.at (w1.alloc (.cells #[.int .i64 o.p, .int .i64 o.d, .bool o.wk, .bool o.fn] 32)) (ndC 0 o.p o.d o.wk o.fn o.fr (.slice none 0 0) (.slice none 0 0)) 63 (w1.heap.size + 1) (by simp)
  obtain ⟨W2, hW2⟩ : ∃ W2, (w1.alloc (.cells #[.int .i64 o.p, .int .i64 o.d, .bool o.wk, .bool o.fn] 32)).alloc (.cells #[.int .i64 0, .int .i64 o.p, .int .i64 o.d, .bool o.wk, .bool o.fn, .bool o.fr, .slice none 0 0, .slice none 0 0] 63) = W2 := ⟨_, rfl⟩
  have c3 : Calm (w1.alloc (.cells #[.int .i64 o.p, .int .i64 o.d, .bool o.wk, .bool o.fn] 32)) W2 := by rw [← hW2]; exact (Fr.refl _ _).alloc _
  replace o3 : OwnL W2 (w1.heap.size + 1) (ndC 0 o.p o.d o.wk o.fn o.fr (.slice none 0 0) (.slice none 0 0)) := by rw [← hW2]; exact o3
  rw [hW2]
  replace o1 := o1.calm c3
  replace o2 := o2.calm c3
  replace k1 := k1.trans c3
  clear hW2 c3 hs2 x0 x1 x2 x3
  refine (at_serial (HA.out.calm k1) HO.out).mono ?_
  rintro e w4 ⟨rfl, c4⟩
  replace o1 := o1.calm c4
  replace o2 := o2.calm c4
  replace o3 := o3.calm c4
  replace k1 := k1.trans c4
  clear c4
  have y0 := (o3 0 _ rfl).1
  have y1 := (o3 0 _ rfl).2
  have z0 := (o2 0 _ rfl).1
  have hI : NodeI w w.heap.size w1.heap.size (w1.heap.size + 1) o (.slice none 0 0) (.slice none 0 0) (ptI L (o.ps.take 0)) (nmI (o.ns.take 0)) (w4.setCell ⟨w1.heap.size + 1, 0, none⟩ (.int .i64 o.ser)) := by
    have hs : Fr (fun b => b = w1.heap.size + 1) w4 (w4.setCell ⟨w1.heap.size + 1, 0, none⟩ (.int .i64 o.ser)) := (Fr.refl (fun b => b = w1.heap.size + 1) w4).setCell (p := ⟨w1.heap.size + 1, 0, none⟩) (.inl rfl) _
    exact ⟨o1.fr hs (by omega), o2.fr hs (by omega), o3.set 0 _ (by simp), ORow.nil _ _, ORow.nil _ _, fun b hb => absurd hb (InB.nil b), k1.join hs (by intro b h1 h2; omega), hlt, by omega, Nat.le_refl _⟩
  clear o1 o2 o3 k1
  obtain ⟨R, hR⟩ : ∃ R, w.heap.size = R := ⟨_, rfl⟩
  obtain ⟨S, hS⟩ : ∃ S, w1.heap.size = S := ⟨_, rfl⟩
  rw [hR, hS] at hI
  rw [hS] at y0 y1 z0
  rw [hR, hS]
  clear hlt
  replace hR := hid hR
  clear hS
  have hI0 : NodeP w R S o L 0 (w4.setCell ⟨S + 1, 0, none⟩ (.int .i64 o.ser)) := ⟨_, hI⟩
  clear hI
  go_wp2_with fail
  clear y0 y1 z0
  go_loopw [45] (fun i wr => ∃ k : Nat, k ≤ o.p ∧ i = .int .i64 k ∧ NodeP w R S o L k wr) (fun i _ => o.p - (intOf i).toNat)
  case atStart => exact ⟨0, Nat.zero_le _, rfl, hI0⟩
  case round =>
    clear hI0
    obtain ⟨k, hk, rfl, vp, hI⟩ := hrel
    rcases Nat.lt_or_ge k o.p with hlt | hge
    · have hap := hid (fun W (cw : Calm wr W) => at_ptr (HA.out.calm (hI.calm.trans cw)) HO.out (i := k) hlt)
      have hq : o.ps.getD k 0 ≤ 131072 := HO.out.ok.ptr hlt
      have hstep : Hid (ptI L (o.ps.take (k + 1)) = ptI L (o.ps.take k) ++ [ixOf L (o.ps.getD k 0)]) := by
        show ptI L (o.ps.take (k + 1)) = _
        rw [take_succ_getD o.ps (by rw [HO.out.ok.lp]; exact hlt)]; simp [ptI]
      have hln : Hid ((ptI L (o.ps.take k)).length = k) := by show (ptI L (o.ps.take k)).length = k; rw [ptI_length, List.length_take, HO.out.ok.lp]; omega
      replace hI := hid hI
      generalize ptI L (o.ps.take k) = lp at *
      generalize o.ps.getD k 0 = q at *
      go_wp2_with fail
      refine (hap.out _ (Fr.refl _ _)).mono ?_
      rintro e w5 ⟨rfl, c5⟩
      have hI5 := hid (hI.out.to c5)
      have hC5 := hid (HC.out.calm hI5.out.calm)
      clear hI hap c5
      go_wp2_with fail
      have q6 : ∀ w', Calm w5 w' → w'.cell? ⟨S + 1, 6, none⟩ = some vp := fun w' c => ((hI5.out.n.calm c) 6 _ rfl).1
      have c6 : Calm w5 w5.drew := (Fr.refl _ _).drew
      refine wp_region_helds 4 6 (fun w' => Calm w5 w') (by kernel_rfl) (by kernel_rfl) c6 ?_
      generalize w5.drew = w6 at *
      refine heldList_step (.pointer (some ⟨S + 1, 6, none⟩)) rfl (fun w' hw' => ?_) (fun _ _ _ h => h) ?_
      · go_simp
      refine heldList_step vp rfl (fun w' hw' => ?_) (fun _ _ _ h => h) ?_
      · have h1 := q6 w' hw'
        go_simp
      refine heldList_step (.pointer (some ⟨cp, 0, none⟩)) rfl (fun w' hw' => ?_) (fun _ _ _ h => h) ?_
      · go_simp
      refine heldList_step (.int .i64 q) rfl (fun w' hw' => ?_) (fun _ _ _ h => h) ?_
      · go_simp
      clear q6
      have hI6 := hid (hI5.out.to c6)
      have hC6 := hid (hC5.out.calm c6)
      refine heldSeq_step rfl ?_
      unfold Oper.wp
      go_simp
      refine (index_is hC6.out q hq).mono ?_
      rintro e w' ⟨rfl, rfl⟩
      refine ⟨c6, ?_⟩
      refine heldSeq_step rfl ?_
      unfold Oper.wp
      go_simp
      refine ⟨c6.alloc _, ?_⟩
      simp only [heldSeq]
      refine wpList_app1 rfl _ _ rfl (S + 1 + 1) vp lp hI6.out.p rfl (ixOf L q) rfl (by rw [hln.out]; omega) (by have := hI6.out.n.lt (by simp); omega) ?_
      intro g gc w7 hr7 hf7 hg7
      have hn7 := ((hI6.out.n.fr hf7 (fun hx => by have := (hI6.out.p.lt hx).1; omega)) 6 _ rfl)
      have u0 := hn7.1
      have u1 := hn7.2
      have hI7 := hid (hI6.out.ptr hr7 hf7 hg7)
      clear hn7
      replace hr7 := hid hr7
      replace hf7 := hid hf7
      replace hg7 := hid hg7
      go_wp2
      go_roundw
      case rel => exact ⟨k + 1, by omega, by go_num, _, by rw [hstep.out]; exact hI7.out⟩
      case measure => simp [intOf]; omega
    · obtain rfl : k = o.p := by omega
      have hT : o.ps.take o.p = o.ps := List.take_of_length_le (by rw [HO.out.ok.lp]; omega)
      rw [hT] at hI
      have hI0 : NodeQ w R S o L 0 wr := ⟨_, _, hI⟩
      have z1 := (hI.s 1 _ rfl).1
      clear hT hI hge hk
      go_wp2
      clear z1
      go_loopw [70] (fun i wr => ∃ k : Nat, k ≤ o.d ∧ i = .int .i64 k ∧ NodeQ w R S o L k wr) (fun i _ => o.d - (intOf i).toNat)
      case atStart => exact ⟨0, Nat.zero_le _, rfl, hI0⟩
      case round =>
        clear hI0
        obtain ⟨k, hk, rfl, vp, vn, hI⟩ := hrel
        rcases Nat.lt_or_ge k o.d with hlt | hge
        · have hap := hid (fun W (cw : Calm wr W) => at_num (HA.out.calm (hI.calm.trans cw)) HO.out (i := k) hlt)
          have hstep : Hid (nmI (o.ns.take (k + 1)) = nmI (o.ns.take k) ++ [zt (o.ns.getD k 0)]) := by
            show nmI (o.ns.take (k + 1)) = _
            rw [take_succ_getD o.ns (by rw [HO.out.ok.ln]; exact hlt)]; simp [nmI]
          have hln : Hid ((nmI (o.ns.take k)).length = k) := by show (nmI (o.ns.take k)).length = k; rw [nmI_length, List.length_take, HO.out.ok.ln]; omega
          replace hI := hid hI
          generalize nmI (o.ns.take k) = ln at *
          generalize zt (o.ns.getD k 0) = q at *
          go_wp2_with fail
          refine (hap.out _ (Fr.refl _ _)).mono ?_
          rintro e w5 ⟨rfl, c5⟩
          have hI6 := hid (hI.out.to c5)
          have z7 := (hI6.out.n 7 _ rfl).1
          clear hI hap c5
          go_wp2_with (at_builtin; refine wpList_app1 rfl _ _ rfl (S + 1 + 1) vn ln hI6.out.q rfl q rfl (by rw [hln.out]; omega) (by have := hI6.out.n.lt (by simp); omega) ?_; intro g gc w7 hr7 hf7 hg7; have hn7 := ((hI6.out.n.fr hf7 (fun hx => by have := (hI6.out.q.lt hx).1; omega)) 7 _ rfl); have u0 := hn7.1; have u1 := hn7.2; have hI7 := hid (hI6.out.num hr7 hf7 hg7); clear hn7; replace hr7 := hid hr7; replace hf7 := hid hf7; replace hg7 := hid hg7)
          go_roundw
          case rel => exact ⟨k + 1, by omega, by go_num, _, _, by rw [hstep.out]; exact hI7.out⟩
          case measure => simp [intOf]; omega
        · obtain rfl : k = o.d := by omega
          have hT : o.ns.take o.d = o.ns := List.take_of_length_le (by rw [HO.out.ok.ln]; omega)
          rw [hT] at hI
          obtain ⟨pa, pn, pc, rfl⟩ := hI.p.letters
          obtain ⟨qa, qn, qc, rfl⟩ := hI.q.letters
          have x0 := (hI.n 0 _ rfl).1
          have x1 := (hI.n 1 _ rfl).1
          have x2 := (hI.n 2 _ rfl).1
          have x3 := (hI.n 3 _ rfl).1
          have x4 := (hI.n 4 _ rfl).1
          have x5 := (hI.n 5 _ rfl).1
          have x6 := (hI.n 6 _ rfl).1
          have x7 := (hI.n 7 _ rfl).1
          have lt := hI.n.lt (by simp)
          have y0 := (hI.r 0 _ rfl).1
          have z0 := (hI.r 0 _ rfl).2
          have y1 := (hI.r 1 _ rfl).1
          have z1 := (hI.r 1 _ rfl).2
          have y2 := (hI.r 2 _ rfl).1
          have z2 := (hI.r 2 _ rfl).2
          have y3 := (hI.r 3 _ rfl).1
          have z3 := (hI.r 3 _ rfl).2
          have y4 := (hI.r 4 _ rfl).1
          have z4 := (hI.r 4 _ rfl).2
          have y5 := (hI.r 5 _ rfl).1
          have z5 := (hI.r 5 _ rfl).2
          have y6 := (hI.r 6 _ rfl).1
          have z6 := (hI.r 6 _ rfl).2
          have y7 := (hI.r 7 _ rfl).1
          have z7 := (hI.r 7 _ rfl).2
          replace hI := hid hI
          go_wp2
          have o9 := OwnL.set8 hI.out.r (.int .i64 o.ser) (.int .i64 o.p) (.int .i64 o.d) (.bool o.wk) (.bool o.fn) (.bool o.fr) (.slice pa pn pc) (.slice qa qn qc)
          generalize World.setCell _ (⟨R, 7, none⟩ : Addr) _ = w9 at *
          obtain ⟨o9, f9⟩ := o9
          clear x0 x1 x2 x3 x4 x5 x6 x7 y0 y1 y2 y3 y4 y5 y6 y7 z0 z1 z2 z3 z4 z5 z6 z7
          have x0 := (o9 0 _ rfl).1
          have x1 := (o9 1 _ rfl).1
          have x2 := (o9 2 _ rfl).1
          have x3 := (o9 3 _ rfl).1
          have x4 := (o9 4 _ rfl).1
          have x5 := (o9 5 _ rfl).1
          have x6 := (o9 6 _ rfl).1
          have x7 := (o9 7 _ rfl).1
          have hp9 := hI.out.p.frB f9 (fun b hb => by have := (hI.out.p.lt hb).1; have := hI.out.rs; omega)
          have hq9 := hI.out.q.frB f9 (fun b hb => by have := (hI.out.q.lt hb).1; have := hI.out.rs; omega)
          have hw9 : w.heap.size ≤ S + 2 := by have := hI.out.rs; have := hI.out.wR; omega
          refine bodyPost_ret (v := .tuple #[ndV o.ser o.p o.d o.wk o.fn o.fr (.slice pa pn pc) (.slice qa qn qc), .int .i64 0]) (by simp [results, Try.f98, go_sem, x0, x1, x2, x3, x4, x5, x6, x7]) rfl ⟨_, _, rfl, hp9.mono hw9, hq9.mono hw9, hI.out.a, hI.out.calm.join f9 (fun b h1 h2 => by have := hI.out.wR; omega)⟩

end Go.Proofs.Ytiomemdmhcdpbaa

namespace Go.Proofs.Ytiomemdmhcdpbaa
open Go.RowKit Go.Shelf Go.Maps

theorem info_nd : (Try.prog.info? 63).map (fun i => (i.zero, i.size, i.bytes)) = some (some (.agg #[.int .i64 0, .int .i64 0, .int .i64 0, .bool false, .bool false, .bool false, .slice none 0 0, .slice none 0 0]), 8, 88) := by kernel_rfl

/-- A node. -/
structure Nd where
  ser : Int
  p : Nat
  d : Nat
  wk : Bool
  fn : Bool
  fr : Bool
  ps : List Int
  ns : List Int
  deriving DecidableEq
def Ob.nd (o : Ob) (L : List Nat) : Nd := ⟨o.ser, o.p, o.d, o.wk, o.fn, o.fr, ptI L o.ps, nmI o.ns⟩
/-- A node in a row: the node, its slices. -/
structure NI where
  nd : Nd
  vp : Value
  vn : Value
def NI.cells (x : NI) : List Value := ndC x.nd.ser x.nd.p x.nd.d x.nd.wk x.nd.fn x.nd.fr x.vp x.vn
theorem NI.cells_length (x : NI) : x.cells.length = 8 := rfl
def NI.row (w : World) (base : Nat) (x : NI) : Prop := ORow w base x.vp x.nd.ps ∧ ORow w base x.vn x.nd.ns
/-- No block is both rows'. -/
def Aprt (a b : Value) : Prop := ∀ k, InB a k → ¬ InB b k
theorem Aprt.symm {a b : Value} (h : Aprt a b) : Aprt b a := fun k h1 h2 => h k h2 h1
/-- All slices of a row of nodes. -/
def nblk (v : Value) (ls : List NI) : List Value := v :: ls.flatMap fun x => [x.vp, x.vn]
structure NRow (w : World) (base : Nat) (v : Value) (ls : List NI) : Prop where
  own : w.ownsRow base 63 8 v ls.length (ls.flatMap NI.cells)
  item : ∀ x ∈ ls, x.row w base
  apart : (nblk v ls).Pairwise Aprt
theorem NRow.nil (w : World) (base : Nat) : NRow w base (.slice none 0 0) [] :=
  ⟨World.ownsRow_nil _ _ _ _, by simp, by simp [nblk]⟩
theorem own_frB {S : Nat → Prop} {w w' : World} {base : Nat} {e : TypeId} {size n : Nat} {v : Value} {xs : List Value} (h : w.ownsRow base e size v n xs) (f : Fr S w w') (hs : ∀ b, InB v b → ¬ S b) : w'.ownsRow base e size v n xs := by
  refine ⟨h.1, ?_⟩
  rcases h.2 with hn | ⟨g, cap, cur, hv, hb, hgg, rest⟩
  · exact .inl hn
  · exact .inr ⟨g, cap, cur, hv, hb, f.heapAt hgg (hs _ (by rw [hv]; rfl)), rest⟩
theorem NRow.fr {S : Nat → Prop} {w w' : World} {base : Nat} {v : Value} {ls : List NI} (h : NRow w base v ls) (f : Fr S w w') (hs : ∀ x ∈ nblk v ls, ∀ b, InB x b → ¬ S b) : NRow w' base v ls := by
  refine ⟨own_frB h.own f (hs v (by simp [nblk])), fun x hx => ⟨(h.item x hx).1.frB f (hs x.vp ?_), (h.item x hx).2.frB f (hs x.vn ?_)⟩, h.apart⟩
  · simp [nblk]; exact .inr ⟨x, hx, .inl rfl⟩
  · simp [nblk]; exact .inr ⟨x, hx, .inr rfl⟩
theorem NRow.calm {w w' : World} {base : Nat} {v : Value} {ls : List NI} (h : NRow w base v ls) (f : Calm w w') : NRow w' base v ls := h.fr f (fun _ _ _ _ => id)
theorem NRow.lt {w : World} {base : Nat} {v : Value} {ls : List NI} (h : NRow w base v ls) : ∀ x ∈ nblk v ls, ∀ b, InB x b → base ≤ b ∧ b < w.heap.size := by
  intro x hx b hb
  simp only [nblk, List.mem_cons, List.mem_flatMap] at hx
  rcases hx with rfl | ⟨y, hy, hx⟩
  · exact h.own.lt b hb
  · simp at hx
    rcases hx with rfl | rfl
    · exact (h.item y hy).1.lt hb
    · exact (h.item y hy).2.lt hb
theorem NRow.slice {w : World} {base : Nat} {v : Value} {ls : List NI} (h : NRow w base v ls) : ∃ a c, v = .slice a ls.length c := by
  rcases h.own.2 with ⟨rfl, h0⟩ | ⟨g, cap, cur, rfl, _⟩
  · exact ⟨none, 0, by rw [h0]⟩
  · exact ⟨_, _, rfl⟩
theorem NRow.letters {w : World} {base : Nat} {v : Value} {ls : List NI} (h : NRow w base v ls) : ∃ a n c, v = .slice a n c := by
  obtain ⟨a, c, e⟩ := h.slice; exact ⟨a, _, c, e⟩
theorem NRow.mono {w : World} {base base' : Nat} {v : Value} {ls : List NI} (h : NRow w base v ls) (hb : base' ≤ base) : NRow w base' v ls := by
  refine ⟨?_, fun x hx => ⟨(h.item x hx).1.mono hb, (h.item x hx).2.mono hb⟩, h.apart⟩
  refine ⟨h.own.1, ?_⟩
  rcases h.own.2 with hn | ⟨g, cap, cur, hv, hb', rest⟩
  · exact .inl hn
  · exact .inr ⟨g, cap, cur, hv, by omega, rest⟩

theorem cell_row_new (w : World) (xs : List Value) (t : TypeId) : ∀ j u, xs[j]? = some u → (w.alloc (.cells xs.toArray t)).cell? ((⟨w.heap.size, 0, none⟩ : Addr).add j) = some u := by
  intro j u hj
  rw [show ((⟨w.heap.size, 0, none⟩ : Addr).add j) = ⟨w.heap.size, j, none⟩ by rw [addr_at]; simp]
  rw [World.cell?_alloc_new]; simpa using hj

/-- One node more. -/
theorem wpList_appN {ops : Array Oper} {rest : List Oper} {o : Oper} {a : Act} {Q : Exit → Act → World → Prop} {w : World} (hgd : o.guard = none) (s x : Operand)
    (ho : o.op = .call { callee := .builtin .append, args := #[s, x], argTypes := #[59, 59] })
    (base : Nat) (v : Value) (ls : List NI) (hown : NRow w base v ls) (hs : a.eval s = v) (y : NI) (hpa : Aprt y.vp y.vn) (ha : ∀ z ∈ nblk v ls, Aprt z y.vp ∧ Aprt z y.vn) (hy : y.row w base)
    (c0 c1 c2 c3 c4 c5 c6 c7 : Value) (hcells : y.cells = [c0, c1, c2, c3, c4, c5, c6, c7]) (h1 : ∀ u ∈ y.cells, u.oneCell' = true)
    (nb : Nat) (hx : a.eval x = .slice (some ⟨nb, 0, none⟩) 1 1) (hnb : nb = w.heap.size) (hl : ls.length ≤ 1000000) (hbase : base ≤ w.heap.size)
    (h : ∀ g c w', NRow w' base (.slice (some ⟨g, 0, none⟩) (ls.length + 1) c) (ls ++ [y]) → Fr (InB v) w w' → (InB v g ∨ w.heap.size ≤ g) → wpList Try.prog ops Q rest (a.put o.dst (.slice (some ⟨g, 0, none⟩) (ls.length + 1) c)) w') :
    wpList Try.prog ops Q (o :: rest) a (w.alloc (.cells #[c0, c1, c2, c3, c4, c5, c6, c7] 63)) := by
  subst hnb
  obtain ⟨i0, hi, hz0, hz1, hz2⟩ := info_parts info_nd
  have hc : #[c0, c1, c2, c3, c4, c5, c6, c7] = y.cells.toArray := by rw [hcells]
  rw [hc]
  refine wpList_append_own_at _ hgd s x 59 ho base 63 i0 _ 8 88 Try.underlying59 hi hz0 hz1 hz2 rfl (by decide) v ls.length (ls.flatMap NI.cells) hs (World.ownsRow.alloc hown.own _) ⟨w.heap.size, 0, none⟩ 1 1 y.cells hx rfl (cell_row_new _ _ _) h1 (by unfold maxLen; omega) (by omega) (by simp; omega) ?_
  intro v' w' hown' hgrow _ hloc
  obtain ⟨g, c, rfl⟩ := ownsRow_succ hown'
  have hf : Fr (InB v) w w' := fr_of_grown1 hgrow
  have hg : InB v g ∨ w.heap.size ≤ g := by
    rcases hloc with hloc | hloc
    · exact .inl (hloc.symm.trans rfl)
    · right; simp [Value.ownBlock] at hloc; omega
  have hav : ∀ z ∈ ls.flatMap (fun x => [x.vp, x.vn]), Aprt v z := fun z hz => (List.pairwise_cons.1 hown.apart).1 z hz
  have hold : ∀ z ∈ ls.flatMap (fun x => [x.vp, x.vn]), ∀ k, InB z k → k < w.heap.size := fun z hz k hk => (hown.lt z (by simp only [nblk]; exact List.mem_cons_of_mem _ hz) k hk).2
  have hyv := ha v (by simp [nblk])
  refine h g c w' ⟨by simpa using hown', fun z hz => ?_, ?_⟩ hf hg
  · rcases List.mem_append.1 hz with hz | hz
    · have := hown.item z hz
      exact ⟨this.1.frB hf (fun b hb hv => hav z.vp (by simp; exact ⟨z, hz, .inl rfl⟩) b hv hb), this.2.frB hf (fun b hb hv => hav z.vn (by simp; exact ⟨z, hz, .inr rfl⟩) b hv hb)⟩
    · simp at hz; subst hz
      exact ⟨hy.1.frB hf (fun b hb hv => hyv.1 b hv hb), hy.2.frB hf (fun b hb hv => hyv.2 b hv hb)⟩
  · have hnew : ∀ z, Aprt v z → (∀ k, InB z k → k < w.heap.size) → Aprt (.slice (some ⟨g, 0, none⟩) (ls.length + 1) c) z := by
      intro z hz hlt k hk hk2
      obtain rfl := InB.mk1 hk
      rcases hg with hg | hg
      · exact hz _ hg hk2
      · have := hlt _ hk2; omega
    have he : nblk (.slice (some ⟨g, 0, none⟩) (ls.length + 1) c) (ls ++ [y]) = .slice (some ⟨g, 0, none⟩) (ls.length + 1) c :: (ls.flatMap (fun x => [x.vp, x.vn]) ++ [y.vp, y.vn]) := by simp [nblk]
    rw [he, List.pairwise_cons, List.pairwise_append]
    have hy1 : ∀ k, InB y.vp k → k < w.heap.size := fun k hk => (hy.1.lt hk).2
    have hy2 : ∀ k, InB y.vn k → k < w.heap.size := fun k hk => (hy.2.lt hk).2
    refine ⟨fun z hz => ?_, (List.pairwise_cons.1 hown.apart).2, by simp [hpa], fun z hz u hu => ?_⟩
    · rcases List.mem_append.1 hz with hz | hz
      · exact hnew z (hav z hz) (hold z hz)
      · simp at hz
        rcases hz with rfl | rfl
        · exact hnew _ hyv.1 hy1
        · exact hnew _ hyv.2 hy2
    · have := ha z (by simp only [nblk]; exact List.mem_cons_of_mem _ hz)
      simp at hu
      rcases hu with rfl | rfl
      · exact this.1
      · exact this.2

end Go.Proofs.Ytiomemdmhcdpbaa

namespace Go.Proofs.Ytiomemdmhcdpbaa
open Go.RowKit Go.Shelf Go.Maps

def ReachPost (w : World) (obj : Nat → Ob) (rs : List Nat) (e : Ending) (w' : World) : Prop :=
  ∃ v R, e = .returned (.tuple #[v, .int .i64 0]) ∧ ORow w' w.heap.size v (nI R) ∧ Bfs (strs obj) (addAll [] rs) 0 R ∧ Calm w w'

def CanonPost (w : World) (obj : Nat → Ob) (rs : List Nat) (e : Ending) (w' : World) : Prop :=
  ∃ vn vs R ls B2, e = .returned (.tuple #[vn, vs, .int .i64 0]) ∧ Bfs (strs obj) (addAll [] rs) 0 R ∧ NRow w' w.heap.size vn ls ∧ ls.map NI.nd = R.map (fun x => (obj x).nd R) ∧
    (∀ x ∈ nblk vn ls, ∀ b, InB x b → b < B2) ∧ ORow w' B2 vs (ptI R rs) ∧ w.heap.size ≤ B2 ∧ Calm w w'

def CanI (w : World) (obj : Nat → Ob) (R : List Nat) (v : Value) (k : Nat) (wr : World) : Prop :=
  ∃ ls, NRow wr w.heap.size v ls ∧ ls.map NI.nd = (R.take k).map (fun x => (obj x).nd R) ∧ Calm w wr
def StaI (w : World) (R rs : List Nat) (v : Value) (k : Nat) (wr : World) : Prop := ORow wr w.heap.size v (ptI R (rs.take k)) ∧ Calm w wr

set_option maxRecDepth 4000 in
set_option maxHeartbeats 2000000 in
theorem canon_yes {w : World} {b c : Nat} {xs : List Nat} (h : Ar w b c xs) {U : List Nat} {obj : Nat → Ob} (ho : Objs xs U obj) {rv : Value} {rs : List Nat} (hr : Row w rv (iVs (nI rs))) (hl : rs.length ≤ 100000) (hu : ∀ x ∈ rs, x ≠ 0 → x ∈ U) :
    Calls Try.prog 70 #[arV b, rv] w (CanonPost w obj rs) := by
  have HF := hid (from_yes h ho hr hl hu)
  have HA := hid h
  have HO := hid ho
  have HU := hid hu
  obtain ⟨ra, rc, rfl, hrk⟩ := hr.loop
  have HR := hid hrk
  have hln : Hid ((nI rs).length = rs.length) := by show (nI rs).length = rs.length; simp
  rw [hln.out] at HF ⊢
  obtain ⟨n, hn⟩ : ∃ n, rs.length = n := ⟨_, rfl⟩
  rw [hn] at hl HF ⊢
  replace hn := hid hn
  clear h ho hu hr hrk
  go_enter Try.func70, Try.ntmps70
  go_wp2_with fail
  refine (HF.out).mono ?_
  rintro e w1 ⟨p, m, v, R, rfl, hcm, hb, hc, hnw⟩
  have hul := HO.out.len
  have hRU : Hid (∀ x ∈ R, x ∈ U) := by
    refine hb.within (U := fun x => x ∈ U) HO.out.str (fun x hx => ?_)
    rcases mem_addAll.1 hx with h | ⟨h1, h2⟩
    · cases h
    · exact HU.out x h1 h2
  have hRl := nodup_length hcm.nodup hRU.out
  obtain ⟨sa, sc, rfl⟩ := hcm.row.sliceN (n := R.length) (by simp)
  have p0 := hcm.places.1
  have HC := hid hcm
  have HB := hid hb
  have hI0 : CanI w1 obj R (.slice none 0 0) 0 w1 := ⟨[], NRow.nil _ _, rfl, Fr.refl _ _⟩
  obtain ⟨r, hr⟩ : ∃ r, R.length = r := ⟨_, rfl⟩
  rw [hr] at hRl p0 HC
  replace hr := hid hr
  clear hcm hb HF hnw
  go_wp2
  clear p0
  go_loopw [9, 31] (fun v i wr => ∃ k : Nat, k ≤ r ∧ i = .int .i64 k ∧ CanI w1 obj R v k wr) (fun _ i _ => r - (intOf i).toNat)
  case atStart => exact ⟨0, Nat.zero_le _, rfl, hI0⟩
  case round =>
    clear hI0
    obtain ⟨k, hk, rfl, ls, hN, hls, hcr⟩ := hrel
    rcases Nat.lt_or_ge k r with hlt | hge
    · have hkR : k < R.length := by rw [hr.out]; exact hlt
      obtain ⟨g, gc, hv, _, hg0, _⟩ := (HC.out.row.calm hcr).get (k := k) (by simpa using hkR)
      injection hv with hv1 hv2 hv3
      subst hv1
      rw [show (nI R).getD k 0 = ((R.getD k 0 : Nat) : Int) by simp [List.getD, hkR]] at hg0
      have hx : R.getD k 0 ∈ U := hRU.out _ (by simp [List.getD, hkR])
      have hstep : Hid ((R.take (k + 1)).map (fun x => (obj x).nd R) = (R.take k).map (fun x => (obj x).nd R) ++ [(obj (R.getD k 0)).nd R]) := by
        show (R.take (k + 1)).map _ = _
        rw [take_succ_getD R hkR]; simp
      have hS := hid (node_yes (HA.out.calm (hc.trans hcr)) (HO.out.at_ _ hx) (HC.out.calm hcr))
      have hlsl : ls.length = k := by have := congrArg List.length hls; simpa [Nat.min_eq_left (Nat.le_of_lt hkR)] using this
      replace hlsl := hid hlsl
      replace hls := hid hls
      replace hN := hid hN
      clear hv2 hv3 hkR
      generalize R.getD k 0 = x at *
      obtain ⟨o, hox⟩ : ∃ o, obj x = o := ⟨_, rfl⟩
      rw [hox] at hS hstep
      clear hox
      obtain ⟨va, vk, vc, rfl⟩ := hN.out.letters
      go_wp2_with fail
      refine (hS.out).mono ?_
      rintro e w2 ⟨vp, vn, rfl, hvp, hvn, hap, c2⟩
      obtain ⟨pa, pn, pc, rfl⟩ := hvp.letters
      obtain ⟨qa, qn, qc, rfl⟩ := hvn.letters
      have hlt2 : Hid (w1.heap.size ≤ wr.heap.size) := hcr.size
      have hN2 := hid (hN.out.calm (c2.alloc (.cells #[.int .i64 o.ser, .int .i64 o.p, .int .i64 o.d, .bool o.wk, .bool o.fn, .bool o.fr, .slice pa pn pc, .slice qa qn qc] 63)))
      have hold := hid hN.out.lt
      have hy1 := hid hvp
      have hy2 := hid hvn
      replace hap := hid hap
      have o12 := OwnL.new w2 (ndC o.ser o.p o.d o.wk o.fn o.fr (.slice pa pn pc) (.slice qa qn qc)) 63
      have x0 := (o12 0 _ rfl).1
      have x1 := (o12 1 _ rfl).1
      have x2 := (o12 2 _ rfl).1
      have x3 := (o12 3 _ rfl).1
      have x4 := (o12 4 _ rfl).1
      have x5 := (o12 5 _ rfl).1
      have x6 := (o12 6 _ rfl).1
      have x7 := (o12 7 _ rfl).1
      have c3 : Calm w2 (w2.alloc (.cells #[.int .i64 o.ser, .int .i64 o.p, .int .i64 o.d, .bool o.wk, .bool o.fn, .bool o.fr, .slice pa pn pc, .slice qa qn qc] 63)) := (Fr.refl _ _).alloc _
      have hy : Hid (NI.row (w2.alloc (.cells #[.int .i64 o.ser, .int .i64 o.p, .int .i64 o.d, .bool o.wk, .bool o.fn, .bool o.fr, .slice pa pn pc, .slice qa qn qc] 63)) w1.heap.size ⟨o.nd R, .slice pa pn pc, .slice qa qn qc⟩) := ⟨(hy1.out.calm c3).mono hlt2.out, (hy2.out.calm c3).mono hlt2.out⟩
      have ha : Hid (∀ z ∈ nblk (.slice va vk vc) ls, Aprt z (.slice pa pn pc) ∧ Aprt z (.slice qa qn qc)) := fun z hz => ⟨fun k h1 h2 => by have := (hold.out z hz k h1).2; have := (hy1.out.lt h2).1; omega, fun k h1 h2 => by have := (hold.out z hz k h1).2; have := (hy2.out.lt h2).1; omega⟩
      have hb3 : Hid (w1.heap.size ≤ (w2.alloc (.cells #[.int .i64 o.ser, .int .i64 o.p, .int .i64 o.d, .bool o.wk, .bool o.fn, .bool o.fr, .slice pa pn pc, .slice qa qn qc] 63)).heap.size) := Nat.le_trans hlt2.out (c2.trans c3).size
      have hcr3 : Calm w1 (w2.alloc (.cells #[.int .i64 o.ser, .int .i64 o.p, .int .i64 o.d, .bool o.wk, .bool o.fn, .bool o.fr, .slice pa pn pc, .slice qa qn qc] 63)) := hcr.trans (c2.trans c3)
      clear hold hy1 hy2 o12 hlt2 hcr c3
      go_wp2_with (at_builtin; go_must (refine wpList_appN rfl _ _ rfl w1.heap.size (.slice va vk vc) ls hN2.out rfl ⟨o.nd R, .slice pa pn pc, .slice qa qn qc⟩ hap.out ha.out hy.out _ _ _ _ _ _ _ _ rfl (by simp [NI.cells, Value.oneCell']) _ rfl (by simp) (by have := hlsl.out; omega) hb3.out ?_); intro g4 c4 w4 hN4 hF4 hg4; replace hN4 := hid hN4; replace hF4 := hid hF4; replace hg4 := hid hg4)
      go_roundw
      case rel =>
        refine ⟨k + 1, by omega, by go_num, _, hN4.out, by rw [hstep.out, List.map_append, hls.out]; rfl, hcr3.join hF4.out (fun j h1 h2 => ?_)⟩
        have := (hN2.out.lt (.slice va vk vc) (by simp [nblk]) j h2).1
        omega
      case measure => simp [intOf]; omega
    · obtain rfl : k = r := by omega
      have hT : R.take k = R := List.take_of_length_le (by rw [hr.out]; omega)
      rw [hT] at hls
      have hI0 : StaI wr R rs (.slice none 0 0) 0 wr := ⟨by simpa [ptI] using ORow.nil _ _, Fr.refl _ _⟩
      have hN2 := hid hN
      have hls2 := hid hls
      obtain ⟨va, vk, vc, rfl⟩ := hN2.out.letters
      have hcr2 := hid hcr
      clear hT hN hls hge hk
      go_wp2
      go_loopw [14, 52] (fun v i wx => ∃ k : Nat, k ≤ n ∧ i = .int .i64 k ∧ StaI wr R rs v k wx) (fun _ i _ => n - (intOf i).toNat)
      case atStart => exact ⟨0, Nat.zero_le _, rfl, hI0⟩
      case round =>
        rename_i wx0 _
        clear hI0
        obtain ⟨j, hj, rfl, hS, hcx⟩ := hrel
        rcases Nat.lt_or_ge j n with hlt | hge
        · have hjr : j < rs.length := by rw [hn.out]; exact hlt
          obtain ⟨rb, roff, rfl, hrb, hcell⟩ := HR.out j (by simpa using hjr)
          replace hcell := ((hc.trans hcr2.out).trans hcx).cellAt (p := ⟨rb, roff + j, none⟩) hcell id
          rw [show (nI rs).getD j 0 = ((rs.getD j 0 : Nat) : Int) by simp [List.getD, hjr]] at hcell
          have hmem : rs.getD j 0 ∈ rs := by simp [List.getD, hjr]
          have hq : rs.getD j 0 ≤ 131072 := by
            by_cases e : rs.getD j 0 = 0
            · omega
            · exact HO.out.le _ (HU.out _ hmem e)
          have hstep : Hid (ptI R (rs.take (j + 1)) = ptI R (rs.take j) ++ [ixOf R (rs.getD j 0)]) := by
            show ptI R (rs.take (j + 1)) = _
            rw [take_succ_getD rs hjr]; simp [ptI]
          have hll : Hid ((ptI R (rs.take j)).length = j) := by show (ptI R (rs.take j)).length = j; rw [ptI_length]; simp; omega
          have hC := hid (HC.out.calm (hcr2.out.trans hcx))
          replace hS := hid hS
          clear hmem hjr
          generalize ptI R (rs.take j) = l at *
          generalize rs.getD j 0 = q at *
          obtain ⟨sa, sn, sc2, rfl⟩ := hS.out.letters
          have hcs := hid hcx.size
          go_wp2_with (first | (go_at_call 99; refine (index_is hC.out q hq).mono ?_; rintro e w' ⟨rfl, rfl⟩) | (at_builtin; go_must (refine wpList_app1 rfl _ _ rfl _ _ l hS.out rfl (ixOf R q) rfl (by rw [hll.out]; omega) hcs.out ?_); intro g4 c4 w4 hN4 hF4 hg4; replace hN4 := hid hN4; replace hF4 := hid hF4; replace hg4 := hid hg4))
          go_roundw
          case rel =>
            refine ⟨j + 1, by omega, by go_num, by rw [hstep.out]; exact hN4.out, hcx.join hF4.out (fun j h1 h2 => ?_)⟩
            have := (hS.out.lt h2).1
            omega
          case measure => simp [intOf]; omega
        · obtain rfl : j = n := by omega
          have hT : rs.take j = rs := List.take_of_length_le (by rw [hn.out]; omega)
          rw [hT] at hS
          have hN3 := hid (hN2.out.calm hcx)
          obtain ⟨sa, sn, sc2, rfl⟩ := hS.letters
          replace hS := hid hS
          go_wp2
          go_ret3
          refine ⟨_, _, R, ls, _, rfl, HB.out, hN3.out.mono hc.size, hls2.out, fun x hx b hb => (hN2.out.lt x hx b hb).2, hS.out, Nat.le_trans hc.size hcr2.out.size, (hc.trans hcr2.out).trans hcx⟩

end Go.Proofs.Ytiomemdmhcdpbaa

namespace Go.Proofs.Ytiomemdmhcdpbaa
open Go.RowKit Go.Shelf Go.Maps
def Nd.val (x : Nd) (vp vn : Value) : Value := ndV x.ser x.p x.d x.wk x.fn x.fr vp vn
def NdPost (x y : Nd) (w : World) (e : Ending) (w' : World) : Prop := e = .returned (.bool (decide (x = y))) ∧ Calm w w'

end Go.Proofs.Ytiomemdmhcdpbaa

namespace Go.Proofs.Ytiomemdmhcdpbaa
open Go.RowKit Go.Shelf Go.Maps

instance : Inhabited NI := ⟨⟨⟨0, 0, 0, false, false, false, [], []⟩, undef, undef⟩⟩
/-- A slice of nodes, to be read. -/
structure NItem (w : World) (b at_ : Nat) (x : NI) : Prop where
  c0 : w.cell? ⟨b, at_, none⟩ = some (.int .i64 x.nd.ser)
  c1 : w.cell? ⟨b, at_ + 1, none⟩ = some (.int .i64 x.nd.p)
  c2 : w.cell? ⟨b, at_ + 2, none⟩ = some (.int .i64 x.nd.d)
  c3 : w.cell? ⟨b, at_ + 3, none⟩ = some (.bool x.nd.wk)
  c4 : w.cell? ⟨b, at_ + 4, none⟩ = some (.bool x.nd.fn)
  c5 : w.cell? ⟨b, at_ + 5, none⟩ = some (.bool x.nd.fr)
  c6 : w.cell? ⟨b, at_ + 6, none⟩ = some x.vp
  c7 : w.cell? ⟨b, at_ + 7, none⟩ = some x.vn
  p : Row w x.vp (iVs x.nd.ps)
  n : Row w x.vn (iVs x.nd.ns)
theorem NItem.calm {w w' : World} {b a : Nat} {x : NI} (h : NItem w b a x) (f : Calm w w') : NItem w' b a x :=
  ⟨f.cellAt h.c0 id, f.cellAt h.c1 id, f.cellAt h.c2 id, f.cellAt h.c3 id, f.cellAt h.c4 id, f.cellAt h.c5 id, f.cellAt h.c6 id, f.cellAt h.c7 id, h.p.calm f, h.n.calm f⟩
def NSee (w : World) (v : Value) (ls : List NI) : Prop :=
  ∃ a c, v = .slice a ls.length c ∧ ∀ k, k < ls.length → ∃ b off, a = some ⟨b, off, none⟩ ∧ NItem w b (off + k * 8) (ls.getD k default)
theorem NSee.calm {w w' : World} {v : Value} {ls : List NI} (h : NSee w v ls) (f : Calm w w') : NSee w' v ls := by
  obtain ⟨a, c, hv, h⟩ := h
  exact ⟨a, c, hv, fun k hk => by obtain ⟨b, off, ha, hi⟩ := h k hk; exact ⟨b, off, ha, hi.calm f⟩⟩
/-- Not too long. -/
def NFew (ls : List NI) : Prop := ls.length ≤ 1000000 ∧ ∀ x ∈ ls, x.nd.ps.length ≤ 1000000 ∧ x.nd.ns.length ≤ 1000000

theorem NFew.of_map {ls : List NI} {nds : List Nd} (h : ls.map NI.nd = nds) (h1 : nds.length ≤ 1000000) (h2 : ∀ x ∈ nds, x.ps.length ≤ 1000000 ∧ x.ns.length ≤ 1000000) : NFew ls :=
  ⟨by rw [← h] at h1; simpa using h1, fun x hx => h2 x.nd (by rw [← h]; exact List.mem_map_of_mem hx)⟩

theorem flat_get : ∀ (ls : List NI) (k : Nat), k < ls.length → ∀ j, j < 8 → (ls.flatMap NI.cells)[k * 8 + j]? = (ls.getD k default).cells[j]?
  | [], k, h, _, _ => by simp at h
  | x :: ls, 0, _, j, hj => by
    rw [List.flatMap_cons, Nat.zero_mul, Nat.zero_add, List.getElem?_append_left (by rw [NI.cells_length]; exact hj)]; rfl
  | x :: ls, k + 1, h, j, hj => by
    rw [List.flatMap_cons, List.getElem?_append_right (by rw [NI.cells_length]; omega), NI.cells_length, show (k + 1) * 8 + j - 8 = k * 8 + j by omega, flat_get ls k (by simpa using h) j hj]; rfl
theorem NRow.see {w : World} {base : Nat} {v : Value} {ls : List NI} (h : NRow w base v ls) : NSee w v ls := by
  obtain ⟨a, c, hv⟩ := h.slice
  refine ⟨a, c, hv, fun k hk => ?_⟩
  rcases h.own.2 with ⟨_, h0⟩ | ⟨g, cap, cur, hv2, _, hg, hn, _, hcur, hx⟩
  · omega
  · rw [hv] at hv2
    injection hv2 with h1
    have hc : ∀ j, j < 8 → w.cell? ⟨g, k * 8 + j, none⟩ = (ls.getD k default).cells[j]? := fun j hj => by
      have : w.cell? ⟨g, k * 8 + j, none⟩ = cur[k * 8 + j]? := by simp [World.cell?, hg]
      rw [this, ← flat_get ls k hk j hj, ← hx, List.getElem?_take, if_pos (by omega)]; simp
    have hm : ls.getD k default ∈ ls := by simp [List.getD, hk]
    refine ⟨g, 0, h1, ?_⟩
    rw [Nat.zero_add]
    exact ⟨hc 0 (by omega), hc 1 (by omega), hc 2 (by omega), hc 3 (by omega), hc 4 (by omega), hc 5 (by omega), hc 6 (by omega), hc 7 (by omega), (h.item _ hm).1.row, (h.item _ hm).2.row⟩

def NdsPost (la lb : List NI) (w : World) (e : Ending) (w' : World) : Prop := e = .returned (.bool (decide (la.map NI.nd = lb.map NI.nd))) ∧ Calm w w'

end Go.Proofs.Ytiomemdmhcdpbaa
