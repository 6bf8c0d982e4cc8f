/- Layer 11's small helpers: pick, the example. -/
import Derived.Test.YtiomemdmhcdpbaaCycS
import Derived.Test.YtiomemdmhcdpbaaLaw10
import Derived.Test.YtiomemdmhcdpbaaOpen2
import Derived.Test.YtiomemdmhcdpbaaLay
set_option linter.unusedSimpArgs false
set_option linter.unusedVariables false
namespace Go.Proofs.Ytiomemdmhcdpbaa
open Go.RowKit Go.Shelf

theorem pick11 (c n : Int) (w : World) (hc : I64 c) (hn : 0 < n) :
    Calls Try.prog 22 #[.int .i64 c, .int .i64 n] w fun e w' => e = .returned (.int .i64 (pk c n)) ∧ w = w' := by
  obtain ⟨h1, h2⟩ := hc
  have hn0 : (n == 0) = false := by simp; omega
  by_cases h : c < 0
  · have h0 : 0 ≤ -(c + 1) := by omega
    have hp : Hid (pk c n = (-(c + 1)) % n) := by unfold pk; rw [if_pos h]; rfl
    go_enter Try.func22, Try.ntmps22
    go_wp2
    go_ret
    refine ⟨?_, rfl⟩
    show Ending.returned (.int .i64 (-(Int.tmod (c + 1) n))) = _
    rw [hp.out, ← Int.neg_tmod, Int.tmod_eq_emod_of_nonneg h0]
  · have h0 : 0 ≤ c := by omega
    have hp : Hid (pk c n = c % n) := by unfold pk; rw [if_neg h]; rfl
    go_enter Try.func22, Try.ntmps22
    go_wp2
    go_ret
    exact ⟨by rw [hp.out]; rfl, rfl⟩

attribute [local go_sem] run_nf_nf run_fn_nf run_store_fv run_store_nf
set_option maxHeartbeats 1000000 in
theorem start_no {w : World} {b1 c hp ph : Nat} {rv lv : Value} {rd ls : List Nat} (h : CyAt w b1 c hp ph rv lv rd ls) (hph : ph ≠ 0) (v : Value) : Calls Try.prog 23 #[pV c, v] w fun e w' => e = .returned (.tuple #[.slice none 0 0, .bool false]) ∧ w = w' := by
  have y1 := h.c1.1
  obtain ⟨f, x, y, e⟩ : ∃ f x y, phV c ph = .func f x y := by
    match ph, hph with
    | 1, _ => exact ⟨_, _, _, rfl⟩
    | n + 2, _ => exact ⟨_, _, _, rfl⟩
  rw [e] at y1
  clear h e
  go_enter Try.func23, Try.ntmps23
  go_wp2
  go_ret2
  exact ⟨rfl, rfl⟩
/-- There are no more objects here than serials. -/
theorem WF.cur_len {s : HS} {X : List Nat} (h : WF s) (hr : HRep s X) : s.cur.length ≤ s.ser := by
  have h1 : (s.cur.map (·.2.ser)).Nodup := by
    have hn := plc_nodup hr
    unfold List.Nodup at hn ⊢
    rw [List.pairwise_iff_getElem] at hn ⊢
    intro i j hi hj hij e
    have hi2 : i < s.cur.length := by simpa using hi
    have hj2 : j < s.cur.length := by simpa using hj
    have := h.unC _ (List.getElem_mem hi2) _ (List.getElem_mem hj2) (by simpa using e)
    refine hn i j (by simpa [plc] using hi2) (by simpa [plc] using hj2) hij ?_
    simp [plc, this]
  have h2 : ∀ x ∈ s.cur.map (·.2.ser), x ∈ List.range' 1 s.ser := fun x hx => by
    obtain ⟨y, hy, rfl⟩ := List.mem_map.1 hx
    have := h.serC y hy
    rw [List.mem_range'_1]; omega
  have := nodup_length h1 h2
  simpa using this
/-- A row beside a cycle and its heap. -/
theorem CKeep.row {w w' : World} {c : Nat} {rv lv rv' lv' : Value} {BA BA' : HB} {base : Nat} {u : Value} {l : List Int} (k : CKeep w c rv lv BA w' rv' lv' BA') (h : ORow w base u l) (ha : ∀ b, InB u b → ¬ HBlk BA b ∧ ¬ CyB c rv lv b) : ORow w' base u l ∧ ∀ b, InB u b → ¬ HBlk BA' b ∧ ¬ CyB c rv' lv' b :=
  ⟨h.frB k.fr (fun b hb e => e.elim (ha b hb).2 (ha b hb).1), fun b hb => ⟨fun e => (k.new b e).elim (ha b hb).1 (fun e => by have := (h.lt hb).2; omega), fun e => (k.cnew b e).elim (ha b hb).2 (fun e => by have := (h.lt hb).2; omega)⟩⟩
theorem PhS.zeros {σ : Nat → Nat} {A B : HS} {X : List Nat} (h : Pair σ A B [0, 0, 0, 0] [0, 0, 0, 0] 4) (hA : HRep A X) (hm : A.mv = false) : PhS σ A.flip B [0, 0, 0, 0] [0, 0, 0, 0] 4 [0, 0, 0, 0] 0 := by
  have hz : 0 ∉ opl A.flip.old := fun e => by
    obtain ⟨x, hx, e⟩ := List.mem_map.1 e
    have hx : x ∈ A.cur.map fun x => (x.1, x.2, (none : Option Nat)) := hx
    obtain ⟨y, hy, rfl⟩ := List.mem_map.1 hx
    have := h.tw.wa.posC y hy
    simp only at e; omega
  have g : GoesL A.flip [0, 0, 0, 0] A.flip [0, 0, 0, 0] := .snoc (l := [0, 0, 0]) (l' := [0, 0, 0]) (.snoc (l := [0, 0]) (l' := [0, 0]) (.snoc (l := [0]) (l' := [0]) (.snoc (l := []) (l' := []) .nil (.stay hz)) (.stay hz)) (.stay hz)) (.stay hz)
  exact (PhS.flip h hA hm).movedL (hA.flip hm) g

def sC1 : HS := ⟨40, false, false, [(1, oA)], [], 0, 1, [], []⟩
def sC2 : HS := ⟨40, true, true, [], [(1, oA, none)], 41, 1, [], []⟩
def sC3 : HS := ⟨40, true, true, [(41, oA)], [(1, oA, some 41)], 41, 1, [], []⟩
theorem sC1_eq : (HS.start 40).alloc 1 0 false false = sC1 := rfl
theorem sC2_eq : sC1.flip = sC2 := rfl
theorem sC_goes {A1 : HS} {l1 : List Nat} (g : GoesL sC2 [1, 0] A1 l1) : A1 = sC3 ∧ l1 = [41, 0] := by
  obtain ⟨l', s1, q, g1, g2, rfl⟩ := GoesL.snoc_inv (l := [1]) (p := 0) g
  obtain ⟨l2, s2, q2, g3, g4, rfl⟩ := GoesL.snoc_inv (l := []) (p := 1) g1
  obtain ⟨rfl, rfl⟩ := g3.of_nil
  obtain ⟨rfl, rfl⟩ : s1 = sC3 ∧ q2 = 41 := by
    cases g4 with
    | stay h => exact absurd (show 1 ∈ opl sC2.old by decide) h
    | gone c =>
      rename_i i o
      have h1 := c.lt; have h2 := c.get
      obtain rfl : i = 0 := by have : sC2.old.length = 1 := rfl; omega
      have h3 : (1, oA, none) = (1, o, some q2) := h2
      cases h3
    | move c =>
      rename_i i o
      have h1 := c.lt
      obtain rfl : i = 0 := by have : sC2.old.length = 1 := rfl; omega
      exact ⟨rfl, rfl⟩
  obtain ⟨rfl, rfl⟩ := g2.stay_inv (by decide)
  exact ⟨rfl, rfl⟩
theorem FinQ.nil {σ : Nat → Nat} {A B : HS} {R S G : List Nat} {k : Nat} {A' : HS} {l' : List Nat} (h : FinQ σ A B R S G k A' l') (hf : A.fin = []) : l' = [] ∧ A'.fin = [] := by
  obtain ⟨st, lf, h1, h2, h3, h4⟩ := h.set
  obtain ⟨rfl, rfl⟩ := h1.nil_inv hf
  exact ⟨h2.of_nil.2, h3⟩
theorem DropQ.nil {σ : Nat → Nat} {A B : HS} {R S G : List Nat} {A' : HS} {ls : List Nat} (h : DropQ σ A B R S G A' ls) (hf : A.weak = []) : ls = [] := by
  obtain ⟨stw, stf, l1, l2, s', h0, h1, h2, h3, h4, h5, h6⟩ := h.set
  obtain ⟨rfl, rfl⟩ := h3.nil_inv hf
  exact (h6.nil_inv rfl).2

set_option maxRecDepth 100000 in
set_option maxHeartbeats 4000000 in
theorem awake11 (w : World) :
    Calls Try.prog 19 #[] w fun e w' => e = .returned (.bool true) ∧ Calm w w' := by
  have ok : Hid (okS 1 0 false false) := ⟨by decide, by decide, fun h => by cases h⟩
  go_enter Try.func19, Try.ntmps19
  go_wp2_with fail
  refine (hnew_yes _ 40 (by decide) (by decide)).mono ?_
  rintro e w1 ⟨B, rfl, h1, c1, n1⟩
  replace h1 := hid h1
  go_wp2_with fail
  refine (cnew_yes _ B.hp).mono ?_
  rintro e w2 ⟨rfl, hy, c2⟩
  have hap : ∀ k, CyB w1.heap.size (.slice none 0 0) (.slice none 0 0) k → ¬ HBlk B k := fun k hk e => by
    have := h1.out.lt k e
    rcases hk with hk | hk | hk
    · omega
    · exact InB.nil _ hk
    · exact InB.nil _ hk
  obtain ⟨c, hc⟩ : ∃ c, w1.heap.size = c := ⟨_, rfl⟩
  rw [hc] at hy hap ⊢
  have hcw : w.heap.size ≤ c := by rw [← hc]; exact c1.size
  have H2 := hid (⟨h1.out.calm c2, hy, hap⟩ : CH w2 c c B (HS.start 40) _ 0 _ _ [] [])
  have c12 := hid (c1.trans c2)
  have n1' := hid n1
  replace hcw := hid hcw
  clear hap hy hc n1 c1 c2
  go_wp2_with fail
  refine (cnew_nil _).mono ?_
  rintro e w3 ⟨rfl, rfl⟩
  go_wp2_with fail
  have C := halloc_yes H2.out.ha ok.out (by show rnd 4 ≤ (40 : Int) - ((0 : Nat) : Int) - ((0 : Nat) : Int); decide) (by decide) ⟨by decide, by decide⟩
  refine (C).mono ?_
  rintro e w3 ⟨rfl, B3, X3, h3, k3⟩
  rw [show ((HS.start 40).top : Int) = 1 from rfl]
  rw [sC1_eq] at h3
  have H3 := H2.out.stepA h3 k3
  have kk3 := hid (CKeep.stepA (c := c) (rv := .slice none 0 0) (lv := .slice none 0 0) k3)
  have hP1 : Hid (Pair id sC1 (HS.start 16000) [0, 0, 0, 0] [0, 0, 0, 0] 4) := (Pair.start 40).allocA h1.out.rep (by rw [sC1_eq]; exact h3.rep)
  have hPh := hid (PhS.zeros hP1.out h3.rep rfl)
  have hr3 := hid (h3.rep.flip (s := sC1) rfl)
  have hlit := ORow.lit w3 0 [1, 0] (Nat.zero_le _) (by decide)
  have ca : Calm w3 (w3.alloc (.cells (iVs [1, 0]).toArray 3)) := (Fr.refl _ _).alloc _
  have hst := hid (start_yes (H3.calm ca) rfl (v := .slice (some ⟨w3.heap.size, 0, none⟩) 2 2) (l := [1, 0]) (fun W f => (hlit.frB f (fun b hb e => by
    have hb := InB.mk1 hb
    subst hb
    rcases e with e | e
    · have := (H3.cy.lt c (.inl rfl)).1; omega
    · have := H3.ha.lt _ e; omega)).row) (fun p hp => by simp at hp; omega) (by decide) (fun p hp => by cases hp) (by decide))
  have kk4 := hid (kk3.out.trans (CKeep.calm ca))
  have hsz3 := hid ca.size
  clear C h3 k3 H3 hlit ca
  go_wp2_with fail
  refine hst.out.mono ?_
  rintro e w5 ⟨u, A1, A2, l1, rd1, B5, X5, rv5, rfl, g1, g2, H5, k5, hu, hua⟩
  obtain ⟨rfl, rfl⟩ := g2.of_nil
  have g1 : GoesL sC2 [1, 0] A2 l1 := g1
  have hPh5 := PhS.goesL (X := X3) hPh.out hr3.out g1
  obtain ⟨rfl, rfl⟩ := sC_goes g1
  replace kk4 := hid (kk4.out.trans k5)
  obtain ⟨ua, uc, rfl⟩ := hu.sliceN (n := 2) rfl
  have hsn := hid (start_no H5.cy (by decide) (.slice none 0 0))
  have hlv := hid (live_is H5.cy)
  have hS1 := hid (step1_is H5 hPh5 (by decide))
  replace hu := hid hu
  replace hua := hid hua
  clear hst hPh hr3 g1 g2 k5 hsz3
  go_wp2_with fail
  refine (hsn.out).mono ?_
  rintro e w6 ⟨rfl, rfl⟩
  go_wp2_with fail
  refine (hlv.out).mono ?_
  rintro e w6 ⟨rfl, rfl⟩
  go_wp2_with fail
  refine hS1.out.mono ?_
  rintro e w6 ⟨rfl, B6, A6, X6, rv6, k6, hcase⟩
  obtain ⟨_, H6, hPh6, hkp6, hf6, hw6⟩ := hcase.resolve_right (fun ⟨hx, _⟩ => absurd hx (by decide))
  have hl6 : A6.cur.length = 1 := by
    have h1 := hPh6.pr.tw.wa.cur_len H6.ha.rep
    have h2 : A6.ser = 1 := hkp6.ser
    have h3 := hPh6.pg.1
    omega
  have hf6' : A6.fin = [] := hf6
  have hw6' : A6.weak = [] := hw6
  obtain ⟨hu6, hua6⟩ := k6.row hu.out hua.out
  have hS2 := hid (step1_is H6 hPh6 (by decide))
  replace kk4 := hid (kk4.out.trans k6)
  have hser6 := hid hkp6.ser
  clear hS1 H5 hPh5 hlv hsn hu hua k6 H6 hPh6 hkp6 hf6 hw6
  replace hu6 := hid hu6
  replace hua6 := hid hua6
  replace hl6 := hid hl6
  go_wp2_with fail
  refine hS2.out.mono ?_
  rintro e w7 ⟨rfl, B7, A7, X7, rv7, k7, hcase⟩
  obtain ⟨_, l', H7, hq7⟩ := hcase.resolve_left (fun ⟨hx, _⟩ => absurd hl6.out (by omega))
  obtain ⟨rfl, hf7⟩ := hq7.nil hf6'
  have hw7 : A7.weak = [] := hq7.weak.trans hw6'
  have hl7 : A7.cur.length = 1 := by
    have h1 := hq7.ph.pr.tw.wa.cur_len H7.ha.rep
    have h2 : A7.ser = 1 := hq7.kp.ser.trans hser6.out
    have h3 := hq7.ph.pg.1
    omega
  obtain ⟨hu7, hua7⟩ := k7.row hu6.out hua6.out
  have hS3 := hid (step2_is H7 hq7.ph (by decide))
  replace kk4 := hid (kk4.out.trans k7)
  clear hS2 hu6 hua6 hl6 k7 H7 hq7 hf6' hw6' hf7 hser6
  replace hu7 := hid hu7
  replace hua7 := hid hua7
  replace hl7 := hid hl7
  go_wp2_with fail
  refine hS3.out.mono ?_
  rintro e w8 ⟨b, B8, A8, X8, lv8, rfl, k8, hcase⟩
  obtain ⟨rfl, _, ls0, H8, hq8⟩ := hcase.resolve_left (fun ⟨_, hx, _⟩ => absurd hl7.out (by omega))
  obtain rfl := hq8.nil hw7
  obtain ⟨hu8, hua8⟩ := k8.row hu7.out hua7.out
  replace kk4 := hid (kk4.out.trans k8)
  have hI8 := hid (fun W (cw : Calm w8 W) (v : Value) (hv : Row W v (iVs [41, 0])) => ints08 (.slice ua 2 uc) v [41, 0] [41, 0] W (hu8.calm cw).row hv (by decide) (by decide))
  have hcy8 := hid H8.cy
  have hn8 : Hid (Calm w w8) := c12.out.join kk4.out.fr (fun k hk e => by
    rcases e with (e | e | e) | e
    · have := hcw.out; omega
    · exact InB.nil _ e
    · exact InB.nil _ e
    · have := n1'.out k e; omega)
  clear hS3 hu7 hua7 hl7 k8 H8 hq8 hw7 hu8 hua8 kk4 c12
  go_wp2_with fail
  refine (hI8.out _ ((Fr.refl _ _).alloc _) _ (Row.new _ (iVs [41, 0]) _ _)).mono ?_
  rintro e w9 ⟨rfl, c9⟩
  have k9 : Calm w8 w9 := Fr.trans ((Fr.refl _ _).alloc _) c9
  have hcy9 := hcy8.out.calm k9
  have hlv9 := hid (live_is hcy9)
  have hrd9 := hid (ready_is hcy9)
  have hn9 := hid (hn8.out.trans k9)
  clear c9 k9 hcy9 hI8 hn8 hcy8
  go_wp2_with fail
  refine (hlv9.out).mono ?_
  rintro e w10 ⟨rfl, rfl⟩
  go_wp2_with fail
  refine (hrd9.out).mono ?_
  rintro e w11 ⟨rfl, hcy11, hr11, f11⟩
  obtain ⟨ra, rc, rfl⟩ := hr11.sliceN (n := 0) rfl
  have hls11 := hid (lost_is hcy11)
  have hn11 : Hid (Calm w w11) := hn9.out.join f11 (fun k hk (e : k = c) => by have := hcw.out; omega)
  clear hlv9 hrd9 hcy11 hr11 f11
  go_wp2_with fail
  refine (hls11.out).mono ?_
  rintro e w12 ⟨rfl, hcy12, hr12, f12⟩
  obtain ⟨la, lc, rfl⟩ := hr12.sliceN (n := 0) rfl
  have hn12 : Hid (Calm w w12) := hn11.out.join f12 (fun k hk (e : k = c) => by have := hcw.out; omega)
  clear hls11 hcy12 hr12 f12
  go_wp2
  go_ret
  exact ⟨rfl, hn12.out⟩

end Go.Proofs.Ytiomemdmhcdpbaa
