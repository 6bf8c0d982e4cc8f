/- Layer 4's small helpers: pick, same, the example. -/
import Derived.Test.YtflegkhpnepfhaaClass
set_option linter.unusedSimpArgs false
set_option linter.unusedVariables false
namespace Go.Proofs.Ytflegkhpnepfhaa
open Go.RowKit Go.Shelf
attribute [local go_sem] Oper.semAt_some

theorem pick04 (c n : Int) (w : World) (hc : I64 c) (hn : 0 < n) :
    Calls Try.prog 12 #[.int .i64 c, .int .i64 n] w fun e w' => e = .returned (.int .i64 (pk c n)) ∧ w = w' := by
  obtain ⟨h1, h2⟩ := hc
  have hn0 : (n == 0) = false := by simp; omega
  by_cases h : c < 0
  · have h0 : 0 ≤ -(c + 1) := by omega
    have hp : Hid (pk c n = (-(c + 1)) % n) := by unfold pk; rw [if_pos h]; rfl
    go_enter Try.func12, Try.ntmps12
    go_wp2
    go_ret
    refine ⟨?_, rfl⟩
    show Ending.returned (.int .i64 (-(Int.tmod (c + 1) n))) = _
    rw [hp.out, ← Int.neg_tmod, Int.tmod_eq_emod_of_nonneg h0]
  · have h0 : 0 ≤ c := by omega
    have hp : Hid (pk c n = c % n) := by unfold pk; rw [if_neg h]; rfl
    go_enter Try.func12, Try.ntmps12
    go_wp2
    go_ret
    exact ⟨by rw [hp.out]; rfl, rfl⟩

theorem same04_ne (a b : Option Addr) (n m ca cb : Nat) (w : World) (h : n ≠ m) (_hn : n ≤ 1000000) (_hm : m ≤ 1000000) :
    Calls Try.prog 25 #[.slice a n ca, .slice b m cb] w fun e w' => e = .returned (.bool false) ∧ Calm w w' := by
  have hne : ((n : Int) == (m : Int)) = false := by simp; omega
  have hne2 : ((n : Int) != (m : Int)) = true := by simp; omega
  go_enter Try.func25, Try.ntmps25
  go_wp2
  go_ret
  exact ⟨rfl, Fr.refl _ _⟩

def SamePost (xs ys : List Int) (w : World) (e : Ending) (w' : World) : Prop := e = .returned (.bool (decide (xs = ys))) ∧ Calm w w'

set_option maxHeartbeats 400000 in
theorem same04_eq (b0 o0 b1 o1 ca cb : Nat) (a0 a1 : Option Addr) (xs ys : List Int) (n : Nat) (w : World) (hx : xs.length = n) (hy : ys.length = n) (hn : n ≤ 1000000)
    (h0 : 0 < n → a0 = some ⟨b0, o0, none⟩) (h1 : 0 < n → a1 = some ⟨b1, o1, none⟩)
    (hc0 : ∀ i, i < n → w.cell? ⟨b0, o0 + i, none⟩ = some (.int .i64 (xs.getD i 0))) (hc1 : ∀ i, i < n → w.cell? ⟨b1, o1 + i, none⟩ = some (.int .i64 (ys.getD i 0))) :
    Calls Try.prog 25 #[.slice a0 n ca, .slice a1 n cb] w (SamePost xs ys w) := by
  have HX : Hid (xs.length = n) := hx
  have HY : Hid (ys.length = n) := hy
  have H0 : Hid (0 < n → a0 = some ⟨b0, o0, none⟩) := h0
  have H1 : Hid (0 < n → a1 = some ⟨b1, o1, none⟩) := h1
  have C0 : Hid (∀ i, i < n → w.cell? ⟨b0, o0 + i, none⟩ = some (.int .i64 (xs.getD i 0))) := hc0
  have C1 : Hid (∀ i, i < n → w.cell? ⟨b1, o1 + i, none⟩ = some (.int .i64 (ys.getD i 0))) := hc1
  clear hx hy h0 h1 hc0 hc1
  have hne : ((n : Int) == (n : Int)) = true := by simp
  have hne2 : ((n : Int) != (n : Int)) = false := by simp
  go_enter Try.func25, Try.ntmps25
  go_wp2
  go_loopw [5] (fun i wr => ∃ k : Nat, k ≤ n ∧ i = .int .i64 k ∧ Calm w wr ∧ ∀ j, j < k → xs.getD j 0 = ys.getD j 0) (fun i _ => n - (intOf i).toNat)
  case atStart => exact ⟨0, by omega, rfl, Fr.refl _ _, fun j hj => absurd hj (by omega)⟩
  case round =>
    obtain ⟨k, hk, rfl, hc, he⟩ := hrel
    have HE : Hid (∀ j, j < k → xs.getD j 0 = ys.getD j 0) := he
    clear he
    by_cases hlt : k < n
    · have q0 := H0.out (by omega)
      have q1 := H1.out (by omega)
      subst q0 q1
      have d0 : wr.cell? ⟨b0, o0 + k, none⟩ = some (.int .i64 (xs.getD k 0)) := hc.cellAt (C0.out k hlt) id
      have d1 : wr.cell? ⟨b1, o1 + k, none⟩ = some (.int .i64 (ys.getD k 0)) := hc.cellAt (C1.out k hlt) id
      obtain ⟨x, hx⟩ : ∃ x, xs.getD k 0 = x := ⟨_, rfl⟩
      obtain ⟨y, hy⟩ : ∃ y, ys.getD k 0 = y := ⟨_, rfl⟩
      rw [hx] at d0
      rw [hy] at d1
      have HX1 : Hid (xs.getD k 0 = x) := hx
      have HY1 : Hid (ys.getD k 0 = y) := hy
      clear hx hy
      by_cases hxy : x = y
      · subst hxy
        go_wp2
        go_quiet (fail)
        go_wp2
        go_roundw
        case rel => exact ⟨k + 1, by omega, by go_num, hc.drewN _, fun j hj => by
          by_cases e : j = k
          · subst e; rw [HX1.out, HY1.out]
          · exact HE.out j (by omega)⟩
        case measure => simp [intOf]; omega
      · have hb : (x == y) = false := by simpa using hxy
        have hb2 : (x != y) = true := by simpa using hxy
        go_wp2
        go_quiet (fail)
        go_wp2
        go_ret
        refine ⟨?_, ?_⟩
        · have : decide (xs = ys) = false := by simp; rintro rfl; exact hxy (HX1.out.symm.trans HY1.out)
          rw [this]; rfl
        · exact hc.drewN _
    · obtain rfl : k = n := by omega
      go_wp2
      go_ret
      have : decide (xs = ys) = true := by
        simp
        refine List.ext_getElem (by rw [HX.out, HY.out]) (fun i h1 h2 => ?_)
        have := HE.out i (by rw [← HX.out]; exact h1)
        simpa [List.getD, h1, h2] using this
      exact ⟨by rw [this]; rfl, hc⟩

theorem same04 (a b : Value) (xs ys : List Int) (w : World) (ha : Row w a (xs.map (Value.int .i64))) (hb : Row w b (ys.map (Value.int .i64))) (hx : xs.length ≤ 1000000) (hy : ys.length ≤ 1000000) :
    Calls Try.prog 25 #[a, b] w (SamePost xs ys w) := by
  obtain ⟨b0, o0, c0, ha, hca⟩ := ha.ints
  obtain ⟨b1, o1, c1, hb, hcb⟩ := hb.ints
  by_cases hl : xs.length = ys.length
  · obtain ⟨a0, c0', rfl, hp0⟩ : ∃ a0 c0', a = .slice a0 xs.length c0' ∧ (0 < xs.length → a0 = some ⟨b0, o0, none⟩) := by
      rcases ha with rfl | ⟨a', rfl, rfl⟩
      · exact ⟨_, _, rfl, fun _ => rfl⟩
      · exact ⟨a', _, rfl, fun h => by simp at h⟩
    obtain ⟨a1, c1', rfl, hp1⟩ : ∃ a1 c1', b = .slice a1 xs.length c1' ∧ (0 < xs.length → a1 = some ⟨b1, o1, none⟩) := by
      rcases hb with rfl | ⟨b', rfl, rfl⟩
      · exact ⟨_, _, by rw [hl], fun _ => rfl⟩
      · simp at hl; subst hl; exact ⟨b', _, rfl, fun h => by simp at h⟩
    exact same04_eq b0 o0 b1 o1 _ _ a0 a1 xs ys xs.length w rfl hl.symm hx hp0 hp1 hca (fun i hi => hcb i (by omega))
  · obtain ⟨a0, c0', rfl⟩ : ∃ a0 c0', a = .slice a0 xs.length c0' := by
      rcases ha with rfl | ⟨a', rfl, rfl⟩
      · exact ⟨_, _, rfl⟩
      · exact ⟨a', _, rfl⟩
    obtain ⟨a1, c1', rfl⟩ : ∃ a1 c1', b = .slice a1 ys.length c1' := by
      rcases hb with rfl | ⟨b', rfl, rfl⟩
      · exact ⟨_, _, rfl⟩
      · exact ⟨b', _, rfl⟩
    refine (same04_ne a0 a1 _ _ _ _ w hl hx hy).mono ?_
    rintro e w' ⟨rfl, hc⟩
    have : decide (xs = ys) = false := by simp; rintro rfl; exact hl rfl
    exact ⟨by rw [this], hc⟩

theorem info_int : (Try.prog.info? 3).map (fun i => (i.zero, i.size, i.bytes)) = some (some (.int .i64 0), 1, 8) := by kernel_rfl

def szs (k : Nat) : List Value := (List.range k).map fun i => Value.int .i64 (sz i)
theorem szs_succ (k : Nat) : szs (k + 1) = szs k ++ [Value.int .i64 (sz k)] := by simp [szs, List.range_succ]

def S9I1 (w : World) (k : Nat) (a : Act) (W : World) : Prop :=
  Own W w.heap.size 0 (.int .i64 9) ∧ (∃ v, Own W (w.heap.size + 1) 0 v ∧ W.ownsRow (w.heap.size + 4) 3 1 v k (szs k)) ∧ Calm w W ∧ k ≤ 3 ∧
  a = { tmps := #[Value.int IntKind.i64 9, Value.pointer (some { block := w.heap.size, off := 0 }), Value.slice none 0 0, Value.pointer (some { block := w.heap.size + 1, off := 0 }), undef, .int .i64 (sz k), Value.int IntKind.i64 9, Value.bool false, Value.int IntKind.i64 9, Value.int IntKind.i64 9, Value.func (Fn.func 30) #[] #[], .int .i64 (k : Nat), .int .i64 (sz k), undef, undef, undef, undef, undef, undef, undef, undef], defers := [] }

set_option maxHeartbeats 1000000 in
theorem sizes9 (w : World) :
    Calls Try.prog 26 #[.int .i64 9] w fun e w' => ∃ v, e = .returned v ∧ Row w' v ([4, 6, 8, 12].map (Value.int .i64)) ∧ Calm w w' := by
  obtain ⟨i0, hi, hz0, hz1, hz2⟩ := info_parts info_int
  refine (callsIn_wide (n := 9)).1 ?_
  refine callsIn_of_wp_marks Try.func26 rfl trivial ?_ rfl
  simp only [Try.ntmps26, List.size_toArray, List.length_cons, List.length_nil, Nat.reduceAdd, Nat.reduceSub, Array.replicate_succ, Array.replicate_zero, List.push_toArray, List.append_toArray, List.nil_append, List.cons_append]
  gi_wp2_with (refine ⟨trivial, ?_⟩; gi_at_call 29; refine (sizes_in _ _ _ trivial rfl).mono ?_; rintro e w' ⟨rfl, rfl⟩)

  obtain ⟨W0, hW0⟩ : ∃ W0, ((w.alloc (Obj.cells #[Value.int IntKind.i64 9] 3)).alloc (Obj.cells #[Value.slice none 0 0] 35)) = W0 := ⟨_, rfl⟩
  have i1 : Own W0 w.heap.size 0 (.int .i64 9) := by rw [← hW0]; exact (Own.new w _ _ 0 rfl).alloc _
  have i2 : Own W0 (w.heap.size + 1) 0 (.slice none 0 0) := by rw [← hW0]; exact Own.at (w.alloc _) _ _ _ 0 (by simp) rfl
  have i4 : W0.heap.size = w.heap.size + 2 := by rw [← hW0]; simp
  have i5 : Calm w W0 := by rw [← hW0]; exact ((Fr.refl _ w).alloc _).alloc _
  rw [hW0]
  refine wpIn_rangeAt (g := .tmp 10) rfl (by decide) (gf := 30) (lb := #[]) rfl trivial (enters_of Try.func30 (by kernel_rfl) rfl)
    (sizes1_seq 8 (by decide) 4 (by decide) (fun _ => False) W0) (Keeps.refl _ _) (fun _ h => h.elim) (fun _ => rfl)
    (fun k W => Own W w.heap.size 0 (.int .i64 9) ∧ (∃ v, Own W (w.heap.size + 1) 0 v ∧ W.ownsRow (w.heap.size + 4) 3 1 v k (szs k)) ∧ Calm w W ∧ k ≤ 3)
    (S9I1 w)
    (fun c W => c = .exit 0 ∧ (∃ v, Own W (w.heap.size + 1) 0 v ∧ W.ownsRow (w.heap.size + 4) 3 1 v 4 (szs 4)) ∧ Calm w W)
    ?hI ?hI1 ?hIx ?hN ?h0 ?assign ?body ?done ?stop
  case hI =>
    rintro k A B ⟨a1, ⟨v2, a2, a3⟩, a4, a5⟩ hl
    exact ⟨a1.fr hl (by simp; omega), ⟨v2, a2.fr hl (by simp; omega), ownsRow_fr a3 hl (by intro k hk; simp; omega)⟩, a4.join hl (by simp; omega), a5⟩
  case hI1 =>
    rintro k a' A B ⟨a1, ⟨v2, a2, a3⟩, a4, a5⟩ hl
    exact ⟨a1.fr hl (by simp; omega), ⟨v2, a2.fr hl (by simp; omega), ownsRow_fr a3 hl (by intro k hk; simp; omega)⟩, a4.join hl (by simp; omega), a5⟩
  case hIx =>
    rintro c A B ⟨a1, ⟨v2, a2, a3⟩, a4⟩ hl
    exact ⟨a1, ⟨v2, a2.fr hl (by simp; omega), ownsRow_fr a3 hl (by intro k hk; simp; omega)⟩, a4.join hl (by simp; omega)⟩
  case hN =>
    rintro _ W ⟨_, _, _, h⟩
    omega
  case h0 => exact ⟨i1, ⟨_, i2, World.ownsRow_nil _ _ _ _⟩, i5, by omega⟩
  case assign =>
    rintro l k W hk ⟨a1, ⟨v2, a2, a3⟩, a4, a5⟩ hs
    gi_wp2
    exact ⟨Keeps.refl _ _, a1, ⟨v2, a2, a3⟩, a4, a5, rfl⟩
  case body =>
    rintro l k a W hk ⟨a1, ⟨v2, a2, a3⟩, a4, a5, rfl⟩ hs
    have b1 := a1.1
    have b2 := a2.1
    have b3 := a2.2
    gi_wp2_with (gi_at_builtin; refine wpListIn_append_own _ rfl _ _ 35 rfl (w.heap.size + 4) 3 i0 (.int .i64 0) 1 8 Try.underlying35 hi hz0 hz1 hz2 rfl (by decide) _ _ _ rfl (a3.alloc _) ⟨W.heap.size, 0, none⟩ 1 1 [.int .i64 (sz k)] rfl rfl (cell_one_new _ _ _) (by simp [Value.oneCell']) (by unfold maxLen; omega) (by omega) (by simp; omega) ?_; intro v' w1 hown' hgrow _; obtain ⟨g', cap', rfl⟩ := ownsRow_succ hown'; have hF := Fr.append1 a3 hgrow; have c1 := (a1.fr hF (by omega)).1; have c2 := (a2.fr hF (by omega)).1; have c3 := (a2.fr hF (by omega)).2; have hF2 : Hid (Fr (fun b => b = w.heap.size + 1 ∨ w.heap.size + 4 ≤ b) W w1) := hF.mono (fun _ _ h => .inr h); clear hF hgrow)
    all_goals
      have hV : Fr (fun b => b = w.heap.size + 1 ∨ w.heap.size + 4 ≤ b) W (w1.setCell ⟨w.heap.size + 1, 0, none⟩ (.slice (some ⟨g', 0, none⟩) (k + 1) cap')) := hF2.out.setCell (.inl (.inl rfl)) _
      have hb : Own (w1.setCell ⟨w.heap.size + 1, 0, none⟩ (.slice (some ⟨g', 0, none⟩) (k + 1) cap')) (w.heap.size + 1) 0 (.slice (some ⟨g', 0, none⟩) (k + 1) cap') := Own.set ⟨c2, c3⟩ _
      have hr : (w1.setCell ⟨w.heap.size + 1, 0, none⟩ (.slice (some ⟨g', 0, none⟩) (k + 1) cap')).ownsRow (w.heap.size + 4) 3 1 (.slice (some ⟨g', 0, none⟩) (k + 1) cap') (k + 1) (szs (k + 1)) := by
        rw [szs_succ]; exact ownsRow_setCell_below hown' (by simp) _
      have hcm : Calm w (w1.setCell ⟨w.heap.size + 1, 0, none⟩ (.slice (some ⟨g', 0, none⟩) (k + 1) cap')) := a4.join hV (by intro b h1 h2; omega)
    · rename_i hge
      have e3 : k = 3 := by
        match k, a5, hge with
        | 0, _, h => exact absurd h (by decide)
        | 1, _, h => exact absurd h (by decide)
        | 2, _, h => exact absurd h (by decide)
        | 3, _, _ => rfl
      subst e3
      exact ⟨Keeps.of_fr hV (by simp; omega), rfl, ⟨_, hb, hr⟩, hcm⟩
    · rename_i hlt
      have e3 : k ≠ 3 := by rintro rfl; exact absurd hlt (by decide)
      exact ⟨Keeps.of_fr hV (by simp; omega), a1.fr hV (by simp), ⟨_, hb, hr⟩, hcm, by omega⟩
  case done =>
    rintro W hf
    cases hf
  case stop =>
    rintro c W ⟨rfl, ⟨v2, a2, a3⟩, a4⟩ hD
    have b1 := a2.1
    have b2 := a2.2
    gi_wp2
    refine ⟨by simp, .inl ⟨_, _, rfl, run_takeDeferred hD, ?_⟩⟩
    have hp : Fr (fun b => b = W0.heap.size) W (W.putObj W0.heap.size (.deferred none)) := (Fr.refl (fun b => b = W0.heap.size) W).putObj (.inl rfl) _
    exact ⟨_, results_tmp rfl _ _ _, _, rfl, Row.of_owns (ownsRow_fr a3 hp (by intro b hb; omega)), a4.join hp (by intro b h1 h2; omega)⟩

theorem awake04 (w : World) :
    Calls Try.prog 11 #[] w fun e w' => e = .returned (.bool true) ∧ Calm w w' := by
  have c5 : Hid (cls 5 = 1) := by show cls 5 = 1; decide
  have r5 : Hid (rnd 5 = 6) := by show rnd 5 = 6; decide
  go_enter Try.func11, Try.ntmps11
  go_wp2_with fail
  refine (round_yes 5 (by decide) (by decide) _).mono ?_
  rintro e w1 ⟨rfl, q1⟩
  rw [r5.out]
  go_wp2_with fail
  refine (class_yes 5 (by decide) (by decide) _).mono ?_
  rintro e w2 ⟨rfl, q2⟩
  rw [c5.out]
  go_wp2_with fail
  refine (sizes9 _).mono ?_
  rintro e w3 ⟨v, rfl, hv, q3⟩
  go_wp2_with fail
  refine (same04 v _ [4, 6, 8, 12] [4, 6, 8, 12] _ (hv.calm (Fr.alloc (Fr.refl _ _) _)) (Row.new w3 ([4, 6, 8, 12].map (Value.int .i64)) 3 4) (by decide) (by decide)).mono ?_
  rintro e w4 ⟨rfl, q4⟩
  go_wp2
  go_ret
  exact ⟨rfl, ((q1.trans q2).trans (q3.trans (Fr.alloc (Fr.refl _ _) _))).trans q4⟩

end Go.Proofs.Ytflegkhpnepfhaa
