/- What the functions of package mover return: Walk. -/
import Derived.Test.YtcacbbfeenebbaaMover5
import Derived.OwnWalkIn
set_option linter.unusedSimpArgs false
set_option linter.unusedVariables false
namespace Go.Proofs.Ytcacbbfeenebbaa
open Go.RowKit Go.Shelf
attribute [local go_sem] Oper.semAt_some

def WalkI (w : World) (l : List (Nat × Ob)) (k : Nat) (W : World) : Prop :=
  (∃ v, Own W (w.heap.size + 1) 0 v ∧ ORow W (w.heap.size + 6) v (nI (plc (l.take k)))) ∧ Calm w W ∧ k ≤ l.length
def WalkI1 (w : World) (b : Nat) (B S T : Nat) (l : List (Nat × Ob)) (k : Nat) (a : Act) (W : World) : Prop :=
  WalkI w l k W ∧ a = { tmps := #[arV b, spV B S T, undef, .pointer (some ⟨w.heap.size, 0, none⟩), .slice none 0 0, .pointer (some ⟨w.heap.size + 1, 0, none⟩), .int .i64 (begs B l k : Nat), arV b, spV B S T,
    .func (.func 85) #[] #[.pointer (some ⟨w.heap.size + 1 + 1 + 1, 0, none⟩), .pointer (some ⟨w.heap.size + 1 + 1, 0, none⟩)], .int .i64 (begs B l k : Nat), undef, undef, undef, undef, undef], defers := [] }
theorem WalkI.fr {S : Nat → Prop} {w A A' : World} {l : List (Nat × Ob)} {k : Nat} (h : WalkI w l k A) (f : Fr S A A') (hs : ∀ j, S j → j = w.heap.size + 4 ∨ j = w.heap.size + 5) : WalkI w l k A' := by
  obtain ⟨⟨v, h1, h2⟩, h3, h4⟩ := h
  exact ⟨⟨v, h1.fr f (fun hh => by have := hs _ hh; omega), h2.fr f (fun j hj hh => by have := hs _ hh; omega)⟩, h3.join f (fun j hj hh => by have := hs _ hh; omega), h4⟩

theorem plc_succ (l : List (Nat × Ob)) {xs : List Nat} {B T : Nat} (hl : Lie xs B T l) {k : Nat} (hk : k < l.length) : nI (plc (l.take (k + 1))) = nI (plc (l.take k)) ++ [((begs B l k : Nat) : Int)] := by
  have := (Lie.at hl k hk).1
  rw [List.take_succ_eq_append_getElem hk]
  simp [List.getD, hk] at this
  simp only [plc, nI, List.map_append, List.map_cons, List.map_nil, this]

def WalkPost (w : World) (l : List (Nat × Ob)) (e : Ending) (w' : World) : Prop := ∃ v, e = .returned v ∧ ORow w' w.heap.size v (nI (plc l)) ∧ Calm w w'

set_option maxRecDepth 4000 in
set_option maxHeartbeats 2000000 in
theorem walk_is {w : World} {b c : Nat} {xs : List Nat} (h : Ar w b c xs) (B S T : Nat) (hok : okP B S T) (l : List (Nat × Ob)) (hl : Lie xs B T l) :
    Calls Try.prog 37 #[arV b, spV B S T] w (WalkPost w l) := by
  obtain ⟨i0, hi, hz0, hz1, hz2⟩ := info_parts info_int
  refine (callsIn_wide (n := 9)).1 ?_
  refine callsIn_of_wp_marks Try.func37 rfl trivial ?_ rfl
  simp only [Try.ntmps37, List.size_toArray, List.length_cons, List.length_nil, Nat.reduceAdd, Nat.reduceSub, Array.replicate_succ, Array.replicate_zero, List.push_toArray, List.append_toArray, List.nil_append, List.cons_append]
  gi_wp2_with (refine ⟨trivial, ?_⟩; gi_at_call 68; refine (objects_in _ _ _ b B S T trivial rfl).mono ?_; rintro e w' ⟨rfl, rfl⟩)
  have H := hid h
  have HL := hid hl
  have HOK := hid hok
  have hlen : l.length ≤ 40000 := by have := hl.le; obtain ⟨_, _, _, _, _, _⟩ := hok; omega
  have hbl := h.lt
  have hcl : c < w.heap.size := by obtain ⟨_, ⟨t, ht⟩, _⟩ := h; exact (Array.getElem?_eq_some_iff.1 ht).1
  clear h hl hok
  obtain ⟨W0, hW0⟩ : ∃ W0, ((((w.alloc (Obj.cells #[Value.int IntKind.i64 B, Value.int IntKind.i64 S, Value.int IntKind.i64 T] 61)).alloc (Obj.cells #[Value.slice none 0 0] 58)).alloc (Obj.cells #[arV b] 24)).alloc (Obj.cells #[Value.int IntKind.i64 B, Value.int IntKind.i64 S, Value.int IntKind.i64 T] 61)) = W0 := ⟨_, rfl⟩
  have i2 : Own W0 (w.heap.size + 1) 0 (.slice none 0 0) := by rw [← hW0]; exact ((Own.at (w.alloc _) _ _ _ 0 (by simp) rfl).alloc _).alloc _
  have ia : Own W0 (w.heap.size + 1 + 1) 0 (arV b) := by rw [← hW0]; exact (Own.at ((w.alloc _).alloc _) _ _ _ 0 (by simp) rfl).alloc _
  have is : OwnL W0 (w.heap.size + 1 + 1 + 1) [.int .i64 B, .int .i64 S, .int .i64 T] := by rw [← hW0]; exact OwnL.at (((w.alloc _).alloc _).alloc _) _ _ _ (by simp)
  have i4 : W0.heap.size = w.heap.size + 4 := by rw [← hW0]; simp
  have i5 : Calm w W0 := by rw [← hW0]; exact ((((Fr.refl _ w).alloc _).alloc _).alloc _).alloc _
  rw [hW0]
  have hI4 := hid i4
  refine wpIn_rangeAt (g := .tmp 9) rfl (by decide) (gf := 85) (lb := #[.pointer (some ⟨w.heap.size + 1 + 1 + 1, 0, none⟩), .pointer (some ⟨w.heap.size + 1 + 1, 0, none⟩)]) rfl trivial (enters_of Try.func85 (by kernel_rfl) rfl)
    (objects1_seq 8 (by decide) W0 b c (w.heap.size + 1 + 1 + 1) (w.heap.size + 1 + 1) xs (H.out.calm i5) B S T HOK.out l HL.out is ia) (Keeps.refl _ _) (fun k hk => by rcases hk with rfl | rfl | rfl | rfl <;> omega) (fun _ => rfl)
    (WalkI w l) (WalkI1 w b B S T l) (fun c W => False)
    ?hI ?hI1 ?hIx ?hN ?h0 ?assign ?body ?done ?stop
  case hI =>
    rintro k A A' a hl
    exact a.fr hl (fun j hj => by rw [i4] at hj; omega)
  case hI1 =>
    rintro k a' A A' ⟨a, rfl⟩ hl
    exact ⟨a.fr hl (fun j hj => by rw [i4] at hj; omega), rfl⟩
  case hIx =>
    rintro c A A' h hl
    exact h
  case hN =>
    rintro h
    cases h
  case h0 => exact ⟨⟨_, i2, by simpa [plc] using ORow.nil _ _⟩, i5, Nat.zero_le _⟩
  case assign =>
    rintro y k W hk ha hs
    clear i2 ia is i5 hW0
    gi_wp2
    exact ⟨Keeps.refl _ _, ha, rfl⟩
  case body =>
    rintro y k a W hk ⟨⟨⟨v2, a2, a3⟩, a4, a5⟩, rfl⟩ hs
    have b2 := a2.1
    have b3 := a2.2
    have hp := hid (plc_succ l HL.out hk)
    have hln : Hid ((nI (plc (l.take k))).length = k) := by show (nI (plc (l.take k))).length = k; simp [plc]; omega
    rw [i4] at hs
    clear i2 ia is i5 hW0 i4
    generalize nI (plc (l.take k)) = L at *
    gi_wp2_with (gi_at_builtin; refine wpListIn_append_own _ rfl _ _ 58 rfl (w.heap.size + 6) 3 i0 (.int .i64 0) 1 8 Try.underlying58 hi hz0 hz1 hz2 rfl (by decide) _ _ _ rfl (a3.alloc _) ⟨W.heap.size, 0, none⟩ 1 1 [.int .i64 (begs B l k : Nat)] rfl rfl (cell_one_new _ _ _) (by simp [Value.oneCell']) (by have := hln.out; unfold maxLen; omega) (by have := hln.out; omega) (by simp; omega) ?_; intro v' w1 hown' hgrow _; obtain ⟨g', cap', rfl⟩ := ownsRow_succ hown'; have hF := Fr.append1 a3 hgrow; have c2 := (a2.fr hF (by omega)).1; have c3 := (a2.fr hF (by omega)).2; have hF2 : Hid (Fr (fun b => b = w.heap.size + 1 ∨ w.heap.size + 6 ≤ b) W w1) := hF.mono (fun _ _ h => .inr h); clear hF hgrow)
    have hV : Fr (fun b => b = w.heap.size + 1 ∨ w.heap.size + 6 ≤ b) W (w1.setCell ⟨w.heap.size + 1, 0, none⟩ (.slice (some ⟨g', 0, none⟩) (L.length + 1) cap')) := hF2.out.setCell (.inl (.inl rfl)) _
    have hb : Own (w1.setCell ⟨w.heap.size + 1, 0, none⟩ (.slice (some ⟨g', 0, none⟩) (L.length + 1) cap')) (w.heap.size + 1) 0 (.slice (some ⟨g', 0, none⟩) (L.length + 1) cap') := Own.set ⟨c2, c3⟩ _
    have hr : ORow (w1.setCell ⟨w.heap.size + 1, 0, none⟩ (.slice (some ⟨g', 0, none⟩) (L.length + 1) cap')) (w.heap.size + 6) (.slice (some ⟨g', 0, none⟩) (L.length + 1) cap') (nI (plc (l.take (k + 1)))) := by
      rw [hp.out]
      show World.ownsRow _ _ _ _ _ _ _
      rw [List.length_append, iVs, List.map_append]
      exact ownsRow_setCell_below hown' (by simp) _
    have hI5 := hI4.out
    refine ⟨Keeps.of_fr hV ?_, ⟨_, hb, hr⟩, a4.join hV (fun j h1 h2 => by omega), by omega⟩
    rintro j ((rfl | rfl | rfl | rfl) | rfl | rfl) <;> (refine ⟨by omega, ?_⟩; rintro (h | h) <;> omega)
  case done =>
    rintro W hf ⟨⟨v2, a2, a3⟩, a4, a5⟩ hD
    have b1 := a2.1
    have b2 := a2.2
    rw [i4] at hD
    clear i2 ia is i5 hW0
    gi_wp2
    refine ⟨by simp, .inl ⟨_, _, rfl, run_takeDeferred hD, ?_⟩⟩
    have hp : Fr (fun b => b = w.heap.size + 4) W (W.putObj (w.heap.size + 4) (.deferred none)) := (Fr.refl (fun b => b = w.heap.size + 4) W).putObj (.inl rfl) _
    rw [List.take_length] at a3
    exact ⟨_, results_tmp rfl _ _ _, _, rfl, (a3.fr hp (by intro b hb; omega)).mono (by omega), a4.join hp (by intro b h1 h2; omega)⟩
  case stop =>
    rintro c W h
    exact h.elim

end Go.Proofs.Ytcacbbfeenebbaa
