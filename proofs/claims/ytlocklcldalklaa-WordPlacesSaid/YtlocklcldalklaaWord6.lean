/- More of package word: Unpack. -/
import Derived.Test.YtlocklcldalklaaWord5
import Derived.Test.YtlocklcldalklaaHeld
import Derived.Maps.AppendAt
set_option linter.unusedSimpArgs false
set_option linter.unusedVariables false
namespace Go.Proofs.Ytlocklcldalklaa
open Go.RowKit Go.Shelf
attribute [local go_sem] Oper.semAt_some

/-- What stands in the first k parts. -/
def unpk (ws : List Int) (X : Nat) : Nat → List Nat
  | 0 => []
  | k + 1 => unpk ws X k ++ [gt X (ofs ws k).toNat (ws.getD k 0).toNat]

/-- The mask of the first k parts. -/
def allm (ws : List Int) : Nat → Nat
  | 0 => 0
  | k + 1 => allm ws k ||| mk (ofs ws k).toNat (ws.getD k 0).toNat

theorem unpk_length (ws : List Int) (X : Nat) : ∀ k, (unpk ws X k).length = k
  | 0 => rfl
  | k + 1 => by simp [unpk, unpk_length ws X k]

theorem allm_lt {ws : List Int} (hf : Fits ws) : ∀ {k : Nat}, k ≤ ws.length → allm ws k < 18446744073709551616
  | 0, _ => by simp [allm]
  | k + 1, h => by
    obtain ⟨f1, f2, f3⟩ := hf.at (k := k) (by omega)
    have h1 := allm_lt hf (k := k) (by omega)
    have h2 := mk_lt (s := (ofs ws k).toNat) (d := (ws.getD k 0).toNat) (by omega)
    rw [← two64] at *
    exact Nat.or_lt_two_pow h1 h2

/-- The frame of a round. -/
def UnpA (ws : List Int) (a : Option Addr) (cap X S PB k : Nat) : Act :=
  { tmps := #[Value.slice a ws.length cap, wV X, undef, Value.pointer (some { block := S, off := 0 }), Value.pointer (some { block := S + 1, off := 0 }),
      Value.pointer (some { block := S + 1 + 1, off := 0 }), Value.pointer (some { block := S + 1 + 1 + 1, off := 0 }), Value.pointer (some { block := S + 1 + 1 + 1 + 1, off := 0 }), undef, .pointer (some ⟨PB, 0, none⟩),
      Value.slice a ws.length cap, Value.func (Fn.func 25) #[] #[Value.pointer (some { block := S + 1 + 1 + 1 + 1 + 1, off := 0 })], .int .i64 (k : Nat), partV (ofs ws k) (ws.getD k 0),
      undef, undef, undef, undef, undef, undef, undef, undef, undef, undef, undef, undef, undef, undef, undef, undef, undef, undef], defers := [] }

/-- What holds between rounds. -/
def UnpI (ws : List Int) (X : Nat) (w : World) (k : Nat) (W : World) : Prop :=
  Own W w.heap.size 0 (wV X) ∧ (∃ v, Own W (w.heap.size + 3) 0 v ∧ W.ownsRow (w.heap.size + 8) 22 1 v k ((unpk ws X k).map wV)) ∧ Own W (w.heap.size + 4) 0 (wV (allm ws k)) ∧ (∃ v, Own W (w.heap.size + 1) 0 v) ∧ (∃ v, Own W (w.heap.size + 2) 0 v) ∧ Calm w W

def UnpI1 (ws : List Int) (X : Nat) (a : Option Addr) (cap : Nat) (w : World) (k : Nat) (A : Act) (W : World) : Prop :=
  Own W w.heap.size 0 (wV X) ∧ Own W (w.heap.size + 4) 0 (wV (allm ws k)) ∧ (∃ v, Own W (w.heap.size + 1) 0 v) ∧ (∃ v, Own W (w.heap.size + 2) 0 v) ∧ Calm w W ∧
  ∃ PB v, w.heap.size + 7 < PB ∧ A = UnpA ws a cap X w.heap.size PB k ∧ Own W PB 0 (.int .i64 (ofs ws k)) ∧ Own W PB 1 (.int .i64 (ws.getD k 0)) ∧
    Own W (w.heap.size + 3) 0 v ∧ W.ownsRow (w.heap.size + 8) 22 1 v k ((unpk ws X k).map wV) ∧ ∀ g, v.ownBlock = some g → g < PB

theorem UnpI.loops {ws : List Int} {X : Nat} {w : World} {k D : Nat} {A B : World} (h : UnpI ws X w k A) (hD : D = w.heap.size + 6) (hl : Loops D A B) : UnpI ws X w k B := by
  obtain ⟨a1, ⟨v2, a2, a2'⟩, a3, ⟨v4, a4⟩, ⟨v5, a5⟩, a6⟩ := h
  exact ⟨a1.fr hl (by omega), ⟨v2, a2.fr hl (by omega), ownsRow_fr a2' hl (by omega)⟩, a3.fr hl (by omega), ⟨v4, a4.fr hl (by omega)⟩, ⟨v5, a5.fr hl (by omega)⟩, a6.join hl (by omega)⟩

theorem info_u64 : (Try.prog.info? 22).map (fun i => (i.zero, i.size, i.bytes)) = some (some (.int .u64 0), 1, 8) := by kernel_rfl

set_option maxHeartbeats 1000000 in
theorem unpack_yes (ws : List Int) (X : Nat) (hX : X < 18446744073709551616) (hf : Fits ws) (h64 : ws.length ≤ 64) (v : Value) (w : World)
    (hr : Row w v (ws.map (Value.int .i64))) :
    Calls Try.prog 17 #[v, wV X] w fun e w' => Calm w w' ∧
      ((X &&& (18446744073709551615 - allm ws ws.length) ≠ 0 ∧ e = .returned (.tuple #[.slice none 0 0, .bool false])) ∨
       (X &&& (18446744073709551615 - allm ws ws.length) = 0 ∧ ∃ r, e = .returned (.tuple #[r, .bool true]) ∧ Row w' r ((unpk ws X ws.length).map wV))) := by
  obtain ⟨i0, hi, hz0, hz1, hz2⟩ := info_parts info_u64
  obtain ⟨a, cap, rfl, hrow⟩ := hr.at
  simp only [List.length_map] at hr hrow ⊢
  refine (callsIn_wide (n := 9)).1 ?_
  refine callsIn_of_wp_marks Try.func17 rfl trivial ?_ rfl
  simp only [Try.ntmps17, List.size_toArray, List.length_cons, List.length_nil, Nat.reduceAdd, Nat.reduceSub, Array.replicate_succ, Array.replicate_zero, List.push_toArray, List.append_toArray, List.nil_append, List.cons_append]
  gi_wp2_with (refine ⟨trivial, ?_⟩; gi_at_call 24; refine (parts_in _ _ _ _ _ _ trivial rfl).mono ?_; rintro e w' ⟨rfl, rfl⟩)
  obtain ⟨W0, hW0⟩ : ∃ W0, ((((((w.alloc (Obj.cells #[wV X] 22)).alloc (Obj.cells #[Value.slice none 0 0] 34)).alloc (Obj.cells #[Value.bool false] 4)).alloc (Obj.cells #[Value.slice none 0 0] 34)).alloc (Obj.cells #[Value.int IntKind.u64 0] 22)).alloc (Obj.cells #[Value.slice a ws.length cap] 33)) = W0 := ⟨_, rfl⟩
  have i1 : Own W0 w.heap.size 0 (wV X) := by rw [← hW0]; exact (((((Own.new w _ _ 0 rfl).alloc _).alloc _).alloc _).alloc _).alloc _
  have i2 : Own W0 (w.heap.size + 1) 0 (.slice none 0 0) := by rw [← hW0]; exact ((((Own.at (w.alloc _) _ _ _ 0 (by simp) rfl).alloc _).alloc _).alloc _).alloc _
  have i3 : Own W0 (w.heap.size + 2) 0 (.bool false) := by rw [← hW0]; exact (((Own.at ((w.alloc _).alloc _) _ _ _ 0 (by simp) rfl).alloc _).alloc _).alloc _
  have i4 : Own W0 (w.heap.size + 3) 0 (.slice none 0 0) := by rw [← hW0]; exact ((Own.at (((w.alloc _).alloc _).alloc _) _ _ _ 0 (by simp) rfl).alloc _).alloc _
  have i4' : Own W0 (w.heap.size + 4) 0 (.int .u64 0) := by rw [← hW0]; exact (Own.at ((((w.alloc _).alloc _).alloc _).alloc _) _ _ _ 0 (by simp) rfl).alloc _
  have i5 : Own W0 (w.heap.size + 1 + 1 + 1 + 1 + 1) 0 (.slice a ws.length cap) := by rw [← hW0]; exact Own.at (((((w.alloc _).alloc _).alloc _).alloc _).alloc _) _ _ _ 0 (by simp) rfl
  have i6 : W0.heap.size = w.heap.size + 6 := by rw [← hW0]; simp
  have i7 : Calm w W0 := by rw [← hW0]; exact ((((((Fr.refl _ w).alloc _).alloc _).alloc _).alloc _).alloc _).alloc _
  have hr0 := hr.calm i7
  rw [hW0]
  clear hW0
  refine wpIn_rangeAt (g := .tmp 11) rfl (by decide) (gf := 25) (lb := #[.pointer (some ⟨w.heap.size + 1 + 1 + 1 + 1 + 1, 0, none⟩)]) rfl trivial (enters_of Try.func25 (by kernel_rfl) rfl)
    (parts1_seq 8 (by decide) W0 (w.heap.size + 1 + 1 + 1 + 1 + 1) (.slice a ws.length cap) ws hf h64 i5.1 hr0) (Keeps.refl _ _) (fun _ h => h.1) (fun _ => rfl)
    (UnpI ws X w)
    (UnpI1 ws X a cap w)
    (fun c W => False)
    ?hI ?hI1 ?hIx ?hN ?h0 ?assign ?body ?done ?stop
  case hI => exact fun k A B h hl => h.loops i6 hl
  case hI1 =>
    rintro k a' A B ⟨a1, a2, ⟨v3, a3⟩, ⟨v4, a4⟩, a5, PB, v, p1, p2, p3, p4, p5, p6, p7⟩ hl
    exact ⟨a1.fr hl (by omega), a2.fr hl (by omega), ⟨v3, a3.fr hl (by omega)⟩, ⟨v4, a4.fr hl (by omega)⟩, a5.join hl (by omega), PB, v, p1, p2, p3.fr hl (by omega), p4.fr hl (by omega), p5.fr hl (by omega), ownsRow_fr p6 hl (by omega), p7⟩
  case hIx => exact fun _ _ _ h _ => h
  case hN => exact fun h => Bool.noConfusion h
  case h0 => exact ⟨i1, ⟨_, i4, World.ownsRow_nil _ _ _ _⟩, i4', ⟨_, i2⟩, ⟨_, i3⟩, i7⟩
  case assign =>
    rintro l k W hk ⟨a1, ⟨v2, a2, a2'⟩, a3, ⟨v4, a4⟩, ⟨v5, a5⟩, a6⟩ hs
    gi_wp2
    rw [Fits.get hk]
    refine ⟨Keeps.of_fr (S := fun _ => False) ((Fr.refl _ _).alloc _) (by rintro b (h | h | h) <;> refine ⟨?_, id⟩ <;> first | omega | (have := h.1; omega)),
      a1.alloc _, a3.alloc _, ⟨_, a4.alloc _⟩, ⟨_, a5.alloc _⟩, a6.alloc _, W.heap.size, v2, by omega, rfl, Own.new _ _ _ 0 rfl, Own.new _ _ _ 1 rfl, a2.alloc _, ownsRow_fr a2' ((Fr.refl _ _).alloc _) (fun _ _ => id), fun g hg => (a2'.lt g hg).2⟩
  case body =>
    rintro l k A W hk ⟨a1, a2, ⟨v3, a3⟩, ⟨v4, a4⟩, a5, PB, v, p1, rfl, p3, p4, p5, p6, p7⟩ hsz
    obtain ⟨rb, roff, rfl, hrc⟩ := hrow k hk
    have hrb : rb < w.heap.size := World.block_lt_of_cell? w _ hrc
    obtain ⟨f1, f2, f3⟩ := hf.at hk
    have hpk := allm_lt hf (Nat.le_of_lt hk)
    have hpe : Hid (allm ws (k + 1) = allm ws k ||| mk (ofs ws k).toNat (ws.getD k 0).toNat) := rfl
    have hpu : Hid (unpk ws X (k + 1) = unpk ws X k ++ [gt X (ofs ws k).toNat (ws.getD k 0).toNat]) := rfl
    clear hrow hr hr0 hrc i1 i2 i3 i4 i4' i5 i7
    unfold UnpA
    generalize hY : allm ws k = Y at *
    generalize hs1 : ofs ws k = s at *
    generalize hd1 : ws.getD k 0 = d at *
    have b3 := p3.1
    have b4 := p4.1
    gi_wp2_with (refine ⟨trivial, ?_⟩; gi_at_call 22; refine callsIn_wide.2 ?_; refine (right_yes s d _ f1 f2 f3).mono ?_; rintro e W2 ⟨rfl, c2⟩)
    have e1 := a1.fr c2 id
    have e5 := p5.fr c2 id
    have e3 := p3.fr c2 id
    have e4 := p4.fr c2 id
    have q1 : ∀ w', Calm W2 w' → w'.cell? ⟨w.heap.size, 0, none⟩ = some (wV X) := fun w' c => (e1.fr c id).1
    have q2 : ∀ w', Calm W2 w' → w'.cell? ⟨w.heap.size + 1 + 1 + 1, 0, none⟩ = some v := fun w' c => (e5.fr c id).1
    have q3 : ∀ w', Calm W2 w' → w'.cell? ⟨PB, 0, none⟩ = some (.int .i64 s) := fun w' c => (e3.fr c id).1
    have q4 : ∀ w', Calm W2 w' → w'.cell? ⟨PB, 1, none⟩ = some (.int .i64 d) := fun w' c => (e4.fr c id).1
    refine wpIn_region_held 3 5 (fun w' => Calm W2 w') (by kernel_rfl) (by rintro ⟨_, _, h⟩; exact h) (by kernel_rfl) (by kernel_rfl) ((Fr.refl _ _).drew) ?_
    refine heldList_step v rfl (fun w' hw' => ?_) (fun _ _ _ h => h) ?_
    · have h1 := q2 w' hw'
      simp [go_sem, h1]
    refine heldList_step (wV X) rfl (fun w' hw' => ?_) (fun _ _ _ h => h) ?_
    · have h1 := q1 w' hw'
      simp [go_sem, h1]
    refine heldList_step (partV s d) rfl (fun w' hw' => ?_) (fun _ _ _ h => h) ?_
    · have h1 := q3 w' hw'
      have h2 := q4 w' hw'
      go_simp
    refine heldSeq_step rfl ?_
    clear q1 q2 q3 q4
    unfold Oper.wp
    go_simp
    refine (get_yes X hX s d _ f1 f2 f3).mono ?_
    rintro e W3 ⟨rfl, c3'⟩
    have c3 : Calm W2 W3 := (Fr.refl _ _).drew.trans c3'
    clear c3'
    refine ⟨c3, ?_⟩
    refine heldSeq_step rfl ?_
    unfold Oper.wp
    go_simp
    refine ⟨c3.alloc _, ?_⟩
    simp only [heldSeq]
    have m6 := ownsRow_fr p6 (c2.trans c3) (fun _ _ => id)
    have m2 := e5.fr c3 id
    have hlt : w.heap.size + 8 ≤ W3.heap.size := by have := (c2.trans c3).size; omega
    refine wpList_append_own _ rfl _ _ 34 rfl (w.heap.size + 8) 22 i0 (.int .u64 0) 1 8 Try.underlying34 hi hz0 hz1 hz2 rfl (by decide) _ _ _ rfl (ownsRow_fr m6 ((Fr.refl (fun _ => False) _).alloc _) (fun _ _ => id)) ⟨W3.heap.size, 0, none⟩ 1 1 [wV (gt X s.toNat d.toNat)] rfl rfl (cell_one_new _ _ _) (by simp [Value.oneCell']) (by unfold maxLen; omega) (by omega) (by simp; omega) ?_
    intro v' w1 hown' hgrow _
    obtain ⟨g', cap', rfl⟩ := ownsRow_succ hown'
    change (W3.alloc _).grownBy w1 v.ownBlock at hgrow
    have hvb : ∀ b, v.ownBlock = some b → w.heap.size + 8 ≤ b ∧ b < PB := fun b hb => ⟨(p6.lt b hb).1, p7 b hb⟩
    have hF : Fr (fun b => w.heap.size + 8 ≤ b ∧ b < PB) W3 w1 := Fr.grown ((Fr.refl _ _).alloc _) hgrow (fun b hb => .inl (hvb b hb))
    have hF2 : Fr (fun b => w.heap.size + 8 ≤ b ∧ b < PB) W w1 := Fr.join (Calm.any (c2.trans c3)) hF (fun _ _ h => h)
    have n1 := m2.fr hF (by omega)
    have n2 : w1.cell? ⟨w.heap.size + 1 + 1 + 1, 0, none⟩ = some v := n1.1
    have n3 : w1.frozen? ⟨w.heap.size + 1 + 1 + 1, 0, none⟩ = false := n1.2
    clear hgrow hF hvb
    replace i6 := hid i6
    go_wp2
    obtain ⟨V1, hV1⟩ : ∃ V1, (w1.setCell ⟨w.heap.size + 1 + 1 + 1, 0, none⟩ (.slice (some ⟨g', 0, none⟩) (k + 1) cap')) = V1 := ⟨_, rfl⟩
    rw [hV1]
    have hF3 : Fr (fun b => b = w.heap.size + 3 ∨ (w.heap.size + 8 ≤ b ∧ b < PB)) W V1 := by
      rw [← hV1]; exact Fr.setCell (hF2.mono (fun _ _ h => .inr h)) (.inl (.inl rfl)) _
    have o1 := a1.fr hF3 (by omega)
    have o2 := a2.fr hF3 (by omega)
    have o3 := p3.fr hF3 (by omega)
    have o4 := p4.fr hF3 (by omega)
    have o5 : Own V1 (w.heap.size + 3) 0 (.slice (some ⟨g', 0, none⟩) (k + 1) cap') := by rw [← hV1]; exact n1.set _
    have o6 : V1.ownsRow (w.heap.size + 8) 22 1 (.slice (some ⟨g', 0, none⟩) (k + 1) cap') (k + 1) (List.map wV (unpk ws X k) ++ [wV (gt X s.toNat d.toNat)]) := by
      rw [← hV1]; exact ownsRow_setCell_below hown' (by simp) _
    clear hV1 n1 n2 n3 hF2
    have q2 : ∀ x : Later V1, x.w.cell? ⟨w.heap.size + 1 + 1 + 1 + 1, 0, none⟩ = some (wV Y) := fun x => x.cell o2.1
    have q3 : ∀ x : Later V1, x.w.cell? ⟨PB, 0, none⟩ = some (.int .i64 s) := fun x => x.cell o3.1
    have q4 : ∀ x : Later V1, x.w.cell? ⟨PB, 1, none⟩ = some (.int .i64 d) := fun x => x.cell o4.1
    refine wpIn_region_calm_tail 4 (by kernel_rfl) (by rintro ⟨_, _, h⟩; exact h) (by kernel_rfl) (by kernel_rfl) ?_
    simp only [List.take_succ_cons, List.take_zero, List.drop_succ_cons, List.drop_zero]
    repeat (go_big_quiet_step ((go_at_call 12; exact Calls.calm_of (mask_yes s d _ f1 f2 f3))))
    refine wpQuiet_nil ?_
    intro V2 hw'
    have c4 := Later.out hw'
    clear hw' q2 q3 q4
    have r2 := o2.fr c4 id
    have r2' : V2.cell? ⟨w.heap.size + 1 + 1 + 1 + 1, 0, none⟩ = some (wV Y) := r2.1
    have r2'' : V2.frozen? ⟨w.heap.size + 1 + 1 + 1 + 1, 0, none⟩ = false := r2.2
    go_wp2
    have hor : bits .or .u64 (Y : Int) (mk s.toNat d.toNat : Nat) = ((Y ||| mk s.toNat d.toNat : Nat) : Int) := u64_or_nat Y _ hpk (mk_lt (by omega))
    rw [hor]
    have i6' := i6.out
    have hS : Fr (fun b => b = w.heap.size + 4 ∨ b = w.heap.size + 3 ∨ (w.heap.size + 8 ≤ b ∧ b < PB)) W (V2.setCell ⟨w.heap.size + 1 + 1 + 1 + 1, 0, none⟩ (wV (Y ||| mk s.toNat d.toNat))) :=
      Fr.setCell (p := ⟨w.heap.size + 1 + 1 + 1 + 1, 0, none⟩) (Fr.join (hF3.mono (fun _ _ h => .inr h)) c4 (fun _ _ h => h.elim)) (.inl (.inl rfl)) _
    have hS2 : Fr (fun b => b = w.heap.size + 4) V1 (V2.setCell ⟨w.heap.size + 1 + 1 + 1 + 1, 0, none⟩ (wV (Y ||| mk s.toNat d.toNat))) :=
      Fr.setCell (S := fun b => b = w.heap.size + 4) (p := ⟨w.heap.size + 1 + 1 + 1 + 1, 0, none⟩) (Calm.any c4) (.inl rfl) _
    refine ⟨Keeps.of_fr hS ?_, a1.fr hS (by omega), ⟨_, o5.fr hS2 (by omega), ?_⟩, ?_, ⟨_, a3.fr hS (by omega)⟩, ⟨_, a4.fr hS (by omega)⟩, a5.join hS (by intros; omega)⟩
    · rintro b (⟨h1, h2⟩ | h | h)
      · refine ⟨by omega, ?_⟩
        rcases h2 with h2 | ⟨o2, n2, c2', h2⟩
        · show ¬ (b = _ ∨ _); omega
        · have : rb = b := by
            have := congrArg (fun v => match v with | Value.slice (some p) _ _ => p.block | _ => 0) h2
            simpa using this
          show ¬ (b = _ ∨ _); omega
      · exact ⟨by omega, by show ¬ (b = _ ∨ _); omega⟩
      · exact ⟨by omega, by show ¬ (b = _ ∨ _); omega⟩
    · rw [hpu.out, List.map_append]
      exact ownsRow_fr o6 hS2 (by omega)
    · rw [hpe.out]; exact r2.set _
  case stop => exact fun _ _ h => h.elim
  case done =>
    rintro W _ ⟨a1, ⟨v, a2, a2'⟩, a3, ⟨v4, a4⟩, ⟨v5, a5⟩, a6⟩ hD
    rw [i6] at hD
    obtain ⟨va, vn, vc, rfl⟩ : ∃ va vn vc, v = .slice va vn vc := by
      obtain ⟨va, vc, h, _⟩ := Row.of_owns a2'
      exact ⟨va, _, vc, h⟩
    have hpk := allm_lt hf (Nat.le_refl _)
    generalize hY : allm ws ws.length = Y at *
    have hno := u64_andNot_nat X Y hX hpk
    replace hno := hid hno
    have b1 := a1.1
    have b2 : W.cell? ⟨w.heap.size + 1 + 1 + 1, 0, none⟩ = some (.slice va vn vc) := a2.1
    have b3 : W.cell? ⟨w.heap.size + 1 + 1 + 1 + 1, 0, none⟩ = some (wV Y) := a3.1
    have b4 := a4.1
    have b4' := a4.2
    have b5 : W.cell? ⟨w.heap.size + 1 + 1, 0, none⟩ = some v5 := a5.1
    have b6 : W.frozen? ⟨w.heap.size + 1 + 1, 0, none⟩ = false := a5.2
    have fin : ∀ (x : Value) (y : Bool), ∃ V, (W.setCell ⟨w.heap.size + 1, 0, none⟩ x).setCell ⟨w.heap.size + 1 + 1, 0, none⟩ (.bool y) = V ∧ V.heap[w.heap.size + 6]? = some (.deferred (some [])) ∧
        (V.putObj (w.heap.size + 6) (.deferred none)).cell? ⟨w.heap.size + 1, 0, none⟩ = some x ∧ (V.putObj (w.heap.size + 6) (.deferred none)).cell? ⟨w.heap.size + 1 + 1, 0, none⟩ = some (.bool y) ∧
        Calm w (V.putObj (w.heap.size + 6) (.deferred none)) ∧ ∀ r xs, W.ownsRow (w.heap.size + 8) 22 1 r ws.length xs → (V.putObj (w.heap.size + 6) (.deferred none)).ownsRow (w.heap.size + 8) 22 1 r ws.length xs := fun x y => by
      have g : Fr (fun b => b = w.heap.size + 1 ∨ b = w.heap.size + 2) W ((W.setCell ⟨w.heap.size + 1, 0, none⟩ x).setCell ⟨w.heap.size + 1 + 1, 0, none⟩ (.bool y)) := (Fr.refl (fun b => b = w.heap.size + 1 ∨ b = w.heap.size + 2) W).setCell (.inl (.inl rfl)) _ |>.setCell (.inl (.inr rfl)) _
      have v2 : Own ((W.setCell ⟨w.heap.size + 1, 0, none⟩ x).setCell ⟨w.heap.size + 1 + 1, 0, none⟩ (.bool y)) (w.heap.size + 1) 0 x := (a4.set _).far _ _ (by simp)
      have v3 : Own ((W.setCell ⟨w.heap.size + 1, 0, none⟩ x).setCell ⟨w.heap.size + 1 + 1, 0, none⟩ (.bool y)) (w.heap.size + 1 + 1) 0 (.bool y) := (a5.far _ _ (by simp)).set _
      refine ⟨_, rfl, g.heapAt hD (by simp), ?_⟩
      generalize hV : (W.setCell ⟨w.heap.size + 1, 0, none⟩ x).setCell ⟨w.heap.size + 1 + 1, 0, none⟩ (.bool y) = V at *
      have hp : Fr (fun b => b = w.heap.size + 6) V (V.putObj (w.heap.size + 6) (.deferred none)) := (Fr.refl (fun b => b = w.heap.size + 6) V).putObj (.inl rfl) _
      exact ⟨(v2.fr hp (by omega)).1, (v3.fr hp (by omega)).1, (a6.join g (by intros; omega)).join hp (by intros; omega), fun r xs hr => ownsRow_fr (ownsRow_fr hr g (by omega)) hp (by omega)⟩
    replace fin := hid fin
    have hne0 : (bits .andNot .u64 (X : Int) (Y : Int) != 0) = true ↔ X &&& (18446744073709551615 - Y) ≠ 0 := by
      rw [hno.out]; simp
    by_cases hz : X &&& (18446744073709551615 - Y) = 0
    · have hb : (bits .andNot .u64 (X : Int) (Y : Int) != 0) = false := by
        rcases hq : (bits .andNot .u64 (X : Int) (Y : Int) != 0) with _ | _
        · rfl
        · exact absurd hz (hne0.1 hq)
      clear hne0
      replace hz := hid hz
      gi_wp2
      obtain ⟨V, hV, f1, f2, f3, f4, f5⟩ := fin.out (.slice va vn vc) true
      rw [hV]
      refine ⟨by simp, .inl ⟨_, _, rfl, run_takeDeferred f1, ?_⟩⟩
      refine ⟨.tuple #[.slice va vn vc, .bool true], ?_, f4, .inr ⟨hz.out, _, rfl, Row.of_owns (f5 _ _ a2')⟩⟩
      simp [results, Try.f17, go_sem, f2, f3]
    · have hb := hne0.2 hz
      clear hne0
      replace hz := hid hz
      gi_wp2
      obtain ⟨V, hV, f1, f2, f3, f4, f5⟩ := fin.out (.slice none 0 0) false
      rw [hV]
      refine ⟨by simp, .inl ⟨_, _, rfl, run_takeDeferred f1, ?_⟩⟩
      refine ⟨.tuple #[.slice none 0 0, .bool false], ?_, f4, .inl ⟨hz.out, rfl⟩⟩
      simp [results, Try.f17, go_sem, f2, f3]

end Go.Proofs.Ytlocklcldalklaa
