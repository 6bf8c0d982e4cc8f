/- More of package word: Pack. -/
import Derived.Test.YtlocklcldalklaaWord4
set_option linter.unusedSimpArgs false
set_option linter.unusedVariables false
namespace Go.Proofs.Ytlocklcldalklaa
open Go.RowKit Go.Shelf
attribute [local go_sem] Oper.semAt_some

/-- The first k numbers, packed. -/
def packed (ws : List Int) (vs : List Nat) : Nat → Nat
  | 0 => 0
  | k + 1 => st (packed ws vs k) (ofs ws k).toNat (ws.getD k 0).toNat (vs.getD k 0)

/-- Numbers that go into the widths. -/
def Small (ws : List Int) (vs : List Nat) : Prop := ∀ k, k < ws.length → vs.getD k 0 < 2 ^ (ws.getD k 0).toNat

theorem packed_lt {ws : List Int} {vs : List Nat} (hf : Fits ws) (hs : Small ws vs) : ∀ {k : Nat}, k ≤ ws.length → packed ws vs k < 18446744073709551616
  | 0, _ => by simp [packed]
  | k + 1, h => by
    obtain ⟨f1, f2, f3⟩ := hf.at (k := k) (by omega)
    exact st_lt (by omega) (packed_lt hf hs (by omega)) (hs k (by omega))

/-- The frame of a round. -/
def PackA (ws : List Int) (a la : Option Addr) (cap lcap : Nat) (S PB k : Nat) : Act :=
  { tmps := #[Value.slice a ws.length cap, Value.slice la ws.length lcap, undef, Value.pointer (some { block := S, off := 0 }), Value.pointer (some { block := S + 1, off := 0 }),
      Value.pointer (some { block := S + 1 + 1, off := 0 }), Value.pointer (some { block := S + 1 + 1 + 1, off := 0 }), .int .i64 (k : Nat), .pointer (some ⟨PB, 0, none⟩), undef, undef,
      Value.slice a ws.length cap, Value.int IntKind.i64 ws.length, Value.slice la ws.length lcap, Value.int IntKind.i64 ws.length, Value.bool false, Value.slice a ws.length cap,
      Value.func (Fn.func 25) #[] #[Value.pointer (some { block := S + 1 + 1 + 1 + 1, off := 0 })], .int .i64 (k : Nat), partV (ofs ws k) (ws.getD k 0),
      undef, undef, undef, undef, undef, undef, undef, undef, undef, undef, undef, undef, undef, undef], defers := [] }

/-- What holds between rounds. -/
def PackI (ws : List Int) (vs : List Nat) (la : Option Addr) (lcap : Nat) (w : World) (k : Nat) (W : World) : Prop :=
  Own W w.heap.size 0 (.slice la ws.length lcap) ∧ Own W (w.heap.size + 3) 0 (wV (packed ws vs k)) ∧ (∃ v, Own W (w.heap.size + 1) 0 v) ∧ (∃ v, Own W (w.heap.size + 2) 0 v) ∧ Calm w W

def PackI1 (ws : List Int) (vs : List Nat) (a la : Option Addr) (cap lcap : Nat) (w : World) (k : Nat) (A : Act) (W : World) : Prop :=
  PackI ws vs la lcap w k W ∧ ∃ PB, w.heap.size + 6 < PB ∧ A = PackA ws a la cap lcap w.heap.size PB k ∧ Own W PB 0 (.int .i64 (ofs ws k)) ∧ Own W PB 1 (.int .i64 (ws.getD k 0))

theorem PackI.loops {ws : List Int} {vs : List Nat} {la : Option Addr} {lcap : Nat} {w : World} {k D : Nat} {A B : World} (h : PackI ws vs la lcap w k A) (hD : D = w.heap.size + 5) (hl : Loops D A B) : PackI ws vs la lcap w k B := by
  obtain ⟨a1, a2, ⟨v3, a3⟩, ⟨v4, a4⟩, a5⟩ := h
  exact ⟨a1.fr hl (by omega), a2.fr hl (by omega), ⟨v3, a3.fr hl (by omega)⟩, ⟨v4, a4.fr hl (by omega)⟩, a5.join hl (by omega)⟩

set_option maxHeartbeats 1000000 in
theorem pack_yes (ws : List Int) (vs : List Nat) (hf : Fits ws) (hs : Small ws vs) (hn : ws.length = vs.length) (h64 : ws.length ≤ 64) (v lv : Value) (w : World)
    (hr : Row w v (ws.map (Value.int .i64))) (hl : Row w lv (vs.map wV)) :
    Calls Try.prog 16 #[v, lv] w fun e w' => e = .returned (.tuple #[wV (packed ws vs ws.length), .bool true]) ∧ Calm w w' := by
  obtain ⟨a, cap, rfl, hrow⟩ := hr.at
  obtain ⟨la, lcap, rfl, lrow⟩ := hl.at
  simp only [List.length_map] at hr hl hrow lrow ⊢
  have hn' : (vs.length : Nat) = ws.length := hn.symm
  rw [hn'] at hl ⊢
  clear hn'
  replace hn := hid hn
  refine (callsIn_wide (n := 9)).1 ?_
  refine callsIn_of_wp_marks Try.func16 rfl trivial ?_ rfl
  simp only [Try.ntmps16, List.size_toArray, List.length_cons, List.length_nil, Nat.reduceAdd, Nat.reduceSub, Array.replicate_succ, Array.replicate_zero, List.push_toArray, List.append_toArray, List.nil_append, List.cons_append]
  gi_wp2_with (refine ⟨trivial, ?_⟩; gi_at_call 24; refine (parts_in _ _ _ _ _ _ trivial rfl).mono ?_; rintro e w' ⟨rfl, rfl⟩)
  obtain ⟨W0, hW0⟩ : ∃ W0, (((((w.alloc (Obj.cells #[Value.slice la ws.length lcap] 34)).alloc (Obj.cells #[Value.int IntKind.u64 0] 22)).alloc (Obj.cells #[Value.bool false] 4)).alloc (Obj.cells #[Value.int IntKind.u64 0] 22)).alloc (Obj.cells #[Value.slice a ws.length cap] 33)) = W0 := ⟨_, rfl⟩
  have i1 : Own W0 w.heap.size 0 (.slice la ws.length lcap) := by rw [← hW0]; exact ((((Own.new w _ _ 0 rfl).alloc _).alloc _).alloc _).alloc _
  have i2 : Own W0 (w.heap.size + 1) 0 (.int .u64 0) := by rw [← hW0]; exact (((Own.at (w.alloc _) _ _ _ 0 (by simp) rfl).alloc _).alloc _).alloc _
  have i3 : Own W0 (w.heap.size + 2) 0 (.bool false) := by rw [← hW0]; exact ((Own.at ((w.alloc _).alloc _) _ _ _ 0 (by simp) rfl).alloc _).alloc _
  have i4 : Own W0 (w.heap.size + 3) 0 (.int .u64 0) := by rw [← hW0]; exact (Own.at (((w.alloc _).alloc _).alloc _) _ _ _ 0 (by simp) rfl).alloc _
  have i5 : Own W0 (w.heap.size + 1 + 1 + 1 + 1) 0 (.slice a ws.length cap) := by rw [← hW0]; exact Own.at ((((w.alloc _).alloc _).alloc _).alloc _) _ _ _ 0 (by simp) rfl
  have i6 : W0.heap.size = w.heap.size + 5 := by rw [← hW0]; simp
  have i7 : Calm w W0 := by rw [← hW0]; exact (((((Fr.refl _ w).alloc _).alloc _).alloc _).alloc _).alloc _
  have hr0 := hr.calm i7
  rw [hW0]
  clear hW0
  refine wpIn_rangeAt (g := .tmp 17) rfl (by decide) (gf := 25) (lb := #[.pointer (some ⟨w.heap.size + 1 + 1 + 1 + 1, 0, none⟩)]) rfl trivial (enters_of Try.func25 (by kernel_rfl) rfl)
    (parts1_seq 8 (by decide) W0 (w.heap.size + 1 + 1 + 1 + 1) (.slice a ws.length cap) ws hf h64 i5.1 hr0) (Keeps.refl _ _) (fun _ h => h.1) (fun _ => rfl)
    (PackI ws vs la lcap w)
    (PackI1 ws vs a la cap lcap w)
    (fun c W => False)
    ?hI ?hI1 ?hIx ?hN ?h0 ?assign ?body ?done ?stop
  case hI => exact fun k A B h hl => h.loops i6 hl
  case hI1 =>
    rintro k a' A B ⟨h, PB, p1, p2, p3, p4⟩ hl
    exact ⟨h.loops i6 hl, PB, p1, p2, p3.fr hl (by omega), p4.fr hl (by omega)⟩
  case hIx => exact fun _ _ _ h _ => h
  case hN => exact fun h => Bool.noConfusion h
  case h0 => exact ⟨i1, i4, ⟨_, i2⟩, ⟨_, i3⟩, i7⟩
  case assign =>
    rintro l k W hk ⟨a1, a2, ⟨v3, a3⟩, ⟨v4, a4⟩, a5⟩ hs
    gi_wp2
    rw [Fits.get hk]
    exact ⟨Keeps.of_fr (S := fun _ => False) ((Fr.refl _ _).alloc _) (by rintro b (h | h | h) <;> refine ⟨?_, id⟩ <;> first | omega | (have := h.1; omega)),
      ⟨a1.alloc _, a2.alloc _, ⟨_, a3.alloc _⟩, ⟨_, a4.alloc _⟩, a5.alloc _⟩, W.heap.size, by omega, rfl, Own.new _ _ _ 0 rfl, Own.new _ _ _ 1 rfl⟩
  case body =>
    rintro l k A W hk ⟨⟨a1, a2, ⟨v3, a3⟩, ⟨v4, a4⟩, a5⟩, PB, p1, rfl, p3, p4⟩ hsz
    have hkv : k < vs.length := by rw [← hn.out]; exact hk
    obtain ⟨b', off, rfl, hc⟩ := lrow k hkv
    have hc1 : W.cell? ⟨b', off + k, none⟩ = some (wV (vs.getD k 0)) := by rw [a5.cellAt hc id]; simp [List.getD, hkv]
    obtain ⟨rb, roff, rfl, hrc⟩ := hrow k hk
    have hrb : rb < w.heap.size := World.block_lt_of_cell? w _ hrc
    obtain ⟨f1, f2, f3⟩ := hf.at hk
    have hvk := hs k hk
    have hpk := packed_lt hf hs (Nat.le_of_lt hk)
    have hpe : packed ws vs (k + 1) = st (packed ws vs k) (ofs ws k).toNat (ws.getD k 0).toNat (vs.getD k 0) := rfl
    clear hrow lrow hr hr0 hl hc hrc i1 i2 i3 i4 i5 i7
    unfold PackA
    generalize hX : packed ws vs k = X at *
    generalize hY : vs.getD k 0 = Y at *
    generalize hs1 : ofs ws k = s at *
    generalize hd1 : ws.getD k 0 = d at *
    gi_wp2
    have q1 : ∀ x : Later W, x.w.cell? ⟨w.heap.size, 0, none⟩ = some (.slice (some ⟨b', off, none⟩) ws.length lcap) := fun x => x.cell a1.1
    have q2 : ∀ x : Later W, x.w.cell? ⟨w.heap.size + 1 + 1 + 1, 0, none⟩ = some (wV X) := fun x => x.cell a2.1
    have q3 : ∀ x : Later W, x.w.cell? ⟨PB, 0, none⟩ = some (.int .i64 s) := fun x => x.cell p3.1
    have q4 : ∀ x : Later W, x.w.cell? ⟨PB, 1, none⟩ = some (.int .i64 d) := fun x => x.cell p4.1
    have q5 : ∀ x : Later W, x.w.cell? ⟨b', off + k, none⟩ = some (wV Y) := fun x => x.cell hc1
    refine wpIn_region_calm (by kernel_rfl) (by rintro ⟨_, _, h⟩; exact h) (by kernel_rfl) (by kernel_rfl) ?_
    repeat (go_big_quiet_step ((go_at_call 13; exact Calls.calm_of (set_yes X Y hpk s d _ f1 f2 f3 hvk))))
    refine wpQuiet_nil ?_
    intro W2 hw'
    have c2 := Later.out hw'
    clear hw'
    clear q1 q2 q3 q4 q5
    have e2 := a2.fr c2 id
    have b1 : W2.cell? ⟨w.heap.size + 1 + 1 + 1, 0, none⟩ = some (wV X) := e2.1
    have b2 : W2.frozen? ⟨w.heap.size + 1 + 1 + 1, 0, none⟩ = false := e2.2
    gi_wp2
    have hS : Fr (fun b => b = w.heap.size + 3) W (W2.setCell ⟨w.heap.size + 1 + 1 + 1, 0, none⟩ (wV (st X s.toNat d.toNat Y))) := Fr.setCell (S := fun b => b = w.heap.size + 3) (p := ⟨w.heap.size + 1 + 1 + 1, 0, none⟩) (Calm.any c2) (.inl rfl) _
    refine ⟨Keeps.of_fr hS ?_, a1.fr hS (by omega), ?_, ⟨_, a3.fr hS (by omega)⟩, ⟨_, a4.fr hS (by omega)⟩, a5.join hS (by intros; simp at *; omega)⟩
    · rintro b (⟨h1, h2⟩ | h | h)
      · refine ⟨by omega, ?_⟩
        rcases h2 with h2 | ⟨o2, n2, c2', h2⟩
        · show ¬ b = _; omega
        · have : rb = b := by
            have := congrArg (fun v => match v with | Value.slice (some p) _ _ => p.block | _ => 0) h2
            simpa using this
          show ¬ b = _; omega
      · exact ⟨by omega, by show ¬ b = _; omega⟩
      · exact ⟨by omega, by show ¬ b = _; omega⟩
    · rw [hpe]; exact e2.set _
  case stop => exact fun _ _ h => h.elim
  case done =>
    rintro W _ ⟨a1, a2, ⟨v3, a3⟩, ⟨v4, a4⟩, a5⟩ hD
    rw [i6] at hD
    generalize hX : packed ws vs ws.length = X at *
    have b1 : W.cell? ⟨w.heap.size + 1 + 1 + 1, 0, none⟩ = some (wV X) := a2.1
    have b3 := a3.1
    have b4 := a3.2
    have b5 : W.cell? ⟨w.heap.size + 1 + 1, 0, none⟩ = some v4 := a4.1
    have b6 : W.frozen? ⟨w.heap.size + 1 + 1, 0, none⟩ = false := a4.2
    gi_wp2
    obtain ⟨V, hV⟩ : ∃ V, ((W.setCell ⟨w.heap.size + 1, 0, none⟩ (wV X)).setCell ⟨w.heap.size + 1 + 1, 0, none⟩ (.bool true)) = V := ⟨_, rfl⟩
    rw [hV]
    have v2 : Own V (w.heap.size + 1) 0 (wV X) := by rw [← hV]; exact (a3.set _).far _ _ (by simp)
    have v3 : Own V (w.heap.size + 1 + 1) 0 (.bool true) := by rw [← hV]; exact (a4.far _ _ (by simp)).set _
    have v4 : Calm w V := by rw [← hV]; exact (a5.setCell (.inr (by simp)) _).setCell (.inr (by simp; omega)) _
    have v5 : V.heap[(w.heap.size + 5)]? = some (.deferred (some [])) := by
      rw [← hV]; exact ((Fr.refl (fun b => b = w.heap.size + 1 ∨ b = w.heap.size + 2) W).setCell (.inl (.inl rfl)) _ |>.setCell (.inl (.inr rfl)) _).heapAt hD (by simp)
    clear hV
    refine ⟨by simp, .inl ⟨_, _, rfl, run_takeDeferred v5, ?_⟩⟩
    have hp : Fr (fun b => b = (w.heap.size + 5)) V (V.putObj (w.heap.size + 5) (.deferred none)) := (Fr.refl (fun b => b = (w.heap.size + 5)) V).putObj (.inl rfl) _
    have u2 := (v2.fr hp (by omega)).1
    have u3 := (v3.fr hp (by omega)).1
    have u4 : Calm w (V.putObj (w.heap.size + 5) (.deferred none)) := v4.join hp (by simp; omega)
    refine ⟨.tuple #[wV X, .bool true], ?_, rfl, u4⟩
    simp [results, Try.f16, go_sem, u2, u3]

end Go.Proofs.Ytlocklcldalklaa
