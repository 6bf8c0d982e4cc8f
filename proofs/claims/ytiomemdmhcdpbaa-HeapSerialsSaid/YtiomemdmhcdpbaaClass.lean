/- What the functions of package class return. -/
import Derived.Test.YtiomemdmhcdpbaaRows
import Derived.Test.YtiomemdmhcdpbaaKit
import Derived.Test.YtiomemdmhcdpbaaClassL
set_option linter.unusedSimpArgs false
set_option linter.unusedVariables false
namespace Go.Proofs.Ytiomemdmhcdpbaa
open Go.RowKit Go.Shelf
attribute [local go_sem] Oper.semAt_some

set_option maxHeartbeats 1000000 in
theorem sizes1_seq (n : Nat) (hn : 1 ≤ n) (N : Nat) (hN30 : N ≤ 29) (keep : Nat → Prop) (w0 : World) :
    SeqAt Fence.wide n Try.prog 113 #[] (fun k => #[.int .i64 (k : Nat), .int .i64 (sz k)]) N false keep w0 := fun l J Jx W _ _ hJ hJx hN hY h0 => by
  refine callsIn_of_wp Try.func113 rfl trivial ?_ rfl
  simp only [Try.ntmps113, List.size_toArray, List.length_cons, List.length_nil, Nat.reduceAdd, Nat.reduceSub, Array.replicate_succ, Array.replicate_zero, List.push_toArray, List.append_toArray, List.nil_append, List.cons_append, Array.append_empty]
  have HN : Hid (∀ W, ¬ J N W) := hN rfl
  clear hN
  gi_wp2
  gi_loopw [2, 3, 4] (fun s x p wr => ∃ k : Nat, k ≤ N ∧ p = .int .i64 k ∧ s = .int .i64 (sz k) ∧ x = .int .i64 (sz (k + 1)) ∧ J k wr) (fun _ _ p _ => N - (intOf p).toNat)
  case atStart => exact ⟨0, Nat.zero_le _, rfl, rfl, rfl, h0⟩
  case round =>
    obtain ⟨k, hk, rfl, rfl, rfl, hj⟩ := hrel
    have hlt : k < N := by
      rcases Nat.lt_or_ge k N with h | h
      · exact h
      · obtain rfl : k = N := by omega
        exact (HN.out _ hj).elim
    obtain ⟨fn, tmps, assign, body, hy, hR⟩ := hY k wr hlt hj
    have hb := sz_le k (by omega)
    have hb1 := sz_le (k + 1) (by omega)
    have hs : Hid (sz (k + 1 + 1) = 2 * sz k) := sz_step k
    gi_wp2
    refine hR.mono ?_
    rintro e W1 (⟨rfl, hJ1, hk1⟩ | ⟨rfl, hx1⟩)
    · gi_wp2
      go_roundw
      case rel => exact ⟨k + 1, by omega, by go_num, rfl, by rw [hs.out], hJ1⟩
      case measure => simp [intOf]; omega
    · gi_wp2
      go_end0
      exact ⟨⟨_, rfl⟩, .inr hx1⟩

theorem sizes_in (F : Fence) (n : Nat) (w : World) (hF : F.fn 100) (hro : F.round = none) :
    CallsIn F n Try.prog 100 #[] w fun e w' => e = .returned (.func (.func 113) #[] #[]) ∧ w = w' := by
  refine callsIn_of_wp Try.func100 rfl hF ?_ hro
  simp only [Try.ntmps100, List.size_toArray, List.length_cons, List.length_nil, Nat.reduceAdd, Nat.reduceSub, Array.replicate_succ, Array.replicate_zero, List.push_toArray, List.append_toArray, List.nil_append, List.cons_append]
  gi_wp2
  go_ret
  exact ⟨rfl, rfl⟩

def LeastI1 (n : Int) (w : World) (k : Nat) (a : Act) (W : World) : Prop :=
  Own W w.heap.size 0 (.int .i64 n) ∧ Own W (w.heap.size + 1) 0 (.int .i64 (k : Nat)) ∧ Own W (w.heap.size + 2) 0 (.int .i64 (sz k)) ∧ Calm w W ∧ k ≤ cls n ∧ 
  a = { tmps := #[Value.int IntKind.i64 n, Value.pointer (some { block := w.heap.size, off := 0 }), Value.pointer (some { block := w.heap.size + 1, off := 0 }), Value.pointer (some { block := w.heap.size + 1 + 1, off := 0 }), Value.bool false, Value.int IntKind.i64 n, Value.bool (decide (n < 1)), Value.bool (decide (n < 1)), Value.int IntKind.i64 n, Value.bool (decide (65536 < n)), Value.bool (decide (n < 1) || decide (65536 < n)), Value.func (Fn.func 113) #[] #[], .int .i64 (k : Nat), .int .i64 (sz k), undef, undef, undef, undef, undef], defers := [] }

set_option maxHeartbeats 1000000 in
theorem least_yes (n : Int) (h1 : 1 ≤ n) (h2 : n ≤ 65536) (w : World) :
    Calls Try.prog 72 #[.int .i64 n] w fun e w' => e = .returned (.tuple #[.int .i64 (cls n : Nat), .int .i64 (rnd n), .bool true]) ∧ Calm w w' := by
  refine (callsIn_wide (n := 9)).1 ?_
  refine callsIn_of_wp_marks Try.func72 rfl trivial ?_ rfl
  simp only [Try.ntmps72, List.size_toArray, List.length_cons, List.length_nil, Nat.reduceAdd, Nat.reduceSub, Array.replicate_succ, Array.replicate_zero, List.push_toArray, List.append_toArray, List.nil_append, List.cons_append]
  gi_wp2_with (refine ⟨trivial, ?_⟩; gi_at_call 100; refine (sizes_in _ _ _ trivial rfl).mono ?_; rintro e w' ⟨rfl, rfl⟩)
  obtain ⟨c28, csz, clt⟩ := cls_spec h2
  obtain ⟨W0, hW0⟩ : ∃ W0, (((w.alloc (Obj.cells #[Value.int IntKind.i64 n] 3)).alloc (Obj.cells #[Value.int IntKind.i64 0] 3)).alloc (Obj.cells #[Value.int IntKind.i64 0] 3)) = W0 := ⟨_, rfl⟩
  have i1 : Own W0 w.heap.size 0 (.int .i64 n) := by rw [← hW0]; exact (((Own.new w _ _ 0 rfl).alloc _).alloc _)
  have i2 : Own W0 (w.heap.size + 1) 0 (.int .i64 0) := by rw [← hW0]; exact (Own.at (w.alloc _) _ _ _ 0 (by simp) rfl).alloc _
  have i3 : Own W0 (w.heap.size + 2) 0 (.int .i64 0) := by rw [← hW0]; exact Own.at ((w.alloc _).alloc _) _ _ _ 0 (by simp) rfl
  have i4 : W0.heap.size = w.heap.size + 3 := by rw [← hW0]; simp
  have i5 : Calm w W0 := by rw [← hW0]; exact (((Fr.refl _ w).alloc _).alloc _).alloc _
  rw [hW0]
  refine wpIn_rangeAt (g := .tmp 11) rfl (by decide) (gf := 113) (lb := #[]) rfl trivial (enters_of Try.func113 (by kernel_rfl) rfl)
    (sizes1_seq 8 (by decide) 29 (by decide) (fun _ => False) W0) (Keeps.refl _ _) (fun _ h => h.elim) (fun _ => rfl)
    (fun k W => Own W w.heap.size 0 (.int .i64 n) ∧ (∃ v, Own W (w.heap.size + 1) 0 v) ∧ (∃ v, Own W (w.heap.size + 2) 0 v) ∧ Calm w W ∧ k ≤ cls n)
    (LeastI1 n w)
    (fun c W => c = .exit 0 ∧ Own W (w.heap.size + 1) 0 (.int .i64 (cls n : Nat)) ∧ Own W (w.heap.size + 2) 0 (.int .i64 (sz (cls n))) ∧ Calm w W)
    ?hI ?hI1 ?hIx ?hN ?h0 ?assign ?body ?done ?stop
  case hI =>
    rintro k A B ⟨a1, ⟨v2, a2⟩, ⟨v3, a3⟩, a4, a5⟩ hl
    exact ⟨a1.fr hl (by simp; omega), ⟨v2, a2.fr hl (by simp; omega)⟩, ⟨v3, a3.fr hl (by simp; omega)⟩, a4.join hl (by simp; omega), a5⟩
  case hI1 =>
    rintro k a' A B ⟨a1, a2, a3, a4, a5⟩ hl
    exact ⟨a1.fr hl (by simp; omega), a2.fr hl (by simp; omega), a3.fr hl (by simp; omega), a4.join hl (by simp; omega), a5⟩
  case hIx =>
    rintro c A B ⟨a1, a2, a3, a4⟩ hl
    exact ⟨a1, a2.fr hl (by simp; omega), a3.fr hl (by simp; omega), a4.join hl (by simp; omega)⟩
  case hN =>
    rintro _ W ⟨_, _, _, _, h⟩
    omega
  case h0 => exact ⟨i1, ⟨_, i2⟩, ⟨_, i3⟩, i5, Nat.zero_le _⟩
  case assign =>
    rintro l k W hk ⟨a1, ⟨v2, a2⟩, ⟨v3, a3⟩, a4, a5⟩ hs
    have b1 := a2.1
    have b2 := a2.2
    have b3 := a3.1
    have b4 := a3.2
    gi_wp2
    have hc : Calm w ((W.setCell ⟨w.heap.size + 1, 0, none⟩ (.int .i64 (k : Nat))).setCell ⟨w.heap.size + 1 + 1, 0, none⟩ (.int .i64 (sz k))) := (a4.setCell (.inr (by simp)) _).setCell (.inr (by simp; omega)) _
    exact ⟨Keeps.of_fr (S := fun b => b = w.heap.size + 1 ∨ b = w.heap.size + 2) (((Fr.refl _ _).setCell (.inl (.inl rfl)) _).setCell (.inl (.inr rfl)) _) (by simp; omega),
      (a1.far _ _ (by simp)).far _ _ (by simp; omega), (a2.set _).far _ _ (by simp), (a3.far _ _ (by simp)).set _, hc, a5, rfl⟩
  case body =>
    rintro l k a W hk ⟨a1, a2, a3, a4, a5, rfl⟩ hs
    have b1 := a1.1
    have b3 := a3.1
    gi_wp2
    · rename_i hge
      refine ⟨Keeps.refl _ _, rfl, ?_, ?_, a4⟩
      · have : k = cls n := by
          rcases Nat.lt_or_ge k (cls n) with h | h
          · have := clt _ h; omega
          · omega
        rw [← this]; exact a2
      · have : k = cls n := by
          rcases Nat.lt_or_ge k (cls n) with h | h
          · have := clt _ h; omega
          · omega
        rw [← this]; exact a3
    · rename_i hlt
      refine ⟨Keeps.refl _ _, a1, ⟨_, a2⟩, ⟨_, a3⟩, a4, ?_⟩
      rcases Nat.lt_or_ge k (cls n) with h | h
      · exact h
      · obtain rfl : k = cls n := by omega
        omega
  case done =>
    rintro W hf
    cases hf
  case stop =>
    rintro c W ⟨rfl, a2, a3, a4⟩ hD
    have b1 := a2.1
    have b2 := a2.2
    have b3 := a3.1
    have b4 := a3.2
    gi_wp2
    gi_region
    all_goals gi_wp2
    obtain ⟨V, hV⟩ : ∃ V, ((W.setCell ⟨w.heap.size + 1, 0, none⟩ (.int .i64 (cls n : Nat))).setCell ⟨w.heap.size + 1 + 1, 0, none⟩ (.int .i64 (sz (cls n)))).drew = V := ⟨_, rfl⟩
    rw [hV]
    have v2 : Own V (w.heap.size + 1) 0 (.int .i64 (cls n : Nat)) := by rw [← hV]; exact ((a2.set _).far _ _ (by simp)).drew
    have v3 : Own V (w.heap.size + 1 + 1) 0 (.int .i64 (rnd n)) := by rw [← hV]; exact ((a3.far _ _ (by simp)).set _).drew
    have v4 : Calm w V := by rw [← hV]; exact ((a4.setCell (.inr (by simp)) _).setCell (.inr (by simp; omega)) _).drew
    have v5 : V.heap[W0.heap.size]? = some (.deferred (some [])) := by
      rw [← hV]; exact (((Fr.refl (fun b => b = w.heap.size + 1 ∨ b = w.heap.size + 2) W).setCell (.inl (.inl rfl)) _).setCell (.inl (.inr rfl)) _).drew.heapAt hD (by simp; omega)
    clear hV hW0
    refine ⟨by simp, .inl ⟨_, _, rfl, run_takeDeferred v5, ?_⟩⟩
    have hp : Fr (fun b => b = W0.heap.size) V (V.putObj W0.heap.size (.deferred none)) := (Fr.refl (fun b => b = W0.heap.size) V).putObj (.inl rfl) _
    have u2 := (v2.fr hp (by omega)).1
    have u3 := (v3.fr hp (by omega)).1
    have u4 : Calm w (V.putObj W0.heap.size (.deferred none)) := v4.join hp (by simp; omega)
    refine ⟨.tuple #[.int .i64 (cls n : Nat), .int .i64 (rnd n), .bool true], ?_, rfl, u4⟩
    simp [results, Try.f72, go_sem, u2, u3]

set_option maxHeartbeats 1000000 in
theorem least_no (n : Int) (h : n < 1 ∨ 65536 < n) (w : World) :
    Calls Try.prog 72 #[.int .i64 n] w fun e w' => e = .returned (.tuple #[.int .i64 0, .int .i64 0, .bool false]) ∧ Calm w w' := by
  go_enter Try.func72, Try.ntmps72
  go_wp2
  all_goals exact bodyPost_ret (v := .tuple #[.int .i64 0, .int .i64 0, .bool false]) (by simp [results, Try.f72, go_sem]) rfl ⟨rfl, (((Fr.refl _ w).alloc _).alloc _).alloc _⟩

theorem round_yes (n : Int) (h1 : 1 ≤ n) (h2 : n ≤ 65536) (w : World) :
    Calls Try.prog 37 #[.int .i64 n] w fun e w' => e = .returned (.tuple #[.int .i64 (rnd n), .bool true]) ∧ Calm w w' := by
  go_enter Try.func37, Try.ntmps37
  go_wp2_with (go_at_call 72; refine (least_yes _ h1 h2 _).mono ?_; rintro e w' ⟨rfl, hc⟩)
  go_ret2
  exact ⟨rfl, hc⟩

theorem round_no (n : Int) (h : n < 1 ∨ 65536 < n) (w : World) :
    Calls Try.prog 37 #[.int .i64 n] w fun e w' => e = .returned (.tuple #[.int .i64 0, .bool false]) ∧ Calm w w' := by
  go_enter Try.func37, Try.ntmps37
  go_wp2_with (go_at_call 72; refine (least_no _ h _).mono ?_; rintro e w' ⟨rfl, hc⟩)
  go_ret2
  exact ⟨rfl, hc⟩


end Go.Proofs.Ytiomemdmhcdpbaa
