/- The sizes of class, as plain numbers. What the functions of package class return. What the functions of package space return, for right spaces. -/
import Derived.WalkKit
import Derived.Test.YtoonimdohkbfgaaRows
import Derived.Test.YtoonimdohkbfgaaKit
set_option linter.unusedSimpArgs false
set_option linter.unusedVariables false
namespace Go.Proofs.Ytoonimdohkbfgaa

/-- The size at a place: 4, 6, 8, 12, .. -/
def sz : Nat → Int
  | 0 => 4
  | 1 => 6
  | k + 2 => 2 * sz k

theorem sz_step (k : Nat) : sz (k + 2) = 2 * sz k := rfl

theorem sz_lt (k : Nat) : sz k < sz (k + 1) ∧ sz (k + 1) < 2 * sz k ∧ 4 ≤ sz k := by
  induction k using Nat.strongRecOn with
  | ind k ih =>
    match k with
    | 0 => decide
    | 1 => decide
    | k + 2 =>
      have h := ih k (by omega)
      have h2 := ih (k + 1) (by omega)
      rw [sz_step k, show sz (k + 2 + 1) = 2 * sz (k + 1) from rfl]
      omega

theorem sz_mono {a b : Nat} (h : a ≤ b) : sz a ≤ sz b := by
  induction b with
  | zero => obtain rfl : a = 0 := by omega
            exact Int.le_refl _
  | succ b ih =>
    by_cases e : a = b + 1
    · rw [e]; exact Int.le_refl _
    · have := ih (by omega); have := sz_lt b; omega

theorem sz_strict {a b : Nat} (h : a < b) : sz a < sz b := by
  have := sz_mono (show a + 1 ≤ b from h); have := sz_lt a; omega

theorem sz_28 : sz 28 = 65536 := by decide
theorem sz_30 : sz 30 = 131072 := by decide

theorem sz_le (k : Nat) (h : k ≤ 30) : 4 ≤ sz k ∧ sz k ≤ 131072 := by
  have := sz_mono h; rw [sz_30] at this; have := sz_lt k; omega

/-- The first place from k on whose size is n or above. -/
def clsFrom (n : Int) : Nat → Nat → Nat
  | 0, k => k
  | f + 1, k => if n ≤ sz k then k else clsFrom n f (k + 1)

def cls (n : Int) : Nat := clsFrom n 28 0

theorem clsFrom_spec (n : Int) : ∀ (f k : Nat), n ≤ sz (k + f) → k ≤ clsFrom n f k ∧ clsFrom n f k ≤ k + f ∧ n ≤ sz (clsFrom n f k) ∧ ∀ j, k ≤ j → j < clsFrom n f k → sz j < n := by
  intro f
  induction f with
  | zero => intro k h; exact ⟨Nat.le_refl _, Nat.le_refl _, h, fun j h1 h2 => by simp [clsFrom] at h2; omega⟩
  | succ f ih =>
    intro k h
    unfold clsFrom
    split
    · rename_i hk; exact ⟨Nat.le_refl _, by omega, hk, fun j h1 h2 => by omega⟩
    · rename_i hk
      obtain ⟨h1, h2, h3, h4⟩ := ih (k + 1) (by rw [show k + 1 + f = k + (f + 1) from by omega]; exact h)
      refine ⟨by omega, by omega, h3, fun j hj1 hj2 => ?_⟩
      by_cases e : j = k
      · subst e; omega
      · exact h4 j (by omega) hj2

theorem cls_spec {n : Int} (h : n ≤ 65536) : cls n ≤ 28 ∧ n ≤ sz (cls n) ∧ ∀ j, j < cls n → sz j < n := by
  obtain ⟨_, h2, h3, h4⟩ := clsFrom_spec n 28 0 (by rw [Nat.zero_add, sz_28]; exact h)
  exact ⟨by rw [Nat.zero_add] at h2; exact h2, h3, fun j hj => h4 j (Nat.zero_le _) hj⟩

theorem cls_eq {n : Int} {k : Nat} (h : n ≤ 65536) (h1 : n ≤ sz k) (h2 : ∀ j, j < k → sz j < n) : cls n = k := by
  obtain ⟨_, a, b⟩ := cls_spec h
  rcases Nat.lt_trichotomy (cls n) k with hlt | heq | hgt
  · have := h2 _ hlt; omega
  · exact heq
  · have := b _ hgt; omega

/-- n rounded. -/
def rnd (n : Int) : Int := sz (cls n)

theorem rnd_spec {n : Int} (h : n ≤ 65536) : n ≤ rnd n ∧ 4 ≤ rnd n ∧ rnd n ≤ 65536 := by
  obtain ⟨a, b, _⟩ := cls_spec h
  have := sz_mono a; rw [sz_28] at this
  exact ⟨b, (sz_le _ (by omega)).1, this⟩

theorem cls_sz {k : Nat} (h : k ≤ 28) : cls (sz k) = k := by
  have := sz_mono h; rw [sz_28] at this
  exact cls_eq this (Int.le_refl _) (fun j hj => sz_strict hj)

theorem cls_mono {a b : Int} (h : a ≤ b) (hb : b ≤ 65536) : cls a ≤ cls b := by
  obtain ⟨_, _, a3⟩ := cls_spec (show a ≤ 65536 by omega)
  obtain ⟨_, b2, _⟩ := cls_spec hb
  rcases Nat.lt_or_ge (cls b) (cls a) with hlt | hge
  · have := a3 _ hlt; omega
  · exact hge

theorem cls_double {m : Int} (h4 : 4 ≤ m) (h : m ≤ 32768) : cls (2 * m) = cls m + 2 := by
  obtain ⟨a1, a2, a3⟩ := cls_spec (show m ≤ 65536 by omega)
  refine cls_eq (by omega) (by rw [sz_step]; omega) (fun j hj => ?_)
  match j, hj with
  | 0, _ => show (4 : Int) < 2 * m; omega
  | 1, _ => show (6 : Int) < 2 * m; omega
  | j + 2, hj => rw [sz_step]; have := a3 j (by omega); omega

theorem cls_next {m : Int} (_h1 : 1 ≤ m) (h : m ≤ 32768) : cls (rnd m + 1) = cls m + 1 := by
  obtain ⟨a1, a2, a3⟩ := cls_spec (show m ≤ 65536 by omega)
  have hs : sz 26 = 32768 := by decide
  have hc : cls m ≤ 26 := by
    rcases Nat.lt_or_ge 26 (cls m) with hlt | hge
    · have := a3 26 hlt; omega
    · exact hge
  have hle := sz_mono hc
  have hl := sz_lt (cls m)
  unfold rnd
  refine cls_eq (by omega) (by omega) (fun j hj => ?_)
  have := sz_mono (show j ≤ cls m by omega)
  omega

theorem sz_next (k : Nat) : 2 * sz (k + 1) = 3 * sz k ∨ 3 * sz (k + 1) = 4 * sz k := by
  induction k using Nat.strongRecOn with
  | ind k ih =>
    match k with
    | 0 => left; decide
    | 1 => right; decide
    | k + 2 =>
      rcases ih k (by omega) with h | h
      · left; rw [sz_step k, show sz (k + 2 + 1) = 2 * sz (k + 1) from rfl]; omega
      · right; rw [sz_step k, show sz (k + 2 + 1) = 2 * sz (k + 1) from rfl]; omega

theorem rnd_waste {m : Int} (h3 : 3 ≤ m) (h : m ≤ 65536) : 2 * rnd m ≤ 3 * m := by
  obtain ⟨a1, a2, a3⟩ := cls_spec h
  unfold rnd
  cases hk : cls m with
  | zero => show 2 * (4 : Int) ≤ 3 * m; omega
  | succ k =>
    have := a3 k (by omega)
    have hl := sz_lt k
    rcases sz_next k with e | e <;> omega

theorem rnd_rnd {m : Int} (h : m ≤ 65536) : rnd (rnd m) = rnd m := by
  unfold rnd; rw [cls_sz (cls_spec h).1]

theorem rnd_mono {a b : Int} (h : a ≤ b) (hb : b ≤ 65536) : rnd a ≤ rnd b := sz_mono (cls_mono h hb)

theorem rnd_small48 {n : Int} (h : n ≤ 48) : rnd n ≤ 48 := by
  have := rnd_mono h (by omega)
  have e : rnd 48 = 48 := by decide
  omega

theorem rnd_eq {a b : Int} : rnd a = rnd b ↔ cls a = cls b := by
  constructor
  · intro h
    rcases Nat.lt_trichotomy (cls a) (cls b) with x | x | x
    · have := sz_strict x; unfold rnd at h; omega
    · exact x
    · have := sz_strict x; unfold rnd at h; omega
  · intro h; unfold rnd; rw [h]

end Go.Proofs.Ytoonimdohkbfgaa

namespace Go.Proofs.Ytoonimdohkbfgaa
open Go.RowKit Go.Shelf
attribute [local go_sem] Oper.semAt_some

set_option maxHeartbeats 1000000 in
theorem sizes1_seq (n : Nat) (hn : 1 ≤ n) (N : Nat) (hN30 : N ≤ 29) (keep : Nat → Prop) (w0 : World) :
    SeqAt Fence.wide n Try.prog 66 #[] (fun k => #[.int .i64 (k : Nat), .int .i64 (sz k)]) N false keep w0 := fun l J Jx W _ _ hJ hJx hN hY h0 => by
  refine callsIn_of_wp Try.func66 rfl trivial ?_ rfl
  simp only [Try.ntmps66, List.size_toArray, List.length_cons, List.length_nil, Nat.reduceAdd, Nat.reduceSub, Array.replicate_succ, Array.replicate_zero, List.push_toArray, List.append_toArray, List.nil_append, List.cons_append, Array.append_empty]
  have HN : Hid (∀ W, ¬ J N W) := hN rfl
  clear hN
  gi_wp2
  gi_loopw [2, 3, 4] (fun s x p wr => ∃ k : Nat, k ≤ N ∧ p = .int .i64 k ∧ s = .int .i64 (sz k) ∧ x = .int .i64 (sz (k + 1)) ∧ J k wr) (fun _ _ p _ => N - (intOf p).toNat)
  case atStart => exact ⟨0, Nat.zero_le _, rfl, rfl, rfl, h0⟩
  case round =>
    obtain ⟨k, hk, rfl, rfl, rfl, hj⟩ := hrel
    have hlt : k < N := by
      rcases Nat.lt_or_ge k N with h | h
      · exact h
      · obtain rfl : k = N := by omega
        exact (HN.out _ hj).elim
    obtain ⟨fn, tmps, assign, body, hy, hR⟩ := hY k wr hlt hj
    have hb := sz_le k (by omega)
    have hb1 := sz_le (k + 1) (by omega)
    have hs : Hid (sz (k + 1 + 1) = 2 * sz k) := sz_step k
    gi_wp2
    refine hR.mono ?_
    rintro e W1 (⟨rfl, hJ1, hk1⟩ | ⟨rfl, hx1⟩)
    · gi_wp2
      go_roundw
      case rel => exact ⟨k + 1, by omega, by go_num, rfl, by rw [hs.out], hJ1⟩
      case measure => simp [intOf]; omega
    · gi_wp2
      go_end0
      exact ⟨⟨_, rfl⟩, .inr hx1⟩

theorem sizes_in (F : Fence) (n : Nat) (w : World) (hF : F.fn 65) (hro : F.round = none) :
    CallsIn F n Try.prog 65 #[] w fun e w' => e = .returned (.func (.func 66) #[] #[]) ∧ w = w' := by
  refine callsIn_of_wp Try.func65 rfl hF ?_ hro
  simp only [Try.ntmps65, List.size_toArray, List.length_cons, List.length_nil, Nat.reduceAdd, Nat.reduceSub, Array.replicate_succ, Array.replicate_zero, List.push_toArray, List.append_toArray, List.nil_append, List.cons_append]
  gi_wp2
  go_ret
  exact ⟨rfl, rfl⟩

def LeastI1 (n : Int) (w : World) (k : Nat) (a : Act) (W : World) : Prop :=
  Own W w.heap.size 0 (.int .i64 n) ∧ Own W (w.heap.size + 1) 0 (.int .i64 (k : Nat)) ∧ Own W (w.heap.size + 2) 0 (.int .i64 (sz k)) ∧ Calm w W ∧ k ≤ cls n ∧ 
  a = { tmps := #[Value.int IntKind.i64 n, Value.pointer (some { block := w.heap.size, off := 0 }), Value.pointer (some { block := w.heap.size + 1, off := 0 }), Value.pointer (some { block := w.heap.size + 1 + 1, off := 0 }), Value.bool false, Value.int IntKind.i64 n, Value.bool (decide (n < 1)), Value.bool (decide (n < 1)), Value.int IntKind.i64 n, Value.bool (decide (65536 < n)), Value.bool (decide (n < 1) || decide (65536 < n)), Value.func (Fn.func 66) #[] #[], .int .i64 (k : Nat), .int .i64 (sz k), undef, undef, undef, undef, undef], defers := [] }

set_option maxHeartbeats 1000000 in
theorem least_yes (n : Int) (h1 : 1 ≤ n) (h2 : n ≤ 65536) (w : World) :
    Calls Try.prog 62 #[.int .i64 n] w fun e w' => e = .returned (.tuple #[.int .i64 (cls n : Nat), .int .i64 (rnd n), .bool true]) ∧ Calm w w' := by
  refine (callsIn_wide (n := 9)).1 ?_
  refine callsIn_of_wp_marks Try.func62 rfl trivial ?_ rfl
  simp only [Try.ntmps62, List.size_toArray, List.length_cons, List.length_nil, Nat.reduceAdd, Nat.reduceSub, Array.replicate_succ, Array.replicate_zero, List.push_toArray, List.append_toArray, List.nil_append, List.cons_append]
  gi_wp2_with (refine ⟨trivial, ?_⟩; gi_at_call 65; refine (sizes_in _ _ _ trivial rfl).mono ?_; rintro e w' ⟨rfl, rfl⟩)
  obtain ⟨c28, csz, clt⟩ := cls_spec h2
  obtain ⟨W0, hW0⟩ : ∃ W0, (((w.alloc (Obj.cells #[Value.int IntKind.i64 n] 3)).alloc (Obj.cells #[Value.int IntKind.i64 0] 3)).alloc (Obj.cells #[Value.int IntKind.i64 0] 3)) = W0 := ⟨_, rfl⟩
  have i1 : Own W0 w.heap.size 0 (.int .i64 n) := by rw [← hW0]; exact (((Own.new w _ _ 0 rfl).alloc _).alloc _)
  have i2 : Own W0 (w.heap.size + 1) 0 (.int .i64 0) := by rw [← hW0]; exact (Own.at (w.alloc _) _ _ _ 0 (by simp) rfl).alloc _
  have i3 : Own W0 (w.heap.size + 2) 0 (.int .i64 0) := by rw [← hW0]; exact Own.at ((w.alloc _).alloc _) _ _ _ 0 (by simp) rfl
  have i4 : W0.heap.size = w.heap.size + 3 := by rw [← hW0]; simp
  have i5 : Calm w W0 := by rw [← hW0]; exact (((Fr.refl _ w).alloc _).alloc _).alloc _
  rw [hW0]
  refine wpIn_rangeAt (g := .tmp 11) rfl (by decide) (gf := 66) (lb := #[]) rfl trivial (enters_of Try.func66 (by kernel_rfl) rfl)
    (sizes1_seq 8 (by decide) 29 (by decide) (fun _ => False) W0) (Keeps.refl _ _) (fun _ h => h.elim) (fun _ => rfl)
    (fun k W => Own W w.heap.size 0 (.int .i64 n) ∧ (∃ v, Own W (w.heap.size + 1) 0 v) ∧ (∃ v, Own W (w.heap.size + 2) 0 v) ∧ Calm w W ∧ k ≤ cls n)
    (LeastI1 n w)
    (fun c W => c = .exit 0 ∧ Own W (w.heap.size + 1) 0 (.int .i64 (cls n : Nat)) ∧ Own W (w.heap.size + 2) 0 (.int .i64 (sz (cls n))) ∧ Calm w W)
    ?hI ?hI1 ?hIx ?hN ?h0 ?assign ?body ?done ?stop
  case hI =>
    rintro k A B ⟨a1, ⟨v2, a2⟩, ⟨v3, a3⟩, a4, a5⟩ hl
    exact ⟨a1.fr hl (by simp; omega), ⟨v2, a2.fr hl (by simp; omega)⟩, ⟨v3, a3.fr hl (by simp; omega)⟩, a4.join hl (by simp; omega), a5⟩
  case hI1 =>
    rintro k a' A B ⟨a1, a2, a3, a4, a5⟩ hl
    exact ⟨a1.fr hl (by simp; omega), a2.fr hl (by simp; omega), a3.fr hl (by simp; omega), a4.join hl (by simp; omega), a5⟩
  case hIx =>
    rintro c A B ⟨a1, a2, a3, a4⟩ hl
    exact ⟨a1, a2.fr hl (by simp; omega), a3.fr hl (by simp; omega), a4.join hl (by simp; omega)⟩
  case hN =>
    rintro _ W ⟨_, _, _, _, h⟩
    omega
  case h0 => exact ⟨i1, ⟨_, i2⟩, ⟨_, i3⟩, i5, Nat.zero_le _⟩
  case assign =>
    rintro l k W hk ⟨a1, ⟨v2, a2⟩, ⟨v3, a3⟩, a4, a5⟩ hs
    have b1 := a2.1
    have b2 := a2.2
    have b3 := a3.1
    have b4 := a3.2
    gi_wp2
    have hc : Calm w ((W.setCell ⟨w.heap.size + 1, 0, none⟩ (.int .i64 (k : Nat))).setCell ⟨w.heap.size + 1 + 1, 0, none⟩ (.int .i64 (sz k))) := (a4.setCell (.inr (by simp)) _).setCell (.inr (by simp; omega)) _
    exact ⟨Keeps.of_fr (S := fun b => b = w.heap.size + 1 ∨ b = w.heap.size + 2) (((Fr.refl _ _).setCell (.inl (.inl rfl)) _).setCell (.inl (.inr rfl)) _) (by simp; omega),
      (a1.far _ _ (by simp)).far _ _ (by simp; omega), (a2.set _).far _ _ (by simp), (a3.far _ _ (by simp)).set _, hc, a5, rfl⟩
  case body =>
    rintro l k a W hk ⟨a1, a2, a3, a4, a5, rfl⟩ hs
    have b1 := a1.1
    have b3 := a3.1
    gi_wp2
    · rename_i hge
      refine ⟨Keeps.refl _ _, rfl, ?_, ?_, a4⟩
      · have : k = cls n := by
          rcases Nat.lt_or_ge k (cls n) with h | h
          · have := clt _ h; omega
          · omega
        rw [← this]; exact a2
      · have : k = cls n := by
          rcases Nat.lt_or_ge k (cls n) with h | h
          · have := clt _ h; omega
          · omega
        rw [← this]; exact a3
    · rename_i hlt
      refine ⟨Keeps.refl _ _, a1, ⟨_, a2⟩, ⟨_, a3⟩, a4, ?_⟩
      rcases Nat.lt_or_ge k (cls n) with h | h
      · exact h
      · obtain rfl : k = cls n := by omega
        omega
  case done =>
    rintro W hf
    cases hf
  case stop =>
    rintro c W ⟨rfl, a2, a3, a4⟩ hD
    have b1 := a2.1
    have b2 := a2.2
    have b3 := a3.1
    have b4 := a3.2
    gi_wp2
    gi_region
    all_goals gi_wp2
    obtain ⟨V, hV⟩ : ∃ V, ((W.setCell ⟨w.heap.size + 1, 0, none⟩ (.int .i64 (cls n : Nat))).setCell ⟨w.heap.size + 1 + 1, 0, none⟩ (.int .i64 (sz (cls n)))).drew = V := ⟨_, rfl⟩
    rw [hV]
    have v2 : Own V (w.heap.size + 1) 0 (.int .i64 (cls n : Nat)) := by rw [← hV]; exact ((a2.set _).far _ _ (by simp)).drew
    have v3 : Own V (w.heap.size + 1 + 1) 0 (.int .i64 (rnd n)) := by rw [← hV]; exact ((a3.far _ _ (by simp)).set _).drew
    have v4 : Calm w V := by rw [← hV]; exact ((a4.setCell (.inr (by simp)) _).setCell (.inr (by simp; omega)) _).drew
    have v5 : V.heap[W0.heap.size]? = some (.deferred (some [])) := by
      rw [← hV]; exact (((Fr.refl (fun b => b = w.heap.size + 1 ∨ b = w.heap.size + 2) W).setCell (.inl (.inl rfl)) _).setCell (.inl (.inr rfl)) _).drew.heapAt hD (by simp; omega)
    clear hV hW0
    refine ⟨by simp, .inl ⟨_, _, rfl, run_takeDeferred v5, ?_⟩⟩
    have hp : Fr (fun b => b = W0.heap.size) V (V.putObj W0.heap.size (.deferred none)) := (Fr.refl (fun b => b = W0.heap.size) V).putObj (.inl rfl) _
    have u2 := (v2.fr hp (by omega)).1
    have u3 := (v3.fr hp (by omega)).1
    have u4 : Calm w (V.putObj W0.heap.size (.deferred none)) := v4.join hp (by simp; omega)
    refine ⟨.tuple #[.int .i64 (cls n : Nat), .int .i64 (rnd n), .bool true], ?_, rfl, u4⟩
    simp [results, Try.f62, go_sem, u2, u3]

set_option maxHeartbeats 1000000 in
theorem least_no (n : Int) (h : n < 1 ∨ 65536 < n) (w : World) :
    Calls Try.prog 62 #[.int .i64 n] w fun e w' => e = .returned (.tuple #[.int .i64 0, .int .i64 0, .bool false]) ∧ Calm w w' := by
  go_enter Try.func62, Try.ntmps62
  go_wp2
  all_goals exact bodyPost_ret (v := .tuple #[.int .i64 0, .int .i64 0, .bool false]) (by simp [results, Try.f62, go_sem]) rfl ⟨rfl, (((Fr.refl _ w).alloc _).alloc _).alloc _⟩

theorem round_yes (n : Int) (h1 : 1 ≤ n) (h2 : n ≤ 65536) (w : World) :
    Calls Try.prog 55 #[.int .i64 n] w fun e w' => e = .returned (.tuple #[.int .i64 (rnd n), .bool true]) ∧ Calm w w' := by
  go_enter Try.func55, Try.ntmps55
  go_wp2_with (go_at_call 62; refine (least_yes _ h1 h2 _).mono ?_; rintro e w' ⟨rfl, hc⟩)
  go_ret2
  exact ⟨rfl, hc⟩

theorem round_no (n : Int) (h : n < 1 ∨ 65536 < n) (w : World) :
    Calls Try.prog 55 #[.int .i64 n] w fun e w' => e = .returned (.tuple #[.int .i64 0, .bool false]) ∧ Calm w w' := by
  go_enter Try.func55, Try.ntmps55
  go_wp2_with (go_at_call 62; refine (least_no _ h _).mono ?_; rintro e w' ⟨rfl, hc⟩)
  go_ret2
  exact ⟨rfl, hc⟩


end Go.Proofs.Ytoonimdohkbfgaa

namespace Go.Proofs.Ytoonimdohkbfgaa
open Go.RowKit Go.Shelf

/-- A space, as a value. -/
abbrev spV (b s t : Int) : Value := .agg #[.int .i64 b, .int .i64 s, .int .i64 t]
/-- A space may be. -/
def okP (b s t : Int) : Prop := 0 ≤ b ∧ b ≤ 65536 ∧ 0 ≤ s ∧ s ≤ 65536 ∧ b ≤ t ∧ t ≤ b + s

theorem fit_yes (b s t : Int) (w : World) (h : okP b s t) :
    Calls Try.prog 57 #[spV b s t] w fun e w' => e = .returned (spV b s t) ∧ Calm w w' := by
  obtain ⟨h1, h2, h3, h4, h5, h6⟩ := h
  go_enter Try.func57, Try.ntmps57
  go_wp2
  exact bodyPost_ret (v := spV b s t) (by simp [results, Try.f57, go_sem]) rfl ⟨rfl, (Fr.alloc (Fr.refl _ _) _).alloc _⟩

theorem sright_yes (b s t : Int) (w : World) (h : okP b s t) :
    Calls Try.prog 41 #[spV b s t] w fun e w' => e = .returned (.bool true) ∧ Calm w w' := by
  go_enter Try.func41, Try.ntmps41
  go_wp2_with fail
  obtain ⟨W1, hW1⟩ : ∃ W1, w.alloc (.cells #[.int .i64 b, .int .i64 s, .int .i64 t] 56) = W1 := ⟨_, rfl⟩
  obtain ⟨B, hB⟩ : ∃ B, w.heap.size = B := ⟨_, rfl⟩
  have q0 : ∀ x : Later W1, x.w.cell? ⟨B, 0, none⟩ = some (.int .i64 b) := fun x => x.cell (by rw [← hW1, ← hB]; exact World.cell?_alloc_new w _ _ 0)
  have q1 : ∀ x : Later W1, x.w.cell? ⟨B, 1, none⟩ = some (.int .i64 s) := fun x => x.cell (by rw [← hW1, ← hB]; exact World.cell?_alloc_new w _ _ 1)
  have q2 : ∀ x : Later W1, x.w.cell? ⟨B, 2, none⟩ = some (.int .i64 t) := fun x => x.cell (by rw [← hW1, ← hB]; exact World.cell?_alloc_new w _ _ 2)
  have k1 : Calm w W1 := by rw [← hW1]; exact Fr.alloc (Fr.refl _ _) _
  rw [hW1, hB]
  clear hW1 hB
  refine wp_region_calm (by kernel_rfl) (by kernel_rfl) ?_
  repeat (go_big_quiet_step ((go_at_call 57; exact Calls.calm_of (fit_yes b s t _ h))))
  refine wpQuiet_nil ?_
  intro w2 hw'
  have c2 := Later.out hw'
  clear hw'
  go_wp2
  go_ret
  exact ⟨by simp, k1.trans c2⟩

theorem used_any (b s t : Int) (w : World) (h : okP b s t) :
    Calls Try.prog 38 #[spV b s t] w fun e w' => e = .returned (.int .i64 (t - b)) ∧ Calm w w' := by
  have H : Hid (okP b s t) := h
  obtain ⟨h1, h2, h3, h4, h5, h6⟩ := h
  go_enter Try.func38, Try.ntmps38
  go_wp2_with fail
  refine (sright_yes b s t _ H.out).mono ?_
  rintro e w1 ⟨rfl, c1⟩
  have b0 := ((Own.new w #[.int .i64 b, .int .i64 s, .int .i64 t] 56 0 rfl).fr c1 id).1
  have b1 := ((Own.new w #[.int .i64 b, .int .i64 s, .int .i64 t] 56 1 rfl).fr c1 id).1
  have b2 := ((Own.new w #[.int .i64 b, .int .i64 s, .int .i64 t] 56 2 rfl).fr c1 id).1
  go_wp2
  go_ret
  exact ⟨rfl, Fr.trans (Fr.alloc (Fr.refl _ _) _) c1⟩

theorem left_any (b s t : Int) (w : World) (h : okP b s t) :
    Calls Try.prog 56 #[spV b s t] w fun e w' => e = .returned (.int .i64 (s - (t - b))) ∧ Calm w w' := by
  have H : Hid (okP b s t) := h
  obtain ⟨h1, h2, h3, h4, h5, h6⟩ := h
  go_enter Try.func56, Try.ntmps56
  go_wp2_with fail
  refine (sright_yes b s t _ H.out).mono ?_
  rintro e w1 ⟨rfl, c1⟩
  have b0 := ((Own.new w #[.int .i64 b, .int .i64 s, .int .i64 t] 56 0 rfl).fr c1 id).1
  have b1 := ((Own.new w #[.int .i64 b, .int .i64 s, .int .i64 t] 56 1 rfl).fr c1 id).1
  have b2 := ((Own.new w #[.int .i64 b, .int .i64 s, .int .i64 t] 56 2 rfl).fr c1 id).1
  go_wp2_with fail
  have q0 : ∀ x : Later w1, x.w.cell? ⟨w.heap.size, 0, none⟩ = some (.int .i64 b) := fun x => x.cell b0
  have q1 : ∀ x : Later w1, x.w.cell? ⟨w.heap.size, 1, none⟩ = some (.int .i64 s) := fun x => x.cell b1
  have q2 : ∀ x : Later w1, x.w.cell? ⟨w.heap.size, 2, none⟩ = some (.int .i64 t) := fun x => x.cell b2
  refine wp_region_calm (by kernel_rfl) (by kernel_rfl) ?_
  repeat (go_big_quiet_step ((go_at_call 38; exact Calls.calm_of (used_any b s t _ H.out))))
  refine wpQuiet_nil ?_
  intro w2 hw'
  have c2 := Later.out hw'
  clear hw'
  go_wp2
  go_ret
  exact ⟨rfl, (Fr.trans (Fr.alloc (Fr.refl _ _) _) c1).trans c2⟩




set_option maxHeartbeats 1000000 in
theorem make_yes (b s : Int) (w : World) (h1 : 0 ≤ b) (h2 : b ≤ 65536) (h3 : 0 ≤ s) (h4 : s ≤ 65536) :
    Calls Try.prog 19 #[.int .i64 b, .int .i64 s] w fun e w' => e = .returned (.tuple #[spV b s b, .bool true]) ∧ Calm w w' := by
  go_enter Try.func19, Try.ntmps19
  go_wp2_with fail
  have r : OwnL ((w.alloc (.cells #[.int .i64 0, .int .i64 0, .int .i64 0] 56)).alloc (.cells #[.int .i64 b, .int .i64 s, .int .i64 b] 56)) w.heap.size [.int .i64 0, .int .i64 0, .int .i64 0] := (OwnL.new w [.int .i64 0, .int .i64 0, .int .i64 0] _).alloc _
  have o : OwnL ((w.alloc (.cells #[.int .i64 0, .int .i64 0, .int .i64 0] 56)).alloc (.cells #[.int .i64 b, .int .i64 s, .int .i64 b] 56)) (w.heap.size + 1) [.int .i64 b, .int .i64 s, .int .i64 b] := OwnL.at (w.alloc _) [.int .i64 b, .int .i64 s, .int .i64 b] _ _ (by simp)
  refine (sright_yes b s b _ ⟨by omega, by omega, by omega, by omega, by omega, by omega⟩).mono ?_
  rintro e w1 ⟨rfl, c1⟩
  replace r := r.calm c1
  replace o := o.calm c1
  have k1 : Calm w w1 := ((Fr.alloc (Fr.refl _ _) _).alloc _).trans c1
  clear c1
  obtain ⟨B, hB⟩ : ∃ B, w.heap.size = B := ⟨_, rfl⟩
  have HB : Hid (w.heap.size = B) := hB
  rw [hB] at o r ⊢
  clear hB
  have o0 := (o 0 _ rfl).1
  have o1 := (o 1 _ rfl).1
  have o2 := (o 2 _ rfl).1
  have r0 := (r 0 _ rfl).1
  have r1 := (r 1 _ rfl).1
  have r2 := (r 2 _ rfl).1
  have s0 := (r 0 _ rfl).2
  have s1 := (r 1 _ rfl).2
  have s2 := (r 2 _ rfl).2
  go_wp2
  obtain ⟨t0, tf⟩ := r.set3 (.int .i64 b) (.int .i64 s) (.int .i64 b)
  refine bodyPost_ret (v := .tuple #[spV b s b, .bool true]) ?_ rfl ⟨rfl, k1.join tf (by have := HB.out; intro k h1 h2; omega)⟩
  simp [results, Try.f19, go_sem, (t0 0 _ rfl).1, (t0 1 _ rfl).1, (t0 2 _ rfl).1]

set_option maxHeartbeats 1000000 in
theorem take_yes (b s t n : Int) (w : World) (h : okP b s t) (n1 : 1 ≤ n) (n2 : n ≤ 65536) (hl : rnd n ≤ s - (t - b)) :
    Calls Try.prog 39 #[spV b s t, .int .i64 n] w fun e w' => e = .returned (.tuple #[spV b s (t + rnd n), .int .i64 t, .bool true]) ∧ Calm w w' := by
  have rb := rnd_spec n2
  obtain ⟨x, hx⟩ : ∃ x, rnd n = x := ⟨_, rfl⟩
  rw [hx] at hl rb
  obtain ⟨rb1, rb2, rb3⟩ := rb
  rw [hx]
  have HR : Hid (rnd n = x) := hx
  clear hx
  have H : Hid (okP b s t) := h
  obtain ⟨h1, h2, h3, h4, h5, h6⟩ := h
  go_enter Try.func39, Try.ntmps39
  go_wp2_with fail
  have o : OwnL ((w.alloc (.cells #[.int .i64 b, .int .i64 s, .int .i64 t] 56)).alloc (.cells #[.int .i64 0, .int .i64 0, .int .i64 0] 56)) w.heap.size [.int .i64 b, .int .i64 s, .int .i64 t] := (OwnL.new w [.int .i64 b, .int .i64 s, .int .i64 t] _).alloc _
  have r : OwnL ((w.alloc (.cells #[.int .i64 b, .int .i64 s, .int .i64 t] 56)).alloc (.cells #[.int .i64 0, .int .i64 0, .int .i64 0] 56)) (w.heap.size + 1) [.int .i64 0, .int .i64 0, .int .i64 0] := OwnL.at (w.alloc _) [.int .i64 0, .int .i64 0, .int .i64 0] _ _ (by simp)
  refine (sright_yes b s t _ H.out).mono ?_
  rintro e w1 ⟨rfl, c1⟩
  replace r := r.calm c1
  replace o := o.calm c1
  have k1 : Calm w w1 := ((Fr.alloc (Fr.refl _ _) _).alloc _).trans c1
  clear c1
  obtain ⟨B, hB⟩ : ∃ B, w.heap.size = B := ⟨_, rfl⟩
  have HB : Hid (w.heap.size = B) := hB
  rw [hB] at o r ⊢
  clear hB
  go_wp2_with fail
  refine (round_yes n n1 n2 _).mono ?_
  rintro e w2 ⟨rfl, c2⟩
  replace r := r.calm c2
  replace o := o.calm c2
  have k2 := k1.trans c2
  clear c2 k1
  rw [HR.out]
  have o0 := (o 0 _ rfl).1
  have o1 := (o 1 _ rfl).1
  have o2 := (o 2 _ rfl).1
  go_wp2_with fail
  clear o0 o1 o2
  refine (left_any b s t _ H.out).mono ?_
  rintro e w3 ⟨rfl, c3⟩
  replace r := r.calm c3
  replace o := o.calm c3
  have k3 := k2.trans c3
  clear c3 k2
  have o0 := (o 0 _ rfl).1
  have o0f := (o 0 _ rfl).2
  have o1 := (o 1 _ rfl).1
  have o1f := (o 1 _ rfl).2
  have o2 := (o 2 _ rfl).1
  have o2f := (o 2 _ rfl).2
  have r0 := (r 0 _ rfl).1
  have r0f := (r 0 _ rfl).2
  have r1 := (r 1 _ rfl).1
  have r1f := (r 1 _ rfl).2
  have r2 := (r 2 _ rfl).1
  have r2f := (r 2 _ rfl).2
  go_wp2
  have o' := (o.set 2 (.int .i64 (t + x)) (by simp))
  obtain ⟨t0, tf⟩ := (r.far ⟨B, 2, none⟩ (.int .i64 (t + x)) (by simp)).set3 (.int .i64 b) (.int .i64 s) (.int .i64 (t + x))
  have k4 := k3.setCell (p := ⟨B, 2, none⟩) (.inr (by have := HB.out; simp; omega)) (.int .i64 (t + x))
  refine bodyPost_ret (v := .tuple #[spV b s (t + x), .int .i64 t, .bool true]) ?_ rfl ⟨rfl, k4.join tf (by have := HB.out; intro k h1 h2; omega)⟩
  simp [results, Try.f39, go_sem, (t0 0 _ rfl).1, (t0 1 _ rfl).1, (t0 2 _ rfl).1]

set_option maxHeartbeats 1000000 in
theorem take_full (b s t n : Int) (w : World) (h : okP b s t) (n1 : 1 ≤ n) (n2 : n ≤ 65536) (hl : s - (t - b) < rnd n) :
    Calls Try.prog 39 #[spV b s t, .int .i64 n] w fun e w' => e = .returned (.tuple #[spV b s t, .int .i64 0, .bool false]) ∧ Calm w w' := by
  have rb := rnd_spec n2
  obtain ⟨x, hx⟩ : ∃ x, rnd n = x := ⟨_, rfl⟩
  rw [hx] at hl rb
  obtain ⟨rb1, rb2, rb3⟩ := rb
  have HR : Hid (rnd n = x) := hx
  clear hx
  have H : Hid (okP b s t) := h
  obtain ⟨h1, h2, h3, h4, h5, h6⟩ := h
  go_enter Try.func39, Try.ntmps39
  go_wp2_with fail
  have o : OwnL ((w.alloc (.cells #[.int .i64 b, .int .i64 s, .int .i64 t] 56)).alloc (.cells #[.int .i64 0, .int .i64 0, .int .i64 0] 56)) w.heap.size [.int .i64 b, .int .i64 s, .int .i64 t] := (OwnL.new w [.int .i64 b, .int .i64 s, .int .i64 t] _).alloc _
  have r : OwnL ((w.alloc (.cells #[.int .i64 b, .int .i64 s, .int .i64 t] 56)).alloc (.cells #[.int .i64 0, .int .i64 0, .int .i64 0] 56)) (w.heap.size + 1) [.int .i64 0, .int .i64 0, .int .i64 0] := OwnL.at (w.alloc _) [.int .i64 0, .int .i64 0, .int .i64 0] _ _ (by simp)
  refine (sright_yes b s t _ H.out).mono ?_
  rintro e w1 ⟨rfl, c1⟩
  replace r := r.calm c1
  replace o := o.calm c1
  have k1 : Calm w w1 := ((Fr.alloc (Fr.refl _ _) _).alloc _).trans c1
  clear c1
  obtain ⟨B, hB⟩ : ∃ B, w.heap.size = B := ⟨_, rfl⟩
  have HB : Hid (w.heap.size = B) := hB
  rw [hB] at o r ⊢
  clear hB
  go_wp2_with fail
  refine (round_yes n n1 n2 _).mono ?_
  rintro e w2 ⟨rfl, c2⟩
  replace r := r.calm c2
  replace o := o.calm c2
  have k2 := k1.trans c2
  clear c2 k1
  rw [HR.out]
  have o0 := (o 0 _ rfl).1
  have o1 := (o 1 _ rfl).1
  have o2 := (o 2 _ rfl).1
  go_wp2_with fail
  clear o0 o1 o2
  refine (left_any b s t _ H.out).mono ?_
  rintro e w3 ⟨rfl, c3⟩
  replace r := r.calm c3
  replace o := o.calm c3
  have k3 := k2.trans c3
  clear c3 k2
  have o0 := (o 0 _ rfl).1
  have o0f := (o 0 _ rfl).2
  have o1 := (o 1 _ rfl).1
  have o1f := (o 1 _ rfl).2
  have o2 := (o 2 _ rfl).1
  have o2f := (o 2 _ rfl).2
  have r0 := (r 0 _ rfl).1
  have r0f := (r 0 _ rfl).2
  have r1 := (r 1 _ rfl).1
  have r1f := (r 1 _ rfl).2
  have r2 := (r 2 _ rfl).1
  have r2f := (r 2 _ rfl).2
  go_wp2
  obtain ⟨t0, tf⟩ := r.set3 (.int .i64 b) (.int .i64 s) (.int .i64 t)
  refine bodyPost_ret (v := .tuple #[spV b s t, .int .i64 0, .bool false]) ?_ rfl ⟨rfl, k3.join tf (by have := HB.out; intro k h1 h2; omega)⟩
  simp [results, Try.f39, go_sem, (t0 0 _ rfl).1, (t0 1 _ rfl).1, (t0 2 _ rfl).1]

set_option maxHeartbeats 1000000 in
theorem take_bad (b s t n : Int) (w : World) (h : okP b s t) (hn : n < 1 ∨ 65536 < n) :
    Calls Try.prog 39 #[spV b s t, .int .i64 n] w fun e w' => e = .returned (.tuple #[spV b s t, .int .i64 0, .bool false]) ∧ Calm w w' := by
  have HN : Hid (n < 1 ∨ 65536 < n) := hn
  clear hn
  have H : Hid (okP b s t) := h
  obtain ⟨h1, h2, h3, h4, h5, h6⟩ := h
  go_enter Try.func39, Try.ntmps39
  go_wp2_with fail
  have o : OwnL ((w.alloc (.cells #[.int .i64 b, .int .i64 s, .int .i64 t] 56)).alloc (.cells #[.int .i64 0, .int .i64 0, .int .i64 0] 56)) w.heap.size [.int .i64 b, .int .i64 s, .int .i64 t] := (OwnL.new w [.int .i64 b, .int .i64 s, .int .i64 t] _).alloc _
  have r : OwnL ((w.alloc (.cells #[.int .i64 b, .int .i64 s, .int .i64 t] 56)).alloc (.cells #[.int .i64 0, .int .i64 0, .int .i64 0] 56)) (w.heap.size + 1) [.int .i64 0, .int .i64 0, .int .i64 0] := OwnL.at (w.alloc _) [.int .i64 0, .int .i64 0, .int .i64 0] _ _ (by simp)
  refine (sright_yes b s t _ H.out).mono ?_
  rintro e w1 ⟨rfl, c1⟩
  replace r := r.calm c1
  replace o := o.calm c1
  have k1 : Calm w w1 := ((Fr.alloc (Fr.refl _ _) _).alloc _).trans c1
  clear c1
  obtain ⟨B, hB⟩ : ∃ B, w.heap.size = B := ⟨_, rfl⟩
  have HB : Hid (w.heap.size = B) := hB
  rw [hB] at o r ⊢
  clear hB
  go_wp2_with fail
  refine (round_no n HN.out _).mono ?_
  rintro e w2 ⟨rfl, c2⟩
  replace r := r.calm c2
  replace o := o.calm c2
  have k2 := k1.trans c2
  clear c2 k1
  have o0 := (o 0 _ rfl).1
  have o0f := (o 0 _ rfl).2
  have o1 := (o 1 _ rfl).1
  have o1f := (o 1 _ rfl).2
  have o2 := (o 2 _ rfl).1
  have o2f := (o 2 _ rfl).2
  have r0 := (r 0 _ rfl).1
  have r0f := (r 0 _ rfl).2
  have r1 := (r 1 _ rfl).1
  have r1f := (r 1 _ rfl).2
  have r2 := (r 2 _ rfl).1
  have r2f := (r 2 _ rfl).2
  go_wp2
  obtain ⟨t0, tf⟩ := r.set3 (.int .i64 b) (.int .i64 s) (.int .i64 t)
  refine bodyPost_ret (v := .tuple #[spV b s t, .int .i64 0, .bool false]) ?_ rfl ⟨rfl, k2.join tf (by have := HB.out; intro k h1 h2; omega)⟩
  simp [results, Try.f39, go_sem, (t0 0 _ rfl).1, (t0 1 _ rfl).1, (t0 2 _ rfl).1]

end Go.Proofs.Ytoonimdohkbfgaa
