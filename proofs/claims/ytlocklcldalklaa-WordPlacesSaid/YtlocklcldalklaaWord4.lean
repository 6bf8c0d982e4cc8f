/- More of package word: the parts one above the other. -/
import Derived.Test.YtlocklcldalklaaWord
import Derived.Test.YtlocklcldalklaaWord3
import Derived.Test.YtlocklcldalklaaRound
set_option linter.unusedSimpArgs false
set_option linter.unusedVariables false
namespace Go.Proofs.Ytlocklcldalklaa
open Go.RowKit Go.Shelf
attribute [local go_sem] Oper.semAt_some

/-- Where the part k begins. -/
def ofs (ws : List Int) : Nat → Int
  | 0 => 0
  | k + 1 => ofs ws k + ws.getD k 0

/-- Widths that go into a word. -/
structure Fits (ws : List Int) : Prop where
  pos : ∀ k, k < ws.length → 1 ≤ ws.getD k 0
  le : ofs ws ws.length ≤ 64

theorem ofs_mono {ws : List Int} (hp : ∀ k, k < ws.length → 1 ≤ ws.getD k 0) {i : Nat} : ∀ {j : Nat}, i ≤ j → j ≤ ws.length → ofs ws i ≤ ofs ws j
  | 0, h, _ => by obtain rfl : i = 0 := by omega
                  exact Int.le_refl _
  | j + 1, h, hj => by
    rcases Nat.lt_or_ge j i with h' | h'
    · obtain rfl : i = j + 1 := by omega
      exact Int.le_refl _
    · have := ofs_mono hp h' (by omega)
      have := hp j (by omega)
      show ofs ws i ≤ ofs ws j + ws.getD j 0
      omega

theorem Fits.at {ws : List Int} (h : Fits ws) {k : Nat} (hk : k < ws.length) : 0 ≤ ofs ws k ∧ 1 ≤ ws.getD k 0 ∧ ofs ws k + ws.getD k 0 ≤ 64 :=
  ⟨ofs_mono h.pos (i := 0) (Nat.zero_le _) (by omega), h.pos k hk, Int.le_trans (ofs_mono h.pos (i := k + 1) (j := ws.length) (by omega) (Nat.le_refl _)) h.le⟩

theorem Fits.get {ws : List Int} {k : Nat} (hk : k < ws.length) : ws[k] = ws.getD k 0 := by simp [List.getD, hk]

theorem parts_in (F : Fence) (n : Nat) (w : World) (a : Option Addr) (c l : Nat) (hF : F.fn 24) (hro : F.round = none) :
    CallsIn F n Try.prog 24 #[.slice a l c] w fun e w' => e = .returned (.func (.func 25) #[] #[.pointer (some ⟨w.heap.size, 0, none⟩)]) ∧ w' = w.alloc (.cells #[.slice a l c] 33) := by
  refine callsIn_of_wp Try.func24 rfl hF ?_ hro
  simp only [Try.ntmps24, List.size_toArray, List.length_cons, List.length_nil, Nat.reduceAdd, Nat.reduceSub, Array.replicate_succ, Array.replicate_zero, List.push_toArray, List.append_toArray, List.nil_append, List.cons_append]
  gi_wp2
  go_ret
  exact ⟨rfl, rfl⟩

/-- What the parts lean on. -/
def partKeep (w : World) (b : Nat) (v : Value) (k : Nat) : Prop := k < w.heap.size ∧ (k = b ∨ inRow v k)

set_option maxHeartbeats 1000000 in
theorem parts1_seq (n : Nat) (hn : 1 ≤ n) (w0 : World) (b : Nat) (v : Value) (ws : List Int) (hf : Fits ws) (hlen : ws.length ≤ 64) (hb : w0.cell? ⟨b, 0, none⟩ = some v) (hr : Row w0 v (ws.map (Value.int .i64))) :
    SeqAt Fence.wide n Try.prog 25 #[.pointer (some ⟨b, 0, none⟩)] (fun k => #[.int .i64 (k : Nat), partV (ofs ws k) (ws.getD k 0)]) ws.length true (partKeep w0 b v) w0 := fun l J Jx W hkW _ hJ hJx hN hY h0 => by
  have hbl : b < w0.heap.size := World.block_lt_of_cell? w0 _ hb
  have hb' := cell_keeps hb hkW ⟨hbl, .inl rfl⟩
  obtain ⟨a, cap, hv, hrow⟩ := hr.at
  rw [List.length_map] at hv
  have hrow' : Hid (∀ i, i < ws.length → ∃ b' off, a = some ⟨b', off, none⟩ ∧ ∀ W', Keeps (partKeep w0 b v) w0 W' → W'.cell? ⟨b', off + i, none⟩ = some (.int .i64 (ws.getD i 0))) := fun i hi => by
    obtain ⟨b', off, ha, hc⟩ := hrow i (by simpa using hi)
    refine ⟨b', off, ha, fun W' hk => cell_keeps (by rw [hc]; simp [List.getD, hi]) hk ⟨World.block_lt_of_cell? w0 _ hc, .inr ⟨off, _, cap, by rw [hv, ha]⟩⟩⟩
  clear hrow
  subst hv
  refine callsIn_of_wp Try.func25 rfl trivial ?_ rfl
  simp only [Try.ntmps25, List.size_toArray, List.length_cons, List.length_nil, Nat.reduceAdd, Nat.reduceSub, Array.replicate_succ, Array.replicate_zero, List.push_toArray, List.append_toArray, List.nil_append, List.cons_append, Array.append_empty]
  gi_wp2
  gi_loopw [3, 8] (fun s p wr => ∃ k : Nat, k ≤ ws.length ∧ p = .int .i64 k ∧ s = .int .i64 (ofs ws k) ∧ J k wr ∧ Keeps (partKeep w0 b (.slice a ws.length cap)) w0 wr) (fun _ p _ => ws.length - (intOf p).toNat)
  case atStart => exact ⟨0, Nat.zero_le _, rfl, rfl, h0, hkW⟩
  case round =>
    obtain ⟨k, hk, rfl, rfl, hj, hkk⟩ := hrel
    rcases Nat.lt_or_ge k ws.length with hlt | hge
    · obtain ⟨b', off, rfl, hc⟩ := hrow'.out k hlt
      have hc' := hc _ hkk
      obtain ⟨f1, f2, f3⟩ := hf.at hlt
      obtain ⟨fn, tmps, assign, body, hy, hR⟩ := hY k wr hlt hj
      have he : ofs ws (k + 1) = ofs ws k + ws.getD k 0 := rfl
      clear hc hrow' hY hb hr
      obtain ⟨x, hx⟩ : ∃ x, ws.getD k 0 = x := ⟨_, rfl⟩
      obtain ⟨s, hs⟩ : ∃ s, ofs ws k = s := ⟨_, rfl⟩
      rw [hx, hs] at he
      rw [hx] at hc' f2 f3 hy
      rw [hs] at f1 f3 hy
      rw [hs]
      replace he := hid he
      clear hx hs
      gi_wp2
      refine hR.mono ?_
      rintro e W1 (⟨rfl, hJ1, hk1⟩ | ⟨rfl, hx1⟩)
      · gi_wp2
        go_roundw
        case rel => exact ⟨k + 1, by omega, by go_num, by rw [he.out], hJ1, hkk.trans hk1⟩
        case measure => simp [intOf]; omega
      · gi_wp2
        exact bodyPost_ret (v := .tuple #[]) (by simp [results, Try.f25, go_sem]) rfl ⟨⟨_, rfl⟩, .inr hx1⟩
    · obtain rfl : k = ws.length := by omega
      gi_wp2
      go_end0
      exact ⟨⟨_, rfl⟩, .inl hj⟩

end Go.Proofs.Ytlocklcldalklaa
