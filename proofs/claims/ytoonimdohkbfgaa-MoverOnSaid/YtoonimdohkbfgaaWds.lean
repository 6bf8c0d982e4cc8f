/- Layer 8's words: an object's, but the first one. -/
import Derived.Test.YtoonimdohkbfgaaM1
set_option linter.unusedSimpArgs false
set_option linter.unusedVariables false
namespace Go.Proofs.Ytoonimdohkbfgaa
open Go.RowKit Go.Shelf

theorem WRow.mono {w : World} {base base' : Nat} {v : Value} {l : List Nat} (h : WRow w base v l) (hb : base' ≤ base) : WRow w base' v l := by
  refine ⟨h.1, ?_⟩
  rcases h.2 with h | ⟨g, cap, cur, h1, h2, h3⟩
  · exact .inl h
  · exact .inr ⟨g, cap, cur, h1, by omega, h3⟩

def WdsPost (w : World) (o : Ob) (e : Ending) (w' : World) : Prop := ∃ v, e = .returned v ∧ WRow w' w.heap.size v o.ws.tail ∧ Calm w w'

theorem tail_take_succ {l : List Nat} {k : Nat} (h1 : 1 ≤ k) (hk : k < l.length) : (l.take (k + 1)).tail = (l.take k).tail ++ [l.getD k 0] := by
  rw [take_succ_getDN l hk]
  cases hl : l.take k with
  | nil => have := congrArg List.length hl; simp at this; rcases this with h | h <;> simp_all
  | cons x xs => rfl

set_option maxRecDepth 100000 in
set_option maxHeartbeats 2000000 in
theorem words08_yes {w : World} {b c : Nat} {X : List Nat} (h : Ar w b c X) {a : Nat} {o : Ob} (ho : At X a o) :
    Calls Try.prog 18 #[arV b, .int .i64 a] w (WdsPost w o) := by
  obtain ⟨i0, hi, hz0, hz1, hz2⟩ := info_parts info_w
  have HA := hid h
  have HO := hid ho
  have p8 := ho.ok.sh.1
  have d8 := ho.ok.sh.2.1
  have hws := Ob.ws_length ho.ok
  have hroom := ho.room
  have hlen := h.2.2.2
  have hwd := hid ho.word
  clear h ho
  go_enter Try.func18, Try.ntmps18
  go_wp2_with fail
  refine (at_shape HA.out HO.out).mono ?_
  rintro e w1 ⟨rfl, c1⟩
  have o5 := OwnL.new w1 [.int .i64 o.p, .int .i64 o.d, .bool o.wk, .bool o.fn] 27
  have hw1 := c1.size
  replace c1 := c1.alloc (.cells #[.int .i64 o.p, .int .i64 o.d, .bool o.wk, .bool o.fn] 27)
  obtain ⟨n, hn⟩ : ∃ n, o.size = n := ⟨_, rfl⟩
  have hcast : (3 : Int) + o.p + o.d = (n : Int) := by rw [← hn]; simp only [Ob.size]; push_cast; rfl
  have hn3 : 3 ≤ n := by simp only [Ob.size] at hn; omega
  have hn19 : n ≤ 19 := by simp only [Ob.size] at hn; omega
  rw [hn] at hws hroom hwd
  go_wp2_with fail
  have hW0 : (w1.alloc (.cells #[.int .i64 o.p, .int .i64 o.d, .bool o.wk, .bool o.fn] 27)).heap.size = w1.heap.size + 1 := by simp
  generalize hW : World.alloc _ (.cells #[.int .i64 o.p, .int .i64 o.d, .bool o.wk, .bool o.fn] 27) = W at *
  generalize w1.heap.size = P at *
  replace hcast := hid hcast
  replace hn := hid hn
  replace hws := hid hws
  replace hW0 := hid hW0
  clear hW
  go_loopw [8, 9] (fun l i wr => ∃ k : Nat, 1 ≤ k ∧ k ≤ n ∧ i = .int .i64 k ∧ Hid (WRow wr (P + 1) l (o.ws.take k).tail) ∧ Calm W wr) (fun _ i _ => 20 - (intOf i).toNat)
  case atStart => exact ⟨1, by omega, by omega, rfl, by show WRow _ _ _ _; rw [show (o.ws.take 1).tail = [] from by simp [Ob.ws]]; exact WRow.nil _ _, Fr.refl _ _⟩
  case round =>
    obtain ⟨k, hk1, hk, rfl, hro, kr⟩ := hrel
    have o6 := o5.calm kr
    have x0 := (o6 0 _ rfl).1
    have x1 := (o6 1 _ rfl).1
    obtain ⟨sa, sn, sc, rfl⟩ := hro.out.letters
    rcases Nat.lt_or_ge k n with hlt | hge
    · have g1 : (k : Int) < 3 + o.p + o.d := by rw [hcast.out]; omega
      have e2 : Hid ((o.ws.take (k + 1)).tail = (o.ws.take k).tail ++ [o.ws.getD k 0]) := tail_take_succ hk1 (by rw [hws.out]; exact hlt)
      have hln : Hid ((o.ws.take k).tail.length = k - 1) := by show (o.ws.take k).tail.length = k - 1; simp [hws.out]; omega
      have hs : Hid (P + 1 ≤ wr.heap.size) := o6.lt (by simp)
      have e1 : Hid (X.getD (a + k) 0 = o.ws.getD k 0) := hwd.out k hlt
      generalize (o.ws.take k).tail = L at *
      clear o6
      go_wp2_with fail
      have hc2 : ((a : Int) + k) = ((a + k : Nat) : Int) := by push_cast; rfl
      rw [hc2]
      refine (load_yes _ b c X (HA.out.calm (c1.trans kr)) (a + k) (by omega)).mono ?_
      rintro e w6 ⟨rfl, rfl⟩
      rw [e1.out]
      generalize o.ws.getD k 0 = u at *
      replace hc2 := hid hc2
      clear g1 x0 x1
      go_wp2_with (at_builtin; refine wpList_append_own _ rfl _ _ 53 rfl (P + 1) 33 i0 (.int .u64 0) 1 8 Try.underlying53 hi hz0 hz1 hz2 rfl (by decide) _ _ _ rfl (hro.out.alloc _) ⟨w6.heap.size, 0, none⟩ 1 1 [.int .u64 u] rfl rfl (cell_one_new _ _ _) (by simp [Value.oneCell']) (by have := hln.out; unfold maxLen; omega) (by have := hln.out; omega) (by have := hs.out; simp; omega) ?_; intro v' w4 hown' hgrow _; obtain ⟨g', cap', rfl⟩ := ownsRow_succ hown'; have hF := hid (Fr.append1 hro.out hgrow); clear hgrow; replace hown' := hid hown')
      go_roundw
      case rel =>
        refine ⟨k + 1, by omega, by omega, by go_num, ?_, kr.join hF.out (fun j h1 h2 => absurd h1 (by have := hW0.out; omega))⟩
        rw [e2.out]
        show World.ownsRow _ _ _ _ _ _ _
        rw [List.length_append, List.map_append]
        exact hown'.out
      case measure => simp [intOf]; omega
    · obtain rfl : k = n := by omega
      have g1 : ¬ ((k : Int) < 3 + o.p + o.d) := by rw [hcast.out]; omega
      have e3 : Hid ((o.ws.take k).tail = o.ws.tail) := by show (o.ws.take k).tail = o.ws.tail; rw [List.take_of_length_le (by rw [hws.out]; omega)]
      clear hge hk
      go_wp2
      go_ret
      exact ⟨_, rfl, by have := hro.out; rw [e3.out] at this; exact this.mono (by omega), c1.trans kr⟩

end Go.Proofs.Ytoonimdohkbfgaa
