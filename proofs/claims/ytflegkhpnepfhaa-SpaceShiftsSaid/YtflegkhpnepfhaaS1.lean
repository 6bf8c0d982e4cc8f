/- SpaceHas, SpaceWhole return true, whatever the input. -/
import Derived.Test.YtflegkhpnepfhaaLaw05
set_option linter.unusedSimpArgs false
set_option linter.unusedVariables false
namespace Go.Proofs.Ytflegkhpnepfhaa
open Go.RowKit Go.Shelf

/-- Three ints of an array. -/
theorem arr3 {xs : List Int} (h : xs.length = 3) (hb : ∀ x ∈ xs, I64 x) : ∃ a b c : Int, xs = [a, b, c] ∧ I64 a ∧ I64 b ∧ I64 c := by
  match xs, h with
  | [a, b, c], _ => exact ⟨a, b, c, rfl, hb a (by simp), hb b (by simp), hb c (by simp)⟩

/-- Whether a place is had. -/
def hasB (b t a : Int) : Bool := decide (b ≤ a ∧ a < t)
theorem has_any (b s t : Int) (a : Int) (w : World) (h : okP b s t) :
    Calls Try.prog 17 #[spV b s t, .int .i64 a] w fun e w' => e = .returned (.bool (hasB b t a)) ∧ Calm w w' := by
  by_cases hh : b ≤ a ∧ a < t
  · rw [show hasB b t a = true from by unfold hasB; simpa using hh]; exact has_yes b s t a w h hh.1 hh.2
  · rw [show hasB b t a = false from by unfold hasB; simpa using hh]; exact has_no b s t a w h (by omega)

set_option maxRecDepth 100000 in
set_option maxHeartbeats 2000000 in
theorem spaceHas_walk (xs : List Int) (hx : xs.length = 3) (hxb : ∀ x ∈ xs, I64 x) (at_ : Int) (hat : I64 at_) (w : World) :
    Calls Try.prog 7 #[.agg (xs.map (Value.int .i64)).toArray, .int .i64 at_] w fun e w' => e = .returned (.bool true) ∧ Below w.heap.size w w' := by
  obtain ⟨a0, a1, a2, rfl, A0, A1, A2⟩ := arr3 hx hxb
  clear hx hxb
  simp only [List.map_cons, List.map_nil]
  have rp := pk_range at_ (n := 1400) (by omega)
  obtain ⟨p, hp⟩ : ∃ p, pk at_ 1400 = p := ⟨_, rfl⟩
  rw [hp] at rp
  obtain ⟨p1, p2⟩ := rp
  have HP : Hid (pk at_ 1400 = p) := hp
  clear hp
  go_enter Try.func7, Try.ntmps7
  go_wp2_with fail
  refine (awake05 _).mono ?_
  rintro e w1 ⟨rfl, c1⟩
  have o := (OwnL.new w [.int .i64 a0, .int .i64 a1, .int .i64 a2] 28).calm c1
  have x0 := (o 0 _ rfl).1
  have x1 := (o 1 _ rfl).1
  have x2 := (o 2 _ rfl).1
  have k1 : Calm w w1 := (Fr.alloc (Fr.refl _ w) _).trans c1
  clear c1 o
  go_wp2_with fail
  refine (fit05 a0 a1 a2 A0 A1 A2 _).mono ?_
  rintro e w2 ⟨b, s, t, ⟨b1, b2, s1, s2, t1, t2⟩, rfl, c2⟩
  clear x0 x1 x2
  have OK : Hid (okP b s t) := ⟨b1, by omega, s1, by omega, t1, t2⟩
  go_wp2_with fail
  obtain ⟨W0, hW0⟩ : ∃ W0, w2.alloc (.cells #[.int .i64 b, .int .i64 s, .int .i64 t] 30) = W0 := ⟨_, rfl⟩
  have o : OwnL (w2.alloc (.cells #[.int .i64 b, .int .i64 s, .int .i64 t] 30)) w2.heap.size [.int .i64 b, .int .i64 s, .int .i64 t] := OwnL.new w2 [.int .i64 b, .int .i64 s, .int .i64 t] _
  have k2 : Calm w W0 := by rw [← hW0]; exact Fr.alloc (k1.trans c2) _
  obtain ⟨B, hB⟩ : ∃ B, w2.heap.size = B := ⟨_, rfl⟩
  rw [hW0, hB] at o ⊢
  clear hW0 hB k1 c2
  go_loopw [7, 8] (fun n i wr => ∃ k : Nat, (k : Int) ≤ s ∧ i = .int .i64 k ∧ n = .int .i64 (min (k : Int) (t - b)) ∧ Calm W0 wr) (fun _ i _ => s.toNat - (intOf i).toNat)
  case atStart => exact ⟨0, by omega, rfl, congrArg (Value.int .i64) (by omega), Fr.refl _ _⟩
  case round =>
    obtain ⟨k, hk, rfl, rfl, hc⟩ := hrel
    have o' := o.calm hc
    have x0 := (o' 0 _ rfl).1
    have x1 := (o' 1 _ rfl).1
    have x2 := (o' 2 _ rfl).1
    by_cases hlt : (k : Int) < s
    · by_cases hu : (k : Int) < t - b
      · go_wp2_with fail
        refine (has_yes b s t _ _ OK.out (by omega) (by omega)).mono ?_
        rintro e w3 ⟨rfl, c3⟩
        go_wp2
        go_roundw
        case rel => exact ⟨k + 1, by omega, by go_num, by first | rfl | (congr 1; omega), hc.trans c3⟩
        case measure => simp [intOf]; omega
      · go_wp2_with fail
        refine (has_no b s t _ _ OK.out (by omega)).mono ?_
        rintro e w3 ⟨rfl, c3⟩
        go_wp2
        go_roundw
        case rel => exact ⟨k + 1, by omega, by go_num, by first | rfl | (congr 1; omega), hc.trans c3⟩
        case measure => simp [intOf]; omega
    · have hks : (k : Int) = s := by omega
      have hmin : min (k : Int) (t - b) = t - b := by omega
      rw [hmin]
      clear hks hmin
      go_wp2_with fail
      refine (pick05 at_ 1400 _ hat (by omega)).mono ?_
      rintro e w' ⟨rfl, rfl⟩
      rw [HP.out]
      go_wp2_with fail
      have q0 : ∀ x : Later wr, x.w.cell? ⟨B, 0, none⟩ = some (.int .i64 b) := fun x => x.cell x0
      have q1 : ∀ x : Later wr, x.w.cell? ⟨B, 1, none⟩ = some (.int .i64 s) := fun x => x.cell x1
      have q2 : ∀ x : Later wr, x.w.cell? ⟨B, 2, none⟩ = some (.int .i64 t) := fun x => x.cell x2
      have hw1 : IntKind.i64.wrap (b + (t - b)) = t := by rw [IntWalk.i64_in _ (by omega)]; omega
      have e1 : (t - b == t - b) = true := by simp
      by_cases hb : b ≤ p
      · have hd : decide (b ≤ p) = true := by simpa using hb
        refine wp_region_calm (by kernel_rfl) (by kernel_rfl) ?_
        repeat (go_big_quiet_step ((first | (go_at_call 19; exact Calls.calm_of (used_any b s t _ OK.out)) | (go_at_call 17; exact Calls.calm_of (has_any b s t _ _ OK.out)))))
        refine wpQuiet_nil ?_
        intro w3 hw'
        have c3 := Later.out hw'
        clear hw' q0 q1 q2 hw1
        go_wp2
        go_ret
        refine ⟨?_, Calm.below ((k2.trans hc).trans c3)⟩
        show Ending.returned (.bool (hasB b t p == decide (p < t))) = _
        rw [show hasB b t p = decide (p < t) from by unfold hasB; simp [hb]]
        simp
      · have hd : decide (b ≤ p) = false := by simpa using hb
        refine wp_region_calm (by kernel_rfl) (by kernel_rfl) ?_
        repeat (go_big_quiet_step ((first | (go_at_call 19; exact Calls.calm_of (used_any b s t _ OK.out)) | (go_at_call 17; exact Calls.calm_of (has_any b s t _ _ OK.out)))))
        refine wpQuiet_nil ?_
        intro w3 hw'
        have c3 := Later.out hw'
        clear hw' q0 q1 q2 hw1
        go_wp2
        go_ret
        refine ⟨?_, Calm.below ((k2.trans hc).trans c3)⟩
        show Ending.returned (.bool (!hasB b t p)) = _
        rw [show hasB b t p = false from by unfold hasB; simp; omega]
        rfl

theorem rnd1 : rnd 1 = 4 := by decide

set_option maxRecDepth 100000 in
set_option maxHeartbeats 2000000 in
theorem spaceWhole_walk (xs : List Int) (hx : xs.length = 3) (hxb : ∀ x ∈ xs, I64 x) (w : World) :
    Calls Try.prog 9 #[.agg (xs.map (Value.int .i64)).toArray] w fun e w' => e = .returned (.bool true) ∧ Below w.heap.size w w' := by
  obtain ⟨a0, a1, a2, rfl, A0, A1, A2⟩ := arr3 hx hxb
  clear hx hxb
  simp only [List.map_cons, List.map_nil]
  have R1 : Hid (rnd 1 = 4) := rnd1
  go_enter Try.func9, Try.ntmps9
  go_wp2_with fail
  refine (awake05 _).mono ?_
  rintro e w1 ⟨rfl, c1⟩
  have o := (OwnL.new w [.int .i64 a0, .int .i64 a1, .int .i64 a2] 28).calm c1
  have x0 := (o 0 _ rfl).1
  have x1 := (o 1 _ rfl).1
  have x2 := (o 2 _ rfl).1
  have k1 : Calm w w1 := (Fr.alloc (Fr.refl _ w) _).trans c1
  clear c1 o
  go_wp2_with fail
  refine (fit05 a0 a1 a2 A0 A1 A2 _).mono ?_
  rintro e w2 ⟨b, s, t, ⟨b1, b2, s1, s2, t1, t2⟩, rfl, c2⟩
  clear x0 x1 x2
  have OK : Hid (okP b s t) := ⟨b1, by omega, s1, by omega, t1, t2⟩
  go_wp2_with fail
  refine (left_any b s t _ OK.out).mono ?_
  rintro e w3 ⟨rfl, c3⟩
  have o : OwnL w3 w2.heap.size [.int .i64 b, .int .i64 s, .int .i64 t] := (OwnL.new w2 [.int .i64 b, .int .i64 s, .int .i64 t] _).calm c3
  have k3 : Calm w w3 := (Fr.alloc (k1.trans c2) _).trans c3
  obtain ⟨B, hB⟩ : ∃ B, w2.heap.size = B := ⟨_, rfl⟩
  have hBw : w.heap.size ≤ B := by rw [← hB]; exact (k1.trans c2).size
  rw [hB] at o ⊢
  clear hB k1 c2 c3
  obtain ⟨n, hn⟩ : ∃ n : Nat, (s - (t - b)) / 4 = n := ⟨((s - (t - b)) / 4).toNat, by omega⟩
  have hn1 : (n : Int) * 4 ≤ s - (t - b) := by omega
  have hn2 : s - (t - b) < (n : Int) * 4 + 4 := by omega
  have HNI : Hid ((s - (t - b)) / 4 = n) := hn
  clear hn
  have hnn : 0 ≤ s - (t - b) := by omega
  go_wp2_with fail
  rw [HNI.out]
  go_loopw [6] (fun i wr => ∃ k : Nat, k ≤ n ∧ i = .int .i64 k ∧ OwnL wr B [.int .i64 b, .int .i64 s, .int .i64 (t + 4 * k)] ∧ Calm w wr) (fun i _ => n - (intOf i).toNat)
  case atStart => exact ⟨0, by omega, rfl, by simpa using o, k3⟩
  case round =>
    obtain ⟨k, hk, rfl, o', hc⟩ := hrel
    have OK' : Hid (okP b s (t + 4 * k)) := ⟨b1, by omega, s1, by omega, by omega, by omega⟩
    have x0 := (o' 0 _ rfl).1
    have x1 := (o' 1 _ rfl).1
    have x2 := (o' 2 _ rfl).1
    by_cases hlt : k < n
    · go_wp2_with fail
      refine (take_yes b s (t + 4 * k) 1 _ OK'.out (by decide) (by decide) (by rw [R1.out]; omega)).mono ?_
      rintro e w4 ⟨rfl, c4⟩
      rw [R1.out]
      have hc4 := hc.trans c4
      replace o' := o'.calm c4
      clear x0 x1 x2 hc c4
      have x0 := (o' 0 _ rfl).1
      have x1 := (o' 1 _ rfl).1
      have x2 := (o' 2 _ rfl).1
      have y0 := (o' 0 _ rfl).2
      have y1 := (o' 1 _ rfl).2
      have y2 := (o' 2 _ rfl).2
      have bl := o'.lt (by simp)
      go_wp2
      go_roundw
      case rel =>
        obtain ⟨u0, uf⟩ := o'.set3 (.int .i64 b) (.int .i64 s) (.int .i64 (t + 4 * (k : Int) + 4))
        exact ⟨k + 1, by omega, by go_num, by rw [show t + 4 * ((k + 1 : Nat) : Int) = t + 4 * (k : Int) + 4 from by omega]; exact u0.alloc _, (hc4.join uf (by intro j h1 h2; omega)).alloc _⟩
      case measure => simp [intOf]; omega
    · have hkn : k = n := by omega
      subst hkn
      have HF : Hid (s - (t + 4 * (k : Int) - b) < rnd 1) := by show s - (t + 4 * (k : Int) - b) < rnd 1; rw [R1.out]; omega
      go_wp2_with fail
      refine (take_full b s (t + 4 * k) 1 _ OK'.out (by decide) (by decide) HF.out).mono ?_
      rintro e w4 ⟨rfl, c4⟩
      replace hc := hc.trans c4
      replace o' := o'.calm c4
      clear x0 x1 x2 c4
      have x0 := (o' 0 _ rfl).1
      have x1 := (o' 1 _ rfl).1
      have x2 := (o' 2 _ rfl).1
      have bl := o'.lt (by simp)
      go_wp2_with fail
      refine (empty_any b s (t + 4 * k) _ OK'.out).mono ?_
      rintro e w5 ⟨rfl, c5⟩
      replace c5 : Calm w4 w5 := (Fr.alloc (Fr.refl _ _) _).trans c5
      replace hc := hc.trans c5
      replace o' := o'.calm c5
      clear x0 x1 x2 c5
      have x0 := (o' 0 _ rfl).1
      have x1 := (o' 1 _ rfl).1
      have x2 := (o' 2 _ rfl).1
      have bl5 := o'.lt (by simp)
      go_wp2_with fail
      have OE : Hid (okP b s b) := ⟨b1, by omega, s1, by omega, by omega, by omega⟩
      obtain ⟨W6, hW6⟩ : ∃ W6, w5.alloc (.cells #[.int .i64 b, .int .i64 s, .int .i64 b] 30) = W6 := ⟨_, rfl⟩
      have oe : OwnL (w5.alloc (.cells #[.int .i64 b, .int .i64 s, .int .i64 b] 30)) w5.heap.size [.int .i64 b, .int .i64 s, .int .i64 b] := OwnL.new w5 [.int .i64 b, .int .i64 s, .int .i64 b] _
      have hc6 := Fr.alloc hc (.cells #[.int .i64 b, .int .i64 s, .int .i64 b] 30)
      replace o' := o'.alloc (.cells #[.int .i64 b, .int .i64 s, .int .i64 b] 30)
      rw [hW6] at oe hc6 o' ⊢
      obtain ⟨E, hE⟩ : ∃ E, w5.heap.size = E := ⟨_, rfl⟩
      rw [hE] at oe ⊢
      clear hW6 hE x0 x1 x2 bl bl5
      have q0 : ∀ x : Later W6, x.w.cell? ⟨B, 0, none⟩ = some (.int .i64 b) := fun x => x.cell (o' 0 _ rfl).1
      have q1 : ∀ x : Later W6, x.w.cell? ⟨B, 1, none⟩ = some (.int .i64 s) := fun x => x.cell (o' 1 _ rfl).1
      have q2 : ∀ x : Later W6, x.w.cell? ⟨B, 2, none⟩ = some (.int .i64 (t + 4 * (k : Int))) := fun x => x.cell (o' 2 _ rfl).1
      have p0 : ∀ x : Later W6, x.w.cell? ⟨E, 0, none⟩ = some (.int .i64 b) := fun x => x.cell (oe 0 _ rfl).1
      have p1 : ∀ x : Later W6, x.w.cell? ⟨E, 1, none⟩ = some (.int .i64 s) := fun x => x.cell (oe 1 _ rfl).1
      have p2 : ∀ x : Later W6, x.w.cell? ⟨E, 2, none⟩ = some (.int .i64 b) := fun x => x.cell (oe 2 _ rfl).1
      have hu : Hid (∀ W : World, Calls Try.prog 19 #[spV b s b] W fun e w' => e = .returned (.int .i64 0) ∧ Calm W w') := fun W => (used_any b s b W OE.out).mono (fun e w' h => ⟨by rw [h.1]; congr 2; omega, h.2⟩)
      have hh : Hid (∀ W : World, Calls Try.prog 17 #[spV b s b, .int .i64 b] W fun e w' => e = .returned (.bool false) ∧ Calm W w') := fun W => has_no b s b b W OE.out (by omega)
      have ls : (s - (b - b) == s) = true := by simp
      have l4 : decide (s - (t + 4 * (k : Int) - b) < 4) = true := by simp; omega
      refine wp_region_calm (by kernel_rfl) (by kernel_rfl) ?_
      repeat (go_big_quiet_step ((first | (go_at_call 19; exact Calls.calm_of (hu.out _)) | (go_at_call 17; exact Calls.calm_of (hh.out _)) | (go_at_call 22; exact Calls.calm_of (left_any _ _ _ _ (by first | exact OE.out | exact OK'.out))))))
      refine wpQuiet_nil ?_
      intro w7 hw'
      have c7 := Later.out hw'
      clear hw' q0 q1 q2 p0 p1 p2
      go_wp2
      go_ret
      refine ⟨?_, Calm.below (hc6.trans c7)⟩
      rfl

end Go.Proofs.Ytflegkhpnepfhaa
