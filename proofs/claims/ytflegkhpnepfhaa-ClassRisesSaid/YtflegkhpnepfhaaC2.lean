/- ClassRises, ClassDoubles, ClassNext return true, whatever the input. -/
import Derived.Test.YtflegkhpnepfhaaLaw04
set_option linter.unusedSimpArgs false
set_option linter.unusedVariables false
namespace Go.Proofs.Ytflegkhpnepfhaa
open Go.RowKit Go.Shelf

theorem lt_iff_rnd {a b : Int} : (rnd a = rnd b) = (cls a = cls b) := propext rnd_eq

set_option maxHeartbeats 1000000 in
theorem classRises_walk (n : Int) (hn : I64 n) (m : Int) (hm : I64 m) (w : World) :
    Calls Try.prog 4 #[.int .i64 n, .int .i64 m] w fun e w' => e = .returned (.bool true) ∧ Below w.heap.size w w' := by
  have hp := pk_range n (n := 65536) (by omega)
  have hq := pk_range m (n := 65536) (by omega)
  obtain ⟨a, ha⟩ : ∃ a, pk n 65536 = a := ⟨_, rfl⟩
  obtain ⟨b, hb⟩ : ∃ b, pk m 65536 = b := ⟨_, rfl⟩
  rw [ha] at hp
  rw [hb] at hq
  have HA : Hid (pk n 65536 = a) := ha
  have HB : Hid (pk m 65536 = b) := hb
  clear ha hb
  obtain ⟨p1, p2⟩ := hp
  obtain ⟨q1, q2⟩ := hq
  have key : ∀ lo hi : Int, 1 ≤ lo → lo ≤ hi → hi ≤ 65536 → ∃ x y : Int, ∃ k l : Nat, Hid (rnd lo = x) ∧ Hid (rnd hi = y) ∧ Hid (cls lo = k) ∧ Hid (cls hi = l) ∧ x ≤ y ∧ k ≤ l ∧ ((x = y ∧ k = l) ∨ (x < y ∧ k < l)) := by
    intro lo hi l1 l2 l3
    have m1 := rnd_mono l2 l3
    have m2 := cls_mono l2 l3
    have m3 : (rnd lo = rnd hi) ↔ (cls lo = cls hi) := rnd_eq
    refine ⟨_, _, _, _, rfl, rfl, rfl, rfl, m1, m2, ?_⟩
    by_cases e : rnd lo = rnd hi
    · exact .inl ⟨e, m3.1 e⟩
    · have : cls lo ≠ cls hi := fun x => e (m3.2 x)
      exact .inr ⟨by omega, by omega⟩
  rcases (by omega : a < b ∨ b < a ∨ a = b) with hab | hab | hab
  · obtain ⟨x, y, k, l, HX, HY, HK, HL, le1, le2, hc⟩ := key (1 + a) (1 + b) (by omega) (by omega) (by omega)
    rcases hc with ⟨rfl, rfl⟩ | ⟨lt1, lt2⟩
    · clear key
      go_enter Try.func4, Try.ntmps4
      go_wp2_with fail
      refine (awake04 _).mono ?_
      rintro e w1 ⟨rfl, c1⟩
      go_wp2_with fail
      refine (pick04 n 65536 _ hn (by omega)).mono ?_
      rintro e w1' ⟨rfl, rfl⟩
      rw [HA.out]
      go_wp2_with fail
      refine (pick04 m 65536 _ hm (by omega)).mono ?_
      rintro e w1' ⟨rfl, rfl⟩
      rw [HB.out]
      go_wp2_with fail
      refine (round_yes _ (by omega) (by omega) _).mono ?_
      rintro e w2 ⟨rfl, c2⟩
      rw [HX.out]
      go_wp2_with fail
      refine (round_yes _ (by omega) (by omega) _).mono ?_
      rintro e w3 ⟨rfl, c3⟩
      rw [HY.out]
      go_wp2_with fail
      refine (class_yes _ (by omega) (by omega) _).mono ?_
      rintro e w4 ⟨rfl, c4⟩
      rw [HK.out]
      go_wp2_with fail
      refine (class_yes _ (by omega) (by omega) _).mono ?_
      rintro e w5 ⟨rfl, c5⟩
      rw [HL.out]
      go_wp2
      go_ret
      exact ⟨by simp, Calm.below ((((c1.trans c2).trans c3).trans c4).trans c5)⟩
    · have n1 : (x == y) = false := by simp; omega
      have n2 : ((k : Int) == (l : Int)) = false := by simp; omega
      clear key
      go_enter Try.func4, Try.ntmps4
      go_wp2_with fail
      refine (awake04 _).mono ?_
      rintro e w1 ⟨rfl, c1⟩
      go_wp2_with fail
      refine (pick04 n 65536 _ hn (by omega)).mono ?_
      rintro e w1' ⟨rfl, rfl⟩
      rw [HA.out]
      go_wp2_with fail
      refine (pick04 m 65536 _ hm (by omega)).mono ?_
      rintro e w1' ⟨rfl, rfl⟩
      rw [HB.out]
      go_wp2_with fail
      refine (round_yes _ (by omega) (by omega) _).mono ?_
      rintro e w2 ⟨rfl, c2⟩
      rw [HX.out]
      go_wp2_with fail
      refine (round_yes _ (by omega) (by omega) _).mono ?_
      rintro e w3 ⟨rfl, c3⟩
      rw [HY.out]
      go_wp2_with fail
      refine (class_yes _ (by omega) (by omega) _).mono ?_
      rintro e w4 ⟨rfl, c4⟩
      rw [HK.out]
      go_wp2_with fail
      refine (class_yes _ (by omega) (by omega) _).mono ?_
      rintro e w5 ⟨rfl, c5⟩
      rw [HL.out]
      go_wp2
      go_ret
      exact ⟨by simp, Calm.below ((((c1.trans c2).trans c3).trans c4).trans c5)⟩
  · obtain ⟨x, y, k, l, HX, HY, HK, HL, le1, le2, hc⟩ := key (1 + b) (1 + a) (by omega) (by omega) (by omega)
    rcases hc with ⟨rfl, rfl⟩ | ⟨lt1, lt2⟩
    · clear key
      go_enter Try.func4, Try.ntmps4
      go_wp2_with fail
      refine (awake04 _).mono ?_
      rintro e w1 ⟨rfl, c1⟩
      go_wp2_with fail
      refine (pick04 n 65536 _ hn (by omega)).mono ?_
      rintro e w1' ⟨rfl, rfl⟩
      rw [HA.out]
      go_wp2_with fail
      refine (pick04 m 65536 _ hm (by omega)).mono ?_
      rintro e w1' ⟨rfl, rfl⟩
      rw [HB.out]
      go_wp2_with fail
      refine (round_yes _ (by omega) (by omega) _).mono ?_
      rintro e w2 ⟨rfl, c2⟩
      rw [HX.out]
      go_wp2_with fail
      refine (round_yes _ (by omega) (by omega) _).mono ?_
      rintro e w3 ⟨rfl, c3⟩
      rw [HY.out]
      go_wp2_with fail
      refine (class_yes _ (by omega) (by omega) _).mono ?_
      rintro e w4 ⟨rfl, c4⟩
      rw [HK.out]
      go_wp2_with fail
      refine (class_yes _ (by omega) (by omega) _).mono ?_
      rintro e w5 ⟨rfl, c5⟩
      rw [HL.out]
      go_wp2
      go_ret
      exact ⟨by simp, Calm.below ((((c1.trans c2).trans c3).trans c4).trans c5)⟩
    · have n1 : (x == y) = false := by simp; omega
      have n2 : ((k : Int) == (l : Int)) = false := by simp; omega
      clear key
      go_enter Try.func4, Try.ntmps4
      go_wp2_with fail
      refine (awake04 _).mono ?_
      rintro e w1 ⟨rfl, c1⟩
      go_wp2_with fail
      refine (pick04 n 65536 _ hn (by omega)).mono ?_
      rintro e w1' ⟨rfl, rfl⟩
      rw [HA.out]
      go_wp2_with fail
      refine (pick04 m 65536 _ hm (by omega)).mono ?_
      rintro e w1' ⟨rfl, rfl⟩
      rw [HB.out]
      go_wp2_with fail
      refine (round_yes _ (by omega) (by omega) _).mono ?_
      rintro e w2 ⟨rfl, c2⟩
      rw [HX.out]
      go_wp2_with fail
      refine (round_yes _ (by omega) (by omega) _).mono ?_
      rintro e w3 ⟨rfl, c3⟩
      rw [HY.out]
      go_wp2_with fail
      refine (class_yes _ (by omega) (by omega) _).mono ?_
      rintro e w4 ⟨rfl, c4⟩
      rw [HK.out]
      go_wp2_with fail
      refine (class_yes _ (by omega) (by omega) _).mono ?_
      rintro e w5 ⟨rfl, c5⟩
      rw [HL.out]
      go_wp2
      go_ret
      exact ⟨by simp, Calm.below ((((c1.trans c2).trans c3).trans c4).trans c5)⟩
  · subst hab
    obtain ⟨x, y, k, l, HX, HY, HK, HL, le1, le2, hc⟩ := key (1 + a) (1 + a) (by omega) (by omega) (by omega)
    obtain rfl : x = y := HX.out.symm.trans HY.out
    obtain rfl : k = l := HK.out.symm.trans HL.out
    clear hc
    clear key
    go_enter Try.func4, Try.ntmps4
    go_wp2_with fail
    refine (awake04 _).mono ?_
    rintro e w1 ⟨rfl, c1⟩
    go_wp2_with fail
    refine (pick04 n 65536 _ hn (by omega)).mono ?_
    rintro e w1' ⟨rfl, rfl⟩
    rw [HA.out]
    go_wp2_with fail
    refine (pick04 m 65536 _ hm (by omega)).mono ?_
    rintro e w1' ⟨rfl, rfl⟩
    rw [HB.out]
    go_wp2_with fail
    refine (round_yes _ (by omega) (by omega) _).mono ?_
    rintro e w2 ⟨rfl, c2⟩
    rw [HX.out]
    go_wp2_with fail
    refine (round_yes _ (by omega) (by omega) _).mono ?_
    rintro e w3 ⟨rfl, c3⟩
    rw [HY.out]
    go_wp2_with fail
    refine (class_yes _ (by omega) (by omega) _).mono ?_
    rintro e w4 ⟨rfl, c4⟩
    rw [HK.out]
    go_wp2_with fail
    refine (class_yes _ (by omega) (by omega) _).mono ?_
    rintro e w5 ⟨rfl, c5⟩
    rw [HL.out]
    go_wp2
    go_ret
    exact ⟨by simp, Calm.below ((((c1.trans c2).trans c3).trans c4).trans c5)⟩

end Go.Proofs.Ytflegkhpnepfhaa
