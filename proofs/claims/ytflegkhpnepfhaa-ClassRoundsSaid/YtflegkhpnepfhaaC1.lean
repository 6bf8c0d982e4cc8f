/- ClassRounds returns true, whatever the input. -/
import Derived.Test.YtflegkhpnepfhaaLaw04
namespace Go.Proofs.Ytflegkhpnepfhaa
open Go.RowKit Go.Shelf

theorem classRounds_walk (n : Int) (hn : I64 n) (w : World) :
    Calls Try.prog 3 #[.int .i64 n] w fun e w' => e = .returned (.bool true) ∧ Below w.heap.size w w' := by
  have hp := pk_range n (n := 65536) (by omega)
  obtain ⟨m, hm⟩ : ∃ m, pk n 65536 = m := ⟨_, rfl⟩
  rw [hm] at hp
  have HM : Hid (pk n 65536 = m) := hm
  clear hm
  obtain ⟨p1, p2⟩ := hp
  have hs := rnd_spec (n := 1 + m) (by omega)
  obtain ⟨r, hr⟩ : ∃ r, rnd (1 + m) = r := ⟨_, rfl⟩
  have hr2 : rnd r = r := by rw [← hr]; exact rnd_rnd (by omega)
  have hlow : 3 ≤ 1 + m → 2 * r ≤ 3 * (1 + m) := fun h => by rw [← hr]; exact rnd_waste h (by omega)
  rw [hr] at hs
  have HR : Hid (rnd (1 + m) = r) := hr
  have HR2 : Hid (rnd r = r) := hr2
  clear hr hr2
  rcases (by omega : m < 2 ∨ 2 ≤ m) with hm | hm
  all_goals
    first
      | have := hlow (by omega)
      | skip
    clear hlow
    go_enter Try.func3, Try.ntmps3
    go_wp2_with fail
    refine (awake04 _).mono ?_
    rintro e w1 ⟨rfl, q1⟩
    go_wp2_with fail
    refine (pick04 n 65536 _ hn (by omega)).mono ?_
    rintro e w1' ⟨rfl, rfl⟩
    rw [HM.out]
    go_wp2_with fail
    refine (round_yes _ (by omega) (by omega) _).mono ?_
    rintro e w2 ⟨rfl, q2⟩
    rw [HR.out]
    go_wp2_with fail
    refine (round_yes _ (by omega) (by omega) _).mono ?_
    rintro e w3 ⟨rfl, q3⟩
    rw [HR2.out]
    go_wp2
    go_ret
    exact ⟨by simp, Calm.below ((q1.trans q2).trans q3)⟩

end Go.Proofs.Ytflegkhpnepfhaa
