/- HeaderOwners, HeaderWheres return true, whatever the input. -/
import Derived.Test.YteenndihmgmbfaaLaw06
set_option linter.unusedSimpArgs false
set_option linter.unusedVariables false
namespace Go.Proofs.Yteenndihmgmbfaa
open Go.RowKit Go.Shelf

set_option maxRecDepth 100000 in
set_option maxHeartbeats 1000000 in
theorem headerOwners_walk (a : Int) (ha : I64 a) (b : Int) (hb : I64 b) (c : Int) (hc : I64 c) (w : World) :
    Calls Try.prog 3 #[.int .i64 a, .int .i64 b, .int .i64 c] w fun e w' => e = .returned (.bool true) ∧ Below w.heap.size w w' := by
  have ra := pk_range a (n := 8) (by omega)
  have rb := pk_range b (n := 1099511627777) (by omega)
  have rc := pk_range c (n := 1099511627777) (by omega)
  obtain ⟨x, hx⟩ : ∃ x, pk a 8 = x := ⟨_, rfl⟩
  obtain ⟨y, hy⟩ : ∃ y, pk b 1099511627777 = y := ⟨_, rfl⟩
  obtain ⟨z, hz⟩ : ∃ z, pk c 1099511627777 = z := ⟨_, rfl⟩
  rw [hx] at ra
  rw [hy] at rb
  rw [hz] at rc
  have HX : Hid (pk a 8 = x) := hx
  have HY : Hid (pk b 1099511627777 = y) := hy
  have HZ : Hid (pk c 1099511627777 = z) := hz
  clear hx hy hz
  obtain ⟨x1, x2⟩ := ra
  obtain ⟨y1, y2⟩ := rb
  obtain ⟨z1, z2⟩ := rc
  obtain ⟨X, rfl⟩ := Int.eq_ofNat_of_zero_le x1
  obtain ⟨Y, rfl⟩ := Int.eq_ofNat_of_zero_le y1
  obtain ⟨Z, rfl⟩ := Int.eq_ofNat_of_zero_le z1
  have n1 : (((2 * X + 1 : Nat) : Int) == ((2 * Y : Nat) : Int)) = false := by simp; omega
  have n1' : (((2 * X + 1 : Nat) : Int) != ((2 * Y : Nat) : Int)) = true := by simp; omega
  rcases Nat.lt_trichotomy Y Z with hYZ | rfl | hYZ
  · have n2 : (((2 * Y : Nat) : Int) == ((2 * Z : Nat) : Int)) = false := by simp; omega
    have n3 : ((Y : Int) == (Z : Int)) = false := by simp; omega
    go_enter Try.func3, Try.ntmps3
    go_wp2_with fail
    refine (awake06 _).mono ?_
    rintro e w1 ⟨rfl, c1⟩
    go_wp2_with fail
    refine (pick06 a _ _ ha (by omega)).mono ?_
    rintro e w' ⟨rfl, rfl⟩
    rw [HX.out]
    go_wp2_with fail
    refine (pick06 b _ _ hb (by omega)).mono ?_
    rintro e w' ⟨rfl, rfl⟩
    rw [HY.out]
    go_wp2_with fail
    refine (pick06 c _ _ hc (by omega)).mono ?_
    rintro e w' ⟨rfl, rfl⟩
    rw [HZ.out]
    go_wp2_with fail
    refine (held_yes _ (by omega) (by omega) _).mono ?_
    rintro e w' ⟨rfl, rfl⟩
    rw [Int.toNat_natCast]
    go_wp2_with fail
    refine (free_yes _ (by omega) (by omega) _).mono ?_
    rintro e w' ⟨rfl, rfl⟩
    rw [Int.toNat_natCast]
    go_wp2_with fail
    refine (free_yes _ (by omega) (by omega) _).mono ?_
    rintro e w' ⟨rfl, rfl⟩
    rw [Int.toNat_natCast]
    go_wp2_with fail
    refine (owner_held X (by omega) _).mono ?_
    rintro e w' ⟨rfl, rfl⟩
    go_wp2_with fail
    refine (owner_free Y (by omega) _).mono ?_
    rintro e w' ⟨rfl, rfl⟩
    clear x1 x2 y1 y2 z1 z2 ha hb hc
    go_wp2
    go_ret
    exact ⟨by simp; omega, Calm.below c1⟩
  · go_enter Try.func3, Try.ntmps3
    go_wp2_with fail
    refine (awake06 _).mono ?_
    rintro e w1 ⟨rfl, c1⟩
    go_wp2_with fail
    refine (pick06 a _ _ ha (by omega)).mono ?_
    rintro e w' ⟨rfl, rfl⟩
    rw [HX.out]
    go_wp2_with fail
    refine (pick06 b _ _ hb (by omega)).mono ?_
    rintro e w' ⟨rfl, rfl⟩
    rw [HY.out]
    go_wp2_with fail
    refine (pick06 c _ _ hc (by omega)).mono ?_
    rintro e w' ⟨rfl, rfl⟩
    rw [HZ.out]
    go_wp2_with fail
    refine (held_yes _ (by omega) (by omega) _).mono ?_
    rintro e w' ⟨rfl, rfl⟩
    rw [Int.toNat_natCast]
    go_wp2_with fail
    refine (free_yes _ (by omega) (by omega) _).mono ?_
    rintro e w' ⟨rfl, rfl⟩
    rw [Int.toNat_natCast]
    go_wp2_with fail
    refine (free_yes _ (by omega) (by omega) _).mono ?_
    rintro e w' ⟨rfl, rfl⟩
    rw [Int.toNat_natCast]
    go_wp2_with fail
    refine (owner_held X (by omega) _).mono ?_
    rintro e w' ⟨rfl, rfl⟩
    go_wp2_with fail
    refine (owner_free Y (by omega) _).mono ?_
    rintro e w' ⟨rfl, rfl⟩
    clear x1 x2 y1 y2 z1 z2 ha hb hc
    go_wp2
    go_ret
    exact ⟨by simp; omega, Calm.below c1⟩
  · have n2 : (((2 * Y : Nat) : Int) == ((2 * Z : Nat) : Int)) = false := by simp; omega
    have n3 : ((Y : Int) == (Z : Int)) = false := by simp; omega
    go_enter Try.func3, Try.ntmps3
    go_wp2_with fail
    refine (awake06 _).mono ?_
    rintro e w1 ⟨rfl, c1⟩
    go_wp2_with fail
    refine (pick06 a _ _ ha (by omega)).mono ?_
    rintro e w' ⟨rfl, rfl⟩
    rw [HX.out]
    go_wp2_with fail
    refine (pick06 b _ _ hb (by omega)).mono ?_
    rintro e w' ⟨rfl, rfl⟩
    rw [HY.out]
    go_wp2_with fail
    refine (pick06 c _ _ hc (by omega)).mono ?_
    rintro e w' ⟨rfl, rfl⟩
    rw [HZ.out]
    go_wp2_with fail
    refine (held_yes _ (by omega) (by omega) _).mono ?_
    rintro e w' ⟨rfl, rfl⟩
    rw [Int.toNat_natCast]
    go_wp2_with fail
    refine (free_yes _ (by omega) (by omega) _).mono ?_
    rintro e w' ⟨rfl, rfl⟩
    rw [Int.toNat_natCast]
    go_wp2_with fail
    refine (free_yes _ (by omega) (by omega) _).mono ?_
    rintro e w' ⟨rfl, rfl⟩
    rw [Int.toNat_natCast]
    go_wp2_with fail
    refine (owner_held X (by omega) _).mono ?_
    rintro e w' ⟨rfl, rfl⟩
    go_wp2_with fail
    refine (owner_free Y (by omega) _).mono ?_
    rintro e w' ⟨rfl, rfl⟩
    clear x1 x2 y1 y2 z1 z2 ha hb hc
    go_wp2
    go_ret
    exact ⟨by simp; omega, Calm.below c1⟩

set_option maxRecDepth 100000 in
set_option maxHeartbeats 1000000 in
theorem headerWheres_walk (a : Int) (ha : I64 a) (w : World) :
    Calls Try.prog 6 #[.int .i64 a] w fun e w' => e = .returned (.bool true) ∧ Below w.heap.size w w' := by
  have ra := pk_range a (n := 131072) (by omega)
  obtain ⟨x, hx⟩ : ∃ x, pk a 131072 = x := ⟨_, rfl⟩
  rw [hx] at ra
  have HX : Hid (pk a 131072 = x) := hx
  clear hx
  obtain ⟨x1, x2⟩ := ra
  obtain ⟨X, rfl⟩ := Int.eq_ofNat_of_zero_le x1
  go_enter Try.func6, Try.ntmps6
  go_wp2_with fail
  refine (awake06 _).mono ?_
  rintro e w1 ⟨rfl, c1⟩
  go_wp2_with fail
  refine (pick06 a _ _ ha (by omega)).mono ?_
  rintro e w' ⟨rfl, rfl⟩
  rw [HX.out]
  go_wp2_with fail
  refine (gone_yes _ (by omega) (by omega) _).mono ?_
  rintro e w' ⟨rfl, rfl⟩
  obtain ⟨V, hV⟩ : ∃ V, Int.toNat (1 + (X : Int)) * 4 + 2 = V := ⟨_, rfl⟩
  rw [hV]
  have hV2 : V = (1 + X) * 4 + 2 := by omega
  have HV : Hid (V = (1 + X) * 4 + 2) := hV2
  have HQ : Hid (V / 4 = 1 + X) := by show V / 4 = 1 + X; omega
  have hVb : V < 18446744073709551616 := by omega
  clear hV hV2
  go_wp2_with fail
  refine (where_yes V hVb (by have := HQ.out; omega) (by have := HQ.out; omega) (by have := HV.out; omega) _).mono ?_
  rintro e w' ⟨rfl, rfl⟩
  rw [HQ.out]
  go_wp2_with fail
  refine (shape_no V hVb (fun p d wk fn fr h => by have := isHead_odd h; have := HV.out; omega) _).mono ?_
  rintro e w2 ⟨rfl, c2⟩
  go_wp2
  go_ret
  exact ⟨by simp, Calm.below ((c1.trans c2).trans (Fr.alloc (Fr.refl _ _) _))⟩

end Go.Proofs.Yteenndihmgmbfaa
