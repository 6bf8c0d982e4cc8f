/- What Pack and Unpack make, as plain numbers. -/
import Derived.Test.YtlocklcldalklaaW1
set_option linter.unusedSimpArgs false
set_option linter.unusedVariables false
namespace Go.Proofs.Ytlocklcldalklaa

theorem gt_st {W s d v : Nat} (h : s + d ≤ 64) (hW : W < 18446744073709551616) (hv : v < 2 ^ d) : gt (st W s d v) s d = v := by
  apply Nat.eq_of_testBit_eq
  intro i
  rw [testBit_gt, testBit_st h hW hv]
  by_cases hi : i < d
  · rw [if_pos ⟨by omega, by omega⟩, Nat.add_sub_cancel_left]; simp [hi]
  · have hb : v.testBit i = false := Nat.testBit_lt_two_pow (Nat.lt_of_lt_of_le hv (pow_le (by omega)))
    rw [hb]; simp [hi]

theorem gt_st_apart {W s d v s' d' : Nat} (h : s + d ≤ 64) (hW : W < 18446744073709551616) (hv : v < 2 ^ d) (ha : s + d ≤ s' ∨ s' + d' ≤ s) : gt (st W s d v) s' d' = gt W s' d' := by
  apply Nat.eq_of_testBit_eq
  intro i
  rw [testBit_gt, testBit_gt, testBit_st h hW hv]
  by_cases hi : i < d'
  · rw [if_neg (by omega)]
  · simp [hi]

theorem st_back {W s d v : Nat} (h : s + d ≤ 64) (hW : W < 18446744073709551616) (hv : v < 2 ^ d) : st (st W s d v) s d (gt W s d) = W := by
  apply Nat.eq_of_testBit_eq
  intro i
  rw [testBit_st h (st_lt h hW hv) (gt_lt _ _ _), testBit_st h hW hv, testBit_gt]
  by_cases hi : s ≤ i ∧ i < s + d
  · rw [if_pos hi, show s + (i - s) = i by omega]; simp; omega
  · rw [if_neg hi, if_neg hi]

theorem mk_meet {s d s' d' : Nat} (h1 : 1 ≤ d) (h2 : 1 ≤ d') : mk s d &&& mk s' d' = 0 ↔ s + d ≤ s' ∨ s' + d' ≤ s := by
  constructor
  · intro h
    have := congrArg (fun x => x.testBit (max s s')) h
    simp only [Nat.testBit_and, testBit_mk, Nat.zero_testBit, ← Bool.decide_and, decide_eq_false_iff_not] at this
    omega
  · intro h
    apply Nat.eq_of_testBit_eq
    intro i
    rw [Nat.testBit_and, testBit_mk, testBit_mk, Nat.zero_testBit, ← Bool.decide_and, decide_eq_false_iff_not]
    omega

theorem mk_down (s d : Nat) : mk s d / 2 ^ s = 2 ^ d - 1 := Nat.mul_div_cancel _ (Nat.two_pow_pos s)

theorem Fits.step {ws : List Int} (h : Fits ws) {k : Nat} (hk : k < ws.length) : (ofs ws (k + 1)).toNat = (ofs ws k).toNat + (ws.getD k 0).toNat ∧ (ofs ws k).toNat + (ws.getD k 0).toNat ≤ 64 ∧ 1 ≤ (ws.getD k 0).toNat := by
  obtain ⟨h1, h2, h3⟩ := h.at hk
  have e : ofs ws (k + 1) = ofs ws k + ws.getD k 0 := rfl
  rw [e]; omega

theorem Fits.mono {ws : List Int} (h : Fits ws) {i j : Nat} (hij : i ≤ j) (hj : j ≤ ws.length) : (ofs ws i).toNat ≤ (ofs ws j).toNat := by
  have := ofs_mono h.pos hij hj
  omega

theorem lt_two_of_bits {x n : Nat} (h : ∀ i, n ≤ i → x.testBit i = false) : x < 2 ^ n := Nat.lt_pow_two_of_testBit x h
theorem bit_false {x n i : Nat} (h : x < 2 ^ n) (hi : n ≤ i) : x.testBit i = false := Nat.testBit_lt_two_pow (Nat.lt_of_lt_of_le h (pow_le hi))

theorem packed_small {ws : List Int} {vs : List Nat} (hf : Fits ws) (hs : Small ws vs) : ∀ {k : Nat}, k ≤ ws.length → packed ws vs k < 2 ^ (ofs ws k).toNat
  | 0, _ => by simp [packed, ofs]
  | k + 1, h => by
    obtain ⟨s1, s2, s3⟩ := hf.step (k := k) (by omega)
    have ih := packed_small hf hs (k := k) (by omega)
    rw [s1]
    refine lt_two_of_bits fun i hi => ?_
    show (st _ _ _ _).testBit i = false
    rw [testBit_st s2 (packed_lt hf hs (by omega)) (hs k (by omega)), if_neg (by omega)]
    exact bit_false ih (by omega)

theorem packed_get {ws : List Int} {vs : List Nat} (hf : Fits ws) (hs : Small ws vs) : ∀ {n : Nat} {j : Nat}, n ≤ ws.length → j < n → gt (packed ws vs n) (ofs ws j).toNat (ws.getD j 0).toNat = vs.getD j 0
  | 0, j, _, h => by omega
  | n + 1, j, hn, hj => by
    obtain ⟨s1, s2, s3⟩ := hf.step (k := n) (by omega)
    show gt (st _ _ _ _) _ _ = _
    by_cases h : j = n
    · subst h; exact gt_st s2 (packed_lt hf hs (by omega)) (hs j (by omega))
    · rw [gt_st_apart s2 (packed_lt hf hs (by omega)) (hs n (by omega)) (.inr ?_)]
      · exact packed_get hf hs (by omega) (by omega)
      · have := (hf.step (k := j) (by omega)).1
        have := hf.mono (i := j + 1) (j := n) (by omega) (by omega)
        omega

theorem unpk_packed {ws : List Int} {vs : List Nat} (hf : Fits ws) (hs : Small ws vs) (hn : ws.length = vs.length) : ∀ {k : Nat}, k ≤ ws.length → unpk ws (packed ws vs ws.length) k = vs.take k
  | 0, _ => rfl
  | k + 1, h => by
    show unpk _ _ k ++ [_] = _
    rw [unpk_packed hf hs hn (by omega), packed_get hf hs (Nat.le_refl _) (by omega), List.take_add_one]
    congr 1
    simp [List.getD, show k < vs.length by omega]

theorem mk_zero (d : Nat) : mk 0 d = 2 ^ d - 1 := by simp [mk]

theorem allm_eq {ws : List Int} (hf : Fits ws) : ∀ {k : Nat}, k ≤ ws.length → allm ws k = mk 0 (ofs ws k).toNat
  | 0, _ => by simp [allm, ofs, mk]
  | k + 1, h => by
    obtain ⟨s1, s2, s3⟩ := hf.step (k := k) (by omega)
    show allm ws k ||| mk _ _ = _
    rw [allm_eq hf (by omega), s1]
    have := mk_both 0 (ofs ws k).toNat (ws.getD k 0).toNat
    rwa [Nat.zero_add] at this

theorem testBit_not_mk {s d : Nat} (h : s + d ≤ 64) (i : Nat) : (18446744073709551615 - mk s d).testBit i = (decide (i < 64) && !(mk s d).testBit i) := by
  have := mk_lt h
  have e : 18446744073709551615 - mk s d = 2 ^ 64 - (mk s d + 1) := by rw [two64]; omega
  rw [e, Nat.testBit_two_pow_sub_succ (by rw [two64]; exact this)]

theorem over_iff {X d : Nat} (hX : X < 18446744073709551616) (hd : d ≤ 64) : X &&& (18446744073709551615 - mk 0 d) = 0 ↔ X < 2 ^ d := by
  rw [← two64] at hX
  constructor
  · intro h
    refine lt_two_of_bits fun i hi => ?_
    rcases Nat.lt_or_ge i 64 with h6 | h6
    · have := congrArg (fun x => x.testBit i) h
      simp only [Nat.testBit_and, testBit_not_mk (show 0 + d ≤ 64 by omega), testBit_mk, Nat.zero_testBit] at this
      have hn : ¬ (0 ≤ i ∧ i < 0 + d) := by omega
      simp [h6, hn] at this
      cases hb : X.testBit i
      · rfl
      · have := this hb; omega
    · exact bit_false hX h6
  · intro h
    apply Nat.eq_of_testBit_eq
    intro i
    rw [Nat.testBit_and, testBit_not_mk (show 0 + d ≤ 64 by omega), testBit_mk, Nat.zero_testBit]
    rcases Nat.lt_or_ge i d with h6 | h6
    · simp [h6]
    · rw [bit_false h h6]; simp

theorem packed_unpk {ws : List Int} (X : Nat) (hf : Fits ws) {vs : List Nat} (hv : ∀ k, k < ws.length → vs.getD k 0 = gt X (ofs ws k).toNat (ws.getD k 0).toNat) : ∀ {k : Nat}, k ≤ ws.length → packed ws vs k = X % 2 ^ (ofs ws k).toNat
  | 0, _ => by simp [packed, ofs, Nat.mod_one]
  | k + 1, h => by
    obtain ⟨s1, s2, s3⟩ := hf.step (k := k) (by omega)
    have hs : Small ws vs := fun k hk => by rw [hv k hk]; exact gt_lt _ _ _
    have ih := packed_unpk X hf hv (k := k) (by omega)
    have hp := packed_lt hf hs (k := k) (by omega)
    rw [s1]
    show st (packed ws vs k) _ _ _ = _
    rw [hv k (by omega)]
    apply Nat.eq_of_testBit_eq
    intro i
    rw [testBit_st s2 hp (gt_lt _ _ _), ih, testBit_gt, Nat.testBit_mod_two_pow, Nat.testBit_mod_two_pow]
    by_cases hi : (ofs ws k).toNat ≤ i ∧ i < (ofs ws k).toNat + (ws.getD k 0).toNat
    · rw [if_pos hi, show (ofs ws k).toNat + (i - (ofs ws k).toNat) = i by omega]
      have h1 : i - (ofs ws k).toNat < (ws.getD k 0).toNat := by omega
      rw [decide_eq_true h1, decide_eq_true hi.2]
    · rw [if_neg hi]
      congr 1
      rw [decide_eq_decide]; omega

theorem unpk_getD (ws : List Int) (X : Nat) : ∀ {n k : Nat}, k < n → (unpk ws X n).getD k 0 = gt X (ofs ws k).toNat (ws.getD k 0).toNat
  | 0, k, h => by omega
  | n + 1, k, h => by
    show (unpk ws X n ++ [_]).getD k 0 = _
    by_cases hk : k = n
    · subst hk
      have : (unpk ws X k).length = k := unpk_length ws X k
      simp [List.getD, this]
    · have hl : k < (unpk ws X n).length := by rw [unpk_length]; omega
      have := unpk_getD ws X (n := n) (k := k) (by omega)
      simp only [List.getD, List.getElem?_append_left hl] at this ⊢
      exact this

/-- One number alone. -/
theorem packed_one {ws : List Int} {vs : List Nat} (hf : Fits ws) (hs : Small ws vs) (c : Nat) (h0 : ∀ k, k ≠ c → vs.getD k 0 = 0) : ∀ {k : Nat}, k ≤ ws.length → packed ws vs k = if c < k then vs.getD c 0 * 2 ^ (ofs ws c).toNat else 0
  | 0, _ => by simp [packed]
  | k + 1, h => by
    obtain ⟨s1, s2, s3⟩ := hf.step (k := k) (by omega)
    have ih := packed_one hf hs c h0 (k := k) (by omega)
    have hp := packed_lt hf hs (k := k) (by omega)
    have hq := packed_small hf hs (k := k) (by omega)
    show st (packed ws vs k) _ _ _ = _
    apply Nat.eq_of_testBit_eq
    intro i
    rw [testBit_st s2 hp (hs k (by omega))]
    by_cases hc : c = k
    · subst hc
      have e1 : packed ws vs c = 0 := by rw [ih, if_neg (by omega)]
      rw [e1, if_pos (show c < c + 1 by omega), ← Nat.shiftLeft_eq, Nat.testBit_shiftLeft]
      by_cases hi : (ofs ws c).toNat ≤ i ∧ i < (ofs ws c).toNat + (ws.getD c 0).toNat
      · rw [if_pos hi]; simp [hi.1]
      · rw [if_neg hi, Nat.zero_testBit]
        by_cases h1 : (ofs ws c).toNat ≤ i
        · rw [bit_false (hs c (by omega)) (by omega)]; simp
        · simp [h1]
    · rw [h0 k (fun h => hc h.symm), Nat.zero_testBit, ih]
      have e : (if c < k + 1 then vs.getD c 0 * 2 ^ (ofs ws c).toNat else 0) = (if c < k then vs.getD c 0 * 2 ^ (ofs ws c).toNat else 0) := by
        by_cases h1 : c < k
        · rw [if_pos h1, if_pos (by omega)]
        · rw [if_neg h1, if_neg (by omega)]
      rw [e, ← ih]
      by_cases hi : (ofs ws k).toNat ≤ i ∧ i < (ofs ws k).toNat + (ws.getD k 0).toNat
      · rw [if_pos hi, bit_false hq hi.1]
      · rw [if_neg hi]

end Go.Proofs.Ytlocklcldalklaa
