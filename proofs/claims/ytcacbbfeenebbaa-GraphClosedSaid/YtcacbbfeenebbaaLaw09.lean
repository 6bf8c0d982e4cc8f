/- Layer 9's small helpers: pick, to, Link, Roots. -/
import Derived.Test.YtcacbbfeenebbaaCanon
import Derived.Test.YtcacbbfeenebbaaLay2
set_option linter.unusedSimpArgs false
set_option linter.unusedVariables false
namespace Go.Proofs.Ytcacbbfeenebbaa
open Go.RowKit Go.Shelf Go.Maps

theorem pick09 (c n : Int) (w : World) (hc : I64 c) (hn : 0 < n) :
    Calls Try.prog 44 #[.int .i64 c, .int .i64 n] w fun e w' => e = .returned (.int .i64 (pk c n)) ∧ w = w' := by
  obtain ⟨h1, h2⟩ := hc
  have hn0 : (n == 0) = false := by simp; omega
  by_cases h : c < 0
  · have h0 : 0 ≤ -(c + 1) := by omega
    have hp : Hid (pk c n = (-(c + 1)) % n) := by unfold pk; rw [if_pos h]; rfl
    go_enter Try.func44, Try.ntmps44
    go_wp2
    go_ret
    refine ⟨?_, rfl⟩
    show Ending.returned (.int .i64 (-(Int.tmod (c + 1) n))) = _
    rw [hp.out, ← Int.neg_tmod, Int.tmod_eq_emod_of_nonneg h0]
  · have h0 : 0 ≤ c := by omega
    have hp : Hid (pk c n = c % n) := by unfold pk; rw [if_neg h]; rfl
    go_enter Try.func44, Try.ntmps44
    go_wp2
    go_ret
    exact ⟨by rw [hp.out]; rfl, rfl⟩


/-- Where a pointer leads. -/
def toQ (f : List Int) (k : Nat) (ps : List Nat) : Nat := if k < f.length then (if (pk (f.getD k 0) ((ps.length : Int) + 1)).toNat = ps.length then 0 else ps.getD (pk (f.getD k 0) ((ps.length : Int) + 1)).toNat 0) else 0
theorem toQ_or (f : List Int) (k : Nat) (ps : List Nat) : toQ f k ps = 0 ∨ toQ f k ps ∈ ps := by
  unfold toQ
  split
  · split
    · exact .inl rfl
    · rename_i h1 h2
      have := pk_range (f.getD k 0) (n := (ps.length : Int) + 1) (by omega)
      right
      have h3 : (pk (f.getD k 0) ((ps.length : Int) + 1)).toNat < ps.length := by omega
      generalize (pk (f.getD k 0) ((ps.length : Int) + 1)).toNat = z at *
      simp [List.getD, h3]
  · exact .inl rfl
def ToPost9 (w : World) (f : List Int) (k : Nat) (ps : List Nat) (e : Ending) (w' : World) : Prop := e = .returned (.int .i64 (toQ f k ps)) ∧ Calm w w'

set_option maxHeartbeats 1000000 in
theorem to09_yes {w : World} {s0 s1 s2 : Int} {F : Value} {fr : Bool} {f : List Int} (hF : Row w F (iVs f)) (hf : ∀ x ∈ f, I64 x) (hl : f.length ≤ maxLen) {wv : Value} {ps : List Nat} (hw : Row w wv (iVs (nI ps))) (hps : ps.length ≤ 1000) (k : Nat) (hk : k < 8) :
    Calls Try.prog 69 #[.agg #[.int .i64 s0, .int .i64 s1, .int .i64 s2, F, .bool fr], .int .i64 k, wv] w (ToPost9 w f k ps) := by
  unfold maxLen at hl
  obtain ⟨fa, fc, rfl, hfa⟩ := hF.loop
  obtain ⟨wa, wc, rfl, hwa⟩ := hw.loop
  have hln : Hid ((nI ps).length = ps.length) := by show (nI ps).length = ps.length; simp
  rw [hln.out]
  obtain ⟨n, hn⟩ : ∃ n, ps.length = n := ⟨_, rfl⟩
  rw [hn] at hps ⊢
  replace hn := hid hn
  replace hf := hid hf
  replace hfa := hid hfa
  replace hwa := hid hwa
  clear hF hw
  rcases Nat.lt_or_ge k f.length with hlt | hge
  · obtain ⟨fb, foff, rfl, hfb, hcf⟩ := hfa.out k hlt
    have hx : I64 (f.getD k 0) := hf.out _ (by simp [List.getD, hlt])
    obtain ⟨x, hx0⟩ : ∃ x, f.getD k 0 = x := ⟨_, rfl⟩
    rw [hx0] at hcf hx
    have rp := pk_range x (n := (n : Int) + 1) (by omega)
    obtain ⟨q, hq⟩ : ∃ q, pk x (n + 1) = q := ⟨_, rfl⟩
    rw [hq] at rp
    obtain ⟨r1, r2⟩ := rp
    obtain ⟨q, rfl⟩ := Int.eq_ofNat_of_zero_le r1
    replace hx := hid hx
    replace hq := hid hq
    replace hx0 := hid hx0
    have ne1 : fb ≠ w.heap.size := by omega
    go_enter Try.func69, Try.ntmps69
    go_wp2_with fail
    refine (pick09 x (n + 1) _ hx.out (by omega)).mono ?_
    rintro e w' ⟨rfl, rfl⟩
    rw [hq.out]
    by_cases hqn : q = n
    · subst hqn
      have hb : ((q : Int) == (q : Int)) = true := by simp
      have hz : Hid (toQ f k ps = 0) := by
        show toQ f k ps = 0
        unfold toQ; rw [if_pos hlt, hn.out, hx0.out, hq.out, if_pos (by simp)]
      go_wp2
      go_ret
      exact ⟨by rw [hz.out]; rfl, (Fr.refl _ _).alloc _⟩
    · have hb : ((q : Int) == (n : Int)) = false := by simp; omega
      have hql : q < ps.length := by have := hn.out; omega
      obtain ⟨wb, woff, rfl, hwb, hcw⟩ := hwa.out q (by rw [hln.out]; exact hql)
      rw [show (nI ps).getD q 0 = ((ps.getD q 0 : Nat) : Int) by simp [List.getD, hql]] at hcw
      have hz : Hid (toQ f k ps = ps.getD q 0) := by
        show toQ f k ps = _
        unfold toQ; rw [if_pos hlt, hn.out, hx0.out, hq.out, if_neg (by simpa using hqn)]; simp
      generalize ps.getD q 0 = y at *
      have ne2 : wb ≠ w.heap.size := by omega
      have g : q < n := by omega
      clear hql hqn
      go_wp2
      go_ret
      exact ⟨by rw [hz.out]; rfl, (Fr.refl _ _).alloc _⟩
  · have hz : Hid (toQ f k ps = 0) := by
      show toQ f k ps = 0
      unfold toQ; rw [if_neg (by omega)]
    go_enter Try.func69, Try.ntmps69
    go_wp2
    go_ret
    exact ⟨by rw [hz.out]; rfl, (Fr.refl _ _).alloc _⟩

def RootsPost (w : World) (ps : List Nat) (e : Ending) (w' : World) : Prop := ∃ v r, e = .returned v ∧ ORow w' w.heap.size v (nI r) ∧ (∀ x ∈ r, x = 0 ∨ x ∈ ps) ∧ r.length ≤ 5 ∧ Calm w w'

def RooI (w : World) (ps : List Nat) (v : Value) (k : Nat) (wr : World) : Prop := ∃ r : List Nat, ORow wr w.heap.size v (nI r) ∧ (∀ x ∈ r, x = 0 ∨ x ∈ ps) ∧ r.length = k ∧ Calm w wr

set_option maxHeartbeats 2000000 in
theorem roots_yes {w : World} {v : Value} {l : List Int} (hr : Row w v (iVs l)) (hl : ∀ x ∈ l, I64 x) (hm : l.length ≤ maxLen) {wv : Value} {ps : List Nat} (hw : Row w wv (iVs (nI ps))) (hps : ps.length ≤ 1000) :
    Calls Try.prog 40 #[v, wv] w (RootsPost w ps) := by
  unfold maxLen at hm
  obtain ⟨la, lc, rfl, hla⟩ := hr.loop
  obtain ⟨wa, wc, rfl, hwa⟩ := hw.loop
  have hln : Hid ((nI ps).length = ps.length) := by show (nI ps).length = ps.length; simp
  rw [hln.out]
  obtain ⟨n, hn⟩ : ∃ n, ps.length = n := ⟨_, rfl⟩
  rw [hn] at hps ⊢
  replace hn := hid hn
  replace hl := hid hl
  replace hla := hid hla
  replace hwa := hid hwa
  clear hr hw
  have hI0 : RooI w ps (.slice none 0 0) 0 w := ⟨[], ORow.nil _ _, by simp, rfl, Fr.refl _ _⟩
  go_enter Try.func40, Try.ntmps40
  go_wp2_with fail
  go_loopw [5, 6] (fun v i wr => ∃ k : Nat, k ≤ l.length ∧ k ≤ 5 ∧ i = .int .i64 k ∧ RooI w ps v k wr) (fun _ i _ => 5 - (intOf i).toNat)
  case atStart => exact ⟨0, Nat.zero_le _, Nat.zero_le _, rfl, hI0⟩
  case round =>
    clear hI0
    obtain ⟨k, hk, hk5, rfl, r, hro, hin, hrl, hc⟩ := hrel
    rcases (by omega : (k < l.length ∧ k < 5) ∨ (k < l.length ∧ ¬ k < 5) ∨ ¬ k < l.length) with ⟨hlt, hlt5⟩ | ⟨hlt, hge5⟩ | hge
    · obtain ⟨lb, loff, rfl, hlb, hcl⟩ := hla.out k hlt
      replace hcl := hc.cellAt (p := ⟨lb, loff + k, none⟩) hcl id
      have hx : I64 (l.getD k 0) := hl.out _ (by simp [List.getD, hlt])
      generalize l.getD k 0 = x at *
      have rp := pk_range x (n := (n : Int) + 1) (by omega)
      obtain ⟨q, hq⟩ : ∃ q, pk x (n + 1) = q := ⟨_, rfl⟩
      rw [hq] at rp
      obtain ⟨r1, r2⟩ := rp
      obtain ⟨q, rfl⟩ := Int.eq_ofNat_of_zero_le r1
      have hnl : Hid ((nI r).length = k) := by show (nI r).length = k; simpa using hrl
      have hs := hid hc.size
      obtain ⟨sa, sn, sc, rfl⟩ := hro.letters
      have g1 : (k : Int) < l.length := by omega
      have g2 : (k : Int) < 5 := by omega
      replace hx := hid hx
      replace hq := hid hq
      replace hro := hid hro
      replace hin := hid hin
      replace hrl := hid hrl
      go_wp2_with fail
      refine (pick09 x (n + 1) _ hx.out (by omega)).mono ?_
      rintro e w' ⟨rfl, rfl⟩
      rw [hq.out]
      by_cases hqn : q < n
      · have hql : q < ps.length := by have := hn.out; omega
        obtain ⟨wb, woff, rfl, hwb, hcw⟩ := hwa.out q (by rw [hln.out]; exact hql)
        replace hcw := hc.cellAt (p := ⟨wb, woff + q, none⟩) hcw id
        rw [show (nI ps).getD q 0 = ((ps.getD q 0 : Nat) : Int) by simp [List.getD, hql]] at hcw
        have hmm : ps.getD q 0 ∈ ps := by simp [List.getD, hql]
        generalize ps.getD q 0 = y at *
        replace hmm := hid hmm
        clear hql
        go_wp2_with (at_builtin; go_must (refine wpList_app1 rfl _ _ rfl _ _ (nI r) hro.out rfl (y : Int) rfl (by rw [hnl.out]; omega) hs.out ?_); intro g4 c4 w4 hN4 hF4 hg4; replace hN4 := hid hN4; replace hF4 := hid hF4; replace hg4 := hid hg4)
        go_roundw
        case rel =>
          refine ⟨k + 1, by omega, by omega, by go_num, r ++ [y], by simpa using hN4.out, fun z hz => ?_, by simp [hrl.out], hc.join hF4.out (fun j h1 h2 => ?_)⟩
          · rcases List.mem_append.1 hz with hz | hz
            · exact hin.out z hz
            · simp at hz; subst hz; exact .inr hmm.out
          · have := (hro.out.lt h2).1
            omega
        case measure => simp [intOf]; omega
      · go_wp2_with (at_builtin; go_must (refine wpList_app1 rfl _ _ rfl _ _ (nI r) hro.out rfl 0 rfl (by rw [hnl.out]; omega) hs.out ?_); intro g4 c4 w4 hN4 hF4 hg4; replace hN4 := hid hN4; replace hF4 := hid hF4; replace hg4 := hid hg4)
        go_roundw
        case rel =>
          refine ⟨k + 1, by omega, by omega, by go_num, r ++ [0], by simpa using hN4.out, fun z hz => ?_, by simp [hrl.out], hc.join hF4.out (fun j h1 h2 => ?_)⟩
          · rcases List.mem_append.1 hz with hz | hz
            · exact hin.out z hz
            · simp at hz; subst hz; exact .inl rfl
          · have := (hro.out.lt h2).1
            omega
        case measure => simp [intOf]; omega
    all_goals
      have hd : Hid (r.length ≤ 5) := by show r.length ≤ 5; omega
      obtain ⟨sa, sn, sc, rfl⟩ := hro.letters
      have g1 : True := trivial
      replace hro := hid hro
      replace hin := hid hin
      replace hrl := hid hrl
      go_wp2
      go_ret
      exact ⟨_, r, rfl, hro.out, hin.out, hd.out, hc⟩

end Go.Proofs.Ytcacbbfeenebbaa
