/- Layer 9's small helpers: pick, to, Link, Roots. Layer 9's Link: pointers turned to one another. -/
import Derived.Test.YtcacbbfeenebbaaCanon
import Derived.Test.YtcacbbfeenebbaaLay2
import Derived.Test.YtcacbbfeenebbaaHalf
set_option linter.unusedSimpArgs false
set_option linter.unusedVariables false
namespace Go.Proofs.Ytcacbbfeenebbaa
open Go.RowKit Go.Shelf Go.Maps

theorem pick09 (c n : Int) (w : World) (hc : I64 c) (hn : 0 < n) :
    Calls Try.prog 44 #[.int .i64 c, .int .i64 n] w fun e w' => e = .returned (.int .i64 (pk c n)) ∧ w = w' := by
  obtain ⟨h1, h2⟩ := hc
  have hn0 : (n == 0) = false := by simp; omega
  by_cases h : c < 0
  · have h0 : 0 ≤ -(c + 1) := by omega
    have hp : Hid (pk c n = (-(c + 1)) % n) := by unfold pk; rw [if_pos h]; rfl
    go_enter Try.func44, Try.ntmps44
    go_wp2
    go_ret
    refine ⟨?_, rfl⟩
    show Ending.returned (.int .i64 (-(Int.tmod (c + 1) n))) = _
    rw [hp.out, ← Int.neg_tmod, Int.tmod_eq_emod_of_nonneg h0]
  · have h0 : 0 ≤ c := by omega
    have hp : Hid (pk c n = c % n) := by unfold pk; rw [if_neg h]; rfl
    go_enter Try.func44, Try.ntmps44
    go_wp2
    go_ret
    exact ⟨by rw [hp.out]; rfl, rfl⟩


/-- Where a pointer leads. -/
def toQ (f : List Int) (k : Nat) (ps : List Nat) : Nat := if k < f.length then (if (pk (f.getD k 0) ((ps.length : Int) + 1)).toNat = ps.length then 0 else ps.getD (pk (f.getD k 0) ((ps.length : Int) + 1)).toNat 0) else 0
theorem toQ_or (f : List Int) (k : Nat) (ps : List Nat) : toQ f k ps = 0 ∨ toQ f k ps ∈ ps := by
  unfold toQ
  split
  · split
    · exact .inl rfl
    · rename_i h1 h2
      have := pk_range (f.getD k 0) (n := (ps.length : Int) + 1) (by omega)
      right
      have h3 : (pk (f.getD k 0) ((ps.length : Int) + 1)).toNat < ps.length := by omega
      generalize (pk (f.getD k 0) ((ps.length : Int) + 1)).toNat = z at *
      simp [List.getD, h3]
  · exact .inl rfl
def ToPost9 (w : World) (f : List Int) (k : Nat) (ps : List Nat) (e : Ending) (w' : World) : Prop := e = .returned (.int .i64 (toQ f k ps)) ∧ Calm w w'

set_option maxHeartbeats 1000000 in
theorem to09_yes {w : World} {s0 s1 s2 : Int} {F : Value} {fr : Bool} {f : List Int} (hF : Row w F (iVs f)) (hf : ∀ x ∈ f, I64 x) (hl : f.length ≤ maxLen) {wv : Value} {ps : List Nat} (hw : Row w wv (iVs (nI ps))) (hps : ps.length ≤ 1000) (k : Nat) (hk : k < 8) :
    Calls Try.prog 69 #[.agg #[.int .i64 s0, .int .i64 s1, .int .i64 s2, F, .bool fr], .int .i64 k, wv] w (ToPost9 w f k ps) := by
  unfold maxLen at hl
  obtain ⟨fa, fc, rfl, hfa⟩ := hF.loop
  obtain ⟨wa, wc, rfl, hwa⟩ := hw.loop
  have hln : Hid ((nI ps).length = ps.length) := by show (nI ps).length = ps.length; simp
  rw [hln.out]
  obtain ⟨n, hn⟩ : ∃ n, ps.length = n := ⟨_, rfl⟩
  rw [hn] at hps ⊢
  replace hn := hid hn
  replace hf := hid hf
  replace hfa := hid hfa
  replace hwa := hid hwa
  clear hF hw
  rcases Nat.lt_or_ge k f.length with hlt | hge
  · obtain ⟨fb, foff, rfl, hfb, hcf⟩ := hfa.out k hlt
    have hx : I64 (f.getD k 0) := hf.out _ (by simp [List.getD, hlt])
    obtain ⟨x, hx0⟩ : ∃ x, f.getD k 0 = x := ⟨_, rfl⟩
    rw [hx0] at hcf hx
    have rp := pk_range x (n := (n : Int) + 1) (by omega)
    obtain ⟨q, hq⟩ : ∃ q, pk x (n + 1) = q := ⟨_, rfl⟩
    rw [hq] at rp
    obtain ⟨r1, r2⟩ := rp
    obtain ⟨q, rfl⟩ := Int.eq_ofNat_of_zero_le r1
    replace hx := hid hx
    replace hq := hid hq
    replace hx0 := hid hx0
    have ne1 : fb ≠ w.heap.size := by omega
    go_enter Try.func69, Try.ntmps69
    go_wp2_with fail
    refine (pick09 x (n + 1) _ hx.out (by omega)).mono ?_
    rintro e w' ⟨rfl, rfl⟩
    rw [hq.out]
    by_cases hqn : q = n
    · subst hqn
      have hb : ((q : Int) == (q : Int)) = true := by simp
      have hz : Hid (toQ f k ps = 0) := by
        show toQ f k ps = 0
        unfold toQ; rw [if_pos hlt, hn.out, hx0.out, hq.out, if_pos (by simp)]
      go_wp2
      go_ret
      exact ⟨by rw [hz.out]; rfl, (Fr.refl _ _).alloc _⟩
    · have hb : ((q : Int) == (n : Int)) = false := by simp; omega
      have hql : q < ps.length := by have := hn.out; omega
      obtain ⟨wb, woff, rfl, hwb, hcw⟩ := hwa.out q (by rw [hln.out]; exact hql)
      rw [show (nI ps).getD q 0 = ((ps.getD q 0 : Nat) : Int) by simp [List.getD, hql]] at hcw
      have hz : Hid (toQ f k ps = ps.getD q 0) := by
        show toQ f k ps = _
        unfold toQ; rw [if_pos hlt, hn.out, hx0.out, hq.out, if_neg (by simpa using hqn)]; simp
      generalize ps.getD q 0 = y at *
      have ne2 : wb ≠ w.heap.size := by omega
      have g : q < n := by omega
      clear hql hqn
      go_wp2
      go_ret
      exact ⟨by rw [hz.out]; rfl, (Fr.refl _ _).alloc _⟩
  · have hz : Hid (toQ f k ps = 0) := by
      show toQ f k ps = 0
      unfold toQ; rw [if_neg (by omega)]
    go_enter Try.func69, Try.ntmps69
    go_wp2
    go_ret
    exact ⟨by rw [hz.out]; rfl, (Fr.refl _ _).alloc _⟩

def RootsPost (w : World) (ps : List Nat) (e : Ending) (w' : World) : Prop := ∃ v r, e = .returned v ∧ ORow w' w.heap.size v (nI r) ∧ (∀ x ∈ r, x = 0 ∨ x ∈ ps) ∧ r.length ≤ 5 ∧ Calm w w'

def RooI (w : World) (ps : List Nat) (v : Value) (k : Nat) (wr : World) : Prop := ∃ r : List Nat, ORow wr w.heap.size v (nI r) ∧ (∀ x ∈ r, x = 0 ∨ x ∈ ps) ∧ r.length = k ∧ Calm w wr

set_option maxHeartbeats 2000000 in
theorem roots_yes {w : World} {v : Value} {l : List Int} (hr : Row w v (iVs l)) (hl : ∀ x ∈ l, I64 x) (hm : l.length ≤ maxLen) {wv : Value} {ps : List Nat} (hw : Row w wv (iVs (nI ps))) (hps : ps.length ≤ 1000) :
    Calls Try.prog 40 #[v, wv] w (RootsPost w ps) := by
  unfold maxLen at hm
  obtain ⟨la, lc, rfl, hla⟩ := hr.loop
  obtain ⟨wa, wc, rfl, hwa⟩ := hw.loop
  have hln : Hid ((nI ps).length = ps.length) := by show (nI ps).length = ps.length; simp
  rw [hln.out]
  obtain ⟨n, hn⟩ : ∃ n, ps.length = n := ⟨_, rfl⟩
  rw [hn] at hps ⊢
  replace hn := hid hn
  replace hl := hid hl
  replace hla := hid hla
  replace hwa := hid hwa
  clear hr hw
  have hI0 : RooI w ps (.slice none 0 0) 0 w := ⟨[], ORow.nil _ _, by simp, rfl, Fr.refl _ _⟩
  go_enter Try.func40, Try.ntmps40
  go_wp2_with fail
  go_loopw [5, 6] (fun v i wr => ∃ k : Nat, k ≤ l.length ∧ k ≤ 5 ∧ i = .int .i64 k ∧ RooI w ps v k wr) (fun _ i _ => 5 - (intOf i).toNat)
  case atStart => exact ⟨0, Nat.zero_le _, Nat.zero_le _, rfl, hI0⟩
  case round =>
    clear hI0
    obtain ⟨k, hk, hk5, rfl, r, hro, hin, hrl, hc⟩ := hrel
    rcases (by omega : (k < l.length ∧ k < 5) ∨ (k < l.length ∧ ¬ k < 5) ∨ ¬ k < l.length) with ⟨hlt, hlt5⟩ | ⟨hlt, hge5⟩ | hge
    · obtain ⟨lb, loff, rfl, hlb, hcl⟩ := hla.out k hlt
      replace hcl := hc.cellAt (p := ⟨lb, loff + k, none⟩) hcl id
      have hx : I64 (l.getD k 0) := hl.out _ (by simp [List.getD, hlt])
      generalize l.getD k 0 = x at *
      have rp := pk_range x (n := (n : Int) + 1) (by omega)
      obtain ⟨q, hq⟩ : ∃ q, pk x (n + 1) = q := ⟨_, rfl⟩
      rw [hq] at rp
      obtain ⟨r1, r2⟩ := rp
      obtain ⟨q, rfl⟩ := Int.eq_ofNat_of_zero_le r1
      have hnl : Hid ((nI r).length = k) := by show (nI r).length = k; simpa using hrl
      have hs := hid hc.size
      obtain ⟨sa, sn, sc, rfl⟩ := hro.letters
      have g1 : (k : Int) < l.length := by omega
      have g2 : (k : Int) < 5 := by omega
      replace hx := hid hx
      replace hq := hid hq
      replace hro := hid hro
      replace hin := hid hin
      replace hrl := hid hrl
      go_wp2_with fail
      refine (pick09 x (n + 1) _ hx.out (by omega)).mono ?_
      rintro e w' ⟨rfl, rfl⟩
      rw [hq.out]
      by_cases hqn : q < n
      · have hql : q < ps.length := by have := hn.out; omega
        obtain ⟨wb, woff, rfl, hwb, hcw⟩ := hwa.out q (by rw [hln.out]; exact hql)
        replace hcw := hc.cellAt (p := ⟨wb, woff + q, none⟩) hcw id
        rw [show (nI ps).getD q 0 = ((ps.getD q 0 : Nat) : Int) by simp [List.getD, hql]] at hcw
        have hmm : ps.getD q 0 ∈ ps := by simp [List.getD, hql]
        generalize ps.getD q 0 = y at *
        replace hmm := hid hmm
        clear hql
        go_wp2_with (at_builtin; go_must (refine wpList_app1 rfl _ _ rfl _ _ (nI r) hro.out rfl (y : Int) rfl (by rw [hnl.out]; omega) hs.out ?_); intro g4 c4 w4 hN4 hF4 hg4; replace hN4 := hid hN4; replace hF4 := hid hF4; replace hg4 := hid hg4)
        go_roundw
        case rel =>
          refine ⟨k + 1, by omega, by omega, by go_num, r ++ [y], by simpa using hN4.out, fun z hz => ?_, by simp [hrl.out], hc.join hF4.out (fun j h1 h2 => ?_)⟩
          · rcases List.mem_append.1 hz with hz | hz
            · exact hin.out z hz
            · simp at hz; subst hz; exact .inr hmm.out
          · have := (hro.out.lt h2).1
            omega
        case measure => simp [intOf]; omega
      · go_wp2_with (at_builtin; go_must (refine wpList_app1 rfl _ _ rfl _ _ (nI r) hro.out rfl 0 rfl (by rw [hnl.out]; omega) hs.out ?_); intro g4 c4 w4 hN4 hF4 hg4; replace hN4 := hid hN4; replace hF4 := hid hF4; replace hg4 := hid hg4)
        go_roundw
        case rel =>
          refine ⟨k + 1, by omega, by omega, by go_num, r ++ [0], by simpa using hN4.out, fun z hz => ?_, by simp [hrl.out], hc.join hF4.out (fun j h1 h2 => ?_)⟩
          · rcases List.mem_append.1 hz with hz | hz
            · exact hin.out z hz
            · simp at hz; subst hz; exact .inl rfl
          · have := (hro.out.lt h2).1
            omega
        case measure => simp [intOf]; omega
    all_goals
      have hd : Hid (r.length ≤ 5) := by show r.length ≤ 5; omega
      obtain ⟨sa, sn, sc, rfl⟩ := hro.letters
      have g1 : True := trivial
      replace hro := hid hro
      replace hin := hid hin
      replace hrl := hid hrl
      go_wp2
      go_ret
      exact ⟨_, r, rfl, hro.out, hin.out, hd.out, hc⟩

end Go.Proofs.Ytcacbbfeenebbaa

namespace Go.Proofs.Ytcacbbfeenebbaa
open Go.RowKit Go.Shelf Go.Maps

abbrev o0 : Nat × Ob := (0, Ob.new 0 0 false false 0)
/-- One object turned, its size kept. -/
theorem Laid.upd {X X' : List Nat} {o' : Ob} (hl : X'.length = X.length) : ∀ {ls : List (Nat × Ob)} {b e i : Nat}, Laid X b e ls → i < ls.length → At X' (begs b ls i) o' → o'.took = (ls.getD i o0).2.took →
    (∀ j, j < begs b ls i ∨ begs b ls i + o'.took ≤ j → X'.getD j 0 = X.getD j 0) → Laid X' b e (ls.set i (begs b ls i, o'))
  | (a, o) :: ls, b, e, 0, ⟨h1, h2, h3⟩, _, ha, ht, hj => by
    have ht : o'.took = o.took := ht
    show Laid X' b e ((b, o') :: ls)
    refine ⟨rfl, ha, ?_⟩
    rw [ht]
    exact Laid.congr hl h3 (fun j k1 k2 => hj j (.inr (by show b + o'.took ≤ j; omega)))
  | (a, o) :: ls, b, e, i + 1, ⟨h1, h2, h3⟩, hi, ha, ht, hj => by
    rw [begs_cons] at ha hj ⊢
    have hb : b + o.took ≤ begs (b + o.took) ls i := begs_ge _ _ _
    have hr := h2.room
    obtain ⟨_, q2, _, _⟩ := Ob.took_eq h2.ok
    refine ⟨h1, h2.of_eq (by rw [hl]; exact hr) (fun k hk => hj _ (.inl (by simp only at hb ⊢; omega))), ?_⟩
    exact Laid.upd hl h3 (by simpa using hi) ha ht hj

/-- All its pointers among the first n lead to nothing or to a place. -/
def LkN (ps : List Nat) (o : Ob) (n : Nat) : Prop := ∀ m, m < n → m < o.p → o.ps.getD m 0 = 0 ∨ o.ps.getD m 0 ∈ ps
structure LinkR (X0 : List Nat) (en : Nat) (ps : List Nat) (i k : Nat) (X : List Nat) (ls : List (Nat × Ob)) : Prop where
  len : X.length = X0.length
  laid : Laid X 1 en ls
  plc : plc ls = ps
  lk : ∀ j, j < i → LkN ps (ls.getD j o0).2 8
  now : LkN ps (ls.getD i o0).2 k
  out : ∀ j, j < 1 ∨ en ≤ j → X.getD j 0 = X0.getD j 0
theorem LinkR.next {X0 : List Nat} {en : Nat} {ps : List Nat} {i : Nat} {X : List Nat} {ls : List (Nat × Ob)} (h : LinkR X0 en ps i 8 X ls) : LinkR X0 en ps (i + 1) 0 X ls :=
  ⟨h.len, h.laid, h.plc, fun j hj => by
    by_cases e : j = i
    · subst e; exact h.now
    · exact h.lk j (by omega), fun m hm => by omega, h.out⟩
theorem LinkR.no {X0 : List Nat} {en : Nat} {ps : List Nat} {i k : Nat} {X : List Nat} {ls : List (Nat × Ob)} (h : LinkR X0 en ps i k X ls) (hk : (ls.getD i o0).2.p ≤ k) : LinkR X0 en ps i (k + 1) X ls :=
  ⟨h.len, h.laid, h.plc, h.lk, fun m h1 h2 => by
    by_cases e : m = k
    · omega
    · exact h.now m (by omega) h2, h.out⟩
theorem plc_set {X : List Nat} {b e i : Nat} {ls : List (Nat × Ob)} (h : Laid X b e ls) (hi : i < ls.length) (o : Ob) : plc (ls.set i (begs b ls i, o)) = plc ls := by
  have := (Lie.at h.lie i hi).1
  simp only [plc, List.map_set]
  rw [← this]
  apply List.ext_getElem (by simp)
  intro j h1 h2
  rw [List.getElem_set]
  split
  · rename_i e; subst e; simp [List.getD, hi]
  · rfl
theorem LinkR.yes {X0 : List Nat} {en : Nat} {ps : List Nat} {i k : Nat} {X : List Nat} {ls : List (Nat × Ob)} (h : LinkR X0 en ps i k X ls) (hi : i < ls.length) (hk : k < (ls.getD i o0).2.p) {q : Nat} (hq : q = 0 ∨ q ∈ ps) (hb : q ≤ 131072) :
    LinkR X0 en ps i (k + 1) (X.set (begs 1 ls i + 3 + k) q) (ls.set i (begs 1 ls i, { (ls.getD i o0).2 with ps := (ls.getD i o0).2.ps.set k q })) := by
  have ha := h.laid.at i hi
  have hok : (ls.getD i o0).2.Ok := ha.ok
  obtain ⟨t1, t2, t3, t4⟩ := Ob.took_eq hok
  have hA := ha.setPtr hk hb
  obtain ⟨_, _, _, hend⟩ := Lie.at h.laid.lie i hi
  have hend : begs 1 ls i + (ls.getD i o0).2.took ≤ en := hend
  have hbeg : 1 ≤ begs 1 ls i := begs_ge _ _ _
  have hsz : (ls.getD i o0).2.size = 3 + (ls.getD i o0).2.p + (ls.getD i o0).2.d := rfl
  refine ⟨by rw [List.length_set, h.len], Laid.upd (by simp) h.laid hi hA rfl (fun j hj => ?_), by rw [plc_set h.laid hi]; exact h.plc, fun j hj => ?_, ?_, fun j hj => ?_⟩
  · rw [getD_set, if_neg]
    have : (⟨(ls.getD i o0).2.p, (ls.getD i o0).2.d, (ls.getD i o0).2.wk, (ls.getD i o0).2.fn, (ls.getD i o0).2.fr, (ls.getD i o0).2.snd, (ls.getD i o0).2.ser, (ls.getD i o0).2.ps.set k q, (ls.getD i o0).2.ns⟩ : Ob).took = (ls.getD i o0).2.took := rfl
    rw [this] at hj
    omega
  · rw [List.getD, List.getElem?_set_ne (by omega)]; exact h.lk j hj
  · intro m h1 h2
    have e1 : ∀ y, (ls.set i y).getD i o0 = y := fun y => by simp [List.getD, hi]
    rw [e1] at h2 ⊢
    simp only at h2 ⊢
    by_cases e : m = k
    · subst e
      rw [getD_set, if_pos ⟨rfl, by rw [hok.lp]; exact hk⟩]
      exact hq
    · rw [getD_set, if_neg (by omega)]
      exact h.now m (by omega) h2
  · rw [getD_set, if_neg (by omega)]
    exact h.out j hj


def LinkPost (w : World) (b c : Nat) (X0 : List Nat) (en : Nat) (ps : List Nat) (e : Ending) (w' : World) : Prop :=
  e = .returned (.tuple #[]) ∧ ∃ X ls, Ar w' b c X ∧ LinkR X0 en ps ps.length 0 X ls ∧ Fr (fun k => k = c) w w'
def LnkI (w : World) (b c : Nat) (X0 : List Nat) (en : Nat) (ps : List Nat) (i k : Nat) (wr : World) : Prop :=
  ∃ X ls, Ar wr b c X ∧ LinkR X0 en ps i k X ls ∧ Fr (fun k => k = c) w wr

set_option maxRecDepth 100000 in
set_option maxHeartbeats 4000000 in
theorem link_yes {w0 w : World} {b c : Nat} {X0 : List Nat} (h : Ar w b c X0) (hw : Calm w0 w) (hc0 : w0.heap.size ≤ c) (v : Value) (l : List Raw8) (hr : RowK w0 v 5 (l.map Raw8.cells)) (hl : ∀ o ∈ l, o.Ok w0)
    {base : Nat} {wv : Value} {ps : List Nat} (hwv : ORow w base wv (nI ps)) (hcb : c < base) {en : Nat} {ls : List (Nat × Ob)} (hL : Laid X0 1 en ls) (hpl : plc ls = ps) (hn : ls.length ≤ l.length) (h8 : ls.length ≤ 8) (hps : ∀ x ∈ ps, x ≤ 131072) :
    Calls Try.prog 39 #[arV b, v, wv] w (LinkPost w b c X0 en ps) := by
  obtain ⟨sa, cap, rfl, hcells⟩ := hr.cells
  have hpn : ps.length = ls.length := by rw [← hpl]; simp
  have hI0 : LnkI w b c X0 en ps 0 0 w := ⟨X0, ls, h, ⟨rfl, hL, hpl, fun j hj => by omega, fun m hm => by omega, fun _ _ => rfl⟩, Fr.refl _ _⟩
  obtain ⟨wa, wc, rfl⟩ := hwv.sliceN (n := ps.length) (by simp)
  obtain ⟨n, hn0⟩ : ∃ n, ps.length = n := ⟨_, rfl⟩
  have hnl : n ≤ l.length := by omega
  have hn8 : n ≤ 8 := by omega
  have hcl : c < w.heap.size := by obtain ⟨_, ⟨t, ht⟩, _⟩ := h; exact (Array.getElem?_eq_some_iff.1 ht).1
  rw [hn0] at hwv ⊢
  replace hcells := hid hcells
  replace hr := hid hr
  replace hl := hid hl
  replace hwv := hid hwv
  replace hps := hid hps
  replace hn0 := hid hn0
  have hw0 := hw.size
  clear h hL hpl hn h8 hpn
  replace hw := hid hw
  go_enter Try.func39, Try.ntmps39
  go_wp2_with fail
  go_loopw [6] (fun i wr => ∃ k : Nat, k ≤ n ∧ i = .int .i64 k ∧ LnkI w b c X0 en ps k 0 wr) (fun i _ => n - (intOf i).toNat)
  case atStart => exact ⟨0, Nat.zero_le _, rfl, hI0⟩
  case round =>
    clear hI0
    obtain ⟨i, hi, rfl, hI⟩ := hrel
    rcases Nat.lt_or_ge i n with hlt | hge
    · have ho : l[i]? = some l[i] := by simp [show i < l.length by omega]
      obtain ⟨bb, off, rfl, hc⟩ := hcells.out i _ ho
      obtain ⟨O1, O2, O3, O4, O5, O6⟩ := hl.out _ (List.getElem_mem (show i < l.length by omega))
      have hbb : bb < w0.heap.size := World.block_lt_of_cell? w0 _ (hc 0 _ rfl)
      generalize l[i] = r at *
      obtain ⟨s0, s1, s2, F, f, fr⟩ := r
      obtain ⟨fa, fc, hFv, -⟩ := Row.loop O4
      dsimp only at hFv O4 O5 O6
      subst hFv
      replace O4 := hid O4
      replace O5 := hid O5
      replace hc := hid hc
      replace ho := hid ho
      clear O1 O2 O3
      go_wp2_with fail
      go_loopw [7] (fun j wr => ∃ k : Nat, k ≤ 8 ∧ j = .int .i64 k ∧ LnkI w b c X0 en ps i k wr) (fun j _ => 8 - (intOf j).toNat)
      case atStart => exact ⟨0, Nat.zero_le _, rfl, hI⟩
      case round =>
        clear hI
        obtain ⟨k, hk, rfl, X, ls, ar, lk, kr⟩ := hrel
        rcases Nat.lt_or_ge k 8 with hlt2 | hge2
        · have hpn : ls.length = ps.length := by rw [← lk.plc]; simp
          have hil : i < ls.length := by rw [hpn, hn0.out]; exact hlt
          have z0 := kr.cellAt (hw.out.cellAt (hc.out 0 _ rfl) id) (show ¬ bb = c by omega)
          have z1 := kr.cellAt (hw.out.cellAt (hc.out 1 _ rfl) id) (show ¬ bb = c by omega)
          have z2 := kr.cellAt (hw.out.cellAt (hc.out 2 _ rfl) id) (show ¬ bb = c by omega)
          have z3 := kr.cellAt (hw.out.cellAt (hc.out 3 _ rfl) id) (show ¬ bb = c by omega)
          have z4 := kr.cellAt (hw.out.cellAt (hc.out 4 _ rfl) id) (show ¬ bb = c by omega)
          dsimp only at z0 z1 z2 z3 z4
          rw [Nat.add_zero] at z0
          have hwr := hwv.out.frB kr (fun b hb => by have := (hwv.out.lt hb).1; omega)
          obtain ⟨g, gc, hv, hgb, hg0, _⟩ := hwr.get (k := i) (by simp; rw [hn0.out]; exact hlt)
          injection hv with hv1 hv2 hv3
          subst hv1
          have hpi : ps.getD i 0 = begs 1 ls i := by
            have := (Lie.at lk.laid.lie i hil).1
            rw [← lk.plc]
            simpa [plc, List.getD, hil] using this
          rw [show (nI ps).getD i 0 = ((begs 1 ls i : Nat) : Int) by rw [← hpi]; simp [List.getD, show i < ps.length by omega]] at hg0
          have hF : Row wr (.slice fa f.length fc) (iVs f) := by
            obtain ⟨a, cap, hv, hx⟩ := O4.out
            refine ⟨a, cap, hv, ?_⟩
            rcases hx with hx | ⟨b', o', ha, hcx⟩
            · exact .inl hx
            · exact .inr ⟨b', o', ha, fun j hj => by
                have hbl := World.block_lt_of_cell? w0 _ (hcx j hj)
                exact kr.cellAt (hw.out.cellAt (hcx j hj) id) (show ¬ b' = c by dsimp only at hbl; omega)⟩
          have hto : Hid (∀ x : Later wr, Calls Try.prog 69 #[.agg #[.int .i64 s0, .int .i64 s1, .int .i64 s2, .slice fa f.length fc, .bool fr], .int .i64 k, .slice (some ⟨g, 0, none⟩) n wc] x.w fun e w' => e = .returned (.int .i64 (toQ f k ps)) ∧ Calm x.w w') := (fun (x : Later wr) => to09_yes (s0 := s0) (s1 := s1) (s2 := s2) (fr := fr) (hF.calm x.calm) O5.out O6 (hwr.calm x.calm).row (by rw [hn0.out]; omega) k hlt2)
          have hq := toQ_or f k ps
          have hqb : toQ f k ps ≤ 131072 := by
            rcases hq with hq | hq
            · omega
            · exact hps.out _ hq
          generalize toQ f k ps = q at *
          have g1 : (k : Int) < 8 := by omega
          have hA := lk.laid.at i hil
          have y0 : ∀ x : Later wr, x.w.cell? ⟨bb, off + i * 5, none⟩ = some (.int .i64 s0) := fun x => x.cell z0
          have y1 : ∀ x : Later wr, x.w.cell? ⟨bb, off + i * 5 + 1, none⟩ = some (.int .i64 s1) := fun x => x.cell z1
          have y2 : ∀ x : Later wr, x.w.cell? ⟨bb, off + i * 5 + 2, none⟩ = some (.int .i64 s2) := fun x => x.cell z2
          have y3 : ∀ x : Later wr, x.w.cell? ⟨bb, off + i * 5 + 3, none⟩ = some (.slice fa f.length fc) := fun x => x.cell z3
          have y4 : ∀ x : Later wr, x.w.cell? ⟨bb, off + i * 5 + 4, none⟩ = some (.bool fr) := fun x => x.cell z4
          have y5 : ∀ x : Later wr, x.w.cell? ⟨g, i, none⟩ = some (.int .i64 (begs 1 ls i : Nat)) := fun x => x.cell hg0
          have hwl : Hid (Row wr (.slice (some ⟨g, 0, none⟩) n wc) (iVs (nI ps))) := hwr.row
          clear z0 z1 z2 z3 z4 hv2 hv3 hpi hF hwr hg0
          go_wp2_with fail
          refine wp_region_calm_tail 13 (by kernel_rfl) (by kernel_rfl) ?_
          simp only [List.take_succ_cons, List.take_zero, List.drop_succ_cons, List.drop_zero]
          repeat (go_big_quiet_step ((go_at_call 69; exact Calls.calm_of (hto.out _))))
          refine wpQuiet_nil ?_
          intro w2 hw'
          have c2 := Later.out hw'
          clear hw' y0 y1 y2 y3 y4 y5 hto
          replace ar := ar.calm c2
          have k2 : Fr (fun j => j = c) w w2 := kr.trans c2.any
          by_cases hp : k < (ls.getD i o0).2.p
          · have hlk := hid (lk.yes hil hp hq hqb)
            have hS := hid (at_setptr ar hA hp hqb)
            clear lk hp hq hA
            go_wp2_with fail
            refine (hS.out).mono ?_
            rintro e w3 ⟨rfl, ar3, f3⟩
            replace ar3 := hid ar3
            replace k2 := k2.trans f3
            clear f3 hS ar
            go_wp2
            go_roundw
            case rel => exact ⟨k + 1, by omega, by go_num, _, _, ar3.out, hlk.out, k2⟩
            case measure => simp [intOf]; omega
          · have hlk := hid (lk.no (by omega))
            have hS := hid (at_setptr_no ar hA (i := (k : Int)) (v := (q : Int)) (.inr (Int.ofNat_le.2 (Nat.le_of_not_lt hp))))
            clear lk hp hq hA
            go_wp2_with fail
            refine (hS.out).mono ?_
            rintro e w3 ⟨rfl, f3⟩
            replace ar := hid (ar.calm f3)
            replace k2 : Fr (fun j => j = c) w w3 := k2.trans f3.any
            clear f3 hS
            go_wp2
            go_roundw
            case rel => exact ⟨k + 1, by omega, by go_num, _, _, ar.out, hlk.out, k2⟩
            case measure => simp [intOf]; omega
        · obtain rfl : k = 8 := by omega
          have hI : LnkI w b c X0 en ps (i + 1) 0 wr := ⟨_, _, ar, lk.next, kr⟩
          have g1 : ¬ ((8 : Int) < 8) := by omega
          clear ar lk kr hge2 hk
          go_wp2
          go_roundw
          case rel => exact ⟨i + 1, by omega, by go_num, hI⟩
          case measure => simp [intOf]; omega
    · obtain rfl : i = n := by omega
      obtain ⟨X, ls, ar, lk, kr⟩ := hI
      rw [← hn0.out] at lk
      replace ar := hid ar
      replace lk := hid lk
      go_wp2
      exact bodyPost_end (by simp [results, Try.f39, go_sem]) rfl ⟨rfl, X, ls, ar.out, lk.out, kr⟩

end Go.Proofs.Ytcacbbfeenebbaa
