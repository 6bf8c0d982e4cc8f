/- What Does does: a pointer is told (of nobody, or of a weak object). -/
import Derived.Test.YtiomemdmhcdpbaaPDoes1
set_option linter.unusedSimpArgs false
set_option linter.unusedVariables false
namespace Go.Proofs.Ytiomemdmhcdpbaa
open Go.RowKit Go.Shelf

theorem hptr_still {w : World} {B : HB} {s : HS} {X : List Nat} (h : HAt w B s X) (ho : s.old = []) {i a : Nat} {o : Ob} (c : CurAt s i a o) {k : Nat} (hk : k < o.p) (hq : Place s (o.ps.getD k 0)) :
    Calls Try.prog 26 #[hpV B, .int .i64 a, .int .i64 k] w fun e w' => e = .returned (.tuple #[.int .i64 (o.ps.getD k 0 : Nat), .int .i64 0]) ∧ ∃ B' X', HAt w' B' s X' ∧ HKeep w B w' B' := by
  refine (hptr_yes h c hk hq).mono ?_
  rintro e w' ⟨s', q, g, rfl, B', X', hA, hK⟩
  obtain ⟨rfl, rfl⟩ := g.stay_inv (by rw [ho]; simp)
  have e1 : o.setp true k (o.ps.getD k 0) = o := by
    unfold Ob.setp
    simp only [cond_true, Int.toNat_natCast]
    have : o.ps.set k (o.ps.getD k 0) = o.ps := by
      apply List.ext_getElem (by simp)
      intro j h1 h2
      rw [List.getElem_set]
      split
      · rename_i e; subst e; simp [List.getD, h2]
      · rfl
    rw [this]
  rw [e1, upd_same c] at hA
  exact ⟨rfl, B', X', hA, hK⟩

section
variable {w : World} {b0 : Nat → Prop} {T : Nat} {BA BB : HB} {A B : HS} {XA XB R S : List Nat} {σ : Nat → Nat}

set_option maxRecDepth 4000 in
set_option maxHeartbeats 16000000 in
theorem does_ptr_zero_3 (h : TwAt w b0 T BA BB A B XA XB R S) (hp : Pair σ A B R S 4) (o : Op10) (hok : o.Ok) (hK : pk o.kd 13 = 3) (hz : S.getD (pk o.b 4).toNat 0 = 0) :
    Calls Try.prog 29 #[.pointer (some ⟨T, 0, none⟩), opV o] w (DoesPost w b0 T BA.hp BB.hp σ A B (pk o.kd 13)) := by
  obtain ⟨K, hKe⟩ : ∃ K, pk o.kd 13 = K := ⟨_, rfl⟩
  rw [hKe] at hK ⊢
  replace hz := hid hz
  obtain ⟨okd, oka, okb, oki, okn, ok0, ok1, ok2⟩ := hok
  have hta := h.cellA
  have htb := h.cellB
  have hl : Hid (R.length = 4 ∧ S.length = 4) := ⟨hp.rg.lr, hp.rg.ls⟩
  have hTl := h.cs.lt (by simp [twC])
  have H := hid h
  have HP := hid hp
  have pka := pk_range o.a (n := 4) (by omega)
  have pkb := pk_range o.b (n := 4) (by omega)
  have pki := pk_range o.i (n := 9) (by omega)
  have qa := hid (fun W => pick10 o.a 4 W oka (by omega))
  have qb := hid (fun W => pick10 o.b 4 W okb (by omega))
  have qi := hid (fun W => pick10 o.i 9 W oki (by omega))
  have qk := hid (fun W => pick10 o.kd 13 W okd (by omega))
  obtain ⟨ia, hia⟩ : ∃ k : Nat, pk o.a 4 = k := ⟨(pk o.a 4).toNat, by omega⟩
  obtain ⟨ib, hib⟩ : ∃ k : Nat, pk o.b 4 = k := ⟨(pk o.b 4).toNat, by omega⟩
  obtain ⟨ii, hii⟩ : ∃ k : Nat, pk o.i 9 = k := ⟨(pk o.i 9).toNat, by omega⟩
  rw [hia] at qa pka; rw [hib] at qb pkb; rw [hii] at qi pki
  have hia4 : ia < 4 := by omega
  have hib4 : ib < 4 := by omega
  have hii9 : ii < 9 := by omega
  have hne1 : T ≠ w.heap.size := by omega
  have hne2 : w.heap.size ≠ T := by omega
  have hibe : (pk o.b 4).toNat = ib := by rw [hib]; rfl
  have hiie : (pk o.i 9).toNat = ii := by rw [hii]; rfl
  clear pka pkb pki hia hib hii h hp
  go_enter Try.func29, Try.ntmps29
  go_wp2_with fail
  have k1 : Calm w (w.alloc (.cells #[.int .i64 o.kd, .int .i64 o.a, .int .i64 o.b, .int .i64 o.i, .int .i64 o.n, .int .i64 o.s0, .int .i64 o.s1, .int .i64 o.s2] 55)) := (Fr.refl _ _).alloc _
  have o3 := OwnL.new w [.int .i64 o.kd, .int .i64 o.a, .int .i64 o.b, .int .i64 o.i, .int .i64 o.n, .int .i64 o.s0, .int .i64 o.s1, .int .i64 o.s2] 55
  refine (qa.out _).mono ?_
  rintro e w1 ⟨rfl, rfl⟩
  go_wp2_with fail
  refine (qb.out _).mono ?_
  rintro e w1 ⟨rfl, rfl⟩
  go_wp2_with fail
  refine (qi.out _).mono ?_
  rintro e w1 ⟨rfl, rfl⟩
  go_wp2_with fail
  refine (qk.out _).mono ?_
  rintro e w1 ⟨rfl, rfl⟩
  replace hta := k1.cellAt hta id
  replace htb := k1.cellAt htb id
  replace H := hid (H.out.calm k1)
  generalize World.alloc w _ = w1 at *
  replace o3 := hid o3
  replace k1 := hid k1
  clear qa qb qi qk
  rw [hKe]
  clear hKe
  have hTs : T < w1.heap.size := H.out.cs.lt (by simp [twC])
  have ne3 : T ≠ w1.heap.size := by omega
  have hib5 : ((ib : Nat) : Int) < 4 := by omega
  have hia5 : ((ia : Nat) : Int) < 4 := by omega
  have ne4 : w1.heap.size ≠ T := by omega
  rw [hibe] at hz
  have hk0 : True := trivial
  subst hK
  go_wp2_with fail
  have hsp := hid (fun W (cw : Calm w1 W) => hshape_no (H.out.hb.calm cw) (a := ((0 : Nat) : Int)) ⟨by decide, by decide⟩ (fun e => by
    obtain ⟨i, o, c⟩ := CurAt.of_mem (mem_nI.1 e)
    have := HP.out.tw.wb.posC _ c.mem'
    simp only at this; omega))
  have yS := (H.out.cellS hl.out hib4).1
  rw [hz.out] at yS
  obtain ⟨SB, hSB⟩ : ∃ SB, SB = (0 : Nat) := ⟨_, rfl⟩
  rw [← hSB] at yS hsp
  clear hSB
  go_cut [13, 14, 15] (fun s13 s14 s15 wx => ∃ g, s13 = .pointer (some ⟨g, 0, none⟩) ∧ s14 = .bool false ∧ s15 = .int .i64 70 ∧ OwnL wx g [.int .i64 0, .int .i64 0, .bool false, .bool false] ∧ Calm w1 wx ∧ w1.heap.size ≤ g)
  case first =>
    go_region_held3 (fun w' => w'.cell? ⟨T, 1, none⟩ = some (hpV BB) ∧ w'.cell? ⟨T, 6 + ib, none⟩ = some (.int .i64 (SB : Nat))) (go_keep)
      (first | (go_at_call 40; refine (hsp.out _ (by first | exact Fr.refl _ _ | exact (Fr.refl _ _).drew | exact ((Fr.refl _ _).drew).alloc _ | exact ((Fr.refl _ _).alloc _).drew)).mono ?_; rintro e w5 ⟨rfl, c5⟩; have ka : Calm w1 w5 := Fr.trans (by first | exact Fr.refl _ _ | exact (Fr.refl _ _).drew | exact ((Fr.refl _ _).drew).alloc _ | exact ((Fr.refl _ _).alloc _).drew) c5; have q0 := ka.cellAt htb id; have q12 := ka.cellAt yS id; try (have ow : OwnL w5 w1.heap.size [.int .i64 0, .int .i64 0, .bool false, .bool false] := (by first | exact (OwnL.at _ [.int .i64 0, .int .i64 0, .bool false, .bool false] 32 w1.heap.size rfl).calm c5 | exact ((OwnL.at _ [.int .i64 0, .int .i64 0, .bool false, .bool false] 32 w1.heap.size rfl).calm ((Fr.refl _ _).drew)).calm c5); have m0 := (ow 0 _ rfl).1; have m1 := (ow 1 _ rfl).1; have m2 := (ow 2 _ rfl).1; have m3 := (ow 3 _ rfl).1; have n0 := (ow 0 _ rfl).2; have n1 := (ow 1 _ rfl).2; have n2 := (ow 2 _ rfl).2; have n3 := (ow 3 _ rfl).2)))
    · go_wp2_with fail
      go_meet
      exact ⟨w5.heap.size, rfl, rfl, rfl, OwnL.new w5 [.int .i64 0, .int .i64 0, .bool false, .bool false] _, ka.alloc _, ka.size⟩
    · go_wp2_with fail
      go_meet
      have o4 := ow.set4 (.int .i64 0) (.int .i64 0) (.bool false) (.bool false)
      exact ⟨w1.heap.size, rfl, rfl, rfl, o4.1, ka.join o4.2 (fun j hj (e : j = w1.heap.size) => absurd hj (by omega)), Nat.le_refl _⟩
  case rest =>
    obtain ⟨g, rfl, rfl, rfl, og, cx, hg⟩ := hcut
    have hD := hid (DoesOk.same (K := 3) (k1.out.trans cx) (H.out.calm cx) HP.out)
    go_wp2
    go_ret
    exact ⟨rfl, hD.out⟩

set_option maxRecDepth 4000 in
set_option maxHeartbeats 16000000 in
theorem does_ptr_weak_3 (h : TwAt w b0 T BA BB A B XA XB R S) (hp : Pair σ A B R S 4) (o : Op10) (hok : o.Ok) (hK : pk o.kd 13 = 3) {i1 k1' RA SB : Nat} {o1 u : Ob} (hib0 : (pk o.b 4).toNat < 4) (hRA : R.getD (pk o.b 4).toNat 0 = RA) (hSB : S.getD (pk o.b 4).toNat 0 = SB) (dA : CurAt A i1 RA o1) (dB : CurAt B k1' SB u) (lk : Alk o1 u) (es : o1.ser = σ u.ser)
    (hps : ∀ m, m < o1.p → ∃ n, Ref B (u.ps.getD m 0) n ∧ (Ref A (o1.ps.getD m 0) (σ n) ∨ (o1.wk = true ∧ o1.ps.getD m 0 = 0 ∧ ∀ x v, Live A x v → v.ser ≠ σ n))) (hw : u.wk = true) :
    Calls Try.prog 29 #[.pointer (some ⟨T, 0, none⟩), opV o] w (DoesPost w b0 T BA.hp BB.hp σ A B (pk o.kd 13)) := by
  obtain ⟨K, hKe⟩ : ∃ K, pk o.kd 13 = K := ⟨_, rfl⟩
  rw [hKe] at hK ⊢
  replace hw := hid hw
  replace dA := hid dA
  replace dB := hid dB
  replace hps := hid hps
  replace lk := hid lk
  replace es := hid es
  replace hSB := hid hSB
  replace hRA := hid hRA
  obtain ⟨okd, oka, okb, oki, okn, ok0, ok1, ok2⟩ := hok
  have hta := h.cellA
  have htb := h.cellB
  have hl : Hid (R.length = 4 ∧ S.length = 4) := ⟨hp.rg.lr, hp.rg.ls⟩
  have hTl := h.cs.lt (by simp [twC])
  have H := hid h
  have HP := hid hp
  have pka := pk_range o.a (n := 4) (by omega)
  have pkb := pk_range o.b (n := 4) (by omega)
  have pki := pk_range o.i (n := 9) (by omega)
  have qa := hid (fun W => pick10 o.a 4 W oka (by omega))
  have qb := hid (fun W => pick10 o.b 4 W okb (by omega))
  have qi := hid (fun W => pick10 o.i 9 W oki (by omega))
  have qk := hid (fun W => pick10 o.kd 13 W okd (by omega))
  obtain ⟨ia, hia⟩ : ∃ k : Nat, pk o.a 4 = k := ⟨(pk o.a 4).toNat, by omega⟩
  obtain ⟨ib, hib⟩ : ∃ k : Nat, pk o.b 4 = k := ⟨(pk o.b 4).toNat, by omega⟩
  obtain ⟨ii, hii⟩ : ∃ k : Nat, pk o.i 9 = k := ⟨(pk o.i 9).toNat, by omega⟩
  rw [hia] at qa pka; rw [hib] at qb pkb; rw [hii] at qi pki
  have hia4 : ia < 4 := by omega
  have hib4 : ib < 4 := by omega
  have hii9 : ii < 9 := by omega
  have hne1 : T ≠ w.heap.size := by omega
  have hne2 : w.heap.size ≠ T := by omega
  have hibe : (pk o.b 4).toNat = ib := by rw [hib]; rfl
  have hiie : (pk o.i 9).toNat = ii := by rw [hii]; rfl
  clear pka pkb pki hia hib hii h hp
  go_enter Try.func29, Try.ntmps29
  go_wp2_with fail
  have k1 : Calm w (w.alloc (.cells #[.int .i64 o.kd, .int .i64 o.a, .int .i64 o.b, .int .i64 o.i, .int .i64 o.n, .int .i64 o.s0, .int .i64 o.s1, .int .i64 o.s2] 55)) := (Fr.refl _ _).alloc _
  have o3 := OwnL.new w [.int .i64 o.kd, .int .i64 o.a, .int .i64 o.b, .int .i64 o.i, .int .i64 o.n, .int .i64 o.s0, .int .i64 o.s1, .int .i64 o.s2] 55
  refine (qa.out _).mono ?_
  rintro e w1 ⟨rfl, rfl⟩
  go_wp2_with fail
  refine (qb.out _).mono ?_
  rintro e w1 ⟨rfl, rfl⟩
  go_wp2_with fail
  refine (qi.out _).mono ?_
  rintro e w1 ⟨rfl, rfl⟩
  go_wp2_with fail
  refine (qk.out _).mono ?_
  rintro e w1 ⟨rfl, rfl⟩
  replace hta := k1.cellAt hta id
  replace htb := k1.cellAt htb id
  replace H := hid (H.out.calm k1)
  generalize World.alloc w _ = w1 at *
  replace o3 := hid o3
  replace k1 := hid k1
  clear qa qb qi qk
  rw [hKe]
  clear hKe
  have hTs : T < w1.heap.size := H.out.cs.lt (by simp [twC])
  have ne3 : T ≠ w1.heap.size := by omega
  have hib5 : ((ib : Nat) : Int) < 4 := by omega
  have hia5 : ((ia : Nat) : Int) < 4 := by omega
  have ne4 : w1.heap.size ≠ T := by omega
  rw [hibe] at hRA hSB
  have hk0 : True := trivial
  subst hK
  go_wp2_with fail
  have hsp := hid (fun W (cw : Calm w1 W) => hshape_yes (H.out.hb.calm cw) dB.out)
  have yS := (H.out.cellS hl.out hib4).1
  have yR := (H.out.cellR hl.out hib4).1
  rw [hSB.out] at yS
  rw [hRA.out] at yR
  go_cut [13, 14, 15] (fun s13 s14 s15 wx => ∃ g, s13 = .pointer (some ⟨g, 0, none⟩) ∧ s14 = .bool u.fr ∧ s15 = .int .i64 0 ∧ OwnL wx g [.int .i64 u.p, .int .i64 u.d, .bool u.wk, .bool u.fn] ∧ Calm w1 wx ∧ w1.heap.size ≤ g)
  case first =>
    go_region_held3 (fun w' => w'.cell? ⟨T, 1, none⟩ = some (hpV BB) ∧ w'.cell? ⟨T, 6 + ib, none⟩ = some (.int .i64 (SB : Nat))) (go_keep)
      (first | (go_at_call 40; refine (hsp.out _ (by first | exact Fr.refl _ _ | exact (Fr.refl _ _).drew | exact ((Fr.refl _ _).drew).alloc _ | exact ((Fr.refl _ _).alloc _).drew)).mono ?_; rintro e w5 ⟨rfl, c5⟩; have ka : Calm w1 w5 := Fr.trans (by first | exact Fr.refl _ _ | exact (Fr.refl _ _).drew | exact ((Fr.refl _ _).drew).alloc _ | exact ((Fr.refl _ _).alloc _).drew) c5; have q0 := ka.cellAt htb id; have q12 := ka.cellAt yS id; try (have ow : OwnL w5 w1.heap.size [.int .i64 0, .int .i64 0, .bool false, .bool false] := (by first | exact (OwnL.at _ [.int .i64 0, .int .i64 0, .bool false, .bool false] 32 w1.heap.size rfl).calm c5 | exact ((OwnL.at _ [.int .i64 0, .int .i64 0, .bool false, .bool false] 32 w1.heap.size rfl).calm ((Fr.refl _ _).drew)).calm c5); have m0 := (ow 0 _ rfl).1; have m1 := (ow 1 _ rfl).1; have m2 := (ow 2 _ rfl).1; have m3 := (ow 3 _ rfl).1; have n0 := (ow 0 _ rfl).2; have n1 := (ow 1 _ rfl).2; have n2 := (ow 2 _ rfl).2; have n3 := (ow 3 _ rfl).2)))
    · go_wp2_with fail
      go_meet
      exact ⟨w5.heap.size, rfl, rfl, rfl, OwnL.new w5 [.int .i64 u.p, .int .i64 u.d, .bool u.wk, .bool u.fn] _, ka.alloc _, ka.size⟩
    · go_wp2_with fail
      go_meet
      have o4 := ow.set4 (.int .i64 u.p) (.int .i64 u.d) (.bool u.wk) (.bool u.fn)
      exact ⟨w1.heap.size, rfl, rfl, rfl, o4.1, ka.join o4.2 (fun j hj (e : j = w1.heap.size) => absurd hj (by omega)), Nat.le_refl _⟩
  case rest =>
    obtain ⟨g, rfl, rfl, rfl, og, cx, hg⟩ := hcut
    rw [hw.out] at og
    have x2 := (og 2 _ rfl).1
    have hD := hid (DoesOk.same (K := 3) (k1.out.trans cx) (H.out.calm cx) HP.out)
    go_wp2
    go_ret
    exact ⟨rfl, hD.out⟩

set_option maxRecDepth 4000 in
set_option maxHeartbeats 16000000 in
theorem does_ptr_zero_4 (h : TwAt w b0 T BA BB A B XA XB R S) (hp : Pair σ A B R S 4) (o : Op10) (hok : o.Ok) (hK : pk o.kd 13 = 4) (hz : S.getD (pk o.b 4).toNat 0 = 0) :
    Calls Try.prog 29 #[.pointer (some ⟨T, 0, none⟩), opV o] w (DoesPost w b0 T BA.hp BB.hp σ A B (pk o.kd 13)) := by
  obtain ⟨K, hKe⟩ : ∃ K, pk o.kd 13 = K := ⟨_, rfl⟩
  rw [hKe] at hK ⊢
  replace hz := hid hz
  obtain ⟨okd, oka, okb, oki, okn, ok0, ok1, ok2⟩ := hok
  have hta := h.cellA
  have htb := h.cellB
  have hl : Hid (R.length = 4 ∧ S.length = 4) := ⟨hp.rg.lr, hp.rg.ls⟩
  have hTl := h.cs.lt (by simp [twC])
  have H := hid h
  have HP := hid hp
  have pka := pk_range o.a (n := 4) (by omega)
  have pkb := pk_range o.b (n := 4) (by omega)
  have pki := pk_range o.i (n := 9) (by omega)
  have qa := hid (fun W => pick10 o.a 4 W oka (by omega))
  have qb := hid (fun W => pick10 o.b 4 W okb (by omega))
  have qi := hid (fun W => pick10 o.i 9 W oki (by omega))
  have qk := hid (fun W => pick10 o.kd 13 W okd (by omega))
  obtain ⟨ia, hia⟩ : ∃ k : Nat, pk o.a 4 = k := ⟨(pk o.a 4).toNat, by omega⟩
  obtain ⟨ib, hib⟩ : ∃ k : Nat, pk o.b 4 = k := ⟨(pk o.b 4).toNat, by omega⟩
  obtain ⟨ii, hii⟩ : ∃ k : Nat, pk o.i 9 = k := ⟨(pk o.i 9).toNat, by omega⟩
  rw [hia] at qa pka; rw [hib] at qb pkb; rw [hii] at qi pki
  have hia4 : ia < 4 := by omega
  have hib4 : ib < 4 := by omega
  have hii9 : ii < 9 := by omega
  have hne1 : T ≠ w.heap.size := by omega
  have hne2 : w.heap.size ≠ T := by omega
  have hibe : (pk o.b 4).toNat = ib := by rw [hib]; rfl
  have hiie : (pk o.i 9).toNat = ii := by rw [hii]; rfl
  clear pka pkb pki hia hib hii h hp
  go_enter Try.func29, Try.ntmps29
  go_wp2_with fail
  have k1 : Calm w (w.alloc (.cells #[.int .i64 o.kd, .int .i64 o.a, .int .i64 o.b, .int .i64 o.i, .int .i64 o.n, .int .i64 o.s0, .int .i64 o.s1, .int .i64 o.s2] 55)) := (Fr.refl _ _).alloc _
  have o3 := OwnL.new w [.int .i64 o.kd, .int .i64 o.a, .int .i64 o.b, .int .i64 o.i, .int .i64 o.n, .int .i64 o.s0, .int .i64 o.s1, .int .i64 o.s2] 55
  refine (qa.out _).mono ?_
  rintro e w1 ⟨rfl, rfl⟩
  go_wp2_with fail
  refine (qb.out _).mono ?_
  rintro e w1 ⟨rfl, rfl⟩
  go_wp2_with fail
  refine (qi.out _).mono ?_
  rintro e w1 ⟨rfl, rfl⟩
  go_wp2_with fail
  refine (qk.out _).mono ?_
  rintro e w1 ⟨rfl, rfl⟩
  replace hta := k1.cellAt hta id
  replace htb := k1.cellAt htb id
  replace H := hid (H.out.calm k1)
  generalize World.alloc w _ = w1 at *
  replace o3 := hid o3
  replace k1 := hid k1
  clear qa qb qi qk
  rw [hKe]
  clear hKe
  have hTs : T < w1.heap.size := H.out.cs.lt (by simp [twC])
  have ne3 : T ≠ w1.heap.size := by omega
  have hib5 : ((ib : Nat) : Int) < 4 := by omega
  have hia5 : ((ia : Nat) : Int) < 4 := by omega
  have ne4 : w1.heap.size ≠ T := by omega
  rw [hibe] at hz
  have hk0 : True := trivial
  subst hK
  go_wp2_with fail
  have hsp := hid (fun W (cw : Calm w1 W) => hshape_no (H.out.hb.calm cw) (a := ((0 : Nat) : Int)) ⟨by decide, by decide⟩ (fun e => by
    obtain ⟨i, o, c⟩ := CurAt.of_mem (mem_nI.1 e)
    have := HP.out.tw.wb.posC _ c.mem'
    simp only at this; omega))
  have yS := (H.out.cellS hl.out hib4).1
  rw [hz.out] at yS
  obtain ⟨SB, hSB⟩ : ∃ SB, SB = (0 : Nat) := ⟨_, rfl⟩
  rw [← hSB] at yS hsp
  clear hSB
  go_cut [13, 14, 15] (fun s13 s14 s15 wx => ∃ g, s13 = .pointer (some ⟨g, 0, none⟩) ∧ s14 = .bool false ∧ s15 = .int .i64 70 ∧ OwnL wx g [.int .i64 0, .int .i64 0, .bool false, .bool false] ∧ Calm w1 wx ∧ w1.heap.size ≤ g)
  case first =>
    go_region_held3 (fun w' => w'.cell? ⟨T, 1, none⟩ = some (hpV BB) ∧ w'.cell? ⟨T, 6 + ib, none⟩ = some (.int .i64 (SB : Nat))) (go_keep)
      (first | (go_at_call 40; refine (hsp.out _ (by first | exact Fr.refl _ _ | exact (Fr.refl _ _).drew | exact ((Fr.refl _ _).drew).alloc _ | exact ((Fr.refl _ _).alloc _).drew)).mono ?_; rintro e w5 ⟨rfl, c5⟩; have ka : Calm w1 w5 := Fr.trans (by first | exact Fr.refl _ _ | exact (Fr.refl _ _).drew | exact ((Fr.refl _ _).drew).alloc _ | exact ((Fr.refl _ _).alloc _).drew) c5; have q0 := ka.cellAt htb id; have q12 := ka.cellAt yS id; try (have ow : OwnL w5 w1.heap.size [.int .i64 0, .int .i64 0, .bool false, .bool false] := (by first | exact (OwnL.at _ [.int .i64 0, .int .i64 0, .bool false, .bool false] 32 w1.heap.size rfl).calm c5 | exact ((OwnL.at _ [.int .i64 0, .int .i64 0, .bool false, .bool false] 32 w1.heap.size rfl).calm ((Fr.refl _ _).drew)).calm c5); have m0 := (ow 0 _ rfl).1; have m1 := (ow 1 _ rfl).1; have m2 := (ow 2 _ rfl).1; have m3 := (ow 3 _ rfl).1; have n0 := (ow 0 _ rfl).2; have n1 := (ow 1 _ rfl).2; have n2 := (ow 2 _ rfl).2; have n3 := (ow 3 _ rfl).2)))
    · go_wp2_with fail
      go_meet
      exact ⟨w5.heap.size, rfl, rfl, rfl, OwnL.new w5 [.int .i64 0, .int .i64 0, .bool false, .bool false] _, ka.alloc _, ka.size⟩
    · go_wp2_with fail
      go_meet
      have o4 := ow.set4 (.int .i64 0) (.int .i64 0) (.bool false) (.bool false)
      exact ⟨w1.heap.size, rfl, rfl, rfl, o4.1, ka.join o4.2 (fun j hj (e : j = w1.heap.size) => absurd hj (by omega)), Nat.le_refl _⟩
  case rest =>
    obtain ⟨g, rfl, rfl, rfl, og, cx, hg⟩ := hcut
    have hD := hid (DoesOk.same (K := 4) (k1.out.trans cx) (H.out.calm cx) HP.out)
    go_wp2
    go_ret
    exact ⟨rfl, hD.out⟩

set_option maxRecDepth 4000 in
set_option maxHeartbeats 16000000 in
theorem does_ptr_weak_4 (h : TwAt w b0 T BA BB A B XA XB R S) (hp : Pair σ A B R S 4) (o : Op10) (hok : o.Ok) (hK : pk o.kd 13 = 4) {i1 k1' RA SB : Nat} {o1 u : Ob} (hib0 : (pk o.b 4).toNat < 4) (hRA : R.getD (pk o.b 4).toNat 0 = RA) (hSB : S.getD (pk o.b 4).toNat 0 = SB) (dA : CurAt A i1 RA o1) (dB : CurAt B k1' SB u) (lk : Alk o1 u) (es : o1.ser = σ u.ser)
    (hps : ∀ m, m < o1.p → ∃ n, Ref B (u.ps.getD m 0) n ∧ (Ref A (o1.ps.getD m 0) (σ n) ∨ (o1.wk = true ∧ o1.ps.getD m 0 = 0 ∧ ∀ x v, Live A x v → v.ser ≠ σ n))) (hw : u.wk = true) :
    Calls Try.prog 29 #[.pointer (some ⟨T, 0, none⟩), opV o] w (DoesPost w b0 T BA.hp BB.hp σ A B (pk o.kd 13)) := by
  obtain ⟨K, hKe⟩ : ∃ K, pk o.kd 13 = K := ⟨_, rfl⟩
  rw [hKe] at hK ⊢
  replace hw := hid hw
  replace dA := hid dA
  replace dB := hid dB
  replace hps := hid hps
  replace lk := hid lk
  replace es := hid es
  replace hSB := hid hSB
  replace hRA := hid hRA
  obtain ⟨okd, oka, okb, oki, okn, ok0, ok1, ok2⟩ := hok
  have hta := h.cellA
  have htb := h.cellB
  have hl : Hid (R.length = 4 ∧ S.length = 4) := ⟨hp.rg.lr, hp.rg.ls⟩
  have hTl := h.cs.lt (by simp [twC])
  have H := hid h
  have HP := hid hp
  have pka := pk_range o.a (n := 4) (by omega)
  have pkb := pk_range o.b (n := 4) (by omega)
  have pki := pk_range o.i (n := 9) (by omega)
  have qa := hid (fun W => pick10 o.a 4 W oka (by omega))
  have qb := hid (fun W => pick10 o.b 4 W okb (by omega))
  have qi := hid (fun W => pick10 o.i 9 W oki (by omega))
  have qk := hid (fun W => pick10 o.kd 13 W okd (by omega))
  obtain ⟨ia, hia⟩ : ∃ k : Nat, pk o.a 4 = k := ⟨(pk o.a 4).toNat, by omega⟩
  obtain ⟨ib, hib⟩ : ∃ k : Nat, pk o.b 4 = k := ⟨(pk o.b 4).toNat, by omega⟩
  obtain ⟨ii, hii⟩ : ∃ k : Nat, pk o.i 9 = k := ⟨(pk o.i 9).toNat, by omega⟩
  rw [hia] at qa pka; rw [hib] at qb pkb; rw [hii] at qi pki
  have hia4 : ia < 4 := by omega
  have hib4 : ib < 4 := by omega
  have hii9 : ii < 9 := by omega
  have hne1 : T ≠ w.heap.size := by omega
  have hne2 : w.heap.size ≠ T := by omega
  have hibe : (pk o.b 4).toNat = ib := by rw [hib]; rfl
  have hiie : (pk o.i 9).toNat = ii := by rw [hii]; rfl
  clear pka pkb pki hia hib hii h hp
  go_enter Try.func29, Try.ntmps29
  go_wp2_with fail
  have k1 : Calm w (w.alloc (.cells #[.int .i64 o.kd, .int .i64 o.a, .int .i64 o.b, .int .i64 o.i, .int .i64 o.n, .int .i64 o.s0, .int .i64 o.s1, .int .i64 o.s2] 55)) := (Fr.refl _ _).alloc _
  have o3 := OwnL.new w [.int .i64 o.kd, .int .i64 o.a, .int .i64 o.b, .int .i64 o.i, .int .i64 o.n, .int .i64 o.s0, .int .i64 o.s1, .int .i64 o.s2] 55
  refine (qa.out _).mono ?_
  rintro e w1 ⟨rfl, rfl⟩
  go_wp2_with fail
  refine (qb.out _).mono ?_
  rintro e w1 ⟨rfl, rfl⟩
  go_wp2_with fail
  refine (qi.out _).mono ?_
  rintro e w1 ⟨rfl, rfl⟩
  go_wp2_with fail
  refine (qk.out _).mono ?_
  rintro e w1 ⟨rfl, rfl⟩
  replace hta := k1.cellAt hta id
  replace htb := k1.cellAt htb id
  replace H := hid (H.out.calm k1)
  generalize World.alloc w _ = w1 at *
  replace o3 := hid o3
  replace k1 := hid k1
  clear qa qb qi qk
  rw [hKe]
  clear hKe
  have hTs : T < w1.heap.size := H.out.cs.lt (by simp [twC])
  have ne3 : T ≠ w1.heap.size := by omega
  have hib5 : ((ib : Nat) : Int) < 4 := by omega
  have hia5 : ((ia : Nat) : Int) < 4 := by omega
  have ne4 : w1.heap.size ≠ T := by omega
  rw [hibe] at hRA hSB
  have hk0 : True := trivial
  subst hK
  go_wp2_with fail
  have hsp := hid (fun W (cw : Calm w1 W) => hshape_yes (H.out.hb.calm cw) dB.out)
  have yS := (H.out.cellS hl.out hib4).1
  have yR := (H.out.cellR hl.out hib4).1
  rw [hSB.out] at yS
  rw [hRA.out] at yR
  go_cut [13, 14, 15] (fun s13 s14 s15 wx => ∃ g, s13 = .pointer (some ⟨g, 0, none⟩) ∧ s14 = .bool u.fr ∧ s15 = .int .i64 0 ∧ OwnL wx g [.int .i64 u.p, .int .i64 u.d, .bool u.wk, .bool u.fn] ∧ Calm w1 wx ∧ w1.heap.size ≤ g)
  case first =>
    go_region_held3 (fun w' => w'.cell? ⟨T, 1, none⟩ = some (hpV BB) ∧ w'.cell? ⟨T, 6 + ib, none⟩ = some (.int .i64 (SB : Nat))) (go_keep)
      (first | (go_at_call 40; refine (hsp.out _ (by first | exact Fr.refl _ _ | exact (Fr.refl _ _).drew | exact ((Fr.refl _ _).drew).alloc _ | exact ((Fr.refl _ _).alloc _).drew)).mono ?_; rintro e w5 ⟨rfl, c5⟩; have ka : Calm w1 w5 := Fr.trans (by first | exact Fr.refl _ _ | exact (Fr.refl _ _).drew | exact ((Fr.refl _ _).drew).alloc _ | exact ((Fr.refl _ _).alloc _).drew) c5; have q0 := ka.cellAt htb id; have q12 := ka.cellAt yS id; try (have ow : OwnL w5 w1.heap.size [.int .i64 0, .int .i64 0, .bool false, .bool false] := (by first | exact (OwnL.at _ [.int .i64 0, .int .i64 0, .bool false, .bool false] 32 w1.heap.size rfl).calm c5 | exact ((OwnL.at _ [.int .i64 0, .int .i64 0, .bool false, .bool false] 32 w1.heap.size rfl).calm ((Fr.refl _ _).drew)).calm c5); have m0 := (ow 0 _ rfl).1; have m1 := (ow 1 _ rfl).1; have m2 := (ow 2 _ rfl).1; have m3 := (ow 3 _ rfl).1; have n0 := (ow 0 _ rfl).2; have n1 := (ow 1 _ rfl).2; have n2 := (ow 2 _ rfl).2; have n3 := (ow 3 _ rfl).2)))
    · go_wp2_with fail
      go_meet
      exact ⟨w5.heap.size, rfl, rfl, rfl, OwnL.new w5 [.int .i64 u.p, .int .i64 u.d, .bool u.wk, .bool u.fn] _, ka.alloc _, ka.size⟩
    · go_wp2_with fail
      go_meet
      have o4 := ow.set4 (.int .i64 u.p) (.int .i64 u.d) (.bool u.wk) (.bool u.fn)
      exact ⟨w1.heap.size, rfl, rfl, rfl, o4.1, ka.join o4.2 (fun j hj (e : j = w1.heap.size) => absurd hj (by omega)), Nat.le_refl _⟩
  case rest =>
    obtain ⟨g, rfl, rfl, rfl, og, cx, hg⟩ := hcut
    rw [hw.out] at og
    have x2 := (og 2 _ rfl).1
    have hD := hid (DoesOk.same (K := 4) (k1.out.trans cx) (H.out.calm cx) HP.out)
    go_wp2
    go_ret
    exact ⟨rfl, hD.out⟩

end

end Go.Proofs.Ytiomemdmhcdpbaa
