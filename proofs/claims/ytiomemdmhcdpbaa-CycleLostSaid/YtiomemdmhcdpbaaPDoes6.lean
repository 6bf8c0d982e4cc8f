/- What Does does: a pointer is told (of an object that has it). -/
import Derived.Test.YtiomemdmhcdpbaaPDoes4
set_option linter.unusedSimpArgs false
set_option linter.unusedVariables false
namespace Go.Proofs.Ytiomemdmhcdpbaa
open Go.RowKit Go.Shelf

section
variable {w : World} {b0 : Nat → Prop} {T : Nat} {BA BB : HB} {A B : HS} {XA XB R S : List Nat} {σ : Nat → Nat}

set_option maxRecDepth 4000 in
set_option maxHeartbeats 16000000 in
theorem does_ptr_yes_4 (h : TwAt w b0 T BA BB A B XA XB R S) (hp : Pair σ A B R S 4) (o : Op10) (hok : o.Ok) (hK : pk o.kd 13 = 4) {i1 k1' RA SB : Nat} {o1 u : Ob} (hib0 : (pk o.b 4).toNat < 4) (hRA : R.getD (pk o.b 4).toNat 0 = RA) (hSB : S.getD (pk o.b 4).toNat 0 = SB) (dA : CurAt A i1 RA o1) (dB : CurAt B k1' SB u) (lk : Alk o1 u) (es : o1.ser = σ u.ser)
    (hps : ∀ m, m < o1.p → ∃ n, Ref B (u.ps.getD m 0) n ∧ (Ref A (o1.ps.getD m 0) (σ n) ∨ (o1.wk = true ∧ o1.ps.getD m 0 = 0 ∧ ∀ x v, Live A x v → v.ser ≠ σ n))) (hw : u.wk = false) (hf : (pk o.i 9).toNat < o1.p) :
    Calls Try.prog 29 #[.pointer (some ⟨T, 0, none⟩), opV o] w (DoesPost w b0 T BA.hp BB.hp σ A B (pk o.kd 13)) := by
  obtain ⟨K, hKe⟩ : ∃ K, pk o.kd 13 = K := ⟨_, rfl⟩
  rw [hKe] at hK ⊢
  replace hw := hid hw
  replace hf := hid hf
  replace dA := hid dA
  replace dB := hid dB
  replace hps := hid hps
  replace lk := hid lk
  replace es := hid es
  replace hSB := hid hSB
  replace hRA := hid hRA
  obtain ⟨okd, oka, okb, oki, okn, ok0, ok1, ok2⟩ := hok
  have hta := h.cellA
  have htb := h.cellB
  have hl : Hid (R.length = 4 ∧ S.length = 4) := ⟨hp.rg.lr, hp.rg.ls⟩
  have hTl := h.cs.lt (by simp [twC])
  have H := hid h
  have HP := hid hp
  have pka := pk_range o.a (n := 4) (by omega)
  have pkb := pk_range o.b (n := 4) (by omega)
  have pki := pk_range o.i (n := 9) (by omega)
  have qa := hid (fun W => pick10 o.a 4 W oka (by omega))
  have qb := hid (fun W => pick10 o.b 4 W okb (by omega))
  have qi := hid (fun W => pick10 o.i 9 W oki (by omega))
  have qk := hid (fun W => pick10 o.kd 13 W okd (by omega))
  obtain ⟨ia, hia⟩ : ∃ k : Nat, pk o.a 4 = k := ⟨(pk o.a 4).toNat, by omega⟩
  obtain ⟨ib, hib⟩ : ∃ k : Nat, pk o.b 4 = k := ⟨(pk o.b 4).toNat, by omega⟩
  obtain ⟨ii, hii⟩ : ∃ k : Nat, pk o.i 9 = k := ⟨(pk o.i 9).toNat, by omega⟩
  rw [hia] at qa pka; rw [hib] at qb pkb; rw [hii] at qi pki
  have hia4 : ia < 4 := by omega
  have hib4 : ib < 4 := by omega
  have hii9 : ii < 9 := by omega
  have hne1 : T ≠ w.heap.size := by omega
  have hne2 : w.heap.size ≠ T := by omega
  have hibe : (pk o.b 4).toNat = ib := by rw [hib]; rfl
  have hiie : (pk o.i 9).toNat = ii := by rw [hii]; rfl
  clear pka pkb pki hia hib hii h hp
  go_enter Try.func29, Try.ntmps29
  go_wp2_with fail
  have k1 : Calm w (w.alloc (.cells #[.int .i64 o.kd, .int .i64 o.a, .int .i64 o.b, .int .i64 o.i, .int .i64 o.n, .int .i64 o.s0, .int .i64 o.s1, .int .i64 o.s2] 55)) := (Fr.refl _ _).alloc _
  have o3 := OwnL.new w [.int .i64 o.kd, .int .i64 o.a, .int .i64 o.b, .int .i64 o.i, .int .i64 o.n, .int .i64 o.s0, .int .i64 o.s1, .int .i64 o.s2] 55
  refine (qa.out _).mono ?_
  rintro e w1 ⟨rfl, rfl⟩
  go_wp2_with fail
  refine (qb.out _).mono ?_
  rintro e w1 ⟨rfl, rfl⟩
  go_wp2_with fail
  refine (qi.out _).mono ?_
  rintro e w1 ⟨rfl, rfl⟩
  go_wp2_with fail
  refine (qk.out _).mono ?_
  rintro e w1 ⟨rfl, rfl⟩
  replace hta := k1.cellAt hta id
  replace htb := k1.cellAt htb id
  replace H := hid (H.out.calm k1)
  generalize World.alloc w _ = w1 at *
  replace o3 := hid o3
  replace k1 := hid k1
  clear qa qb qi qk
  rw [hKe]
  clear hKe
  have hTs : T < w1.heap.size := H.out.cs.lt (by simp [twC])
  have ne3 : T ≠ w1.heap.size := by omega
  have hib5 : ((ib : Nat) : Int) < 4 := by omega
  have hia5 : ((ia : Nat) : Int) < 4 := by omega
  have ne4 : w1.heap.size ≠ T := by omega
  rw [hibe] at hRA hSB
  rw [hiie] at hf
  replace hf := hf.out
  have hk0 : True := trivial
  subst hK
  go_wp2_with fail
  have hsp := hid (fun W (cw : Calm w1 W) => hshape_yes (H.out.hb.calm cw) dB.out)
  have yS := (H.out.cellS hl.out hib4).1
  have yR := (H.out.cellR hl.out hib4).1
  rw [hSB.out] at yS
  rw [hRA.out] at yR
  go_cut [13, 14, 15] (fun s13 s14 s15 wx => ∃ g, s13 = .pointer (some ⟨g, 0, none⟩) ∧ s14 = .bool u.fr ∧ s15 = .int .i64 0 ∧ OwnL wx g [.int .i64 u.p, .int .i64 u.d, .bool u.wk, .bool u.fn] ∧ Calm w1 wx ∧ w1.heap.size ≤ g)
  case first =>
    go_region_held3 (fun w' => w'.cell? ⟨T, 1, none⟩ = some (hpV BB) ∧ w'.cell? ⟨T, 6 + ib, none⟩ = some (.int .i64 (SB : Nat))) (go_keep)
      (first | (go_at_call 40; refine (hsp.out _ (by first | exact Fr.refl _ _ | exact (Fr.refl _ _).drew | exact ((Fr.refl _ _).drew).alloc _ | exact ((Fr.refl _ _).alloc _).drew)).mono ?_; rintro e w5 ⟨rfl, c5⟩; have ka : Calm w1 w5 := Fr.trans (by first | exact Fr.refl _ _ | exact (Fr.refl _ _).drew | exact ((Fr.refl _ _).drew).alloc _ | exact ((Fr.refl _ _).alloc _).drew) c5; have q0 := ka.cellAt htb id; have q12 := ka.cellAt yS id; try (have ow : OwnL w5 w1.heap.size [.int .i64 0, .int .i64 0, .bool false, .bool false] := (by first | exact (OwnL.at _ [.int .i64 0, .int .i64 0, .bool false, .bool false] 32 w1.heap.size rfl).calm c5 | exact ((OwnL.at _ [.int .i64 0, .int .i64 0, .bool false, .bool false] 32 w1.heap.size rfl).calm ((Fr.refl _ _).drew)).calm c5); have m0 := (ow 0 _ rfl).1; have m1 := (ow 1 _ rfl).1; have m2 := (ow 2 _ rfl).1; have m3 := (ow 3 _ rfl).1; have n0 := (ow 0 _ rfl).2; have n1 := (ow 1 _ rfl).2; have n2 := (ow 2 _ rfl).2; have n3 := (ow 3 _ rfl).2)))
    · go_wp2_with fail
      go_meet
      exact ⟨w5.heap.size, rfl, rfl, rfl, OwnL.new w5 [.int .i64 u.p, .int .i64 u.d, .bool u.wk, .bool u.fn] _, ka.alloc _, ka.size⟩
    · go_wp2_with fail
      go_meet
      have o4 := ow.set4 (.int .i64 u.p) (.int .i64 u.d) (.bool u.wk) (.bool u.fn)
      exact ⟨w1.heap.size, rfl, rfl, rfl, o4.1, ka.join o4.2 (fun j hj (e : j = w1.heap.size) => absurd hj (by omega)), Nat.le_refl _⟩
  case rest =>
    obtain ⟨g, rfl, rfl, rfl, og, cx, hg⟩ := hcut
    rw [hw.out] at og
    have x2 := (og 2 _ rfl).1
    have hwo : o1.wk = false := by rw [← lk.out.wk]; exact hw.out
    have hH := hid (H.out.calm cx)
    have yRx := cx.cellAt yR id
    have ySx := cx.cellAt yS id
    have h0x := cx.cellAt hta id
    have h1x := cx.cellAt htb id
    replace cx := hid cx
    clear og yR yS hta htb hsp
    have hpp := HP.out.place (.inl dA.out.mem') (get_mem' 0 (by rw [(dA.out.at_ H.out.ha.rep).ok.lp]; exact hf) : o1.ps.getD ii 0 ∈ o1.ps)
    have hC := hid (fun W (cw : Calm wc W) => hptr_yes (hH.out.ha.calm cw) dA.out hf hpp)
    obtain ⟨n, hn1, hn2⟩ := hps.out ii hf
    have hn2 : Ref A (o1.ps.getD ii 0) (σ n) := hn2.resolve_right (fun ⟨a, _⟩ => by rw [hwo] at a; cases a)
    have hfu : ii < u.p := by rw [lk.out.p]; exact hf
    have hTA := hid hH.out.ta
    clear hpp
    go_wp2_with fail
    go_region_held3 (fun w' => w'.cell? ⟨T, 0, none⟩ = some (hpV BA) ∧ w'.cell? ⟨T, 2 + ib, none⟩ = some (.int .i64 (RA : Nat))) (go_keep)
      (first | (go_at_call 26; refine (hC.out _ (by first | exact Fr.refl _ _ | exact (Fr.refl _ _).drew)).mono ?_; rintro e w6 ⟨s6, q, g6, rfl, BA6, XA6, hA6, hK6⟩; have ka : From b0 wc w6 := (From.calm ((by first | exact Fr.refl _ _ | exact (Fr.refl _ _).drew) : Calm wc _)).trans (TwAt.from_ hH.out.la hK6); have H6 := hid ((hH.out.calm (by first | exact Fr.refl _ _ | exact (Fr.refl _ _).drew)).stepA hA6 hK6); have z0 := hK6.fr.cellAt (show World.cell? _ ⟨T, 0, none⟩ = some (hpV BA) by first | exact h0x | assumption) hTA.out; have z1 := hK6.fr.cellAt (show World.cell? _ ⟨T, 2 + ib, none⟩ = some (.int .i64 (RA : Nat)) by first | exact yRx | assumption) hTA.out))
    have hP6 := HP.out.ptr H.out.ha.rep dA.out hf g6 hA6.rep
    obtain ⟨hP6, hq6, hr6⟩ := hP6
    have hr7 := hr6 _ hn2
    have hn6 : s6.n = A.n ∧ s6.ser = A.ser ∧ s6.mv = A.mv := ⟨g6.same.1, g6.same.2.2.2.2.1, g6.same.2.2.1⟩
    have e6 := hid hK6.hp
    have hB1 := H6.out.cellB
    have hS1 := (H6.out.cellS hl.out hib4).1
    rw [hSB.out] at hS1
    have hCB := hid (fun W (cw : Calm w6 W) => hptr_still (H6.out.hb.calm cw) HP.out.tw.still dB.out hfu hn1.place)
    have hTB := hid H6.out.tb
    replace hP6 := hid hP6
    replace hq6 := hid hq6
    replace hr7 := hid hr7
    replace hn6 := hid hn6
    replace ka := hid ka
    have hn3 := hid (hn1.le HP.out.tw.wb)
    replace hn1 := hid hn1
    clear hA6 hK6 g6 hr6 z0 z1 hC yRx ySx h0x h1x hn2
    go_wp2_with fail
    go_region_held3 (fun w' => w'.cell? ⟨T, 1, none⟩ = some (hpV BB) ∧ w'.cell? ⟨T, 6 + ib, none⟩ = some (.int .i64 (SB : Nat))) (go_keep)
      (first | (go_at_call 26; refine (hCB.out _ (by first | exact Fr.refl _ _ | exact (Fr.refl _ _).drew)).mono ?_; rintro e w8 ⟨rfl, BB8, XB8, hB8, hK8⟩; have kb : From b0 w6 w8 := (From.calm ((by first | exact Fr.refl _ _ | exact (Fr.refl _ _).drew) : Calm w6 _)).trans (TwAt.from_ H6.out.lb hK8); have H8 := hid ((H6.out.calm (by first | exact Fr.refl _ _ | exact (Fr.refl _ _).drew)).stepB hB8 hK8); have z0 := hK8.fr.cellAt (show World.cell? _ ⟨T, 1, none⟩ = some (hpV BB) by first | exact hB1 | assumption) hTB.out; have z1 := hK8.fr.cellAt (show World.cell? _ ⟨T, 6 + ib, none⟩ = some (.int .i64 (SB : Nat)) by first | exact hS1 | assumption) hTB.out))
    have e8 := hid hK8.hp
    have hP8 := hid (hP6.out.set hia4 hq6.out hn3.out hr7.out hn1.out)
    obtain ⟨yr1, yr2⟩ := H8.out.cellR hl.out hia4
    obtain ⟨ys1, ys2⟩ := H8.out.cellS hl.out hia4
    have hw9 := hid ((H8.out.setR (v := q) hia4 hl.out).setS (v := u.ps.getD ii 0) hia4 ⟨by simp [hl.out.1], hl.out.2⟩)
    have hTl8 : Hid (b0 T) := H8.out.lt
    replace kb := hid kb
    clear hB8 hK8 z0 z1 hB1 hS1 hCB
    have hne : 2 + ia ≠ 6 + ia := by omega
    go_wp2
    go_ret
    exact ⟨rfl, (((From.calm (k1.out.trans cx.out)).trans ka.out).trans kb.out).trans (((Fr.refl (fun k => b0 k) w8).setCell (p := ⟨T, 2 + ia, none⟩) (.inl hTl8.out) _).setCell (p := ⟨T, 6 + ia, none⟩) (.inl hTl8.out) _), σ, _, _, _, _, _, _, _, _, hw9.out, e6.out, e8.out, hP8.out, hn6.out.1, .inl ⟨rfl, hn6.out.2.1, rfl⟩, fun _ => hn6.out.2.2⟩

end

end Go.Proofs.Ytiomemdmhcdpbaa
