/- What Does does: a number is set, of an object. -/
import Derived.Test.YtiomemdmhcdpbaaPDoes1
set_option linter.unusedSimpArgs false
set_option linter.unusedVariables false
namespace Go.Proofs.Ytiomemdmhcdpbaa
open Go.RowKit Go.Shelf

section
variable {w : World} {b0 : Nat → Prop} {T : Nat} {BA BB : HB} {A B : HS} {XA XB R S : List Nat} {σ : Nat → Nat}

set_option maxRecDepth 4000 in
set_option maxHeartbeats 16000000 in
theorem does_setnum_obj (h : TwAt w b0 T BA BB A B XA XB R S) (hp : Pair σ A B R S 4) (o : Op10) (hok : o.Ok) (hK : pk o.kd 13 = 8) (hz : S.getD (pk o.b 4).toNat 0 ≠ 0) :
    Calls Try.prog 29 #[.pointer (some ⟨T, 0, none⟩), opV o] w (DoesPost w b0 T BA.hp BB.hp σ A B (pk o.kd 13)) := by
  obtain ⟨K, hKe⟩ : ∃ K, pk o.kd 13 = K := ⟨_, rfl⟩
  rw [hKe] at hK ⊢
  replace hz := hid hz
  have hgA := hid h.ha.lt
  have hgB := hid h.hb.lt
  obtain ⟨okd, oka, okb, oki, okn, ok0, ok1, ok2⟩ := hok
  have hta := h.cellA
  have htb := h.cellB
  have hl : Hid (R.length = 4 ∧ S.length = 4) := ⟨hp.rg.lr, hp.rg.ls⟩
  have hTl := h.cs.lt (by simp [twC])
  have H := hid h
  have HP := hid hp
  have pka := pk_range o.a (n := 4) (by omega)
  have pkb := pk_range o.b (n := 4) (by omega)
  have pki := pk_range o.i (n := 9) (by omega)
  have qa := hid (fun W => pick10 o.a 4 W oka (by omega))
  have qb := hid (fun W => pick10 o.b 4 W okb (by omega))
  have qi := hid (fun W => pick10 o.i 9 W oki (by omega))
  have qk := hid (fun W => pick10 o.kd 13 W okd (by omega))
  obtain ⟨ia, hia⟩ : ∃ k : Nat, pk o.a 4 = k := ⟨(pk o.a 4).toNat, by omega⟩
  obtain ⟨ib, hib⟩ : ∃ k : Nat, pk o.b 4 = k := ⟨(pk o.b 4).toNat, by omega⟩
  obtain ⟨ii, hii⟩ : ∃ k : Nat, pk o.i 9 = k := ⟨(pk o.i 9).toNat, by omega⟩
  rw [hia] at qa pka; rw [hib] at qb pkb; rw [hii] at qi pki
  have hia4 : ia < 4 := by omega
  have hib4 : ib < 4 := by omega
  have hii9 : ii < 9 := by omega
  have hne1 : T ≠ w.heap.size := by omega
  have hne2 : w.heap.size ≠ T := by omega
  have hiae : (pk o.a 4).toNat = ia := by rw [hia]; rfl
  have hibe : (pk o.b 4).toNat = ib := by rw [hib]; rfl
  have hiie : (pk o.i 9).toNat = ii := by rw [hii]; rfl
  clear pka pkb pki hia hib hii h hp
  go_enter Try.func29, Try.ntmps29
  go_wp2_with fail
  have k1 : Calm w (w.alloc (.cells #[.int .i64 o.kd, .int .i64 o.a, .int .i64 o.b, .int .i64 o.i, .int .i64 o.n, .int .i64 o.s0, .int .i64 o.s1, .int .i64 o.s2] 55)) := (Fr.refl _ _).alloc _
  have o3 := OwnL.new w [.int .i64 o.kd, .int .i64 o.a, .int .i64 o.b, .int .i64 o.i, .int .i64 o.n, .int .i64 o.s0, .int .i64 o.s1, .int .i64 o.s2] 55
  refine (qa.out _).mono ?_
  rintro e w1 ⟨rfl, rfl⟩
  go_wp2_with fail
  refine (qb.out _).mono ?_
  rintro e w1 ⟨rfl, rfl⟩
  go_wp2_with fail
  refine (qi.out _).mono ?_
  rintro e w1 ⟨rfl, rfl⟩
  go_wp2_with fail
  refine (qk.out _).mono ?_
  rintro e w1 ⟨rfl, rfl⟩
  replace hta := k1.cellAt hta id
  replace htb := k1.cellAt htb id
  replace H := hid (H.out.calm k1)
  generalize World.alloc w _ = w1 at *
  replace o3 := hid o3
  replace k1 := hid k1
  clear qa qb qi qk
  rw [hKe]
  clear hKe
  have hTs : T < w1.heap.size := H.out.cs.lt (by simp [twC])
  have ne3 : T ≠ w1.heap.size := by omega
  have hib5 : ((ib : Nat) : Int) < 4 := by omega
  have hia5 : ((ia : Nat) : Int) < 4 := by omega
  have ne4 : w1.heap.size ≠ T := by omega
  subst hK
  have y0 := hta
  have y1 := (H.out.cellR hl.out hib4).1
  have y2 := htb
  have y3 := (H.out.cellS hl.out hib4).1
  have y4 := (o3.out 4 _ rfl).1
  obtain ⟨RA, hRA⟩ : ∃ RA, R.getD ib 0 = RA := ⟨_, rfl⟩
  obtain ⟨SB, hSB⟩ : ∃ SB, S.getD ib 0 = SB := ⟨_, rfl⟩
  rw [hRA] at y1
  rw [hSB] at y3
  rcases HP.out.both hib4 with ⟨e1, e2⟩ | ⟨i1, o1, k1', u, dA, dB, es, lk, hu1, hu2, hps⟩
  · exact absurd e2 (by rw [← hibe]; exact hz.out)
  rw [hRA] at dA
  rw [hSB] at dB
  obtain ⟨bp, hbp⟩ : ∃ bp, Has bp (ii : Int) o1.d := by
    by_cases hf : ii < o1.d
    · exact ⟨true, Has.lt (by omega) (by omega)⟩
    · exact ⟨false, Has.ge (by omega)⟩
  have hbu : Has bp (ii : Int) u.d := by rw [lk.d]; exact hbp
  obtain ⟨o2, ho2⟩ : ∃ o2, o1.setn bp (ii : Int) o.n = o2 := ⟨_, rfl⟩
  obtain ⟨u2, hu2'⟩ : ∃ u2, u.setn bp (ii : Int) o.n = u2 := ⟨_, rfl⟩
  have hCA := fun W (cw : Calm w1 W) => hsetnum_if (H.out.ha.calm cw) dA hbp okn
  have hCB0 := fun (w6 W : World) (X6 : List Nat) (h6 : TwAt w6 b0 T BA BB (A.upd i1 o2) B X6 XB R S) (cw : Calm w6 W) => hsetnum_if (h6.hb.calm cw) dB hbu okn
  obtain ⟨E, hE⟩ : ∃ E : Int, (bif bp then 0 else 71) = E := ⟨_, rfl⟩
  rw [hE, ho2] at hCA
  rw [hE, hu2'] at hCB0
  have sA : SameK o1 o2 := by rw [← ho2]; exact o1.setn_same bp ii o.n
  have sB : SameK u u2 := by rw [← hu2']; exact u.setn_same bp ii o.n
  have dA2 : CurAt (A.upd i1 o2) i1 RA o2 := by have := dA.upd (u' := o2) dA; rwa [if_pos rfl] at this
  have dB2 : CurAt (B.upd k1' u2) k1' SB u2 := by have := dB.upd (u' := u2) dB; rwa [if_pos rfl] at this
  have pA : o2.ps = o1.ps := by rw [← ho2]; unfold Ob.setn; cases bp <;> rfl
  have pB : u2.ps = u.ps := by rw [← hu2']; unfold Ob.setn; cases bp <;> rfl
  have frE : u2.fr = o2.fr := by rw [← hu2', ← ho2]; unfold Ob.setn; cases bp <;> exact lk.fr
  have nsE : u2.ns = o2.ns := by
    rw [← hu2', ← ho2]; unfold Ob.setn
    cases bp
    · exact lk.ns
    · simp only [cond_true]; rw [lk.ns]
  have lk2 : Alk o2 u2 := ⟨by rw [sB.1, sA.1, lk.p], by rw [sB.2.1, sA.2.1, lk.d], by rw [sB.2.2.1, sA.2.2.1, lk.wk], by rw [sB.2.2.2.1, sA.2.2.2.1, lk.fn], frE, nsE, by rw [pA, sA.1]; exact lk.pl, by rw [pB, sA.1]; exact lk.pl'⟩
  have hCC := fun (w8 W : World) (X6 X8 : List Nat) (h8 : TwAt w8 b0 T BA BB (A.upd i1 o2) (B.upd k1' u2) X6 X8 R S) (cw : Calm w8 W) (f : Bool) => hsetfreed_yes (h8.ha.calm cw) dA2 f
  have hCD := fun (w8 W : World) (A2 : HS) (X6 X8 : List Nat) (h8 : TwAt w8 b0 T BA BB A2 (B.upd k1' u2) X6 X8 R S) (cw : Calm w8 W) (f : Bool) => hsetfreed_yes (h8.hb.calm cw) dB2 f
  have hfin := fun (X6 X8 X10 X12 : List Nat) (f : Bool) (hA6 : HRep (A.upd i1 o2) X6) (hB8 : HRep (B.upd k1' u2) X8) (hA10 : HRep ((A.upd i1 o2).upd i1 { o2 with fr := f }) X10) (hB12 : HRep ((B.upd k1' u2).upd k1' { u2 with fr := f }) X12) =>
    ((HP.out.setn H.out.ha.rep H.out.hb.rep dA dB es lk sA sB pA pB frE nsE hA6 hB8).setn hA6 hB8 dA2 dB2 (o' := { o2 with fr := f }) (u' := { u2 with fr := f }) (by rw [sA.2.2.2.2, sB.2.2.2.2]; exact es) lk2 ⟨rfl, rfl, rfl, rfl, rfl⟩ ⟨rfl, rfl, rfl, rfl, rfl⟩ rfl rfl rfl nsE hA10 hB12)
  have hla := H.out.la
  have hlb := H.out.lb
  have hTA : ¬ HBlk BA T := H.out.ta
  have hTB : ¬ HBlk BB T := H.out.tb
  have hTAg : Hid (¬ HBlk BA w.heap.size) := fun e => absurd (hgA.out _ e) (by omega)
  have hTBg : Hid (¬ HBlk BB w.heap.size) := fun e => absurd (hgB.out _ e) (by omega)
  have hstep := fun (w6 : World) (W : World) (cw : Calm w1 W) (X6 : List Nat) (hA : HAt w6 BA (A.upd i1 o2) X6) (hK : HKeep W BA w6 BA) => (H.out.calm cw).stepA hA hK
  replace hCA := hid hCA
  replace hCB0 := hid hCB0
  replace hCC := hid hCC
  replace hCD := hid hCD
  replace hfin := hid hfin
  replace hla := hid hla
  replace hlb := hid hlb
  replace hTA := hid hTA
  replace hTB := hid hTB
  replace hstep := hid hstep
  clear hta htb dA dB es lk hu1 hu2 hps hbp hbu hE hRA hSB sA sB dA2 dB2 pA pB frE nsE lk2 ho2 hu2'
  have tokA : True := trivial
  go_wp2_with fail
  go_region_held3 (fun w' => w'.cell? ⟨T, 0, none⟩ = some (hpV BA) ∧ w'.cell? ⟨T, 2 + ib, none⟩ = some (.int .i64 (RA : Nat)) ∧ w'.cell? ⟨T, 1, none⟩ = some (hpV BB) ∧ w'.cell? ⟨T, 6 + ib, none⟩ = some (.int .i64 (SB : Nat)) ∧ w'.cell? ⟨w.heap.size, 4, none⟩ = some (.int .i64 o.n)) (go_keep)
    (first | (have _t := tokA; go_at_call 42; refine (hCA.out _ (by first | exact Fr.refl _ _ | exact (Fr.refl _ _).drew)).mono ?_; rintro e w6 ⟨rfl, X6, hA6, hK6⟩; have ka : From b0 w1 w6 := (From.calm ((by first | exact Fr.refl _ _ | exact (Fr.refl _ _).drew) : Calm w1 _)).trans (TwAt.from_ hla.out hK6); have H6 := hid (hstep.out _ _ (by first | exact Fr.refl _ _ | exact (Fr.refl _ _).drew) _ hA6 hK6); have z0 := hK6.fr.cellAt (show World.cell? _ ⟨T, 0, none⟩ = some (hpV BA) by first | exact y0 | assumption) hTA.out; have z1 := hK6.fr.cellAt (show World.cell? _ ⟨T, 2 + ib, none⟩ = some (.int .i64 (RA : Nat)) by first | exact y1 | assumption) hTA.out; have z2 := hK6.fr.cellAt (show World.cell? _ ⟨T, 1, none⟩ = some (hpV BB) by first | exact y2 | assumption) hTA.out; have z3 := hK6.fr.cellAt (show World.cell? _ ⟨T, 6 + ib, none⟩ = some (.int .i64 (SB : Nat)) by first | exact y3 | assumption) hTA.out; have z4 := hK6.fr.cellAt (show World.cell? _ ⟨w.heap.size, 4, none⟩ = some (.int .i64 o.n) by first | exact y4 | assumption) hTAg.out; clear tokA; have tokB : True := trivial) | (have _t := tokB; go_at_call 42; refine (hCB0.out _ _ _ H6.out (by first | exact Fr.refl _ _ | exact (Fr.refl _ _).drew)).mono ?_; rintro e w8 ⟨rfl, X8, hB8, hK8⟩; have kb : From b0 w6 w8 := (From.calm ((by first | exact Fr.refl _ _ | exact (Fr.refl _ _).drew) : Calm w6 _)).trans (TwAt.from_ hlb.out hK8); have H8 := hid ((H6.out.calm (by first | exact Fr.refl _ _ | exact (Fr.refl _ _).drew)).stepB hB8 hK8); have u0 := hK8.fr.cellAt (show World.cell? _ ⟨T, 0, none⟩ = some (hpV BA) by first | exact z0 | assumption) hTB.out; have u1 := hK8.fr.cellAt (show World.cell? _ ⟨T, 2 + ib, none⟩ = some (.int .i64 (RA : Nat)) by first | exact z1 | assumption) hTB.out; have u2 := hK8.fr.cellAt (show World.cell? _ ⟨T, 1, none⟩ = some (hpV BB) by first | exact z2 | assumption) hTB.out; have u3 := hK8.fr.cellAt (show World.cell? _ ⟨T, 6 + ib, none⟩ = some (.int .i64 (SB : Nat)) by first | exact z3 | assumption) hTB.out; have u4 := hK8.fr.cellAt (show World.cell? _ ⟨w.heap.size, 4, none⟩ = some (.int .i64 o.n) by first | exact z4 | assumption) hTBg.out; clear tokB; have tokC : True := trivial) | (have _t := tokC; go_at_call 43; refine (hCC.out _ _ _ _ H8.out (by first | exact Fr.refl _ _ | exact (Fr.refl _ _).drew) _).mono ?_; rintro e w10 ⟨rfl, X10, hA10, hK10⟩; have kc : From b0 w8 w10 := (From.calm ((by first | exact Fr.refl _ _ | exact (Fr.refl _ _).drew) : Calm w8 _)).trans (TwAt.from_ hla.out hK10); have H10 := hid ((H8.out.calm (by first | exact Fr.refl _ _ | exact (Fr.refl _ _).drew)).stepA hA10 hK10); have v0 := hK10.fr.cellAt (show World.cell? _ ⟨T, 0, none⟩ = some (hpV BA) by first | exact u0 | assumption) hTA.out; have v1 := hK10.fr.cellAt (show World.cell? _ ⟨T, 2 + ib, none⟩ = some (.int .i64 (RA : Nat)) by first | exact u1 | assumption) hTA.out; have v2 := hK10.fr.cellAt (show World.cell? _ ⟨T, 1, none⟩ = some (hpV BB) by first | exact u2 | assumption) hTA.out; have v3 := hK10.fr.cellAt (show World.cell? _ ⟨T, 6 + ib, none⟩ = some (.int .i64 (SB : Nat)) by first | exact u3 | assumption) hTA.out; have v4 := hK10.fr.cellAt (show World.cell? _ ⟨w.heap.size, 4, none⟩ = some (.int .i64 o.n) by first | exact u4 | assumption) hTAg.out; clear tokC; have tokD : True := trivial) | (have _t := tokD; go_at_call 43; refine (hCD.out _ _ _ _ _ H10.out (by first | exact Fr.refl _ _ | exact (Fr.refl _ _).drew) _).mono ?_; rintro e w12 ⟨rfl, X12, hB12, hK12⟩; have kd : From b0 w10 w12 := (From.calm ((by first | exact Fr.refl _ _ | exact (Fr.refl _ _).drew) : Calm w10 _)).trans (TwAt.from_ hlb.out hK12); have H12 := hid ((H10.out.calm (by first | exact Fr.refl _ _ | exact (Fr.refl _ _).drew)).stepB hB12 hK12); have x0 := hK12.fr.cellAt (show World.cell? _ ⟨T, 0, none⟩ = some (hpV BA) by first | exact v0 | assumption) hTB.out; have x1 := hK12.fr.cellAt (show World.cell? _ ⟨T, 2 + ib, none⟩ = some (.int .i64 (RA : Nat)) by first | exact v1 | assumption) hTB.out; have x2 := hK12.fr.cellAt (show World.cell? _ ⟨T, 1, none⟩ = some (hpV BB) by first | exact v2 | assumption) hTB.out; have x3 := hK12.fr.cellAt (show World.cell? _ ⟨T, 6 + ib, none⟩ = some (.int .i64 (SB : Nat)) by first | exact v3 | assumption) hTB.out; have x4 := hK12.fr.cellAt (show World.cell? _ ⟨w.heap.size, 4, none⟩ = some (.int .i64 o.n) by first | exact v4 | assumption) hTBg.out))
  have hP8 := hid (hfin.out _ _ _ _ _ hA6.rep hB8.rep hA10.rep hB12.rep)
  replace ka := hid ka
  replace kb := hid kb
  replace kc := hid kc
  replace kd := hid kd
  clear hA6 hK6 hB8 hK8 hA10 hK10 hB12 hK12
  go_wp2
  go_ret
  exact ⟨rfl, ((((From.calm k1.out).trans ka.out).trans kb.out).trans kc.out).trans kd.out, σ, _, _, R, S, BA, BB, _, _, H12.out, rfl, rfl, hP8.out, rfl, .inl ⟨rfl, rfl, rfl⟩, fun _ => rfl⟩

end

end Go.Proofs.Ytiomemdmhcdpbaa
