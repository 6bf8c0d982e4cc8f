/- What Does does: a pointer is set (of an object). -/
import Derived.Test.YtiomemdmhcdpbaaPDoes1
set_option linter.unusedSimpArgs false
set_option linter.unusedVariables false
namespace Go.Proofs.Ytiomemdmhcdpbaa
open Go.RowKit Go.Shelf

section
variable {w : World} {b0 : Nat → Prop} {T : Nat} {BA BB : HB} {A B : HS} {XA XB R S : List Nat} {σ : Nat → Nat}

set_option maxRecDepth 4000 in
set_option maxHeartbeats 16000000 in
theorem does_setptr_obj_5 (h : TwAt w b0 T BA BB A B XA XB R S) (hp : Pair σ A B R S 4) (o : Op10) (hok : o.Ok) (hK : pk o.kd 13 = 5) (hz : S.getD (pk o.b 4).toNat 0 ≠ 0) :
    Calls Try.prog 29 #[.pointer (some ⟨T, 0, none⟩), opV o] w (DoesPost w b0 T BA.hp BB.hp σ A B (pk o.kd 13)) := by
  obtain ⟨K, hKe⟩ : ∃ K, pk o.kd 13 = K := ⟨_, rfl⟩
  rw [hKe] at hK ⊢
  replace hz := hid hz
  obtain ⟨okd, oka, okb, oki, okn, ok0, ok1, ok2⟩ := hok
  have hta := h.cellA
  have htb := h.cellB
  have hl : Hid (R.length = 4 ∧ S.length = 4) := ⟨hp.rg.lr, hp.rg.ls⟩
  have hTl := h.cs.lt (by simp [twC])
  have H := hid h
  have HP := hid hp
  have pka := pk_range o.a (n := 4) (by omega)
  have pkb := pk_range o.b (n := 4) (by omega)
  have pki := pk_range o.i (n := 9) (by omega)
  have qa := hid (fun W => pick10 o.a 4 W oka (by omega))
  have qb := hid (fun W => pick10 o.b 4 W okb (by omega))
  have qi := hid (fun W => pick10 o.i 9 W oki (by omega))
  have qk := hid (fun W => pick10 o.kd 13 W okd (by omega))
  obtain ⟨ia, hia⟩ : ∃ k : Nat, pk o.a 4 = k := ⟨(pk o.a 4).toNat, by omega⟩
  obtain ⟨ib, hib⟩ : ∃ k : Nat, pk o.b 4 = k := ⟨(pk o.b 4).toNat, by omega⟩
  obtain ⟨ii, hii⟩ : ∃ k : Nat, pk o.i 9 = k := ⟨(pk o.i 9).toNat, by omega⟩
  rw [hia] at qa pka; rw [hib] at qb pkb; rw [hii] at qi pki
  have hia4 : ia < 4 := by omega
  have hib4 : ib < 4 := by omega
  have hii9 : ii < 9 := by omega
  have hne1 : T ≠ w.heap.size := by omega
  have hne2 : w.heap.size ≠ T := by omega
  have hiae : (pk o.a 4).toNat = ia := by rw [hia]; rfl
  have hibe : (pk o.b 4).toNat = ib := by rw [hib]; rfl
  have hiie : (pk o.i 9).toNat = ii := by rw [hii]; rfl
  clear pka pkb pki hia hib hii h hp
  go_enter Try.func29, Try.ntmps29
  go_wp2_with fail
  have k1 : Calm w (w.alloc (.cells #[.int .i64 o.kd, .int .i64 o.a, .int .i64 o.b, .int .i64 o.i, .int .i64 o.n, .int .i64 o.s0, .int .i64 o.s1, .int .i64 o.s2] 55)) := (Fr.refl _ _).alloc _
  have o3 := OwnL.new w [.int .i64 o.kd, .int .i64 o.a, .int .i64 o.b, .int .i64 o.i, .int .i64 o.n, .int .i64 o.s0, .int .i64 o.s1, .int .i64 o.s2] 55
  refine (qa.out _).mono ?_
  rintro e w1 ⟨rfl, rfl⟩
  go_wp2_with fail
  refine (qb.out _).mono ?_
  rintro e w1 ⟨rfl, rfl⟩
  go_wp2_with fail
  refine (qi.out _).mono ?_
  rintro e w1 ⟨rfl, rfl⟩
  go_wp2_with fail
  refine (qk.out _).mono ?_
  rintro e w1 ⟨rfl, rfl⟩
  replace hta := k1.cellAt hta id
  replace htb := k1.cellAt htb id
  replace H := hid (H.out.calm k1)
  generalize World.alloc w _ = w1 at *
  replace o3 := hid o3
  replace k1 := hid k1
  clear qa qb qi qk
  rw [hKe]
  clear hKe
  have hTs : T < w1.heap.size := H.out.cs.lt (by simp [twC])
  have ne3 : T ≠ w1.heap.size := by omega
  have hib5 : ((ib : Nat) : Int) < 4 := by omega
  have hia5 : ((ia : Nat) : Int) < 4 := by omega
  have ne4 : w1.heap.size ≠ T := by omega
  subst hK
  have y0 := hta
  have y1 := (H.out.cellR hl.out hib4).1
  have y2 := (H.out.cellR hl.out hia4).1
  have y3 := htb
  have y4 := (H.out.cellS hl.out hib4).1
  have y5 := (H.out.cellS hl.out hia4).1
  obtain ⟨RA, hRA⟩ : ∃ RA, R.getD ib 0 = RA := ⟨_, rfl⟩
  obtain ⟨RV, hRV⟩ : ∃ RV, R.getD ia 0 = RV := ⟨_, rfl⟩
  obtain ⟨SB, hSB⟩ : ∃ SB, S.getD ib 0 = SB := ⟨_, rfl⟩
  obtain ⟨SV, hSV⟩ : ∃ SV, S.getD ia 0 = SV := ⟨_, rfl⟩
  rw [hRA] at y1
  rw [hRV] at y2
  rw [hSB] at y4
  rw [hSV] at y5
  rcases HP.out.both hib4 with ⟨e1, e2⟩ | ⟨i1, o1, k1', u, dA, dB, es, lk, hu1, hu2, hps⟩
  · exact absurd e2 (by rw [← hibe]; exact hz.out)
  rw [hRA] at dA
  rw [hSB] at dB
  obtain ⟨n, hn1, hn2, hn3⟩ := HP.out.rg.ref ia hia4
  have hpA := HP.out.rg.here ia hia4
  rw [hRV] at hn2 hpA
  rw [hSV] at hn3
  have hpB : SV = 0 ∨ SV ∈ plc B.cur := by
    rcases hn3.place with k | k | k
    · exact .inl k
    · exact .inr k
    · rw [HP.out.tw.still] at k; simp at k
  have lA := Place.le H.out.ha.rep hn2.place
  have lB := Place.le H.out.hb.rep hn3.place
  obtain ⟨bp, hbp⟩ : ∃ bp, Has bp (ii : Int) o1.p := by
    by_cases hf : ii < o1.p
    · exact ⟨true, Has.lt (by omega) (by omega)⟩
    · exact ⟨false, Has.ge (by omega)⟩
  have hbu : Has bp (ii : Int) u.p := by rw [lk.p]; exact hbp
  have hCA := fun W (cw : Calm w1 W) => hsetptr_if (H.out.ha.calm cw) dA hbp (v := RV) hpA lA
  obtain ⟨E, hE⟩ : ∃ E : Int, (bif bp then 0 else 71) = E := ⟨_, rfl⟩
  rw [hE] at hCA
  have hstep := fun (w6 : World) (W : World) (cw : Calm w1 W) (X6 : List Nat) (hA : HAt w6 BA (A.upd i1 (o1.setp bp ii RV)) X6) (hK : HKeep W BA w6 BA) => (H.out.calm cw).stepA hA hK
  have hTA : ¬ HBlk BA T := H.out.ta
  have hTB : ¬ HBlk BB T := H.out.tb
  have hCB := fun (w6 W : World) (X6 : List Nat) (h6 : TwAt w6 b0 T BA BB (A.upd i1 (o1.setp bp ii RV)) B X6 XB R S) (cw : Calm w6 W) => hsetptr_if (h6.hb.calm cw) dB hbu (v := SV) hpB lB
  rw [hE] at hCB
  have hfin := fun (X6 X8 : List Nat) (hA6 : HRep (A.upd i1 (o1.setp bp ii RV)) X6) (hB8 : HRep (B.upd k1' (u.setp bp ii SV)) X8) => (by
    rcases hbp with ⟨rfl, g1, g2⟩ | ⟨rfl, g1⟩
    · exact HP.out.setp H.out.ha.rep H.out.hb.rep dA dB (by omega) es lk hpA hn2 hn3 hA6 hB8
    · have e1 : o1.setp false (ii : Int) RV = o1 := rfl
      have e2 : u.setp false (ii : Int) SV = u := rfl
      rw [e1, e2, upd_same dA, upd_same dB]; exact HP.out : Pair σ (A.upd i1 (o1.setp bp ii RV)) (B.upd k1' (u.setp bp ii SV)) R S 4)
  have hla := H.out.la
  have hlb := H.out.lb
  replace hCA := hid hCA
  replace hCB := hid hCB
  replace hstep := hid hstep
  replace hfin := hid hfin
  replace hla := hid hla
  replace hlb := hid hlb
  replace hTA := hid hTA
  replace hTB := hid hTB
  clear hta htb dA dB es lk hu1 hu2 hps hn1 hn2 hn3 hpA hpB lA lB hbp hbu hE hRA hRV hSB hSV
  have tokA : True := trivial
  go_wp2_with fail
  go_region_held3 (fun w' => w'.cell? ⟨T, 0, none⟩ = some (hpV BA) ∧ w'.cell? ⟨T, 2 + ib, none⟩ = some (.int .i64 (RA : Nat)) ∧ w'.cell? ⟨T, 2 + ia, none⟩ = some (.int .i64 (RV : Nat)) ∧ w'.cell? ⟨T, 1, none⟩ = some (hpV BB) ∧ w'.cell? ⟨T, 6 + ib, none⟩ = some (.int .i64 (SB : Nat)) ∧ w'.cell? ⟨T, 6 + ia, none⟩ = some (.int .i64 (SV : Nat))) (go_keep)
    (first | (have _t := tokA; go_at_call 21; refine (hCA.out _ (by first | exact Fr.refl _ _ | exact (Fr.refl _ _).drew)).mono ?_; rintro e w6 ⟨rfl, X6, hA6, hK6⟩; have ka : From b0 w1 w6 := (From.calm ((by first | exact Fr.refl _ _ | exact (Fr.refl _ _).drew) : Calm w1 _)).trans (TwAt.from_ hla.out hK6); have H6 := hid (hstep.out _ _ (by first | exact Fr.refl _ _ | exact (Fr.refl _ _).drew) _ hA6 hK6); have z0 := hK6.fr.cellAt (show World.cell? _ ⟨T, 0, none⟩ = some (hpV BA) by first | exact y0 | assumption) hTA.out; have z1 := hK6.fr.cellAt (show World.cell? _ ⟨T, 2 + ib, none⟩ = some (.int .i64 (RA : Nat)) by first | exact y1 | assumption) hTA.out; have z2 := hK6.fr.cellAt (show World.cell? _ ⟨T, 2 + ia, none⟩ = some (.int .i64 (RV : Nat)) by first | exact y2 | assumption) hTA.out; have z3 := hK6.fr.cellAt (show World.cell? _ ⟨T, 1, none⟩ = some (hpV BB) by first | exact y3 | assumption) hTA.out; have z4 := hK6.fr.cellAt (show World.cell? _ ⟨T, 6 + ib, none⟩ = some (.int .i64 (SB : Nat)) by first | exact y4 | assumption) hTA.out; have z5 := hK6.fr.cellAt (show World.cell? _ ⟨T, 6 + ia, none⟩ = some (.int .i64 (SV : Nat)) by first | exact y5 | assumption) hTA.out; clear tokA; have tokB : True := trivial) | (have _t := tokB; go_at_call 21; refine (hCB.out _ _ _ H6.out (by first | exact Fr.refl _ _ | exact (Fr.refl _ _).drew)).mono ?_; rintro e w8 ⟨rfl, X8, hB8, hK8⟩; have kb : From b0 w6 w8 := (From.calm ((by first | exact Fr.refl _ _ | exact (Fr.refl _ _).drew) : Calm w6 _)).trans (TwAt.from_ hlb.out hK8); have H8 := hid ((H6.out.calm (by first | exact Fr.refl _ _ | exact (Fr.refl _ _).drew)).stepB hB8 hK8); have u0 := hK8.fr.cellAt (show World.cell? _ ⟨T, 0, none⟩ = some (hpV BA) by first | exact z0 | assumption) hTB.out; have u1 := hK8.fr.cellAt (show World.cell? _ ⟨T, 2 + ib, none⟩ = some (.int .i64 (RA : Nat)) by first | exact z1 | assumption) hTB.out; have u2 := hK8.fr.cellAt (show World.cell? _ ⟨T, 2 + ia, none⟩ = some (.int .i64 (RV : Nat)) by first | exact z2 | assumption) hTB.out; have u3 := hK8.fr.cellAt (show World.cell? _ ⟨T, 1, none⟩ = some (hpV BB) by first | exact z3 | assumption) hTB.out; have u4 := hK8.fr.cellAt (show World.cell? _ ⟨T, 6 + ib, none⟩ = some (.int .i64 (SB : Nat)) by first | exact z4 | assumption) hTB.out; have u5 := hK8.fr.cellAt (show World.cell? _ ⟨T, 6 + ia, none⟩ = some (.int .i64 (SV : Nat)) by first | exact z5 | assumption) hTB.out))
  have hP8 := hid (hfin.out _ _ hA6.rep hB8.rep)
  replace ka := hid ka
  replace kb := hid kb
  clear hA6 hK6 hB8 hK8
  go_wp2
  go_ret
  exact ⟨rfl, ((From.calm k1.out).trans ka.out).trans kb.out, σ, _, _, R, S, BA, BB, _, _, H8.out, rfl, rfl, hP8.out, rfl, .inl ⟨rfl, rfl, rfl⟩, fun _ => rfl⟩

set_option maxRecDepth 4000 in
set_option maxHeartbeats 16000000 in
theorem does_setptr_obj_6 (h : TwAt w b0 T BA BB A B XA XB R S) (hp : Pair σ A B R S 4) (o : Op10) (hok : o.Ok) (hK : pk o.kd 13 = 6) (hz : S.getD (pk o.b 4).toNat 0 ≠ 0) :
    Calls Try.prog 29 #[.pointer (some ⟨T, 0, none⟩), opV o] w (DoesPost w b0 T BA.hp BB.hp σ A B (pk o.kd 13)) := by
  obtain ⟨K, hKe⟩ : ∃ K, pk o.kd 13 = K := ⟨_, rfl⟩
  rw [hKe] at hK ⊢
  replace hz := hid hz
  obtain ⟨okd, oka, okb, oki, okn, ok0, ok1, ok2⟩ := hok
  have hta := h.cellA
  have htb := h.cellB
  have hl : Hid (R.length = 4 ∧ S.length = 4) := ⟨hp.rg.lr, hp.rg.ls⟩
  have hTl := h.cs.lt (by simp [twC])
  have H := hid h
  have HP := hid hp
  have pka := pk_range o.a (n := 4) (by omega)
  have pkb := pk_range o.b (n := 4) (by omega)
  have pki := pk_range o.i (n := 9) (by omega)
  have qa := hid (fun W => pick10 o.a 4 W oka (by omega))
  have qb := hid (fun W => pick10 o.b 4 W okb (by omega))
  have qi := hid (fun W => pick10 o.i 9 W oki (by omega))
  have qk := hid (fun W => pick10 o.kd 13 W okd (by omega))
  obtain ⟨ia, hia⟩ : ∃ k : Nat, pk o.a 4 = k := ⟨(pk o.a 4).toNat, by omega⟩
  obtain ⟨ib, hib⟩ : ∃ k : Nat, pk o.b 4 = k := ⟨(pk o.b 4).toNat, by omega⟩
  obtain ⟨ii, hii⟩ : ∃ k : Nat, pk o.i 9 = k := ⟨(pk o.i 9).toNat, by omega⟩
  rw [hia] at qa pka; rw [hib] at qb pkb; rw [hii] at qi pki
  have hia4 : ia < 4 := by omega
  have hib4 : ib < 4 := by omega
  have hii9 : ii < 9 := by omega
  have hne1 : T ≠ w.heap.size := by omega
  have hne2 : w.heap.size ≠ T := by omega
  have hiae : (pk o.a 4).toNat = ia := by rw [hia]; rfl
  have hibe : (pk o.b 4).toNat = ib := by rw [hib]; rfl
  have hiie : (pk o.i 9).toNat = ii := by rw [hii]; rfl
  clear pka pkb pki hia hib hii h hp
  go_enter Try.func29, Try.ntmps29
  go_wp2_with fail
  have k1 : Calm w (w.alloc (.cells #[.int .i64 o.kd, .int .i64 o.a, .int .i64 o.b, .int .i64 o.i, .int .i64 o.n, .int .i64 o.s0, .int .i64 o.s1, .int .i64 o.s2] 55)) := (Fr.refl _ _).alloc _
  have o3 := OwnL.new w [.int .i64 o.kd, .int .i64 o.a, .int .i64 o.b, .int .i64 o.i, .int .i64 o.n, .int .i64 o.s0, .int .i64 o.s1, .int .i64 o.s2] 55
  refine (qa.out _).mono ?_
  rintro e w1 ⟨rfl, rfl⟩
  go_wp2_with fail
  refine (qb.out _).mono ?_
  rintro e w1 ⟨rfl, rfl⟩
  go_wp2_with fail
  refine (qi.out _).mono ?_
  rintro e w1 ⟨rfl, rfl⟩
  go_wp2_with fail
  refine (qk.out _).mono ?_
  rintro e w1 ⟨rfl, rfl⟩
  replace hta := k1.cellAt hta id
  replace htb := k1.cellAt htb id
  replace H := hid (H.out.calm k1)
  generalize World.alloc w _ = w1 at *
  replace o3 := hid o3
  replace k1 := hid k1
  clear qa qb qi qk
  rw [hKe]
  clear hKe
  have hTs : T < w1.heap.size := H.out.cs.lt (by simp [twC])
  have ne3 : T ≠ w1.heap.size := by omega
  have hib5 : ((ib : Nat) : Int) < 4 := by omega
  have hia5 : ((ia : Nat) : Int) < 4 := by omega
  have ne4 : w1.heap.size ≠ T := by omega
  subst hK
  have y0 := hta
  have y1 := (H.out.cellR hl.out hib4).1
  have y2 := (H.out.cellR hl.out hia4).1
  have y3 := htb
  have y4 := (H.out.cellS hl.out hib4).1
  have y5 := (H.out.cellS hl.out hia4).1
  obtain ⟨RA, hRA⟩ : ∃ RA, R.getD ib 0 = RA := ⟨_, rfl⟩
  obtain ⟨RV, hRV⟩ : ∃ RV, R.getD ia 0 = RV := ⟨_, rfl⟩
  obtain ⟨SB, hSB⟩ : ∃ SB, S.getD ib 0 = SB := ⟨_, rfl⟩
  obtain ⟨SV, hSV⟩ : ∃ SV, S.getD ia 0 = SV := ⟨_, rfl⟩
  rw [hRA] at y1
  rw [hRV] at y2
  rw [hSB] at y4
  rw [hSV] at y5
  rcases HP.out.both hib4 with ⟨e1, e2⟩ | ⟨i1, o1, k1', u, dA, dB, es, lk, hu1, hu2, hps⟩
  · exact absurd e2 (by rw [← hibe]; exact hz.out)
  rw [hRA] at dA
  rw [hSB] at dB
  obtain ⟨n, hn1, hn2, hn3⟩ := HP.out.rg.ref ia hia4
  have hpA := HP.out.rg.here ia hia4
  rw [hRV] at hn2 hpA
  rw [hSV] at hn3
  have hpB : SV = 0 ∨ SV ∈ plc B.cur := by
    rcases hn3.place with k | k | k
    · exact .inl k
    · exact .inr k
    · rw [HP.out.tw.still] at k; simp at k
  have lA := Place.le H.out.ha.rep hn2.place
  have lB := Place.le H.out.hb.rep hn3.place
  obtain ⟨bp, hbp⟩ : ∃ bp, Has bp (ii : Int) o1.p := by
    by_cases hf : ii < o1.p
    · exact ⟨true, Has.lt (by omega) (by omega)⟩
    · exact ⟨false, Has.ge (by omega)⟩
  have hbu : Has bp (ii : Int) u.p := by rw [lk.p]; exact hbp
  have hCA := fun W (cw : Calm w1 W) => hsetptr_if (H.out.ha.calm cw) dA hbp (v := RV) hpA lA
  obtain ⟨E, hE⟩ : ∃ E : Int, (bif bp then 0 else 71) = E := ⟨_, rfl⟩
  rw [hE] at hCA
  have hstep := fun (w6 : World) (W : World) (cw : Calm w1 W) (X6 : List Nat) (hA : HAt w6 BA (A.upd i1 (o1.setp bp ii RV)) X6) (hK : HKeep W BA w6 BA) => (H.out.calm cw).stepA hA hK
  have hTA : ¬ HBlk BA T := H.out.ta
  have hTB : ¬ HBlk BB T := H.out.tb
  have hCB := fun (w6 W : World) (X6 : List Nat) (h6 : TwAt w6 b0 T BA BB (A.upd i1 (o1.setp bp ii RV)) B X6 XB R S) (cw : Calm w6 W) => hsetptr_if (h6.hb.calm cw) dB hbu (v := SV) hpB lB
  rw [hE] at hCB
  have hfin := fun (X6 X8 : List Nat) (hA6 : HRep (A.upd i1 (o1.setp bp ii RV)) X6) (hB8 : HRep (B.upd k1' (u.setp bp ii SV)) X8) => (by
    rcases hbp with ⟨rfl, g1, g2⟩ | ⟨rfl, g1⟩
    · exact HP.out.setp H.out.ha.rep H.out.hb.rep dA dB (by omega) es lk hpA hn2 hn3 hA6 hB8
    · have e1 : o1.setp false (ii : Int) RV = o1 := rfl
      have e2 : u.setp false (ii : Int) SV = u := rfl
      rw [e1, e2, upd_same dA, upd_same dB]; exact HP.out : Pair σ (A.upd i1 (o1.setp bp ii RV)) (B.upd k1' (u.setp bp ii SV)) R S 4)
  have hla := H.out.la
  have hlb := H.out.lb
  replace hCA := hid hCA
  replace hCB := hid hCB
  replace hstep := hid hstep
  replace hfin := hid hfin
  replace hla := hid hla
  replace hlb := hid hlb
  replace hTA := hid hTA
  replace hTB := hid hTB
  clear hta htb dA dB es lk hu1 hu2 hps hn1 hn2 hn3 hpA hpB lA lB hbp hbu hE hRA hRV hSB hSV
  have tokA : True := trivial
  go_wp2_with fail
  go_region_held3 (fun w' => w'.cell? ⟨T, 0, none⟩ = some (hpV BA) ∧ w'.cell? ⟨T, 2 + ib, none⟩ = some (.int .i64 (RA : Nat)) ∧ w'.cell? ⟨T, 2 + ia, none⟩ = some (.int .i64 (RV : Nat)) ∧ w'.cell? ⟨T, 1, none⟩ = some (hpV BB) ∧ w'.cell? ⟨T, 6 + ib, none⟩ = some (.int .i64 (SB : Nat)) ∧ w'.cell? ⟨T, 6 + ia, none⟩ = some (.int .i64 (SV : Nat))) (go_keep)
    (first | (have _t := tokA; go_at_call 21; refine (hCA.out _ (by first | exact Fr.refl _ _ | exact (Fr.refl _ _).drew)).mono ?_; rintro e w6 ⟨rfl, X6, hA6, hK6⟩; have ka : From b0 w1 w6 := (From.calm ((by first | exact Fr.refl _ _ | exact (Fr.refl _ _).drew) : Calm w1 _)).trans (TwAt.from_ hla.out hK6); have H6 := hid (hstep.out _ _ (by first | exact Fr.refl _ _ | exact (Fr.refl _ _).drew) _ hA6 hK6); have z0 := hK6.fr.cellAt (show World.cell? _ ⟨T, 0, none⟩ = some (hpV BA) by first | exact y0 | assumption) hTA.out; have z1 := hK6.fr.cellAt (show World.cell? _ ⟨T, 2 + ib, none⟩ = some (.int .i64 (RA : Nat)) by first | exact y1 | assumption) hTA.out; have z2 := hK6.fr.cellAt (show World.cell? _ ⟨T, 2 + ia, none⟩ = some (.int .i64 (RV : Nat)) by first | exact y2 | assumption) hTA.out; have z3 := hK6.fr.cellAt (show World.cell? _ ⟨T, 1, none⟩ = some (hpV BB) by first | exact y3 | assumption) hTA.out; have z4 := hK6.fr.cellAt (show World.cell? _ ⟨T, 6 + ib, none⟩ = some (.int .i64 (SB : Nat)) by first | exact y4 | assumption) hTA.out; have z5 := hK6.fr.cellAt (show World.cell? _ ⟨T, 6 + ia, none⟩ = some (.int .i64 (SV : Nat)) by first | exact y5 | assumption) hTA.out; clear tokA; have tokB : True := trivial) | (have _t := tokB; go_at_call 21; refine (hCB.out _ _ _ H6.out (by first | exact Fr.refl _ _ | exact (Fr.refl _ _).drew)).mono ?_; rintro e w8 ⟨rfl, X8, hB8, hK8⟩; have kb : From b0 w6 w8 := (From.calm ((by first | exact Fr.refl _ _ | exact (Fr.refl _ _).drew) : Calm w6 _)).trans (TwAt.from_ hlb.out hK8); have H8 := hid ((H6.out.calm (by first | exact Fr.refl _ _ | exact (Fr.refl _ _).drew)).stepB hB8 hK8); have u0 := hK8.fr.cellAt (show World.cell? _ ⟨T, 0, none⟩ = some (hpV BA) by first | exact z0 | assumption) hTB.out; have u1 := hK8.fr.cellAt (show World.cell? _ ⟨T, 2 + ib, none⟩ = some (.int .i64 (RA : Nat)) by first | exact z1 | assumption) hTB.out; have u2 := hK8.fr.cellAt (show World.cell? _ ⟨T, 2 + ia, none⟩ = some (.int .i64 (RV : Nat)) by first | exact z2 | assumption) hTB.out; have u3 := hK8.fr.cellAt (show World.cell? _ ⟨T, 1, none⟩ = some (hpV BB) by first | exact z3 | assumption) hTB.out; have u4 := hK8.fr.cellAt (show World.cell? _ ⟨T, 6 + ib, none⟩ = some (.int .i64 (SB : Nat)) by first | exact z4 | assumption) hTB.out; have u5 := hK8.fr.cellAt (show World.cell? _ ⟨T, 6 + ia, none⟩ = some (.int .i64 (SV : Nat)) by first | exact z5 | assumption) hTB.out))
  have hP8 := hid (hfin.out _ _ hA6.rep hB8.rep)
  replace ka := hid ka
  replace kb := hid kb
  clear hA6 hK6 hB8 hK8
  go_wp2
  go_ret
  exact ⟨rfl, ((From.calm k1.out).trans ka.out).trans kb.out, σ, _, _, R, S, BA, BB, _, _, H8.out, rfl, rfl, hP8.out, rfl, .inl ⟨rfl, rfl, rfl⟩, fun _ => rfl⟩

set_option maxRecDepth 4000 in
set_option maxHeartbeats 16000000 in
theorem does_setptr_obj_7 (h : TwAt w b0 T BA BB A B XA XB R S) (hp : Pair σ A B R S 4) (o : Op10) (hok : o.Ok) (hK : pk o.kd 13 = 7) (hz : S.getD (pk o.b 4).toNat 0 ≠ 0) :
    Calls Try.prog 29 #[.pointer (some ⟨T, 0, none⟩), opV o] w (DoesPost w b0 T BA.hp BB.hp σ A B (pk o.kd 13)) := by
  obtain ⟨K, hKe⟩ : ∃ K, pk o.kd 13 = K := ⟨_, rfl⟩
  rw [hKe] at hK ⊢
  replace hz := hid hz
  obtain ⟨okd, oka, okb, oki, okn, ok0, ok1, ok2⟩ := hok
  have hta := h.cellA
  have htb := h.cellB
  have hl : Hid (R.length = 4 ∧ S.length = 4) := ⟨hp.rg.lr, hp.rg.ls⟩
  have hTl := h.cs.lt (by simp [twC])
  have H := hid h
  have HP := hid hp
  have pka := pk_range o.a (n := 4) (by omega)
  have pkb := pk_range o.b (n := 4) (by omega)
  have pki := pk_range o.i (n := 9) (by omega)
  have qa := hid (fun W => pick10 o.a 4 W oka (by omega))
  have qb := hid (fun W => pick10 o.b 4 W okb (by omega))
  have qi := hid (fun W => pick10 o.i 9 W oki (by omega))
  have qk := hid (fun W => pick10 o.kd 13 W okd (by omega))
  obtain ⟨ia, hia⟩ : ∃ k : Nat, pk o.a 4 = k := ⟨(pk o.a 4).toNat, by omega⟩
  obtain ⟨ib, hib⟩ : ∃ k : Nat, pk o.b 4 = k := ⟨(pk o.b 4).toNat, by omega⟩
  obtain ⟨ii, hii⟩ : ∃ k : Nat, pk o.i 9 = k := ⟨(pk o.i 9).toNat, by omega⟩
  rw [hia] at qa pka; rw [hib] at qb pkb; rw [hii] at qi pki
  have hia4 : ia < 4 := by omega
  have hib4 : ib < 4 := by omega
  have hii9 : ii < 9 := by omega
  have hne1 : T ≠ w.heap.size := by omega
  have hne2 : w.heap.size ≠ T := by omega
  have hiae : (pk o.a 4).toNat = ia := by rw [hia]; rfl
  have hibe : (pk o.b 4).toNat = ib := by rw [hib]; rfl
  have hiie : (pk o.i 9).toNat = ii := by rw [hii]; rfl
  clear pka pkb pki hia hib hii h hp
  go_enter Try.func29, Try.ntmps29
  go_wp2_with fail
  have k1 : Calm w (w.alloc (.cells #[.int .i64 o.kd, .int .i64 o.a, .int .i64 o.b, .int .i64 o.i, .int .i64 o.n, .int .i64 o.s0, .int .i64 o.s1, .int .i64 o.s2] 55)) := (Fr.refl _ _).alloc _
  have o3 := OwnL.new w [.int .i64 o.kd, .int .i64 o.a, .int .i64 o.b, .int .i64 o.i, .int .i64 o.n, .int .i64 o.s0, .int .i64 o.s1, .int .i64 o.s2] 55
  refine (qa.out _).mono ?_
  rintro e w1 ⟨rfl, rfl⟩
  go_wp2_with fail
  refine (qb.out _).mono ?_
  rintro e w1 ⟨rfl, rfl⟩
  go_wp2_with fail
  refine (qi.out _).mono ?_
  rintro e w1 ⟨rfl, rfl⟩
  go_wp2_with fail
  refine (qk.out _).mono ?_
  rintro e w1 ⟨rfl, rfl⟩
  replace hta := k1.cellAt hta id
  replace htb := k1.cellAt htb id
  replace H := hid (H.out.calm k1)
  generalize World.alloc w _ = w1 at *
  replace o3 := hid o3
  replace k1 := hid k1
  clear qa qb qi qk
  rw [hKe]
  clear hKe
  have hTs : T < w1.heap.size := H.out.cs.lt (by simp [twC])
  have ne3 : T ≠ w1.heap.size := by omega
  have hib5 : ((ib : Nat) : Int) < 4 := by omega
  have hia5 : ((ia : Nat) : Int) < 4 := by omega
  have ne4 : w1.heap.size ≠ T := by omega
  subst hK
  have y0 := hta
  have y1 := (H.out.cellR hl.out hib4).1
  have y2 := (H.out.cellR hl.out hia4).1
  have y3 := htb
  have y4 := (H.out.cellS hl.out hib4).1
  have y5 := (H.out.cellS hl.out hia4).1
  obtain ⟨RA, hRA⟩ : ∃ RA, R.getD ib 0 = RA := ⟨_, rfl⟩
  obtain ⟨RV, hRV⟩ : ∃ RV, R.getD ia 0 = RV := ⟨_, rfl⟩
  obtain ⟨SB, hSB⟩ : ∃ SB, S.getD ib 0 = SB := ⟨_, rfl⟩
  obtain ⟨SV, hSV⟩ : ∃ SV, S.getD ia 0 = SV := ⟨_, rfl⟩
  rw [hRA] at y1
  rw [hRV] at y2
  rw [hSB] at y4
  rw [hSV] at y5
  rcases HP.out.both hib4 with ⟨e1, e2⟩ | ⟨i1, o1, k1', u, dA, dB, es, lk, hu1, hu2, hps⟩
  · exact absurd e2 (by rw [← hibe]; exact hz.out)
  rw [hRA] at dA
  rw [hSB] at dB
  obtain ⟨n, hn1, hn2, hn3⟩ := HP.out.rg.ref ia hia4
  have hpA := HP.out.rg.here ia hia4
  rw [hRV] at hn2 hpA
  rw [hSV] at hn3
  have hpB : SV = 0 ∨ SV ∈ plc B.cur := by
    rcases hn3.place with k | k | k
    · exact .inl k
    · exact .inr k
    · rw [HP.out.tw.still] at k; simp at k
  have lA := Place.le H.out.ha.rep hn2.place
  have lB := Place.le H.out.hb.rep hn3.place
  obtain ⟨bp, hbp⟩ : ∃ bp, Has bp (ii : Int) o1.p := by
    by_cases hf : ii < o1.p
    · exact ⟨true, Has.lt (by omega) (by omega)⟩
    · exact ⟨false, Has.ge (by omega)⟩
  have hbu : Has bp (ii : Int) u.p := by rw [lk.p]; exact hbp
  have hCA := fun W (cw : Calm w1 W) => hsetptr_if (H.out.ha.calm cw) dA hbp (v := RV) hpA lA
  obtain ⟨E, hE⟩ : ∃ E : Int, (bif bp then 0 else 71) = E := ⟨_, rfl⟩
  rw [hE] at hCA
  have hstep := fun (w6 : World) (W : World) (cw : Calm w1 W) (X6 : List Nat) (hA : HAt w6 BA (A.upd i1 (o1.setp bp ii RV)) X6) (hK : HKeep W BA w6 BA) => (H.out.calm cw).stepA hA hK
  have hTA : ¬ HBlk BA T := H.out.ta
  have hTB : ¬ HBlk BB T := H.out.tb
  have hCB := fun (w6 W : World) (X6 : List Nat) (h6 : TwAt w6 b0 T BA BB (A.upd i1 (o1.setp bp ii RV)) B X6 XB R S) (cw : Calm w6 W) => hsetptr_if (h6.hb.calm cw) dB hbu (v := SV) hpB lB
  rw [hE] at hCB
  have hfin := fun (X6 X8 : List Nat) (hA6 : HRep (A.upd i1 (o1.setp bp ii RV)) X6) (hB8 : HRep (B.upd k1' (u.setp bp ii SV)) X8) => (by
    rcases hbp with ⟨rfl, g1, g2⟩ | ⟨rfl, g1⟩
    · exact HP.out.setp H.out.ha.rep H.out.hb.rep dA dB (by omega) es lk hpA hn2 hn3 hA6 hB8
    · have e1 : o1.setp false (ii : Int) RV = o1 := rfl
      have e2 : u.setp false (ii : Int) SV = u := rfl
      rw [e1, e2, upd_same dA, upd_same dB]; exact HP.out : Pair σ (A.upd i1 (o1.setp bp ii RV)) (B.upd k1' (u.setp bp ii SV)) R S 4)
  have hla := H.out.la
  have hlb := H.out.lb
  replace hCA := hid hCA
  replace hCB := hid hCB
  replace hstep := hid hstep
  replace hfin := hid hfin
  replace hla := hid hla
  replace hlb := hid hlb
  replace hTA := hid hTA
  replace hTB := hid hTB
  clear hta htb dA dB es lk hu1 hu2 hps hn1 hn2 hn3 hpA hpB lA lB hbp hbu hE hRA hRV hSB hSV
  have tokA : True := trivial
  go_wp2_with fail
  go_region_held3 (fun w' => w'.cell? ⟨T, 0, none⟩ = some (hpV BA) ∧ w'.cell? ⟨T, 2 + ib, none⟩ = some (.int .i64 (RA : Nat)) ∧ w'.cell? ⟨T, 2 + ia, none⟩ = some (.int .i64 (RV : Nat)) ∧ w'.cell? ⟨T, 1, none⟩ = some (hpV BB) ∧ w'.cell? ⟨T, 6 + ib, none⟩ = some (.int .i64 (SB : Nat)) ∧ w'.cell? ⟨T, 6 + ia, none⟩ = some (.int .i64 (SV : Nat))) (go_keep)
    (first | (have _t := tokA; go_at_call 21; refine (hCA.out _ (by first | exact Fr.refl _ _ | exact (Fr.refl _ _).drew)).mono ?_; rintro e w6 ⟨rfl, X6, hA6, hK6⟩; have ka : From b0 w1 w6 := (From.calm ((by first | exact Fr.refl _ _ | exact (Fr.refl _ _).drew) : Calm w1 _)).trans (TwAt.from_ hla.out hK6); have H6 := hid (hstep.out _ _ (by first | exact Fr.refl _ _ | exact (Fr.refl _ _).drew) _ hA6 hK6); have z0 := hK6.fr.cellAt (show World.cell? _ ⟨T, 0, none⟩ = some (hpV BA) by first | exact y0 | assumption) hTA.out; have z1 := hK6.fr.cellAt (show World.cell? _ ⟨T, 2 + ib, none⟩ = some (.int .i64 (RA : Nat)) by first | exact y1 | assumption) hTA.out; have z2 := hK6.fr.cellAt (show World.cell? _ ⟨T, 2 + ia, none⟩ = some (.int .i64 (RV : Nat)) by first | exact y2 | assumption) hTA.out; have z3 := hK6.fr.cellAt (show World.cell? _ ⟨T, 1, none⟩ = some (hpV BB) by first | exact y3 | assumption) hTA.out; have z4 := hK6.fr.cellAt (show World.cell? _ ⟨T, 6 + ib, none⟩ = some (.int .i64 (SB : Nat)) by first | exact y4 | assumption) hTA.out; have z5 := hK6.fr.cellAt (show World.cell? _ ⟨T, 6 + ia, none⟩ = some (.int .i64 (SV : Nat)) by first | exact y5 | assumption) hTA.out; clear tokA; have tokB : True := trivial) | (have _t := tokB; go_at_call 21; refine (hCB.out _ _ _ H6.out (by first | exact Fr.refl _ _ | exact (Fr.refl _ _).drew)).mono ?_; rintro e w8 ⟨rfl, X8, hB8, hK8⟩; have kb : From b0 w6 w8 := (From.calm ((by first | exact Fr.refl _ _ | exact (Fr.refl _ _).drew) : Calm w6 _)).trans (TwAt.from_ hlb.out hK8); have H8 := hid ((H6.out.calm (by first | exact Fr.refl _ _ | exact (Fr.refl _ _).drew)).stepB hB8 hK8); have u0 := hK8.fr.cellAt (show World.cell? _ ⟨T, 0, none⟩ = some (hpV BA) by first | exact z0 | assumption) hTB.out; have u1 := hK8.fr.cellAt (show World.cell? _ ⟨T, 2 + ib, none⟩ = some (.int .i64 (RA : Nat)) by first | exact z1 | assumption) hTB.out; have u2 := hK8.fr.cellAt (show World.cell? _ ⟨T, 2 + ia, none⟩ = some (.int .i64 (RV : Nat)) by first | exact z2 | assumption) hTB.out; have u3 := hK8.fr.cellAt (show World.cell? _ ⟨T, 1, none⟩ = some (hpV BB) by first | exact z3 | assumption) hTB.out; have u4 := hK8.fr.cellAt (show World.cell? _ ⟨T, 6 + ib, none⟩ = some (.int .i64 (SB : Nat)) by first | exact z4 | assumption) hTB.out; have u5 := hK8.fr.cellAt (show World.cell? _ ⟨T, 6 + ia, none⟩ = some (.int .i64 (SV : Nat)) by first | exact z5 | assumption) hTB.out))
  have hP8 := hid (hfin.out _ _ hA6.rep hB8.rep)
  replace ka := hid ka
  replace kb := hid kb
  clear hA6 hK6 hB8 hK8
  go_wp2
  go_ret
  exact ⟨rfl, ((From.calm k1.out).trans ka.out).trans kb.out, σ, _, _, R, S, BA, BB, _, _, H8.out, rfl, rfl, hP8.out, rfl, .inl ⟨rfl, rfl, rfl⟩, fun _ => rfl⟩

end

end Go.Proofs.Ytiomemdmhcdpbaa
