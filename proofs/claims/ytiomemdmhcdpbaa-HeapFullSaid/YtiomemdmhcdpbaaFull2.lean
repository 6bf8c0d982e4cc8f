/- HeapFull returns true: its walk (UNDER WAY: not built whole). -/
import Derived.Test.YtiomemdmhcdpbaaFull
set_option linter.unusedSimpArgs false
set_option linter.unusedVariables false
namespace Go.Proofs.Ytiomemdmhcdpbaa
open Go.RowKit Go.Shelf

theorem alloc_room {s : HS} {p d : Nat} {wk fn : Bool} (hok : okS p d wk fn) (hs : s.ser + 1 ≤ 1099511627776) : (s.alloc p d wk fn).room = s.room - rnd ((3 + p + d : Nat) : Int) := by
  have ht := (Ob.took_eq (Ob.new_ok (ser := s.ser + 1) hok (by omega))).1
  have e : (Ob.new p d wk fn (s.ser + 1)).size = 3 + p + d := rfl
  rw [e] at ht
  unfold HS.room
  show ((s.n : Int) - (tookC (s.cur ++ [(s.top, Ob.new p d wk fn (s.ser + 1))]) : Nat) - owed s.old) = _
  rw [tookC_snoc, ← ht]
  push_cast
  omega

set_option maxRecDepth 100000 in
set_option maxHeartbeats 16000000 in
theorem heapFull_walk (v : Value) (l : List Op10) (hm : l.length ≤ maxLen) (xs : List Int) (hx : xs.length = 3) (hxb : ∀ x ∈ xs, I64 x) (w : World) (hr : RowK w v 8 (l.map Op10.cells)) (hl : ∀ o ∈ l, o.Ok) :
    Calls Try.prog 8 #[v, .agg (xs.map (Value.int .i64)).toArray] w fun e w' => e = .returned (.bool true) ∧ Below w.heap.size w w' := by
  obtain ⟨r0, r1, r2, rfl, hr0, hr1, hr2⟩ : ∃ a b c : Int, xs = [a, b, c] ∧ I64 a ∧ I64 b ∧ I64 c := by
    match xs, hx, hxb with
    | [a, b, c], _, h => exact ⟨a, b, c, rfl, h a (by simp), h b (by simp), h c (by simp)⟩
  clear hx hxb
  simp only [List.map_cons, List.map_nil]
  obtain ⟨ra, rc, rfl, hrk⟩ := hr.cells
  obtain ⟨n, hn⟩ : ∃ n, l.length = n := ⟨_, rfl⟩
  rw [hn] at hm ⊢
  unfold maxLen at hm
  replace hrk := hid hrk
  replace hl := hid hl
  replace hn := hid hn
  have hmn : (n : Int) ≤ 9223372036854775807 := by omega
  replace hm := hid hm
  replace hmn := hid hmn
  have k0 : Calm w (w.alloc (.cells #[.int .i64 r0, .int .i64 r1, .int .i64 r2] 34)) := (Fr.refl _ _).alloc _
  have o3 := OwnL.new w [.int .i64 r0, .int .i64 r1, .int .i64 r2] 34
  replace o3 := hid o3
  clear hr
  go_enter Try.func8, Try.ntmps8
  go_wp2_with fail
  refine (awake10 _).mono ?_
  rintro e w0 ⟨rfl, c0⟩
  replace o3 := hid (o3.out.calm c0)
  replace c0 := k0.trans c0
  clear k0
  go_wp2_with fail
  refine (begin_yes _ 100 (by decide) (by decide)).mono ?_
  rintro e w1 ⟨T, BA, BB, XA, XB, rfl, hT, c1⟩
  have hI0 := hid (FullI.start hT (c0.trans c1) c0.size)
  have hgT : w.heap.size < w0.heap.size := o3.out.lt (by simp)
  have hT0 := hT.lt
  replace o3 := hid (o3.out.calm c1)
  clear hT c0 c1
  generalize hb0 : w0.heap.size = b0 at *
  clear hb0
  go_wp2_with fail
  go_loopw [7] (fun i wr => ∃ k : Nat, k ≤ n ∧ k ≤ 60 ∧ i = .int .i64 k ∧ FullI w b0 T 100 k wr ∧ Hid (OwnL wr w.heap.size [.int .i64 r0, .int .i64 r1, .int .i64 r2])) (fun i _ => 60 - (intOf i).toNat)
  case atStart => exact ⟨0, by omega, by omega, rfl, hI0.out, o3⟩
  case round =>
    clear hI0 o3
    obtain ⟨k, hk, hk60, rfl, ⟨σ, A, B, R, S, BA, BB, XA, XB, hT, hP, hAn, hAs, hBs, hc, hwb⟩, o3⟩ := hrel
    by_cases hlt : k < n ∧ k < 60
    · obtain ⟨hlt, hlt60⟩ := hlt
      have hkl : k < l.length := by rw [hn.out]; exact hlt
      obtain ⟨b, off, rfl, hcell⟩ := hrk.out k l[k] (by simp [hkl])
      have hok := hl.out l[k] (List.getElem_mem hkl)
      have g0 := hc.cellAt (p := ⟨b, off + k * 8 + 0, none⟩) (hcell 0 _ rfl) id
      have g1 := hc.cellAt (p := ⟨b, off + k * 8 + 1, none⟩) (hcell 1 _ rfl) id
      have g2 := hc.cellAt (p := ⟨b, off + k * 8 + 2, none⟩) (hcell 2 _ rfl) id
      have g3 := hc.cellAt (p := ⟨b, off + k * 8 + 3, none⟩) (hcell 3 _ rfl) id
      have g4 := hc.cellAt (p := ⟨b, off + k * 8 + 4, none⟩) (hcell 4 _ rfl) id
      have g5 := hc.cellAt (p := ⟨b, off + k * 8 + 5, none⟩) (hcell 5 _ rfl) id
      have g6 := hc.cellAt (p := ⟨b, off + k * 8 + 6, none⟩) (hcell 6 _ rfl) id
      have g7 := hc.cellAt (p := ⟨b, off + k * 8 + 7, none⟩) (hcell 7 _ rfl) id
      rw [Nat.add_zero] at g0
      have hD := hid (does_is hT hP ⟨by omega, by omega⟩ l[k] hok)
      clear hcell
      generalize l[k] = o at *
      replace hT := hid hT
      replace hP := hid hP
      go_wp2_with fail
      refine (hD.out).mono ?_
      rintro e w2 ⟨rfl, hf2, σ2, A2, B2, R2, S2, BA2, BB2, XA2, XB2, hT2, e1, e2, hP2, hn2, hg2, _⟩
      have hser : A2.ser ≤ A.ser + 1 ∧ B2.ser ≤ B.ser + 1 := by rcases hg2 with ⟨_, a, b⟩ | ⟨_, a, b⟩ <;> omega
      have hc2 : Calm w w2 := hc.join hf2 (fun j hj h => by omega)
      replace o3 := hid (o3.out.fr hf2 (by omega))
      replace hf2 := hid hf2
      have x0 := (o3.out 0 _ rfl).1
      have x1 := (o3.out 1 _ rfl).1
      have x2 := (o3.out 2 _ rfl).1
      have hfit := hid (fun W => fit06d r0 r1 r2 hr0 hr1 hr2 W)
      have hA2n : A2.n = 100 := hn2.trans hAn
      have hsA : A2.ser ≤ 2 * k + 1 := by omega
      have hsB : B2.ser ≤ k + 1 := by omega
      have hltA : Hid (∀ k, HBlk BA2 k → k < w2.heap.size) := hT2.ha.lt
      replace hT2 := hid hT2
      replace hP2 := hid hP2
      clear hD hg2 hT hP g0 g1 g2 g3 g4 g5 g6 g7 hn2 hAn hAs hBs hser hok
      go_wp2_with fail
      refine (hfit.out _).mono ?_
      rintro e w3 ⟨p, d, wk, fn, okp, rfl, c3, -⟩
      have o8 := OwnL.new w3 [.int .i64 p, .int .i64 d, .bool wk, .bool fn] 32
      have c4 : Calm w2 (w3.alloc (.cells #[.int .i64 p, .int .i64 d, .bool wk, .bool fn] 32)) := c3.alloc _
      have z0 := (o8 0 _ rfl).1
      have z1 := (o8 1 _ rfl).1
      have p8 := okp.1
      have d8 := okp.2.1
      obtain ⟨m, hmm⟩ : ∃ m, 3 + p + d = m := ⟨_, rfl⟩
      have hcast : (3 : Int) + p + d = (m : Int) := by rw [← hmm]; push_cast; rfl
      have hm19 : m ≤ 19 := by omega
      have hm3 : 3 ≤ m := by omega
      replace okp := hid okp
      replace o8 := hid o8
      go_wp2_with fail
      refine (round_yes m (by omega) (by omega) _).mono ?_
      rintro e w5 ⟨rfl, c5⟩
      clear hcast z0 z1
      replace o8 := hid (o8.out.calm c5)
      replace o3 := hid ((o3.out.calm c4).calm c5)
      replace c5 := c4.trans c5
      have hg3 : Hid (w2.heap.size ≤ w3.heap.size) := c3.size
      clear c3 c4
      by_cases h5 : (k : Int) % 6 = 5
      · have hb5 : ((k : Int) % 6 != 5) = false := by rw [h5]; rfl
        have hT5 := hid (hT2.out.calm c5)
        have hta := hT5.out.cellA
        have hR := hid (room_is hT5.out.ha)
        obtain ⟨RM, hRM⟩ : ∃ RM, A2.room = RM := ⟨_, rfl⟩
        rw [hRM] at hR
        replace hRM := hid hRM
        clear h5
        go_wp2_with fail
        refine (hR.out).mono ?_
        rintro e w6 ⟨rfl, c6⟩
        replace hta := c6.cellAt hta id
        replace hT5 := hid (hT5.out.calm c6)
        have hg6 : Hid (w2.heap.size ≤ w6.heap.size) := by have := c5.size; have := c6.size; show _ ≤ _; omega
        have hl2 : Hid (R2.length = 4 ∧ S2.length = 4) := ⟨hP2.out.rg.lr, hP2.out.rg.ls⟩
        have hCn := hid (fun W (cw : Calm w6 W) => hcanon (hT5.out.ha.calm cw) hP2.out.ptrs ((hT5.out.rowR hl2.out).calm cw) (by rw [hl2.out.1]; omega) hP2.out.placed)
        go_wp2_with fail
        go_region_held3 (fun w' => w'.cell? ⟨T, 0, none⟩ = some (hpV BA2)) (go_keep)
          (first | (go_at_call 36; refine (hCn.out _ (by first | exact Fr.refl _ _ | exact (Fr.refl _ _).drew)).mono ?_; rintro e w7 ⟨vn, vs, Rr, ls, B9, rfl, q1, q2, q3, q4, q5, q6, q7⟩; have ka : Calm w6 w7 := Fr.trans (by first | exact Fr.refl _ _ | exact (Fr.refl _ _).drew) q7; have u0 := ka.cellAt hta id))
        replace q1 := hid q1
        replace q2 := hid q2
        replace q3 := hid q3
        replace hT5 := hid (hT5.out.calm ka)
        replace o8 := hid ((o8.out.calm c6).calm ka)
        replace o3 := hid ((o3.out.calm c6).calm ka)
        have hc7 := ((hc2.trans c5).trans c6).trans ka
        obtain ⟨g8, hg8⟩ : ∃ g, w3.heap.size = g := ⟨_, rfl⟩
        rw [hg8] at o8
        have hgl := o8.out.lt (by simp)
        have hg5 : w2.heap.size ≤ g8 := by rw [← hg8]; exact hg3.out
        obtain ⟨y0, -⟩ := o8.out 0 _ rfl
        obtain ⟨y1, -⟩ := o8.out 1 _ rfl
        obtain ⟨y2, -⟩ := o8.out 2 _ rfl
        obtain ⟨y3, -⟩ := o8.out 3 _ rfl
        clear q4 q5 q6 q7 hCn hta c6 ka
        obtain ⟨RD, hRD⟩ : ∃ RD, rnd (m : Int) = RD := ⟨_, rfl⟩
        have hrm0 : ¬ RM < 0 := by have := hT5.out.ha.rep.room; have := hRM.out; unfold HS.room at this; omega
        have hseeA := hid (show NSee w7 vn ls from q2.out.see)
        have hfewA := hid (canon_few (s := A2) (rs := R2) (R := Rr) (ls := ls) hT5.out.ha.rep hP2.out.ptrs hP2.out.placed (addAll_nodup R2 (by simp)) q1.out q3.out)
        obtain ⟨va, vc, vl, rfl⟩ : ∃ a c l, vn = .slice a l c := by obtain ⟨a, c, e⟩ := q2.out.slice; exact ⟨a, c, _, e⟩
        rw [hRD]
        rcases Int.lt_or_le RM RD with hno | hyes
        · have hAl := hid (fun W (cw : Calm w7 W) => halloc_no (hT5.out.ha.calm cw) okp.out (by rw [hmm, hRD, hRM.out]; exact hno))
          have hle : ¬ RD ≤ RM := by omega
          go_wp2_with fail
          go_region_held3 (fun w' => w'.cell? ⟨T, 0, none⟩ = some (hpV BA2) ∧ w'.cell? ⟨g8, 0, none⟩ = some (.int .i64 p) ∧ w'.cell? ⟨g8, 1, none⟩ = some (.int .i64 d) ∧ w'.cell? ⟨g8, 2, none⟩ = some (.bool wk) ∧ w'.cell? ⟨g8, 3, none⟩ = some (.bool fn)) (go_keep)
            (first | (go_at_call 13; refine (hAl.out _ (by first | exact Fr.refl _ _ | exact (Fr.refl _ _).drew)).mono ?_; rintro e w8 ⟨rfl, c8⟩; have kb : Calm w7 w8 := Fr.trans (by first | exact Fr.refl _ _ | exact (Fr.refl _ _).drew) c8; have z0 := kb.cellAt u0 id; have z1 := kb.cellAt y0 id; have z2 := kb.cellAt y1 id; have z3 := kb.cellAt y2 id; have z4 := kb.cellAt y3 id))
          go_wp2_with fail
          have hRm := hid (fun W (cw : Calm w7 W) => room_is (hT5.out.ha.calm cw))
          rw [hRM.out] at hRm
          refine (hRm.out _ kb).mono ?_
          rintro e w9 ⟨rfl, c9⟩
          have kc9 := kb.trans c9
          have z9 := kc9.cellAt u0 id
          have hCn2 := hid (fun W (cw : Calm w9 W) => hcanon (hT5.out.ha.calm (kc9.trans cw)) hP2.out.ptrs ((hT5.out.rowR hl2.out).calm (kc9.trans cw)) (by rw [hl2.out.1]; omega) hP2.out.placed)
          replace kb := hid kb
          clear c9 c8 z0 z1 z2 z3 z4 hRm hAl u0 y0 y1 y2 y3
          go_wp2_with fail
          go_region_held3 (fun w' => w'.cell? ⟨T, 0, none⟩ = some (hpV BA2)) (go_keep)
            (first | (go_at_call 36; refine (hCn2.out _ (by first | exact Fr.refl _ _ | exact (Fr.refl _ _).drew)).mono ?_; rintro e w10 ⟨vn2, vs2, Rr2, ls2, B92, rfl, p1, p2, p3, p4, p5, p6, p7⟩; have kd : Calm w9 w10 := Fr.trans (by first | exact Fr.refl _ _ | exact (Fr.refl _ _).drew) p7; have u1 := kd.cellAt z9 id))
          obtain rfl : Rr2 = Rr := p1.unique q1.out
          have en := hid (q3.out.trans p3.symm)
          have hfew2 := hid (canon_few (s := A2) (rs := R2) (R := Rr2) (ls := ls2) hT5.out.ha.rep hP2.out.ptrs hP2.out.placed (addAll_nodup R2 (by simp)) p1 p3)
          have hsee2 := hid p2.see
          have hseeC := hid (hseeA.out.calm (kc9.trans kd))
          have hkd := hid (kc9.trans kd)
          obtain ⟨va2, vc2, vl2, rfl⟩ : ∃ a c l, vn2 = .slice a l c := by obtain ⟨a, c, e⟩ := p2.slice; exact ⟨a, c, _, e⟩
          have hSm := hid (same9_yes hseeC.out hsee2.out hfewA.out hfew2.out en.out)
          clear p1 p2 p3 p4 p5 p6 p7 hCn2 kd kc9 u1 z9
          go_wp2_with fail
          refine (hSm.out).mono ?_
          rintro e w11 ⟨rfl, c11⟩
          have kf := hkd.out.trans c11
          have hT9 := hid (hT5.out.calm kf)
          have o9 := hid (o3.out.calm kf)
          have hc9 := hc7.trans kf
          go_wp2
          go_roundw
          case rel => exact ⟨k + 1, by omega, by omega, by go_num, ⟨σ2, A2, B2, R2, S2, BA2, BB2, XA2, XB2, hT9.out, hP2.out, hA2n, by omega, by omega, hc9, hwb⟩, o9.out⟩
          case measure => simp [intOf]; omega
        · have hAl := hid (fun W (cw : Calm w7 W) => halloc_yes (hT5.out.ha.calm cw) okp.out (by rw [hmm, hRD, hRM.out]; exact hyes) (by omega) ⟨by have := hP2.out.ca.few.1; omega, by have := hP2.out.ca.few.2; omega⟩)
          have hle : RD ≤ RM := hyes
          have hTA : Hid (¬ HBlk BA2 T) := hT5.out.ta
          have hnA : Hid (¬ HBlk BA2 g8) := fun e => by have := hltA.out _ e; omega
          go_wp2_with fail
          go_region_held3 (fun w' => w'.cell? ⟨T, 0, none⟩ = some (hpV BA2) ∧ w'.cell? ⟨g8, 0, none⟩ = some (.int .i64 p) ∧ w'.cell? ⟨g8, 1, none⟩ = some (.int .i64 d) ∧ w'.cell? ⟨g8, 2, none⟩ = some (.bool wk) ∧ w'.cell? ⟨g8, 3, none⟩ = some (.bool fn)) (go_keep)
            (first | (go_at_call 13; refine (hAl.out _ (by first | exact Fr.refl _ _ | exact (Fr.refl _ _).drew)).mono ?_; rintro e w8 ⟨rfl, BA8, XA8, hA8, hK8⟩; have kb : From b0 w7 w8 := (From.calm ((by first | exact Fr.refl _ _ | exact (Fr.refl _ _).drew) : Calm w7 _)).trans (TwAt.from_ hT5.out.la hK8); have kh : Fr (HBlk BA2) w7 w8 := (Calm.any ((by first | exact Fr.refl _ _ | exact (Fr.refl _ _).drew) : Calm w7 _)).trans hK8.fr; have H8 := hid ((hT5.out.calm (by first | exact Fr.refl _ _ | exact (Fr.refl _ _).drew)).stepA hA8 hK8); have z0 := kh.cellAt u0 hTA.out; have z1 := kh.cellAt y0 hnA.out; have z2 := kh.cellAt y1 hnA.out; have z3 := kh.cellAt y2 hnA.out; have z4 := kh.cellAt y3 hnA.out))
          have e8 := hK8.hp
          have hP8 := hid (hP2.out.allocA hT5.out.ha.rep hA8.rep)
          have hrm := alloc_room (s := A2) okp.out (by omega)
          rw [hmm, hRD, hRM.out] at hrm
          have hRD2 : RD ≤ 24 := by rw [← hRD, ← hmm]; exact fit_rnd okp.out
          have hRm := hid (fun W (cw : Calm w8 W) => room_is (hA8.calm cw))
          rw [hrm, show hpV BA8 = hpV BA2 by unfold hpV; rw [e8]] at hRm
          have hHe := hid (fun W (cw : Calm w8 W) => here_yes (a := A2.top) (hA8.calm cw) (List.mem_map.2 ⟨_, alloc_here, rfl⟩) (hA8.rep.plc_le (List.mem_map.2 ⟨_, alloc_here, rfl⟩)))
          rw [show hpV BA8 = hpV BA2 by unfold hpV; rw [e8]] at hHe
          have hseeB : Hid (NSee w8 (.slice va vl vc) ls) := (q2.out.fr kh (fun x hx b hb e => by
            have h1 := (q2.out.lt x hx b hb).1
            have h2 := hltA.out b e
            have h3 := hg6.out
            have h4 : w6.heap.size ≤ b := h1
            omega)).see
          have hCn2 := hid (fun W (cw : Calm w8 W) => hcanon (hA8.calm cw) hP8.out.ptrs ((H8.out.rowR hl2.out).calm cw) (by rw [hl2.out.1]; omega) hP8.out.placed)
          rw [show hpV BA8 = hpV BA2 by unfold hpV; rw [e8]] at hCn2
          have hRM2 : 0 ≤ RM - RD ∧ RM ≤ 100 := by
            have h1 := hT5.out.ha.rep.room; have h2 := hRM.out; unfold HS.room at h2; omega
          have hrep8 := hid hA8.rep
          obtain ⟨DF, hDF⟩ : ∃ DF, RM - RD = DF := ⟨_, rfl⟩
          rw [hDF] at hRm hRM2
          obtain ⟨hDF0, hRM3⟩ := hRM2
          have hDF1 : DF ≤ 100 := by have h2 := hrm; unfold HS.room at h2; have h3 : (A2.alloc p d wk fn).n = 100 := hA2n; omega
          replace hRM3 := hid hRM3
          replace hRD2 := hid hRD2
          replace hle := hid hle
          replace kb := hid kb
          replace kh := hid kh
          clear hA8 hK8 hAl u0 y0 y1 y2 y3 hrm
          go_wp2_with fail
          refine (hRm.out _ (Fr.refl _ _)).mono ?_
          rintro e w9 ⟨rfl, c9⟩
          have y9 := c9.cellAt z0 id
          go_wp2_with fail
          refine (hHe.out _ c9).mono ?_
          rintro e w9' ⟨rfl, c9'⟩
          have z9 := c9'.cellAt y9 id
          have kc9 := c9.trans c9'
          clear c9 c9' z0 z1 z2 z3 z4 y9 hRm hHe
          generalize hw9 : w9' = w9 at *
          clear hw9
          replace kc9 := hid kc9
          replace hCn2 := hid (fun W (cw : Calm w9 W) => hCn2.out W (kc9.out.trans cw))
          go_wp2_with fail
          go_region_held3 (fun w' => w'.cell? ⟨T, 0, none⟩ = some (hpV BA2)) (go_keep)
            (first | (go_at_call 36; refine (hCn2.out _ (by first | exact Fr.refl _ _ | exact (Fr.refl _ _).drew)).mono ?_; rintro e w10 ⟨vn2, vs2, Rr2, ls2, B92, rfl, p1, p2, p3, p4, p5, p6, p7⟩; have kd : Calm w9 w10 := Fr.trans (by first | exact Fr.refl _ _ | exact (Fr.refl _ _).drew) p7; have u1 := kd.cellAt z9 id))
          obtain ⟨r1, r2⟩ := alloc_canon hT5.out.ha.rep hP2.out.ptrs hrep8.out hP2.out.placed q1.out p1
          subst r1
          have en := hid (q3.out.trans (r2.symm.trans p3.symm))
          have hfew2 := hid (canon_few (s := A2.alloc p d wk fn) (rs := R2) (R := Rr2) (ls := ls2) hrep8.out hP8.out.ptrs hP8.out.placed (addAll_nodup R2 (by simp)) p1 p3)
          have hsee2 := hid p2.see
          have hseeC := hid (hseeB.out.calm (kc9.out.trans kd))
          have hkd := hid (kc9.out.trans kd)
          obtain ⟨va2, vc2, vl2, rfl⟩ : ∃ a c l, vn2 = .slice a l c := by obtain ⟨a, c, e⟩ := p2.slice; exact ⟨a, c, _, e⟩
          have hSm := hid (same9_yes hseeC.out hsee2.out hfewA.out hfew2.out en.out)
          clear p1 p2 p3 p4 p5 p6 p7 hCn2 kd kc9 u1 z9 r2
          go_wp2_with fail
          refine (hSm.out).mono ?_
          rintro e w11 ⟨rfl, c11⟩
          have kf := hkd.out.trans c11
          have hT9 := hid (H8.out.calm kf)
          have o9 := hid ((o3.out.fr kb.out (by omega)).calm kf)
          have hc9 : Calm w w11 := (hc7.join kb.out (fun j hj h => by omega)).trans kf
          have hA8n : (A2.alloc p d wk fn).n = 100 := hA2n
          have hA8s : (A2.alloc p d wk fn).ser = A2.ser + 1 := rfl
          go_wp2
          go_roundw
          case rel => exact ⟨k + 1, by omega, by omega, by go_num, ⟨σ2, A2.alloc p d wk fn, B2, R2, S2, BA8, BB2, XA8, XB2, hT9.out, hP8.out, hA8n, by omega, by omega, hc9, hwb⟩, o9.out⟩
          case measure => simp [intOf]; omega
      · have hb5 : ((k : Int) % 6 != 5) = true := by simp [h5]
        clear h5
        have hT3 := hid (hT2.out.calm c5)
        have hcc := hc2.trans c5
        go_wp2
        go_roundw
        case rel => exact ⟨k + 1, by omega, by omega, by go_num, ⟨σ2, A2, B2, R2, S2, BA2, BB2, XA2, XB2, hT3.out, hP2.out, hA2n, by omega, by omega, hcc, hwb⟩, o3⟩
        case measure => simp [intOf]; omega
    · replace hT := hid hT
      replace hP := hid hP
      rcases Nat.lt_or_ge k n with hlt2 | hge2
      · have hge60 : 60 ≤ k := by omega
        clear hlt
        go_wp2
        go_ret
        exact ⟨rfl, hc.below⟩
      · clear hlt
        go_wp2
        go_ret
        exact ⟨rfl, hc.below⟩

end Go.Proofs.Ytiomemdmhcdpbaa
