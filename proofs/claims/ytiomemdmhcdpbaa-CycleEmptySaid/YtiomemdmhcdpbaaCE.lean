/- CycleEmpty returns true: its walk. -/
import Derived.Test.YtiomemdmhcdpbaaCycI
set_option linter.unusedSimpArgs false
set_option linter.unusedVariables false
namespace Go.Proofs.Ytiomemdmhcdpbaa
open Go.RowKit Go.Shelf

theorem zget (j : Nat) : ([0, 0, 0, 0] : List Nat).getD j 0 = 0 := by
  match j with
  | 0 => rfl
  | 1 => rfl
  | 2 => rfl
  | 3 => rfl
  | n + 4 => rfl
theorem Pair.zero {σ : Nat → Nat} {A B : HS} {R S : List Nat} (h : Pair σ A B R S 4) (hs : σ 0 = 0) : Pair σ A B [0, 0, 0, 0] [0, 0, 0, 0] 4 :=
  ⟨h.tw, h.ca, h.bm, h.bn, h.bt, h.bf, ⟨rfl, rfl, fun j hj => .inl (zget j), fun j hj => ⟨0, Nat.zero_le _, by rw [zget j, hs]; exact .inl ⟨rfl, rfl⟩, by rw [zget j]; exact .inl ⟨rfl, rfl⟩⟩⟩⟩
theorem GoesL.in_cur {s s' : HS} {X l l' : List Nat} (hr : HRep s X) (g : GoesL s l s' l') (hl : ∀ p ∈ l, p ∈ opl s.old) : ∀ q ∈ l', q ∈ plc s'.cur := by
  induction g with
  | nil => intro q hq; cases hq
  | snoc h g ih =>
    intro q hq
    obtain ⟨X1, h1⟩ := h.rep hr
    rcases List.mem_append.1 hq with hq | hq
    · exact (GoesL.one g).mem.2.1 q (ih (fun p hp => hl p (List.mem_append.2 (.inl hp))) q hq)
    · rw [List.mem_singleton.1 hq]
      cases g with
      | stay h2 => exact absurd (by rw [h.same.2.2.2.2.2.2.2]; exact hl _ (List.mem_append.2 (.inr (List.mem_singleton.2 rfl)))) h2
      | gone c => exact GoneTo.cur h1 ⟨_, _, c⟩
      | move c => simp [HS.move, plc]
theorem Gath.empty {s : HS} {G : List Nat} (w : WF s) (h : Gath s G) (hG : ∀ q ∈ G, q = 0) : s.cur = [] := by
  have hno : ∀ q, Cto s G q → False := fun q hq => by
    induction hq with
    | root h1 h2 =>
      have := hG _ h1
      subst this
      obtain ⟨x, hx, e⟩ := List.mem_map.1 h2
      have := w.posC x hx
      omega
    | step _ _ _ _ ih => exact ih
  rcases hc : s.cur with _ | ⟨x, l⟩
  · rfl
  · exact (hno x.1 (h x.1 (List.mem_map.2 ⟨x, by rw [hc]; simp, rfl⟩))).elim
/-- A collection without roots behind s steps. -/
def EmS (w : World) (b0 T c F L : Nat) (σ : Nat → Nat) (B : HS) (BB : HB) (XB R S : List Nat) (s : Nat) (done : Bool) (wz : World) : Prop :=
  ∃ A BA XA ph rv lv rd ls k, CyT w b0 T c BA BB A B XA XB R S ph rv lv rd ls wz ∧ A.n = 300 ∧ A.ser ≤ 30 ∧ rd.length ≤ 100 ∧ ls.length ≤ (if ph = 0 then L + 30 else L) ∧
    ((ph = 1 ∧ done = false ∧ PhS σ A B [0, 0, 0, 0] [0, 0, 0, 0] 4 [0, 0, 0, 0] 0 ∧ s = 0 ∧ A.cur = [] ∧ A.fin.length = F ∧ rd = []) ∨
     (ph = 2 ∧ done = false ∧ PhS σ A B [0, 0, 0, 0] [0, 0, 0, 0] 4 ([0, 0, 0, 0] ++ rd) k ∧ s = k + 1 ∧ A.fin = [] ∧ rd.length = F ∧ ∀ q ∈ rd, q ∈ plc A.cur) ∨
     (ph = 0 ∧ done = true ∧ Pair σ A B [0, 0, 0, 0] [0, 0, 0, 0] 4 ∧ Gath A ([0, 0, 0, 0] ++ rd) ∧ A.old = [] ∧ A.mv = false ∧ A.fin = [] ∧ rd.length = F ∧ (∀ q ∈ rd, q ∈ plc A.cur) ∧ s ≤ A.cur.length + 2))
theorem EmS.lt {w : World} {b0 T c F L : Nat} {σ : Nat → Nat} {B : HS} {BB : HB} {XB R S : List Nat} {s : Nat} {done : Bool} {wz : World} (h : EmS w b0 T c F L σ B BB XB R S s done wz) : s ≤ 100 := by
  obtain ⟨A, BA, XA, ph, rv, lv, rd, ls, k, hT, hn, _, _, _, hc⟩ := h
  have h1 := hT.tw.ha.rep.cur_few
  rcases hc with ⟨_, _, hp, rfl, _⟩ | ⟨_, _, hp, rfl, _⟩ | ⟨_, _, _, _, _, _, _, _, _, hs⟩
  · omega
  · have := hp.pg.1; omega
  · omega
theorem EmS.step {w : World} {b0 T c F L : Nat} {σ : Nat → Nat} {B : HS} {BB : HB} {XB R S : List Nat} {s : Nat} {wz : World} (h : EmS w b0 T c F L σ B BB XB R S s false wz) (hL : L ≤ 1000) :
    Calls Try.prog 24 #[pV c] wz fun e w' => ∃ b, e = .returned (.bool b) ∧ EmS w b0 T c F L σ B BB XB R S (s + 1) b w' := by
  obtain ⟨A, BA, XA, ph, rv, lv, rd, ls, k, hT, hn, hs, hrd, hls, hc⟩ := h
  rcases hc with ⟨rfl, _, hp, rfl, hcur, hF, rfl⟩ | ⟨rfl, _, hp, rfl, hfin, hF, hin⟩ | ⟨_, hx, _⟩
  · have hls' : ls.length ≤ L := hls
    refine (step1_is hT.ch hp (by simp)).mono ?_
    rintro e w' ⟨rfl, BA', A', XA', rv', hK, hcase⟩
    rcases hcase with ⟨hx, _⟩ | ⟨_, l', hC, hq⟩
    · rw [hcur] at hx; simp at hx
    · obtain ⟨st, lf, h1, h2, h3, h4⟩ := hq.set
      have hst : st = [] := by
        rcases hst : st with _ | ⟨x, t⟩
        · rfl
        · have := h4 x (by rw [hst]; simp)
          rw [hcur] at this
          simp [plc] at this
      subst hst
      have hlen := h1.len
      have hl2 := h2.len
      have h9 := hp.pr.ca.few.2
      have hr := hT.tw.ha.rep
      have hin := GoesL.in_cur (s := { A with fin := [] }) (X := XA) ⟨hr.n1, hr.n2, hr.len, hr.zero, hr.half, hr.oroom, hr.room, hr.still, hr.ser, ⟨hr.few.1, Nat.zero_le _⟩⟩ h2 h1.mem
      simp at hlen
      exact ⟨false, rfl, A', BA', XA', 2, rv', lv, [] ++ l', ls, 0, hT.stepC hC hK, hq.kp.n.trans hn, by rw [hq.kp.ser]; exact hs, by simp; omega, hls', .inr (.inl ⟨rfl, rfl, by simpa using hq.ph, rfl, h3, by simp; omega, by simpa using hin⟩)⟩
  · have hls' : ls.length ≤ L := hls
    refine (step2_is hT.ch hp (by omega)).mono ?_
    rintro e w' ⟨b, BA', A', XA', lv', rfl, hK, hcase⟩
    rcases hcase with ⟨rfl, _, hC, hp', kp, hf, _⟩ | ⟨rfl, hk, ls0, hC, hq⟩
    · exact ⟨false, rfl, A', BA', XA', 2, rv, lv', rd, ls, k + 1, hT.stepC hC hK, kp.n.trans hn, by rw [kp.ser]; exact hs, hrd, hls', .inr (.inl ⟨rfl, rfl, hp', rfl, hf.trans hfin, hF, fun q hq => kp.sub q (hin q hq)⟩)⟩
    · have h8 := hq.len
      have h9 := hp.pr.ca.few.1
      obtain ⟨stw, stf, l1, l2, s', h0, h1, h2, h3, h4, h5, h6⟩ := hq.set
      have hf0 : A'.fin = [] := by rw [h1]; exact (h4.nil_inv hfin).1
      have hlc : A'.cur.length = A.cur.length := by have := congrArg List.length hq.plc; simpa [plc] using this
      exact ⟨true, rfl, A', BA', XA', 0, rv, lv', rd, ls ++ ls0, 0, hT.stepC hC hK, hq.n.trans hn, by rw [hq.ser]; exact hs, hrd, by rw [List.length_append, if_pos rfl]; omega, .inr (.inr ⟨rfl, rfl, hq.pr, hq.ga, hq.old, hq.mv, hf0, hF, fun q hq' => by rw [hq.plc]; exact hin q hq', by omega⟩)⟩
  · cases hx
def EmI (w : World) (b0 T c m : Nat) (wr : World) : Prop :=
  ∃ σ A B R S BA BB XA XB rv lv ls, CyT w b0 T c BA BB A B XA XB R S 0 rv lv [] ls wr ∧ Pair σ A B [0, 0, 0, 0] [0, 0, 0, 0] 4 ∧ A.n = 300 ∧ A.ser ≤ 30 ∧ A.mv = false ∧ ls.length ≤ 100 * m ∧ (1 ≤ m → A.fin = [])

set_option maxRecDepth 100000 in
set_option maxHeartbeats 16000000 in
theorem cycleEmpty_walk (v : Value) (l : List Op10) (hm : l.length ≤ maxLen) (w : World) (hr : RowK w v 8 (l.map Op10.cells)) (hl : ∀ o ∈ l, o.Ok) :
    Calls Try.prog 5 #[v] w fun e w' => e = .returned (.bool true) ∧ Below w.heap.size w w' := by
  obtain ⟨ra, rc, rfl, hrk⟩ := hr.cells
  obtain ⟨n, hn⟩ : ∃ n, l.length = n := ⟨_, rfl⟩
  rw [hn] at hm ⊢
  unfold maxLen at hm
  replace hrk := hid hrk
  replace hl := hid hl
  replace hn := hid hn
  have hmn : (n : Int) ≤ 9223372036854775807 := by omega
  replace hm := hid hm
  replace hmn := hid hmn
  clear hr
  go_enter Try.func5, Try.ntmps5
  go_wp2_with fail
  refine (awake11 _).mono ?_
  rintro e w0 ⟨rfl, c0⟩
  go_wp2_with fail
  refine (begin_yes _ 300 (by decide) (by decide)).mono ?_
  rintro e w1 ⟨T, BA, BB, XA, XB, rfl, hT, c1⟩
  have hta := hT.cellA
  go_wp2_with fail
  refine (cnew_yes _ BA.hp).mono ?_
  rintro e w2 ⟨rfl, hy, c2⟩
  have hI0 := hid (show CyK w w0.heap.size T w1.heap.size 300 0 w2 from ⟨id, _, _, _, _, BA, BB, XA, XB, CyT.start (hp := BA.hp) hT (c0.trans c1) c0.size hy c2, CyJ.start 300⟩)
  obtain ⟨b0, hb0⟩ : ∃ b, w0.heap.size = b := ⟨_, rfl⟩
  obtain ⟨c, hc⟩ : ∃ c, w1.heap.size = c := ⟨_, rfl⟩
  rw [hb0, hc] at hI0
  rw [hc]
  clear hT c0 c1 c2 hb0 hc hta hy
  go_upto_block 0 with fail
  go_cut [6] (fun s6 wx => ∃ k, k ≤ 30 ∧ CyK w b0 T c 300 k wx)
  case first =>
    go_wp2_with fail
    go_loopw [6] (fun i wr => ∃ k : Nat, k ≤ n ∧ k ≤ 30 ∧ i = .int .i64 k ∧ CyK w b0 T c 300 k wr) (fun i _ => 30 - (intOf i).toNat)
    case atStart => exact ⟨0, by omega, by omega, rfl, hI0.out⟩
    case round =>
      clear hI0
      obtain ⟨k, hk, hkM, rfl, hI⟩ := hrel
      by_cases hlt : k < n ∧ k < 30
      · obtain ⟨hlt, hltM⟩ := hlt
        obtain ⟨σ, A, B, R, S, BA, BB, XA, XB, hT, hJ⟩ := hI
        have hkl : k < l.length := by rw [hn.out]; exact hlt
        obtain ⟨b, off, rfl, hcell⟩ := hrk.out k l[k] (by simp [hkl])
        have hok := hl.out l[k] (List.getElem_mem hkl)
        have g0 := hT.calm.cellAt (p := ⟨b, off + k * 8 + 0, none⟩) (hcell 0 _ rfl) id
        have g1 := hT.calm.cellAt (p := ⟨b, off + k * 8 + 1, none⟩) (hcell 1 _ rfl) id
        have g2 := hT.calm.cellAt (p := ⟨b, off + k * 8 + 2, none⟩) (hcell 2 _ rfl) id
        have g3 := hT.calm.cellAt (p := ⟨b, off + k * 8 + 3, none⟩) (hcell 3 _ rfl) id
        have g4 := hT.calm.cellAt (p := ⟨b, off + k * 8 + 4, none⟩) (hcell 4 _ rfl) id
        have g5 := hT.calm.cellAt (p := ⟨b, off + k * 8 + 5, none⟩) (hcell 5 _ rfl) id
        have g6 := hT.calm.cellAt (p := ⟨b, off + k * 8 + 6, none⟩) (hcell 6 _ rfl) id
        have g7 := hT.calm.cellAt (p := ⟨b, off + k * 8 + 7, none⟩) (hcell 7 _ rfl) id
        rw [Nat.add_zero] at g0
        clear hcell
        generalize l[k] = o at *
        obtain ⟨K, hK⟩ : ∃ K, pk o.kd 9 = K := ⟨_, rfl⟩
        have hKr := pk_range o.kd (n := 9) (by omega)
        rw [hK] at hKr
        have qk := hid (fun W => pick11 o.kd 9 W hok.1 (by omega))
        rw [hK] at qk
        obtain ⟨okd, oka, okb, oki, okn, ok0, ok1, ok2⟩ := hok
        have hok' : Hid (({ o with kd := K } : Op10).Ok) := ⟨(show I64 K from ⟨by omega, by omega⟩), oka, okb, oki, okn, ok0, ok1, ok2⟩
        obtain ⟨g9, hg9⟩ : ∃ g, wr.heap.size = g := ⟨_, rfl⟩
        have hD := hid (fun W (cw : Calm wr W) => doesC_is (hT.calmR cw) hJ.pr ⟨by have := hJ.ser; have := hJ.bs; omega, by have := hJ.bs; omega⟩ { o with kd := K } hok'.out)
        have hpk : pk K 13 < 9 := by unfold pk; rw [if_neg (by omega), Int.emod_eq_of_lt (by omega) (by omega)]; omega
        replace hT := hid hT
        replace hJ := hid hJ
        replace hpk := hid hpk
        clear okd oka okb oki okn ok0 ok1 ok2
        go_wp2_with fail
        try rw [hg9]
        refine (qk.out _).mono ?_
        rintro e w2 ⟨rfl, rfl⟩
        clear qk
        go_wp2_with fail
        refine (hD.out _ ((Fr.refl _ _).alloc _)).mono ?_
        rintro e w3 ⟨rfl, σ2, BA2, BB2, A2, B2, XA2, XB2, R2, S2, hT2, e1, hP2, hn2, hg2, hm2⟩
        have hI2 : Hid (CyK w b0 T c 300 (k + 1) w3) := ⟨σ2, A2, B2, R2, S2, BA2, BB2, XA2, XB2, hT2, hJ.out.does hP2 hn2 hg2 (hm2 hpk.out)⟩
        clear hD hT2 hP2 hn2 hg2 hm2 hT hJ g0 g1 g2 g3 g4 g5 g6 g7
        go_wp2
        go_roundw
        case rel => exact ⟨k + 1, by omega, by omega, by go_num, hI2.out⟩
        case measure => simp [intOf]; omega
      · replace hI := hid hI
        rcases Nat.lt_or_ge k n with hlt2 | hge2
        · have hgeM : 30 ≤ k := by omega
          clear hlt
          go_wp2_with fail
          go_meet
          exact ⟨k, hkM, hI.out⟩
        · clear hlt
          go_wp2_with fail
          go_meet
          exact ⟨k, hkM, hI.out⟩
  case rest =>
    clear hI0
    obtain ⟨k0, hk0, σ, A, B, R, S, BA, BB, XA, XB, hT, hJ⟩ := hcut
    have hI1 : Hid (EmI w b0 T c 0 wc) := ⟨σ, A, B, R, S, BA, BB, XA, XB, _, _, [], hT, hJ.pr.zero (hJ.id_ 0 (Nat.zero_le _)), hJ.n, by have := hJ.ser; have := hJ.bs; omega, by rw [hJ.mv]; rfl, by simp, fun h => by omega⟩
    clear hT hJ hk0
    go_wp2_with fail
    go_loopw [8] (fun x wz => ∃ m : Nat, m ≤ 2 ∧ x = .int .i64 m ∧ EmI w b0 T c m wz) (fun x _ => 2 - (intOf x).toNat)
    case atStart => exact ⟨0, by omega, rfl, hI1.out⟩
    case round =>
      clear hI1
      obtain ⟨m, hm2, rfl, σ, A, B, R, S, BA, BB, XA, XB, rv, lv, ls, hT, hP, hn, hs, hmv, hls, hfin⟩ := hrel
      rcases Nat.lt_or_ge m 2 with hm | hm
      · have hSt := hid (start_yes hT.ch hmv (v := .slice none 0 0) (l := []) (fun W _ => Row.nil W) (by simp) (by simp) (by simp) (by simp))
        have hPz := hid (PhS.zeros hP hT.tw.ha.rep hmv)
        have hT' := hid hT
        have hls' := hid hls
        have hfin' := hid hfin
        clear hT hP hfin hmv
        go_wp2_with fail
        refine hSt.out.mono ?_
        rintro e w3 ⟨u, A1, A2, l1, rd1, BA3, XA3, rv3, rfl, g1, g2, hC, hK, hu, hua⟩
        obtain ⟨rfl, rfl⟩ := g1.of_nil
        obtain ⟨rfl, rfl⟩ := g2.of_nil
        obtain ⟨ua, uc, rfl⟩ := hu.sliceN (n := 0) rfl
        obtain ⟨F, hF⟩ : ∃ F, A.fin.length = F := ⟨_, rfl⟩
        have hF1 : Hid (1 ≤ m → F = 0) := fun h => by rw [← hF, hfin'.out h]; rfl
        have hE0 : Hid (EmS w b0 T c F (100 * m) σ B BB XB R S 0 false w3) := ⟨A.flip, BA3, XA3, 1, rv3, lv, [], ls, 0, hT'.out.stepC hC hK, hn, hs, by simp, hls'.out, .inl ⟨rfl, rfl, hPz.out, rfl, rfl, hF, rfl⟩⟩
        clear hSt hC hK hu hua g1 g2 hPz hT' hfin' hF hls' hls
        go_wp2_with fail
        go_loopw [11, 12] (fun d x wz => ∃ s done, x = .int .i64 (s : Nat) ∧ d = .bool done ∧ EmS w b0 T c F (100 * m) σ B BB XB R S s done wz) (fun _ x _ => 200 - (intOf x).toNat)
        case atStart => exact ⟨0, false, rfl, rfl, hE0.out⟩
        case round =>
          clear hE0
          obtain ⟨s, done, rfl, rfl, hS⟩ := hrel
          have hs4 := hS.lt
          have hs5 : s < 200 := by omega
          cases done
          · have hSs := hid (hS.step (by omega))
            clear hS
            go_wp2_with fail
            refine hSs.out.mono ?_
            rintro e w5 ⟨d1, rfl, hS1⟩
            replace hS1 := hid hS1
            clear hSs
            go_wp2
            go_roundw
            case rel => exact ⟨s + 1, d1, by go_num, rfl, hS1.out⟩
            case measure => simp [intOf]; omega
          · obtain ⟨A5, BA5, XA5, ph, rv5, lv5, rd5, ls5, k5, hT5, hn5, hs5', hrd5, hls5, hc5⟩ := hS
            obtain ⟨rfl, _, hP5, hga5, hold5, hmv5, hfin5, hF5, hin5, _⟩ : ph = 0 ∧ _ ∧ Pair σ A5 B [0, 0, 0, 0] [0, 0, 0, 0] 4 ∧ Gath A5 ([0, 0, 0, 0] ++ rd5) ∧ A5.old = [] ∧ A5.mv = false ∧ A5.fin = [] ∧ rd5.length = F ∧ (∀ q ∈ rd5, q ∈ plc A5.cur) ∧ s ≤ A5.cur.length + 2 := by
              rcases hc5 with ⟨_, e, _⟩ | ⟨_, e, _⟩ | h
              · cases e
              · cases e
              · exact h
            have hRd := hid (ready_is hT5.cy)
            have hown := hid (fun W (f : Fr (fun k => k = c) wr W) (hy : CyAt W b0 c BA5.hp 0 (.slice none 0 0) lv5 [] ls5) => hT5.own f hy (fun j hj => by
              rcases hj with hj | hj | hj
              · exact .inl hj
              · exact (InB.nil _ hj).elim
              · exact .inr (.inr hj)))
            obtain ⟨ra5, rc5, hrv5⟩ := hT5.cy.r.sliceN (n := F) (by simp [hF5])
            rw [hrv5] at hRd
            have hroom : A5.room = 300 - ((tookC A5.cur : Nat) : Int) := by unfold HS.room; rw [hold5, hn5]; simp [owed]
            have hemp : Hid (F = 0 → tookC A5.cur = 0) := fun e => by
              have h0 : rd5 = [] := List.eq_nil_of_length_eq_zero (by omega)
              subst h0
              have := Gath.empty hP5.tw.wa hga5 (fun q hq => by simp at hq; omega)
              rw [this]; rfl
            have hful : Hid (F ≠ 0 → 4 ≤ tookC A5.cur) := fun e => by
              rcases hrd : rd5 with _ | ⟨x, t⟩
              · rw [hrd] at hF5; simp at hF5; omega
              · have hx := hin5 x (by rw [hrd]; simp)
                have h1 := tookC_len hT5.tw.ha.rep A5.cur (fun _ h => h)
                rcases hcc : A5.cur with _ | ⟨y, z⟩
                · rw [hcc] at hx; simp [plc] at hx
                · rw [hcc] at h1; simp at h1; omega
            have hle5 : Hid (tookC A5.cur ≤ 300) := by have := hT5.tw.ha.rep.room; rw [hold5, hn5] at this; show _ ≤ _; omega
            obtain ⟨U, hU⟩ : ∃ U, tookC A5.cur = U := ⟨_, rfl⟩
            rw [hU] at hroom hemp hful hle5
            have hI2 : Hid (∀ W, CyT w b0 T c BA5 BB A5 B XA5 XB R S 0 (.slice none 0 0) lv5 [] ls5 W → EmI w b0 T c (m + 1) W) := fun W h => ⟨σ, A5, B, R, S, BA5, BB, XA5, XB, _, _, ls5, h, hP5, hn5, hs5', hmv5, by rw [if_pos rfl] at hls5; omega, fun _ => hfin5⟩
            clear hT5 hP5 hga5 hc5 hls5 hfin5 hin5 hF5 hrd5 hrv5 hold5 hmv5 hn5 hs5'
            go_wp2_with fail
            refine hRd.out.mono ?_
            rintro e w6 ⟨rfl, hcy6, hr6, f6⟩
            have hT6 := hown.out w6 f6 hcy6
            have hta6 := hT6.tw.cellA
            have hRm := room_is hT6.tw.ha
            rw [hroom] at hRm
            replace hRm := hid hRm
            replace hT6 := hid hT6
            clear hRd hown hcy6 hr6 f6 hroom hU
            have hle6 := hle5.out
            rcases Nat.eq_zero_or_pos m with hm0 | hm0
            · subst hm0
              rcases Nat.eq_zero_or_pos F with hF0 | hF0
              · have hU0 := hemp.out hF0
                subst hF0
                subst hU0
                go_wp2_with fail
                refine (hRm.out).mono ?_
                rintro e w7 ⟨rfl, c7⟩
                have hI3 := hid (hI2.out w7 (hT6.out.calmR c7))
                clear hRm c7 hta6 hT6
                go_wp2
                go_roundw
                case rel => exact ⟨1, by omega, by go_num, hI3.out⟩
                case measure => simp [intOf]
              · have hU0 := hful.out (by omega)
                have hFne : ((F : Int) == 0) = false := by simp; omega
                have hFne2 : ((F : Int) != 0) = true := by simp; omega
                have hUne : ((300 : Int) - (U : Int) == 300) = false := by simp; omega
                have hUne2 : ((300 : Int) - (U : Int) != 300) = true := by simp; omega
                go_wp2_with fail
                refine (hRm.out).mono ?_
                rintro e w7 ⟨rfl, c7⟩
                have hI3 := hid (hI2.out w7 (hT6.out.calmR c7))
                clear hRm c7 hta6 hT6
                go_wp2
                go_roundw
                case rel => exact ⟨1, by omega, by go_num, hI3.out⟩
                case measure => simp [intOf]
            · obtain rfl : m = 1 := by omega
              have hF0 := hF1.out (by omega)
              have hU0 := hemp.out hF0
              subst hF0
              subst hU0
              go_wp2_with fail
              refine (hRm.out).mono ?_
              rintro e w7 ⟨rfl, c7⟩
              have hI3 := hid (hI2.out w7 (hT6.out.calmR c7))
              clear hRm c7 hta6 hT6
              go_wp2
              go_roundw
              case rel => exact ⟨2, by omega, by go_num, hI3.out⟩
              case measure => simp [intOf]
      · obtain rfl : m = 2 := by omega
        have hcx := hid hT.calm
        clear hT hP
        go_wp2_with fail
        go_ret
        exact ⟨rfl, (show Calm w wr from hcx.out).below⟩

end Go.Proofs.Ytiomemdmhcdpbaa
