/- CycleBound returns true: its walk. -/
import Derived.Test.YtaifelejdngmpaaGreatCycI
set_option linter.unusedSimpArgs false
set_option linter.unusedVariables false
namespace Go.Proofs.YtaifelejdngmpaaGreat
open Go.RowKit Go.Shelf


set_option maxRecDepth 100000 in
set_option maxHeartbeats 16000000 in
theorem cycleBound_walk (v : Value) (l : List Op10) (hm : l.length ≤ maxLen) (w : World) (hr : RowK w v 8 (l.map Op10.cells)) (hl : ∀ o ∈ l, o.Ok) :
    Calls Tryz.prog 4 #[v] w fun e w' => e = .returned (.bool true) ∧ Below w.heap.size w w' := by
  obtain ⟨ra, rc, rfl, hrk⟩ := hr.cells
  obtain ⟨n, hn⟩ : ∃ n, l.length = n := ⟨_, rfl⟩
  rw [hn] at hm ⊢
  unfold maxLen at hm
  replace hrk := hid hrk
  replace hl := hid hl
  replace hn := hid hn
  have hmn : (n : Int) ≤ 9223372036854775807 := by omega
  replace hm := hid hm
  replace hmn := hid hmn
  clear hr
  go_enter Tryz.func4, Tryz.ntmps4
  go_wp2_with fail
  refine (awake11 _).mono ?_
  rintro e w0 ⟨rfl, c0⟩
  go_wp2_with fail
  refine (begin_yes _ 300 (by decide) (by decide)).mono ?_
  rintro e w1 ⟨T, BA, BB, XA, XB, rfl, hT, c1⟩
  have hta := hT.cellA
  go_wp2_with fail
  refine (cnew_yes _ BA.hp).mono ?_
  rintro e w2 ⟨rfl, hy, c2⟩
  have hI0 := hid (show CyK w w0.heap.size T w1.heap.size 300 0 w2 from ⟨id, _, _, _, _, BA, BB, XA, XB, CyT.start (hp := BA.hp) hT (c0.trans c1) c0.size hy c2, CyJ.start 300⟩)
  obtain ⟨b0, hb0⟩ : ∃ b, w0.heap.size = b := ⟨_, rfl⟩
  obtain ⟨c, hc⟩ : ∃ c, w1.heap.size = c := ⟨_, rfl⟩
  rw [hb0, hc] at hI0
  rw [hc]
  clear hT c0 c1 c2 hb0 hc hta hy
  go_upto_block 0 with fail
  go_cut [6] (fun s6 wx => ∃ k, k ≤ 40 ∧ CyK w b0 T c 300 k wx)
  case first =>
    go_wp2_with fail
    go_loopw [6] (fun i wr => ∃ k : Nat, k ≤ n ∧ k ≤ 40 ∧ i = .int .i64 k ∧ CyK w b0 T c 300 k wr) (fun i _ => 40 - (intOf i).toNat)
    case atStart => exact ⟨0, by omega, by omega, rfl, hI0.out⟩
    case round =>
      clear hI0
      obtain ⟨k, hk, hkM, rfl, hI⟩ := hrel
      by_cases hlt : k < n ∧ k < 40
      · obtain ⟨hlt, hltM⟩ := hlt
        obtain ⟨σ, A, B, R, S, BA, BB, XA, XB, hT, hJ⟩ := hI
        have hkl : k < l.length := by rw [hn.out]; exact hlt
        obtain ⟨b, off, rfl, hcell⟩ := hrk.out k l[k] (by simp [hkl])
        have hok := hl.out l[k] (List.getElem_mem hkl)
        have g0 := hT.calm.cellAt (p := ⟨b, off + k * 8 + 0, none⟩) (hcell 0 _ rfl) id
        have g1 := hT.calm.cellAt (p := ⟨b, off + k * 8 + 1, none⟩) (hcell 1 _ rfl) id
        have g2 := hT.calm.cellAt (p := ⟨b, off + k * 8 + 2, none⟩) (hcell 2 _ rfl) id
        have g3 := hT.calm.cellAt (p := ⟨b, off + k * 8 + 3, none⟩) (hcell 3 _ rfl) id
        have g4 := hT.calm.cellAt (p := ⟨b, off + k * 8 + 4, none⟩) (hcell 4 _ rfl) id
        have g5 := hT.calm.cellAt (p := ⟨b, off + k * 8 + 5, none⟩) (hcell 5 _ rfl) id
        have g6 := hT.calm.cellAt (p := ⟨b, off + k * 8 + 6, none⟩) (hcell 6 _ rfl) id
        have g7 := hT.calm.cellAt (p := ⟨b, off + k * 8 + 7, none⟩) (hcell 7 _ rfl) id
        rw [Nat.add_zero] at g0
        clear hcell
        generalize l[k] = o at *
        obtain ⟨K, hK⟩ : ∃ K, pk o.kd 9 = K := ⟨_, rfl⟩
        have hKr := pk_range o.kd (n := 9) (by omega)
        rw [hK] at hKr
        have qk := hid (fun W => pick11 o.kd 9 W hok.1 (by omega))
        rw [hK] at qk
        obtain ⟨okd, oka, okb, oki, okn, ok0, ok1, ok2⟩ := hok
        have hok' : Hid (({ o with kd := K } : Op10).Ok) := ⟨(show I64 K from ⟨by omega, by omega⟩), oka, okb, oki, okn, ok0, ok1, ok2⟩
        obtain ⟨g9, hg9⟩ : ∃ g, wr.heap.size = g := ⟨_, rfl⟩
        have hD := hid (fun W (cw : Calm wr W) => doesC_is (hT.calmR cw) hJ.pr ⟨by have := hJ.ser; have := hJ.bs; omega, by have := hJ.bs; omega⟩ { o with kd := K } hok'.out)
        have hpk : pk K 13 < 9 := by unfold pk; rw [if_neg (by omega), Int.emod_eq_of_lt (by omega) (by omega)]; omega
        replace hT := hid hT
        replace hJ := hid hJ
        replace hpk := hid hpk
        clear okd oka okb oki okn ok0 ok1 ok2
        go_wp2_with fail
        try rw [hg9]
        refine (qk.out _).mono ?_
        rintro e w2 ⟨rfl, rfl⟩
        clear qk
        go_wp2_with fail
        refine (hD.out _ ((Fr.refl _ _).alloc _)).mono ?_
        rintro e w3 ⟨rfl, σ2, BA2, BB2, A2, B2, XA2, XB2, R2, S2, hT2, e1, hP2, hn2, hg2, hm2⟩
        have hI2 : Hid (CyK w b0 T c 300 (k + 1) w3) := ⟨σ2, A2, B2, R2, S2, BA2, BB2, XA2, XB2, hT2, hJ.out.does hP2 hn2 hg2 (hm2 hpk.out)⟩
        clear hD hT2 hP2 hn2 hg2 hm2 hT hJ g0 g1 g2 g3 g4 g5 g6 g7
        go_wp2
        go_roundw
        case rel => exact ⟨k + 1, by omega, by omega, by go_num, hI2.out⟩
        case measure => simp [intOf]; omega
      · replace hI := hid hI
        rcases Nat.lt_or_ge k n with hlt2 | hge2
        · have hgeM : 40 ≤ k := by omega
          clear hlt
          go_wp2_with fail
          go_meet
          exact ⟨k, hkM, hI.out⟩
        · clear hlt
          go_wp2_with fail
          go_meet
          exact ⟨k, hkM, hI.out⟩
  case rest =>
    clear hI0
    obtain ⟨k0, hk0, σ, A, B, R, S, BA, BB, XA, XB, hT, hJ⟩ := hcut
    have hSt := hid (startR_is hT hJ.pr (by rw [hJ.mv]; rfl) (fun p hp => by cases hp) (by simp))
    have hTs : T < wc.heap.size := hT.tw.cs.lt (by simp [twC])
    replace hT := hid hT
    replace hJ := hid hJ
    go_wp2_with fail
    refine hSt.out.mono ?_
    rintro e w3 ⟨u, A1, A2, l1, rd1, BA3, XA3, rv3, X1, rfl, hT3, hu, hua, hrf, g1, g2, hl1, hph, hn2, hs2⟩
    obtain ⟨ua, uc, rfl⟩ := hu.sliceN (n := 4) (by simp [hl1])
    obtain ⟨rfl, rfl⟩ := g2.of_nil
    obtain ⟨lv0, hlv0⟩ : ∃ v, Value.slice none 0 0 = v := ⟨_, rfl⟩
    obtain ⟨rd1, hrd1⟩ : ∃ v, ([] : List Nat) = v := ⟨_, rfl⟩
    obtain ⟨ls0, hls0⟩ : ∃ v, ([] : List Nat) = v := ⟨_, rfl⟩
    have hn300 : Hid (A2.n = 300) := hn2.trans hJ.out.n
    have hser : Hid (A2.ser = B.ser) := hs2.trans hJ.out.ser
    have hbs : Hid (B.ser ≤ 40) := by have := hJ.out.bs; show B.ser ≤ 40; omega
    have hidd := hid hJ.out.id_
    have hlR : Hid (R.length = 4 ∧ S.length = 4) := ⟨hJ.out.pr.rg.lr, hJ.out.pr.rg.ls⟩
    have hT3' : Hid (CyT w b0 T c BA3 BB A2 B XA3 XB (l1.take 0 ++ R.drop 0) S 1 rv3 (.slice none 0 0) [] [] w3) := by rw [List.take_zero, List.drop_zero, List.nil_append]; exact hT3
    have hph' : Hid (PhS σ A2 B l1 S 4 l1 0) := by have := hph; rw [List.nil_append, List.append_nil] at this; exact this
    replace hu := hid hu
    replace hl1 := hid hl1
    obtain ⟨wsz, hwsz⟩ : ∃ z, wc.heap.size = z := ⟨_, rfl⟩
    rw [hwsz] at hTs hu
    clear hSt hT3 hua hrf g1 hph hn2 hs2 hT hJ hlv0 hrd1 hls0 lv0 rd1 ls0
    go_wp2_with fail
    go_loopw [10] (fun x wz => ∃ j : Nat, j ≤ 4 ∧ x = .int .i64 j ∧ CyT w b0 T c BA3 BB A2 B XA3 XB (l1.take j ++ R.drop j) S 1 rv3 (.slice none 0 0) [] [] wz ∧ ORow wz wsz (.slice ua 4 uc) (nI l1)) (fun x _ => 4 - (intOf x).toNat)
    case atStart => exact ⟨0, by omega, rfl, hT3'.out, hu.out⟩
    case round =>
      clear hT3' hu
      obtain ⟨j, hj, rfl, hTj, huj⟩ := hrel
      rcases Nat.lt_or_ge j 4 with hj4 | hj4
      · obtain ⟨gv, gc, hv, hgb, hgo⟩ := huj.get (k := j) (by simp [hl1.out]; exact hj4)
        injection hv with hv1 hv2 hv3
        subst hv1
        have hjl : j < l1.length := by rw [hl1.out]; exact hj4
        rw [show (nI l1).getD j 0 = ((l1.getD j 0 : Nat) : Int) by simp [List.getD, hjl]] at hgo
        have hlj : (l1.take j ++ R.drop j).length = 4 ∧ S.length = 4 := ⟨by have := hl1.out; have := hlR.out.1; simp; omega, hlR.out.2⟩
        have hyT := hTj.tw.cellR hlj hj4
        have hyA := hTj.tw.cellA
        have hst := hid (hTj.copy hj4 hl1.out hlR.out.1 hlR.out.2)
        have hur : Hid (ORow (wr.setCell ⟨T, 2 + j, none⟩ (.int .i64 (l1.getD j 0 : Nat))) wsz (.slice (some ⟨gv, 0, none⟩) 4 uc) (nI l1)) := huj.frB ((Fr.refl (fun k => k = T) wr).setCell (p := ⟨T, 2 + j, none⟩) (.inl rfl) _) (fun b hb (e : b = T) => by have := (huj.lt hb).1; omega)
        have z0 := hgo.1
        have z1 := hyT.1
        have z2 := hyT.2
        generalize l1.getD j 0 = q at *
        generalize (l1.take j ++ R.drop j).getD j 0 = q0 at *
        clear hTj huj hgo hyT hv2 hv3 hlj
        go_wp2_with fail
        go_region
        all_goals
          go_wp2
          go_roundw
          case rel => exact ⟨j + 1, by omega, by go_num, hst.out.calmR ((Fr.refl _ _).drew), hur.out.calm ((Fr.refl _ _).drew)⟩
          case measure => simp [intOf]; omega
      · obtain rfl : j = 4 := by omega
        have hS0 : Hid (StI w b0 T c 300 40 σ B BB XB S l1 0 false wr) := ⟨A2, BA3, XA3, 1, rv3, .slice none 0 0, [], [], 0, by
          rw [List.take_of_length_le (by rw [hl1.out]; exact Nat.le_refl _), List.drop_eq_nil_of_le (by rw [hlR.out.1]; exact Nat.le_refl _), List.append_nil] at hTj
          exact hTj, hn300.out, hser.out, by simp, by simp, fun q hq => (by cases hq), .inl ⟨rfl, rfl, hph'.out, rfl, rfl, rfl⟩⟩
        have hSs := hid (hS0.out.step hbs.out (by omega))
        clear hTj huj hph' hn300 hser
        go_wp2_with fail
        refine hSs.out.mono ?_
        rintro e w4 ⟨d0, rfl, hS1⟩
        replace hS1 := hid hS1
        clear hSs hS0
        go_wp2_with fail
        go_loopw [11, 12] (fun x d wz => ∃ s done, 1 ≤ s ∧ x = .int .i64 (s : Nat) ∧ d = .bool done ∧ StI w b0 T c 300 40 σ B BB XB S l1 s done wz) (fun x _ _ => 500 - (intOf x).toNat)
        case atStart => exact ⟨1, d0, by omega, rfl, rfl, hS1.out⟩
        case round =>
          clear hS1
          obtain ⟨s, done, hs1, rfl, rfl, hS⟩ := hrel
          have hs4 := hS.lt
          have hs5 : s < 500 := by omega
          cases done
          · have hSs := hid (hS.step hbs.out (by omega))
            clear hS
            go_wp2_with fail
            refine hSs.out.mono ?_
            rintro e w5 ⟨d1, rfl, hS1⟩
            replace hS1 := hid hS1
            clear hSs
            go_wp2
            go_roundw
            case rel => exact ⟨s + 1, d1, by omega, by go_num, rfl, hS1.out⟩
            case measure => simp [intOf]; omega
          · obtain ⟨A5, BA5, XA5, ph, rv5, lv5, rd5, ls5, k5, hT5, hn5, hser5, hrd5, hls5, hpl5, hc5⟩ := hS
            obtain ⟨rfl, _, hP5, hga5, hold5, rfl⟩ : ph = 0 ∧ _ ∧ Pair σ A5 B l1 S 4 ∧ Gath A5 (l1 ++ rd5) ∧ A5.old = [] ∧ s = A5.cur.length + 2 := by
              rcases hc5 with ⟨_, e, _⟩ | ⟨_, e, _⟩ | h
              · cases e
              · cases e
              · exact h
            have hlS : l1.length = 4 ∧ S.length = 4 := ⟨hP5.rg.lr, hP5.rg.ls⟩
            obtain ⟨N, hN⟩ : ∃ N, A5.cur.length = N := ⟨_, rfl⟩
            rw [hN] at hs4 hs5 ⊢
            have hrep5 := hid hT5.tw.ha.rep
            have hcut0 : True := trivial
            go_wp2_with fail
            go_cut [13, 14, 15] (fun s13 s14 s15 wx => ∃ va vc vs, s13 = .slice va N vc ∧ s14 = vs ∧ s15 = .int .i64 0 ∧ CyT w b0 T c BA5 BB A5 B XA5 XB l1 S 0 (.slice none 0 0) lv5 [] ls5 wx)
            case first =>
              have hta := hT5.tw.cellA
              have hTc : ¬ T = c := fun e => (hT5.ap c (.inl rfl)).2.2 e.symm
              have hcl : c < wr.heap.size := (hT5.cy.lt c (.inl rfl)).1
              have hRd := hid (fun W (cw : Calm wr W) => ready_is (hT5.cy.calm cw))
              have hRw := hid (fun W (f : Fr (fun k => k = c) wr W) => rowR_of (hT5.tw.cs.fr f hTc) hlS.1)
              have hCn := hid (fun W (f : Fr (fun k => k = c) wr W) (v : Value) (hv : ORow W 0 v (nI l1 ++ nI rd5)) => hcanon (hT5.tw.ha.fr f (fun k hk e => (hT5.ap c (.inl rfl)).1 (e ▸ hk))) hP5.ptrs (rv := v) (rs := l1 ++ rd5) (by rw [nI, List.map_append]; exact hv.row) (by rw [List.length_append, hlS.1]; omega) (fun x hx => by
                rcases List.mem_append.1 hx with hx | hx
                · exact hP5.placed x hx
                · exact hpl5 x hx))
              have hcl' := hid hcl
              have hown := hid (fun W (f : Fr (fun k => k = c) wr W) (hy : CyAt W b0 c BA5.hp 0 (.slice none 0 0) lv5 [] ls5) => hT5.own f hy (fun j hj => by
                rcases hj with hj | hj | hj
                · exact .inl hj
                · exact (InB.nil _ hj).elim
                · exact .inr (.inr hj)))
              have hall := hid (fun (RA : List Nat) (hb : Bfs (strs (nowAt A5)) (addAll [] (l1 ++ rd5)) 0 RA) => (Gath.all hrep5.out hP5.tw.wa hold5 hga5 (fun x hx => by
                rcases List.mem_append.1 hx with hx | hx
                · exact hP5.placed x hx
                · exact hpl5 x hx) hP5.ptrs hb).length_eq)
              have hl1l : (nI l1).length = 4 := by simp [hlS.1]
              have hle0 : Hid (([] : List Int).length + (nI l1).length ≤ 1000000) := by show _ ≤ _; rw [hl1l]; simp
              have hle2 : Hid ((nI l1).length + (nI rd5).length ≤ 1000000) := by show _ ≤ _; rw [hl1l]; simp; omega
              clear hl1l
              obtain ⟨ra5, rn5, rc5, hrv5⟩ := hT5.cy.r.letters
              rw [hrv5] at hRd
              have hlt5 := hid hT5.cy.lt
              have hcbb : Hid (∀ k, CyB c (.slice none 0 0) lv5 k → k < wr.heap.size) := fun k hk => by
                rcases hk with hk | hk | hk
                · rw [hk]; exact hcl
                · exact (InB.nil _ hk).elim
                · exact (hlt5.out k (.inr (.inr hk))).1
              clear hT5 hP5 hga5 hpl5 hc5 hrd5 hls5 hcl hrv5
              have tok1 : True := trivial
              go_region_held3 (fun w' => w'.cell? ⟨T, 0, none⟩ = some (hpV BA5)) (go_keep) (first
                | (have _t := tok1; refine step_appL (by rfl) _ _ (by rfl) 0 (.slice none 0 0) [] (ORow.nil _ _) (by rfl) (.slice (some ⟨T, 2, none⟩) 4 4) (nI l1) (hRw.out _ (by first | with_reducible exact Fr.refl _ _ | with_reducible exact (Fr.refl _ _).drew | with_reducible exact (Fr.refl _ _).drew.drew)) (by rfl) hle0.out (Nat.zero_le _) ?_; intro v1 W1 hr1 f1 hn1; have k1c : Calm wr W1 := Fr.trans (by first | with_reducible exact Fr.refl _ _ | with_reducible exact (Fr.refl _ _).drew | with_reducible exact (Fr.refl _ _).drew.drew) (f1.mono (fun b _ h => (InB.nil b h).elim)); have u1 := k1c.cellAt hta id; replace hr1 := hid hr1; have hn1' : Hid (∀ b, InB v1 b → wr.heap.size ≤ b) := (fun b hb => (hn1 b hb).resolve_left (InB.nil b)); clear f1 hn1 tok1; have tok2 : True := trivial)
                | (have _t := tok3; refine step_appL (by rfl) _ _ (by rfl) 0 v1 (nI l1) hr1'.out (by rfl) (.slice ra5 rn5 rc5) (nI rd5) hrr.out.row (by rfl) hle2.out (Nat.zero_le _) ?_; intro v2 W2 hr2 f2 hn2; have k2 : Fr (fun k => k = c) wr W2 := kr.join f2 (fun j hj h => by have := hn1'.out j h; omega); have u2 := k2.cellAt hta hTc; have hcy2 := hid (hcy5.out.fr f2 (fun k hk h => by have h1 := hn1'.out k h; have h2 := (hcb5.out k hk); omega)); replace hr2 := hid hr2; clear f2 hn2 tok3; have tok4 : True := trivial)
                | (have _t := tok2; go_at_call 15; refine (hRd.out _ (by first | with_reducible exact k1c | with_reducible exact k1c.drew | with_reducible exact k1c.drew.drew)).mono ?_; rintro e w5 ⟨rfl, hcy5, hrr, fr5⟩; have kr : Fr (fun k => k = c) wr w5 := Fr.trans (Calm.any (by first | with_reducible exact k1c | with_reducible exact k1c.drew | with_reducible exact k1c.drew.drew)) fr5; have u5 := kr.cellAt hta hTc; have hcb5 : Hid (∀ k, CyB c (.slice none 0 0) lv5 k → k < wr.heap.size) := hcbb; replace hcy5 := hid hcy5; replace hrr := hid hrr; have hr1' := hid ((hr1.out.calm (by first | with_reducible exact Fr.refl _ _ | with_reducible exact (Fr.refl _ _).drew | with_reducible exact (Fr.refl _ _).drew.drew)).frB fr5 (fun b hb (e : b = c) => by have := hn1'.out b hb; have := hcl'.out; omega)); clear fr5 tok2; have tok3 : True := trivial)
                | (have _t := tok4; go_at_call 14; refine (hCn.out _ k2 v2 hr2.out).mono ?_; rintro e w10 ⟨vn1, vs1, RA, ls, B92, rfl, p1, p2, p3, p4, p5, p6, p7⟩; have u3 := p7.cellAt u2 id))
              all_goals
                obtain ⟨va, vc, hvn⟩ := p2.slice
                have hlen : ls.length = N := by
                  have h1 := congrArg List.length p3
                  have h2 := hall.out RA p1
                  simp [plc] at h1 h2
                  omega
                rw [hlen] at hvn
                subst hvn
                have hF := hid (hown.out w10 (k2.trans p7.any) (hcy2.out.calm p7))
                clear p1 p2 p3 p4 p5 p6 p7 hCn hRd hRw hall hown hr2 hcy2
                go_wp2_with fail
                go_meet
                exact ⟨va, vc, vs1, rfl, rfl, rfl, hF.out⟩
            case rest =>
              clear hT5
              obtain ⟨va, vc, vs, rfl, rfl, rfl, hTx⟩ := hcut
              have hlv := hid (live_is hTx.cy)
              have hAl := hid (fun W (cw : Calm wc W) => alike_is (hTx.tw.calm cw) hP5 hidd.out)
              have hcx := hid hTx.calm
              have hle : ((N : Int) + 2 ≤ (N : Int) + 2) := Int.le_refl _
              clear hTx hga5 hpl5 hc5
              go_wp2_with fail
              refine (hlv.out).mono ?_
              rintro e w11 ⟨rfl, rfl⟩
              go_wp2_with fail
              refine (hAl.out _ (Fr.refl _ _)).mono ?_
              rintro e w12 ⟨rfl, c12⟩
              have hc12 : Hid (Calm w w12) := hcx.out.trans c12
              clear hlv hAl c12
              go_wp2
              go_ret
              exact ⟨rfl, hc12.out.below⟩

end Go.Proofs.YtaifelejdngmpaaGreat
