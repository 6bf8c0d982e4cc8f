/- What package graph's Reach and Canon do. -/
import Derived.Test.YtiomemdmhcdpbaaNRow
set_option linter.unusedSimpArgs false
set_option linter.unusedVariables false
namespace Go.Proofs.Ytiomemdmhcdpbaa
open Go.RowKit Go.Shelf Go.Maps

def ReachPost (w : World) (obj : Nat → Ob) (rs : List Nat) (e : Ending) (w' : World) : Prop :=
  ∃ v R, e = .returned (.tuple #[v, .int .i64 0]) ∧ ORow w' w.heap.size v (nI R) ∧ Bfs (strs obj) (addAll [] rs) 0 R ∧ Calm w w'

def CanonPost (w : World) (obj : Nat → Ob) (rs : List Nat) (e : Ending) (w' : World) : Prop :=
  ∃ vn vs R ls B2, e = .returned (.tuple #[vn, vs, .int .i64 0]) ∧ Bfs (strs obj) (addAll [] rs) 0 R ∧ NRow w' w.heap.size vn ls ∧ ls.map NI.nd = R.map (fun x => (obj x).nd R) ∧
    (∀ x ∈ nblk vn ls, ∀ b, InB x b → b < B2) ∧ ORow w' B2 vs (ptI R rs) ∧ w.heap.size ≤ B2 ∧ Calm w w'

def CanI (w : World) (obj : Nat → Ob) (R : List Nat) (v : Value) (k : Nat) (wr : World) : Prop :=
  ∃ ls, NRow wr w.heap.size v ls ∧ ls.map NI.nd = (R.take k).map (fun x => (obj x).nd R) ∧ Calm w wr
def StaI (w : World) (R rs : List Nat) (v : Value) (k : Nat) (wr : World) : Prop := ORow wr w.heap.size v (ptI R (rs.take k)) ∧ Calm w wr

set_option maxRecDepth 4000 in
set_option maxHeartbeats 2000000 in
theorem canon_yes {w : World} {b c : Nat} {xs : List Nat} (h : Ar w b c xs) {U : List Nat} {obj : Nat → Ob} (ho : Objs xs U obj) {rv : Value} {rs : List Nat} (hr : Row w rv (iVs (nI rs))) (hl : rs.length ≤ 100000) (hu : ∀ x ∈ rs, x ≠ 0 → x ∈ U) :
    Calls Try.prog 70 #[arV b, rv] w (CanonPost w obj rs) := by
  have HF := hid (from_yes h ho hr hl hu)
  have HA := hid h
  have HO := hid ho
  have HU := hid hu
  obtain ⟨ra, rc, rfl, hrk⟩ := hr.loop
  have HR := hid hrk
  have hln : Hid ((nI rs).length = rs.length) := by show (nI rs).length = rs.length; simp
  rw [hln.out] at HF ⊢
  obtain ⟨n, hn⟩ : ∃ n, rs.length = n := ⟨_, rfl⟩
  rw [hn] at hl HF ⊢
  replace hn := hid hn
  clear h ho hu hr hrk
  go_enter Try.func70, Try.ntmps70
  go_wp2_with fail
  refine (HF.out).mono ?_
  rintro e w1 ⟨p, m, v, R, rfl, hcm, hb, hc, hnw⟩
  have hul := HO.out.len
  have hRU : Hid (∀ x ∈ R, x ∈ U) := by
    refine hb.within (U := fun x => x ∈ U) HO.out.str (fun x hx => ?_)
    rcases mem_addAll.1 hx with h | ⟨h1, h2⟩
    · cases h
    · exact HU.out x h1 h2
  have hRl := nodup_length hcm.nodup hRU.out
  obtain ⟨sa, sc, rfl⟩ := hcm.row.sliceN (n := R.length) (by simp)
  have p0 := hcm.places.1
  have HC := hid hcm
  have HB := hid hb
  have hI0 : CanI w1 obj R (.slice none 0 0) 0 w1 := ⟨[], NRow.nil _ _, rfl, Fr.refl _ _⟩
  obtain ⟨r, hr⟩ : ∃ r, R.length = r := ⟨_, rfl⟩
  rw [hr] at hRl p0 HC
  replace hr := hid hr
  clear hcm hb HF hnw
  go_wp2
  clear p0
  go_loopw [9, 31] (fun v i wr => ∃ k : Nat, k ≤ r ∧ i = .int .i64 k ∧ CanI w1 obj R v k wr) (fun _ i _ => r - (intOf i).toNat)
  case atStart => exact ⟨0, Nat.zero_le _, rfl, hI0⟩
  case round =>
    clear hI0
    obtain ⟨k, hk, rfl, ls, hN, hls, hcr⟩ := hrel
    rcases Nat.lt_or_ge k r with hlt | hge
    · have hkR : k < R.length := by rw [hr.out]; exact hlt
      obtain ⟨g, gc, hv, _, hg0, _⟩ := (HC.out.row.calm hcr).get (k := k) (by simpa using hkR)
      injection hv with hv1 hv2 hv3
      subst hv1
      rw [show (nI R).getD k 0 = ((R.getD k 0 : Nat) : Int) by simp [List.getD, hkR]] at hg0
      have hx : R.getD k 0 ∈ U := hRU.out _ (by simp [List.getD, hkR])
      have hstep : Hid ((R.take (k + 1)).map (fun x => (obj x).nd R) = (R.take k).map (fun x => (obj x).nd R) ++ [(obj (R.getD k 0)).nd R]) := by
        show (R.take (k + 1)).map _ = _
        rw [take_succ_getD R hkR]; simp
      have hS := hid (node_yes (HA.out.calm (hc.trans hcr)) (HO.out.at_ _ hx) (HC.out.calm hcr))
      have hlsl : ls.length = k := by have := congrArg List.length hls; simpa [Nat.min_eq_left (Nat.le_of_lt hkR)] using this
      replace hlsl := hid hlsl
      replace hls := hid hls
      replace hN := hid hN
      clear hv2 hv3 hkR
      generalize R.getD k 0 = x at *
      obtain ⟨o, hox⟩ : ∃ o, obj x = o := ⟨_, rfl⟩
      rw [hox] at hS hstep
      clear hox
      obtain ⟨va, vk, vc, rfl⟩ := hN.out.letters
      go_wp2_with fail
      refine (hS.out).mono ?_
      rintro e w2 ⟨vp, vn, rfl, hvp, hvn, hap, c2⟩
      obtain ⟨pa, pn, pc, rfl⟩ := hvp.letters
      obtain ⟨qa, qn, qc, rfl⟩ := hvn.letters
      have hlt2 : Hid (w1.heap.size ≤ wr.heap.size) := hcr.size
      have hN2 := hid (hN.out.calm (c2.alloc (.cells #[.int .i64 o.ser, .int .i64 o.p, .int .i64 o.d, .bool o.wk, .bool o.fn, .bool o.fr, .slice pa pn pc, .slice qa qn qc] 63)))
      have hold := hid hN.out.lt
      have hy1 := hid hvp
      have hy2 := hid hvn
      replace hap := hid hap
      have o12 := OwnL.new w2 (ndC o.ser o.p o.d o.wk o.fn o.fr (.slice pa pn pc) (.slice qa qn qc)) 63
      have x0 := (o12 0 _ rfl).1
      have x1 := (o12 1 _ rfl).1
      have x2 := (o12 2 _ rfl).1
      have x3 := (o12 3 _ rfl).1
      have x4 := (o12 4 _ rfl).1
      have x5 := (o12 5 _ rfl).1
      have x6 := (o12 6 _ rfl).1
      have x7 := (o12 7 _ rfl).1
      have c3 : Calm w2 (w2.alloc (.cells #[.int .i64 o.ser, .int .i64 o.p, .int .i64 o.d, .bool o.wk, .bool o.fn, .bool o.fr, .slice pa pn pc, .slice qa qn qc] 63)) := (Fr.refl _ _).alloc _
      have hy : Hid (NI.row (w2.alloc (.cells #[.int .i64 o.ser, .int .i64 o.p, .int .i64 o.d, .bool o.wk, .bool o.fn, .bool o.fr, .slice pa pn pc, .slice qa qn qc] 63)) w1.heap.size ⟨o.nd R, .slice pa pn pc, .slice qa qn qc⟩) := ⟨(hy1.out.calm c3).mono hlt2.out, (hy2.out.calm c3).mono hlt2.out⟩
      have ha : Hid (∀ z ∈ nblk (.slice va vk vc) ls, Aprt z (.slice pa pn pc) ∧ Aprt z (.slice qa qn qc)) := fun z hz => ⟨fun k h1 h2 => by have := (hold.out z hz k h1).2; have := (hy1.out.lt h2).1; omega, fun k h1 h2 => by have := (hold.out z hz k h1).2; have := (hy2.out.lt h2).1; omega⟩
      have hb3 : Hid (w1.heap.size ≤ (w2.alloc (.cells #[.int .i64 o.ser, .int .i64 o.p, .int .i64 o.d, .bool o.wk, .bool o.fn, .bool o.fr, .slice pa pn pc, .slice qa qn qc] 63)).heap.size) := Nat.le_trans hlt2.out (c2.trans c3).size
      have hcr3 : Calm w1 (w2.alloc (.cells #[.int .i64 o.ser, .int .i64 o.p, .int .i64 o.d, .bool o.wk, .bool o.fn, .bool o.fr, .slice pa pn pc, .slice qa qn qc] 63)) := hcr.trans (c2.trans c3)
      clear hold hy1 hy2 o12 hlt2 hcr c3
      go_wp2_with (at_builtin; go_must (refine wpList_appN rfl _ _ rfl w1.heap.size (.slice va vk vc) ls hN2.out rfl ⟨o.nd R, .slice pa pn pc, .slice qa qn qc⟩ hap.out ha.out hy.out _ _ _ _ _ _ _ _ rfl (by simp [NI.cells, Value.oneCell']) _ rfl (by simp) (by have := hlsl.out; omega) hb3.out ?_); intro g4 c4 w4 hN4 hF4 hg4; replace hN4 := hid hN4; replace hF4 := hid hF4; replace hg4 := hid hg4)
      go_roundw
      case rel =>
        refine ⟨k + 1, by omega, by go_num, _, hN4.out, by rw [hstep.out, List.map_append, hls.out]; rfl, hcr3.join hF4.out (fun j h1 h2 => ?_)⟩
        have := (hN2.out.lt (.slice va vk vc) (by simp [nblk]) j h2).1
        omega
      case measure => simp [intOf]; omega
    · obtain rfl : k = r := by omega
      have hT : R.take k = R := List.take_of_length_le (by rw [hr.out]; omega)
      rw [hT] at hls
      have hI0 : StaI wr R rs (.slice none 0 0) 0 wr := ⟨by simpa [ptI] using ORow.nil _ _, Fr.refl _ _⟩
      have hN2 := hid hN
      have hls2 := hid hls
      obtain ⟨va, vk, vc, rfl⟩ := hN2.out.letters
      have hcr2 := hid hcr
      clear hT hN hls hge hk
      go_wp2
      go_loopw [14, 52] (fun v i wx => ∃ k : Nat, k ≤ n ∧ i = .int .i64 k ∧ StaI wr R rs v k wx) (fun _ i _ => n - (intOf i).toNat)
      case atStart => exact ⟨0, Nat.zero_le _, rfl, hI0⟩
      case round =>
        rename_i wx0 _
        clear hI0
        obtain ⟨j, hj, rfl, hS, hcx⟩ := hrel
        rcases Nat.lt_or_ge j n with hlt | hge
        · have hjr : j < rs.length := by rw [hn.out]; exact hlt
          obtain ⟨rb, roff, rfl, hrb, hcell⟩ := HR.out j (by simpa using hjr)
          replace hcell := ((hc.trans hcr2.out).trans hcx).cellAt (p := ⟨rb, roff + j, none⟩) hcell id
          rw [show (nI rs).getD j 0 = ((rs.getD j 0 : Nat) : Int) by simp [List.getD, hjr]] at hcell
          have hmem : rs.getD j 0 ∈ rs := by simp [List.getD, hjr]
          have hq : rs.getD j 0 ≤ 131072 := by
            by_cases e : rs.getD j 0 = 0
            · omega
            · exact HO.out.le _ (HU.out _ hmem e)
          have hstep : Hid (ptI R (rs.take (j + 1)) = ptI R (rs.take j) ++ [ixOf R (rs.getD j 0)]) := by
            show ptI R (rs.take (j + 1)) = _
            rw [take_succ_getD rs hjr]; simp [ptI]
          have hll : Hid ((ptI R (rs.take j)).length = j) := by show (ptI R (rs.take j)).length = j; rw [ptI_length]; simp; omega
          have hC := hid (HC.out.calm (hcr2.out.trans hcx))
          replace hS := hid hS
          clear hmem hjr
          generalize ptI R (rs.take j) = l at *
          generalize rs.getD j 0 = q at *
          obtain ⟨sa, sn, sc2, rfl⟩ := hS.out.letters
          have hcs := hid hcx.size
          go_wp2_with (first | (go_at_call 99; refine (index_is hC.out q hq).mono ?_; rintro e w' ⟨rfl, rfl⟩) | (at_builtin; go_must (refine wpList_app1 rfl _ _ rfl _ _ l hS.out rfl (ixOf R q) rfl (by rw [hll.out]; omega) hcs.out ?_); intro g4 c4 w4 hN4 hF4 hg4; replace hN4 := hid hN4; replace hF4 := hid hF4; replace hg4 := hid hg4))
          go_roundw
          case rel =>
            refine ⟨j + 1, by omega, by go_num, by rw [hstep.out]; exact hN4.out, hcx.join hF4.out (fun j h1 h2 => ?_)⟩
            have := (hS.out.lt h2).1
            omega
          case measure => simp [intOf]; omega
        · obtain rfl : j = n := by omega
          have hT : rs.take j = rs := List.take_of_length_le (by rw [hn.out]; omega)
          rw [hT] at hS
          have hN3 := hid (hN2.out.calm hcx)
          obtain ⟨sa, sn, sc2, rfl⟩ := hS.letters
          replace hS := hid hS
          go_wp2
          go_ret3
          refine ⟨_, _, R, ls, _, rfl, HB.out, hN3.out.mono hc.size, hls2.out, fun x hx b hb => (hN2.out.lt x hx b hb).2, hS.out, Nat.le_trans hc.size hcr2.out.size, (hc.trans hcr2.out).trans hcx⟩

end Go.Proofs.Ytiomemdmhcdpbaa
