/- What package graph's from does. -/
import Derived.Test.YtiomemdmhcdpbaaCome
set_option linter.unusedSimpArgs false
set_option linter.unusedVariables false
namespace Go.Proofs.Ytiomemdmhcdpbaa
open Go.RowKit Go.Shelf Go.Maps

theorem nodup_length : ∀ {L U : List Nat}, L.Nodup → (∀ x ∈ L, x ∈ U) → L.length ≤ U.length
  | [], U, _, _ => Nat.zero_le _
  | a :: L, U, hn, hs => by
    rw [List.nodup_cons] at hn
    have h1 := nodup_length (L := L) (U := U.erase a) hn.2 (fun x hx => (List.mem_erase_of_ne (by rintro rfl; exact hn.1 hx)).2 (hs x (by simp [hx])))
    have h2 : a ∈ U := hs a (by simp)
    rw [List.length_erase_of_mem h2] at h1
    have := List.length_pos_of_mem h2
    simp only [List.length_cons]; omega

/-- The objects of a heap: at each place of U one; their strong pointers lead to nothing or into U. -/
structure Objs (xs : List Nat) (U : List Nat) (obj : Nat → Ob) : Prop where
  at_ : ∀ x ∈ U, At xs x (obj x)
  str : ∀ x ∈ U, ∀ q ∈ (obj x).strong, q ≠ 0 → q ∈ U
  le : ∀ x ∈ U, x ≤ 131072
  len : U.length ≤ 100000
abbrev strs (obj : Nat → Ob) (x : Nat) : List Nat := (obj x).strong
theorem Ob.strong_bound {o : Ob} (h : o.Ok) : ∀ x ∈ o.strong, x ≤ 131072 := by
  unfold Ob.strong; split
  · simp
  · exact h.ps

/-- A slice's elements, opened for a loop. -/
theorem Row.loop {w : World} {v : Value} {l : List Int} (h : Row w v (iVs l)) : ∃ a c, v = .slice a l.length c ∧ ∀ k, k < l.length → ∃ b off, a = some ⟨b, off, none⟩ ∧ b < w.heap.size ∧ w.cell? ⟨b, off + k, none⟩ = some (.int .i64 (l.getD k 0)) := by
  obtain ⟨a, cap, hv, h⟩ := h
  refine ⟨a, cap, by simpa using hv, fun k hk => ?_⟩
  rcases h with h | ⟨b, off, ha, hc⟩
  · simp at h; subst h; simp at hk
  · have := hc k (by simpa using hk)
    refine ⟨b, off, ha, World.block_lt_of_cell? w _ this, ?_⟩
    rw [this]; simp [List.getD, hk]

def RootI (w : World) (p m : Nat) (rs : List Nat) (k : Nat) (wr : World) : Prop := ∃ v, Cm wr p m v (addAll [] (rs.take k)) ∧ Calm w wr ∧ ∀ b, InB v b → w.heap.size ≤ b
/-- The places so far, of which i have been asked. -/
def AskI (w : World) (p m : Nat) (obj : Nat → Ob) (U L0 : List Nat) (i : Nat) (wr : World) : Prop :=
  ∃ v L, Cm wr p m v L ∧ Calm w wr ∧ (∀ b, InB v b → w.heap.size ≤ b) ∧ i ≤ L.length ∧ (∀ x ∈ L, x ∈ U) ∧ ∀ R, Bfs (strs obj) L i R → Bfs (strs obj) L0 0 R
/-- .. while what one of them tells is added. -/
def AddI (w : World) (p m : Nat) (vs : Value) (l L : List Nat) (j : Nat) (wr : World) : Prop :=
  ∃ v, Cm wr p m v (addAll L (l.take j)) ∧ Calm w wr ∧ (∀ b, InB v b → w.heap.size ≤ b) ∧ ORow wr 0 vs (nI l) ∧ ∀ b, InB vs b → ¬ CmB p m v b

def FromPost (w : World) (obj : Nat → Ob) (rs : List Nat) (e : Ending) (w' : World) : Prop :=
  ∃ p m v R, e = .returned (.tuple #[.pointer (some ⟨p, 0, none⟩), .int .i64 0]) ∧ Cm w' p m v R ∧ Bfs (strs obj) (addAll [] rs) 0 R ∧ Calm w w' ∧ ∀ b, CmB p m v b → w.heap.size ≤ b

set_option maxRecDepth 4000 in
set_option maxHeartbeats 2000000 in
theorem from_yes {w : World} {b c : Nat} {xs : List Nat} (h : Ar w b c xs) {U : List Nat} {obj : Nat → Ob} (ho : Objs xs U obj) {rv : Value} {rs : List Nat} (hr : Row w rv (iVs (nI rs))) (hl : rs.length ≤ 100000) (hu : ∀ x ∈ rs, x ≠ 0 → x ∈ U) :
    Calls Try.prog 97 #[arV b, rv] w (FromPost w obj rs) := by
  have hmm := @run_makeMap Try.prog
  have HA := hid h
  have HO := hid ho
  have HU := hid hu
  obtain ⟨ra, rc, rfl, hrk⟩ := hr.loop
  have HR := hid hrk
  have hln : Hid ((nI rs).length = rs.length) := by show (nI rs).length = rs.length; simp
  rw [hln.out]
  obtain ⟨n, hn⟩ : ∃ n, rs.length = n := ⟨_, rfl⟩
  rw [hn] at hl ⊢
  replace hn := hid hn
  clear h ho hu hr hrk
  go_enter Try.func97, Try.ntmps97
  go_wp2
  obtain ⟨W0, hW0⟩ : ∃ W0, (w.alloc (Obj.map #[] 0)).alloc (Obj.cells #[Value.slice none 0 0, Value.map (some w.heap.size)] 141) = W0 := ⟨_, rfl⟩
  have hc0 : Cm W0 (w.heap.size + 1) w.heap.size (.slice none 0 0) [] := by
    rw [← hW0]
    exact ⟨Own.at _ _ _ _ 0 (by simp) rfl, Own.at _ _ _ _ 1 (by simp) rfl, ORow.nil _ _, World.ownsMap.alloc (World.ownsMap_made w Try.prog 3 _) _, InB.nil _, InB.nil _, by omega, List.nodup_nil⟩
  have k0 : Calm w W0 := by rw [← hW0]; exact ((Fr.refl _ _).alloc _).alloc _
  rw [hW0]
  have hs0 : RootI w (w.heap.size + 1) w.heap.size rs 0 W0 := ⟨_, hc0, k0, fun b hb => absurd hb (InB.nil b)⟩
  clear hW0 hc0 k0
  go_loopw [19] (fun i wr => ∃ k : Nat, k ≤ n ∧ i = .int .i64 k ∧ RootI w (w.heap.size + 1) w.heap.size rs k wr) (fun i _ => n - (intOf i).toNat)
  case atStart => exact ⟨0, Nat.zero_le _, rfl, hs0⟩
  case round =>
    obtain ⟨k, hk, rfl, hI⟩ := hrel
    clear hs0
    rcases Nat.lt_or_ge k n with hlt | hge
    · obtain ⟨v, hcm, hcalm, hnew⟩ := hI
      obtain ⟨rb, roff, rfl, hrb, hcell⟩ := HR.out k (by rw [hln.out, hn.out]; omega)
      replace hcell := hcalm.cellAt (p := ⟨rb, roff + k, none⟩) hcell id
      have hmem : rs.getD k 0 ∈ rs := by have := hn.out; simp [List.getD, show k < rs.length by omega]
      have hq : rs.getD k 0 ≤ 131072 := by
        by_cases e : rs.getD k 0 = 0
        · omega
        · exact HO.out.le _ (HU.out _ hmem e)
      have hstep : Hid (addAll [] (rs.take (k + 1)) = addTo (addAll [] (rs.take k)) (rs.getD k 0)) := by
        show addAll [] (rs.take (k + 1)) = _
        rw [take_succ_getD rs (by have := hn.out; omega), addAll_snoc]
      rw [show (nI rs).getD k 0 = ((rs.getD k 0 : Nat) : Int) by have := hn.out; simp [List.getD, show k < rs.length by omega]] at hcell
      have hlen : (addAll [] (rs.take k)).length ≤ 100000 := Nat.le_trans (nodup_length hcm.nodup (fun x hx => by
        rcases mem_addAll.1 hx with h | ⟨h1, h2⟩
        · cases h
        · exact HU.out x (List.mem_of_mem_take h1) h2)) HO.out.len
      replace hcm := hid hcm
      generalize addAll [] (rs.take k) = L at *
      generalize rs.getD k 0 = q at *
      clear hmem
      go_wp2_with fail
      refine (to_is hcm.out q hq hlen).mono ?_
      rintro e w2 ⟨rfl, v', hcm2, hf2, hn2⟩
      replace hcm2 := hid hcm2
      replace hf2 := hid hf2
      replace hn2 := hid hn2
      go_wp2
      go_roundw
      case rel =>
        refine ⟨k + 1, by omega, by go_num, v', by rw [hstep.out]; exact hcm2.out, hcalm.join hf2.out (fun j h1 h2 => ?_), fun b hb => ?_⟩
        · rcases h2 with rfl | rfl | h2
          · omega
          · omega
          · have := hnew _ h2; omega
        · rcases hn2.out b hb with h2 | h2
          · exact hnew b h2
          · have := hcalm.size; omega
      case measure => simp [intOf]; omega
    · obtain rfl : k = n := by omega
      have hL0 : Hid (rs.take k = rs) := List.take_of_length_le (by rw [hn.out]; omega)
      obtain ⟨v, hcm, hcalm, hnew⟩ := hI
      rw [hL0.out] at hcm
      have hA : AskI w (w.heap.size + 1) w.heap.size obj U (addAll [] rs) 0 wr := ⟨v, _, hcm, hcalm, hnew, Nat.zero_le _, fun x hx => by
        rcases mem_addAll.1 hx with h | ⟨h1, h2⟩
        · cases h
        · exact HU.out x h1 h2, fun R h => h⟩
      clear hcm hcalm hnew v
      obtain ⟨L0, hL00⟩ : ∃ L0, addAll [] rs = L0 := ⟨_, rfl⟩
      rw [hL00] at hA
      replace hL00 := hid hL00
      clear hge
      go_wp2
      go_loopw [9] (fun i wr => ∃ k : Nat, i = .int .i64 k ∧ AskI w (w.heap.size + 1) w.heap.size obj U L0 k wr) (fun i _ => U.length + 1 - (intOf i).toNat)
      case atStart => exact ⟨0, rfl, hA⟩
      case round =>
        clear hA
        obtain ⟨i, rfl, v, L, hcm, hcalm, hnew, hil, hsub, hbfs⟩ := hrel
        have hlu := nodup_length hcm.nodup hsub
        have hul := HO.out.len
        obtain ⟨sa, sc, rfl⟩ := hcm.row.sliceN (n := L.length) (by simp)
        have p0 := hcm.places.1
        rcases Nat.lt_or_ge i L.length with hlt | hge
        · obtain ⟨g, c', hv, _, hg0, _⟩ := hcm.row.get (k := i) (by simpa using hlt)
          injection hv with hv1 hv2 hv3
          subst hv1
          rw [show (nI L).getD i 0 = ((L.getD i 0 : Nat) : Int) by simp [List.getD, hlt]] at hg0
          have hx : L.getD i 0 ∈ U := hsub _ (by simp [List.getD, hlt])
          replace hbfs : Hid (∀ R, Bfs (strs obj) (addAll L (obj (L.getD i 0)).strong) (i + 1) R → Bfs (strs obj) L0 0 R) := fun R h => hbfs R (.step hlt h)
          have hst := hid (HO.out.str _ hx)
          replace hcm := hid hcm
          replace hsub := hid hsub
          have hS := hid (strong_yes (HA.out.calm hcalm) (HO.out.at_ _ hx))
          have hsb := hid (Ob.strong_bound (HO.out.at_ _ hx).ok)
          have hsp := Ob.strong_le (HO.out.at_ _ hx).ok
          have hsp8 := (HO.out.at_ _ hx).ok.sh.1
          clear hv2 hv3 hk
          generalize L.getD i 0 = x at *
          generalize (obj x).strong = l at *
          go_wp2_with fail
          refine (hS.out).mono ?_
          rintro e w2 ⟨vs, rfl, hrow, c2⟩
          obtain ⟨va, vc, rfl⟩ := hrow.sliceN (n := l.length) (by simp)
          have hI : AddI w (w.heap.size + 1) w.heap.size (.slice va l.length vc) l L 0 w2 := ⟨_, hcm.out.calm c2, hcalm.trans c2, hnew, hrow.base (fun _ _ => Nat.zero_le _), fun b hb => by
            have := hrow.lt hb
            rintro (rfl | rfl | h2)
            · have := hcm.out.places.lt; omega
            · have := hcm.out.map.lt; omega
            · have := hcm.out.row.lt h2; omega⟩
          have hLL : Hid (∀ j, j ≤ l.length → (addAll L (l.take j)).length ≤ 100000 ∨ True) := fun _ _ => .inr trivial
          clear hrow p0 hg0 hS c2 hLL hcm hnew hcalm
          obtain ⟨m, hm⟩ : ∃ m, l.length = m := ⟨_, rfl⟩
          rw [hm] at hI hsp ⊢
          replace hm := hid hm
          go_wp2
          go_loopw [53] (fun i wr => ∃ j : Nat, j ≤ m ∧ i = .int .i64 j ∧ AddI w (w.heap.size + 1) w.heap.size (.slice va m vc) l L j wr) (fun i _ => m - (intOf i).toNat)
          case atStart => exact ⟨0, Nat.zero_le _, rfl, hI⟩
          case round =>
            clear hI
            obtain ⟨j, hj, rfl, v, hcm, hcalm, hnew, hrow, hap⟩ := hrel
            rcases Nat.lt_or_ge j m with hlt2 | hge2
            · obtain ⟨g2, c2, hv, _, hg0, _⟩ := hrow.get (k := j) (by simp; rw [hm.out]; exact hlt2)
              injection hv with hv1 hv2 hv3
              subst hv1
              have hjl : j < l.length := by rw [hm.out]; exact hlt2
              rw [show (nI l).getD j 0 = ((l.getD j 0 : Nat) : Int) by simp [List.getD, hjl]] at hg0
              have hstep : Hid (addAll L (l.take (j + 1)) = addTo (addAll L (l.take j)) (l.getD j 0)) := by
                show addAll L (l.take (j + 1)) = _
                rw [take_succ_getD l hjl, addAll_snoc]
              have hq := hsb.out (l.getD j 0) (by simp [List.getD, hjl])
              have hlen : (addAll L (l.take j)).length ≤ 100000 := Nat.le_trans (nodup_length hcm.nodup (fun x hx => by
                rcases mem_addAll.1 hx with h | ⟨h1, h2⟩
                · exact hsub.out x h
                · exact hst.out x (List.mem_of_mem_take h1) h2)) hul
              replace hcm := hid hcm
              replace hrow := hid hrow
              replace hap := hid hap
              clear hv2 hv3 hjl
              generalize addAll L (l.take j) = L' at *
              generalize l.getD j 0 = q at *
              go_wp2_with fail
              refine (to_is hcm.out q hq hlen).mono ?_
              rintro e w3 ⟨rfl, v', hcm2, hf2, hn2⟩
              replace hcm2 := hid hcm2
              replace hf2 := hid hf2
              replace hn2 := hid hn2
              go_wp2
              go_roundw
              case rel =>
                refine ⟨j + 1, by omega, by go_num, v', by rw [hstep.out]; exact hcm2.out, hcalm.join hf2.out (fun j h1 h2 => ?_), fun b hb => ?_, hrow.out.frB hf2.out (fun b hb => hap.out b hb), fun b hb => ?_⟩
                · rcases h2 with rfl | rfl | h2
                  · omega
                  · omega
                  · have := hnew _ h2; omega
                · rcases hn2.out b hb with h2 | h2
                  · exact hnew b h2
                  · have := hcalm.size; omega
                · have h5 := hap.out b hb
                  have h6 := (hrow.out.lt hb).2
                  rintro (h7 | h7 | h7)
                  · exact h5 (.inl h7)
                  · exact h5 (.inr (.inl h7))
                  · rcases hn2.out b h7 with h8 | h8
                    · exact h5 (.inr (.inr h8))
                    · omega
              case measure => simp [intOf]; omega
            · obtain rfl : j = m := by omega
              have hT : l.take j = l := List.take_of_length_le (by rw [hm.out]; omega)
              rw [hT] at hcm
              have hA : AskI w (w.heap.size + 1) w.heap.size obj U L0 (i + 1) wr := ⟨v, _, hcm, hcalm, hnew, by
                obtain ⟨M, hM, _⟩ := addAll_prefix l L
                rw [hM]; simp; omega, fun x hx => by
                rcases mem_addAll.1 hx with h | ⟨h1, h2⟩
                · exact hsub.out x h
                · exact hst.out x h1 h2, hbfs.out⟩
              clear hT hcm hcalm hnew hrow hap
              go_wp2
              go_roundw
              case rel => exact ⟨i + 1, by go_num, hA⟩
              case measure => simp [intOf]; omega
        · have hB := hid (hbfs _ (.done hge))
          replace hcm := hid hcm
          replace hsub := hid hsub
          replace hnew := hid hnew
          clear hbfs
          go_wp2
          go_ret2
          refine ⟨_, _, _, L, rfl, hcm.out, by rw [hL00.out]; exact hB.out, hcalm, ?_⟩
          rintro b (rfl | rfl | hb)
          · omega
          · omega
          · exact hnew.out b hb

end Go.Proofs.Ytiomemdmhcdpbaa
