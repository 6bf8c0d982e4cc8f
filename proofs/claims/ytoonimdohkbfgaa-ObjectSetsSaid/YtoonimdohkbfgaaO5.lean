/- ObjectSets returns true, whatever the input. -/
import Derived.Test.YtoonimdohkbfgaaO5C
import Derived.Deep.CutBlock
set_option linter.unusedSimpArgs false
set_option linter.unusedVariables false
namespace Go.Proofs.Ytoonimdohkbfgaa
open Go.RowKit Go.Shelf


set_option maxRecDepth 100000 in
set_option maxHeartbeats 40000000 in
theorem objectSets_walk (xs : List Int) (hx : xs.length = 3) (hxb : ∀ x ∈ xs, I64 x) (ys : List Int) (hy : ys.length = 3) (hyb : ∀ x ∈ ys, I64 x) (v : Value) (l : List Op7) (hm : l.length ≤ maxLen) (w : World)
    (hr : RowK w v 5 (l.map Op7.cells)) (hl : ∀ o ∈ l, o.Ok) :
    Calls Try.prog 3 #[.agg (xs.map (Value.int .i64)).toArray, .agg (ys.map (Value.int .i64)).toArray, v] w fun e w' => e = .returned (.bool true) ∧ Below w.heap.size w w' := by
  obtain ⟨a0, a1, a2, rfl, A0, A1, A2⟩ := arr3 hx hxb
  obtain ⟨b0, b1, b2, rfl, B0, B1, B2⟩ := arr3 hy hyb
  clear hx hxb hy hyb
  simp only [List.map_cons, List.map_nil]
  unfold maxLen at hm
  obtain ⟨sa, cap, rfl, hcells⟩ := hr.cells
  replace hr := hid hr
  replace hl := hid hl
  replace hcells := hid hcells
  replace A0 := hid A0
  replace A1 := hid A1
  replace A2 := hid A2
  replace B0 := hid B0
  replace B1 := hid B1
  replace B2 := hid B2
  go_enter Try.func3, Try.ntmps3
  go_wp2_with fail
  refine (awake07 _).mono ?_
  rintro e w1 ⟨rfl, c1⟩
  have oa := ((OwnL.new w [.int .i64 a0, .int .i64 a1, .int .i64 a2] 22).alloc (.cells #[.int .i64 b0, .int .i64 b1, .int .i64 b2] 22)).calm c1
  have ob := (OwnL.at (w.alloc (.cells #[.int .i64 a0, .int .i64 a1, .int .i64 a2] 22)) [.int .i64 b0, .int .i64 b1, .int .i64 b2] 22 (w.heap.size + 1) (by simp)).calm c1
  have s1 := c1.size
  simp only [World.size_alloc] at s1
  replace c1 : Calm w w1 := (((Fr.refl _ w).alloc _).alloc _).trans c1
  have x0 := (oa 0 _ rfl).1
  have x1 := (oa 1 _ rfl).1
  have x2 := (oa 2 _ rfl).1
  have y0 := (ob 0 _ rfl).1
  have y1 := (ob 1 _ rfl).1
  have y2 := (ob 2 _ rfl).1
  go_wp2_with fail
  refine (row07 a0 a1 a2 b0 b1 b2 A0.out A1.out A2.out B0.out B1.out B2.out _).mono ?_
  rintro e w2 ⟨b, c, p, d, wk, fn, p', d', wk', fn', hok, hok', rfl, ar, c2, lb, lc, ft, ft'⟩
  clear ft ft' x0 x1 x2 oa y0 y1 y2 ob
  obtain ⟨S, rfl, rfl, rfl, rfl, rfl, rfl, rfl, rfl⟩ : ∃ S : Shs, S.p 0 = p ∧ S.d 0 = d ∧ S.wk 0 = wk ∧ S.fn 0 = fn ∧ S.p 1 = p' ∧ S.d 1 = d' ∧ S.wk 1 = wk' ∧ S.fn 1 = fn' :=
    ⟨⟨fun j => if j = 0 then p else p', fun j => if j = 0 then d else d', fun j => if j = 0 then wk else wk', fun j => if j = 0 then fn else fn'⟩, rfl, rfl, rfl, rfl, rfl, rfl, rfl, rfl⟩
  have p8 := hok.1
  have d8 := hok.2.1
  have p8' := hok'.1
  have d8' := hok'.2.1
  have hl1 : (made (List.replicate 60 0) 0 (S.p 0) (S.d 0) (S.wk 0) (S.fn 0) 1).length = 60 := by rw [made_length]; simp
  have at0 := made_far (xs := made (List.replicate 60 0) 0 (S.p 0) (S.d 0) (S.wk 0) (S.fn 0) 1) (a := 3 + S.p 0 + S.d 0) (p := S.p 1) (d := S.d 1) (wk := S.wk 1) (fn := S.fn 1) (ser := 2) (by rw [hl1]; omega) (made_at (xs := List.replicate 60 0) (a := 0) (ser := 1) hok (by omega) (by simp; omega)) (.inl (by simp [Ob.new, Ob.size]))
  have at1 := made_at (xs := made (List.replicate 60 0) 0 (S.p 0) (S.d 0) (S.wk 0) (S.fn 0) 1) (a := 3 + S.p 0 + S.d 0) (ser := 2) hok' (by omega) (by rw [hl1]; omega)
  generalize made (made (List.replicate 60 0) 0 (S.p 0) (S.d 0) (S.wk 0) (S.fn 0) 1) (3 + S.p 0 + S.d 0) (S.p 1) (S.d 1) (S.wk 1) (S.fn 1) 2 = X at *
  obtain ⟨N, hN⟩ : ∃ N, 3 + S.p 0 + S.d 0 = N := ⟨_, rfl⟩
  rw [hN] at at1 ⊢
  have hN19 : N ≤ 19 := by omega
  have hcl := (ar.cell (k := 0) (by have := at0.room; simp only [Ob.size, Ob.new] at this; omega)).lt
  have hbl := ar.lt
  replace hN := hid hN
  replace hok := hid hok
  replace hok' := hid hok'
  clear hl1
  go_wp2_with fail
  have i0 : ObjI X (List.replicate 16 0) (List.replicate 16 0) 0 0 (Ob.new (S.p 0) (S.d 0) (S.wk 0) (S.fn 0) 1) (S.p 0) (S.d 0) (S.wk 0) (S.fn 0) 1 :=
    ⟨at0, rfl, rfl, rfl, rfl, rfl, fun f hf => by rw [show (Ob.new (S.p 0) (S.d 0) (S.wk 0) (S.fn 0) 1).ps = List.replicate (S.p 0) 0 from rfl, rep0, rep0],
     fun f hf => by rw [show (Ob.new (S.p 0) (S.d 0) (S.wk 0) (S.fn 0) 1).ns = List.replicate (S.d 0) 0 from rfl, rep0, rep0I]; rfl, by simp, by simp⟩
  have i1 : ObjI X (List.replicate 16 0) (List.replicate 16 0) 8 N (Ob.new (S.p 1) (S.d 1) (S.wk 1) (S.fn 1) 2) (S.p 1) (S.d 1) (S.wk 1) (S.fn 1) 2 :=
    ⟨at1, rfl, rfl, rfl, rfl, rfl, fun f hf => by rw [show (Ob.new (S.p 1) (S.d 1) (S.wk 1) (S.fn 1) 2).ps = List.replicate (S.p 1) 0 from rfl, rep0, rep0],
     fun f hf => by rw [show (Ob.new (S.p 1) (S.d 1) (S.wk 1) (S.fn 1) 2).ns = List.replicate (S.d 1) 0 from rfl, rep0, rep0I]; rfl, by simp, by simp⟩
  have kb := (((((Fr.refl (fun _ => False) w2).alloc (.cells #[.int .i64 (S.p 0), .int .i64 (S.d 0), .bool (S.wk 0), .bool (S.fn 0)] 27)).alloc (.cells #[.int .i64 (S.p 1), .int .i64 (S.d 1), .bool (S.wk 1), .bool (S.fn 1)] 27)).alloc
    (.cells #[.int .i64 0, .int .i64 0, .int .i64 0, .int .i64 0, .int .i64 0, .int .i64 0, .int .i64 0, .int .i64 0, .int .i64 0, .int .i64 0, .int .i64 0, .int .i64 0, .int .i64 0, .int .i64 0, .int .i64 0, .int .i64 0] 31)).alloc
    (.cells #[.int .i64 0, .int .i64 0, .int .i64 0, .int .i64 0, .int .i64 0, .int .i64 0, .int .i64 0, .int .i64 0, .int .i64 0, .int .i64 0, .int .i64 0, .int .i64 0, .int .i64 0, .int .i64 0, .int .i64 0, .int .i64 0] 31)).alloc
    (.cells #[.bool false, .bool false] 32)
  have oP := ((OwnL.at ((w2.alloc (.cells #[.int .i64 (S.p 0), .int .i64 (S.d 0), .bool (S.wk 0), .bool (S.fn 0)] 27)).alloc (.cells #[.int .i64 (S.p 1), .int .i64 (S.d 1), .bool (S.wk 1), .bool (S.fn 1)] 27)) ((List.replicate 16 0).map fun x : Nat => Value.int .i64 (x : Nat)) 31 (w2.heap.size + 1 + 1) (by simp)).alloc
    (.cells #[.int .i64 0, .int .i64 0, .int .i64 0, .int .i64 0, .int .i64 0, .int .i64 0, .int .i64 0, .int .i64 0, .int .i64 0, .int .i64 0, .int .i64 0, .int .i64 0, .int .i64 0, .int .i64 0, .int .i64 0, .int .i64 0] 31)).alloc
    (.cells #[.bool false, .bool false] 32)
  have oM := (OwnL.at (((w2.alloc (.cells #[.int .i64 (S.p 0), .int .i64 (S.d 0), .bool (S.wk 0), .bool (S.fn 0)] 27)).alloc (.cells #[.int .i64 (S.p 1), .int .i64 (S.d 1), .bool (S.wk 1), .bool (S.fn 1)] 27)).alloc
    (.cells #[.int .i64 0, .int .i64 0, .int .i64 0, .int .i64 0, .int .i64 0, .int .i64 0, .int .i64 0, .int .i64 0, .int .i64 0, .int .i64 0, .int .i64 0, .int .i64 0, .int .i64 0, .int .i64 0, .int .i64 0, .int .i64 0] 31)) ((List.replicate 16 0).map (Value.int .i64)) 31 (w2.heap.size + 1 + 1 + 1) (by simp)).alloc
    (.cells #[.bool false, .bool false] 32)
  have oQ := OwnL.at ((((w2.alloc (.cells #[.int .i64 (S.p 0), .int .i64 (S.d 0), .bool (S.wk 0), .bool (S.fn 0)] 27)).alloc (.cells #[.int .i64 (S.p 1), .int .i64 (S.d 1), .bool (S.wk 1), .bool (S.fn 1)] 27)).alloc
    (.cells #[.int .i64 0, .int .i64 0, .int .i64 0, .int .i64 0, .int .i64 0, .int .i64 0, .int .i64 0, .int .i64 0, .int .i64 0, .int .i64 0, .int .i64 0, .int .i64 0, .int .i64 0, .int .i64 0, .int .i64 0, .int .i64 0] 31)).alloc
    (.cells #[.int .i64 0, .int .i64 0, .int .i64 0, .int .i64 0, .int .i64 0, .int .i64 0, .int .i64 0, .int .i64 0, .int .i64 0, .int .i64 0, .int .i64 0, .int .i64 0, .int .i64 0, .int .i64 0, .int .i64 0, .int .i64 0] 31)) [.bool false, .bool false] 32 (w2.heap.size + 1 + 1 + 1 + 1) (by simp)
  have oS := ((((OwnL.new w2 [.int .i64 (S.p 0), .int .i64 (S.d 0), .bool (S.wk 0), .bool (S.fn 0)] 27).alloc (.cells #[.int .i64 (S.p 1), .int .i64 (S.d 1), .bool (S.wk 1), .bool (S.fn 1)] 27)).alloc
    (.cells #[.int .i64 0, .int .i64 0, .int .i64 0, .int .i64 0, .int .i64 0, .int .i64 0, .int .i64 0, .int .i64 0, .int .i64 0, .int .i64 0, .int .i64 0, .int .i64 0, .int .i64 0, .int .i64 0, .int .i64 0, .int .i64 0] 31)).alloc
    (.cells #[.int .i64 0, .int .i64 0, .int .i64 0, .int .i64 0, .int .i64 0, .int .i64 0, .int .i64 0, .int .i64 0, .int .i64 0, .int .i64 0, .int .i64 0, .int .i64 0, .int .i64 0, .int .i64 0, .int .i64 0, .int .i64 0] 31)).alloc
    (.cells #[.bool false, .bool false] 32)
  have oT := (((OwnL.at (w2.alloc (.cells #[.int .i64 (S.p 0), .int .i64 (S.d 0), .bool (S.wk 0), .bool (S.fn 0)] 27)) [.int .i64 (S.p 1), .int .i64 (S.d 1), .bool (S.wk 1), .bool (S.fn 1)] 27 (w2.heap.size + 1) (by simp)).alloc
    (.cells #[.int .i64 0, .int .i64 0, .int .i64 0, .int .i64 0, .int .i64 0, .int .i64 0, .int .i64 0, .int .i64 0, .int .i64 0, .int .i64 0, .int .i64 0, .int .i64 0, .int .i64 0, .int .i64 0, .int .i64 0, .int .i64 0] 31)).alloc
    (.cells #[.int .i64 0, .int .i64 0, .int .i64 0, .int .i64 0, .int .i64 0, .int .i64 0, .int .i64 0, .int .i64 0, .int .i64 0, .int .i64 0, .int .i64 0, .int .i64 0, .int .i64 0, .int .i64 0, .int .i64 0, .int .i64 0] 31)).alloc
    (.cells #[.bool false, .bool false] 32)
  generalize hWb : World.alloc _ (.cells #[.bool false, .bool false] 32) = Wb at kb oS oT oQ ⊢
  have kc := (c1.trans c2).trans kb
  have hsh : Hid (ShOk S N) := ⟨hN.out, fun J hJ => by rcases (by omega : J = 0 ∨ J = 1) with rfl | rfl <;> assumption, fun J hJ => by rcases (by omega : J = 0 ∨ J = 1) with rfl | rfl <;> assumption⟩
  have hI : Hid (SetsX b c N (w2.heap.size + 1 + 1) (w2.heap.size + 1 + 1 + 1) (w2.heap.size + 1 + 1 + 1 + 1) S Wb) :=
    ⟨X, fun J => if J = 0 then Ob.new (S.p 0) (S.d 0) (S.wk 0) (S.fn 0) 1 else Ob.new (S.p 1) (S.d 1) (S.wk 1) (S.fn 1) 2, List.replicate 16 0, List.replicate 16 0, ar.calm kb, fun J hJ => by
      rcases (by omega : J = 0 ∨ J = 1) with rfl | rfl
      · rw [Nat.zero_mul, Nat.zero_mul]; exact i0
      · rw [Nat.one_mul, Nat.one_mul]; exact i1, by rw [← hWb]; exact oP, by rw [← hWb]; exact oM, oQ, by simp, by simp⟩
  have hQW := oQ.lt (by simp)
  have s2 := c2.size
  have s3 := kb.size
  generalize w2.heap.size = T at *
  clear hWb c1 c2 kb ar i0 i1 oP oM oQ at0 at1
  go_loopw [15] (fun i wr => ∃ k : Nat, k ≤ l.length ∧ k ≤ 30 ∧ i = .int .i64 k ∧ Hid (SetsX b c N (T + 1 + 1) (T + 1 + 1 + 1) (T + 1 + 1 + 1 + 1) S wr) ∧ Fr (Turns c T) Wb wr) (fun i _ => 30 - (intOf i).toNat)
  case atStart => exact ⟨0, by omega, by omega, rfl, hI, Fr.refl _ _⟩
  case round =>
    clear hI
    obtain ⟨k, hk, hk2, rfl, hI, kr⟩ := hrel
    rcases (by omega : (k < l.length ∧ k < 30) ∨ ¬ (k < l.length ∧ k < 30)) with ⟨hlt, hlt2⟩ | hge
    · have ho : l[k]? = some l[k] := by simp [hlt]
      obtain ⟨bb, off, rfl, hc⟩ := hcells.out k _ ho
      obtain ⟨O1, O2, O3, O4, O5⟩ := hl.out _ (List.getElem_mem hlt)
      generalize l[k] = o at *
      obtain ⟨kd, oat, oi, on, oW⟩ := o
      have hbb : bb < w.heap.size := World.block_lt_of_cell? w _ (hc 2 _ rfl)
      have z0 := kr.cellAt (kc.cellAt (hc 0 _ rfl) id) (show ¬ (bb = c ∨ T + 1 < bb) by omega)
      have z1 := kr.cellAt (kc.cellAt (hc 1 _ rfl) id) (show ¬ (bb = c ∨ T + 1 < bb) by omega)
      have z2 := kr.cellAt (kc.cellAt (hc 2 _ rfl) id) (show ¬ (bb = c ∨ T + 1 < bb) by omega)
      have z3 := kr.cellAt (kc.cellAt (hc 3 _ rfl) id) (show ¬ (bb = c ∨ T + 1 < bb) by omega)
      have z4 := kr.cellAt (kc.cellAt (hc 4 _ rfl) id) (show ¬ (bb = c ∨ T + 1 < bb) by omega)
      dsimp only at O1 O2 O3 O4 O5 z0 z1 z2 z3 z4
      rw [Nat.add_zero] at z0
      have rk := pk_range oat (n := 2) (by omega)
      have rf := pk_range oi (n := 8) (by omega)
      have rz := pk_range kd (n := 3) (by omega)
      have rv := pk_range on (n := 131073) (by omega)
      obtain ⟨K, hK⟩ : ∃ K, pk oat 2 = K := ⟨_, rfl⟩
      obtain ⟨F, hF⟩ : ∃ F, pk oi 8 = F := ⟨_, rfl⟩
      obtain ⟨Z, hZ⟩ : ∃ Z, pk kd 3 = Z := ⟨_, rfl⟩
      obtain ⟨V, hV⟩ : ∃ V, pk on 131073 = V := ⟨_, rfl⟩
      rw [hK] at rk
      rw [hF] at rf
      rw [hZ] at rz
      rw [hV] at rv
      obtain ⟨rf1, rf2⟩ := rf
      obtain ⟨rv1, rv2⟩ := rv
      obtain ⟨rk1, rk2⟩ := rk
      obtain ⟨K, rfl⟩ := Int.eq_ofNat_of_zero_le rk1
      obtain ⟨F, rfl⟩ := Int.eq_ofNat_of_zero_le rf1
      obtain ⟨V, rfl⟩ := Int.eq_ofNat_of_zero_le rv1
      have hV2 : Hid (V ≤ 131072) := by show V ≤ 131072; omega
      have hK2 : K < 2 := by omega
      have hz012 : Z = 0 ∨ Z = 1 ∨ Z = 2 := by omega
      have hF8 : F < 8 := by omega
      have g1 : (k : Int) < l.length := by omega
      have g2 : (k : Int) < 30 := by omega
      have oS1 := oS.fr kr (show ¬ (T = c ∨ T + 1 < T) by omega)
      have oT1 := oT.fr kr (show ¬ (T + 1 = c ∨ T + 1 < T + 1) by omega)
      have hwr := kr.size
      replace hcells := hid hcells
      replace hl := hid hl
      replace O1 := hid O1
      replace O2 := hid O2
      replace O3 := hid O3
      replace O4 := hid O4
      replace O5 := hid O5
      replace hK := hid hK
      replace hF := hid hF
      replace hZ := hid hZ
      replace hV := hid hV
      replace ho := hid ho
      replace hc := hid hc
      clear rv1 rv2 rk1 rk2 rz rf1 rf2
      have hT0 := oS1.lt (by simp)
      have hT1 := oT1.lt (by simp)
      have x0 := (oS1 0 _ rfl).1
      have x1 := (oS1 1 _ rfl).1
      have x2 := (oS1 2 _ rfl).1
      have x3 := (oS1 3 _ rfl).1
      have y0 := (oT1 0 _ rfl).1
      have y1 := (oT1 1 _ rfl).1
      have y2 := (oT1 2 _ rfl).1
      have y3 := (oT1 3 _ rfl).1
      have b01 : (((0 : Nat) : Int) == 1) = false := rfl
      have b11 : (((1 : Nat) : Int) == 1) = true := rfl
      obtain ⟨a, ha⟩ : ∃ a, K * N = a := ⟨_, rfl⟩
      have hai0 : (K : Int) * (N : Int) = (a : Int) := by rw [← ha]; push_cast; rfl
      have ha38 : a ≤ 38 := by rw [← ha]; exact Nat.le_trans (Nat.mul_le_mul (show K ≤ 2 by omega) hN19) (by omega)
      have hai : wrap64 ((K : Int) * (N : Int)) = (a : Int) := by rw [hai0]; unfold wrap64; omega
      clear hai0
      replace hai := hid hai
      replace ha := hid ha
      go_wp2_with fail
      refine (pick07 oat 2 _ O2.out (by omega)).mono ?_
      rintro e w' ⟨rfl, rfl⟩
      rw [hK.out]
      go_upto_if 71 with fail
      rw [hai.out]
      go_cut [] (fun wx => Hid (SetsX b c N (T + 1 + 1) (T + 1 + 1 + 1) (T + 1 + 1 + 1 + 1) S wx) ∧ Fr (Turns c T) Wb wx ∧ OwnL wx wr.heap.size [.int .i64 kd, .int .i64 oat, .int .i64 oi, .int .i64 on, .int .u64 oW] ∧ OwnL wx (wr.heap.size + 1) [.int .i64 (S.p K), .int .i64 (S.d K), .bool (S.wk K), .bool (S.fn K)])
      case first =>
        have c19 : Calm wr ((wr.alloc (.cells #[.int .i64 kd, .int .i64 oat, .int .i64 oi, .int .i64 on, .int .u64 oW] 35)).alloc (.cells #[.int .i64 (S.p 0), .int .i64 (S.d 0), .bool (S.wk 0), .bool (S.fn 0)] 27)) := ((Fr.refl _ _).alloc _).alloc _
        have c19' : Calm wr ((wr.alloc (.cells #[.int .i64 kd, .int .i64 oat, .int .i64 oi, .int .i64 on, .int .u64 oW] 35)).alloc (.cells #[.int .i64 (S.p 1), .int .i64 (S.d 1), .bool (S.wk 1), .bool (S.fn 1)] 27)) := ((Fr.refl _ _).alloc _).alloc _
        have o16 := (OwnL.new wr [.int .i64 kd, .int .i64 oat, .int .i64 oi, .int .i64 on, .int .u64 oW] 35).alloc (.cells #[.int .i64 (S.p 0), .int .i64 (S.d 0), .bool (S.wk 0), .bool (S.fn 0)] 27)
        have o16' := (OwnL.new wr [.int .i64 kd, .int .i64 oat, .int .i64 oi, .int .i64 on, .int .u64 oW] 35).alloc (.cells #[.int .i64 (S.p 1), .int .i64 (S.d 1), .bool (S.wk 1), .bool (S.fn 1)] 27)
        have o19 := OwnL.at (wr.alloc (.cells #[.int .i64 kd, .int .i64 oat, .int .i64 oi, .int .i64 on, .int .u64 oW] 35)) [.int .i64 (S.p 0), .int .i64 (S.d 0), .bool (S.wk 0), .bool (S.fn 0)] 27 (wr.heap.size + 1) (by simp)
        have o19' := OwnL.at (wr.alloc (.cells #[.int .i64 kd, .int .i64 oat, .int .i64 oi, .int .i64 on, .int .u64 oW] 35)) [.int .i64 (S.p 1), .int .i64 (S.d 1), .bool (S.wk 1), .bool (S.fn 1)] 27 (wr.heap.size + 1) (by simp)
        have hS := hid (hI.out.calm c19)
        have hS' := hid (hI.out.calm c19')
        have kS := kr.trans (Calm.any c19)
        have kS' := kr.trans (Calm.any c19')
        rcases (by omega : K = 0 ∨ K = 1) with rfl | rfl
        · go_wp2_with fail
          go_meet
          exact ⟨hS, kS, o16, o19⟩
        · go_wp2_with fail
          go_meet
          exact ⟨hS', kS', o16', o19'⟩
      case rest =>
        clear kr hI x0 x1 x2 x3 y0 y1 y2 y3 z0 z1 z2 z3 z4 oS1 oT1 b01 b11
        obtain ⟨hI1, kr1, o16, o19⟩ := hcut
        have hB16 : Wb.heap.size ≤ wr.heap.size := hwr
        generalize wr.heap.size = B16 at *
        have x2 := (o16 2 _ rfl).1
        go_wp2_with fail
        refine (pick07 oi 8 _ O3.out (by omega)).mono ?_
        rintro e w' ⟨rfl, rfl⟩
        rw [hF.out]
        have x0 := (o16 0 _ rfl).1
        go_wp2_with fail
        refine (pick07 kd 3 _ O1.out (by omega)).mono ?_
        rintro e w' ⟨rfl, rfl⟩
        rw [hZ.out]
        clear x0 x2
        go_upto_block 2 with fail
        refine switch_is hI1.out hsh.out hK2 ha.out hF8 hz012 O4.out o16 o19 (by omega) (by omega) (by omega) _ _ _ _ _ _ _ _ _ _ _ _ _ _ _ _ _ _ _ _ _ _ _ _ _ _ _ _ _ _ _ _ _ _ _ _ _ _ _ _ _ _ _ _ _ _ _ _ _ _ _ _ _ _ _ _ _ _ _ _ _ _ _ _ _ _ _ _ _ _ _ _ _ _ _ _ _ _ _ _ _ _ _ _ _ _ _ _ _ _ _ _ _ _ _ _ _ _ _ _ _ _ _ _ _ _ _ _ _ _ _ _ _ _ _ _ _ _ _ _ _ _ _ _ _ _ _ _ _ _ _ _ _ _ _ _ _ _ _ _ _ _ _ _ _ _ _ _ _ _ _ _ _ _ _ _ _ _ _ _ _ _ _ _ _ _ _ _ _ _ _ _ _ _ _ _ _ _ _ _ _ _ _ _ _ _ _ _ _ _ _ _ _ _ _ _ _ _ _ _ _ _ _ _ _ _ _ _ _ _ _ _ _ _ _ _ _ _ _ _ _ _ _ _ _ _ _ _ _ _ _ _ _ _ _ _ _ _ _ _ _ _ _ _ _ _ _ _ _ _ _ _ ?_
        intro v21 v79 v80 v81 v82 v83 v84 v85 v86 v87 v88 v89 v90 v91 v92 v93 v94 v95 v96 v97 v98 v99 v100 v101 v102 v103 v104 v105 v106 v107 v108 v109 v110 v111 v112 v113 v114 v115 v116 v117 v118 v119 v120 v121 v122 v123 v124 v125 v126 v127 v128 v129 v130 v131 v132 v133 v134 v135 v136 v137 v138 v139 v140 v141 w3 hI3 f3
        have kr3 := kr1.trans f3
        have oS3 := oS.fr kr3 (show ¬ (T = c ∨ T + 1 < T) by omega)
        have oT3 := oT.fr kr3 (show ¬ (T + 1 = c ∨ T + 1 < T + 1) by omega)
        clear o16 o19 hI1 f3 kr1 hz012
        replace hI3 := hid hI3
        go_upto_block 3 with fail
        refine checks_is hI3.out hsh.out hN19 oS3 oT3 _ _ _ _ _ _ _ _ _ _ _ _ _ _ _ _ _ _ _ _ _ _ _ _ _ _ _ _ _ _ _ _ _ _ _ _ _ _ _ _ _ _ _ _ _ _ _ _ _ _ _ _ _ _ _ _ _ _ _ _ _ _ _ _ _ _ _ _ _ _ _ _ _ _ _ _ _ _ _ _ _ _ _ _ _ _ _ _ _ _ _ _ _ _ _ _ _ _ _ _ _ _ _ _ _ _ _ _ _ _ _ _ _ _ _ _ _ _ _ _ _ _ _ _ _ _ _ _ _ _ _ _ _ _ _ _ _ _ _ _ _ _ _ _ _ _ _ _ _ _ _ _ _ _ _ _ _ _ _ _ _ _ _ _ _ _ _ _ _ _ _ _ _ _ _ _ _ _ _ _ _ _ _ _ _ _ _ _ _ _ _ _ _ _ _ _ _ _ _ _ _ _ _ _ _ _ _ _ _ _ _ _ _ _ _ _ _ _ _ _ _ _ _ _ _ _ _ _ _ _ _ _ _ _ _ _ _ _ _ _ _ _ _ _ _ _ _ _ _ _ _ _ _ _ ?_
        intro z6 z22 z23 z24 z25 z26 z27 z28 z29 z30 z31 z32 z33 z142 z143 z144 z145 z146 z147 z148 z149 z150 z151 z152 z153 z154 z155 z156 z157 z158 z159 z160 z161 z162 z163 z164 z165 z166 z167 z168 z169 z170 z171 z172 z173 z174 z175 z176 z177 z178 z179 z180 z181 z182 z183 z184 z185 z186 z187 z188 z189 z190 z191 z192 z193 z194 z195 z196 z197 z198 z199 z200 z201 z202 z203 z204 z205 z206 z207 z208 z209 z210 z211 z212 z213 z214 z215 z216 z217 z218 z219 z220 z221 z222 z223 z224 z225 z226 z227 z228 z229 z230 z231 z232 z233 z234 z235 z236 z237 z238 z239 z240 z241 z242 z243 z244 z245 z246 z247 z248 z249 z250 z251 z252 z253 z254 z255 z256 z257 z258 z259 z260 w4 k4
        have hI4 := hid (hI3.out.calm k4)
        have kr4 := kr3.trans (Calm.any k4)
        clear oS3 oT3 hI3 k4 kr3
        go_wp2_with fail
        go_roundw
        case rel => exact ⟨k + 1, by omega, by omega, by go_num, hI4, kr4⟩
        case measure => simp [intOf]; omega
    · by_cases hkl : k < l.length
      · have g1 : (k : Int) < l.length := by omega
        have g2 : ¬ ((k : Int) < 30) := by omega
        clear hge hkl hk hk2
        go_wp2_with fail
        go_ret
        exact ⟨rfl, Calm.below (kc.join kr (fun j hj (e : j = c ∨ T + 1 < j) => by omega))⟩
      · have g1 : ¬ ((k : Int) < l.length) := by omega
        clear hge hkl hk hk2
        go_wp2_with fail
        go_ret
        exact ⟨rfl, Calm.below (kc.join kr (fun j hj (e : j = c ∨ T + 1 < j) => by omega))⟩

end Go.Proofs.Ytoonimdohkbfgaa
