/- What the functions of package mover return: Copy. -/
import Derived.Test.YtcacbbfeenebbaaMover
set_option linter.unusedSimpArgs false
set_option linter.unusedVariables false
namespace Go.Proofs.Ytcacbbfeenebbaa
open Go.RowKit Go.Shelf


set_option maxHeartbeats 1000000 in
theorem copy_gone (w : World) (b c : Nat) (xs : List Nat) (h : Ar w b c xs) (a t : Nat) (hg : Gone xs a t) (B S T : Int) :
    Calls Try.prog 33 #[arV b, .int .i64 a, spV B S T] w fun e w' => e = .returned (.tuple #[spV B S T, .int .i64 t, .int .i64 0]) ∧ Calm w w' := by
  have HA := hid h
  have HG := hid hg
  clear h hg
  go_enter Try.func33, Try.ntmps33
  have o5 := (OwnL.new w [.int .i64 B, .int .i64 S, .int .i64 T] 61).alloc (.cells #[.int .i64 0, .int .i64 0, .int .i64 0] 61)
  have o6 := OwnL.at (w.alloc (.cells #[.int .i64 B, .int .i64 S, .int .i64 T] 61)) [.int .i64 0, .int .i64 0, .int .i64 0] 61 (w.heap.size + 1) (by simp)
  have k1 : Calm w ((w.alloc (.cells #[.int .i64 B, .int .i64 S, .int .i64 T] 61)).alloc (.cells #[.int .i64 0, .int .i64 0, .int .i64 0] 61)) := ((Fr.refl _ _).alloc _).alloc _
  replace HA := hid (HA.out.calm k1)
  go_wp2_with fail
  refine (mat_gone _ b c xs HA.out a t HG.out).mono ?_
  rintro e w' ⟨rfl, rfl⟩
  generalize hW : World.alloc _ (.cells #[.int .i64 0, .int .i64 0, .int .i64 0] 61) = W at *
  have x0 := (o5 0 _ rfl).1
  have x1 := (o5 1 _ rfl).1
  have x2 := (o5 2 _ rfl).1
  have y0 := (o6 0 _ rfl).1
  have z0 := (o6 0 _ rfl).2
  have y1 := (o6 1 _ rfl).1
  have z1 := (o6 1 _ rfl).2
  have y2 := (o6 2 _ rfl).1
  have z2 := (o6 2 _ rfl).2
  have lt6 := o6.lt (by simp)
  go_wp2
  have o7 := o6.set3 (.int .i64 B) (.int .i64 S) (.int .i64 T)
  replace k1 : Calm w _ := k1.join o7.2 (by intros; omega)
  clear x0 x1 x2 y0 y1 y2 z0 z1 z2 o5 o6
  have u0 := (o7.1 0 _ rfl).1
  have u1 := (o7.1 1 _ rfl).1
  have u2 := (o7.1 2 _ rfl).1
  exact bodyPost_ret (v := .tuple #[spV B S T, .int .i64 t, .int .i64 0]) (by simp [results, Try.f33, go_sem, u0, u1, u2]) rfl ⟨rfl, k1⟩

set_option maxHeartbeats 2000000 in
theorem copy_room (w : World) (b c : Nat) (xs : List Nat) (h : Ar w b c xs) (a : Nat) (o : Ob) (ho : At xs a o) (B S T : Int) (hp : okP B S T) (hl : S - (T - B) < rnd o.size) :
    Calls Try.prog 33 #[arV b, .int .i64 a, spV B S T] w fun e w' => e = .returned (.tuple #[spV B S T, .int .i64 0, .int .i64 80]) ∧ Calm w w' := by
  have HA := hid h
  have HO := hid ho
  have HP := hid hp
  have HL := hid hl
  have p8 := ho.ok.sh.1
  have d8 := ho.ok.sh.2.1
  have hs : Hid (o.size = 3 + o.p + o.d) := rfl
  clear h ho hp hl
  go_enter Try.func33, Try.ntmps33
  have o5 := (OwnL.new w [.int .i64 B, .int .i64 S, .int .i64 T] 61).alloc (.cells #[.int .i64 0, .int .i64 0, .int .i64 0] 61)
  have o6 := OwnL.at (w.alloc (.cells #[.int .i64 B, .int .i64 S, .int .i64 T] 61)) [.int .i64 0, .int .i64 0, .int .i64 0] 61 (w.heap.size + 1) (by simp)
  have k1 : Calm w ((w.alloc (.cells #[.int .i64 B, .int .i64 S, .int .i64 T] 61)).alloc (.cells #[.int .i64 0, .int .i64 0, .int .i64 0] 61)) := ((Fr.refl _ _).alloc _).alloc _
  replace HA := hid (HA.out.calm k1)
  go_wp2_with fail
  refine (mat_here _ b c xs HA.out a o HO.out).mono ?_
  rintro e w' ⟨rfl, rfl⟩
  generalize hW : World.alloc _ (.cells #[.int .i64 0, .int .i64 0, .int .i64 0] 61) = W at *
  go_wp2_with fail
  refine (at_shape HA.out HO.out).mono ?_
  rintro e w1 ⟨rfl, c1⟩
  have o11 := OwnL.new w1 [.int .i64 o.p, .int .i64 o.d, .bool o.wk, .bool o.fn] 31
  replace c1 := c1.alloc (.cells #[.int .i64 o.p, .int .i64 o.d, .bool o.wk, .bool o.fn] 31)
  replace o5 := o5.calm c1
  replace o6 := o6.calm c1
  replace k1 := k1.trans c1
  have x0 := (o11 0 _ rfl).1
  have x1 := (o11 1 _ rfl).1
  have x2 := (o11 2 _ rfl).1
  have x3 := (o11 3 _ rfl).1
  clear hW c1
  go_wp2_with fail
  refine (size_yes o.p o.d o.wk o.fn HO.out.ok.sh _).mono ?_
  rintro e w2 ⟨rfl, c2⟩
  replace o5 := o5.calm c2
  replace o6 := o6.calm c2
  replace k1 := k1.trans c2
  clear x0 x1 x2 x3 o11 c2
  have hc : (3 : Int) + o.p + o.d = (o.size : Int) := by rw [hs.out]; push_cast; rfl
  rw [hc]
  have hsz : o.size ≤ 19 := by have := hs.out; omega
  have hsz1 : 3 ≤ o.size := by have := hs.out; omega
  replace hc := hid hc
  generalize o.size = n at *
  have x0 := (o5 0 _ rfl).1
  have x1 := (o5 1 _ rfl).1
  have x2 := (o5 2 _ rfl).1
  go_wp2_with fail
  refine (take_full B S T n _ HP.out (by omega) (by omega) HL.out).mono ?_
  rintro e w3 ⟨rfl, c3⟩
  replace o5 := o5.calm c3
  replace o6 := o6.calm c3
  replace k1 := k1.trans c3
  clear x0 x1 x2 c3
  have x0 := (o5 0 _ rfl).1
  have x1 := (o5 1 _ rfl).1
  have x2 := (o5 2 _ rfl).1
  have y0 := (o6 0 _ rfl).1
  have z0 := (o6 0 _ rfl).2
  have y1 := (o6 1 _ rfl).1
  have z1 := (o6 1 _ rfl).2
  have y2 := (o6 2 _ rfl).1
  have z2 := (o6 2 _ rfl).2
  have lt6 := o6.lt (by simp)
  have lt5 := o5.lt (by simp)
  go_wp2
  have o7 := o6.set3 (.int .i64 B) (.int .i64 S) (.int .i64 T)
  replace k1 : Calm w _ := (k1.join o7.2 (by intros; omega)).alloc (.cells #[.int .i64 B, .int .i64 S, .int .i64 T] 61)
  have o8 := o7.1.alloc (.cells #[.int .i64 B, .int .i64 S, .int .i64 T] 61)
  clear x0 x1 x2 y0 y1 y2 z0 z1 z2 o5 o6 o7
  have u0 := (o8 0 _ rfl).1
  have u1 := (o8 1 _ rfl).1
  have u2 := (o8 2 _ rfl).1
  exact bodyPost_ret (v := .tuple #[spV B S T, .int .i64 0, .int .i64 80]) (by simp [results, Try.f33, go_sem, u0, u1, u2]) rfl ⟨rfl, k1⟩

set_option maxHeartbeats 2000000 in
theorem copy_yes (w : World) (b c : Nat) (xs : List Nat) (h : Ar w b c xs) (a : Nat) (o : Ob) (ho : At xs a o) (B S : Int) (T : Nat) (hp : okP B S T) (hl : rnd o.size ≤ S - (T - B)) (hT : 1 ≤ T) (hr : T + o.size ≤ xs.length) :
    Calls Try.prog 33 #[arV b, .int .i64 a, spV B S T] w fun e w' => e = .returned (.tuple #[spV B S (T + rnd o.size), .int .i64 T, .int .i64 0]) ∧ Ar w' b c ((mv xs a T o.size).set a (T * 4 + 2)) ∧ Fr (fun k => k = c) w w' := by
  have HA := hid h
  have HO := hid ho
  have HP := hid hp
  have p8 := ho.ok.sh.1
  have d8 := ho.ok.sh.2.1
  have hs : Hid (o.size = 3 + o.p + o.d) := rfl
  have hal := ho.lt
  have har := ho.room
  have hlen := h.2.2.2
  have hcl : c < w.heap.size := (h.cell hal).lt
  have hbl := h.lt
  clear h ho hp
  go_enter Try.func33, Try.ntmps33
  have o5 := (OwnL.new w [.int .i64 B, .int .i64 S, .int .i64 T] 61).alloc (.cells #[.int .i64 0, .int .i64 0, .int .i64 0] 61)
  have o6 := OwnL.at (w.alloc (.cells #[.int .i64 B, .int .i64 S, .int .i64 T] 61)) [.int .i64 0, .int .i64 0, .int .i64 0] 61 (w.heap.size + 1) (by simp)
  have k1 : Calm w ((w.alloc (.cells #[.int .i64 B, .int .i64 S, .int .i64 T] 61)).alloc (.cells #[.int .i64 0, .int .i64 0, .int .i64 0] 61)) := ((Fr.refl _ _).alloc _).alloc _
  replace HA := hid (HA.out.calm k1)
  go_wp2_with fail
  refine (mat_here _ b c xs HA.out a o HO.out).mono ?_
  rintro e w' ⟨rfl, rfl⟩
  generalize hW : World.alloc _ (.cells #[.int .i64 0, .int .i64 0, .int .i64 0] 61) = W at *
  have kw := k1.size
  go_wp2_with fail
  refine (at_shape HA.out HO.out).mono ?_
  rintro e w1 ⟨rfl, c1⟩
  have o11 := OwnL.new w1 [.int .i64 o.p, .int .i64 o.d, .bool o.wk, .bool o.fn] 31
  replace c1 := c1.alloc (.cells #[.int .i64 o.p, .int .i64 o.d, .bool o.wk, .bool o.fn] 31)
  replace o5 := o5.calm c1
  replace o6 := o6.calm c1
  replace HA := hid (HA.out.calm c1)
  replace k1 := k1.trans c1
  have x0 := (o11 0 _ rfl).1
  have x1 := (o11 1 _ rfl).1
  have x2 := (o11 2 _ rfl).1
  have x3 := (o11 3 _ rfl).1
  clear hW c1
  go_wp2_with fail
  refine (size_yes o.p o.d o.wk o.fn HO.out.ok.sh _).mono ?_
  rintro e w2 ⟨rfl, c2⟩
  replace o5 := o5.calm c2
  replace o6 := o6.calm c2
  replace HA := hid (HA.out.calm c2)
  replace k1 := k1.trans c2
  clear x0 x1 x2 x3 o11 c2
  have hc : (3 : Int) + o.p + o.d = (o.size : Int) := by rw [hs.out]; push_cast; rfl
  rw [hc]
  have hsz : o.size ≤ 19 := by have := hs.out; omega
  have hsz1 : 3 ≤ o.size := by have := hs.out; omega
  replace hc := hid hc
  obtain ⟨n, hn⟩ : ∃ n, o.size = n := ⟨_, rfl⟩
  rw [hn] at hl hr har hsz hsz1 hs ⊢
  replace hn := hid hn
  obtain ⟨r, hr0⟩ : ∃ r, rnd (n : Int) = r := ⟨_, rfl⟩
  have hrb := rnd_spec (n := (n : Int)) (by omega)
  rw [hr0] at hl hrb
  obtain ⟨hr1, hr2, hr3⟩ := hrb
  have x0 := (o5 0 _ rfl).1
  have x1 := (o5 1 _ rfl).1
  have x2 := (o5 2 _ rfl).1
  have htk := take_yes B S T n w2 HP.out (by omega) (by omega) (by rw [hr0]; exact hl)
  rw [hr0] at htk
  replace htk := hid htk
  replace hr0 := hid hr0
  have hT0 : ((T : Int) == 0) = false := by simp; omega
  have hgt : ¬ ((n : Int) > xs.length - T) := by omega
  go_wp2_with fail
  refine (htk.out).mono ?_
  rintro e w3 ⟨rfl, c3⟩
  replace o5 := o5.calm c3
  replace o6 := o6.calm c3
  replace HA := hid (HA.out.calm c3)
  replace k1 := k1.trans c3
  have kw4 := k1.size
  clear x0 x1 x2 c3 htk o5
  have o16 := OwnL.new w3 [.int .i64 B, .int .i64 S, .int .i64 (T + r)] 61
  have c4 : Calm w3 (w3.alloc (.cells #[.int .i64 B, .int .i64 S, .int .i64 (T + r)] 61)) := (Fr.refl _ _).alloc _
  replace o6 := o6.calm c4
  replace HA := hid (HA.out.calm c4)
  replace k1 := k1.trans c4
  have kw3 := c4.size
  clear c4
  go_wp2_with fail
  refine (len_is _ b c xs HA.out).mono ?_
  rintro e w' ⟨rfl, rfl⟩
  go_wp2_with fail
  refine (gone_yes T (by omega) (by omega) _).mono ?_
  rintro e w' ⟨rfl, rfl⟩
  rw [Int.toNat_natCast]
  go_wp2_with fail
  refine (move_yes _ b c xs HA.out a T n (by omega) har hr).mono ?_
  rintro e w5 ⟨rfl, ar5, f5⟩
  have hl5 : (mv xs a T n).length = xs.length := mv_length hr
  replace o6 := o6.fr f5 (by omega)
  replace o16 := o16.fr f5 (by omega)
  replace ar5 := hid ar5
  have kf : Fr (fun k => k = c) w w5 := (Calm.any k1).trans f5
  obtain ⟨Y, hY⟩ : ∃ Y, mv xs a T n = Y := ⟨_, rfl⟩
  rw [hY] at hl5 ar5
  replace hY := hid hY
  have k5 := f5.size
  clear f5
  go_wp2_with fail
  refine (store_yes _ b c Y ar5.out a (by omega) (T * 4 + 2)).mono ?_
  rintro e w6 ⟨rfl, rfl⟩
  have ar6 := hid (ar5.out.set (k := a) (by omega) (T * 4 + 2))
  have f6 : Fr (fun k => k = c) w5 (w5.setCell ⟨c, a, none⟩ (wV (T * 4 + 2))) := (Fr.refl (fun k => k = c) w5).setCell (p := ⟨c, a, none⟩) (.inl rfl) _
  replace o6 := o6.fr f6 (by omega)
  replace o16 := o16.fr f6 (by omega)
  replace kf := kf.trans f6
  generalize w5.setCell ⟨c, a, none⟩ (wV (T * 4 + 2)) = w6 at *
  have lt6 := o6.lt (by simp)
  have lt16 := o16.lt (by simp)
  have x0 := (o16 0 _ rfl).1
  have x1 := (o16 1 _ rfl).1
  have x2 := (o16 2 _ rfl).1
  have y0 := (o6 0 _ rfl).1
  have z0 := (o6 0 _ rfl).2
  have y1 := (o6 1 _ rfl).1
  have z1 := (o6 1 _ rfl).2
  have y2 := (o6 2 _ rfl).1
  have z2 := (o6 2 _ rfl).2
  clear hl hr hal har
  go_wp2
  have o7 := o6.set3 (.int .i64 B) (.int .i64 S) (.int .i64 (T + r))
  have ar7 := ar6.out.fr o7.2 (by omega) (by omega)
  replace kf : Fr (fun k => k = c) w _ := kf.join o7.2 (fun k hk (e : k = w.heap.size + 1) => absurd hk (by omega))
  clear x0 x1 x2 y0 y1 y2 z0 z1 z2 o6
  have u0 := (o7.1 0 _ rfl).1
  have u1 := (o7.1 1 _ rfl).1
  have u2 := (o7.1 2 _ rfl).1
  exact bodyPost_ret (v := .tuple #[spV B S (T + r), .int .i64 T, .int .i64 0]) (by simp [results, Try.f33, go_sem, u0, u1, u2]) rfl ⟨by rw [hn.out, hr0.out], by rw [hn.out, hY.out]; exact ar7, kf⟩

end Go.Proofs.Ytcacbbfeenebbaa
