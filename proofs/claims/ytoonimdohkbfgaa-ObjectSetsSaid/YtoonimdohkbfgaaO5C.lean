/- ObjectSets: the checks. -/
import Derived.Test.YtoonimdohkbfgaaO5S
set_option linter.unusedSimpArgs false
set_option linter.unusedVariables false
namespace Go.Proofs.Ytoonimdohkbfgaa
open Go.RowKit Go.Shelf

/-- What Ptr, Num tell of a field, whether there is one or not. -/
theorem ptr_any {w : World} {b c : Nat} {xs : List Nat} (h : Ar w b c xs) {a : Nat} {o : Ob} (ho : At xs a o) (G : Nat) :
    Calls Try.prog 13 #[arV b, .int .i64 a, .int .i64 G] w fun e w' => ∃ u e' : Int, e = .returned (.tuple #[.int .i64 u, .int .i64 e']) ∧ ((G < o.p ∧ e' = 0 ∧ u = (o.ps.getD G 0 : Nat)) ∨ (¬ G < o.p ∧ e' = 71)) ∧ Calm w w' := by
  by_cases hg : G < o.p
  · exact (at_ptr h ho hg).mono fun e w' ⟨he, k⟩ => ⟨_, _, he, .inl ⟨hg, rfl, rfl⟩, k⟩
  · exact (at_ptr_no h ho (i := (G : Int)) (.inr (by omega))).mono fun e w' ⟨he, k⟩ => ⟨_, _, he, .inr ⟨hg, rfl⟩, k⟩
theorem num_any {w : World} {b c : Nat} {xs : List Nat} (h : Ar w b c xs) {a : Nat} {o : Ob} (ho : At xs a o) (G : Nat) :
    Calls Try.prog 14 #[arV b, .int .i64 a, .int .i64 G] w fun e w' => ∃ u e' : Int, e = .returned (.tuple #[.int .i64 u, .int .i64 e']) ∧ ((G < o.d ∧ e' = 0 ∧ u = zt (o.ns.getD G 0)) ∨ (¬ G < o.d ∧ e' = 71)) ∧ Calm w w' := by
  by_cases hg : G < o.d
  · exact (at_num h ho hg).mono fun e w' ⟨he, k⟩ => ⟨_, _, he, .inl ⟨hg, rfl, rfl⟩, k⟩
  · exact (at_num_no h ho (i := (G : Int)) (.inr (by omega))).mono fun e w' ⟨he, k⟩ => ⟨_, _, he, .inr ⟨hg, rfl⟩, k⟩

set_option maxRecDepth 1000000 in
set_option maxHeartbeats 40000000 in
theorem checks_is {b c N T P M Q : Nat} {S : Shs} {w : World} (hI : SetsX b c N P M Q S w) (hsh : ShOk S N) (hN19 : N ≤ 19)
    (oS : OwnL w T [.int .i64 (S.p 0), .int .i64 (S.d 0), .bool (S.wk 0), .bool (S.fn 0)]) (oT : OwnL w (T + 1) [.int .i64 (S.p 1), .int .i64 (S.d 1), .bool (S.wk 1), .bool (S.fn 1)])
    (u0 u1 u2 u3 u4 u5 u6 u7 u15 u16 u17 u18 u19 u20 u21 u23 u24 u25 u26 u27 u28 u29 u30 u31 u32 u33 u34 u35 u36 u37 u38 u39 u40 u41 u42 u43 u44 u45 u46 u47 u48 u49 u50 u51 u52 u53 u54 u55 u56 u57 u58 u59 u60 u61 u62 u63 u64 u65 u66 u67 u68 u69 u70 u71 u72 u73 u74 u75 u76 u77 u78 u79 u80 u81 u82 u83 u84 u85 u86 u87 u88 u89 u90 u91 u92 u93 u94 u95 u96 u97 u98 u99 u100 u101 u102 u103 u104 u105 u106 u107 u108 u109 u110 u111 u112 u113 u114 u115 u116 u117 u118 u119 u120 u121 u122 u123 u124 u125 u126 u127 u128 u129 u130 u131 u132 u133 u134 u135 u136 u137 u138 u139 u140 u141 u142 u143 u144 u145 u146 u147 u148 u149 u150 u151 u152 u153 u154 u155 u156 u157 u158 u159 u160 u161 u162 u163 u164 u165 u166 u167 u168 u169 u170 u171 u172 u173 u174 u175 u176 u177 u178 u179 u180 u181 u182 u183 u184 u185 u186 u187 u188 u189 u190 u191 u192 u193 u194 u195 u196 u197 u198 u199 u200 u201 u202 u203 u204 u205 u206 u207 u208 u209 u210 u211 u212 u213 u214 u215 u216 u217 u218 u219 u220 u221 u222 u223 u224 u225 u226 u227 u228 u229 u230 u231 u232 u233 u234 u235 u236 u237 u238 u239 u240 u241 u242 u243 u244 u245 u246 u247 u248 u249 u250 u251 u252 u253 u254 u255 u256 u257 u258 u259 u260 : Value) (Qe : Exit → Act → World → Prop)
    (hQ : ∀ (v6 v22 v23 v24 v25 v26 v27 v28 v29 v30 v31 v32 v33 v142 v143 v144 v145 v146 v147 v148 v149 v150 v151 v152 v153 v154 v155 v156 v157 v158 v159 v160 v161 v162 v163 v164 v165 v166 v167 v168 v169 v170 v171 v172 v173 v174 v175 v176 v177 v178 v179 v180 v181 v182 v183 v184 v185 v186 v187 v188 v189 v190 v191 v192 v193 v194 v195 v196 v197 v198 v199 v200 v201 v202 v203 v204 v205 v206 v207 v208 v209 v210 v211 v212 v213 v214 v215 v216 v217 v218 v219 v220 v221 v222 v223 v224 v225 v226 v227 v228 v229 v230 v231 v232 v233 v234 v235 v236 v237 v238 v239 v240 v241 v242 v243 v244 v245 v246 v247 v248 v249 v250 v251 v252 v253 v254 v255 v256 v257 v258 v259 v260 : Value) w', Calm w w' → Qe .normal ⟨#[u0, u1, u2, u3, u4, u5, v6, u7, arV b, .pointer (some ⟨T, 0, none⟩), .pointer (some ⟨T + 1, 0, none⟩), .int .i64 (N : Nat), .pointer (some ⟨P, 0, none⟩), .pointer (some ⟨M, 0, none⟩), .pointer (some ⟨Q, 0, none⟩), u15, u16, u17, u18, u19, u20, u21, v22, v23, v24, v25, v26, v27, v28, v29, v30, v31, v32, v33, u34, u35, u36, u37, u38, u39, u40, u41, u42, u43, u44, u45, u46, u47, u48, u49, u50, u51, u52, u53, u54, u55, u56, u57, u58, u59, u60, u61, u62, u63, u64, u65, u66, u67, u68, u69, u70, u71, u72, u73, u74, u75, u76, u77, u78, u79, u80, u81, u82, u83, u84, u85, u86, u87, u88, u89, u90, u91, u92, u93, u94, u95, u96, u97, u98, u99, u100, u101, u102, u103, u104, u105, u106, u107, u108, u109, u110, u111, u112, u113, u114, u115, u116, u117, u118, u119, u120, u121, u122, u123, u124, u125, u126, u127, u128, u129, u130, u131, u132, u133, u134, u135, u136, u137, u138, u139, u140, u141, v142, v143, v144, v145, v146, v147, v148, v149, v150, v151, v152, v153, v154, v155, v156, v157, v158, v159, v160, v161, v162, v163, v164, v165, v166, v167, v168, v169, v170, v171, v172, v173, v174, v175, v176, v177, v178, v179, v180, v181, v182, v183, v184, v185, v186, v187, v188, v189, v190, v191, v192, v193, v194, v195, v196, v197, v198, v199, v200, v201, v202, v203, v204, v205, v206, v207, v208, v209, v210, v211, v212, v213, v214, v215, v216, v217, v218, v219, v220, v221, v222, v223, v224, v225, v226, v227, v228, v229, v230, v231, v232, v233, v234, v235, v236, v237, v238, v239, v240, v241, v242, v243, v244, v245, v246, v247, v248, v249, v250, v251, v252, v253, v254, v255, v256, v257, v258, v259, v260], []⟩ w') :
    Code.wp Try.prog (blk3 3) Qe ⟨#[u0, u1, u2, u3, u4, u5, u6, u7, arV b, .pointer (some ⟨T, 0, none⟩), .pointer (some ⟨T + 1, 0, none⟩), .int .i64 (N : Nat), .pointer (some ⟨P, 0, none⟩), .pointer (some ⟨M, 0, none⟩), .pointer (some ⟨Q, 0, none⟩), u15, u16, u17, u18, u19, u20, u21, .int .i64 0, u23, u24, u25, u26, u27, u28, u29, u30, u31, u32, u33, u34, u35, u36, u37, u38, u39, u40, u41, u42, u43, u44, u45, u46, u47, u48, u49, u50, u51, u52, u53, u54, u55, u56, u57, u58, u59, u60, u61, u62, u63, u64, u65, u66, u67, u68, u69, u70, u71, u72, u73, u74, u75, u76, u77, u78, u79, u80, u81, u82, u83, u84, u85, u86, u87, u88, u89, u90, u91, u92, u93, u94, u95, u96, u97, u98, u99, u100, u101, u102, u103, u104, u105, u106, u107, u108, u109, u110, u111, u112, u113, u114, u115, u116, u117, u118, u119, u120, u121, u122, u123, u124, u125, u126, u127, u128, u129, u130, u131, u132, u133, u134, u135, u136, u137, u138, u139, u140, u141, u142, u143, u144, u145, u146, u147, u148, u149, u150, u151, u152, u153, u154, u155, u156, u157, u158, u159, u160, u161, u162, u163, u164, u165, u166, u167, u168, u169, u170, u171, u172, u173, u174, u175, u176, u177, u178, u179, u180, u181, u182, u183, u184, u185, u186, u187, u188, u189, u190, u191, u192, u193, u194, u195, u196, u197, u198, u199, u200, u201, u202, u203, u204, u205, u206, u207, u208, u209, u210, u211, u212, u213, u214, u215, u216, u217, u218, u219, u220, u221, u222, u223, u224, u225, u226, u227, u228, u229, u230, u231, u232, u233, u234, u235, u236, u237, u238, u239, u240, u241, u242, u243, u244, u245, u246, u247, u248, u249, u250, u251, u252, u253, u254, u255, u256, u257, u258, u259, u260], []⟩ w := by
  conv => arg 2; whnf
  obtain ⟨X, O, pv, nv, hJ⟩ := hI
  replace hQ := hid hQ
  go_wp2_with fail
  go_loopw [22] (fun j wq => ∃ J : Nat, J ≤ 2 ∧ j = .int .i64 J ∧ Calm w wq) (fun j _ => 2 - (intOf j).toNat)
  case atStart => exact ⟨0, by omega, rfl, Fr.refl _ _⟩
  case round =>
    obtain ⟨J, hJ2, rfl, kq⟩ := hrel
    rcases Nat.lt_or_ge J 2 with hlt | hge
    · have g2 : (J : Int) < 2 := by omega
      have hob := hJ.ob J hlt
      obtain ⟨a, ha⟩ : ∃ a, J * N = a := ⟨_, rfl⟩
      have ha38 : a ≤ 38 := by rw [← ha]; exact Nat.le_trans (Nat.mul_le_mul (show J ≤ 2 by omega) hN19) (by omega)
      have hai : wrap64 ((J : Int) * (N : Int)) = (a : Int) := by rw [show (J : Int) * (N : Int) = (a : Int) by rw [← ha]; push_cast; rfl]; unfold wrap64; omega
      have ho := hob.at_
      have hep := hob.ep
      have hed := hob.ed
      have hewk := hob.ewk
      have hefn := hob.efn
      have heser := hob.eser
      have hps := hob.ps
      have hns := hob.ns
      rw [ha] at ho
      have ar := hJ.ar.calm kq
      have oP := hJ.oP.calm kq
      have oM := hJ.oM.calm kq
      have qfr := hJ.fr hlt
      have hlp := hJ.lp
      have hln := hJ.ln
      have hp8 := hsh.p8 J hlt
      have hd8 := hsh.d8 J hlt
      have qf := kq.cellAt qfr.1 id
      obtain ⟨pJ, hpJ⟩ : ∃ x, S.p J = x := ⟨_, rfl⟩
      obtain ⟨dJ, hdJ⟩ : ∃ x, S.d J = x := ⟨_, rfl⟩
      obtain ⟨wJ, hwJ⟩ : ∃ x, S.wk J = x := ⟨_, rfl⟩
      obtain ⟨fJ, hfJ⟩ : ∃ x, S.fn J = x := ⟨_, rfl⟩
      rw [hpJ] at hep hps hp8
      rw [hdJ] at hed hns hd8
      rw [hwJ] at hewk
      rw [hfJ] at hefn
      generalize O J = o at *
      have oS2 := oS.calm kq
      have oT2 := oT.calm kq
      have x0 := (oS2 0 _ rfl).1
      have x1 := (oS2 1 _ rfl).1
      have x2 := (oS2 2 _ rfl).1
      have x3 := (oS2 3 _ rfl).1
      have y0 := (oT2 0 _ rfl).1
      have y1 := (oT2 1 _ rfl).1
      have y2 := (oT2 2 _ rfl).1
      have y3 := (oT2 3 _ rfl).1
      have hcs : ∀ j u, ([.int .i64 pJ, .int .i64 dJ, .bool wJ, .bool fJ] : List Value)[j]? = some u → (#[.int .i64 (S.p 0), .int .i64 (S.d 0), .bool (S.wk 0), .bool (S.fn 0), .int .i64 (S.p 1), .int .i64 (S.d 1), .bool (S.wk 1), .bool (S.fn 1)] : Array Value)[J * 4 + j]? = some u := by
        intro j u hj
        rw [← hpJ, ← hdJ, ← hwJ, ← hfJ] at hj
        have : j < 4 := by have := (List.getElem?_eq_some_iff.1 hj).1; simpa using this
        rcases (by omega : J = 0 ∨ J = 1) with rfl | rfl <;> rcases (by omega : j = 0 ∨ j = 1 ∨ j = 2 ∨ j = 3) with rfl | rfl | rfl | rfl <;> exact hj
      have hcw : ∀ j u, ([.int .i64 pJ, .int .i64 dJ, .bool wJ, .bool fJ] : List Value)[j]? = some u → (wr.alloc (.cells #[.int .i64 (S.p 0), .int .i64 (S.d 0), .bool (S.wk 0), .bool (S.fn 0), .int .i64 (S.p 1), .int .i64 (S.d 1), .bool (S.wk 1), .bool (S.fn 1)] 27)).cell? ⟨wr.heap.size, J * 4 + j, none⟩ = some u := fun j u hj => by
        rw [World.cell?_alloc_new]; exact hcs j u hj
      have p0 := hcs 0 _ rfl
      have p1 := hcs 1 _ rfl
      have p2 := hcs 2 _ rfl
      have p3 := hcs 3 _ rfl
      have r0 := hcw 0 _ rfl
      have r1 := hcw 1 _ rfl
      have r2 := hcw 2 _ rfl
      have r3 := hcw 3 _ rfl
      rw [Nat.add_zero] at p0 r0
      have k1 : Calm wr (wr.alloc (.cells #[.int .i64 (S.p 0), .int .i64 (S.d 0), .bool (S.wk 0), .bool (S.fn 0), .int .i64 (S.p 1), .int .i64 (S.d 1), .bool (S.wk 1), .bool (S.fn 1)] 27)) := (Fr.refl _ _).alloc _
      have ck : Calm wr ((wr.alloc (.cells #[.int .i64 (S.p 0), .int .i64 (S.d 0), .bool (S.wk 0), .bool (S.fn 0), .int .i64 (S.p 1), .int .i64 (S.d 1), .bool (S.wk 1), .bool (S.fn 1)] 27)).alloc (.cells #[.int .i64 pJ, .int .i64 dJ, .bool wJ, .bool fJ] 27)) := k1.alloc _
      have o23 := OwnL.at (wr.alloc (.cells #[.int .i64 (S.p 0), .int .i64 (S.d 0), .bool (S.wk 0), .bool (S.fn 0), .int .i64 (S.p 1), .int .i64 (S.d 1), .bool (S.wk 1), .bool (S.fn 1)] 27)) [.int .i64 pJ, .int .i64 dJ, .bool wJ, .bool fJ] 27 (wr.heap.size + 1) (by simp)
      replace hcs := hid hcs
      replace hcw := hid hcw
      replace hob := hid hob
      replace ho := hid ho
      replace hep := hid hep
      replace hed := hid hed
      replace hewk := hid hewk
      replace hefn := hid hefn
      replace heser := hid heser
      replace hps := hid hps
      replace hns := hid hns
      replace hai := hid hai
      replace ha := hid ha
      replace hpJ := hid hpJ
      replace hdJ := hid hdJ
      replace hwJ := hid hwJ
      replace hfJ := hid hfJ
      replace hlp := hid hlp
      replace hln := hid hln
      clear hcs hcw qfr k1
      go_wp2_with fail
      rw [hai.out]
      replace qf := ck.cellAt qf id
      replace ar := ar.calm ck
      replace oP := oP.calm ck
      replace oM := oM.calm ck
      clear p0 p1 p2 p3 r0 r1 r2 r3 x0 x1 x2 x3 y0 y1 y2 y3 oS2 oT2
      generalize hW : World.alloc (World.alloc wr _) _ = W1 at *
      clear hW
      refine (at_shape ar ho.out).mono ?_
      rintro e w3 ⟨rfl, c3⟩
      rw [hep.out, hed.out, hewk.out, hefn.out]
      have o24 := OwnL.new w3 [.int .i64 pJ, .int .i64 dJ, .bool wJ, .bool fJ] 27
      replace c3 := c3.alloc (.cells #[.int .i64 pJ, .int .i64 dJ, .bool wJ, .bool fJ] 27)
      replace qf := c3.cellAt qf id
      replace ar := ar.calm c3
      replace oP := oP.calm c3
      replace oM := oM.calm c3
      replace o23 := o23.calm c3
      replace ck := ck.trans c3
      clear c3
      go_wp2_with fail
      rw [hai.out]
      refine (at_serial ar ho.out).mono ?_
      rintro e w4 ⟨rfl, c4⟩
      rw [heser.out, show ((J + 1 : Nat) : Int) = (J : Int) + 1 by push_cast; rfl]
      replace qf := c4.cellAt qf id
      replace ar := ar.calm c4
      replace oP := oP.calm c4
      replace oM := oM.calm c4
      replace o23 := o23.calm c4
      replace o24 := o24.calm c4
      replace ck := ck.trans c4
      clear c4
      have x0 := (o23 0 _ rfl).1
      have x1 := (o23 1 _ rfl).1
      have x2 := (o23 2 _ rfl).1
      have x3 := (o23 3 _ rfl).1
      have y0 := (o24 0 _ rfl).1
      have y1 := (o24 1 _ rfl).1
      have y2 := (o24 2 _ rfl).1
      have y3 := (o24 3 _ rfl).1
      generalize o.fr = fr0 at *
      go_wp2_with fail
      clear x0 x1 x2 x3 y0 y1 y2 y3 qf o24
      go_loopw [29] (fun g wf => ∃ G : Nat, G ≤ 8 ∧ g = .int .i64 G ∧ Calm w4 wf) (fun g _ => 8 - (intOf g).toNat)
      case atStart => exact ⟨0, by omega, rfl, Fr.refl _ _⟩
      case round =>
        obtain ⟨G, hG, rfl, kf⟩ := hrel
        rcases Nat.lt_or_ge G 8 with hlt2 | hge
        · have g8 : (G : Int) < 8 := by omega
          replace ar := ar.calm kf
          replace oP := oP.calm kf
          replace oM := oM.calm kf
          replace o23 := o23.calm kf
          have own1 := oP.getN (i := J * 8 + G) (by have := hlp.out; omega)
          have own2 := oM.getI (i := J * 8 + G) (by have := hln.out; omega)
          go_wp2_with fail
          rw [hai.out]
          refine (ptr_any ar ho.out G).mono ?_
          rintro e w6 ⟨u, e1, rfl, hu, c6⟩
          replace ar := ar.calm c6
          replace o23 := o23.calm c6
          replace own1 := own1.fr c6 id
          replace own2 := own2.fr c6 id
          replace kf := kf.trans c6
          clear c6 oP oM
          go_wp2_with fail
          rw [hai.out]
          refine (num_any ar ho.out G).mono ?_
          rintro e w7 ⟨v, e2, rfl, hv, c7⟩
          replace o23 := o23.calm c7
          have w1 := (own1.fr c7 id).1
          have w2 := (own2.fr c7 id).1
          replace kf := kf.trans c7
          clear c7 own1 own2 ar
          have x0 := (o23 0 _ rfl).1
          have x1 := (o23 1 _ rfl).1
          rw [hep.out] at hu
          rw [hed.out] at hv
          clear o23
          rcases hu with ⟨d0, rfl, rfl⟩ | ⟨d0, rfl⟩ <;> rcases hv with ⟨d1, rfl, rfl⟩ | ⟨d1, rfl⟩
          · have pf : (G : Int) < pJ := by omega
            have df : (G : Int) < dJ := by omega
            rw [hps.out G d0] at w1
            rw [← hns.out G d1] at w2
            generalize o.ps.getD G 0 = z1 at *
            generalize zt (o.ns.getD G 0) = z2 at *
            clear d0 d1
            go_wp2_with fail
            go_roundw
            case rel => exact ⟨G + 1, by omega, by go_num, kf⟩
            case measure => simp [intOf]; omega
          · have pf : (G : Int) < pJ := by omega
            have df : ¬ ((G : Int) < dJ) := by omega
            rw [hps.out G d0] at w1
            generalize o.ps.getD G 0 = z1 at *
            generalize nv.getD (J * 8 + G) 0 = z2 at *
            clear d0 d1
            go_wp2_with fail
            go_roundw
            case rel => exact ⟨G + 1, by omega, by go_num, kf⟩
            case measure => simp [intOf]; omega
          · have pf : ¬ ((G : Int) < pJ) := by omega
            have df : (G : Int) < dJ := by omega
            rw [← hns.out G d1] at w2
            generalize pv.getD (J * 8 + G) 0 = z1 at *
            generalize zt (o.ns.getD G 0) = z2 at *
            clear d0 d1
            go_wp2_with fail
            go_roundw
            case rel => exact ⟨G + 1, by omega, by go_num, kf⟩
            case measure => simp [intOf]; omega
          · have pf : ¬ ((G : Int) < pJ) := by omega
            have df : ¬ ((G : Int) < dJ) := by omega
            generalize pv.getD (J * 8 + G) 0 = z1 at *
            generalize nv.getD (J * 8 + G) 0 = z2 at *
            clear d0 d1
            go_wp2_with fail
            go_roundw
            case rel => exact ⟨G + 1, by omega, by go_num, kf⟩
            case measure => simp [intOf]; omega
        · obtain rfl : G = 8 := by omega
          clear hge hG
          go_wp2_with fail
          go_roundw
          case rel => exact ⟨J + 1, by omega, by go_num, (kq.trans ck).trans kf⟩
          case measure => simp [intOf]; omega
    · obtain rfl : J = 2 := by omega
      clear hge hJ2
      go_wp2_with fail
      exact hQ.out _ _ _ _ _ _ _ _ _ _ _ _ _ _ _ _ _ _ _ _ _ _ _ _ _ _ _ _ _ _ _ _ _ _ _ _ _ _ _ _ _ _ _ _ _ _ _ _ _ _ _ _ _ _ _ _ _ _ _ _ _ _ _ _ _ _ _ _ _ _ _ _ _ _ _ _ _ _ _ _ _ _ _ _ _ _ _ _ _ _ _ _ _ _ _ _ _ _ _ _ _ _ _ _ _ _ _ _ _ _ _ _ _ _ _ _ _ _ _ _ _ _ _ _ _ _ _ _ _ _ _ _ _ kq

end Go.Proofs.Ytoonimdohkbfgaa
