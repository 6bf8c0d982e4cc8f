/- ObjectSets: the switch. -/
import Derived.Test.YtoonimdohkbfgaaO5L
set_option linter.unusedSimpArgs false
set_option linter.unusedVariables false
namespace Go.Proofs.Ytoonimdohkbfgaa
open Go.RowKit Go.Shelf

/-- The block n of a code. -/
def findBlock (n : Nat) : Code → Option Code
  | .block m c => if m == n then some (.block m c) else findBlock n c
  | .seq a b => match findBlock n a with
    | some c => some c
    | none => findBlock n b
  | .loop c => findBlock n c
  | .scope c => findBlock n c
  | .cond _ a b => match findBlock n a with
    | some c => some c
    | none => findBlock n b
  | _ => none
noncomputable def blk3 (n : Nat) : Code := ((Try.f3.body.bind (findBlock n)).getD .skip)
/-- What a round may turn. -/
abbrev Turns (c T : Nat) (k : Nat) : Prop := k = c ∨ T + 1 < k

set_option maxRecDepth 1000000 in
set_option maxHeartbeats 40000000 in
theorem switch_is {b c N T B16 K a F : Nat} {Z : Int} {S : Shs} {kd oat oi on : Int} {oW : Nat} {w : World} (hI1 : SetsX b c N (T + 1 + 1) (T + 1 + 1 + 1) (T + 1 + 1 + 1 + 1) S w) (hsh : ShOk S N) (hK2 : K < 2) (ha : K * N = a) (hF8 : F < 8) (hz012 : Z = 0 ∨ Z = 1 ∨ Z = 2)
    (O4 : I64 on) (o16 : OwnL w B16 [.int .i64 kd, .int .i64 oat, .int .i64 oi, .int .i64 on, .int .u64 oW]) (o19 : OwnL w (B16 + 1) [.int .i64 (S.p K), .int .i64 (S.d K), .bool (S.wk K), .bool (S.fn K)]) (hcl : c < T) (hbl : b < T) (hB16 : T + 1 + 1 + 1 + 1 < B16)
    (u0 u1 u2 u3 u4 u5 u6 u7 u9 u10 u11 u15 u21 u22 u23 u24 u25 u26 u27 u28 u29 u30 u31 u32 u33 u34 u35 u36 u37 u38 u39 u40 u41 u42 u43 u44 u45 u46 u47 u48 u49 u50 u51 u52 u53 u54 u55 u56 u57 u58 u59 u60 u61 u62 u63 u64 u65 u66 u67 u68 u69 u70 u71 u72 u73 u74 u75 u76 u77 u79 u80 u81 u82 u83 u84 u85 u86 u87 u88 u89 u90 u91 u92 u93 u94 u95 u96 u97 u98 u99 u100 u101 u102 u103 u104 u105 u106 u107 u108 u109 u110 u111 u112 u113 u114 u115 u116 u117 u118 u119 u120 u121 u122 u123 u124 u125 u126 u127 u128 u129 u130 u131 u132 u133 u134 u135 u136 u137 u138 u139 u140 u141 u142 u143 u144 u145 u146 u147 u148 u149 u150 u151 u152 u153 u154 u155 u156 u157 u158 u159 u160 u161 u162 u163 u164 u165 u166 u167 u168 u169 u170 u171 u172 u173 u174 u175 u176 u177 u178 u179 u180 u181 u182 u183 u184 u185 u186 u187 u188 u189 u190 u191 u192 u193 u194 u195 u196 u197 u198 u199 u200 u201 u202 u203 u204 u205 u206 u207 u208 u209 u210 u211 u212 u213 u214 u215 u216 u217 u218 u219 u220 u221 u222 u223 u224 u225 u226 u227 u228 u229 u230 u231 u232 u233 u234 u235 u236 u237 u238 u239 u240 u241 u242 u243 u244 u245 u246 u247 u248 u249 u250 u251 u252 u253 u254 u255 u256 u257 u258 u259 u260 : Value) (Qe : Exit → Act → World → Prop)
    (hQ : ∀ v21 v79 v80 v81 v82 v83 v84 v85 v86 v87 v88 v89 v90 v91 v92 v93 v94 v95 v96 v97 v98 v99 v100 v101 v102 v103 v104 v105 v106 v107 v108 v109 v110 v111 v112 v113 v114 v115 v116 v117 v118 v119 v120 v121 v122 v123 v124 v125 v126 v127 v128 v129 v130 v131 v132 v133 v134 v135 v136 v137 v138 v139 v140 v141 w', SetsX b c N (T + 1 + 1) (T + 1 + 1 + 1) (T + 1 + 1 + 1 + 1) S w' → Fr (Turns c T) w w' → Qe .normal ⟨#[u0, u1, u2, u3, u4, u5, u6, u7, arV b, u9, u10, u11, .pointer (some ⟨T + 1 + 1, 0, none⟩), .pointer (some ⟨T + 1 + 1 + 1, 0, none⟩), .pointer (some ⟨T + 1 + 1 + 1 + 1, 0, none⟩), u15, .pointer (some ⟨B16, 0, none⟩), .int .i64 (K : Nat), .int .i64 (a : Nat), .pointer (some ⟨B16 + 1, 0, none⟩), .int .i64 (F : Nat), v21, u22, u23, u24, u25, u26, u27, u28, u29, u30, u31, u32, u33, u34, u35, u36, u37, u38, u39, u40, u41, u42, u43, u44, u45, u46, u47, u48, u49, u50, u51, u52, u53, u54, u55, u56, u57, u58, u59, u60, u61, u62, u63, u64, u65, u66, u67, u68, u69, u70, u71, u72, u73, u74, u75, u76, u77, .int .i64 Z, v79, v80, v81, v82, v83, v84, v85, v86, v87, v88, v89, v90, v91, v92, v93, v94, v95, v96, v97, v98, v99, v100, v101, v102, v103, v104, v105, v106, v107, v108, v109, v110, v111, v112, v113, v114, v115, v116, v117, v118, v119, v120, v121, v122, v123, v124, v125, v126, v127, v128, v129, v130, v131, v132, v133, v134, v135, v136, v137, v138, v139, v140, v141, u142, u143, u144, u145, u146, u147, u148, u149, u150, u151, u152, u153, u154, u155, u156, u157, u158, u159, u160, u161, u162, u163, u164, u165, u166, u167, u168, u169, u170, u171, u172, u173, u174, u175, u176, u177, u178, u179, u180, u181, u182, u183, u184, u185, u186, u187, u188, u189, u190, u191, u192, u193, u194, u195, u196, u197, u198, u199, u200, u201, u202, u203, u204, u205, u206, u207, u208, u209, u210, u211, u212, u213, u214, u215, u216, u217, u218, u219, u220, u221, u222, u223, u224, u225, u226, u227, u228, u229, u230, u231, u232, u233, u234, u235, u236, u237, u238, u239, u240, u241, u242, u243, u244, u245, u246, u247, u248, u249, u250, u251, u252, u253, u254, u255, u256, u257, u258, u259, u260], []⟩ w') :
    Code.wp Try.prog (blk3 2) Qe ⟨#[u0, u1, u2, u3, u4, u5, u6, u7, arV b, u9, u10, u11, .pointer (some ⟨T + 1 + 1, 0, none⟩), .pointer (some ⟨T + 1 + 1 + 1, 0, none⟩), .pointer (some ⟨T + 1 + 1 + 1 + 1, 0, none⟩), u15, .pointer (some ⟨B16, 0, none⟩), .int .i64 (K : Nat), .int .i64 (a : Nat), .pointer (some ⟨B16 + 1, 0, none⟩), .int .i64 (F : Nat), u21, u22, u23, u24, u25, u26, u27, u28, u29, u30, u31, u32, u33, u34, u35, u36, u37, u38, u39, u40, u41, u42, u43, u44, u45, u46, u47, u48, u49, u50, u51, u52, u53, u54, u55, u56, u57, u58, u59, u60, u61, u62, u63, u64, u65, u66, u67, u68, u69, u70, u71, u72, u73, u74, u75, u76, u77, .int .i64 Z, u79, u80, u81, u82, u83, u84, u85, u86, u87, u88, u89, u90, u91, u92, u93, u94, u95, u96, u97, u98, u99, u100, u101, u102, u103, u104, u105, u106, u107, u108, u109, u110, u111, u112, u113, u114, u115, u116, u117, u118, u119, u120, u121, u122, u123, u124, u125, u126, u127, u128, u129, u130, u131, u132, u133, u134, u135, u136, u137, u138, u139, u140, u141, u142, u143, u144, u145, u146, u147, u148, u149, u150, u151, u152, u153, u154, u155, u156, u157, u158, u159, u160, u161, u162, u163, u164, u165, u166, u167, u168, u169, u170, u171, u172, u173, u174, u175, u176, u177, u178, u179, u180, u181, u182, u183, u184, u185, u186, u187, u188, u189, u190, u191, u192, u193, u194, u195, u196, u197, u198, u199, u200, u201, u202, u203, u204, u205, u206, u207, u208, u209, u210, u211, u212, u213, u214, u215, u216, u217, u218, u219, u220, u221, u222, u223, u224, u225, u226, u227, u228, u229, u230, u231, u232, u233, u234, u235, u236, u237, u238, u239, u240, u241, u242, u243, u244, u245, u246, u247, u248, u249, u250, u251, u252, u253, u254, u255, u256, u257, u258, u259, u260], []⟩ w := by
  conv => arg 2; whnf
  obtain ⟨X, O, pv, nv, hJ⟩ := hI1
  have ho1 := (hJ.ob K hK2).at_
  have hep := (hJ.ob K hK2).ep
  have hed := (hJ.ob K hK2).ed
  rw [ha] at ho1
  have ar := hid hJ.ar
  have hlp := hJ.lp
  have hln := hJ.ln
  have hSP := hsh.p8 K hK2
  have hSD := hsh.d8 K hK2
  have ki : (K : Int) < 2 := by omega
  have fi : (F : Int) < 8 := by omega
  have hP := hJ.oP.lt (by simp; omega)
  have hM := hJ.oM.lt (by simp; omega)
  have hQ1 := hJ.oQ.lt (by simp)
  have rv := pk_range on (n := 131073) (by omega)
  obtain ⟨V, hV⟩ : ∃ V, pk on 131073 = V := ⟨_, rfl⟩
  rw [hV] at rv
  obtain ⟨rv1, rv2⟩ := rv
  obtain ⟨V, rfl⟩ := Int.eq_ofNat_of_zero_le rv1
  have hV2 : Hid (V ≤ 131072) := by show V ≤ 131072; omega
  clear rv1 rv2
  have x0 := (o16 0 _ rfl).1
  have x1 := (o16 1 _ rfl).1
  have x2 := (o16 2 _ rfl).1
  have x3 := (o16 3 _ rfl).1
  have x4 := (o16 4 _ rfl).1
  obtain ⟨pK, hpK⟩ : ∃ x, S.p K = x := ⟨_, rfl⟩
  obtain ⟨dK, hdK⟩ : ∃ x, S.d K = x := ⟨_, rfl⟩
  rw [hpK, hdK] at o19
  rw [hpK] at hep hSP
  rw [hdK] at hed hSD
  have y0 := (o19 0 _ rfl).1
  have y1 := (o19 1 _ rfl).1
  replace hpK := hid hpK
  replace hdK := hid hdK
  replace hJ := hid hJ
  replace ho1 := hid ho1
  replace hep := hid hep
  replace hed := hid hed
  replace hlp := hid hlp
  replace hln := hid hln
  replace hQ := hid hQ
  replace O4 := hid O4
  replace hV := hid hV
  replace ha := hid ha
  replace hsh := hid hsh
  clear o19 o16
  rcases hz012 with rfl | rfl | rfl
  · go_wp2_with fail
    refine (pick07 on 131073 _ O4.out (by omega)).mono ?_
    rintro e w' ⟨rfl, rfl⟩
    rw [hV.out]
    by_cases hf : F < pK
    · have hfi : (F : Int) < pK := by omega
      go_wp2_with fail
      go_region_held3 (fun w' => w'.cell? ⟨B16 + 1, 0, none⟩ = some (.int .i64 pK)) (go_keep) (first | (go_at_call 8; refine (at_setptr (ar.out.calm (by first | exact (Fr.refl _ _).drew | exact Fr.refl _ _ | exact (Fr.refl _ _).drewN _)) ho1.out (i := F) (by rw [hep.out]; exact hf) hV2.out).mono ?_; rintro e w3 ⟨rfl, ar3, f3⟩; have q0 := f3.cellAt (p := ⟨B16 + 1, 0, none⟩) y0 (by show ¬ B16 + 1 = c; omega)))
      replace f3 : Fr (fun k => k = c) w w3 := (Calm.any (by first | exact (Fr.refl _ _).drew | exact Fr.refl _ _ | exact (Fr.refl _ _).drewN _)).trans f3
      have ow := (hJ.out.oP.fr f3 (by omega)).getN (i := K * 8 + F) (by have := hlp.out; omega)
      generalize pv.getD (K * 8 + F) 0 = z at *
      obtain ⟨ow1, ow2⟩ := ow
      have hput := hid (hJ.out.putPtr hsh.out hK2 (F := F) (V := V) (by rw [hpK.out]; exact hf) hV2.out (by rw [ha.out]; exact ar3) f3 (by omega))
      have kr4 := (Fr.mono f3 (fun k _ (e : k = c) => (.inl e : Turns c T k))).trans (Fr.mono (Fr.cell1 _ (T + 1 + 1) (K * 8 + F) (.int .i64 (V : Nat))) (fun k _ (e : k = T + 1 + 1) => (.inr (by omega) : Turns c T k)))
      clear f3 ar3
      go_wp2_with fail
      exact hQ.out _ _ _ _ _ _ _ _ _ _ _ _ _ _ _ _ _ _ _ _ _ _ _ _ _ _ _ _ _ _ _ _ _ _ _ _ _ _ _ _ _ _ _ _ _ _ _ _ _ _ _ _ _ _ _ _ _ _ _ _ _ _ _ _ _ hput.out kr4
    · have hfi : ¬ ((F : Int) < pK) := by omega
      go_wp2_with fail
      go_region_held3 (fun w' => w'.cell? ⟨B16 + 1, 0, none⟩ = some (.int .i64 pK)) (go_keep) (first | (go_at_call 8; refine (at_setptr_no (ar.out.calm (by first | exact (Fr.refl _ _).drew | exact Fr.refl _ _ | exact (Fr.refl _ _).drewN _)) ho1.out (i := (F : Int)) (v := (V : Int)) (.inr (by rw [hep.out]; omega))).mono ?_; rintro e w3 ⟨rfl, f3⟩; have q0 := f3.cellAt (p := ⟨B16 + 1, 0, none⟩) y0 id))
      replace f3 : Calm w w3 := (show Calm w _ from (by first | exact (Fr.refl _ _).drew | exact Fr.refl _ _ | exact (Fr.refl _ _).drewN _)).trans f3
      go_wp2_with fail
      exact hQ.out _ _ _ _ _ _ _ _ _ _ _ _ _ _ _ _ _ _ _ _ _ _ _ _ _ _ _ _ _ _ _ _ _ _ _ _ _ _ _ _ _ _ _ _ _ _ _ _ _ _ _ _ _ _ _ _ _ _ _ _ _ _ _ _ _ ⟨X, O, pv, nv, hJ.out.calm f3⟩ (Calm.any f3)
  · by_cases hf : F < dK
    · have hfi : (F : Int) < dK := by omega
      go_wp2_with fail
      go_region_held3 (fun w' => w'.cell? ⟨B16, 3, none⟩ = some (.int .i64 on) ∧ w'.cell? ⟨B16 + 1, 1, none⟩ = some (.int .i64 dK)) (go_keep) (first | (go_at_call 9; refine (at_setnum (ar.out.calm (by first | exact (Fr.refl _ _).drew | exact Fr.refl _ _ | exact (Fr.refl _ _).drewN _)) ho1.out (i := F) (by rw [hed.out]; exact hf) O4.out).mono ?_; rintro e w3 ⟨rfl, ar3, f3⟩; have q0 := f3.cellAt (p := ⟨B16, 3, none⟩) x3 (by show ¬ B16 = c; omega); have q1 := f3.cellAt (p := ⟨B16 + 1, 1, none⟩) y1 (by show ¬ B16 + 1 = c; omega)))
      replace f3 : Fr (fun k => k = c) w w3 := (Calm.any (by first | exact (Fr.refl _ _).drew | exact Fr.refl _ _ | exact (Fr.refl _ _).drewN _)).trans f3
      have ow := (hJ.out.oM.fr f3 (by omega)).getI (i := K * 8 + F) (by have := hln.out; omega)
      generalize nv.getD (K * 8 + F) 0 = z at *
      obtain ⟨ow1, ow2⟩ := ow
      have hput := hid (hJ.out.putNum hsh.out hK2 (F := F) (V := on) (by rw [hdK.out]; exact hf) O4.out (by rw [ha.out]; exact ar3) f3 (by omega))
      have kr4 := (Fr.mono f3 (fun k _ (e : k = c) => (.inl e : Turns c T k))).trans (Fr.mono (Fr.cell1 _ (T + 1 + 1 + 1) (K * 8 + F) (.int .i64 on)) (fun k _ (e : k = T + 1 + 1 + 1) => (.inr (by omega) : Turns c T k)))
      clear f3 ar3
      go_wp2_with fail
      go_region
      go_wp2_with fail
      exact hQ.out _ _ _ _ _ _ _ _ _ _ _ _ _ _ _ _ _ _ _ _ _ _ _ _ _ _ _ _ _ _ _ _ _ _ _ _ _ _ _ _ _ _ _ _ _ _ _ _ _ _ _ _ _ _ _ _ _ _ _ _ _ _ _ _ _ (hput.out.calm ((Fr.refl _ _).drew)) (kr4.trans (Calm.any ((Fr.refl _ _).drew)))
    · have hfi : ¬ ((F : Int) < dK) := by omega
      go_wp2_with fail
      go_region_held3 (fun w' => w'.cell? ⟨B16, 3, none⟩ = some (.int .i64 on) ∧ w'.cell? ⟨B16 + 1, 1, none⟩ = some (.int .i64 dK)) (go_keep) (first | (go_at_call 9; refine (at_setnum_no (ar.out.calm (by first | exact (Fr.refl _ _).drew | exact Fr.refl _ _ | exact (Fr.refl _ _).drewN _)) ho1.out (i := (F : Int)) (v := on) (.inr (by rw [hed.out]; omega))).mono ?_; rintro e w3 ⟨rfl, f3⟩; have q0 := f3.cellAt (p := ⟨B16, 3, none⟩) x3 id; have q1 := f3.cellAt (p := ⟨B16 + 1, 1, none⟩) y1 id))
      replace f3 : Calm w w3 := (show Calm w _ from (by first | exact (Fr.refl _ _).drew | exact Fr.refl _ _ | exact (Fr.refl _ _).drewN _)).trans f3
      go_wp2_with fail
      exact hQ.out _ _ _ _ _ _ _ _ _ _ _ _ _ _ _ _ _ _ _ _ _ _ _ _ _ _ _ _ _ _ _ _ _ _ _ _ _ _ _ _ _ _ _ _ _ _ _ _ _ _ _ _ _ _ _ _ _ _ _ _ _ _ _ _ _ ⟨X, O, pv, nv, hJ.out.calm f3⟩ (Calm.any f3)
  · go_wp2_with fail
    refine (at_setfreed ar.out ho1.out (on.tmod 2 == 0)).mono ?_
    rintro e w3 ⟨rfl, ar3, f3⟩
    have q0 := f3.cellAt (p := ⟨B16, 3, none⟩) x3 (by show ¬ B16 = c; omega)
    have ow := hJ.out.fr hK2
    replace ow := ow.fr f3 (by omega)
    obtain ⟨ow1, ow2⟩ := ow
    have hput := hid (hJ.out.putFr hsh.out hK2 (on.tmod 2 == 0) (by rw [ha.out]; exact ar3) f3 (by omega))
    have kr4 := (Fr.mono f3 (fun k _ (e : k = c) => (.inl e : Turns c T k))).trans (Fr.mono (Fr.cell1 _ (T + 1 + 1 + 1 + 1) K (.bool (on.tmod 2 == 0))) (fun k _ (e : k = T + 1 + 1 + 1 + 1) => (.inr (by omega) : Turns c T k)))
    generalize (O K).fr = frK at *
    clear f3 ar3 x0 x1 x2 x4
    go_wp2_with fail
    exact hQ.out _ _ _ _ _ _ _ _ _ _ _ _ _ _ _ _ _ _ _ _ _ _ _ _ _ _ _ _ _ _ _ _ _ _ _ _ _ _ _ _ _ _ _ _ _ _ _ _ _ _ _ _ _ _ _ _ _ _ _ _ _ _ _ _ _ hput.out kr4

end Go.Proofs.Ytoonimdohkbfgaa
