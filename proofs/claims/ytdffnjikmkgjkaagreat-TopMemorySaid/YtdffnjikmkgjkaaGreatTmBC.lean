/- TopMemory: a part of its proof (TpT). -/
import Derived.Test.YtdffnjikmkgjkaaGreatTmAA
import Derived.Test.YtdffnjikmkgjkaaGreatTmBA
import Derived.Test.YtdffnjikmkgjkaaGreatTmAV
import Derived.Test.YtdffnjikmkgjkaaGreatTmAT
set_option linter.unusedSimpArgs false
set_option linter.unusedVariables false
set_option maxHeartbeats 40000000
namespace Go.Proofs.YtdffnjikmkgjkaaGreat
section
open Go.RowKit Go.Shelf
def TpI (w1:World)(mp:Nat)(Q:List (List (List Dd)))(tv hv:Value)(i:Nat)(wr:World):Prop:=
  ∃τ S ev X,Mc wr τ i (i*100) mp S Q tv hv ev X∧(∀b,b<w1.heap.size→τ b=1000)∧Calm w1 wr
structure TpK (w1:World)(mp:Nat)(Q:List (List (List Dd)))(tv hv:Value)(i:Nat)(W:World)(S S1:StD)(sp:Nat):Prop where
  m:∃τ ev X,Mc W τ i (i*100) mp S1 Q tv hv ev X∧(∀b,b<w1.heap.size→τ b=1000)
  c:Calm w1 W
theorem TpK.calm {w1:World}{mp:Nat}{Q:List (List (List Dd))}{tv hv:Value}{i:Nat}{W W':World}{S S1:StD}{sp:Nat}(h:TpK w1 mp Q tv hv i W S S1 sp)(c:Calm W W'):TpK w1 mp Q tv hv i W' S S1 sp:=by
  obtain⟨⟨τ,ev,X,h1,h2⟩,h3⟩:=h;exact⟨⟨τ,ev,X,h1.calm c,h2⟩,h3.trans c⟩
theorem TpK.i {w1:World}{mp:Nat}{Q:List (List (List Dd))}{tv hv:Value}{i:Nat}{W:World}{S S1:StD}{sp:Nat}(h:TpK w1 mp Q tv hv i W S S1 sp):TpI w1 mp Q tv hv i W:=by
  obtain⟨⟨τ,ev,X,h1,h2⟩,h3⟩:=h;exact⟨τ,S1,ev,X,h1,h2,h3⟩
theorem TpK.room {w1:World}{mp:Nat}{Q:List (List (List Dd))}{tv hv:Value}{i:Nat}{W:World}{S S1:StD}{sp:Nat}(h:TpK w1 mp Q tv hv i W S S1 sp):Calls Tryz.prog 8 #[pV mp] W fun e w'=>e = .returned (vI S1.D.A.room)∧Calm W w':=by
  obtain⟨⟨τ,ev,X,h1,h2⟩,h3⟩:=h;exact mroom_is h1
def findAfter (n:Nat):Code→Option Code
  | .seq a b=>match a with
    | .region m _ _=>if m==n then some b else findAfter n b
    | _=>match findAfter n a with
      | some c=>some c
      | none=>findAfter n b
  | .block _ c=>findAfter n c
  | .loop c=>findAfter n c
  | .scope c=>findAfter n c
  | .cond _ a b=>match findAfter n a with
    | some c=>some c
    | none=>findAfter n b
  | _=>none
noncomputable def tlT (n:Nat):Code:=((Tryz.f3.body.bind (findAfter n)).getD .skip)
theorem eq6 (a b c d e f:Int)(W:World):(Op.equalIn 10000 32 (.agg #[vI a,vI b,vI c,vI d,vI e,vI f]) (.agg #[vI a,vI b,vI c,vI d,vI e,vI f])).run Tryz.prog W = .ok true W:=by
  obtain⟨i0,hi,hz0,hz1,hz2⟩:=info_parts info_int;rw[run_equalIn_array W 9999 _ _ Tryz.underlying32 hi,show Tryz.prog.cellsOf 3=1 from by kernel_rfl];simp[Op.eqItems,show List.range 6=[0,1,2,3,4,5] from rfl,part,go_sem]
set_option maxRecDepth 1000000 in
theorem tail_is {w w1 W9:World}{mp NQ i t B3 B5 B6:Nat}{pa:Option Addr}{pc:Nat}{Q:List (List (List Dd))}{tv hv:Value}{S S1:StD}{x0 x1 y z:ThD}{k ee v RM:Int}(hpok:POk Q)(hNQ:Q.length=NQ)(hNQ4:1≤NQ∧NQ≤4)
    (hqget:∀t,t<NQ→∃g o u,pa=some ⟨g,o,none⟩∧w1.cell? ⟨g,o+t,none⟩=some u∧BlkIn (fun b=>w.heap.size≤b) w1 u (Q.getD t [])) (htN:t<NQ) (hi100:i≤100) (hok:ThOk (Q.getD t []).length x0) (hy:x0.ser S.D.A=y) (hz:x1.ser S1.D.A=z) (hwS0:HW S.D.A) (hRM:S.D.A.room=RM) (hR0:0≤RM∧RM≤100000)
    (hdd:k=2→DdR S (Q.getD t []) x0 x1 ee S1) (oA9:OwnL W9 B3 (thC y)) (oB9:OwnL W9 B5 [vI k,vI ee,vI v]) (oC:OwnL W9 B6 (thC z)) (hK9:TpK w1 mp Q tv hv (i+1) W9 S S1 S.sp)
    (u0 u1 u2 u3 u4 u5 u6 u9 u14 u17 u18 u19 u20 u21 u22 u23 u24 u25 u26 u27 u28 u29 u30 u31 u32 u33 u34 u35 u36 u37 u38 u39 u40 u41 u42 u43 u44 u45 u46 u47 u48 u49 u50 u51 u52 u53 u54 u55 u56 u57 u58 u59 u60 u61 u62 u63 u64 u65 u66 u67 u68 u69 u70 u71 u72 u73 u74 u75 u76 u77 u78 u79 u80 u81 u82 u83 u84 u85 u86 u87 u88 u89 u90 u91 u92 u93 u94 u95 u96 u97 u98 u99 u100 u101 u102 u103 u104 u105 u106 u107 u108 u109 u110 u111 u112 u113 u114 u115 u116 u117 u118 u119 u120 u121 u122 u123 u124 u125 u126 u127 u128 u129 u130 u131 u132 u133 u134 u135 u136 u137 u138 u139 u140 u141 u142 u143 u144 u145 u146 u147 u148 u149 u150 u151 u152 u153 u154 u155 u156 u157 u158 u159 u160 u161 u162 u163 u164 u165 u166 u167 u168 u169 u170 u171 u172 u173 u174 u175 u176 u177 u178 u179 u180 u181 u182 u183 u184 u185 u186 u187 u188 u189 u190 u191 u192 u193 u194 u195 u196 u197 u198:Value) (Qe:Exit→Act→World→Prop) (hQp:∀c (a:Act) (d:Nat) v w,Qe (.panic c) (a.put (some d) v) w→Qe (.panic c) a w)
    (hQ1:∀v18 v19 v20 v21 v22 v23 v77 v78 v79 v80 v81 v82 v83 v84 v85 v86 v87 v88 v89 v90 v91 v92 v93 v94 v95 v96 v97 v98 v99 v100 v101 v102 v103 v104 v105 v106 v107 v108 v109 v110 v111 v112 v113 v114 v115 v116 v117 v118 v119 v120 v121 v122 v123 v124 v125 v126 v127 v128 v129 v130 v131 v132 v133 v134 v135 v136 v137 v138 v139 v140 v141 v142 v143 v144 v145 v146 v147 v148 v149 v150 v151 v152 v153 v154 v155 v156 v157 v158 v159 v160 v161 v162 v163 v164 v165 v166 v167 v168 v169 v170 v171 v172 v173 v174 v175 v176 v177 v178 v179 v180 v181 v182 v183 v184 v185 v186 v187 v188 v189 v190 v191 v192 v193 v194 v195 w',TpI w1 mp Q tv hv (i+1) w'→Qe (.exit 1) ⟨#[u0,u1,u2,u3,u4,u5,u6,.slice pa NQ pc,pV mp,u9,vI (i:Int),vI (t:Int),vI RM,.pointer (some ⟨B3,0,none⟩),u14,.pointer (some ⟨B5,0,none⟩),.pointer (some ⟨B6,0,none⟩),u17,v18,v19,v20,v21,v22,v23,u24,u25,u26,u27,u28,u29,u30,u31,u32,u33,u34,u35,u36,u37,u38,u39,u40,u41,u42,u43,u44,u45,u46,u47,u48,u49,u50,u51,u52,u53,u54,u55,u56,u57,u58,u59,u60,u61,u62,u63,u64,u65,u66,u67,u68,u69,u70,u71,u72,u73,u74,u75,u76,v77,v78,v79,v80,v81,v82,v83,v84,v85,v86,v87,v88,v89,v90,v91,v92,v93,v94,v95,v96,v97,v98,v99,v100,v101,v102,v103,v104,v105,v106,v107,v108,v109,v110,v111,v112,v113,v114,v115,v116,v117,v118,v119,v120,v121,v122,v123,v124,v125,v126,v127,v128,v129,v130,v131,v132,v133,v134,v135,v136,v137,v138,v139,v140,v141,v142,v143,v144,v145,v146,v147,v148,v149,v150,v151,v152,v153,v154,v155,v156,v157,v158,v159,v160,v161,v162,v163,v164,v165,v166,v167,v168,v169,v170,v171,v172,v173,v174,v175,v176,v177,v178,v179,v180,v181,v182,v183,v184,v185,v186,v187,v188,v189,v190,v191,v192,v193,v194,v195,u196,u197,u198],[]⟩ w') (hQe:∀v18 v19 v20 v21 v22 v23 v77 v78 v79 v80 v81 v82 v83 v84 v85 v86 v87 v88 v89 v90 v91 v92 v93 v94 v95 v96 v97 v98 v99 v100 v101 v102 v103 v104 v105 v106 v107 v108 v109 v110 v111 v112 v113 v114 v115 v116 v117 v118 v119 v120 v121 v122 v123 v124 v125 v126 v127 v128 v129 v130 v131 v132 v133 v134 v135 v136 v137 v138 v139 v140 v141 v142 v143 v144 v145 v146 v147 v148 v149 v150 v151 v152 v153 v154 v155 v156 v157 v158 v159 v160 v161 v162 v163 v164 v165 v166 v167 v168 v169 v170 v171 v172 v173 v174 v175 v176 v177 v178 v179 v180 v181 v182 v183 v184 v185 v186 v187 v188 v189 v190 v191 v192 v193 v194 v195 w',TpI w1 mp Q tv hv (i+1) w'→Qe .normal ⟨#[u0,u1,u2,u3,u4,u5,u6,.slice pa NQ pc,pV mp,u9,vI (i:Int),vI (t:Int),vI RM,.pointer (some ⟨B3,0,none⟩),u14,.pointer (some ⟨B5,0,none⟩),.pointer (some ⟨B6,0,none⟩),u17,v18,v19,v20,v21,v22,v23,u24,u25,u26,u27,u28,u29,u30,u31,u32,u33,u34,u35,u36,u37,u38,u39,u40,u41,u42,u43,u44,u45,u46,u47,u48,u49,u50,u51,u52,u53,u54,u55,u56,u57,u58,u59,u60,u61,u62,u63,u64,u65,u66,u67,u68,u69,u70,u71,u72,u73,u74,u75,u76,v77,v78,v79,v80,v81,v82,v83,v84,v85,v86,v87,v88,v89,v90,v91,v92,v93,v94,v95,v96,v97,v98,v99,v100,v101,v102,v103,v104,v105,v106,v107,v108,v109,v110,v111,v112,v113,v114,v115,v116,v117,v118,v119,v120,v121,v122,v123,v124,v125,v126,v127,v128,v129,v130,v131,v132,v133,v134,v135,v136,v137,v138,v139,v140,v141,v142,v143,v144,v145,v146,v147,v148,v149,v150,v151,v152,v153,v154,v155,v156,v157,v158,v159,v160,v161,v162,v163,v164,v165,v166,v167,v168,v169,v170,v171,v172,v173,v174,v175,v176,v177,v178,v179,v180,v181,v182,v183,v184,v185,v186,v187,v188,v189,v190,v191,v192,v193,v194,v195,u196,u197,u198],[]⟩ w') :
    Code.wp Tryz.prog (tlT 14) Qe ⟨#[u0,u1,u2,u3,u4,u5,u6,.slice pa NQ pc,pV mp,u9,vI (i:Int),vI (t:Int),vI RM,.pointer (some ⟨B3,0,none⟩),u14,.pointer (some ⟨B5,0,none⟩),.pointer (some ⟨B6,0,none⟩),u17,u18,u19,u20,u21,u22,u23,u24,u25,u26,u27,u28,u29,u30,u31,u32,u33,u34,u35,u36,u37,u38,u39,u40,u41,u42,u43,u44,u45,u46,u47,u48,u49,u50,u51,u52,u53,u54,u55,u56,u57,u58,u59,u60,u61,u62,u63,u64,u65,u66,u67,u68,u69,u70,u71,u72,u73,u74,u75,u76,u77,u78,u79,u80,u81,u82,u83,u84,u85,u86,u87,u88,u89,u90,u91,u92,u93,u94,u95,u96,u97,u98,u99,u100,u101,u102,u103,u104,u105,u106,u107,u108,u109,u110,u111,u112,u113,u114,u115,u116,u117,u118,u119,u120,u121,u122,u123,u124,u125,u126,u127,u128,u129,u130,u131,u132,u133,u134,u135,u136,u137,u138,u139,u140,u141,u142,u143,u144,u145,u146,u147,u148,u149,u150,u151,u152,u153,u154,u155,u156,u157,u158,u159,u160,u161,u162,u163,u164,u165,u166,u167,u168,u169,u170,u171,u172,u173,u174,u175,u176,u177,u178,u179,u180,u181,u182,u183,u184,u185,u186,u187,u188,u189,u190,u191,u192,u193,u194,u195,u196,u197,u198],[]⟩ W9:=by
  conv=>arg 2;whnf
  dsimp only;replace hpok:=hid hpok;replace hNQ:=hid hNQ;replace hqget:=hid hqget;replace hok:=hid hok;replace hy:=hid hy;replace hz:=hid hz;replace hwS0:=hid hwS0;replace hRM:=hid hRM;replace hdd:=hid hdd;replace oA9:=hid oA9;replace oB9:=hid oB9;replace oC:=hid oC;replace hK9:=hid hK9;replace hQ1:=hid hQ1;replace hQe:=hid hQe;replace hQp:=hid hQp;have hylv:y.live=x0.live:=by rw[←hy.out];rfl
  have yB:OwnL W9 B3 (thC y):=oA9.out;have g14:∀q:Later W9,q.w.cell? ⟨B3,14,none⟩=some (.bool y.live):=fun q=>q.cell (yB 14 _ rfl).1;have zB:OwnL W9 B5 [vI k,vI ee,vI v]:=oB9.out;have b0:∀q:Later W9,q.w.cell? ⟨B5,0,none⟩=some (vI k):=fun q=>q.cell (zB 0 _ rfl).1;rw[hylv] at g14
  by_cases hlive:x0.live=true
  · rw[hlive] at g14
    by_cases hk:k=2
    · subst hk;obtain⟨-,d,hd,hDt,hX⟩:=hdd.out rfl;have hb1:=hok.out.l hlive;have hb0:=hok.out.b.1;have hp0:=hok.out.p.1;obtain⟨bN,hbN⟩:∃bN:Nat,x0.b=bN:=⟨x0.b.toNat,by omega⟩;obtain⟨pN,hpN⟩:∃pN:Nat,x0.p=pN:=⟨x0.p.toNat,by omega⟩;rw[hbN,hpN] at hd;simp only[Int.toNat_natCast] at hd;obtain⟨P,hP⟩:∃P,Q.getD t []=P:=⟨_,rfl⟩;obtain⟨gQ,oQ,uQ,hpa,hcQ,pba,pbc,hu,hbk⟩:=hqget.out t htN;rw[hP] at hd hb1 hbk hu;obtain⟨M,hMl⟩:∃M,P.length=M:=⟨_,rfl⟩;rw[hMl] at hb1 hbk hu;have hbM:bN<M:=by omega
      obtain⟨gB,oB2,uB,hpb,_,hcB,da,dc,hu2,hdk⟩:=hbk bN hbM;obtain⟨L,hL⟩:∃L,P.getD bN []=L:=⟨_,rfl⟩;rw[hL] at hd hdk hu2;obtain⟨K,hKl⟩:∃K,L.length=K:=⟨_,rfl⟩;rw[hKl] at hdk hu2;have hpK:pN<K:=by rw[←hKl];exact(List.getElem?_eq_some_iff.1 hd).1
      obtain⟨gD,oD,hda,_,hcD⟩:=hdk pN hpK;have hdE:L.getD pN dD=d:=by rw[List.getD_eq_getElem?_getD,hd];rfl
      have hrt:d.Rt:=hpok.out.r t (by rw[hNQ.out];exact htN) bN (by rw[hP,hMl];exact hbM) d (by rw[hP,hL];exact List.mem_of_getElem? hd);rw[hdE] at hcD;subst hpa hu hpb hu2 hda;have hcw:Calm w1 W9:=hK9.out.c;have q1:=hcw.cellAt hcQ id;have q2:=hcw.cellAt hcB id;have e0:=hcw.cellAt (hcD 0 _ rfl) id;have e1:=hcw.cellAt (hcD 1 _ rfl) id;have e2:=hcw.cellAt (hcD 2 _ rfl) id;have e3:=hcw.cellAt (hcD 3 _ rfl) id;have e4:=hcw.cellAt (hcD 4 _ rfl) id;rw[Nat.add_zero] at e0;have hyb:y.b=bN:=by rw[←hy.out];exact hbN
      have hyp:y.p=pN:=by rw[←hy.out];exact hpN
      obtain⟨z0,z1⟩:=OwnL.ce2 yB;rw[hyb] at z0;rw[hyp] at z1;have g0:∀q:Later W9,q.w.cell? ⟨B3,0,none⟩=some (vI (bN:Int)):=fun q=>q.cell z0;have g1:∀q:Later W9,q.w.cell? ⟨B3,1,none⟩=some (vI (pN:Int)):=fun q=>q.cell z1;have g2:∀q:Later W9,q.w.cell? ⟨gQ,oQ+t,none⟩=some (.slice (some ⟨gB,oB2,none⟩) M pbc):=fun q=>q.cell q1;have g3:∀q:Later W9,q.w.cell? ⟨gB,oB2+bN,none⟩=some (.slice (some ⟨gD,oD,none⟩) K dc):=fun q=>q.cell q2;have hpK2:decide ((pN:Int)≥(K:Int))=false:=by simp;omega
      have hkd:=hid (And.intro hDt (And.intro hX hrt));have hkk:=hrt.k;obtain⟨bB,hbB⟩:∃bB:Nat,d.b=bB:=⟨d.b.toNat,by omega⟩;have hbB5:bB≤5:=by omega
      obtain⟨rv,hrv⟩:∃rv:Nat,y.R.getD bB 0=rv:=⟨_,rfl⟩
      have hzr:Hid (rv=sr0 S.D.A (x0.R.getD d.b.toNat 0)):=by
        unfold Hid;rw[hbB,Int.toNat_natCast,←hrv,←hy.out];have hRl:=hok.out.r;show(x0.R.map (sr0 S.D.A)).getD bB 0=_;simp[List.getD_eq_getElem?_getD,show bB<x0.R.length by omega]
      have zr:W9.cell? ⟨B3,2+bB,none⟩=some (vI (rv:Int)):=by
        have h1:(thC y)[2+bB]?=some (vI ((y.R.getD bB 0:Nat):Int)):=by
          rcases(by omega:bB=0∨bB=1∨bB=2∨bB=3∨bB=4∨bB=5) with rfl|rfl|rfl|rfl|rfl|rfl <;> rfl
        rw[hrv] at h1;exact(yB _ _ h1).1
      have hV:Hid (x1.R.map (sr0 S1.D.A)=z.R∧x0.V.map (sr0 S.D.A)=y.V∧z.b=x1.b∧z.live=x1.live):=⟨by rw[←hz.out];rfl,by rw[←hy.out];rfl,by rw[←hz.out];rfl,by rw[←hz.out];rfl⟩;have hbN4:bN≤100:=by have h1:=hpok.out.b t (by rw[hNQ.out];exact htN);rw[hP,hMl] at h1;omega
      have hwS:=hwS0;have hkd3:=hid hkk;clear hdd hd hDt hX hrt hkk yB zB hcD hdE hbk hdk hcQ hcB hL hP hMl hKl hb1 hrv hyb hyp;replace hlive:=hid hlive;replace hylv:=hid hylv;replace hbN:=hid hbN;replace hpN:=hid hpN;replace hcw:=hid hcw;go_upto_region 15 with fail
      refine wp_region_calm (by kernel_rfl) (by kernel_rfl) ?_
      repeat (go_big_quiet_step (fail))
      refine wpQuiet_nil ?_;intro w10 hw';have c10:=Later.out hw';clear hw' g14 b0 g0 g1 g2 g3;go_upto_region 16 with fail
      have kd:Calm W9 w10.drew:=c10.trans ((Fr.refl _ _).drew);refine wp_region_mix [(true,0),(true,1),(true,2),(true,3),(true,4),(true,5),(true,6),(true,7),(true,8),(true,9),(true,10),(true,11),(false,12),(false,13)] (fun w'=>Calm W9 w') (by kernel_rfl) (by kernel_rfl) kd ?_;refine mix_read (.slice (some ⟨gQ,oQ,none⟩) NQ pc) rfl rfl (fun w' hw'=>?_) (fun _ _ _ h=>hQp.out _ _ _ _ _ h) ?_
      · simp[go_sem]
      refine mix_read (vI (t:Int)) rfl rfl (fun w' hw'=>?_) (fun _ _ _ h=>hQp.out _ _ _ _ _ h) ?_
      · simp[go_sem]
      refine mix_read (.pointer (some ⟨gQ,oQ+t,none⟩)) rfl rfl (fun w' hw'=>?_) (fun _ _ _ h=>hQp.out _ _ _ _ _ h) ?_
      · simp[go_sem,htN]
      refine mix_read (.slice (some ⟨gB,oB2,none⟩) M pbc) rfl rfl (fun w' hw'=>?_) (fun _ _ _ h=>hQp.out _ _ _ _ _ h) ?_
      · have e:=hw'.cellAt q1 id;simp[go_sem,e]
      refine mix_read (.pointer (some ⟨B3,0,none⟩)) rfl rfl (fun w' hw'=>?_) (fun _ _ _ h=>hQp.out _ _ _ _ _ h) ?_
      · simp[go_sem]
      refine mix_read (vI (bN:Int)) rfl rfl (fun w' hw'=>?_) (fun _ _ _ h=>hQp.out _ _ _ _ _ h) ?_
      · have e:=hw'.cellAt z0 id;simp[go_sem,e]
      refine mix_read (.pointer (some ⟨gB,oB2+bN,none⟩)) rfl rfl (fun w' hw'=>?_) (fun _ _ _ h=>hQp.out _ _ _ _ _ h) ?_
      · simp[go_sem,hbM]
      refine mix_read (.slice (some ⟨gD,oD,none⟩) K dc) rfl rfl (fun w' hw'=>?_) (fun _ _ _ h=>hQp.out _ _ _ _ _ h) ?_
      · have e:=hw'.cellAt q2 id;simp[go_sem,e]
      refine mix_read (.pointer (some ⟨B3,1,none⟩)) rfl rfl (fun w' hw'=>?_) (fun _ _ _ h=>hQp.out _ _ _ _ _ h) ?_
      · simp[go_sem]
      refine mix_read (vI (pN:Int)) rfl rfl (fun w' hw'=>?_) (fun _ _ _ h=>hQp.out _ _ _ _ _ h) ?_
      · have e:=hw'.cellAt z1 id;simp[go_sem,e]
      refine mix_read (.pointer (some ⟨gD,oD+pN*5,none⟩)) rfl rfl (fun w' hw'=>?_) (fun _ _ _ h=>hQp.out _ _ _ _ _ h) ?_
      · simp[go_sem,hpK]
      refine mix_read (ddV d) rfl rfl (fun w' hw'=>?_) (fun _ _ _ h=>hQp.out _ _ _ _ _ h) ?_
      · have f0:=hw'.cellAt e0 id;have f1:=hw'.cellAt e1 id;have f2:=hw'.cellAt e2 id;have f3:=hw'.cellAt e3 id;have f4:=hw'.cellAt e4 id;simp[go_sem,f0,f1,f2,f3,f4,ddV]
      refine mix_step rfl rfl ?_;unfold Oper.wp;go_simp;have k12:Calm W9 (w10.drew.alloc (.cells #[vI 0,vI 0,vI 0,vI 0,vI 0] 43)):=kd.alloc _;have o12:OwnL (w10.drew.alloc (.cells #[vI 0,vI 0,vI 0,vI 0,vI 0] 43)) w10.heap.size [vI 0,vI 0,vI 0,vI 0,vI 0]:=OwnL.new w10.drew [_,_,_,_,_] _;refine⟨k12,?_⟩;refine mix_step rfl rfl ?_;refine wp_storeO _ _ _ rfl (w10.heap.size) (ddC d).toArray (by rfl) (by rfl) o12 rfl (by kernel_rfl) (dd_one d) ?_;intro w13 a13 f13;have hs10:=c10.size;have c13:Calm W9 w13:=k12.join f13 (fun j hj e=>by omega);refine⟨c13,mix_end ?_⟩;obtain⟨B8,hB8⟩:∃B8,w10.heap.size=B8:=⟨_,rfl⟩;rw[hB8] at a13 ⊢;have hK13:=hid (hK9.out.calm c13);have r13:=c13.cellAt zr id;have y13:=c13.cellAt z0 id;have zB13:=hid (oB9.out.calm c13);have yA13:=hid (oA9.out.calm c13);have zC13:=hid (oC.out.calm c13);simp only[ddC] at a13;rw[hbB] at a13;obtain⟨dz0,dz1,dz2,dz3,dz4⟩:=OwnL.ce5 a13;clear c10 kd k12 o12 f13 hs10 q1 q2 e0 e1 e2 e3 e4 z0 z1 zr hB8 c13;replace hbB:=hid hbB;go_upto_region 18 with fail
      go_cut [118] from 77 to 195 (fun s18 wx=>∃b:Bool,s18 = .bool b∧(b=true↔(d.k=1∨d.k=2))∧wx=w13)
      case first=>
        by_cases hk1:d.k=1
        · have hb1:(d.k==1)=true:=by simp[hk1]
          replace hk1:=hid hk1;go_wp2_with fail
          go_meet;exact⟨_,rfl,⟨fun _=>.inl hk1.out,fun _=>rfl⟩,rfl⟩
        · have hb1:(d.k==1)=false:=by simp[hk1]
          by_cases hk2:d.k=2
          · have hb2:(d.k==2)=true:=by simp[hk2]
            replace hk1:=hid hk1;replace hk2:=hid hk2;go_wp2_with fail
            go_meet;exact⟨_,rfl,⟨fun _=>.inr hk2.out,fun _=>rfl⟩,rfl⟩
          · have hb2:(d.k==2)=false:=by simp[hk2]
            replace hk1:=hid hk1;replace hk2:=hid hk2;go_wp2_with fail
            go_meet;exact⟨_,rfl,⟨fun e=>(by cases e),fun e=>e.elim (fun e=>absurd e hk1.out) (fun e=>absurd e hk2.out)⟩,rfl⟩
      case rest=>
      obtain⟨b1,rfl,hb1,rfl⟩:=hcut;replace hb1:=hid hb1;go_upto_if 118 with fail
      go_cut [19] from 77 to 195 (fun s19 wx=>∃n1:Int,s19=vI n1∧((d.k=1∨d.k=2)→n1=3+d.i+d.n)∧(¬(d.k=1∨d.k=2)→n1=0)∧Calm wc wx)
      case first=>
        by_cases hk12:d.k=1∨d.k=2
        · obtain rfl:b1=true:=hb1.out.2 hk12;obtain⟨hbi,hF⟩:=hkd.out.1.top1 hkd.out.2.1 hkd.out.2.2 hk12;have oz:=size_yes d.i.toNat d.n.toNat false false ⟨by omega,by omega,fun e=>by cases e⟩ wc;rw[Int.toNat_of_nonneg hbi.1,Int.toNat_of_nonneg hbi.2.2.1] at oz;replace hk12:=hid hk12;clear hF;go_wp2_with fail
          refine oz.mono ?_;rintro e w14 ⟨rfl,c14⟩;clear oz;go_wp2_with fail
          go_meet;exact⟨_,rfl,fun _=>rfl,fun e=>absurd hk12.out e,c14⟩
        · obtain rfl:b1=false:=by
            cases b1
            · rfl
            · exact absurd (hb1.out.1 rfl) hk12
          replace hk12:=hid hk12;go_wp2_with fail
          go_meet;exact⟨0,rfl,fun e=>absurd e hk12.out,fun _=>rfl,Fr.refl _ _⟩
      case rest=>
        obtain⟨n1,rfl,hn1,hn2,cc⟩:=hcut;replace r13:=cc.cellAt r13 id;replace y13:=cc.cellAt y13 id;replace hK13:=hid (hK13.out.calm cc);replace zB13:=hid (zB13.out.calm cc);replace yA13:=hid (yA13.out.calm cc);replace zC13:=hid (zC13.out.calm cc);have ez0:=cc.cellAt dz0 id;have ez2:=cc.cellAt dz2 id;replace hn1:=hid hn1;replace hn2:=hid hn2;clear dz0 dz1 dz2 dz3 dz4 cc;obtain⟨w14,rfl⟩:∃w14,w14=wc:=⟨_,rfl⟩;go_upto_region 20 with fail
        go_cut [138] from 77 to 195 (fun s38 wx=>∃b:Bool,s38 = .bool b∧(b=true↔(d.k=3∧rv≠0))∧wx=w14)
        case first=>
          by_cases hk3:d.k=3
          · have hb3:(d.k==3)=true:=by simp[hk3]
            by_cases hr0:rv=0
            · have hb2:((rv:Int) != 0)=false:=by simp[hr0]
              replace hk3:=hid hk3;replace hr0:=hid hr0;go_wp2_with fail
              go_meet;exact⟨_,rfl,⟨fun e=>(by cases e),fun e=>absurd hr0.out e.2⟩,rfl⟩
            · have hb2:((rv:Int) != 0)=true:=by simp[hr0]
              replace hk3:=hid hk3;replace hr0:=hid hr0;go_wp2_with fail
              go_meet;exact⟨_,rfl,⟨fun _=>⟨hk3.out,hr0.out⟩,fun _=>rfl⟩,rfl⟩
          · have hb3:(d.k==3)=false:=by simp[hk3]
            replace hk3:=hid hk3;go_wp2_with fail
            go_meet;exact⟨_,rfl,⟨fun e=>(by cases e),fun e=>absurd e.1 hk3.out⟩,rfl⟩
        case rest=>
        obtain⟨b3,rfl,hb3,rfl⟩:=hcut;replace hb3:=hid hb3;go_upto_if 138 with fail
        go_cut [19] from 77 to 195 (fun s19 wx=>∃n:Int,s19=vI n∧TopF S S1 x0 x1 ee n∧Calm wc wx)
        case first=>
          by_cases hk3:d.k=3
          · have hF:=DtR.top3 hwS.out hkd.out.1 hkd.out.2.1 hk3;rw[←hzr.out] at hF
            by_cases hr0:rv=0
            · rw[if_pos hr0] at hF
              obtain rfl:b3=false:=by
                cases b3
                · rfl
                · exact absurd hr0 (hb3.out.1 rfl).2
              obtain rfl:n1=0:=hn2.out (by omega);replace hF:=hid hF;replace hk3:=hid hk3;replace hr0:=hid hr0;go_wp2_with fail
              go_meet;exact⟨0,rfl,hF.out,Fr.refl _ _⟩
            · rw[if_neg hr0] at hF;obtain rfl:b3=true:=hb3.out.2 ⟨hk3,hr0⟩;replace hF:=hid hF;replace hk3:=hid hk3;replace hr0:=hid hr0;go_wp2_with fail
              go_meet;exact⟨4,rfl,hF.out,Fr.refl _ _⟩
          · obtain rfl:b3=false:=by
              cases b3
              · rfl
              · exact absurd (hb3.out.1 rfl).1 hk3
            have hF:TopF S S1 x0 x1 ee n1:=by
              by_cases hk12:d.k=1∨d.k=2
              · rw[hn1.out hk12];exact(hkd.out.1.top1 hkd.out.2.1 hkd.out.2.2 hk12).2
              · rw[hn2.out hk12];exact hkd.out.1.top0 (fun e=>hk12 (.inl e)) (fun e=>hk12 (.inr e)) hk3
            replace hF:=hid hF;replace hk3:=hid hk3;go_wp2_with fail
            go_meet;exact⟨n1,rfl,hF.out,Fr.refl _ _⟩
        case rest=>
          obtain⟨n,rfl,hF,cc⟩:=hcut;have hKc:=hid (hK13.out.calm cc);have zBc:=zB13.out.calm cc;have yAc:=yA13.out.calm cc;have zCc:=zC13.out.calm cc;have u1:=(zBc 1 _ rfl).1;clear hK13 zB13 yA13 zC13 ez0 ez2 r13 y13 cc hn1 hn2 hkd hwS hzr;obtain⟨hn0,hn100⟩:=hF.big
          by_cases he:ee=100
          · subst he;obtain⟨f1,f2,f3,f4,f5⟩:=hF.full rfl;rw[hRM.out] at f2;have ord:=round_yes n f1 (by omega);obtain⟨RN,hRN⟩:∃RN,rnd n=RN:=⟨_,rfl⟩;rw[hRN] at ord f2;replace hRN:=hid hRN;have hle:decide (RN≤RM)=false:=decide_eq_false (by omega);have he6:∀W,_:=eq6 ((y.V[0]?.getD 0:Nat):Int) ((y.V[1]?.getD 0:Nat):Int) ((y.V[2]?.getD 0:Nat):Int) ((y.V[3]?.getD 0:Nat):Int) ((y.V[4]?.getD 0:Nat):Int) ((y.V[5]?.getD 0:Nat):Int);have hnz:(n==0)=false:=by simp;omega
            have ezR:z.R=y.V:=by rw[←hV.out.1,f5,hV.out.2.1]
            have ezb:z.b=(bN:Int)+1:=by rw[hV.out.2.2.1,f3,hbN.out]
            have ezl:z.live=false:=by rw[hV.out.2.2.2,f4]
            have eyb:y.b=(bN:Int):=by rw[←hy.out];exact hbN.out
            simp only[thC,rg] at yAc zCc;rw[ezR,ezb,ezl] at zCc;rw[eyb] at yAc;simp only[List.getD_eq_getElem?_getD] at yAc zCc;replace hF:=hid hF;replace f1:=hid f1;replace f2:=hid f2;replace f3:=hid f3;replace f4:=hid f4;replace f5:=hid f5;replace ezR:=hid ezR;replace ezb:=hid ezb;replace ezl:=hid ezl;replace eyb:=hid eyb;clear zBc;go_wp2_with fail
            refine(ord _).mono ?_;rintro e w20 ⟨rfl,c20⟩;clear ord u1;have yA20:=yAc.calm c20;have zC20:=zCc.calm c20;have hQ:=hid (hKc.out.calm c20).i;obtain⟨ya0,ya1,ya2,ya3,ya4,ya5,ya6,ya7,ya8,ya9,ya10,ya11,ya12,ya13,ya14⟩:=OwnL.ce15 yA20;obtain⟨zc0,zc1,zc2,zc3,zc4,zc5,zc6,zc7,zc8,zc9,zc10,zc11,zc12,zc13,zc14⟩:=OwnL.ce15 zC20;clear yAc zCc yA20 zC20 c20;go_wp2_with fail
            first|exact hQ1.out _ _ _ _ _ _ _ _ _ _ _ _ _ _ _ _ _ _ _ _ _ _ _ _ _ _ _ _ _ _ _ _ _ _ _ _ _ _ _ _ _ _ _ _ _ _ _ _ _ _ _ _ _ _ _ _ _ _ _ _ _ _ _ _ _ _ _ _ _ _ _ _ _ _ _ _ _ _ _ _ _ _ _ _ _ _ _ _ _ _ _ _ _ _ _ _ _ _ _ _ _ _ _ _ _ _ _ _ _ _ _ _ _ _ _ _ _ _ _ _ _ _ _ _ _ _ hQ.out|exact hQe.out _ _ _ _ _ _ _ _ _ _ _ _ _ _ _ _ _ _ _ _ _ _ _ _ _ _ _ _ _ _ _ _ _ _ _ _ _ _ _ _ _ _ _ _ _ _ _ _ _ _ _ _ _ _ _ _ _ _ _ _ _ _ _ _ _ _ _ _ _ _ _ _ _ _ _ _ _ _ _ _ _ _ _ _ _ _ _ _ _ _ _ _ _ _ _ _ _ _ _ _ _ _ _ _ _ _ _ _ _ _ _ _ _ _ _ _ _ _ _ _ _ _ _ _ _ _ hQ.out
          · have he1:(ee==100)=false:=by simp[he]
            replace he:=hid he;have hQ:=hid hKc.out.i
            by_cases e0:ee=0
            · subst e0
              by_cases hn:0<n
              · obtain⟨f1,f2⟩:=hF.ok rfl hn;rw[hRM.out] at f1 f2;have ord:=round_yes n (by omega) (by omega);have hrb:=rnd_spec (n:=n) (by omega);obtain⟨RN,hRN⟩:∃RN,rnd n=RN:=⟨_,rfl⟩;rw[hRN] at ord f1 f2 hrb;replace hRN:=hid hRN;have hle:decide (RN>RM)=false:=decide_eq_false (by omega);have hgt:decide (n>0)=true:=decide_eq_true hn;have orm:=fun W c=>(hKc.out.calm (W':=W) c).room;have hrb2:4≤RN∧RN≤RM:=⟨hrb.2.1,f1⟩;clear hrb;replace hF:=hid hF;replace f1:=hid f1;replace f2:=hid f2;replace orm:=hid orm;clear zBc yAc zCc;go_wp2_with fail
                refine(ord _).mono ?_;rintro e w20 ⟨rfl,c20⟩;clear ord u1;have om2:=orm.out w20 c20;rw[f2.out] at om2;go_wp2_with fail
                refine om2.mono ?_;rintro e w21 ⟨rfl,c21⟩;have hQ2:=hid (hKc.out.calm (c20.trans c21)).i;clear om2 c20 c21;go_wp2_with fail
                first|exact hQ1.out _ _ _ _ _ _ _ _ _ _ _ _ _ _ _ _ _ _ _ _ _ _ _ _ _ _ _ _ _ _ _ _ _ _ _ _ _ _ _ _ _ _ _ _ _ _ _ _ _ _ _ _ _ _ _ _ _ _ _ _ _ _ _ _ _ _ _ _ _ _ _ _ _ _ _ _ _ _ _ _ _ _ _ _ _ _ _ _ _ _ _ _ _ _ _ _ _ _ _ _ _ _ _ _ _ _ _ _ _ _ _ _ _ _ _ _ _ _ _ _ _ _ _ _ _ _ hQ2.out|exact hQe.out _ _ _ _ _ _ _ _ _ _ _ _ _ _ _ _ _ _ _ _ _ _ _ _ _ _ _ _ _ _ _ _ _ _ _ _ _ _ _ _ _ _ _ _ _ _ _ _ _ _ _ _ _ _ _ _ _ _ _ _ _ _ _ _ _ _ _ _ _ _ _ _ _ _ _ _ _ _ _ _ _ _ _ _ _ _ _ _ _ _ _ _ _ _ _ _ _ _ _ _ _ _ _ _ _ _ _ _ _ _ _ _ _ _ _ _ _ _ _ _ _ _ _ _ _ _ hQ2.out
              · have hgt:decide (n>0)=false:=decide_eq_false hn;replace hF:=hid hF;clear zBc yAc zCc;go_wp2_with fail
                first|exact hQ1.out _ _ _ _ _ _ _ _ _ _ _ _ _ _ _ _ _ _ _ _ _ _ _ _ _ _ _ _ _ _ _ _ _ _ _ _ _ _ _ _ _ _ _ _ _ _ _ _ _ _ _ _ _ _ _ _ _ _ _ _ _ _ _ _ _ _ _ _ _ _ _ _ _ _ _ _ _ _ _ _ _ _ _ _ _ _ _ _ _ _ _ _ _ _ _ _ _ _ _ _ _ _ _ _ _ _ _ _ _ _ _ _ _ _ _ _ _ _ _ _ _ _ _ _ _ _ hQ.out|exact hQe.out _ _ _ _ _ _ _ _ _ _ _ _ _ _ _ _ _ _ _ _ _ _ _ _ _ _ _ _ _ _ _ _ _ _ _ _ _ _ _ _ _ _ _ _ _ _ _ _ _ _ _ _ _ _ _ _ _ _ _ _ _ _ _ _ _ _ _ _ _ _ _ _ _ _ _ _ _ _ _ _ _ _ _ _ _ _ _ _ _ _ _ _ _ _ _ _ _ _ _ _ _ _ _ _ _ _ _ _ _ _ _ _ _ _ _ _ _ _ _ _ _ _ _ _ _ _ hQ.out
            · have he2:(ee==0)=false:=by simp[e0]
              replace hF:=hid hF;replace e0:=hid e0;clear zBc yAc zCc
              by_cases hn:0<n
              · have hgt:decide (n>0)=true:=decide_eq_true hn;go_wp2_with fail
                first|exact hQ1.out _ _ _ _ _ _ _ _ _ _ _ _ _ _ _ _ _ _ _ _ _ _ _ _ _ _ _ _ _ _ _ _ _ _ _ _ _ _ _ _ _ _ _ _ _ _ _ _ _ _ _ _ _ _ _ _ _ _ _ _ _ _ _ _ _ _ _ _ _ _ _ _ _ _ _ _ _ _ _ _ _ _ _ _ _ _ _ _ _ _ _ _ _ _ _ _ _ _ _ _ _ _ _ _ _ _ _ _ _ _ _ _ _ _ _ _ _ _ _ _ _ _ _ _ _ _ hQ.out|exact hQe.out _ _ _ _ _ _ _ _ _ _ _ _ _ _ _ _ _ _ _ _ _ _ _ _ _ _ _ _ _ _ _ _ _ _ _ _ _ _ _ _ _ _ _ _ _ _ _ _ _ _ _ _ _ _ _ _ _ _ _ _ _ _ _ _ _ _ _ _ _ _ _ _ _ _ _ _ _ _ _ _ _ _ _ _ _ _ _ _ _ _ _ _ _ _ _ _ _ _ _ _ _ _ _ _ _ _ _ _ _ _ _ _ _ _ _ _ _ _ _ _ _ _ _ _ _ _ hQ.out
              · have hgt:decide (n>0)=false:=decide_eq_false hn;go_wp2_with fail
                first|exact hQ1.out _ _ _ _ _ _ _ _ _ _ _ _ _ _ _ _ _ _ _ _ _ _ _ _ _ _ _ _ _ _ _ _ _ _ _ _ _ _ _ _ _ _ _ _ _ _ _ _ _ _ _ _ _ _ _ _ _ _ _ _ _ _ _ _ _ _ _ _ _ _ _ _ _ _ _ _ _ _ _ _ _ _ _ _ _ _ _ _ _ _ _ _ _ _ _ _ _ _ _ _ _ _ _ _ _ _ _ _ _ _ _ _ _ _ _ _ _ _ _ _ _ _ _ _ _ _ hQ.out|exact hQe.out _ _ _ _ _ _ _ _ _ _ _ _ _ _ _ _ _ _ _ _ _ _ _ _ _ _ _ _ _ _ _ _ _ _ _ _ _ _ _ _ _ _ _ _ _ _ _ _ _ _ _ _ _ _ _ _ _ _ _ _ _ _ _ _ _ _ _ _ _ _ _ _ _ _ _ _ _ _ _ _ _ _ _ _ _ _ _ _ _ _ _ _ _ _ _ _ _ _ _ _ _ _ _ _ _ _ _ _ _ _ _ _ _ _ _ _ _ _ _ _ _ _ _ _ _ _ hQ.out
    · have hk':(k != 2)=true:=by simp[hk]
      replace hk:=hid hk;replace hlive:=hid hlive;replace hylv:=hid hylv;clear yB zB;go_upto_region 15 with fail
      refine wp_region_calm (by kernel_rfl) (by kernel_rfl) ?_
      repeat (go_big_quiet_step (fail))
      refine wpQuiet_nil ?_;intro w10 hw';have c10:=Later.out hw';clear hw' g14 b0;have hF:=hid (hK9.out.calm c10).i;clear c10;go_wp2_with fail
      first|exact hQ1.out _ _ _ _ _ _ _ _ _ _ _ _ _ _ _ _ _ _ _ _ _ _ _ _ _ _ _ _ _ _ _ _ _ _ _ _ _ _ _ _ _ _ _ _ _ _ _ _ _ _ _ _ _ _ _ _ _ _ _ _ _ _ _ _ _ _ _ _ _ _ _ _ _ _ _ _ _ _ _ _ _ _ _ _ _ _ _ _ _ _ _ _ _ _ _ _ _ _ _ _ _ _ _ _ _ _ _ _ _ _ _ _ _ _ _ _ _ _ _ _ _ _ _ _ _ _ hF.out|exact hQe.out _ _ _ _ _ _ _ _ _ _ _ _ _ _ _ _ _ _ _ _ _ _ _ _ _ _ _ _ _ _ _ _ _ _ _ _ _ _ _ _ _ _ _ _ _ _ _ _ _ _ _ _ _ _ _ _ _ _ _ _ _ _ _ _ _ _ _ _ _ _ _ _ _ _ _ _ _ _ _ _ _ _ _ _ _ _ _ _ _ _ _ _ _ _ _ _ _ _ _ _ _ _ _ _ _ _ _ _ _ _ _ _ _ _ _ _ _ _ _ _ _ _ _ _ _ _ hF.out
  · have hlf:x0.live=false:=by simpa using hlive
    rw[hlf] at g14;replace hlive:=hid hlive;replace hlf:=hid hlf;replace hylv:=hid hylv;clear yB zB;go_upto_region 15 with fail
    refine wp_region_calm (by kernel_rfl) (by kernel_rfl) ?_
    repeat (go_big_quiet_step (fail))
    refine wpQuiet_nil ?_;intro w10 hw';have c10:=Later.out hw';clear hw' g14 b0;have hF:=hid (hK9.out.calm c10).i;clear c10;go_wp2_with fail
    first|exact hQ1.out _ _ _ _ _ _ _ _ _ _ _ _ _ _ _ _ _ _ _ _ _ _ _ _ _ _ _ _ _ _ _ _ _ _ _ _ _ _ _ _ _ _ _ _ _ _ _ _ _ _ _ _ _ _ _ _ _ _ _ _ _ _ _ _ _ _ _ _ _ _ _ _ _ _ _ _ _ _ _ _ _ _ _ _ _ _ _ _ _ _ _ _ _ _ _ _ _ _ _ _ _ _ _ _ _ _ _ _ _ _ _ _ _ _ _ _ _ _ _ _ _ _ _ _ _ _ hF.out|exact hQe.out _ _ _ _ _ _ _ _ _ _ _ _ _ _ _ _ _ _ _ _ _ _ _ _ _ _ _ _ _ _ _ _ _ _ _ _ _ _ _ _ _ _ _ _ _ _ _ _ _ _ _ _ _ _ _ _ _ _ _ _ _ _ _ _ _ _ _ _ _ _ _ _ _ _ _ _ _ _ _ _ _ _ _ _ _ _ _ _ _ _ _ _ _ _ _ _ _ _ _ _ _ _ _ _ _ _ _ _ _ _ _ _ _ _ _ _ _ _ _ _ _ _ _ _ _ _ hF.out
end
end Go.Proofs.YtdffnjikmkgjkaaGreat
