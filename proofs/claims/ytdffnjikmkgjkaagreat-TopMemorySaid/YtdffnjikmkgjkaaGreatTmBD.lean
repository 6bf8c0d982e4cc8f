/- TopMemory: a part of its proof (Top). -/
import Derived.Test.YtdffnjikmkgjkaaGreatTmAA
import Derived.Test.YtdffnjikmkgjkaaGreatTmBB
import Derived.Test.YtdffnjikmkgjkaaGreatTmBA
import Derived.Test.YtdffnjikmkgjkaaGreatTmBC
set_option linter.unusedSimpArgs false
set_option linter.unusedVariables false
set_option maxHeartbeats 16000000
namespace Go.Proofs.YtdffnjikmkgjkaaGreat
section
open Go.RowKit Go.Shelf
set_option maxRecDepth 8000 in
theorem topMemory_walk (a:Int)(ha:I64 a)(v1:Value)(Q0:List (List (List Dd)))(hm1:Q0.length≤maxLen)(v2:Value)(l:List Int)(hl:∀x∈l,I64 x)(hm2:l.length≤maxLen)(w:World)(hr1:PrgIn (fun b=>b<w.heap.size) w v1 Q0)(ho:QOk Q0)(hr2:Row w v2 (l.map (Value.int .i64))) :
    Calls Tryz.prog 3 #[vI a,v1,v2] w fun e w'=>e = .returned (.bool true)∧Below w.heap.size w w':=by
  have hpg:=programs_is hr1 ho;obtain⟨va,vc,rfl,hg0⟩:=Row.loop (l:=l) hr2;obtain⟨N,hN⟩:∃N,l.length=N:=⟨_,rfl⟩
  have hget:Hid (∀i,i<N→∃b off,va=some ⟨b,off,none⟩∧I64 (l.getD i 0)∧∀W,Calm w W→W.cell? ⟨b,off+i,none⟩=some (vI (l.getD i 0))):=fun i hi=>by
    obtain⟨b,off,h1,h2,h3⟩:=hg0 i (by omega);exact⟨b,off,h1,hl _ (get_mem _ (by omega)),fun W c=>c.cellAt h3 id⟩
  rw[hN];clear hr1 ho hr2 hg0 hl hm1 hm2 hN;go_enter Tryz.func3,Tryz.ntmps3;go_wp2_with fail
  refine hpg.mono ?_;rintro e w1 ⟨pv,Q,rfl,hQ,hpok,c1⟩;clear hpg;obtain⟨NQ,hNQ⟩:∃NQ,Q.length=NQ:=⟨_,rfl⟩;have hNQ4:1≤NQ∧NQ≤4:=by rw[←hNQ];exact hpok.n
  have hQ':=hid hQ;obtain⟨pa,pc,rfl,hqg⟩:=hQ;rw[hNQ] at hqg
  have hqget:Hid (∀t,t<NQ→∃g o u,pa=some ⟨g,o,none⟩∧w1.cell? ⟨g,o+t,none⟩=some u∧BlkIn (fun b=>w.heap.size≤b) w1 u (Q.getD t [])):=fun t ht=>by
    obtain⟨g,o,u,h1,_,h3,h4⟩:=hqg t ht;exact⟨g,o,u,h1,h3,h4⟩
  rw[hNQ] at hQ' ⊢;replace hpok:=hid hpok;replace hNQ:=hid hNQ;clear hqg;go_wp2_with fail
  refine(pick_1 a 101 _ ha (by decide)).mono ?_;rintro e w' ⟨⟨vv,rfl,vv1,vv2⟩,rfl⟩;obtain⟨vn,rfl⟩:∃k:Nat,vv=k:=⟨vv.toNat,by omega⟩;have hnw:=mnew_is hQ'.out hpok.out (20+vn) (by omega) (by omega) 60 60 300;rw[show((20+vn:Nat):Int)=20+(vn:Int) from by push_cast;rfl] at hnw;go_wp2_with fail
  refine hnw.mono ?_;rintro e w2 ⟨mp,τ,S,tv,hv,ev,X,rfl,hM,ht,c2⟩;clear hnw hQ';have hI0:Hid (TpI w1 mp Q tv hv 0 w2):=⟨τ,S,ev,X,hM,ht,c2⟩;clear hM ht c2;go_wp2_with fail
  go_loopw [10] (fun z w'=>∃i:Nat,i≤N∧i≤100∧z=vI i∧TpI w1 mp Q tv hv i w') (fun z _=>100-(intOf z).toNat)
  case atStart=>exact⟨0,by omega,by omega,rfl,hI0.out⟩
  case round=>
    clear hI0;obtain⟨i,hi,hi100,rfl,τ,S,ev,X,hM,ht,hc⟩:=hrel;have hex:(i<N∧i<100)∨(¬i<N)∨(i<N∧¬i<100):=by omega
    rcases hex with ⟨hlt,h100⟩|hex
    · obtain⟨b,off,rfl,hxI,hcell⟩:=hget.out i hlt;have y0:=hcell wr (c1.trans hc);obtain⟨x,hx⟩:∃x,l.getD i 0=x:=⟨_,rfl⟩;rw[hx] at y0 hxI;have op:=pick_1 x ((NQ:Int)+2) wr hxI (by omega);have hXl:X.length=NQ:=hM.r.n.trans hNQ.out;replace hM:=hid hM;replace ht:=hid ht;replace hc:=hid hc;clear hcell hx hxI;go_wp2_with fail
      refine op.mono ?_;rintro e w' ⟨⟨tt,rfl,tt1,tt2⟩,rfl⟩;clear op y0;obtain⟨t,rfl⟩:∃k:Nat,tt=k:=⟨tt.toNat,by omega⟩
      by_cases htN:t<NQ
      · obtain⟨τ0,hM0,tk0,fr0⟩:=hM.out.fresh
        have ht0:Hid (∀b,b<w1.heap.size→τ0 b=1000):=fun b hb=>by
          have h1:=ht.out b hb;rw[tk0 b (Nat.lt_of_lt_of_le hb hc.out.size),h1]
        have htX:t<X.length:=by omega
        have hok:=hid (hM0.r.ok t htX);have hlt':decide ((t:Int)≥(NQ:Int))=false:=by simp;omega
        obtain⟨x0,hx0⟩:∃x0,X.getD t d0=x0:=⟨_,rfl⟩;have orm:=mroom_is hM0;have oth:=fun W (c:Calm wr W)=>mthread_is (hM0.calm c) htX;rw[hx0] at oth hok;obtain⟨y,hy⟩:∃y,x0.ser S.D.A=y:=⟨_,rfl⟩;rw[hy] at oth;replace oth:=hid oth;replace hM0:=hid hM0;replace tk0:=hid tk0;replace fr0:=hid fr0;replace htX:=hid htX;replace hXl:=hid hXl;replace hx0:=hid hx0;replace hy:=hid hy;clear hM;go_wp2_with fail
        refine orm.mono ?_;rintro e w3 ⟨rfl,c3⟩;clear orm;have ot:=oth.out w3 c3;simp only[thV,rg] at ot;go_wp2_with fail
        refine ot.mono ?_;rintro e w4 ⟨rfl,c4⟩;clear ot;have kA:Calm w4 (w4.alloc (.cells #[vI y.b,vI y.p,rg y.R 0,rg y.R 1,rg y.R 2,rg y.R 3,rg y.R 4,rg y.R 5,rg y.V 0,rg y.V 1,rg y.V 2,rg y.V 3,rg y.V 4,rg y.V 5,.bool y.live] 34)):=(Fr.refl _ _).alloc _;have oA:OwnL (w4.alloc (.cells #[vI y.b,vI y.p,rg y.R 0,rg y.R 1,rg y.R 2,rg y.R 3,rg y.R 4,rg y.R 5,rg y.V 0,rg y.V 1,rg y.V 2,rg y.V 3,rg y.V 4,rg y.V 5,.bool y.live] 34)) w4.heap.size (thC y):=OwnL.new w4 [_,_,_,_,_,_,_,_,_,_,_,_,_,_,_] _;have hsA:(w4.alloc (.cells #[vI y.b,vI y.p,rg y.R 0,rg y.R 1,rg y.R 2,rg y.R 3,rg y.R 4,rg y.R 5,rg y.V 0,rg y.V 1,rg y.V 2,rg y.V 3,rg y.V 4,rg y.V 5,.bool y.live] 34)).heap.size=w4.heap.size+1:=by simp
        simp only[rg,List.getD_eq_getElem?_getD] at kA oA hsA;go_upto_region 13 with fail
        generalize hW5:w4.alloc (.cells #[vI y.b,vI y.p,vI ((y.R[0]?.getD 0:Nat):Int),vI ((y.R[1]?.getD 0:Nat):Int),vI ((y.R[2]?.getD 0:Nat):Int),vI ((y.R[3]?.getD 0:Nat):Int),vI ((y.R[4]?.getD 0:Nat):Int),vI ((y.R[5]?.getD 0:Nat):Int),vI ((y.V[0]?.getD 0:Nat):Int),vI ((y.V[1]?.getD 0:Nat):Int),vI ((y.V[2]?.getD 0:Nat):Int),vI ((y.V[3]?.getD 0:Nat):Int),vI ((y.V[4]?.getD 0:Nat):Int),vI ((y.V[5]?.getD 0:Nat):Int),.bool y.live] 34)=W5 at *;clear hW5;have c35:=(c3.trans c4).trans kA;have hM5:=hM0.out.calm c35;have os:=mstep_is hM5 (by omega) (by omega) htX.out;obtain⟨B3,hB3⟩:∃B3,w4.heap.size=B3:=⟨_,rfl⟩;rw[hB3] at oA hsA ⊢;have tB3:τ0 B3=1000:=fr0.out _ (by rw[←hB3];exact(c3.trans c4).size);have hl3:B3<W5.heap.size:=by omega
        have hB3w:w1.heap.size≤B3:=by rw[←hB3];exact(hc.out.trans (c3.trans c4)).size
        replace c35:=hid c35;replace oA:=hid oA;clear kA hsA c3 c4 hM5 hB3;go_wp2_with fail
        refine os.mono ?_;rintro e w6 ⟨k,ee,v,rfl,τ1,S1,ev1,x1,hM1,K1,hdd⟩;rw[hx0.out] at hdd;simp only[acV];clear os;obtain⟨kB,oB⟩:=newL w6 [vI k,vI ee,vI v] 38;have hsB:(w6.alloc (.cells #[vI k,vI ee,vI v] 38)).heap.size=w6.heap.size+1:=by simp
        go_upto_region 14 with fail
        generalize hW7:w6.alloc (.cells #[vI k,vI ee,vI v] 38)=W7 at *;clear hW7;obtain⟨B5,hB5⟩:∃B5,w6.heap.size=B5:=⟨_,rfl⟩;have hl6:W5.heap.size≤w6.heap.size:=K1.fr.size;have hsx:(X.set t x1).getD t d0=x1:=getD_setS htX.out x1 d0;have ot:=mthread_is (hM1.calm kB) (t:=t) (by rw[List.length_set];exact htX.out);rw[hsx] at ot;obtain⟨z,hz⟩:∃z,x1.ser S1.D.A=z:=⟨_,rfl⟩;rw[hz] at ot;simp only[thV,rg] at ot;have oA7:=((oA.out.fr K1.fr (by rw[tB3];omega)).calm kB)
        have hcW:Calm w1 W7:=((hc.out.trans c35.out).join K1.fr (fun j hj e=>by
          have h1:=ht0.out j hj;have e:τ0 j<603:=e
          omega)).trans kB
        have hK7:TpK w1 mp Q tv hv (i+1) W7 S S1 S.sp:=⟨⟨τ1,ev1,_,(hM1.calm kB).mono (Nat.le_refl _) (by omega),fun b hb=>by
          have h1:=ht0.out b hb
          rw[K1.tg b (Nat.lt_of_lt_of_le hb (hc.out.trans c35.out).size) (by omega),h1]⟩,hcW⟩
        rw[hB5] at oB hsB hl6 ⊢;replace hM1:=hid hM1;replace hK7:=hid hK7;replace oA7:=hid oA7;replace oB:=hid oB;replace hdd:=hid hdd;replace hz:=hid hz;replace hcW:=hid hcW;clear kB K1 hsx oA c35 hB5;have hwS:=hM0.out.st.ok.hw
        have hRoom:=(show 0≤S.D.A.room∧S.D.A.room≤100000 from⟨hM0.out.st.room_pos,by
          obtain⟨XX,hX⟩:=hM0.out.st.hat;have h1:=hX.rep.n2
          unfold HS.room;omega⟩)
        replace hwS:=hid hwS;replace hRoom:=hid hRoom
        go_cut [16] (fun s16 wx=>∃B6,s16 = .pointer (some ⟨B6,0,none⟩)∧OwnL wx B6 (thC z)∧Calm W7 wx)
        case first=>
          go_wp2_with fail
          refine ot.mono ?_;rintro e w8 ⟨rfl,c8⟩;clear ot;have kC:Calm w8 (w8.alloc (.cells #[vI z.b,vI z.p,rg z.R 0,rg z.R 1,rg z.R 2,rg z.R 3,rg z.R 4,rg z.R 5,rg z.V 0,rg z.V 1,rg z.V 2,rg z.V 3,rg z.V 4,rg z.V 5,.bool z.live] 34)):=(Fr.refl _ _).alloc _;have oC:OwnL (w8.alloc (.cells #[vI z.b,vI z.p,rg z.R 0,rg z.R 1,rg z.R 2,rg z.R 3,rg z.R 4,rg z.R 5,rg z.V 0,rg z.V 1,rg z.V 2,rg z.V 3,rg z.V 4,rg z.V 5,.bool z.live] 34)) w8.heap.size (thC z):=OwnL.new w8 [_,_,_,_,_,_,_,_,_,_,_,_,_,_,_] _;simp only[rg,List.getD_eq_getElem?_getD] at kC oC;replace oC:=hid oC;go_wp2_with fail
          go_meet;exact⟨_,rfl,oC.out,c8.trans kC⟩
        case rest=>
          obtain⟨B6,rfl,oC,c79⟩:=hcut
          go_step
          refine tail_is (w:=w) (w1:=w1) (S:=S) (S1:=S1) (x0:=x0) (x1:=x1) (y:=y) (z:=z) (k:=k) (ee:=ee) (v:=v) hpok.out hNQ.out hNQ4 hqget.out htN hi100 hok.out hy.out hz.out hwS.out rfl hRoom.out hdd.out (oA7.out.calm c79) (oB.out.calm c79) oC (hK7.out.calm c79) _ _ _ _ _ _ _ _ _ _ _ _ _ _ _ _ _ _ _ _ _ _ _ _ _ _ _ _ _ _ _ _ _ _ _ _ _ _ _ _ _ _ _ _ _ _ _ _ _ _ _ _ _ _ _ _ _ _ _ _ _ _ _ _ _ _ _ _ _ _ _ _ _ _ _ _ _ _ _ _ _ _ _ _ _ _ _ _ _ _ _ _ _ _ _ _ _ _ _ _ _ _ _ _ _ _ _ _ _ _ _ _ _ _ _ _ _ _ _ _ _ _ _ _ _ _ _ _ _ _ _ _ _ _ _ _ _ _ _ _ _ _ _ _ _ _ _ _ _ _ _ _ _ _ _ _ _ _ _ _ _ _ _ _ _ _ _ _ _ _ _ _ _ _ _ _ _ _ _ _ _ _ _ _ _ _ _ _ _ _ _ _ ?_ ?_ ?_
          · intro _ _ _ _ _ h;exact h
          · intro v18 v19 v20 v21 v22 v23 v77 v78 v79 v80 v81 v82 v83 v84 v85 v86 v87 v88 v89 v90 v91 v92 v93 v94 v95 v96 v97 v98 v99 v100 v101 v102 v103 v104 v105 v106 v107 v108 v109 v110 v111 v112 v113 v114 v115 v116 v117 v118 v119 v120 v121 v122 v123 v124 v125 v126 v127 v128 v129 v130 v131 v132 v133 v134 v135 v136 v137 v138 v139 v140 v141 v142 v143 v144 v145 v146 v147 v148 v149 v150 v151 v152 v153 v154 v155 v156 v157 v158 v159 v160 v161 v162 v163 v164 v165 v166 v167 v168 v169 v170 v171 v172 v173 v174 v175 v176 v177 v178 v179 v180 v181 v182 v183 v184 v185 v186 v187 v188 v189 v190 v191 v192 v193 v194 v195 w' hI;replace hI:=hid hI;clear oC c79;go_wp2_with fail
            exact⟨⟨i+1,by omega,by omega,by simp,hI.out⟩,by simp[intOf] <;> omega⟩
          · intro v18 v19 v20 v21 v22 v23 v77 v78 v79 v80 v81 v82 v83 v84 v85 v86 v87 v88 v89 v90 v91 v92 v93 v94 v95 v96 v97 v98 v99 v100 v101 v102 v103 v104 v105 v106 v107 v108 v109 v110 v111 v112 v113 v114 v115 v116 v117 v118 v119 v120 v121 v122 v123 v124 v125 v126 v127 v128 v129 v130 v131 v132 v133 v134 v135 v136 v137 v138 v139 v140 v141 v142 v143 v144 v145 v146 v147 v148 v149 v150 v151 v152 v153 v154 v155 v156 v157 v158 v159 v160 v161 v162 v163 v164 v165 v166 v167 v168 v169 v170 v171 v172 v173 v174 v175 v176 v177 v178 v179 v180 v181 v182 v183 v184 v185 v186 v187 v188 v189 v190 v191 v192 v193 v194 v195 w' hI;replace hI:=hid hI;clear oC c79;go_wp2_with fail
            exact⟨⟨i+1,by omega,by omega,by simp,hI.out⟩,by simp[intOf] <;> omega⟩
      · have hge:NQ≤t:=by omega
        have om:=mcollect_is hM.out (by omega) (by omega);replace htN:=hid htN;go_wp2_with fail
        refine om.mono ?_;rintro e w3 ⟨⟨bb,rfl⟩,τ',S',ev',X',hM',K⟩;clear om
        have hQ2:Hid (TpI w1 mp Q tv hv (i+1) w3):=⟨τ',S',ev',X',hM'.mono (by omega) (by omega),fun b hb=>by
          have h1:=ht.out b hb
          rw[K.tg b (Nat.lt_of_lt_of_le hb hc.out.size) (by omega),h1],hc.out.join K.fr (fun j hj e=>by have h1:=ht.out j hj;have e:τ j<603:=e;omega)⟩
        clear hM' K;go_wp2_with fail
        exact⟨⟨i+1,by omega,by omega,by simp,hQ2.out⟩,by simp[intOf] <;> omega⟩
    · have hK:TpI w1 mp Q tv hv i wr:=⟨τ,S,ev,X,hM,ht,hc⟩;have orm:=mroom_is hM;have hr0:=hM.st.room_pos;have hdr:decide (S.D.A.room≥0)=true:=by simp;exact hr0
      have cW:Hid (Calm w wr):=c1.trans hc;replace hr0:=hid hr0;clear hM ht hc hK;rcases hex with h1|⟨h1,h2⟩
      · have hge:decide ((i:Int)<(N:Int))=false:=decide_eq_false (by omega);go_wp2_with fail
        refine orm.mono ?_;rintro e w3 ⟨rfl,c3⟩;have cF:=hid (cW.out.trans c3);clear orm c3;go_wp2;go_ret;exact⟨rfl,cF.out.below (Nat.le_refl _) (fun _ _ e=>e)⟩
      · have hge:decide ((i:Int)<(N:Int))=true:=decide_eq_true (by omega);have hge2:decide ((i:Int)<100)=false:=decide_eq_false (by omega);go_wp2_with fail
        refine orm.mono ?_;rintro e w3 ⟨rfl,c3⟩;have cF:=hid (cW.out.trans c3);clear orm c3;go_wp2;go_ret;exact⟨rfl,cF.out.below (Nat.le_refl _) (fun _ _ e=>e)⟩
end
end Go.Proofs.YtdffnjikmkgjkaaGreat
