/- TopMemory: a part of its proof (Mc8). -/
import Derived.Test.YtdffnjikmkgjkaaGreatTmAA
import Derived.Test.YtdffnjikmkgjkaaGreatTmAZ
import Derived.Test.YtdffnjikmkgjkaaGreatTmAV
set_option linter.unusedSimpArgs false
set_option linter.unusedVariables false
set_option maxHeartbeats 16000000
namespace Go.Proofs.YtdffnjikmkgjkaaGreat
section
open Go.RowKit Go.Shelf
variable {w:World}{τ:Nat→Nat}{s q mp:Nat}{S:StD}{Q:List (List (List Dd))}{tv hv ev:Value}{X:List ThD}
theorem Mc.thr {w':World}(h:Mc w τ s q mp S Q tv hv ev X){t:Nat}(ht:t<X.length){x':ThD}(hr:w'.ownsRow 0 34 15 hv X.length ((X.set t x').flatMap thC))(hx:ThOk (Q.getD t []).length x')(f:Fr (InB hv) w w'):Mc w' τ s q mp S Q tv hv ev (X.set t x')∧KeepM w τ w' τ:=by
  obtain⟨n0,x0,he0,hn0⟩:=h.r.e;have tS:∀b,InB hv b→τ b=601:=h.r.t1;refine⟨⟨h.st.far f (fun b hb=>by rw[tS b hb];omega),⟨h.r.c.fr f (fun e=>by have:=tS mp e;have:=h.r.t0;omega),by rw[List.length_set];exact hr,⟨n0,x0,owns_frB he0 f (fun b hb e=>by have:=tS b e;rw[h.r.t2 b hb] at this;omega),hn0⟩,h.r.p.fr f (fun b e e2=>by have:=tS b e2;omega),h.r.t0,h.r.t1,h.r.t2,by rw[List.length_set];exact h.r.n,fun j hj=>?_,h.r.pk⟩⟩,⟨f.mono (fun k _ e=>by rw[tS k e];omega),fun _ _ _=>rfl⟩⟩;rw[List.length_set] at hj
  by_cases e:j=t
  · subst e;rw[getD_setS hj];exact hx
  · rw[getD_setO e];exact h.r.ok j hj
theorem Mc.own {A:Nat→Prop}{w':World}(h:Mc w τ s q mp S Q tv hv ev X)(f:Fr A w w')(hA:∀b,A b→700≤τ b):Mc w' τ s q mp S Q tv hv ev X:=by
  obtain⟨n0,x0,he0,hn0⟩:=h.r.e;exact⟨h.st.far f (fun b hb=>by have:=hA b hb;omega),⟨h.r.c.fr f (fun e=>by have:=hA mp e;have:=h.r.t0;omega),owns_frB h.r.h f (fun b hb e=>by have:=hA b e;have:=h.r.t1 b hb;omega),⟨n0,x0,owns_frB he0 f (fun b hb e=>by have:=hA b e;have:=h.r.t2 b hb;omega),hn0⟩,h.r.p.fr f (fun b e e2=>by have:=hA b e2;omega),h.r.t0,h.r.t1,h.r.t2,h.r.n,h.r.ok,h.r.pk⟩⟩
theorem KeepM.own {A:Nat→Prop}{w1 w2:World}{τ1:Nat→Nat}(h:KeepM w τ w1 τ1)(f:Fr A w1 w2)(hA:∀b,A b→w.heap.size≤b):KeepM w τ w2 τ1:=⟨h.fr.join f (fun j hj e=>by have:=hA j e;omega),h.tg⟩
theorem set_self {X:List ThD}{t:Nat}(ht:t<X.length):X.set t (X.getD t d0)=X:=by
  apply List.ext_getElem?;intro j
  by_cases e:j=t
  · subst e;rw[List.getElem?_set_self ht];simp[List.getD_eq_getElem?_getD,ht]
  · rw[List.getElem?_set_ne (by omega)]
theorem res_c {fn:Func}{i:Nat}{W:World}{B:Nat}{k e v:Int}{tmps:Array Value}(hf:fn.results = #[.cell i 38])(h5:tmps[i]?.getD undef = .pointer (some ⟨B,0,none⟩))(u:OwnL W B [vI k,vI e,vI v]):(results fn tmps).run Tryz.prog W = .ok (acV k e v) W:=by
  obtain⟨z0,z1,z2⟩:=OwnL.ce3 u;simp[results,hf,h5,go_sem,acV,z0,z1,z2]
def MsP (w:World)(τ:Nat→Nat)(s q mp:Nat)(S:StD)(Q:List (List (List Dd)))(tv hv:Value)(X:List ThD)(t:Nat)(e:Ending)(w':World):Prop:=
  ∃k ee v:Int,e = .returned (acV k ee v)∧∃τ' S' ev' x',Mc w' τ' (s+1) q mp S' Q tv hv ev' (X.set t x')∧KeepM w τ w' τ'∧(k=2→DdR S (Q.getD t []) (X.getD t d0) x' ee S')
structure StpS (mp sp tg o B5:Nat)(tv u:Value)(x:ThD)(w:World):Prop where
  c0:w.cell? ⟨mp,0,none⟩=some (pV sp)
  c1:w.cell? ⟨mp,1,none⟩=some tv
  ct:w.cell? ⟨tg,o,none⟩=some u
  o5:OwnL w B5 (thC x)
theorem StpS.fr {A:Nat→Prop}{mp sp tg o B5:Nat}{tv u:Value}{x:ThD}{w w':World}(h:StpS mp sp tg o B5 tv u x w)(f:Fr A w w')(h1:¬A mp)(h2:¬A tg)(h3:¬A B5):StpS mp sp tg o B5 tv u x w':=⟨f.cellAt h.c0 h1,f.cellAt h.c1 h1,f.cellAt h.ct h2,h.o5.fr f h3⟩
theorem StpS.calm {mp sp tg o B5:Nat}{tv u:Value}{x:ThD}{w w':World}(h:StpS mp sp tg o B5 tv u x w)(c:Calm w w'):StpS mp sp tg o B5 tv u x w':=h.fr c id id id
theorem wp_newO (w:World)(B:Nat)(hB:w.heap.size=B){op:Oper}{a:Act}{K:Act→World→Prop}{Q:Exit→Act→World→Prop}{ty:TypeId}{zs:List Value}(ho:op.op = .alloc ty)(hr:∀w,(Instr.alloc ty true (.tuple #[])).run Tryz.prog w = .ok (.pointer (some ⟨w.heap.size,0,none⟩)) (w.alloc (.cells zs.toArray ty)))
    (h:∀w',Calm w w'→OwnL w' B zs→K (a.put op.dst (.pointer (some ⟨B,0,none⟩))) w'):op.wp Tryz.prog a w K Q:=by
  subst hB;have h2:=h _ ((Fr.refl _ _).alloc _) (OwnL.new w zs ty);unfold Oper.wp;simp[execOp,ho,hr,Result.andThen];exact h2
theorem run_newa (w:World):(Instr.alloc 34 true (.tuple #[])).run Tryz.prog w = .ok (.pointer (some ⟨w.heap.size,0,none⟩)) (w.alloc (.cells [vI 0,vI 0,vI 0,vI 0,vI 0,vI 0,vI 0,vI 0,vI 0,vI 0,vI 0,vI 0,vI 0,vI 0,.bool false].toArray 34)):=by simp[go_sem]
theorem run_newb (w:World):(Instr.alloc 38 true (.tuple #[])).run Tryz.prog w = .ok (.pointer (some ⟨w.heap.size,0,none⟩)) (w.alloc (.cells [vI 0,vI 0,vI 0].toArray 38)):=by simp[go_sem]
def StpR (W:World)(τ2:Nat→Nat)(s q:Nat)(S:StD)(P:List (List Dd))(x:ThD)(s6 s7:Value)(wx:World):Prop:=
  ∃B6 B7 x2 k ee v,s6=pV B6∧s7=pV B7∧OwnL wx B6 (thC x2)∧OwnL wx B7 [vI k,vI ee,vI v]∧B6≠B7∧W.heap.size≤B6∧W.heap.size≤B7∧ThOk P.length x2∧∃τx Sx,St wx τx (s+1) q Sx∧KeepT W τ2 wx τx∧Fix S Sx∧(k=2→DdR S P x x2 ee Sx)∧τx B7=1000
set_option maxRecDepth 8000 in
theorem mstep_is (h:Mc w τ s q mp S Q tv hv ev X)(hs:s<100000)(hq:q≤100000){t:Nat}(ht:t<X.length):Calls Tryz.prog 10 #[pV mp,vI (t:Int)] w (MsP w τ s q mp S Q tv hv X t):=by
  obtain⟨τ0,hF,tk0,fr0⟩:=h.fresh;obtain⟨ka,o4⟩:=newL w [vI 0,vI 0,vI 0] 38;obtain⟨W0,hW0⟩:∃W0,w.alloc (.cells #[vI 0,vI 0,vI 0] 38)=W0:=⟨_,rfl⟩;rw[hW0] at ka o4;have hs0:W0.heap.size=w.heap.size+1:=by rw[←hW0];simp
  have h0:=hF.calm ka;have K0:KeepM w τ W0 τ0:=⟨ka.any,fun b hb e=>tk0 b hb⟩;have t4:τ0 w.heap.size=1000:=fr0 _ (Nat.le_refl _);have of:=mfull_is h0;obtain⟨N,hN⟩:∃N,X.length=N:=⟨_,rfl⟩;have hN4:N≤4:=by rw[←hN,h.r.n];exact h.r.pk.n.2
  obtain⟨g,gc,hvv,hg⟩:=rows_th h0.r.h ht;rw[hN] at hvv;have y2:W0.cell? ⟨mp,2,none⟩=some (.slice (some ⟨g,0,none⟩) N gc):=by rw[←hvv];exact(h0.r.c 2 _ rfl).1
  have dt0:decide ((t:Int)<0)=false:=decide_eq_false (by omega);have dt1:decide (N≤t)=false:=decide_eq_false (by omega);have htN:t<N:=by omega
  have hXs:=set_self ht;have hvv':=hid hvv;have hN':=hid hN;have hF':=hid hF;have h0':=hid h0;clear h hF h0 hg hvv hN tk0 ka;replace K0:=hid K0;go_enter Tryz.func10,Tryz.ntmps10;go_wp2_with fail
  refine of.mono ?_;rintro en w1 ⟨⟨b,rfl⟩,τ1,h1,t1,K1⟩;clear of;have hW4:w.heap.size<W0.heap.size:=by omega
  have t41:τ1 w.heap.size=1000:=(t1 _ hW4).trans t4;have p4:=o4.fr K1.fr (by rw[t4];omega);have K01:=K0.out.trans K1
  cases b with
  | true=>
    have T1:=p4.whole (us:=[vI 0,vI 0,vI 0]) rfl;have F1:=frC w1 (w.heap.size) 0 [vI 0,vI 0,vI 0]
    have hP:MsP w τ s q mp S Q tv hv X t (.returned (acV 0 0 0)) (w1.setCells w.heap.size 0 [vI 0,vI 0,vI 0]):=
      ⟨0,0,0,rfl,τ1,S,ev,X.getD t d0,by rw[hXs];exact(h1.mono (s':=s+1) (q':=q) (by omega) (Nat.le_refl _)).own F1 (fun b hb=>by rw[hb,t41];omega),K01.own F1 (fun b hb=>by omega),fun e=>by omega⟩
    replace hP:=hid hP;replace T1:=hid T1;obtain⟨y0,z0,y1,z1,y2,z2⟩:=OwnL.cf3 p4;clear F1 p4 h1 K1 K01 hXs;go_wp2;exact bodyPost_ret (res_c (i:=4) rfl rfl T1.out) rfl hP.out
  | false=>
    obtain⟨τ2,h1f,tk2,fr2⟩:=h1.fresh;have K02:KeepM w τ w1 τ2:=⟨K01.fr,fun b hb e=>(tk2 b (by have h5:=K1.fr.size;omega)).trans (K01.tg b hb e)⟩;have t42:τ2 w.heap.size=1000:=(tk2 _ (by have h5:=K1.fr.size;omega)).trans t41;obtain⟨g',gc',hv2,hg⟩:=rows_th h1f.r.h ht;rw[hN'.out] at hv2;have y2:w1.cell? ⟨mp,2,none⟩=some (.slice (some ⟨g',0,none⟩) N gc'):=by rw[←hv2];exact(h1f.r.c 2 _ rfl).1
    have hok:=h1f.r.ok t ht;obtain⟨x,hx⟩:∃x,X.getD t d0=x:=⟨_,rfl⟩;rw[hx] at hg hok hXs;have hgc:∀j u,(thC x)[j]?=some u→w1.cell? ⟨g',t*15+j,none⟩=some u:=fun j u hu=>(hg j u hu).1;have e0:=hgc 0 _ rfl;have e1:=hgc 1 _ rfl;have e2:=hgc 2 _ rfl;have e3:=hgc 3 _ rfl;have e4:=hgc 4 _ rfl;have e5:=hgc 5 _ rfl;have e6:=hgc 6 _ rfl;have e7:=hgc 7 _ rfl;have e8:=hgc 8 _ rfl;have e9:=hgc 9 _ rfl;have e10:=hgc 10 _ rfl;have e11:=hgc 11 _ rfl;have e12:=hgc 12 _ rfl;have e13:=hgc 13 _ rfl;have e14:=hgc 14 _ rfl;rw[Nat.add_zero] at e0;simp only[rg] at e2 e3 e4 e5 e6 e7 e8 e9 e10 e11 e12 e13;have kA:Calm w1 (w1.alloc (.cells #[vI x.b,vI x.p,rg x.R 0,rg x.R 1,rg x.R 2,rg x.R 3,rg x.R 4,rg x.R 5,rg x.V 0,rg x.V 1,rg x.V 2,rg x.V 3,rg x.V 4,rg x.V 5,.bool x.live] 34)):=(Fr.refl _ _).alloc _;have oA:OwnL (w1.alloc (.cells #[vI x.b,vI x.p,rg x.R 0,rg x.R 1,rg x.R 2,rg x.R 3,rg x.R 4,rg x.R 5,rg x.V 0,rg x.V 1,rg x.V 2,rg x.V 3,rg x.V 4,rg x.V 5,.bool x.live] 34)) w1.heap.size (thC x):=OwnL.nth2 w1 [_,_,_,_,_,_,_,_,_,_,_,_,_,_,_] _ _ rfl;have hsA:(w1.alloc (.cells #[vI x.b,vI x.p,rg x.R 0,rg x.R 1,rg x.R 2,rg x.R 3,rg x.R 4,rg x.R 5,rg x.V 0,rg x.V 1,rg x.V 2,rg x.V 3,rg x.V 4,rg x.V 5,.bool x.live] 34)).heap.size=w1.heap.size+1:=by simp
    simp only[rg,List.getD_eq_getElem?_getD] at kA oA hsA;replace hok:=hid hok;replace hx:=hid hx;replace hv2:=hid hv2;replace hXs:=hid hXs;replace p4:=hid p4;replace K02:=hid K02;replace h1f:=hid h1f;clear h1 K1 K01 hg hgc;go_upto_region 4 with fail
    generalize hW5:w1.alloc (.cells #[vI x.b,vI x.p,vI ((x.R[0]?.getD 0:Nat):Int),vI ((x.R[1]?.getD 0:Nat):Int),vI ((x.R[2]?.getD 0:Nat):Int),vI ((x.R[3]?.getD 0:Nat):Int),vI ((x.R[4]?.getD 0:Nat):Int),vI ((x.R[5]?.getD 0:Nat):Int),vI ((x.V[0]?.getD 0:Nat):Int),vI ((x.V[1]?.getD 0:Nat):Int),vI ((x.V[2]?.getD 0:Nat):Int),vI ((x.V[3]?.getD 0:Nat):Int),vI ((x.V[4]?.getD 0:Nat):Int),vI ((x.V[5]?.getD 0:Nat):Int),.bool x.live] 34)=W5 at *;have hsW:w1.heap.size<W5.heap.size:=by omega
    clear hsA;clear hW5 e0 e1 e2 e3 e4 e5 e6 e7 e8 e9 e10 e11 e12 e13 e14 y2;have h5:=h1f.out.calm kA;obtain⟨ta,tc,htv,hpg⟩:=h5.r.p;have htQ:t<Q.length:=by rw[←h5.r.n];exact ht
    obtain⟨tg,tof,u,hta,ttg,hcu,hbk⟩:=hpg t htQ;subst hta;have hQn:=h5.r.pk;have S0:StpS mp S.sp tg (tof+t) w1.heap.size (.slice (some ⟨tg,tof,none⟩) Q.length tc) u x W5:=⟨(h5.r.c 0 _ rfl).1,by rw[←htv];exact(h5.r.c 1 _ rfl).1,hcu,oA⟩;have hmps:mp<W5.heap.size:=h5.r.c.lt (by simp);have htgs:tg<W5.heap.size:=World.block_lt_of_cell? W5 ⟨tg,tof+t,none⟩ hcu;have oS:Hid (∀W,Calm W5 W→Calls Tryz.prog 26 #[pV S.sp,vI (t:Int),u,thV x] W (SpP W τ2 s q S (Q.getD t []) x)):=fun W c=>tstep_is (h5.st.calm c) hs hq t ⟨by omega,by omega⟩ (hbk.calm c) (by have:=hQn.b t htQ;omega) (fun b hb=>by have:=(hQn.d t htQ b hb).2;omega) (hQn.r t htQ) hok.out;obtain⟨bu,bn,bc,hu⟩:∃bu bn bc,u = .slice bu bn bc:=by obtain⟨ba,bc,e,_⟩:=hbk;exact⟨_,_,_,e⟩
    subst hu;have tmp:τ2 mp=600:=h5.r.t0;have hQl:(Q.length:Int)≤4:=by have:=hQn.n.2;omega
    obtain⟨NQ,hNQ⟩:∃NQ,Q.length=NQ:=⟨_,rfl⟩;rw[hNQ] at S0 htQ hQl;replace hNQ:=hid hNQ;replace htv:=hid htv;replace hbk:=hid hbk;replace hQn:=hid hQn;have p45:=hid (p4.out.calm kA);have K05:=hid (K02.out.trans (KeepM.calm τ2 kA));clear hpg hcu kA;replace h5:=hid h5
    go_cut [6,7] (fun s6 s7 wx=>StpR W5 τ2 s q S (Q.getD t []) x s6 s7 wx)
    case first=>
      have kd:Calm W5 W5.drew:=(Fr.refl _ _).drew;have SD:=S0.calm kd;refine wp_region_tree (Way.reads [0,1,2,3,4,5,6,7,8,9,10,11,12] (.any (.alt 13 (Way.reads [14,15,16] (.any (.alt 17 (.step 18 (.step 19 (.step 20 .fin))) (.alt 18 (.step 17 (.step 19 (.step 20 .fin))) .stop)))) (.alt 17 (.any (.alt 13 (Way.reads [14,15,16] (.step 18 (.step 19 (.step 20 .fin)))) (.alt 18 (.step 13 (Way.reads [14,15,16] (.step 19 (.step 20 .fin)))) .stop))) (.alt 18 (.any (.alt 13 (Way.reads [14,15,16] (.step 17 (.step 19 (.step 20 .fin)))) (.alt 17 (.step 13 (Way.reads [14,15,16] (.step 19 (.step 20 .fin)))) .stop))) .stop))))) (fun w'=>StpS mp S.sp tg (tof+t) w1.heap.size (.slice (some ⟨tg,tof,none⟩) NQ tc) (.slice bu bn bc) x w') (by kernel_rfl) (by kernel_rfl) SD ?_;refine tree_read (pV mp) rfl rfl (fun w' hw'=>?_) (fun _ _ _ h=>h) ?_
      · simp[go_sem]
      refine tree_read (pV mp) rfl rfl (fun w' hw'=>?_) (fun _ _ _ h=>h) ?_
      · simp[go_sem]
      refine tree_read (.pointer (some ⟨mp,0,none⟩)) rfl rfl (fun w' hw'=>?_) (fun _ _ _ h=>h) ?_
      · simp[go_sem]
      refine tree_read (pV S.sp) rfl rfl (fun w' hw'=>?_) (fun _ _ _ h=>h) ?_
      · simp[go_sem,hw'.c0]
      refine tree_read (vI (t:Int)) rfl rfl (fun w' hw'=>?_) (fun _ _ _ h=>h) ?_
      · simp[go_sem]
      refine tree_read (pV mp) rfl rfl (fun w' hw'=>?_) (fun _ _ _ h=>h) ?_
      · simp[go_sem]
      refine tree_read (pV mp) rfl rfl (fun w' hw'=>?_) (fun _ _ _ h=>h) ?_
      · simp[go_sem]
      refine tree_read (.pointer (some ⟨mp,1,none⟩)) rfl rfl (fun w' hw'=>?_) (fun _ _ _ h=>h) ?_
      · simp[go_sem]
      refine tree_read (.slice (some ⟨tg,tof,none⟩) NQ tc) rfl rfl (fun w' hw'=>?_) (fun _ _ _ h=>h) ?_
      · simp[go_sem,hw'.c1]
      refine tree_read (vI (t:Int)) rfl rfl (fun w' hw'=>?_) (fun _ _ _ h=>h) ?_
      · simp[go_sem]
      refine tree_read (.pointer (some ⟨tg,tof+t,none⟩)) rfl rfl (fun w' hw'=>?_) (fun _ _ _ h=>h) ?_
      · simp[go_sem,htQ]
      refine tree_read (.slice bu bn bc) rfl rfl (fun w' hw'=>?_) (fun _ _ _ h=>h) ?_
      · simp[go_sem,hw'.ct]
      refine tree_read (thV x) rfl rfl (fun w' hw'=>?_) (fun _ _ _ h=>h) ?_
      · have o:=hw'.o5;simp only[thC,rg] at o;obtain⟨y0,y1,y2,y3,y4,y5,y6,y7,y8,y9,y10,y11,y12,y13,y14⟩:=OwnL.ce15 o;simp[go_sem,thV,rg,y0,y1,y2,y3,y4,y5,y6,y7,y8,y9,y10,y11,y12,y13,y14]
      refine tree_any ?_;refine tree_alt1 rfl rfl ?_ (tree_alt1 rfl rfl ?_ (tree_alt1 rfl rfl ?_ tree_stop))
      · have oc:=oS.out W5.drew kd;simp only[thV,rg] at oc ⊢;go_wp2_with fail
        refine oc.mono ?_;rintro en V1 ⟨x2,k,ee,v,rfl,hx2,τ5,S5,p1,p2,p3,p5⟩;clear oc;obtain⟨τ6,p6,tk6,fr6⟩:=p1.fresh;have S1:=SD.fr p2.fr (by rw[tmp];omega) (by rw[ttg];omega) (by rw[fr2 _ (Nat.le_refl _)];omega);refine⟨S1,?_⟩;have pk1:=((KeepT.calm τ2 kd).trans p2).toTag tk6;have sw1:W5.heap.size≤V1.heap.size:=pk1.size;refine tree_read (.tuple #[thV x2,acV k ee v]) rfl rfl (fun w' hw'=>?_) (fun _ _ _ h=>h) ?_
        · simp[go_sem,thV,acV,rg]
        refine tree_read (thV x2) rfl rfl (fun w' hw'=>?_) (fun _ _ _ h=>h) ?_
        · simp[go_sem]
        refine tree_read (acV k ee v) rfl rfl (fun w' hw'=>?_) (fun _ _ _ h=>h) ?_
        · simp[go_sem]
        refine tree_any ?_;refine tree_alt1 rfl rfl ?_ (tree_alt1 rfl rfl ?_ tree_stop)
        · refine wp_newO V1 (V1.heap.size) rfl rfl run_newa ?_;intro V2 k2 oa2;have la:W5.heap.size≤V1.heap.size:=sw1;have S2:=S1.calm k2;refine⟨S2,?_⟩;go_simp;have ps2:=p6.calm k2;have pk2:=pk1.trans (KeepT.calm τ6 k2);have tta:τ6 (V1.heap.size)=1000:=fr6 _ (Nat.le_refl _);have sl2:V1.heap.size≤V2.heap.size:=Nat.le_trans (Nat.le_refl _) k2.size;have sw2:W5.heap.size≤V2.heap.size:=pk2.size;refine tree_step rfl rfl ?_;refine wp_newO V2 (V2.heap.size) rfl rfl run_newb ?_;intro V3 k3 ob3;have lb:W5.heap.size≤V2.heap.size:=sw2;have S3:=S2.calm k3;refine⟨S3,?_⟩;go_simp;have qa3:=oa2.calm k3;have ps3:=ps2.calm k3;have pk3:=pk2.trans (KeepT.calm τ6 k3);have ttb:τ6 (V2.heap.size)=1000:=fr6 _ sl2;have sl3:V1.heap.size≤V3.heap.size:=Nat.le_trans sl2 k3.size;have sw3:W5.heap.size≤V3.heap.size:=pk3.size;have la2:V1.heap.size<V3.heap.size:=qa3.lt (by simp);have lb2:V2.heap.size<V3.heap.size:=ob3.lt (by simp);have nab:¬(V2.heap.size=V1.heap.size):=(by have h7:=oa2.lt (by simp);omega);refine tree_step rfl rfl ?_;refine wp_storeO _ _ _ rfl (V1.heap.size) (thC x2).toArray (by rfl) (by rfl) qa3 rfl (by kernel_rfl) (thC_one x2) ?_;intro v8 pa f8;have S8:=S3.fr f8 (by omega) (by omega) (by omega);refine⟨S8,?_⟩;refine tree_step rfl rfl ?_;refine wp_storeO _ _ _ rfl (V2.heap.size) #[vI k,vI ee,vI v] (by rfl) (by rfl) (ob3.fr f8 nab) rfl (by kernel_rfl) (by simp[Value.oneCell']) ?_;intro v9 pb f9;have S9:=S8.fr f9 (by omega) (by omega) (by omega);refine⟨S9,tree_fin ?_⟩;have hR:StpR W5 τ2 s q S (Q.getD t []) x (pV (V1.heap.size)) (pV (V2.heap.size)) v9:=⟨_,_,x2,k,ee,v,rfl,rfl,pa.fr f9 (fun e=>nab e.symm),pb,fun e=>nab e.symm,la,lb,hx2,τ6,S5,((ps3).far f8 (fun j e=>by rw[e,tta];omega)).far f9 (fun j e=>by rw[e,ttb];omega),⟨(pk3.fr.join f8 (fun j hj e=>by omega)).join f9 (fun j hj e=>by omega),pk3.tg⟩,p3,p5,ttb⟩;replace hR:=hid hR;clear S8 S9 pa pb f8 f9 p6 p5 p1 p2 p3 hx2;go_simp;go_wp2_with fail
          go_meet;exact hR.out
        · refine wp_newO V1 (V1.heap.size) rfl rfl run_newb ?_;intro V2 k2 ob2;have lb:W5.heap.size≤V1.heap.size:=sw1;have S2:=S1.calm k2;refine⟨S2,?_⟩;go_simp;have ps2:=p6.calm k2;have pk2:=pk1.trans (KeepT.calm τ6 k2);have ttb:τ6 (V1.heap.size)=1000:=fr6 _ (Nat.le_refl _);have sl2:V1.heap.size≤V2.heap.size:=Nat.le_trans (Nat.le_refl _) k2.size;have sw2:W5.heap.size≤V2.heap.size:=pk2.size;refine tree_step rfl rfl ?_;refine wp_newO V2 (V2.heap.size) rfl rfl run_newa ?_;intro V3 k3 oa3;have la:W5.heap.size≤V2.heap.size:=sw2;have S3:=S2.calm k3;refine⟨S3,?_⟩;go_simp;have qb3:=ob2.calm k3;have ps3:=ps2.calm k3;have pk3:=pk2.trans (KeepT.calm τ6 k3);have tta:τ6 (V2.heap.size)=1000:=fr6 _ sl2;have sl3:V1.heap.size≤V3.heap.size:=Nat.le_trans sl2 k3.size;have sw3:W5.heap.size≤V3.heap.size:=pk3.size;have la2:V2.heap.size<V3.heap.size:=oa3.lt (by simp);have lb2:V1.heap.size<V3.heap.size:=qb3.lt (by simp);have nab:¬(V1.heap.size=V2.heap.size):=(by have h7:=ob2.lt (by simp);omega);refine tree_step rfl rfl ?_;refine wp_storeO _ _ _ rfl (V2.heap.size) (thC x2).toArray (by rfl) (by rfl) oa3 rfl (by kernel_rfl) (thC_one x2) ?_;intro v8 pa f8;have S8:=S3.fr f8 (by omega) (by omega) (by omega);refine⟨S8,?_⟩;refine tree_step rfl rfl ?_;refine wp_storeO _ _ _ rfl (V1.heap.size) #[vI k,vI ee,vI v] (by rfl) (by rfl) (qb3.fr f8 nab) rfl (by kernel_rfl) (by simp[Value.oneCell']) ?_;intro v9 pb f9;have S9:=S8.fr f9 (by omega) (by omega) (by omega);refine⟨S9,tree_fin ?_⟩;have hR:StpR W5 τ2 s q S (Q.getD t []) x (pV (V2.heap.size)) (pV (V1.heap.size)) v9:=⟨_,_,x2,k,ee,v,rfl,rfl,pa.fr f9 (fun e=>nab e.symm),pb,fun e=>nab e.symm,la,lb,hx2,τ6,S5,((ps3).far f8 (fun j e=>by rw[e,tta];omega)).far f9 (fun j e=>by rw[e,ttb];omega),⟨(pk3.fr.join f8 (fun j hj e=>by omega)).join f9 (fun j hj e=>by omega),pk3.tg⟩,p3,p5,ttb⟩;replace hR:=hid hR;clear S8 S9 pa pb f8 f9 p6 p5 p1 p2 p3 hx2;go_simp;go_wp2_with fail
          go_meet;exact hR.out
      · refine wp_newO W5.drew (W5.heap.size) rfl rfl run_newa ?_;intro V1 k1 oa1;have la:W5.heap.size≤W5.heap.size:=Nat.le_refl _;have S1:=SD.calm k1;refine⟨S1,?_⟩;go_simp;have c1:=kd.trans k1;have sw1:W5.heap.size≤V1.heap.size:=c1.size;refine tree_any ?_;refine tree_alt1 rfl rfl ?_ (tree_alt1 rfl rfl ?_ tree_stop)
        · have oc:=oS.out V1 c1;simp only[thV,rg] at oc ⊢;go_wp2_with fail
          refine oc.mono ?_;rintro en V2 ⟨x2,k,ee,v,rfl,hx2,τ5,S5,p1,p2,p3,p5⟩;clear oc;obtain⟨τ6,p6,tk6,fr6⟩:=p1.fresh;have S2:=S1.fr p2.fr (by rw[tmp];omega) (by rw[ttg];omega) (by rw[fr2 _ (Nat.le_refl _)];omega);refine⟨S2,?_⟩;have pk2:=((KeepT.calm τ2 c1).trans p2).toTag tk6;have sw2:W5.heap.size≤V2.heap.size:=pk2.size;have hba:W5.heap.size<V1.heap.size:=oa1.lt (by simp);have hta:τ2 (W5.heap.size)=1000:=fr2 _ (by omega);have qa2:=p2.ownL oa1 (by rw[hta];omega);have tta:τ6 (W5.heap.size)=1000:=(tk6 _ (Nat.lt_of_lt_of_le hba p2.size)).trans ((p2.tg _ hba).trans hta);refine tree_read (.tuple #[thV x2,acV k ee v]) rfl rfl (fun w' hw'=>?_) (fun _ _ _ h=>h) ?_
          · simp[go_sem,thV,acV,rg]
          refine tree_read (thV x2) rfl rfl (fun w' hw'=>?_) (fun _ _ _ h=>h) ?_
          · simp[go_sem]
          refine tree_read (acV k ee v) rfl rfl (fun w' hw'=>?_) (fun _ _ _ h=>h) ?_
          · simp[go_sem]
          refine tree_step rfl rfl ?_;refine wp_newO V2 (V2.heap.size) rfl rfl run_newb ?_;intro V3 k3 ob3;have lb:W5.heap.size≤V2.heap.size:=sw2;have S3:=S2.calm k3;refine⟨S3,?_⟩;go_simp;have qa3:=qa2.calm k3;have ps3:=p6.calm k3;have pk3:=pk2.trans (KeepT.calm τ6 k3);have ttb:τ6 (V2.heap.size)=1000:=fr6 _ (Nat.le_refl _);have sl3:V2.heap.size≤V3.heap.size:=Nat.le_trans (Nat.le_refl _) k3.size;have sw3:W5.heap.size≤V3.heap.size:=pk3.size;have la2:W5.heap.size<V3.heap.size:=qa3.lt (by simp);have lb2:V2.heap.size<V3.heap.size:=ob3.lt (by simp);have nab:¬(V2.heap.size=W5.heap.size):=(by have h7:=qa2.lt (by simp);omega);refine tree_step rfl rfl ?_;refine wp_storeO _ _ _ rfl (W5.heap.size) (thC x2).toArray (by rfl) (by rfl) qa3 rfl (by kernel_rfl) (thC_one x2) ?_;intro v8 pa f8;have S8:=S3.fr f8 (by omega) (by omega) (by omega);refine⟨S8,?_⟩;refine tree_step rfl rfl ?_;refine wp_storeO _ _ _ rfl (V2.heap.size) #[vI k,vI ee,vI v] (by rfl) (by rfl) (ob3.fr f8 nab) rfl (by kernel_rfl) (by simp[Value.oneCell']) ?_;intro v9 pb f9;have S9:=S8.fr f9 (by omega) (by omega) (by omega);refine⟨S9,tree_fin ?_⟩;have hR:StpR W5 τ2 s q S (Q.getD t []) x (pV (W5.heap.size)) (pV (V2.heap.size)) v9:=⟨_,_,x2,k,ee,v,rfl,rfl,pa.fr f9 (fun e=>nab e.symm),pb,fun e=>nab e.symm,la,lb,hx2,τ6,S5,((ps3).far f8 (fun j e=>by rw[e,tta];omega)).far f9 (fun j e=>by rw[e,ttb];omega),⟨(pk3.fr.join f8 (fun j hj e=>by omega)).join f9 (fun j hj e=>by omega),pk3.tg⟩,p3,p5,ttb⟩;replace hR:=hid hR;clear S8 S9 pa pb f8 f9 p6 p5 p1 p2 p3 hx2;go_simp;go_wp2_with fail
          go_meet;exact hR.out
        · refine wp_newO V1 (V1.heap.size) rfl rfl run_newb ?_;intro V2 k2 ob2;have lb:W5.heap.size≤V1.heap.size:=sw1;have S2:=S1.calm k2;refine⟨S2,?_⟩;go_simp;have qa2:=oa1.calm k2;have c2:=c1.trans k2;have sw2:W5.heap.size≤V2.heap.size:=c2.size;refine tree_step rfl rfl ?_;have oc:=oS.out V2 c2;simp only[thV,rg] at oc ⊢;go_wp2_with fail
          refine oc.mono ?_;rintro en V3 ⟨x2,k,ee,v,rfl,hx2,τ5,S5,p1,p2,p3,p5⟩;clear oc;obtain⟨τ6,p6,tk6,fr6⟩:=p1.fresh;have S3:=S2.fr p2.fr (by rw[tmp];omega) (by rw[ttg];omega) (by rw[fr2 _ (Nat.le_refl _)];omega);refine⟨S3,?_⟩;have pk3:=((KeepT.calm τ2 c2).trans p2).toTag tk6;have sw3:W5.heap.size≤V3.heap.size:=pk3.size;have hba:W5.heap.size<V2.heap.size:=qa2.lt (by simp);have hta:τ2 (W5.heap.size)=1000:=fr2 _ (by omega);have qa3:=p2.ownL qa2 (by rw[hta];omega);have tta:τ6 (W5.heap.size)=1000:=(tk6 _ (Nat.lt_of_lt_of_le hba p2.size)).trans ((p2.tg _ hba).trans hta);have hbb:V1.heap.size<V2.heap.size:=ob2.lt (by simp);have htb:τ2 (V1.heap.size)=1000:=fr2 _ (by omega);have qb3:=p2.ownL ob2 (by rw[htb];omega);have ttb:τ6 (V1.heap.size)=1000:=(tk6 _ (Nat.lt_of_lt_of_le hbb p2.size)).trans ((p2.tg _ hbb).trans htb);refine tree_read (.tuple #[thV x2,acV k ee v]) rfl rfl (fun w' hw'=>?_) (fun _ _ _ h=>h) ?_
          · simp[go_sem,thV,acV,rg]
          refine tree_read (thV x2) rfl rfl (fun w' hw'=>?_) (fun _ _ _ h=>h) ?_
          · simp[go_sem]
          refine tree_read (acV k ee v) rfl rfl (fun w' hw'=>?_) (fun _ _ _ h=>h) ?_
          · simp[go_sem]
          have la2:W5.heap.size<V3.heap.size:=qa3.lt (by simp);have lb2:V1.heap.size<V3.heap.size:=qb3.lt (by simp);have nab:¬(V1.heap.size=W5.heap.size):=(by have h7:=oa1.lt (by simp);omega);refine tree_step rfl rfl ?_;refine wp_storeO _ _ _ rfl (W5.heap.size) (thC x2).toArray (by rfl) (by rfl) qa3 rfl (by kernel_rfl) (thC_one x2) ?_;intro v8 pa f8;have S8:=S3.fr f8 (by omega) (by omega) (by omega);refine⟨S8,?_⟩;refine tree_step rfl rfl ?_;refine wp_storeO _ _ _ rfl (V1.heap.size) #[vI k,vI ee,vI v] (by rfl) (by rfl) (qb3.fr f8 nab) rfl (by kernel_rfl) (by simp[Value.oneCell']) ?_;intro v9 pb f9;have S9:=S8.fr f9 (by omega) (by omega) (by omega);refine⟨S9,tree_fin ?_⟩;have hR:StpR W5 τ2 s q S (Q.getD t []) x (pV (W5.heap.size)) (pV (V1.heap.size)) v9:=⟨_,_,x2,k,ee,v,rfl,rfl,pa.fr f9 (fun e=>nab e.symm),pb,fun e=>nab e.symm,la,lb,hx2,τ6,S5,((p6).far f8 (fun j e=>by rw[e,tta];omega)).far f9 (fun j e=>by rw[e,ttb];omega),⟨(pk3.fr.join f8 (fun j hj e=>by omega)).join f9 (fun j hj e=>by omega),pk3.tg⟩,p3,p5,ttb⟩;replace hR:=hid hR;clear S8 S9 pa pb f8 f9 p6 p5 p1 p2 p3 hx2;go_simp;go_wp2_with fail
          go_meet;exact hR.out
      · refine wp_newO W5.drew (W5.heap.size) rfl rfl run_newb ?_;intro V1 k1 ob1;have lb:W5.heap.size≤W5.heap.size:=Nat.le_refl _;have S1:=SD.calm k1;refine⟨S1,?_⟩;go_simp;have c1:=kd.trans k1;have sw1:W5.heap.size≤V1.heap.size:=c1.size;refine tree_any ?_;refine tree_alt1 rfl rfl ?_ (tree_alt1 rfl rfl ?_ tree_stop)
        · have oc:=oS.out V1 c1;simp only[thV,rg] at oc ⊢;go_wp2_with fail
          refine oc.mono ?_;rintro en V2 ⟨x2,k,ee,v,rfl,hx2,τ5,S5,p1,p2,p3,p5⟩;clear oc;obtain⟨τ6,p6,tk6,fr6⟩:=p1.fresh;have S2:=S1.fr p2.fr (by rw[tmp];omega) (by rw[ttg];omega) (by rw[fr2 _ (Nat.le_refl _)];omega);refine⟨S2,?_⟩;have pk2:=((KeepT.calm τ2 c1).trans p2).toTag tk6;have sw2:W5.heap.size≤V2.heap.size:=pk2.size;have hbb:W5.heap.size<V1.heap.size:=ob1.lt (by simp);have htb:τ2 (W5.heap.size)=1000:=fr2 _ (by omega);have qb2:=p2.ownL ob1 (by rw[htb];omega);have ttb:τ6 (W5.heap.size)=1000:=(tk6 _ (Nat.lt_of_lt_of_le hbb p2.size)).trans ((p2.tg _ hbb).trans htb);refine tree_read (.tuple #[thV x2,acV k ee v]) rfl rfl (fun w' hw'=>?_) (fun _ _ _ h=>h) ?_
          · simp[go_sem,thV,acV,rg]
          refine tree_read (thV x2) rfl rfl (fun w' hw'=>?_) (fun _ _ _ h=>h) ?_
          · simp[go_sem]
          refine tree_read (acV k ee v) rfl rfl (fun w' hw'=>?_) (fun _ _ _ h=>h) ?_
          · simp[go_sem]
          refine tree_step rfl rfl ?_;refine wp_newO V2 (V2.heap.size) rfl rfl run_newa ?_;intro V3 k3 oa3;have la:W5.heap.size≤V2.heap.size:=sw2;have S3:=S2.calm k3;refine⟨S3,?_⟩;go_simp;have qb3:=qb2.calm k3;have ps3:=p6.calm k3;have pk3:=pk2.trans (KeepT.calm τ6 k3);have tta:τ6 (V2.heap.size)=1000:=fr6 _ (Nat.le_refl _);have sl3:V2.heap.size≤V3.heap.size:=Nat.le_trans (Nat.le_refl _) k3.size;have sw3:W5.heap.size≤V3.heap.size:=pk3.size;have la2:V2.heap.size<V3.heap.size:=oa3.lt (by simp);have lb2:W5.heap.size<V3.heap.size:=qb3.lt (by simp);have nab:¬(W5.heap.size=V2.heap.size):=(by have h7:=qb2.lt (by simp);omega);refine tree_step rfl rfl ?_;refine wp_storeO _ _ _ rfl (V2.heap.size) (thC x2).toArray (by rfl) (by rfl) oa3 rfl (by kernel_rfl) (thC_one x2) ?_;intro v8 pa f8;have S8:=S3.fr f8 (by omega) (by omega) (by omega);refine⟨S8,?_⟩;refine tree_step rfl rfl ?_;refine wp_storeO _ _ _ rfl (W5.heap.size) #[vI k,vI ee,vI v] (by rfl) (by rfl) (qb3.fr f8 nab) rfl (by kernel_rfl) (by simp[Value.oneCell']) ?_;intro v9 pb f9;have S9:=S8.fr f9 (by omega) (by omega) (by omega);refine⟨S9,tree_fin ?_⟩;have hR:StpR W5 τ2 s q S (Q.getD t []) x (pV (V2.heap.size)) (pV (W5.heap.size)) v9:=⟨_,_,x2,k,ee,v,rfl,rfl,pa.fr f9 (fun e=>nab e.symm),pb,fun e=>nab e.symm,la,lb,hx2,τ6,S5,((ps3).far f8 (fun j e=>by rw[e,tta];omega)).far f9 (fun j e=>by rw[e,ttb];omega),⟨(pk3.fr.join f8 (fun j hj e=>by omega)).join f9 (fun j hj e=>by omega),pk3.tg⟩,p3,p5,ttb⟩;replace hR:=hid hR;clear S8 S9 pa pb f8 f9 p6 p5 p1 p2 p3 hx2;go_simp;go_wp2_with fail
          go_meet;exact hR.out
        · refine wp_newO V1 (V1.heap.size) rfl rfl run_newa ?_;intro V2 k2 oa2;have la:W5.heap.size≤V1.heap.size:=sw1;have S2:=S1.calm k2;refine⟨S2,?_⟩;go_simp;have qb2:=ob1.calm k2;have c2:=c1.trans k2;have sw2:W5.heap.size≤V2.heap.size:=c2.size;refine tree_step rfl rfl ?_;have oc:=oS.out V2 c2;simp only[thV,rg] at oc ⊢;go_wp2_with fail
          refine oc.mono ?_;rintro en V3 ⟨x2,k,ee,v,rfl,hx2,τ5,S5,p1,p2,p3,p5⟩;clear oc;obtain⟨τ6,p6,tk6,fr6⟩:=p1.fresh;have S3:=S2.fr p2.fr (by rw[tmp];omega) (by rw[ttg];omega) (by rw[fr2 _ (Nat.le_refl _)];omega);refine⟨S3,?_⟩;have pk3:=((KeepT.calm τ2 c2).trans p2).toTag tk6;have sw3:W5.heap.size≤V3.heap.size:=pk3.size;have hbb:W5.heap.size<V2.heap.size:=qb2.lt (by simp);have htb:τ2 (W5.heap.size)=1000:=fr2 _ (by omega);have qb3:=p2.ownL qb2 (by rw[htb];omega);have ttb:τ6 (W5.heap.size)=1000:=(tk6 _ (Nat.lt_of_lt_of_le hbb p2.size)).trans ((p2.tg _ hbb).trans htb);have hba:V1.heap.size<V2.heap.size:=oa2.lt (by simp);have hta:τ2 (V1.heap.size)=1000:=fr2 _ (by omega);have qa3:=p2.ownL oa2 (by rw[hta];omega);have tta:τ6 (V1.heap.size)=1000:=(tk6 _ (Nat.lt_of_lt_of_le hba p2.size)).trans ((p2.tg _ hba).trans hta);refine tree_read (.tuple #[thV x2,acV k ee v]) rfl rfl (fun w' hw'=>?_) (fun _ _ _ h=>h) ?_
          · simp[go_sem,thV,acV,rg]
          refine tree_read (thV x2) rfl rfl (fun w' hw'=>?_) (fun _ _ _ h=>h) ?_
          · simp[go_sem]
          refine tree_read (acV k ee v) rfl rfl (fun w' hw'=>?_) (fun _ _ _ h=>h) ?_
          · simp[go_sem]
          have la2:V1.heap.size<V3.heap.size:=qa3.lt (by simp);have lb2:W5.heap.size<V3.heap.size:=qb3.lt (by simp);have nab:¬(W5.heap.size=V1.heap.size):=(by have h7:=ob1.lt (by simp);omega);refine tree_step rfl rfl ?_;refine wp_storeO _ _ _ rfl (V1.heap.size) (thC x2).toArray (by rfl) (by rfl) qa3 rfl (by kernel_rfl) (thC_one x2) ?_;intro v8 pa f8;have S8:=S3.fr f8 (by omega) (by omega) (by omega);refine⟨S8,?_⟩;refine tree_step rfl rfl ?_;refine wp_storeO _ _ _ rfl (W5.heap.size) #[vI k,vI ee,vI v] (by rfl) (by rfl) (qb3.fr f8 nab) rfl (by kernel_rfl) (by simp[Value.oneCell']) ?_;intro v9 pb f9;have S9:=S8.fr f9 (by omega) (by omega) (by omega);refine⟨S9,tree_fin ?_⟩;have hR:StpR W5 τ2 s q S (Q.getD t []) x (pV (V1.heap.size)) (pV (W5.heap.size)) v9:=⟨_,_,x2,k,ee,v,rfl,rfl,pa.fr f9 (fun e=>nab e.symm),pb,fun e=>nab e.symm,la,lb,hx2,τ6,S5,((p6).far f8 (fun j e=>by rw[e,tta];omega)).far f9 (fun j e=>by rw[e,ttb];omega),⟨(pk3.fr.join f8 (fun j hj e=>by omega)).join f9 (fun j hj e=>by omega),pk3.tg⟩,p3,p5,ttb⟩;replace hR:=hid hR;clear S8 S9 pa pb f8 f9 p6 p5 p1 p2 p3 hx2;go_simp;go_wp2_with fail
          go_meet;exact hR.out
    case rest=>
      replace hcut:=hid hcut;go_upto_region 5 with fail
      obtain⟨B6,B7,x2,k,ee,v,rfl,rfl,p6,p7,nb,la,lb,hx2,τx,Sx,hst,KT,hfix,hdd,tb7⟩:=hcut.out;clear hcut;have h5':=h5.out;have tB5:τ2 w1.heap.size=1000:=fr2 _ (Nat.le_refl _);have hlt5:w1.heap.size<W5.heap.size:=hsW;have q5:=KT.ownL oA (by rw[tB5];omega);have p45':=p45.out;have q4:=KT.ownL p45' (by rw[t42];omega);have hlt4:w.heap.size<W5.heap.size:=p45'.lt (by simp);have tx5:τx w1.heap.size=1000:=(KT.tg _ hlt5).trans tB5;have tx4:τx w.heap.size=1000:=(KT.tg _ hlt4).trans t42;have hmx:Mc wc τx (s+1) q mp Sx Q tv hv ev X:=⟨hst,by rw[hfix.sp];exact h5'.r.keep KT.w⟩;have Kx:=K05.out.trans KT.w.m;have hrx:=hmx.r.h;rw[hv2.out,hN'.out] at hrx;have y2:wc.cell? ⟨mp,2,none⟩=some (.slice (some ⟨g',0,none⟩) N gc'):=by rw[←hv2.out];exact(hmx.r.c 2 _ rfl).1
      have gin:InB hv g':=by rw[hv2.out];exact InB.mk.2 rfl
      have tg':τx g'=601:=hmx.r.t1 g' gin;have hgl:g'<W5.heap.size:=(World.ownsRow.lt h5'.r.h g' gin).2;have ng7:¬(B7=g'):=fun e=>by rw[e,tg'] at tb7;omega
      have ng5:¬(w1.heap.size=g'):=fun e=>by rw[e,tg'] at tx5;omega
      have ng4:¬(w.heap.size=g'):=fun e=>by rw[e,tg'] at tx4;omega
      have n75:¬(B7=w1.heap.size):=by omega
      have n74:¬(B7=w.heap.size):=by omega
      have kdx:Calm wc wc.drew:=(Fr.refl _ _).drew;replace hmx:=hid (hmx.calm kdx);replace hrx:=owns_frB hrx kdx (fun _ _=>id);replace Kx:=hid (Kx.trans (KeepM.calm τx kdx));replace hdd:=hid hdd;replace hx2:=hid hx2;clear hst KT hfix h5 h5' p45 p45' oA K05;refine wp_region_mix [(true,0),(true,1),(true,2),(true,3),(true,4),(true,5),(true,6),(false,7)] (fun w'=>w'.cell? ⟨mp,2,none⟩=some (.slice (some ⟨g',0,none⟩) N gc')∧OwnL w' B6 (thC x2)) (by kernel_rfl) (by kernel_rfl) ⟨y2,p6⟩ ?_;refine mix_read (pV mp) rfl rfl (fun w' hw'=>?_) (fun _ _ _ h=>h) ?_
      · simp[go_sem]
      refine mix_read (pV mp) rfl rfl (fun w' hw'=>?_) (fun _ _ _ h=>h) ?_
      · simp[go_sem]
      refine mix_read (.pointer (some ⟨mp,2,none⟩)) rfl rfl (fun w' hw'=>?_) (fun _ _ _ h=>h) ?_
      · simp[go_sem]
      refine mix_read (.slice (some ⟨g',0,none⟩) N gc') rfl rfl (fun w' hw'=>?_) (fun _ _ _ h=>h) ?_
      · simp[go_sem,hw'.1]
      refine mix_read (vI (t:Int)) rfl rfl (fun w' hw'=>?_) (fun _ _ _ h=>h) ?_
      · simp[go_sem]
      refine mix_read (thV x2) rfl rfl (fun w' hw'=>?_) (fun _ _ _ h=>h) ?_
      · have o:=hw'.2;simp only[thC,rg] at o;obtain⟨y0,y1,y2,y3,y4,y5,y6,y7,y8,y9,y10,y11,y12,y13,y14⟩:=OwnL.ce15 o;simp[go_sem,thV,rg,y0,y1,y2,y3,y4,y5,y6,y7,y8,y9,y10,y11,y12,y13,y14]
      refine mix_read (.pointer (some ⟨g',t*15,none⟩)) rfl rfl (fun w' hw'=>?_) (fun _ _ _ h=>h) ?_
      · simp[go_sem,htN]
      go_simp;refine mix_step rfl rfl ?_;refine wp_storeRow _ _ rfl (z:=x2) (by rfl) (by rfl) hrx hN'.out htN ?_;intro w9 hrow9 f9;have hM9:=hmx.out.thr ht (x':=x2) (by rw[hv2.out,hN'.out];exact hrow9) hx2.out (f9.mono (fun b _ e=>by rw[e];exact gin));have K9:=Kx.out.trans hM9.2;have p79:=(p7.calm kdx).fr f9 ng7;have q59:=(q5.calm kdx).fr f9 ng5;have q49:=(q4.calm kdx).fr f9 ng4
      have y29:=(f9.cellAt y2 (fun e=>by have h1:=hM9.1.r.t0;have h2:τx mp=601:=by rw[show mp=g' from e];exact tg'
                                         omega))
      have hM9':=hid hM9.1;replace K9:=hid K9;refine⟨⟨y29,p6.calm kdx |>.fr f9 (fun e=>by have h1:B6=g':=e;omega)⟩,mix_end ?_⟩;clear hM9 hrow9 f9 hrx p6 p7 q5 q4 y2 y29 hmx Kx;go_simp;have on9:=hid (mnote_is hM9'.out (t:Int) x.b x.p k ee v);obtain⟨z0,z1,z2⟩:=OwnL.ce3 p79
      by_cases hk:k=0
      · subst hk;have T1:=q49.whole (us:=[vI 0,vI ee,vI v]) rfl;have F1:=frC w9 (w.heap.size) 0 [vI 0,vI ee,vI v]
        have hP:MsP w τ s q mp S Q tv hv X t (.returned (acV 0 ee v)) (w9.setCells w.heap.size 0 [vI 0,vI ee,vI v]):=
          ⟨0,ee,v,rfl,τx,Sx,ev,x2,hM9'.out.own F1 (fun b hb=>by rw[hb,tx4];omega),K9.out.own F1 (fun b hb=>by omega),fun e=>by omega⟩
        replace hP:=hid hP;replace T1:=hid T1;obtain⟨y0,zz0,y1,zz1,y2,zz2⟩:=OwnL.cf3 q49;clear F1 q49 p79 q59 on9;go_wp2;exact bodyPost_ret (res_c (i:=4) rfl rfl T1.out) rfl hP.out
      · have hk1:(k==0)=false:=by simp[hk]
        replace hk:=hid hk;go_upto_region 7 with fail
        obtain⟨y0,y1⟩:=OwnL.ce2 q59;refine wp_region_mix [(true,0),(true,1),(true,2),(true,3),(true,4),(true,5),(true,6),(true,7),(true,8),(true,9),(false,10)] (fun w'=>w'.cell? ⟨w1.heap.size,0,none⟩=some (vI x.b)∧w'.cell? ⟨w1.heap.size,1,none⟩=some (vI x.p)∧w'.cell? ⟨B7,0,none⟩=some (vI k)∧w'.cell? ⟨B7,1,none⟩=some (vI ee)∧w'.cell? ⟨B7,2,none⟩=some (vI v)) (by kernel_rfl) (by kernel_rfl) ⟨y0,y1,z0,z1,z2⟩ ?_;refine mix_read (pV mp) rfl rfl (fun w' hw'=>?_) (fun _ _ _ h=>h) ?_
        · simp[go_sem]
        refine mix_read (pV mp) rfl rfl (fun w' hw'=>?_) (fun _ _ _ h=>h) ?_
        · simp[go_sem]
        refine mix_read (.pointer (some ⟨mp,3,none⟩)) rfl rfl (fun w' hw'=>?_) (fun _ _ _ h=>h) ?_
        · simp[go_sem]
        refine mix_read (vI (t:Int)) rfl rfl (fun w' hw'=>?_) (fun _ _ _ h=>h) ?_
        · simp[go_sem]
        refine mix_read (.pointer (some ⟨w1.heap.size,0,none⟩)) rfl rfl (fun w' hw'=>?_) (fun _ _ _ h=>h) ?_
        · simp[go_sem]
        refine mix_read (vI x.b) rfl rfl (fun w' hw'=>?_) (fun _ _ _ h=>h) ?_
        · simp[go_sem,hw'.1]
        refine mix_read (.pointer (some ⟨w1.heap.size,1,none⟩)) rfl rfl (fun w' hw'=>?_) (fun _ _ _ h=>h) ?_
        · simp[go_sem]
        refine mix_read (vI x.p) rfl rfl (fun w' hw'=>?_) (fun _ _ _ h=>h) ?_
        · simp[go_sem,hw'.2.1]
        refine mix_read (acV k ee v) rfl rfl (fun w' hw'=>?_) (fun _ _ _ h=>h) ?_
        · simp[go_sem,acV,hw'.2.2.1,hw'.2.2.2.1,hw'.2.2.2.2]
        refine mix_read (.agg #[vI (t:Int),vI x.b,vI x.p,vI k,vI ee,vI v]) rfl rfl (fun w' hw'=>?_) (fun _ _ _ h=>h) ?_
        · simp[go_sem,acV]
        go_simp;refine mix_step rfl rfl ?_;have kd9:Calm w9 w9.drew:=(Fr.refl _ _).drew;have oN:=mnote_is (hM9'.out.calm kd9) (t:Int) x.b x.p k ee v;replace K9:=hid (K9.out.trans (KeepM.calm τx kd9));replace q49:=q49.calm kd9;replace p79:=p79.calm kd9;clear on9;go_wp2_with fail
        refine oN.mono ?_;rintro en w10 ⟨rfl,τ',ev',hN,tk',KN⟩;clear oN;have q4n:=q49.fr KN.fr (by rw[tx4];omega);have p7n:=p79.fr KN.fr (by rw[tb7];omega);have y0n:=KN.fr.cellAt y0 (by show ¬(τx w1.heap.size<603);rw[tx5];omega);have y1n:=KN.fr.cellAt y1 (by show ¬(τx w1.heap.size<603);rw[tx5];omega);have hl4:w.heap.size<w9.drew.heap.size:=q49.lt (by simp);have T1:=q4n.whole (us:=[vI k,vI ee,vI v]) rfl;have F1:=frC w10 (w.heap.size) 0 [vI k,vI ee,vI v]
        have hP:MsP w τ s q mp S Q tv hv X t (.returned (acV k ee v)) (w10.setCells w.heap.size 0 [vI k,vI ee,vI v]):=
          ⟨k,ee,v,rfl,τ',Sx,ev',x2,hN.own F1 (fun b hb=>by rw[hb,tk' _ hl4,tx4];omega),(K9.out.trans KN).own F1 (fun b hb=>by omega),fun e=>by rw[hx.out];exact hdd.out e⟩
        replace hP:=hid hP;replace T1:=hid T1;obtain⟨zn0,zn1,zn2⟩:=OwnL.ce3 p7n;obtain⟨yy0,zz0,yy1,zz1,yy2,zz2⟩:=OwnL.cf3 q4n;refine⟨⟨y0n,y1n,zn0,zn1,zn2⟩,mix_end ?_⟩;clear F1 hN KN q49 p79 q59 q4n p7n y0n y1n K9 hM9' y0 y1 z0 z1 z2;go_simp;go_wp2;exact bodyPost_ret (res_c (i:=4) rfl rfl T1.out) rfl hP.out
end
end Go.Proofs.YtdffnjikmkgjkaaGreat
