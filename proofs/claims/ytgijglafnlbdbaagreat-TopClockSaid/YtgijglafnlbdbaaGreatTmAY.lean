import Derived.Test.YtgijglafnlbdbaaGreatTmAW
set_option linter.all false
set_option maxHeartbeats 16000000
set_option maxRecDepth 8000
namespace Go.Proofs.YtgijglafnlbdbaaGreat
open RowKit Shelf Proofs.Tryz
open Go renaming World->aj,Value->aC,Calls->aL
section
variable {w:aj}{τ:Nat->Nat}{s mp:Nat}{S:aY}{Q:List (List (List Dd))}{tv hv:aC}{ev:Eh}{X:List bT}
theorem Mc.Yz{w':aj}(h:Mc w τ s mp S Q tv hv ev X){t:Nat}(ht:t<X.length){x':bT}(hr:w'.ownsRow 0 31 15 hv X.length ((X.set t x').flatMap bq))(hx:kG (Q.getD t []).length x')(f:Fr (aB hv) w w'):Mc w' τ s mp S Q tv hv ev (X.set t x')/\eQ w τ w' τ:=by
 obtain⟨EI,EP⟩:=h.r.e;have tS:∀b,aB hv b->τ b=601:=h.r.t1;refine⟨⟨h.st.jC f (λb hb=>by rw[tS b hb];omega),⟨h.r.c.fr f (λe=>by have:=tS mp e;have:=h.r.t0;omega),by rw[bE];exact hr,⟨az EI f (λb hb e=>by have:=tS b e;rw[h.r.t2 b hb] at this;omega),EP⟩,h.r.p.fr f (λb e e2=>by have:=tS b e2;omega),h.r.t0,h.r.t1,h.r.t2,by rw[bE];exact h.r.n,λj hj=>?_,h.r.pk⟩⟩,⟨f.mono (λk _ e=>by rw[tS k e];omega),λ_ _ _=>rfl⟩⟩;rw[bE] at hj
 by_cases e:j=t
 ·subst e;rw[qN hj];exact hx
 ·rw[wW e];exact h.r.ok j hj
theorem Mc.own{A:Nat->Prop}{w':aj}(h:Mc w τ s mp S Q tv hv ev X)(f:Fr A w w')(hA:∀b,A b->700<=τ b):Mc w' τ s mp S Q tv hv ev X:=by
 obtain⟨EI,EP⟩:=h.r.e;exact⟨h.st.jC f (λb hb=>by have:=hA b hb;omega),⟨h.r.c.fr f (λe=>by have:=hA mp e;have:=h.r.t0;omega),az h.r.h f (λb hb e=>by have:=hA b e;have:=h.r.t1 b hb;omega),⟨az EI f (λb hb e=>by have:=hA b e;have:=h.r.t2 b hb;omega),EP⟩,h.r.p.fr f (λb e e2=>by have:=hA b e2;omega),h.r.t0,h.r.t1,h.r.t2,h.r.n,h.r.ok,h.r.pk⟩⟩
theorem eQ.own{A:Nat->Prop}{w1 w2:aj}{gi:Nat->Nat}(h:eQ w τ w1 gi)(f:Fr A w1 w2)(hA:∀b,A b->w.heap.size<=b):eQ w τ w2 gi:=⟨h.fr.join f (λj hj e=>by have:=hA j e;omega),h.tg⟩
theorem B0{X:List bT}{t:Nat}(ht:t<X.length):X.set t (X.getD t d0)=X:=by
 apply List.ext_getElem?;intro j
 by_cases e:j=t
 ·subst e;rw[List.getElem?_set_self ht];simp[aS,ht]
 ·rw[List.getElem?_set_ne (by omega)]
theorem QJ{fn:Func}{i:Nat}{W:aj}{B:Nat}{k e v:Int}{tmps:Array aC}(hf:fn.results = #[.cell i 35])(h5:tmps[i]?.getD undef = aR B)(u:ag W B [vI k,vI e,vI v]):(results fn tmps).run prog W=.ok (cO k e v) W:=by
 obtain⟨z0,z1,z2⟩:=ag.sP u;simp[results,hf,h5,go_sem,cO,z0,z1,z2]
def YM(w:aj)(τ:Nat->Nat)(s mp:Nat)(S:aY)(Q:List (List (List Dd)))(tv hv:aC)(X:List bT)(H:List En)(t:Nat)(e:Ending)(w':aj):Prop:=
 ∃k ee v:Int,e=.returned (cO k ee v)/\∃aX S' ev' x',Mc w' aX (s+1) mp S' Q tv hv ev' (X.set t x')/\eQ w τ w' aX/\Fix S S'/\L6 S t (Q.getD t []) (X.getD t d0) x' k ee v S'/\ev'.H=if k=0 then H else H++[⟨t,(X.getD t d0).b,(X.getD t d0).p,k,ee,v⟩]
structure Ah(mp sp tg o B5:Nat)(tv u:aC)(x:bT)(w:aj):Prop where
 c0:w.cell? ⟨mp,0,none⟩=some (pV sp)
 c1:w.cell? ⟨mp,1,none⟩=some tv
 ct:w.cell? ⟨tg,o,none⟩=some u
 o5:ag w B5 (bq x)
theorem Ah.fr{A:Nat->Prop}{mp sp tg o B5:Nat}{tv u:aC}{x:bT}{w w':aj}(h:Ah mp sp tg o B5 tv u x w)(f:Fr A w w')(h1:¬A mp)(h2:¬A tg)(h3:¬A B5):Ah mp sp tg o B5 tv u x w':=⟨f.cellAt h.c0 h1,f.cellAt h.c1 h1,f.cellAt h.ct h2,h.o5.fr f h3⟩
theorem Ah.calm{mp sp tg o B5:Nat}{tv u:aC}{x:bT}{w w':aj}(h:Ah mp sp tg o B5 tv u x w)(c:Calm w w'):Ah mp sp tg o B5 tv u x w':=h.fr c id id id
theorem iq(w:aj)(B:Nat)(hB:w.heap.size=B){op:Oper}{a:Act}{K:Act->aj->Prop}{Q:Exit->Act->aj->Prop}{ty:TypeId}{zs:List aC}(ho:op.op=.alloc ty)(hr:∀w,(Instr.alloc ty true (.tuple #[])).run prog w=.ok (aR w.heap.size) (w.alloc (.cells zs.toArray ty)))
 (h:∀w',Calm w w'->ag w' B zs->K (a.put op.dst (aR B)) w'):op.wp prog a w K Q:=by
 subst hB;have h2:=h _ (aq.alloc _) (ag.new w zs ty);unfold Oper.wp;simp[execOp,ho,hr,Result.andThen];exact h2
theorem mA(w:aj):(Instr.alloc 31 true (.tuple #[])).run prog w=.ok (aR w.heap.size) (w.alloc (.cells [vI 0,vI 0,vI 0,vI 0,vI 0,vI 0,vI 0,vI 0,vI 0,vI 0,vI 0,vI 0,vI 0,vI 0,.bool false].toArray 31)):=by simp[go_sem]
theorem mB(w:aj):(Instr.alloc 35 true (.tuple #[])).run prog w=.ok (aR w.heap.size) (w.alloc (.cells [vI 0,vI 0,vI 0].toArray 35)):=by simp[go_sem]
def CE(W:aj)(eY:Nat->Nat)(s:Nat)(S:aY)(t:Nat)(P:List (List Dd))(x:bT)(s6 s7:aC)(wx:aj):Prop:=
 ∃B6 B7 x2 k ee v,s6=pV B6/\s7=pV B7/\ag wx B6 (bq x2)/\ag wx B7 [vI k,vI ee,vI v]/\B6≠B7/\W.heap.size<=B6/\W.heap.size<=B7/\kG P.length x2/\∃FI Sx,St wx FI (s+1) Sx/\aF W eY wx FI/\Fix S Sx/\L6 S t P x x2 k ee v Sx/\FI B7=1000
theorem Km(h:Mc w τ s mp S Q tv hv ev X)(hs:s<100000){t:Nat}(ht:t<X.length)(UK:t<S.bB.length)(EW:(X.getD t d0).live=(S.tx t).live)(nH:wL S (X.getD t d0))(oL:(S.tx t).live=true->(S.now:Int)<S.aW)(R4:ev.H.length<2000):aL prog 9 #[pV mp,vI (t:Int)] w (YM w τ s mp S Q tv hv X ev.H t):=by
 obtain⟨τ0,hF,YA,YU⟩:=h.fresh;obtain⟨ka,o4⟩:=gL w [vI 0,vI 0,vI 0] 35;obtain⟨W0,gS⟩:=au (w.alloc (.cells #[vI 0,vI 0,vI 0] 35));rw[gS] at ka o4;have Su:W0.heap.size=w.heap.size+1:=by rw[<-gS];simp
 have h0:=hF.calm ka;have K0:eQ w τ W0 τ0:=⟨ka.any,λb hb e=>YA b hb⟩;have t4:τ0 w.heap.size=1000:=YU _ (aM _);have of:=Kk h0;obtain⟨N,hN⟩:=au X.length;have hN4:N<=4:=by rw[<-hN,h.r.n];exact h.r.pk.n.2
 obtain⟨g,gc,zU,hg⟩:=zy h0.r.h ht;rw[hN] at zU;have y2:W0.cell? ⟨mp,2,none⟩=some (.slice (some ⟨g,0,none⟩) N gc):=by rw[<-zU];exact(h0.r.c 2 _ rfl).1
 have dt0:decide ((t:Int)<0)=false:=decide_eq_false (by omega);have dt1:decide (N<=t)=false:=decide_eq_false (by omega);have zS:t<N:=by omega
 have hXs:=B0 ht;have ab3:=af zU;have Ji:=af hN;have hF':=af hF;have h0':=af h0;clear h hF h0 hg zU hN YA ka;replace K0:=af K0;replace EW:=af EW;replace nH:=af nH;replace oL:=af oL;replace UK:=af UK;replace R4:=af R4;go_in;go_wp2_with fail
 refine of.mono ?_;rintro en w1 ⟨rfl,gi,h1,t1,K1⟩;obtain⟨b,Wr⟩:=au (decide ((2000:Int)<=(ev.H.length:Int)));rw[Wr];replace Wr:=af Wr;clear of;have zO:w.heap.size<W0.heap.size:=by omega
 have t41:gi w.heap.size=1000:=(t1 _ zO).trans t4;have p4:=o4.fr K1.fr (by rw[t4];omega);have Z3:=K0.out.trans K1
 cases b with
 | true=>exact absurd (of_decide_eq_true Wr.out) (by have:=R4.out;omega)
 | false=>
   obtain⟨eY,Ul,tk2,Hx⟩:=h1.fresh;have Z4:eQ w τ w1 eY:=⟨Z3.fr,λb hb e=>(tk2 b (by have h5:=K1.fr.size;omega)).trans (Z3.tg b hb e)⟩;have t42:eY w.heap.size=1000:=(tk2 _ (by have h5:=K1.fr.size;omega)).trans t41;obtain⟨g',YV,eC,hg⟩:=zy Ul.r.h ht;rw[Ji.out] at eC;have y2:w1.cell? ⟨mp,2,none⟩=some (.slice (some ⟨g',0,none⟩) N YV):=by rw[<-eC];exact(Ul.r.c 2 _ rfl).1
   have df:=Ul.r.ok t ht;obtain⟨x,hx⟩:=au (X.getD t d0);rw[hx] at hg df hXs;have gY:∀j u,(bq x)[j]?=some u->w1.cell? ⟨g',t*15+j,none⟩=some u:=λj u hu=>(hg j u hu).1;have e0:=gY 0 _ rfl;have e1:=gY 1 _ rfl;have e2:=gY 2 _ rfl;have e3:=gY 3 _ rfl;have e4:=gY 4 _ rfl;have e5:=gY 5 _ rfl;have e6:=gY 6 _ rfl;have e7:=gY 7 _ rfl;have e8:=gY 8 _ rfl;have e9:=gY 9 _ rfl;have VK:=gY 10 _ rfl;have VL:=gY 11 _ rfl;have VM:=gY 12 _ rfl;have Rj:=gY 13 _ rfl;have Rk:=gY 14 _ rfl;rw[fj] at e0;simp only[rg] at e2 e3 e4 e5 e6 e7 e8 e9 VK VL VM Rj;have kA:Calm w1 (w1.alloc (.cells #[vI x.b,vI x.p,rg x.R 0,rg x.R 1,rg x.R 2,rg x.R 3,rg x.R 4,rg x.R 5,rg x.V 0,rg x.V 1,rg x.V 2,rg x.V 3,rg x.V 4,rg x.V 5,.bool x.live] 31)):=aq.alloc _;have oA:ag (w1.alloc (.cells #[vI x.b,vI x.p,rg x.R 0,rg x.R 1,rg x.R 2,rg x.R 3,rg x.R 4,rg x.R 5,rg x.V 0,rg x.V 1,rg x.V 2,rg x.V 3,rg x.V 4,rg x.V 5,.bool x.live] 31)) w1.heap.size (bq x):=ag.lI w1 [_,_,_,_,_,_,_,_,_,_,_,_,_,_,_] _ _ rfl;have UH:(w1.alloc (.cells #[vI x.b,vI x.p,rg x.R 0,rg x.R 1,rg x.R 2,rg x.R 3,rg x.R 4,rg x.R 5,rg x.V 0,rg x.V 1,rg x.V 2,rg x.V 3,rg x.V 4,rg x.V 5,.bool x.live] 31)).heap.size=w1.heap.size+1:=by simp
   simp only[rg,aS] at kA oA UH;replace df:=af df;replace hx:=af hx;replace eC:=af eC;replace hXs:=af hXs;replace p4:=af p4;replace Z4:=af Z4;replace Ul:=af Ul;clear h1 K1 Z3 hg gY;go_upto_region 4 with fail
   generalize mW:w1.alloc (.cells #[vI x.b,vI x.p,vI ((x.R[0]?.getD 0:Nat):Int),vI ((x.R[1]?.getD 0:Nat):Int),vI ((x.R[2]?.getD 0:Nat):Int),vI ((x.R[3]?.getD 0:Nat):Int),vI ((x.R[4]?.getD 0:Nat):Int),vI ((x.R[5]?.getD 0:Nat):Int),vI ((x.V[0]?.getD 0:Nat):Int),vI ((x.V[1]?.getD 0:Nat):Int),vI ((x.V[2]?.getD 0:Nat):Int),vI ((x.V[3]?.getD 0:Nat):Int),vI ((x.V[4]?.getD 0:Nat):Int),vI ((x.V[5]?.getD 0:Nat):Int),.bool x.live] 31)=W5 at *;have hsW:w1.heap.size<W5.heap.size:=by omega
   clear UH;clear mW e0 e1 e2 e3 e4 e5 e6 e7 e8 e9 VK VL VM Rj Rk y2;have h5:=Ul.out.calm kA;obtain⟨ta,tc,qx,xf⟩:=h5.r.p;have xg:t<Q.length:=by rw[<-h5.r.n];exact ht
   obtain⟨tg,TP,u,Mn,YE,kL,P8⟩:=xf t xg;subst Mn;have Uv:=h5.r.pk;have S0:Ah mp S.sp tg (TP+t) w1.heap.size (.slice (some ⟨tg,TP,none⟩) Q.length tc) u x W5:=⟨(h5.r.c 0 _ rfl).1,by rw[<-qx];exact(h5.r.c 1 _ rfl).1,kL,oA⟩;have abM:mp<W5.heap.size:=h5.r.c.lt (by simp);have ab0:tg<W5.heap.size:=lM W5 ⟨tg,TP+t,none⟩ kL;have oS:Hid (∀W,Calm W5 W->aL prog 21 #[pV S.sp,vI (t:Int),u,bO x] W (Uf W eY s S t (Q.getD t []) x)):=λW c=>LR (h5.st.calm c) hs UK.out (P8.calm c) (by have:=Uv.b t xg;omega) (λb hb=>by have:=(Uv.d t xg b hb).2;omega) (Uv.r t xg) df.out (by rw[<-hx.out];exact EW.out) (by rw[<-hx.out];exact nH.out) oL.out;obtain⟨bu,bn,bc,hu⟩:∃bu bn bc,u=.slice bu bn bc:=by obtain⟨ba,bc,e,_⟩:=P8;exact⟨_,_,_,e⟩
   subst hu;have tmp:eY mp=600:=h5.r.t0;have Md:(Q.length:Int)<=4:=by have:=Uv.n.2;omega
   obtain⟨NQ,ji⟩:=au Q.length;rw[ji] at S0 xg Md;replace ji:=af ji;replace qx:=af qx;replace P8:=af P8;replace Uv:=af Uv;have Yf:=af (p4.out.calm kA);have K05:=af (Z4.out.trans (eQ.calm eY kA));clear xf kL kA;replace h5:=af h5
   go_cut [6,7] (λs6 s7 wx=>CE W5 eY s S t (Q.getD t []) x s6 s7 wx)
   case first=>
    have kd:Calm W5 W5.drew:=aq.drew;have SD:=S0.calm kd;refine d_ (Way.reads [0,1,2,3,4,5,6,7,8,9,10,11,12] (.any (.alt 13 (Way.reads [14,15,16] (.any (.alt 17 (.step 18 (.step 19 (.step 20 .fin))) (.alt 18 (.step 17 (.step 19 (.step 20 .fin))) .stop)))) (.alt 17 (.any (.alt 13 (Way.reads [14,15,16] (.step 18 (.step 19 (.step 20 .fin)))) (.alt 18 (.step 13 (Way.reads [14,15,16] (.step 19 (.step 20 .fin)))) .stop))) (.alt 18 (.any (.alt 13 (Way.reads [14,15,16] (.step 17 (.step 19 (.step 20 .fin)))) (.alt 17 (.step 13 (Way.reads [14,15,16] (.step 19 (.step 20 .fin)))) .stop))) .stop))))) (λw'=>Ah mp S.sp tg (TP+t) w1.heap.size (.slice (some ⟨tg,TP,none⟩) NQ tc) (.slice bu bn bc) x w') (by kernel_rfl) (by kernel_rfl) SD ?_;refine ay (pV mp) rfl rfl (λw' hw'=>?_) ai ?_
    ·simp[go_sem]
    refine ay (pV mp) rfl rfl (λw' hw'=>?_) ai ?_
    ·simp[go_sem]
    refine ay (aR mp) rfl rfl (λw' hw'=>?_) ai ?_
    ·simp[go_sem]
    refine ay (pV S.sp) rfl rfl (λw' hw'=>?_) ai ?_
    ·simp[go_sem,hw'.c0]
    refine ay (vI (t:Int)) rfl rfl (λw' hw'=>?_) ai ?_
    ·simp[go_sem]
    refine ay (pV mp) rfl rfl (λw' hw'=>?_) ai ?_
    ·simp[go_sem]
    refine ay (pV mp) rfl rfl (λw' hw'=>?_) ai ?_
    ·simp[go_sem]
    refine ay (.pointer (some ⟨mp,1,none⟩)) rfl rfl (λw' hw'=>?_) ai ?_
    ·simp[go_sem]
    refine ay (.slice (some ⟨tg,TP,none⟩) NQ tc) rfl rfl (λw' hw'=>?_) ai ?_
    ·simp[go_sem,hw'.c1]
    refine ay (vI (t:Int)) rfl rfl (λw' hw'=>?_) ai ?_
    ·simp[go_sem]
    refine ay (.pointer (some ⟨tg,TP+t,none⟩)) rfl rfl (λw' hw'=>?_) ai ?_
    ·simp[go_sem,xg]
    refine ay (.slice bu bn bc) rfl rfl (λw' hw'=>?_) ai ?_
    ·simp[go_sem,hw'.ct]
    refine ay (bO x) rfl rfl (λw' hw'=>?_) ai ?_
    ·have o:=hw'.o5;simp only[bq,rg] at o;obtain⟨y0,y1,y2,y3,y4,y5,y6,y7,y8,y9,lN,nB,nC,ko,kp⟩:=ag.nY o;simp[go_sem,bO,rg,y0,y1,y2,y3,y4,y5,y6,y7,y8,y9,lN,nB,nC,ko,kp]
    refine eX ?_;refine bC rfl rfl ?_ (bC rfl rfl ?_ (bC rfl rfl ?_ dI))
    ·have oc:=oS.out W5.drew kd;simp only[bO,rg] at oc ⊢;go_wp2_with fail
     refine oc.mono ?_;rintro en V1 ⟨x2,k,ee,v,rfl,dg,fB,S5,p1,p2,p3,p5⟩;clear oc;obtain⟨iX,p6,D_,ED⟩:=p1.fresh;have S1:=SD.fr p2.fr (by rw[tmp];omega) (by rw[YE];omega) (by rw[Hx _ (aM _)];omega);refine⟨S1,?_⟩;have pk1:=((aF.calm eY kd).trans p2).xN D_;have U2:W5.heap.size<=V1.heap.size:=pk1.size;refine ay (.tuple #[bO x2,cO k ee v]) rfl rfl (λw' hw'=>?_) ai ?_
     ·simp[go_sem,bO,cO,rg]
     refine ay (bO x2) rfl rfl (λw' hw'=>?_) ai ?_
     ·simp[go_sem]
     refine ay (cO k ee v) rfl rfl (λw' hw'=>?_) ai ?_
     ·simp[go_sem]
     refine eX ?_;refine bC rfl rfl ?_ (bC rfl rfl ?_ dI)
     ·refine iq V1 (V1.heap.size) rfl rfl mA ?_;intro V2 k2 X8;have la:W5.heap.size<=V1.heap.size:=U2;have S2:=S1.calm k2;refine⟨S2,?_⟩;go_simp;have ps2:=p6.calm k2;have KR:=pk1.trans (aF.calm iX k2);have LS:iX (V1.heap.size)=1000:=ED _ (aM _);have Ys:V1.heap.size<=V2.heap.size:=fH (aM _) k2.size;have Pf:W5.heap.size<=V2.heap.size:=KR.size;refine aI rfl rfl ?_;refine iq V2 (V2.heap.size) rfl rfl mB ?_;intro V3 k3 Ya;have lb:W5.heap.size<=V2.heap.size:=Pf;have S3:=S2.calm k3;refine⟨S3,?_⟩;go_simp;have KX:=X8.calm k3;have Tu:=ps2.calm k3;have uP:=KR.trans (aF.calm iX k3);have Ce:iX (V2.heap.size)=1000:=ED _ Ys;have sl3:V1.heap.size<=V3.heap.size:=fH Ys k3.size;have Yv:W5.heap.size<=V3.heap.size:=uP.size;have XF:V1.heap.size<V3.heap.size:=KX.lt (by simp);have XG:V2.heap.size<V3.heap.size:=Ya.lt (by simp);have uG:¬(V2.heap.size=V1.heap.size):=(by have h7:=X8.lt (by simp);omega);refine aI rfl rfl ?_;refine aN _ _ _ rfl (V1.heap.size) (bq x2).toArray (by rfl) (by rfl) KX rfl (by kernel_rfl) (eO x2) ?_;intro v8 pa f8;have S8:=S3.fr f8 (by omega) (by omega) (by omega);refine⟨S8,?_⟩;refine aI rfl rfl ?_;refine aN _ _ _ rfl (V2.heap.size) #[vI k,vI ee,vI v] (by rfl) (by rfl) (Ya.fr f8 uG) rfl (by kernel_rfl) (by simp[Value.oneCell']) ?_;intro v9 pb f9;have S9:=S8.fr f9 (by omega) (by omega) (by omega);refine⟨S9,cg ?_⟩;have hR:CE W5 eY s S t (Q.getD t []) x (pV (V1.heap.size)) (pV (V2.heap.size)) v9:=⟨_,_,x2,k,ee,v,rfl,rfl,pa.fr f9 (λe=>uG e.symm),pb,λe=>uG e.symm,la,lb,dg,iX,S5,((Tu).jC f8 (λj e=>by rw[e,LS];omega)).jC f9 (λj e=>by rw[e,Ce];omega),⟨(uP.fr.join f8 (λj hj e=>by omega)).join f9 (λj hj e=>by omega),uP.tg⟩,p3,p5,Ce⟩;replace hR:=af hR;clear S8 S9 pa pb f8 f9 p6 p5 p1 p2 p3 dg;go_simp;go_wp2_with fail
      go_meet;exact hR.out
     ·refine iq V1 (V1.heap.size) rfl rfl mB ?_;intro V2 k2 X_;have lb:W5.heap.size<=V1.heap.size:=U2;have S2:=S1.calm k2;refine⟨S2,?_⟩;go_simp;have ps2:=p6.calm k2;have KR:=pk1.trans (aF.calm iX k2);have Ce:iX (V1.heap.size)=1000:=ED _ (aM _);have Ys:V1.heap.size<=V2.heap.size:=fH (aM _) k2.size;have Pf:W5.heap.size<=V2.heap.size:=KR.size;refine aI rfl rfl ?_;refine iq V2 (V2.heap.size) rfl rfl mA ?_;intro V3 k3 X9;have la:W5.heap.size<=V2.heap.size:=Pf;have S3:=S2.calm k3;refine⟨S3,?_⟩;go_simp;have KY:=X_.calm k3;have Tu:=ps2.calm k3;have uP:=KR.trans (aF.calm iX k3);have LS:iX (V2.heap.size)=1000:=ED _ Ys;have sl3:V1.heap.size<=V3.heap.size:=fH Ys k3.size;have Yv:W5.heap.size<=V3.heap.size:=uP.size;have XF:V2.heap.size<V3.heap.size:=X9.lt (by simp);have XG:V1.heap.size<V3.heap.size:=KY.lt (by simp);have uG:¬(V1.heap.size=V2.heap.size):=(by have h7:=X_.lt (by simp);omega);refine aI rfl rfl ?_;refine aN _ _ _ rfl (V2.heap.size) (bq x2).toArray (by rfl) (by rfl) X9 rfl (by kernel_rfl) (eO x2) ?_;intro v8 pa f8;have S8:=S3.fr f8 (by omega) (by omega) (by omega);refine⟨S8,?_⟩;refine aI rfl rfl ?_;refine aN _ _ _ rfl (V1.heap.size) #[vI k,vI ee,vI v] (by rfl) (by rfl) (KY.fr f8 uG) rfl (by kernel_rfl) (by simp[Value.oneCell']) ?_;intro v9 pb f9;have S9:=S8.fr f9 (by omega) (by omega) (by omega);refine⟨S9,cg ?_⟩;have hR:CE W5 eY s S t (Q.getD t []) x (pV (V2.heap.size)) (pV (V1.heap.size)) v9:=⟨_,_,x2,k,ee,v,rfl,rfl,pa.fr f9 (λe=>uG e.symm),pb,λe=>uG e.symm,la,lb,dg,iX,S5,((Tu).jC f8 (λj e=>by rw[e,LS];omega)).jC f9 (λj e=>by rw[e,Ce];omega),⟨(uP.fr.join f8 (λj hj e=>by omega)).join f9 (λj hj e=>by omega),uP.tg⟩,p3,p5,Ce⟩;replace hR:=af hR;clear S8 S9 pa pb f8 f9 p6 p5 p1 p2 p3 dg;go_simp;go_wp2_with fail
      go_meet;exact hR.out
    ·refine iq W5.drew (W5.heap.size) rfl rfl mA ?_;intro V1 k1 ZB;have la:W5.heap.size<=W5.heap.size:=aM _;have S1:=SD.calm k1;refine⟨S1,?_⟩;go_simp;have c1:=kd.trans k1;have U2:W5.heap.size<=V1.heap.size:=c1.size;refine eX ?_;refine bC rfl rfl ?_ (bC rfl rfl ?_ dI)
     ·have oc:=oS.out V1 c1;simp only[bO,rg] at oc ⊢;go_wp2_with fail
      refine oc.mono ?_;rintro en V2 ⟨x2,k,ee,v,rfl,dg,fB,S5,p1,p2,p3,p5⟩;clear oc;obtain⟨iX,p6,D_,ED⟩:=p1.fresh;have S2:=S1.fr p2.fr (by rw[tmp];omega) (by rw[YE];omega) (by rw[Hx _ (aM _)];omega);refine⟨S2,?_⟩;have KR:=((aF.calm eY c1).trans p2).xN D_;have Pf:W5.heap.size<=V2.heap.size:=KR.size;have P6:W5.heap.size<V1.heap.size:=ZB.lt (by simp);have Mn:eY (W5.heap.size)=1000:=Hx _ (by omega);have Yj:=p2.bw ZB (by rw[Mn];omega);have LS:iX (W5.heap.size)=1000:=(D_ _ (Nat.lt_of_lt_of_le P6 p2.size)).trans ((p2.tg _ P6).trans Mn);refine ay (.tuple #[bO x2,cO k ee v]) rfl rfl (λw' hw'=>?_) ai ?_
      ·simp[go_sem,bO,cO,rg]
      refine ay (bO x2) rfl rfl (λw' hw'=>?_) ai ?_
      ·simp[go_sem]
      refine ay (cO k ee v) rfl rfl (λw' hw'=>?_) ai ?_
      ·simp[go_sem]
      refine aI rfl rfl ?_;refine iq V2 (V2.heap.size) rfl rfl mB ?_;intro V3 k3 Ya;have lb:W5.heap.size<=V2.heap.size:=Pf;have S3:=S2.calm k3;refine⟨S3,?_⟩;go_simp;have KX:=Yj.calm k3;have Tu:=p6.calm k3;have uP:=KR.trans (aF.calm iX k3);have Ce:iX (V2.heap.size)=1000:=ED _ (aM _);have sl3:V2.heap.size<=V3.heap.size:=fH (aM _) k3.size;have Yv:W5.heap.size<=V3.heap.size:=uP.size;have XF:W5.heap.size<V3.heap.size:=KX.lt (by simp);have XG:V2.heap.size<V3.heap.size:=Ya.lt (by simp);have uG:¬(V2.heap.size=W5.heap.size):=(by have h7:=Yj.lt (by simp);omega);refine aI rfl rfl ?_;refine aN _ _ _ rfl (W5.heap.size) (bq x2).toArray (by rfl) (by rfl) KX rfl (by kernel_rfl) (eO x2) ?_;intro v8 pa f8;have S8:=S3.fr f8 (by omega) (by omega) (by omega);refine⟨S8,?_⟩;refine aI rfl rfl ?_;refine aN _ _ _ rfl (V2.heap.size) #[vI k,vI ee,vI v] (by rfl) (by rfl) (Ya.fr f8 uG) rfl (by kernel_rfl) (by simp[Value.oneCell']) ?_;intro v9 pb f9;have S9:=S8.fr f9 (by omega) (by omega) (by omega);refine⟨S9,cg ?_⟩;have hR:CE W5 eY s S t (Q.getD t []) x (pV (W5.heap.size)) (pV (V2.heap.size)) v9:=⟨_,_,x2,k,ee,v,rfl,rfl,pa.fr f9 (λe=>uG e.symm),pb,λe=>uG e.symm,la,lb,dg,iX,S5,((Tu).jC f8 (λj e=>by rw[e,LS];omega)).jC f9 (λj e=>by rw[e,Ce];omega),⟨(uP.fr.join f8 (λj hj e=>by omega)).join f9 (λj hj e=>by omega),uP.tg⟩,p3,p5,Ce⟩;replace hR:=af hR;clear S8 S9 pa pb f8 f9 p6 p5 p1 p2 p3 dg;go_simp;go_wp2_with fail
      go_meet;exact hR.out
     ·refine iq V1 (V1.heap.size) rfl rfl mB ?_;intro V2 k2 X_;have lb:W5.heap.size<=V1.heap.size:=U2;have S2:=S1.calm k2;refine⟨S2,?_⟩;go_simp;have Yj:=ZB.calm k2;have c2:=c1.trans k2;have Pf:W5.heap.size<=V2.heap.size:=c2.size;refine aI rfl rfl ?_;have oc:=oS.out V2 c2;simp only[bO,rg] at oc ⊢;go_wp2_with fail
      refine oc.mono ?_;rintro en V3 ⟨x2,k,ee,v,rfl,dg,fB,S5,p1,p2,p3,p5⟩;clear oc;obtain⟨iX,p6,D_,ED⟩:=p1.fresh;have S3:=S2.fr p2.fr (by rw[tmp];omega) (by rw[YE];omega) (by rw[Hx _ (aM _)];omega);refine⟨S3,?_⟩;have uP:=((aF.calm eY c2).trans p2).xN D_;have Yv:W5.heap.size<=V3.heap.size:=uP.size;have P6:W5.heap.size<V2.heap.size:=Yj.lt (by simp);have Mn:eY (W5.heap.size)=1000:=Hx _ (by omega);have KX:=p2.bw Yj (by rw[Mn];omega);have LS:iX (W5.heap.size)=1000:=(D_ _ (Nat.lt_of_lt_of_le P6 p2.size)).trans ((p2.tg _ P6).trans Mn);have P7:V1.heap.size<V2.heap.size:=X_.lt (by simp);have Qm:eY (V1.heap.size)=1000:=Hx _ (by omega);have KY:=p2.bw X_ (by rw[Qm];omega);have Ce:iX (V1.heap.size)=1000:=(D_ _ (Nat.lt_of_lt_of_le P7 p2.size)).trans ((p2.tg _ P7).trans Qm);refine ay (.tuple #[bO x2,cO k ee v]) rfl rfl (λw' hw'=>?_) ai ?_
      ·simp[go_sem,bO,cO,rg]
      refine ay (bO x2) rfl rfl (λw' hw'=>?_) ai ?_
      ·simp[go_sem]
      refine ay (cO k ee v) rfl rfl (λw' hw'=>?_) ai ?_
      ·simp[go_sem]
      have XF:W5.heap.size<V3.heap.size:=KX.lt (by simp);have XG:V1.heap.size<V3.heap.size:=KY.lt (by simp);have uG:¬(V1.heap.size=W5.heap.size):=(by have h7:=ZB.lt (by simp);omega);refine aI rfl rfl ?_;refine aN _ _ _ rfl (W5.heap.size) (bq x2).toArray (by rfl) (by rfl) KX rfl (by kernel_rfl) (eO x2) ?_;intro v8 pa f8;have S8:=S3.fr f8 (by omega) (by omega) (by omega);refine⟨S8,?_⟩;refine aI rfl rfl ?_;refine aN _ _ _ rfl (V1.heap.size) #[vI k,vI ee,vI v] (by rfl) (by rfl) (KY.fr f8 uG) rfl (by kernel_rfl) (by simp[Value.oneCell']) ?_;intro v9 pb f9;have S9:=S8.fr f9 (by omega) (by omega) (by omega);refine⟨S9,cg ?_⟩;have hR:CE W5 eY s S t (Q.getD t []) x (pV (W5.heap.size)) (pV (V1.heap.size)) v9:=⟨_,_,x2,k,ee,v,rfl,rfl,pa.fr f9 (λe=>uG e.symm),pb,λe=>uG e.symm,la,lb,dg,iX,S5,((p6).jC f8 (λj e=>by rw[e,LS];omega)).jC f9 (λj e=>by rw[e,Ce];omega),⟨(uP.fr.join f8 (λj hj e=>by omega)).join f9 (λj hj e=>by omega),uP.tg⟩,p3,p5,Ce⟩;replace hR:=af hR;clear S8 S9 pa pb f8 f9 p6 p5 p1 p2 p3 dg;go_simp;go_wp2_with fail
      go_meet;exact hR.out
    ·refine iq W5.drew (W5.heap.size) rfl rfl mB ?_;intro V1 k1 GV;have lb:W5.heap.size<=W5.heap.size:=aM _;have S1:=SD.calm k1;refine⟨S1,?_⟩;go_simp;have c1:=kd.trans k1;have U2:W5.heap.size<=V1.heap.size:=c1.size;refine eX ?_;refine bC rfl rfl ?_ (bC rfl rfl ?_ dI)
     ·have oc:=oS.out V1 c1;simp only[bO,rg] at oc ⊢;go_wp2_with fail
      refine oc.mono ?_;rintro en V2 ⟨x2,k,ee,v,rfl,dg,fB,S5,p1,p2,p3,p5⟩;clear oc;obtain⟨iX,p6,D_,ED⟩:=p1.fresh;have S2:=S1.fr p2.fr (by rw[tmp];omega) (by rw[YE];omega) (by rw[Hx _ (aM _)];omega);refine⟨S2,?_⟩;have KR:=((aF.calm eY c1).trans p2).xN D_;have Pf:W5.heap.size<=V2.heap.size:=KR.size;have P7:W5.heap.size<V1.heap.size:=GV.lt (by simp);have Qm:eY (W5.heap.size)=1000:=Hx _ (by omega);have Yk:=p2.bw GV (by rw[Qm];omega);have Ce:iX (W5.heap.size)=1000:=(D_ _ (Nat.lt_of_lt_of_le P7 p2.size)).trans ((p2.tg _ P7).trans Qm);refine ay (.tuple #[bO x2,cO k ee v]) rfl rfl (λw' hw'=>?_) ai ?_
      ·simp[go_sem,bO,cO,rg]
      refine ay (bO x2) rfl rfl (λw' hw'=>?_) ai ?_
      ·simp[go_sem]
      refine ay (cO k ee v) rfl rfl (λw' hw'=>?_) ai ?_
      ·simp[go_sem]
      refine aI rfl rfl ?_;refine iq V2 (V2.heap.size) rfl rfl mA ?_;intro V3 k3 X9;have la:W5.heap.size<=V2.heap.size:=Pf;have S3:=S2.calm k3;refine⟨S3,?_⟩;go_simp;have KY:=Yk.calm k3;have Tu:=p6.calm k3;have uP:=KR.trans (aF.calm iX k3);have LS:iX (V2.heap.size)=1000:=ED _ (aM _);have sl3:V2.heap.size<=V3.heap.size:=fH (aM _) k3.size;have Yv:W5.heap.size<=V3.heap.size:=uP.size;have XF:V2.heap.size<V3.heap.size:=X9.lt (by simp);have XG:W5.heap.size<V3.heap.size:=KY.lt (by simp);have uG:¬(W5.heap.size=V2.heap.size):=(by have h7:=Yk.lt (by simp);omega);refine aI rfl rfl ?_;refine aN _ _ _ rfl (V2.heap.size) (bq x2).toArray (by rfl) (by rfl) X9 rfl (by kernel_rfl) (eO x2) ?_;intro v8 pa f8;have S8:=S3.fr f8 (by omega) (by omega) (by omega);refine⟨S8,?_⟩;refine aI rfl rfl ?_;refine aN _ _ _ rfl (W5.heap.size) #[vI k,vI ee,vI v] (by rfl) (by rfl) (KY.fr f8 uG) rfl (by kernel_rfl) (by simp[Value.oneCell']) ?_;intro v9 pb f9;have S9:=S8.fr f9 (by omega) (by omega) (by omega);refine⟨S9,cg ?_⟩;have hR:CE W5 eY s S t (Q.getD t []) x (pV (V2.heap.size)) (pV (W5.heap.size)) v9:=⟨_,_,x2,k,ee,v,rfl,rfl,pa.fr f9 (λe=>uG e.symm),pb,λe=>uG e.symm,la,lb,dg,iX,S5,((Tu).jC f8 (λj e=>by rw[e,LS];omega)).jC f9 (λj e=>by rw[e,Ce];omega),⟨(uP.fr.join f8 (λj hj e=>by omega)).join f9 (λj hj e=>by omega),uP.tg⟩,p3,p5,Ce⟩;replace hR:=af hR;clear S8 S9 pa pb f8 f9 p6 p5 p1 p2 p3 dg;go_simp;go_wp2_with fail
      go_meet;exact hR.out
     ·refine iq V1 (V1.heap.size) rfl rfl mA ?_;intro V2 k2 X8;have la:W5.heap.size<=V1.heap.size:=U2;have S2:=S1.calm k2;refine⟨S2,?_⟩;go_simp;have Yk:=GV.calm k2;have c2:=c1.trans k2;have Pf:W5.heap.size<=V2.heap.size:=c2.size;refine aI rfl rfl ?_;have oc:=oS.out V2 c2;simp only[bO,rg] at oc ⊢;go_wp2_with fail
      refine oc.mono ?_;rintro en V3 ⟨x2,k,ee,v,rfl,dg,fB,S5,p1,p2,p3,p5⟩;clear oc;obtain⟨iX,p6,D_,ED⟩:=p1.fresh;have S3:=S2.fr p2.fr (by rw[tmp];omega) (by rw[YE];omega) (by rw[Hx _ (aM _)];omega);refine⟨S3,?_⟩;have uP:=((aF.calm eY c2).trans p2).xN D_;have Yv:W5.heap.size<=V3.heap.size:=uP.size;have P7:W5.heap.size<V2.heap.size:=Yk.lt (by simp);have Qm:eY (W5.heap.size)=1000:=Hx _ (by omega);have KY:=p2.bw Yk (by rw[Qm];omega);have Ce:iX (W5.heap.size)=1000:=(D_ _ (Nat.lt_of_lt_of_le P7 p2.size)).trans ((p2.tg _ P7).trans Qm);have P6:V1.heap.size<V2.heap.size:=X8.lt (by simp);have Mn:eY (V1.heap.size)=1000:=Hx _ (by omega);have KX:=p2.bw X8 (by rw[Mn];omega);have LS:iX (V1.heap.size)=1000:=(D_ _ (Nat.lt_of_lt_of_le P6 p2.size)).trans ((p2.tg _ P6).trans Mn);refine ay (.tuple #[bO x2,cO k ee v]) rfl rfl (λw' hw'=>?_) ai ?_
      ·simp[go_sem,bO,cO,rg]
      refine ay (bO x2) rfl rfl (λw' hw'=>?_) ai ?_
      ·simp[go_sem]
      refine ay (cO k ee v) rfl rfl (λw' hw'=>?_) ai ?_
      ·simp[go_sem]
      have XF:V1.heap.size<V3.heap.size:=KX.lt (by simp);have XG:W5.heap.size<V3.heap.size:=KY.lt (by simp);have uG:¬(W5.heap.size=V1.heap.size):=(by have h7:=GV.lt (by simp);omega);refine aI rfl rfl ?_;refine aN _ _ _ rfl (V1.heap.size) (bq x2).toArray (by rfl) (by rfl) KX rfl (by kernel_rfl) (eO x2) ?_;intro v8 pa f8;have S8:=S3.fr f8 (by omega) (by omega) (by omega);refine⟨S8,?_⟩;refine aI rfl rfl ?_;refine aN _ _ _ rfl (W5.heap.size) #[vI k,vI ee,vI v] (by rfl) (by rfl) (KY.fr f8 uG) rfl (by kernel_rfl) (by simp[Value.oneCell']) ?_;intro v9 pb f9;have S9:=S8.fr f9 (by omega) (by omega) (by omega);refine⟨S9,cg ?_⟩;have hR:CE W5 eY s S t (Q.getD t []) x (pV (V1.heap.size)) (pV (W5.heap.size)) v9:=⟨_,_,x2,k,ee,v,rfl,rfl,pa.fr f9 (λe=>uG e.symm),pb,λe=>uG e.symm,la,lb,dg,iX,S5,((p6).jC f8 (λj e=>by rw[e,LS];omega)).jC f9 (λj e=>by rw[e,Ce];omega),⟨(uP.fr.join f8 (λj hj e=>by omega)).join f9 (λj hj e=>by omega),uP.tg⟩,p3,p5,Ce⟩;replace hR:=af hR;clear S8 S9 pa pb f8 f9 p6 p5 p1 p2 p3 dg;go_simp;go_wp2_with fail
      go_meet;exact hR.out
   case rest=>
    replace hcut:=af hcut;go_upto_region 5 with fail
    obtain⟨B6,B7,x2,k,ee,v,rfl,rfl,p6,p7,nb,la,lb,dg,FI,Sx,cy,KT,Jv,hdd,tb7⟩:=hcut.out;clear hcut;have h5':=h5.out;have tB5:eY w1.heap.size=1000:=Hx _ (aM _);have aaJ:w1.heap.size<W5.heap.size:=hsW;have q5:=KT.bw oA (by rw[tB5];omega);have Tp:=Yf.out;have q4:=KT.bw Tp (by rw[t42];omega);have oK:w.heap.size<W5.heap.size:=Tp.lt (by simp);have tx5:FI w1.heap.size=1000:=(KT.tg _ aaJ).trans tB5;have ZQ:FI w.heap.size=1000:=(KT.tg _ oK).trans t42;have hmx:Mc wc FI (s+1) mp Sx Q tv hv ev X:=⟨cy,by rw[Jv.sp];exact h5'.r.keep KT.w⟩;have Kx:=K05.out.trans KT.w.m;have sH:=hmx.r.h;rw[eC.out,Ji.out] at sH;have y2:wc.cell? ⟨mp,2,none⟩=some (.slice (some ⟨g',0,none⟩) N YV):=by rw[<-eC.out];exact(hmx.r.c 2 _ rfl).1
    have Rz:aB hv g':=by rw[eC.out];exact aB.mk.2 rfl
    have ZP:FI g'=601:=hmx.r.t1 g' Rz;have Y5:g'<W5.heap.size:=(World.ownsRow.lt h5'.r.h g' Rz).2;have ng7:¬(B7=g'):=λe=>by rw[e,ZP] at tb7;omega
    have ng5:¬(w1.heap.size=g'):=λe=>by rw[e,ZP] at tx5;omega
    have ng4:¬(w.heap.size=g'):=λe=>by rw[e,ZP] at ZQ;omega
    have n75:¬(B7=w1.heap.size):=by omega
    have n74:¬(B7=w.heap.size):=by omega
    have SW:Calm wc wc.drew:=aq.drew;replace hmx:=af (hmx.calm SW);replace sH:=az sH SW (λ_ _=>id);replace Kx:=af (Kx.trans (eQ.calm FI SW));replace hdd:=af hdd;replace dg:=af dg;replace Jv:=af Jv;clear cy KT h5 h5' Yf Tp oA K05;refine bK [(true,0),(true,1),(true,2),(true,3),(true,4),(true,5),(true,6),(false,7)] (λw'=>w'.cell? ⟨mp,2,none⟩=some (.slice (some ⟨g',0,none⟩) N YV)/\ag w' B6 (bq x2)) (by kernel_rfl) (by kernel_rfl) ⟨y2,p6⟩ ?_;refine ao (pV mp) rfl rfl (λw' hw'=>?_) ai ?_
    ·simp[go_sem]
    refine ao (pV mp) rfl rfl (λw' hw'=>?_) ai ?_
    ·simp[go_sem]
    refine ao (.pointer (some ⟨mp,2,none⟩)) rfl rfl (λw' hw'=>?_) ai ?_
    ·simp[go_sem]
    refine ao (.slice (some ⟨g',0,none⟩) N YV) rfl rfl (λw' hw'=>?_) ai ?_
    ·simp[go_sem,hw'.1]
    refine ao (vI (t:Int)) rfl rfl (λw' hw'=>?_) ai ?_
    ·simp[go_sem]
    refine ao (bO x2) rfl rfl (λw' hw'=>?_) ai ?_
    ·have o:=hw'.2;simp only[bq,rg] at o;obtain⟨y0,y1,y2,y3,y4,y5,y6,y7,y8,y9,lN,nB,nC,ko,kp⟩:=ag.nY o;simp[go_sem,bO,rg,y0,y1,y2,y3,y4,y5,y6,y7,y8,y9,lN,nB,nC,ko,kp]
    refine ao (.pointer (some ⟨g',t*15,none⟩)) rfl rfl (λw' hw'=>?_) ai ?_
    ·simp[go_sem,zS]
    go_simp;refine bg rfl rfl ?_;refine Ck _ _ rfl (z:=x2) (by rfl) (by rfl) sH Ji.out zS ?_;intro w9 Qk f9;have oz:=hmx.out.Yz ht (x':=x2) (by rw[eC.out,Ji.out];exact Qk) dg.out (f9.mono (λb _ e=>by rw[e];exact Rz));have K9:=Kx.out.trans oz.2;have UQ:=(p7.calm SW).fr f9 ng7;have q59:=(q5.calm SW).fr f9 ng5;have QE:=(q4.calm SW).fr f9 ng4
    have y29:=(f9.cellAt y2 (λe=>by have h1:=oz.1.r.t0;have h2:FI mp=601:=(by rw[show mp=g' from e];exact ZP);omega))
    have AI:=af oz.1;replace K9:=af K9;refine⟨⟨y29,p6.calm SW |>.fr f9 (λe=>by have h1:B6=g':=e;omega)⟩,fp ?_⟩;clear oz Qk f9 sH p6 p7 q5 q4 y2 y29 hmx Kx;go_simp;have on9:=af (Bx AI.out (t:Int) x.b x.p k ee v);obtain⟨z0,z1,z2⟩:=ag.sP UQ
    by_cases hk:k=0
    ·subst hk;have T1:=QE.whole (us:=[vI 0,vI ee,vI v]) rfl;have F1:=rG w9 (w.heap.size) 0 [vI 0,vI ee,vI v]
     have hP:YM w τ s mp S Q tv hv X ev.H t (.returned (cO 0 ee v)) (w9.setCells w.heap.size 0 [vI 0,vI ee,vI v]):=
      ⟨0,ee,v,rfl,FI,Sx,ev,x2,AI.out.own F1 (λb hb=>by rw[hb,ZQ];omega),K9.out.own F1 (λb hb=>by omega),Jv.out,by rw[hx.out];exact hdd.out,(if_pos rfl).symm⟩
     replace hP:=af hP;replace T1:=af T1;obtain⟨y0,vC,y1,vD,y2,xT⟩:=ag.sR QE;clear F1 QE UQ q59 on9;go_wp2;exact bodyPost_ret (QJ (i:=4) rfl rfl T1.out) rfl hP.out
    ·have kN:(k==0)=false:=by simp[hk]
     replace hk:=af hk;go_upto_region 7 with fail
     obtain⟨y0,y1⟩:=ag.lF q59;refine bK [(true,0),(true,1),(true,2),(true,3),(true,4),(true,5),(true,6),(true,7),(true,8),(true,9),(false,10)] (λw'=>w'.cell? ⟨w1.heap.size,0,none⟩=some (vI x.b)/\w'.cell? ⟨w1.heap.size,1,none⟩=some (vI x.p)/\w'.cell? ⟨B7,0,none⟩=some (vI k)/\w'.cell? ⟨B7,1,none⟩=some (vI ee)/\w'.cell? ⟨B7,2,none⟩=some (vI v)) (by kernel_rfl) (by kernel_rfl) ⟨y0,y1,z0,z1,z2⟩ ?_;refine ao (pV mp) rfl rfl (λw' hw'=>?_) ai ?_
     ·simp[go_sem]
     refine ao (pV mp) rfl rfl (λw' hw'=>?_) ai ?_
     ·simp[go_sem]
     refine ao (.pointer (some ⟨mp,3,none⟩)) rfl rfl (λw' hw'=>?_) ai ?_
     ·simp[go_sem]
     refine ao (vI (t:Int)) rfl rfl (λw' hw'=>?_) ai ?_
     ·simp[go_sem]
     refine ao (aR w1.heap.size) rfl rfl (λw' hw'=>?_) ai ?_
     ·simp[go_sem]
     refine ao (vI x.b) rfl rfl (λw' hw'=>?_) ai ?_
     ·simp[go_sem,hw'.1]
     refine ao (.pointer (some ⟨w1.heap.size,1,none⟩)) rfl rfl (λw' hw'=>?_) ai ?_
     ·simp[go_sem]
     refine ao (vI x.p) rfl rfl (λw' hw'=>?_) ai ?_
     ·simp[go_sem,hw'.2.1]
     refine ao (cO k ee v) rfl rfl (λw' hw'=>?_) ai ?_
     ·simp[go_sem,cO,hw'.2.2.1,hw'.2.2.2.1,hw'.2.2.2.2]
     refine ao (.agg #[vI (t:Int),vI x.b,vI x.p,vI k,vI ee,vI v]) rfl rfl (λw' hw'=>?_) ai ?_
     ·simp[go_sem,cO]
     go_simp;refine bg rfl rfl ?_;have Zt:Calm w9 w9.drew:=aq.drew;have oN:=Bx (AI.out.calm Zt) (t:Int) x.b x.p k ee v;replace K9:=af (K9.out.trans (eQ.calm FI Zt));replace QE:=QE.calm Zt;replace UQ:=UQ.calm Zt;clear on9;go_wp2_with fail
     refine oN.mono ?_;rintro en uZ ⟨rfl,aX,ev',hN,tk',KN,aaA⟩;clear oN;have q4n:=QE.fr KN.fr (by rw[ZQ];omega);have p7n:=UQ.fr KN.fr (by rw[tb7];omega);have y0n:=KN.fr.cellAt y0 (by show ¬(FI w1.heap.size<603);rw[tx5];omega);have y1n:=KN.fr.cellAt y1 (by show ¬(FI w1.heap.size<603);rw[tx5];omega);have vx:w.heap.size<w9.drew.heap.size:=QE.lt (by simp);have T1:=q4n.whole (us:=[vI k,vI ee,vI v]) rfl;have F1:=rG uZ (w.heap.size) 0 [vI k,vI ee,vI v]
     have hP:YM w τ s mp S Q tv hv X ev.H t (.returned (cO k ee v)) (uZ.setCells w.heap.size 0 [vI k,vI ee,vI v]):=
      ⟨k,ee,v,rfl,aX,Sx,ev',x2,hN.own F1 (λb hb=>by rw[hb,tk' _ vx,ZQ];omega),(K9.out.trans KN).own F1 (λb hb=>by omega),Jv.out,by rw[hx.out];exact hdd.out,by rw[aaA,if_neg hk.out,hx.out];exact if_pos (by have:=of_decide_eq_false Wr.out;omega)⟩
     replace hP:=af hP;replace T1:=af T1;obtain⟨zn0,zn1,zn2⟩:=ag.sP p7n;obtain⟨wD,vC,wE,vD,wF,xT⟩:=ag.sR q4n;refine⟨⟨y0n,y1n,zn0,zn1,zn2⟩,fp ?_⟩;clear F1 hN KN QE UQ q59 q4n p7n y0n y1n K9 AI y0 y1 z0 z1 z2;go_simp;go_wp2;exact bodyPost_ret (QJ (i:=4) rfl rfl T1.out) rfl hP.out
end
