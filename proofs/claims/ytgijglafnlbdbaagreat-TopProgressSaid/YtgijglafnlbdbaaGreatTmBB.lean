import Derived.Test.YtgijglafnlbdbaaGreatTmBA
set_option linter.all false
set_option maxHeartbeats 16000000
set_option maxRecDepth 8000
namespace Go.Proofs.YtgijglafnlbdbaaGreat
open RowKit Shelf Proofs.Tryz
open Go renaming World->ag,Value->aA,Calls->aJ
section
variable {w:ag}{τ:Nat->Nat}{s q mp:Nat}{S:aE}{Q:List (List (List Dd))}{tv hv:aA}{ev:xy}{X:List bP}
theorem gR.gL{I:aE->Prop}{w':ag}{T:Nat->Prop}(h:gR I w τ s q S)(f:Fr T w w')(hT:∀b,T b->500<=τ b):gR I w' τ s q S:=by
 obtain⟨M,h1,h2,h3⟩:=h;refine⟨M,h1.frame f (λt k hk gX=>?_),h2,h3⟩;have e1:=h1.tag t k hk;have e2:=hT k gX;rw[h2.z t (by omega)] at hk;exact hk
theorem Mc.QW{w':ag}(h:Mc w τ s q mp S Q tv hv ev X){t:Nat}(ht:t<X.length){x':bP}(hr:w'.ownsRow 0 31 15 hv X.length ((X.set t x').flatMap aX))(hx:ko (Q.getD t []).length x')(f:Fr (ay hv) w w'):Mc w' τ s q mp S Q tv hv ev (X.set t x')/\cP w τ w' τ:=by
 obtain⟨UK,wU⟩:=h.r.e;have tS:∀b,ay hv b->τ b=601:=h.r.t1;refine⟨⟨h.st.gL f (λb hb=>by rw[tS b hb];omega),⟨h.r.c.fr f (λe=>by have:=tS mp e;have:=h.r.t0;omega),by rw[bN];exact hr,⟨aw UK f (λb hb e=>by have:=tS b e;rw[h.r.t2 b hb] at this;omega),wU⟩,h.r.p.fr f (λb e e2=>by have:=tS b e2;omega),h.r.t0,h.r.t1,h.r.t2,by rw[bN];exact h.r.n,λj hj=>?_,h.r.pk⟩⟩,⟨f.mono (λk _ e=>by rw[tS k e];omega),λ_ _ _=>rfl⟩⟩;rw[bN] at hj
 by_cases e:j=t
 ·subst e;rw[qX hj];exact hx
 ·rw[nJ e];exact h.r.ok j hj
theorem Mc.own{A:Nat->Prop}{w':ag}(h:Mc w τ s q mp S Q tv hv ev X)(f:Fr A w w')(hA:∀b,A b->700<=τ b):Mc w' τ s q mp S Q tv hv ev X:=by
 obtain⟨UK,wU⟩:=h.r.e;exact⟨h.st.gL f (λb hb=>by have:=hA b hb;omega),⟨h.r.c.fr f (λe=>by have:=hA mp e;have:=h.r.t0;omega),aw h.r.h f (λb hb e=>by have:=hA b e;have:=h.r.t1 b hb;omega),⟨aw UK f (λb hb e=>by have:=hA b e;have:=h.r.t2 b hb;omega),wU⟩,h.r.p.fr f (λb e e2=>by have:=hA b e2;omega),h.r.t0,h.r.t1,h.r.t2,h.r.n,h.r.ok,h.r.pk⟩⟩
theorem cP.own{A:Nat->Prop}{w1 w2:ag}{gI:Nat->Nat}(h:cP w τ w1 gI)(f:Fr A w1 w2)(hA:∀b,A b->w.heap.size<=b):cP w τ w2 gI:=⟨h.fr.join f (λj hj e=>by have:=hA j e;omega),h.tg⟩
theorem Da{X:List bP}{t:Nat}(ht:t<X.length):X.set t (X.getD t d0)=X:=by
 apply List.ext_getElem?;intro j
 by_cases e:j=t
 ·subst e;rw[List.getElem?_set_self ht];simp[aS,ht]
 ·rw[List.getElem?_set_ne (by omega)]
theorem MD{fn:Func}{i:Nat}{W:ag}{B:Nat}{k e v:Int}{tmps:Array aA}(hf:fn.results = #[.cell i 35])(h5:tmps[i]?.getD undef = bw B)(u:af W B [vI k,vI e,vI v]):(results fn tmps).run prog W=.ok (cS k e v) W:=by
 obtain⟨z0,z1,z2⟩:=af.mI u;simp[results,hf,h5,go_sem,cS,z0,z1,z2]
def Tl(w:ag)(τ:Nat->Nat)(s q mp:Nat)(S:aE)(Q:List (List (List Dd)))(tv hv:aA)(X:List bP)(H:List En)(t:Nat)(e:Ending)(w':ag):Prop:=
 ∃k ee v:Int,e=.returned (cS k ee v)/\∃aL S' ev' x',Mc w' aL (s+1) q mp S' Q tv hv ev' (X.set t x')/\cP w τ w' aL/\((2000<=H.length/\k=0/\S'=S/\x'=X.getD t d0/\ev'.H=H)\/(H.length<2000/\Fix S S'/\Rs S t (Q.getD t []) (X.getD t d0) x' k ee S'/\ev'.H=if k=0 then H else H++[⟨t,(X.getD t d0).b,(X.getD t d0).p,k,ee,v⟩]))
structure AY(mp sp tg o B5:Nat)(tv u:aA)(x:bP)(w:ag):Prop where
 c0:w.cell? ⟨mp,0,none⟩=some (pV sp)
 c1:w.cell? ⟨mp,1,none⟩=some tv
 ct:w.cell? ⟨tg,o,none⟩=some u
 o5:af w B5 (aX x)
theorem AY.fr{A:Nat->Prop}{mp sp tg o B5:Nat}{tv u:aA}{x:bP}{w w':ag}(h:AY mp sp tg o B5 tv u x w)(f:Fr A w w')(h1:¬A mp)(h2:¬A tg)(h3:¬A B5):AY mp sp tg o B5 tv u x w':=⟨f.cellAt h.c0 h1,f.cellAt h.c1 h1,f.cellAt h.ct h2,h.o5.fr f h3⟩
theorem AY.calm{mp sp tg o B5:Nat}{tv u:aA}{x:bP}{w w':ag}(h:AY mp sp tg o B5 tv u x w)(c:Calm w w'):AY mp sp tg o B5 tv u x w':=h.fr c id id id
theorem je(w:ag)(B:Nat)(hB:w.heap.size=B){op:Oper}{a:Act}{K:Act->ag->Prop}{Q:Exit->Act->ag->Prop}{ty:TypeId}{zs:List aA}(ho:op.op=.alloc ty)(hr:∀w,(Instr.alloc ty true (.tuple #[])).run prog w=.ok (bw w.heap.size) (w.alloc (.cells zs.toArray ty)))
 (h:∀w',Calm w w'->af w' B zs->K (a.put op.dst (bw B)) w'):op.wp prog a w K Q:=by
 subst hB;have h2:=h _ (ah.alloc _) (af.new w zs ty);unfold Oper.wp;simp[execOp,ho,hr,Result.andThen];exact h2
theorem nj(w:ag):(Instr.alloc 31 true (.tuple #[])).run prog w=.ok (bw w.heap.size) (w.alloc (.cells [vI 0,vI 0,vI 0,vI 0,vI 0,vI 0,vI 0,vI 0,vI 0,vI 0,vI 0,vI 0,vI 0,vI 0,.bool false].toArray 31)):=by simp[go_sem]
theorem nk(w:ag):(Instr.alloc 35 true (.tuple #[])).run prog w=.ok (bw w.heap.size) (w.alloc (.cells [vI 0,vI 0,vI 0].toArray 35)):=by simp[go_sem]
def DL(W:ag)(fj:Nat->Nat)(s q:Nat)(S:aE)(t:Nat)(P:List (List Dd))(x:bP)(s6 s7:aA)(wx:ag):Prop:=
 ∃B6 B7 x2 k ee v,s6=pV B6/\s7=pV B7/\af wx B6 (aX x2)/\af wx B7 [vI k,vI ee,vI v]/\B6≠B7/\W.heap.size<=B6/\W.heap.size<=B7/\ko P.length x2/\∃FD Sx,St wx FD (s+1) q Sx/\aC W fj wx FD/\Fix S Sx/\Rs S t P x x2 k ee Sx/\FD B7=1000
theorem uY(h:Mc w τ s q mp S Q tv hv ev X)(hs:s<100000)(hq:q<=100000){t:Nat}(ht:t<X.length):aJ prog 9 #[pV mp,vI (t:Int)] w (Tl w τ s q mp S Q tv hv X ev.H t):=by
 obtain⟨τ0,hF,tk0,fr0⟩:=h.fresh;obtain⟨ka,o4⟩:=mG w [vI 0,vI 0,vI 0] 35;obtain⟨W0,gF⟩:=ao (w.alloc (.cells #[vI 0,vI 0,vI 0] 35));rw[gF] at ka o4;have Vt:W0.heap.size=w.heap.size+1:=by rw[<-gF];simp
 have h0:=hF.calm ka;have K0:cP w τ W0 τ0:=⟨ka.any,λb hb e=>tk0 b hb⟩;have t4:τ0 w.heap.size=1000:=fr0 _ (aD _);have of:=Cw h0;obtain⟨N,hN⟩:=ao X.length;have AB:N<=4:=by rw[<-hN,h.r.n];exact h.r.pk.n.2
 obtain⟨g,gc,nZ,hg⟩:=tK h0.r.h ht;rw[hN] at nZ;have y2:W0.cell? ⟨mp,2,none⟩=some (.slice (some ⟨g,0,none⟩) N gc):=by rw[<-nZ];exact(h0.r.c 2 _ rfl).1
 have dt0:decide ((t:Int)<0)=false:=decide_eq_false (by omega);have dt1:decide (N<=t)=false:=decide_eq_false (by omega);have Xj:t<N:=by omega
 have Za:=Da ht;have ac8:=hid nZ;have tq:=hid hN;have hF':=hid hF;have h0':=hid h0;clear h hF h0 hg nZ hN tk0 ka;replace K0:=hid K0;go_in;go_wp2_with fail
 refine of.mono ?_;rintro en w1 ⟨rfl,gI,h1,t1,K1⟩;obtain⟨b,Uy⟩:=ao (decide ((2000:Int)<=(ev.H.length:Int)));rw[Uy];replace Uy:=hid Uy;clear of;have oy:w.heap.size<W0.heap.size:=by omega
 have t41:gI w.heap.size=1000:=(t1 _ oy).trans t4;have p4:=o4.fr K1.fr (by rw[t4];omega);have XY:=K0.out.trans K1
 cases b with
 | true=>
   have T1:=p4.whole (us:=[vI 0,vI 0,vI 0]) rfl;have F1:=sK w1 (w.heap.size) 0 [vI 0,vI 0,vI 0]
   have hP:Tl w τ s q mp S Q tv hv X ev.H t (.returned (cS 0 0 0)) (w1.setCells w.heap.size 0 [vI 0,vI 0,vI 0]):=
    ⟨0,0,0,rfl,gI,S,ev,X.getD t d0,by rw[Za];exact(h1.mono (s':=s+1) (q':=q) (by omega) (aD _)).own F1 (λb hb=>by rw[hb,t41];omega),XY.own F1 (λb hb=>by omega),.inl ⟨by have:=of_decide_eq_true Uy.out;omega,rfl,rfl,rfl,rfl⟩⟩
   replace hP:=hid hP;replace T1:=hid T1;obtain⟨y0,z0,y1,z1,y2,z2⟩:=af.pG p4;clear F1 p4 h1 K1 XY Za;go_wp2;exact bodyPost_ret (MD (i:=4) rfl rfl T1.out) rfl hP.out
 | false=>
   obtain⟨fj,WN,Tb,Jh⟩:=h1.fresh;have K02:cP w τ w1 fj:=⟨XY.fr,λb hb e=>(Tb b (by have h5:=K1.fr.size;omega)).trans (XY.tg b hb e)⟩;have t42:fj w.heap.size=1000:=(Tb _ (by have h5:=K1.fr.size;omega)).trans t41;obtain⟨g',gc',dK,hg⟩:=tK WN.r.h ht;rw[tq.out] at dK;have y2:w1.cell? ⟨mp,2,none⟩=some (.slice (some ⟨g',0,none⟩) N gc'):=by rw[<-dK];exact(WN.r.c 2 _ rfl).1
   have bU:=WN.r.ok t ht;obtain⟨x,hx⟩:=ao (X.getD t d0);rw[hx] at hg bU Za;have eC:∀j u,(aX x)[j]?=some u->w1.cell? ⟨g',t*15+j,none⟩=some u:=λj u hu=>(hg j u hu).1;have e0:=eC 0 _ rfl;have e1:=eC 1 _ rfl;have e2:=eC 2 _ rfl;have e3:=eC 3 _ rfl;have e4:=eC 4 _ rfl;have e5:=eC 5 _ rfl;have e6:=eC 6 _ rfl;have e7:=eC 7 _ rfl;have e8:=eC 8 _ rfl;have e9:=eC 9 _ rfl;have FO:=eC 10 _ rfl;have FP:=eC 11 _ rfl;have Bn:=eC 12 _ rfl;have Ds:=eC 13 _ rfl;have Hp:=eC 14 _ rfl;rw[fM] at e0;simp only[rg] at e2 e3 e4 e5 e6 e7 e8 e9 FO FP Bn Ds;have kA:Calm w1 (w1.alloc (.cells #[vI x.b,vI x.p,rg x.R 0,rg x.R 1,rg x.R 2,rg x.R 3,rg x.R 4,rg x.R 5,rg x.V 0,rg x.V 1,rg x.V 2,rg x.V 3,rg x.V 4,rg x.V 5,.bool x.live] 31)):=ah.alloc _;have oA:af (w1.alloc (.cells #[vI x.b,vI x.p,rg x.R 0,rg x.R 1,rg x.R 2,rg x.R 3,rg x.R 4,rg x.R 5,rg x.V 0,rg x.V 1,rg x.V 2,rg x.V 3,rg x.V 4,rg x.V 5,.bool x.live] 31)) w1.heap.size (aX x):=af.kC w1 [_,_,_,_,_,_,_,_,_,_,_,_,_,_,_] _ _ rfl;have Xh:(w1.alloc (.cells #[vI x.b,vI x.p,rg x.R 0,rg x.R 1,rg x.R 2,rg x.R 3,rg x.R 4,rg x.R 5,rg x.V 0,rg x.V 1,rg x.V 2,rg x.V 3,rg x.V 4,rg x.V 5,.bool x.live] 31)).heap.size=w1.heap.size+1:=by simp
   simp only[rg,aS] at kA oA Xh;replace bU:=hid bU;replace hx:=hid hx;replace dK:=hid dK;replace Za:=hid Za;replace p4:=hid p4;replace K02:=hid K02;replace WN:=hid WN;clear h1 K1 XY hg eC;go_upto_region 4 with fail
   generalize mK:w1.alloc (.cells #[vI x.b,vI x.p,vI ((x.R[0]?.getD 0:Nat):Int),vI ((x.R[1]?.getD 0:Nat):Int),vI ((x.R[2]?.getD 0:Nat):Int),vI ((x.R[3]?.getD 0:Nat):Int),vI ((x.R[4]?.getD 0:Nat):Int),vI ((x.R[5]?.getD 0:Nat):Int),vI ((x.V[0]?.getD 0:Nat):Int),vI ((x.V[1]?.getD 0:Nat):Int),vI ((x.V[2]?.getD 0:Nat):Int),vI ((x.V[3]?.getD 0:Nat):Int),vI ((x.V[4]?.getD 0:Nat):Int),vI ((x.V[5]?.getD 0:Nat):Int),.bool x.live] 31)=W5 at *;have hsW:w1.heap.size<W5.heap.size:=by omega
   clear Xh;clear mK e0 e1 e2 e3 e4 e5 e6 e7 e8 e9 FO FP Bn Ds Hp y2;have h5:=WN.out.calm kA;obtain⟨ta,tc,ry,xY⟩:=h5.r.p;have uO:t<Q.length:=by rw[<-h5.r.n];exact ht
   obtain⟨tg,Am,u,Oe,ttg,ku,hbk⟩:=xY t uO;subst Oe;have WW:=h5.r.pk;have S0:AY mp S.sp tg (Am+t) w1.heap.size (.slice (some ⟨tg,Am,none⟩) Q.length tc) u x W5:=⟨(h5.r.c 0 _ rfl).1,by rw[<-ry];exact(h5.r.c 1 _ rfl).1,ku,oA⟩;have acW:mp<W5.heap.size:=h5.r.c.lt (by simp);have ac5:tg<W5.heap.size:=nt W5 ⟨tg,Am+t,none⟩ ku;have oS:Hid (∀W,Calm W5 W->aJ prog 21 #[pV S.sp,vI (t:Int),u,bQ x] W (WI W fj s q S t (Q.getD t []) x)):=λW c=>Nw (h5.st.calm c) hs hq t ⟨by omega,by omega⟩ (hbk.calm c) (by have:=WW.b t uO;omega) (λb hb=>by have:=(WW.d t uO b hb).2;omega) (WW.r t uO) bU.out;obtain⟨bu,bn,bc,hu⟩:∃bu bn bc,u=.slice bu bn bc:=by obtain⟨ba,bc,e,_⟩:=hbk;exact⟨_,_,_,e⟩
   subst hu;have tmp:fj mp=600:=h5.r.t0;have N3:(Q.length:Int)<=4:=by have:=WW.n.2;omega
   obtain⟨NQ,kZ⟩:=ao Q.length;rw[kZ] at S0 uO N3;replace kZ:=hid kZ;replace ry:=hid ry;replace hbk:=hid hbk;replace WW:=hid WW;have p45:=hid (p4.out.calm kA);have K05:=hid (K02.out.trans (cP.calm fj kA));clear xY ku kA;replace h5:=hid h5
   go_cut [6,7] (λs6 s7 wx=>DL W5 fj s q S t (Q.getD t []) x s6 s7 wx)
   case first=>
    have kd:Calm W5 W5.drew:=ah.drew;have SD:=S0.calm kd;refine nE (Way.reads [0,1,2,3,4,5,6,7,8,9,10,11,12] (.any (.alt 13 (Way.reads [14,15,16] (.any (.alt 17 (.step 18 (.step 19 (.step 20 .fin))) (.alt 18 (.step 17 (.step 19 (.step 20 .fin))) .stop)))) (.alt 17 (.any (.alt 13 (Way.reads [14,15,16] (.step 18 (.step 19 (.step 20 .fin)))) (.alt 18 (.step 13 (Way.reads [14,15,16] (.step 19 (.step 20 .fin)))) .stop))) (.alt 18 (.any (.alt 13 (Way.reads [14,15,16] (.step 17 (.step 19 (.step 20 .fin)))) (.alt 17 (.step 13 (Way.reads [14,15,16] (.step 19 (.step 20 .fin)))) .stop))) .stop))))) (λw'=>AY mp S.sp tg (Am+t) w1.heap.size (.slice (some ⟨tg,Am,none⟩) NQ tc) (.slice bu bn bc) x w') (by kernel_rfl) (by kernel_rfl) SD ?_;refine bg (pV mp) rfl rfl (λw' hw'=>?_) ak ?_
    ·simp[go_sem]
    refine bg (pV mp) rfl rfl (λw' hw'=>?_) ak ?_
    ·simp[go_sem]
    refine bg (bw mp) rfl rfl (λw' hw'=>?_) ak ?_
    ·simp[go_sem]
    refine bg (pV S.sp) rfl rfl (λw' hw'=>?_) ak ?_
    ·simp[go_sem,hw'.c0]
    refine bg (vI (t:Int)) rfl rfl (λw' hw'=>?_) ak ?_
    ·simp[go_sem]
    refine bg (pV mp) rfl rfl (λw' hw'=>?_) ak ?_
    ·simp[go_sem]
    refine bg (pV mp) rfl rfl (λw' hw'=>?_) ak ?_
    ·simp[go_sem]
    refine bg (.pointer (some ⟨mp,1,none⟩)) rfl rfl (λw' hw'=>?_) ak ?_
    ·simp[go_sem]
    refine bg (.slice (some ⟨tg,Am,none⟩) NQ tc) rfl rfl (λw' hw'=>?_) ak ?_
    ·simp[go_sem,hw'.c1]
    refine bg (vI (t:Int)) rfl rfl (λw' hw'=>?_) ak ?_
    ·simp[go_sem]
    refine bg (.pointer (some ⟨tg,Am+t,none⟩)) rfl rfl (λw' hw'=>?_) ak ?_
    ·simp[go_sem,uO]
    refine bg (.slice bu bn bc) rfl rfl (λw' hw'=>?_) ak ?_
    ·simp[go_sem,hw'.ct]
    refine bg (bQ x) rfl rfl (λw' hw'=>?_) ak ?_
    ·have o:=hw'.o5;simp only[aX,rg] at o;obtain⟨y0,y1,y2,y3,y4,y5,y6,y7,y8,y9,j_,kY,iL,jv,iM⟩:=af.lB o;simp[go_sem,bQ,rg,y0,y1,y2,y3,y4,y5,y6,y7,y8,y9,j_,kY,iL,jv,iM]
    refine ny ?_;refine d_ rfl rfl ?_ (d_ rfl rfl ?_ (d_ rfl rfl ?_ lR))
    ·have oc:=oS.out W5.drew kd;simp only[bQ,rg] at oc ⊢;go_wp2_with fail
     refine oc.mono ?_;rintro en V1 ⟨x2,k,ee,v,rfl,dy,dW,S5,p1,p2,p3,p5⟩;clear oc;obtain⟨gj,p6,Al,Br⟩:=p1.fresh;have S1:=SD.fr p2.fr (by rw[tmp];omega) (by rw[ttg];omega) (by rw[Jh _ (aD _)];omega);refine⟨S1,?_⟩;have pk1:=((aC.calm fj kd).trans p2).vU Al;have XD:W5.heap.size<=V1.heap.size:=pk1.size;refine bg (.tuple #[bQ x2,cS k ee v]) rfl rfl (λw' hw'=>?_) ak ?_
     ·simp[go_sem,bQ,cS,rg]
     refine bg (bQ x2) rfl rfl (λw' hw'=>?_) ak ?_
     ·simp[go_sem]
     refine bg (cS k ee v) rfl rfl (λw' hw'=>?_) ak ?_
     ·simp[go_sem]
     refine ny ?_;refine d_ rfl rfl ?_ (d_ rfl rfl ?_ lR)
     ·refine je V1 (V1.heap.size) rfl rfl nj ?_;intro V2 k2 oa2;have la:W5.heap.size<=V1.heap.size:=XD;have S2:=S1.calm k2;refine⟨S2,?_⟩;go_simp;have ps2:=p6.calm k2;have Mm:=pk1.trans (aC.calm gj k2);have Ny:gj (V1.heap.size)=1000:=Br _ (aD _);have sl2:V1.heap.size<=V2.heap.size:=gw (aD _) k2.size;have QS:W5.heap.size<=V2.heap.size:=Mm.size;refine bR rfl rfl ?_;refine je V2 (V2.heap.size) rfl rfl nk ?_;intro V3 k3 ob3;have lb:W5.heap.size<=V2.heap.size:=QS;have S3:=S2.calm k3;refine⟨S3,?_⟩;go_simp;have Mu:=oa2.calm k3;have Wd:=ps2.calm k3;have vC:=Mm.trans (aC.calm gj k3);have Dj:gj (V2.heap.size)=1000:=Br _ sl2;have sl3:V1.heap.size<=V3.heap.size:=gw sl2 k3.size;have sw3:W5.heap.size<=V3.heap.size:=vC.size;have la2:V1.heap.size<V3.heap.size:=Mu.lt (by simp);have lb2:V2.heap.size<V3.heap.size:=ob3.lt (by simp);have vg:¬(V2.heap.size=V1.heap.size):=(by have h7:=oa2.lt (by simp);omega);refine bR rfl rfl ?_;refine bC _ _ _ rfl (V1.heap.size) (aX x2).toArray (by rfl) (by rfl) Mu rfl (by kernel_rfl) (eM x2) ?_;intro v8 pa f8;have S8:=S3.fr f8 (by omega) (by omega) (by omega);refine⟨S8,?_⟩;refine bR rfl rfl ?_;refine bC _ _ _ rfl (V2.heap.size) #[vI k,vI ee,vI v] (by rfl) (by rfl) (ob3.fr f8 vg) rfl (by kernel_rfl) (by simp[Value.oneCell']) ?_;intro v9 pb f9;have S9:=S8.fr f9 (by omega) (by omega) (by omega);refine⟨S9,jl ?_⟩;have hR:DL W5 fj s q S t (Q.getD t []) x (pV (V1.heap.size)) (pV (V2.heap.size)) v9:=⟨_,_,x2,k,ee,v,rfl,rfl,pa.fr f9 (λe=>vg e.symm),pb,λe=>vg e.symm,la,lb,dy,gj,S5,((Wd).gL f8 (λj e=>by rw[e,Ny];omega)).gL f9 (λj e=>by rw[e,Dj];omega),⟨(vC.fr.join f8 (λj hj e=>by omega)).join f9 (λj hj e=>by omega),vC.tg⟩,p3,p5,Dj⟩;replace hR:=hid hR;clear S8 S9 pa pb f8 f9 p6 p5 p1 p2 p3 dy;go_simp;go_wp2_with fail
      go_meet;exact hR.out
     ·refine je V1 (V1.heap.size) rfl rfl nk ?_;intro V2 k2 ob2;have lb:W5.heap.size<=V1.heap.size:=XD;have S2:=S1.calm k2;refine⟨S2,?_⟩;go_simp;have ps2:=p6.calm k2;have Mm:=pk1.trans (aC.calm gj k2);have Dj:gj (V1.heap.size)=1000:=Br _ (aD _);have sl2:V1.heap.size<=V2.heap.size:=gw (aD _) k2.size;have QS:W5.heap.size<=V2.heap.size:=Mm.size;refine bR rfl rfl ?_;refine je V2 (V2.heap.size) rfl rfl nj ?_;intro V3 k3 oa3;have la:W5.heap.size<=V2.heap.size:=QS;have S3:=S2.calm k3;refine⟨S3,?_⟩;go_simp;have Mv:=ob2.calm k3;have Wd:=ps2.calm k3;have vC:=Mm.trans (aC.calm gj k3);have Ny:gj (V2.heap.size)=1000:=Br _ sl2;have sl3:V1.heap.size<=V3.heap.size:=gw sl2 k3.size;have sw3:W5.heap.size<=V3.heap.size:=vC.size;have la2:V2.heap.size<V3.heap.size:=oa3.lt (by simp);have lb2:V1.heap.size<V3.heap.size:=Mv.lt (by simp);have vg:¬(V1.heap.size=V2.heap.size):=(by have h7:=ob2.lt (by simp);omega);refine bR rfl rfl ?_;refine bC _ _ _ rfl (V2.heap.size) (aX x2).toArray (by rfl) (by rfl) oa3 rfl (by kernel_rfl) (eM x2) ?_;intro v8 pa f8;have S8:=S3.fr f8 (by omega) (by omega) (by omega);refine⟨S8,?_⟩;refine bR rfl rfl ?_;refine bC _ _ _ rfl (V1.heap.size) #[vI k,vI ee,vI v] (by rfl) (by rfl) (Mv.fr f8 vg) rfl (by kernel_rfl) (by simp[Value.oneCell']) ?_;intro v9 pb f9;have S9:=S8.fr f9 (by omega) (by omega) (by omega);refine⟨S9,jl ?_⟩;have hR:DL W5 fj s q S t (Q.getD t []) x (pV (V2.heap.size)) (pV (V1.heap.size)) v9:=⟨_,_,x2,k,ee,v,rfl,rfl,pa.fr f9 (λe=>vg e.symm),pb,λe=>vg e.symm,la,lb,dy,gj,S5,((Wd).gL f8 (λj e=>by rw[e,Ny];omega)).gL f9 (λj e=>by rw[e,Dj];omega),⟨(vC.fr.join f8 (λj hj e=>by omega)).join f9 (λj hj e=>by omega),vC.tg⟩,p3,p5,Dj⟩;replace hR:=hid hR;clear S8 S9 pa pb f8 f9 p6 p5 p1 p2 p3 dy;go_simp;go_wp2_with fail
      go_meet;exact hR.out
    ·refine je W5.drew (W5.heap.size) rfl rfl nj ?_;intro V1 k1 oa1;have la:W5.heap.size<=W5.heap.size:=aD _;have S1:=SD.calm k1;refine⟨S1,?_⟩;go_simp;have c1:=kd.trans k1;have XD:W5.heap.size<=V1.heap.size:=c1.size;refine ny ?_;refine d_ rfl rfl ?_ (d_ rfl rfl ?_ lR)
     ·have oc:=oS.out V1 c1;simp only[bQ,rg] at oc ⊢;go_wp2_with fail
      refine oc.mono ?_;rintro en V2 ⟨x2,k,ee,v,rfl,dy,dW,S5,p1,p2,p3,p5⟩;clear oc;obtain⟨gj,p6,Al,Br⟩:=p1.fresh;have S2:=S1.fr p2.fr (by rw[tmp];omega) (by rw[ttg];omega) (by rw[Jh _ (aD _)];omega);refine⟨S2,?_⟩;have Mm:=((aC.calm fj c1).trans p2).vU Al;have QS:W5.heap.size<=V2.heap.size:=Mm.size;have RP:W5.heap.size<V1.heap.size:=oa1.lt (by simp);have Oe:fj (W5.heap.size)=1000:=Jh _ (by omega);have qa2:=p2.bH oa1 (by rw[Oe];omega);have Ny:gj (W5.heap.size)=1000:=(Al _ (Nat.lt_of_lt_of_le RP p2.size)).trans ((p2.tg _ RP).trans Oe);refine bg (.tuple #[bQ x2,cS k ee v]) rfl rfl (λw' hw'=>?_) ak ?_
      ·simp[go_sem,bQ,cS,rg]
      refine bg (bQ x2) rfl rfl (λw' hw'=>?_) ak ?_
      ·simp[go_sem]
      refine bg (cS k ee v) rfl rfl (λw' hw'=>?_) ak ?_
      ·simp[go_sem]
      refine bR rfl rfl ?_;refine je V2 (V2.heap.size) rfl rfl nk ?_;intro V3 k3 ob3;have lb:W5.heap.size<=V2.heap.size:=QS;have S3:=S2.calm k3;refine⟨S3,?_⟩;go_simp;have Mu:=qa2.calm k3;have Wd:=p6.calm k3;have vC:=Mm.trans (aC.calm gj k3);have Dj:gj (V2.heap.size)=1000:=Br _ (aD _);have sl3:V2.heap.size<=V3.heap.size:=gw (aD _) k3.size;have sw3:W5.heap.size<=V3.heap.size:=vC.size;have la2:W5.heap.size<V3.heap.size:=Mu.lt (by simp);have lb2:V2.heap.size<V3.heap.size:=ob3.lt (by simp);have vg:¬(V2.heap.size=W5.heap.size):=(by have h7:=qa2.lt (by simp);omega);refine bR rfl rfl ?_;refine bC _ _ _ rfl (W5.heap.size) (aX x2).toArray (by rfl) (by rfl) Mu rfl (by kernel_rfl) (eM x2) ?_;intro v8 pa f8;have S8:=S3.fr f8 (by omega) (by omega) (by omega);refine⟨S8,?_⟩;refine bR rfl rfl ?_;refine bC _ _ _ rfl (V2.heap.size) #[vI k,vI ee,vI v] (by rfl) (by rfl) (ob3.fr f8 vg) rfl (by kernel_rfl) (by simp[Value.oneCell']) ?_;intro v9 pb f9;have S9:=S8.fr f9 (by omega) (by omega) (by omega);refine⟨S9,jl ?_⟩;have hR:DL W5 fj s q S t (Q.getD t []) x (pV (W5.heap.size)) (pV (V2.heap.size)) v9:=⟨_,_,x2,k,ee,v,rfl,rfl,pa.fr f9 (λe=>vg e.symm),pb,λe=>vg e.symm,la,lb,dy,gj,S5,((Wd).gL f8 (λj e=>by rw[e,Ny];omega)).gL f9 (λj e=>by rw[e,Dj];omega),⟨(vC.fr.join f8 (λj hj e=>by omega)).join f9 (λj hj e=>by omega),vC.tg⟩,p3,p5,Dj⟩;replace hR:=hid hR;clear S8 S9 pa pb f8 f9 p6 p5 p1 p2 p3 dy;go_simp;go_wp2_with fail
      go_meet;exact hR.out
     ·refine je V1 (V1.heap.size) rfl rfl nk ?_;intro V2 k2 ob2;have lb:W5.heap.size<=V1.heap.size:=XD;have S2:=S1.calm k2;refine⟨S2,?_⟩;go_simp;have qa2:=oa1.calm k2;have c2:=c1.trans k2;have QS:W5.heap.size<=V2.heap.size:=c2.size;refine bR rfl rfl ?_;have oc:=oS.out V2 c2;simp only[bQ,rg] at oc ⊢;go_wp2_with fail
      refine oc.mono ?_;rintro en V3 ⟨x2,k,ee,v,rfl,dy,dW,S5,p1,p2,p3,p5⟩;clear oc;obtain⟨gj,p6,Al,Br⟩:=p1.fresh;have S3:=S2.fr p2.fr (by rw[tmp];omega) (by rw[ttg];omega) (by rw[Jh _ (aD _)];omega);refine⟨S3,?_⟩;have vC:=((aC.calm fj c2).trans p2).vU Al;have sw3:W5.heap.size<=V3.heap.size:=vC.size;have RP:W5.heap.size<V2.heap.size:=qa2.lt (by simp);have Oe:fj (W5.heap.size)=1000:=Jh _ (by omega);have Mu:=p2.bH qa2 (by rw[Oe];omega);have Ny:gj (W5.heap.size)=1000:=(Al _ (Nat.lt_of_lt_of_le RP p2.size)).trans ((p2.tg _ RP).trans Oe);have Eh:V1.heap.size<V2.heap.size:=ob2.lt (by simp);have Su:fj (V1.heap.size)=1000:=Jh _ (by omega);have Mv:=p2.bH ob2 (by rw[Su];omega);have Dj:gj (V1.heap.size)=1000:=(Al _ (Nat.lt_of_lt_of_le Eh p2.size)).trans ((p2.tg _ Eh).trans Su);refine bg (.tuple #[bQ x2,cS k ee v]) rfl rfl (λw' hw'=>?_) ak ?_
      ·simp[go_sem,bQ,cS,rg]
      refine bg (bQ x2) rfl rfl (λw' hw'=>?_) ak ?_
      ·simp[go_sem]
      refine bg (cS k ee v) rfl rfl (λw' hw'=>?_) ak ?_
      ·simp[go_sem]
      have la2:W5.heap.size<V3.heap.size:=Mu.lt (by simp);have lb2:V1.heap.size<V3.heap.size:=Mv.lt (by simp);have vg:¬(V1.heap.size=W5.heap.size):=(by have h7:=oa1.lt (by simp);omega);refine bR rfl rfl ?_;refine bC _ _ _ rfl (W5.heap.size) (aX x2).toArray (by rfl) (by rfl) Mu rfl (by kernel_rfl) (eM x2) ?_;intro v8 pa f8;have S8:=S3.fr f8 (by omega) (by omega) (by omega);refine⟨S8,?_⟩;refine bR rfl rfl ?_;refine bC _ _ _ rfl (V1.heap.size) #[vI k,vI ee,vI v] (by rfl) (by rfl) (Mv.fr f8 vg) rfl (by kernel_rfl) (by simp[Value.oneCell']) ?_;intro v9 pb f9;have S9:=S8.fr f9 (by omega) (by omega) (by omega);refine⟨S9,jl ?_⟩;have hR:DL W5 fj s q S t (Q.getD t []) x (pV (W5.heap.size)) (pV (V1.heap.size)) v9:=⟨_,_,x2,k,ee,v,rfl,rfl,pa.fr f9 (λe=>vg e.symm),pb,λe=>vg e.symm,la,lb,dy,gj,S5,((p6).gL f8 (λj e=>by rw[e,Ny];omega)).gL f9 (λj e=>by rw[e,Dj];omega),⟨(vC.fr.join f8 (λj hj e=>by omega)).join f9 (λj hj e=>by omega),vC.tg⟩,p3,p5,Dj⟩;replace hR:=hid hR;clear S8 S9 pa pb f8 f9 p6 p5 p1 p2 p3 dy;go_simp;go_wp2_with fail
      go_meet;exact hR.out
    ·refine je W5.drew (W5.heap.size) rfl rfl nk ?_;intro V1 k1 ob1;have lb:W5.heap.size<=W5.heap.size:=aD _;have S1:=SD.calm k1;refine⟨S1,?_⟩;go_simp;have c1:=kd.trans k1;have XD:W5.heap.size<=V1.heap.size:=c1.size;refine ny ?_;refine d_ rfl rfl ?_ (d_ rfl rfl ?_ lR)
     ·have oc:=oS.out V1 c1;simp only[bQ,rg] at oc ⊢;go_wp2_with fail
      refine oc.mono ?_;rintro en V2 ⟨x2,k,ee,v,rfl,dy,dW,S5,p1,p2,p3,p5⟩;clear oc;obtain⟨gj,p6,Al,Br⟩:=p1.fresh;have S2:=S1.fr p2.fr (by rw[tmp];omega) (by rw[ttg];omega) (by rw[Jh _ (aD _)];omega);refine⟨S2,?_⟩;have Mm:=((aC.calm fj c1).trans p2).vU Al;have QS:W5.heap.size<=V2.heap.size:=Mm.size;have Eh:W5.heap.size<V1.heap.size:=ob1.lt (by simp);have Su:fj (W5.heap.size)=1000:=Jh _ (by omega);have QA:=p2.bH ob1 (by rw[Su];omega);have Dj:gj (W5.heap.size)=1000:=(Al _ (Nat.lt_of_lt_of_le Eh p2.size)).trans ((p2.tg _ Eh).trans Su);refine bg (.tuple #[bQ x2,cS k ee v]) rfl rfl (λw' hw'=>?_) ak ?_
      ·simp[go_sem,bQ,cS,rg]
      refine bg (bQ x2) rfl rfl (λw' hw'=>?_) ak ?_
      ·simp[go_sem]
      refine bg (cS k ee v) rfl rfl (λw' hw'=>?_) ak ?_
      ·simp[go_sem]
      refine bR rfl rfl ?_;refine je V2 (V2.heap.size) rfl rfl nj ?_;intro V3 k3 oa3;have la:W5.heap.size<=V2.heap.size:=QS;have S3:=S2.calm k3;refine⟨S3,?_⟩;go_simp;have Mv:=QA.calm k3;have Wd:=p6.calm k3;have vC:=Mm.trans (aC.calm gj k3);have Ny:gj (V2.heap.size)=1000:=Br _ (aD _);have sl3:V2.heap.size<=V3.heap.size:=gw (aD _) k3.size;have sw3:W5.heap.size<=V3.heap.size:=vC.size;have la2:V2.heap.size<V3.heap.size:=oa3.lt (by simp);have lb2:W5.heap.size<V3.heap.size:=Mv.lt (by simp);have vg:¬(W5.heap.size=V2.heap.size):=(by have h7:=QA.lt (by simp);omega);refine bR rfl rfl ?_;refine bC _ _ _ rfl (V2.heap.size) (aX x2).toArray (by rfl) (by rfl) oa3 rfl (by kernel_rfl) (eM x2) ?_;intro v8 pa f8;have S8:=S3.fr f8 (by omega) (by omega) (by omega);refine⟨S8,?_⟩;refine bR rfl rfl ?_;refine bC _ _ _ rfl (W5.heap.size) #[vI k,vI ee,vI v] (by rfl) (by rfl) (Mv.fr f8 vg) rfl (by kernel_rfl) (by simp[Value.oneCell']) ?_;intro v9 pb f9;have S9:=S8.fr f9 (by omega) (by omega) (by omega);refine⟨S9,jl ?_⟩;have hR:DL W5 fj s q S t (Q.getD t []) x (pV (V2.heap.size)) (pV (W5.heap.size)) v9:=⟨_,_,x2,k,ee,v,rfl,rfl,pa.fr f9 (λe=>vg e.symm),pb,λe=>vg e.symm,la,lb,dy,gj,S5,((Wd).gL f8 (λj e=>by rw[e,Ny];omega)).gL f9 (λj e=>by rw[e,Dj];omega),⟨(vC.fr.join f8 (λj hj e=>by omega)).join f9 (λj hj e=>by omega),vC.tg⟩,p3,p5,Dj⟩;replace hR:=hid hR;clear S8 S9 pa pb f8 f9 p6 p5 p1 p2 p3 dy;go_simp;go_wp2_with fail
      go_meet;exact hR.out
     ·refine je V1 (V1.heap.size) rfl rfl nj ?_;intro V2 k2 oa2;have la:W5.heap.size<=V1.heap.size:=XD;have S2:=S1.calm k2;refine⟨S2,?_⟩;go_simp;have QA:=ob1.calm k2;have c2:=c1.trans k2;have QS:W5.heap.size<=V2.heap.size:=c2.size;refine bR rfl rfl ?_;have oc:=oS.out V2 c2;simp only[bQ,rg] at oc ⊢;go_wp2_with fail
      refine oc.mono ?_;rintro en V3 ⟨x2,k,ee,v,rfl,dy,dW,S5,p1,p2,p3,p5⟩;clear oc;obtain⟨gj,p6,Al,Br⟩:=p1.fresh;have S3:=S2.fr p2.fr (by rw[tmp];omega) (by rw[ttg];omega) (by rw[Jh _ (aD _)];omega);refine⟨S3,?_⟩;have vC:=((aC.calm fj c2).trans p2).vU Al;have sw3:W5.heap.size<=V3.heap.size:=vC.size;have Eh:W5.heap.size<V2.heap.size:=QA.lt (by simp);have Su:fj (W5.heap.size)=1000:=Jh _ (by omega);have Mv:=p2.bH QA (by rw[Su];omega);have Dj:gj (W5.heap.size)=1000:=(Al _ (Nat.lt_of_lt_of_le Eh p2.size)).trans ((p2.tg _ Eh).trans Su);have RP:V1.heap.size<V2.heap.size:=oa2.lt (by simp);have Oe:fj (V1.heap.size)=1000:=Jh _ (by omega);have Mu:=p2.bH oa2 (by rw[Oe];omega);have Ny:gj (V1.heap.size)=1000:=(Al _ (Nat.lt_of_lt_of_le RP p2.size)).trans ((p2.tg _ RP).trans Oe);refine bg (.tuple #[bQ x2,cS k ee v]) rfl rfl (λw' hw'=>?_) ak ?_
      ·simp[go_sem,bQ,cS,rg]
      refine bg (bQ x2) rfl rfl (λw' hw'=>?_) ak ?_
      ·simp[go_sem]
      refine bg (cS k ee v) rfl rfl (λw' hw'=>?_) ak ?_
      ·simp[go_sem]
      have la2:V1.heap.size<V3.heap.size:=Mu.lt (by simp);have lb2:W5.heap.size<V3.heap.size:=Mv.lt (by simp);have vg:¬(W5.heap.size=V1.heap.size):=(by have h7:=ob1.lt (by simp);omega);refine bR rfl rfl ?_;refine bC _ _ _ rfl (V1.heap.size) (aX x2).toArray (by rfl) (by rfl) Mu rfl (by kernel_rfl) (eM x2) ?_;intro v8 pa f8;have S8:=S3.fr f8 (by omega) (by omega) (by omega);refine⟨S8,?_⟩;refine bR rfl rfl ?_;refine bC _ _ _ rfl (W5.heap.size) #[vI k,vI ee,vI v] (by rfl) (by rfl) (Mv.fr f8 vg) rfl (by kernel_rfl) (by simp[Value.oneCell']) ?_;intro v9 pb f9;have S9:=S8.fr f9 (by omega) (by omega) (by omega);refine⟨S9,jl ?_⟩;have hR:DL W5 fj s q S t (Q.getD t []) x (pV (V1.heap.size)) (pV (W5.heap.size)) v9:=⟨_,_,x2,k,ee,v,rfl,rfl,pa.fr f9 (λe=>vg e.symm),pb,λe=>vg e.symm,la,lb,dy,gj,S5,((p6).gL f8 (λj e=>by rw[e,Ny];omega)).gL f9 (λj e=>by rw[e,Dj];omega),⟨(vC.fr.join f8 (λj hj e=>by omega)).join f9 (λj hj e=>by omega),vC.tg⟩,p3,p5,Dj⟩;replace hR:=hid hR;clear S8 S9 pa pb f8 f9 p6 p5 p1 p2 p3 dy;go_simp;go_wp2_with fail
      go_meet;exact hR.out
   case rest=>
    replace hcut:=hid hcut;go_upto_region 5 with fail
    obtain⟨B6,B7,x2,k,ee,v,rfl,rfl,p6,p7,nb,la,lb,dy,FD,Sx,cM,KT,KP,hdd,tb7⟩:=hcut.out;clear hcut;have Pn:=h5.out;have tB5:fj w1.heap.size=1000:=Jh _ (aD _);have abL:w1.heap.size<W5.heap.size:=hsW;have q5:=KT.bH oA (by rw[tB5];omega);have V8:=p45.out;have q4:=KT.bH V8 (by rw[t42];omega);have lF:w.heap.size<W5.heap.size:=V8.lt (by simp);have tx5:FD w1.heap.size=1000:=(KT.tg _ abL).trans tB5;have tx4:FD w.heap.size=1000:=(KT.tg _ lF).trans t42;have hmx:Mc wc FD (s+1) q mp Sx Q tv hv ev X:=⟨cM,by rw[KP.sp];exact Pn.r.keep KT.w⟩;have Kx:=K05.out.trans KT.w.m;have sR:=hmx.r.h;rw[dK.out,tq.out] at sR;have y2:wc.cell? ⟨mp,2,none⟩=some (.slice (some ⟨g',0,none⟩) N gc'):=by rw[<-dK.out];exact(hmx.r.c 2 _ rfl).1
    have T2:ay hv g':=by rw[dK.out];exact ay.mk.2 rfl
    have tg':FD g'=601:=hmx.r.t1 g' T2;have hgl:g'<W5.heap.size:=(World.ownsRow.lt Pn.r.h g' T2).2;have ng7:¬(B7=g'):=λe=>by rw[e,tg'] at tb7;omega
    have ng5:¬(w1.heap.size=g'):=λe=>by rw[e,tg'] at tx5;omega
    have ng4:¬(w.heap.size=g'):=λe=>by rw[e,tg'] at tx4;omega
    have n75:¬(B7=w1.heap.size):=by omega
    have n74:¬(B7=w.heap.size):=by omega
    have VU:Calm wc wc.drew:=ah.drew;replace hmx:=hid (hmx.calm VU);replace sR:=aw sR VU (λ_ _=>id);replace Kx:=hid (Kx.trans (cP.calm FD VU));replace hdd:=hid hdd;replace dy:=hid dy;replace KP:=hid KP;clear cM KT h5 Pn p45 V8 oA K05;refine bW [(true,0),(true,1),(true,2),(true,3),(true,4),(true,5),(true,6),(false,7)] (λw'=>w'.cell? ⟨mp,2,none⟩=some (.slice (some ⟨g',0,none⟩) N gc')/\af w' B6 (aX x2)) (by kernel_rfl) (by kernel_rfl) ⟨y2,p6⟩ ?_;refine au (pV mp) rfl rfl (λw' hw'=>?_) ak ?_
    ·simp[go_sem]
    refine au (pV mp) rfl rfl (λw' hw'=>?_) ak ?_
    ·simp[go_sem]
    refine au (.pointer (some ⟨mp,2,none⟩)) rfl rfl (λw' hw'=>?_) ak ?_
    ·simp[go_sem]
    refine au (.slice (some ⟨g',0,none⟩) N gc') rfl rfl (λw' hw'=>?_) ak ?_
    ·simp[go_sem,hw'.1]
    refine au (vI (t:Int)) rfl rfl (λw' hw'=>?_) ak ?_
    ·simp[go_sem]
    refine au (bQ x2) rfl rfl (λw' hw'=>?_) ak ?_
    ·have o:=hw'.2;simp only[aX,rg] at o;obtain⟨y0,y1,y2,y3,y4,y5,y6,y7,y8,y9,j_,kY,iL,jv,iM⟩:=af.lB o;simp[go_sem,bQ,rg,y0,y1,y2,y3,y4,y5,y6,y7,y8,y9,j_,kY,iL,jv,iM]
    refine au (.pointer (some ⟨g',t*15,none⟩)) rfl rfl (λw' hw'=>?_) ak ?_
    ·simp[go_sem,Xj]
    go_simp;refine bj rfl rfl ?_;refine sH _ _ rfl (z:=x2) (by rfl) (by rfl) sR tq.out Xj ?_;intro w9 Cc f9;have hM9:=hmx.out.QW ht (x':=x2) (by rw[dK.out,tq.out];exact Cc) dy.out (f9.mono (λb _ e=>by rw[e];exact T2));have K9:=Kx.out.trans hM9.2;have Xw:=(p7.calm VU).fr f9 ng7;have q59:=(q5.calm VU).fr f9 ng5;have SQ:=(q4.calm VU).fr f9 ng4
    have y29:=(f9.cellAt y2 (λe=>by have h1:=hM9.1.r.t0;have h2:FD mp=601:=(by rw[show mp=g' from e];exact tg');omega))
    have Ps:=hid hM9.1;replace K9:=hid K9;refine⟨⟨y29,p6.calm VU |>.fr f9 (λe=>by have h1:B6=g':=e;omega)⟩,eW ?_⟩;clear hM9 Cc f9 sR p6 p7 q5 q4 y2 y29 hmx Kx;go_simp;have on9:=hid (lH Ps.out (t:Int) x.b x.p k ee v);obtain⟨z0,z1,z2⟩:=af.mI Xw
    by_cases hk:k=0
    ·subst hk;have T1:=SQ.whole (us:=[vI 0,vI ee,vI v]) rfl;have F1:=sK w9 (w.heap.size) 0 [vI 0,vI ee,vI v]
     have hP:Tl w τ s q mp S Q tv hv X ev.H t (.returned (cS 0 ee v)) (w9.setCells w.heap.size 0 [vI 0,vI ee,vI v]):=
      ⟨0,ee,v,rfl,FD,Sx,ev,x2,Ps.out.own F1 (λb hb=>by rw[hb,tx4];omega),K9.out.own F1 (λb hb=>by omega),.inr ⟨by have:=of_decide_eq_false Uy.out;omega,KP.out,by rw[hx.out];exact hdd.out,(if_pos rfl).symm⟩⟩
     replace hP:=hid hP;replace T1:=hid T1;obtain⟨y0,vW,y1,vX,y2,vY⟩:=af.pG SQ;clear F1 SQ Xw q59 on9;go_wp2;exact bodyPost_ret (MD (i:=4) rfl rfl T1.out) rfl hP.out
    ·have jg:(k==0)=false:=by simp[hk]
     replace hk:=hid hk;go_upto_region 7 with fail
     obtain⟨y0,y1⟩:=af.N1 q59;refine bW [(true,0),(true,1),(true,2),(true,3),(true,4),(true,5),(true,6),(true,7),(true,8),(true,9),(false,10)] (λw'=>w'.cell? ⟨w1.heap.size,0,none⟩=some (vI x.b)/\w'.cell? ⟨w1.heap.size,1,none⟩=some (vI x.p)/\w'.cell? ⟨B7,0,none⟩=some (vI k)/\w'.cell? ⟨B7,1,none⟩=some (vI ee)/\w'.cell? ⟨B7,2,none⟩=some (vI v)) (by kernel_rfl) (by kernel_rfl) ⟨y0,y1,z0,z1,z2⟩ ?_;refine au (pV mp) rfl rfl (λw' hw'=>?_) ak ?_
     ·simp[go_sem]
     refine au (pV mp) rfl rfl (λw' hw'=>?_) ak ?_
     ·simp[go_sem]
     refine au (.pointer (some ⟨mp,3,none⟩)) rfl rfl (λw' hw'=>?_) ak ?_
     ·simp[go_sem]
     refine au (vI (t:Int)) rfl rfl (λw' hw'=>?_) ak ?_
     ·simp[go_sem]
     refine au (bw w1.heap.size) rfl rfl (λw' hw'=>?_) ak ?_
     ·simp[go_sem]
     refine au (vI x.b) rfl rfl (λw' hw'=>?_) ak ?_
     ·simp[go_sem,hw'.1]
     refine au (.pointer (some ⟨w1.heap.size,1,none⟩)) rfl rfl (λw' hw'=>?_) ak ?_
     ·simp[go_sem]
     refine au (vI x.p) rfl rfl (λw' hw'=>?_) ak ?_
     ·simp[go_sem,hw'.2.1]
     refine au (cS k ee v) rfl rfl (λw' hw'=>?_) ak ?_
     ·simp[go_sem,cS,hw'.2.2.1,hw'.2.2.2.1,hw'.2.2.2.2]
     refine au (.agg #[vI (t:Int),vI x.b,vI x.p,vI k,vI ee,vI v]) rfl rfl (λw' hw'=>?_) ak ?_
     ·simp[go_sem,cS]
     go_simp;refine bj rfl rfl ?_;have kd9:Calm w9 w9.drew:=ah.drew;have oN:=lH (Ps.out.calm kd9) (t:Int) x.b x.p k ee v;replace K9:=hid (K9.out.trans (cP.calm FD kd9));replace SQ:=SQ.calm kd9;replace Xw:=Xw.calm kd9;clear on9;go_wp2_with fail
     refine oN.mono ?_;rintro en Wv ⟨rfl,aL,ev',hN,tk',KN,abv⟩;clear oN;have q4n:=SQ.fr KN.fr (by rw[tx4];omega);have p7n:=Xw.fr KN.fr (by rw[tb7];omega);have y0n:=KN.fr.cellAt y0 (by show ¬(FD w1.heap.size<603);rw[tx5];omega);have y1n:=KN.fr.cellAt y1 (by show ¬(FD w1.heap.size<603);rw[tx5];omega);have wm:w.heap.size<w9.drew.heap.size:=SQ.lt (by simp);have T1:=q4n.whole (us:=[vI k,vI ee,vI v]) rfl;have F1:=sK Wv (w.heap.size) 0 [vI k,vI ee,vI v]
     have hP:Tl w τ s q mp S Q tv hv X ev.H t (.returned (cS k ee v)) (Wv.setCells w.heap.size 0 [vI k,vI ee,vI v]):=
      ⟨k,ee,v,rfl,aL,Sx,ev',x2,hN.own F1 (λb hb=>by rw[hb,tk' _ wm,tx4];omega),(K9.out.trans KN).own F1 (λb hb=>by omega),.inr ⟨by have:=of_decide_eq_false Uy.out;omega,KP.out,by rw[hx.out];exact hdd.out,by rw[abv,if_neg hk.out,hx.out];exact if_pos (by have:=of_decide_eq_false Uy.out;omega)⟩⟩
     replace hP:=hid hP;replace T1:=hid T1;obtain⟨zn0,zn1,zn2⟩:=af.mI p7n;obtain⟨yO,vW,yP,vX,yQ,vY⟩:=af.pG q4n;refine⟨⟨y0n,y1n,zn0,zn1,zn2⟩,eW ?_⟩;clear F1 hN KN SQ Xw q59 q4n p7n y0n y1n K9 Ps y0 y1 z0 z1 z2;go_simp;go_wp2;exact bodyPost_ret (MD (i:=4) rfl rfl T1.out) rfl hP.out
end
