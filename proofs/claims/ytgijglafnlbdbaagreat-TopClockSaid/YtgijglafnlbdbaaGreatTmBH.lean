import Derived.Test.YtgijglafnlbdbaaGreatTmBG
set_option linter.all false
set_option maxHeartbeats 16000000
set_option maxRecDepth 8000
namespace Go.Proofs.YtgijglafnlbdbaaGreat
open RowKit Shelf Proofs.Tryz
open Go renaming World->aj,Value->aC,Calls->aL
theorem eQ.at{w1 w w':aj}{τ aX:Nat->Nat}(h:eQ w τ w' aX)(ht:∀b,b<w1.heap.size->τ b=1000)(c:Calm w1 w):(∀b,b<w1.heap.size->aX b=1000)/\Calm w1 w':=
 ⟨λb hb=>by have h1:=ht b hb;exact(h.tg b (Nat.lt_of_lt_of_le hb c.size) (by omega)).trans h1,c.join h.fr (λj hj e=>by have h1:=ht j hj;have e:τ j<603:=e;omega)⟩
theorem tL.rt{Q:Pg}(h:tL Q):∀t b,∀d∈bU Q t b,d.Rt:=λt b d hd=>by
 unfold bU at hd
 by_cases h1:t.toNat<Q.length
 ·by_cases h2:b.toNat<(Q.getD t.toNat []).length
  ·exact h.r _ h1 _ h2 d hd
  ·rw[gdB (by omega)] at hd;cases hd
 ·rw[show Q.getD t.toNat []=[] from gdB (by omega) _,gdB (by simp)] at hd;cases hd
theorem eq6(a b c d e f:Int)(W:aj):(Op.equalIn 10000 29 (.agg #[vI a,vI b,vI c,vI d,vI e,vI f]) (.agg #[vI a,vI b,vI c,vI d,vI e,vI f])).run prog W=.ok true W:=by
 obtain⟨i0,hi,ie,gU,iw⟩:=info_parts qe;rw[run_equalIn_array W 9999 _ _ Tryz.underlying29 hi,show prog.cellsOf 3=1 from by kernel_rfl];simp[Op.eqItems,show List.range 6=[0,1,2,3,4,5] from rfl,part,go_sem]
def QZ(w1:aj)(n mp:Nat)(Q:Pg)(tv hv:aC)(i:Nat)(wr:aj):Prop:=
 ∃τ S ev X,Mc wr τ i mp S Q tv hv ev X/\(∀b,b<w1.heap.size->τ b=1000)/\Calm w1 wr/\Eo Q n S ev.H X/\ev.H.length<=i
theorem QZ.mono{w1 wr:aj}{n mp i j:Nat}{Q:Pg}{tv hv:aC}(h:QZ w1 n mp Q tv hv i wr)(hj:i<=j):QZ w1 n mp Q tv hv j wr:=by
 obtain⟨τ,S,ev,X,h1,h2,h3,h4,h5⟩:=h;exact⟨τ,S,ev,X,h1.mono hj,h2,h3,h4,fH h5 hj⟩
def TcA(w1 w:aj)(τ:Nat->Nat)(n mp:Nat)(Q:Pg)(tv hv:aC)(i t:Nat)(S:aY)(X:List bT)(e:Ending)(w':aj):Prop:=
 ∃k ee v,e=.returned (cO k ee v)/\∃aX S' ev' X',Mc w' aX (i+1) mp S' Q tv hv ev' X'/\eQ w τ w' aX/\(∀b,b<w1.heap.size->aX b=1000)/\Calm w1 w'/\Eo Q n S' ev'.H X'/\ev'.H.length<=i+1 /\
  (k=1->(ee=0↔(Bt (vw S') t Q.length:Int)+1<=n-S'.now))/\(ee=120->k=1/\(X'.getD t d0).b=((Q.getD t []).length:Nat)/\((X'.getD t d0).ser (vw S')).R=((X.getD t d0).ser (vw S)).R)/\(S'.now:Int)<=n
theorem TcA.of{w1 w w':aj}{τ:Nat->Nat}{n mp i t:Nat}{Q:Pg}{tv hv:aC}{S:aY}{ev:Eh}{X:List bT}{e:Ending}(hQ:tL Q)(xg:t<Q.length)(hM:Mc w τ i mp S Q tv hv ev X)(ht:∀b,b<w1.heap.size->τ b=1000)(hc:Calm w1 w)(hI:Eo Q n S ev.H X)(hl:ev.H.length<=i)(hs:YM w τ i mp S Q tv hv X ev.H t e w'):TcA w1 w τ n mp Q tv hv i t S X e w':=by
 obtain⟨k,ee,v,rfl,aX,S',ev',x',h1,h2,h3,h4,h5⟩:=hs;have hX:X.length=Q.length:=hM.r.n;have h':=hI.step hQ.rt xg hX h3 h4;have a:=hI.ask h' xg hX h4;obtain⟨k1,k2⟩:=h2.at ht hc;have eg:(X.set t x').getD t d0=x':=qN (by omega) x' d0;refine⟨k,ee,v,rfl,aX,S',ev',X.set t x',h1,h2,k1,k2,by rw[h5];exact h',?_,a.1,by rw[eg];exact a.2.1,a.2.2⟩;rw[h5];split
 ·omega
 ·rw[cX];simp;omega
theorem topClock_walk(a:Int)(ha:cL a)(v1:aC)(Q0:List (List (List Dd)))(fF:Q0.length<=maxLen)(c:Int)(hc:cL c)(w:aj)(jF:dJ (λb=>b<w.heap.size) w v1 Q0)(ho:Z9 Q0) :
 aL prog 3 #[vI a,v1,vI c] w λe w'=>e=.returned (.bool true)/\Below w.heap.size w w':=by
 have xf:=BR jF ho;clear jF ho fF;go_in;go_wp2_with fail
 refine xf.mono ?_;rintro e w1 ⟨pv,Q,rfl,hQ,Bd,c1⟩;clear xf;obtain⟨NQ,ji⟩:=au Q.length;have abB:1<=NQ/\NQ<=4:=by rw[<-ji];exact Bd.n
 have hQ':=af hQ;obtain⟨pa,pc,rfl,hqg⟩:=hQ
 have hqg:Hid (∀t,t<NQ->∃g o bu bc,pa=some ⟨g,o,none⟩/\∀W,Calm w1 W->W.cell? ⟨g,o+t,none⟩=some (.slice bu (Q.getD t []).length bc)):=λt ht=>by
  obtain⟨g,o,u,h1,_,h3,bu,bc,h4,_⟩:=hqg t (by omega);exact⟨g,o,bu,bc,h1,λW c=>by rw[<-h4];exact c.cellAt h3 id⟩
 have RP:Hid (∀t,t<NQ->(Q.getD t []).length<=3):=λt ht=>Bd.b t (by omega);rw[ji] at hQ' ⊢;replace Bd:=af Bd;replace ji:=af ji;go_wp2_with fail
 refine(KQ a 9 _ ha (by decide)).mono ?_;rintro e w' ⟨⟨vv,rfl,vv1,vv2⟩,rfl⟩;obtain⟨n,rfl⟩:∃k:Nat,vv=k:=⟨vv.toNat,by omega⟩;have nK:=OD hQ'.out Bd.out 2000 (by omega) (by omega) 60 60 (n:Int) ⟨by omega,by omega⟩;go_wp2_with fail
 refine nK.mono ?_;rintro e w2 ⟨mp,τ,S,tv,hv,rfl,hM,ht,c2,hns,ES,H5⟩;clear nK;have um:Hid (QZ w1 n mp Q tv hv 0 w2):=⟨τ,S,_,_,hM,ht,c2,Eo.start hns ES H5,aM 0⟩;clear hM ht c2 hns ES H5;go_wp2_with fail
 go_loopw [11] (λz w'=>∃i:Nat,i<=40/\z=vI i/\QZ w1 n mp Q tv hv (4*i) w') (λz _=>41-(intOf z).toNat)
 case atStart=>exact⟨0,by omega,rfl,um.out⟩
 case round=>
  clear um;obtain⟨i,hi,rfl,hS⟩:=hrel;have hS:=af hS;go_wp2_with fail
  refine(KQ c 41 _ hc (by decide)).mono ?_;rintro e w' ⟨⟨r,rfl,r1,r2⟩,rfl⟩;obtain⟨r,rfl⟩:∃k:Nat,r=k:=⟨r.toNat,by omega⟩
  by_cases hir:i<r
  ·have dir:decide ((i:Int)<r)=true:=decide_eq_true (by omega);go_wp2_with fail
   go_loopw [12] (λz w'=>∃t:Nat,t<=NQ/\z=vI t/\QZ w1 n mp Q tv hv (4*i+t) w') (λz _=>4-(intOf z).toNat)
   case atStart=>exact⟨0,by omega,rfl,hS.out⟩
   case round=>
    clear hS;obtain⟨t,htn,rfl,hS⟩:=hrel
    by_cases zS:t<NQ
    ·have dtn:decide ((t:Int)<NQ)=true:=decide_eq_true (by omega);obtain⟨τ,S,ev,X,hM,ht,qP,hI,hl⟩:=hS;have xg:t<Q.length:=by rw[ji.out];exact zS
     have htX:t<X.length:=by rw[hM.r.n];exact xg
     obtain⟨τ0,Ut,YA,YU⟩:=hM.fresh;have Xc:=hI.rgd xg;have ot:=oQ Ut htX;obtain⟨y,hy⟩:=au ((X.getD t d0).ser (vw S));rw[hy] at ot;simp only[bO,rg] at ot;have Xn:∀b,b<w1.heap.size->τ0 b=1000:=λb hb=>(YA b (Nat.lt_of_lt_of_le hb qP.size)).trans (ht b hb);have aa1:t<S.bB.length:=by rw[hI.n];exact xg
     have hMh:=af Ut;have sJ:=af Xn;have dM:=af YU;have Wb:=af hI;have Zg:=af Xc;have hch:=af qP;have hyh:=af hy;clear hM Ut YA YU Xc ht Xn hI qP hy;go_wp2_with fail
     refine ot.mono ?_;rintro e w4 ⟨rfl,c4⟩;clear ot;have kA:Calm w4 (w4.alloc (.cells #[vI y.b,vI y.p,rg y.R 0,rg y.R 1,rg y.R 2,rg y.R 3,rg y.R 4,rg y.R 5,rg y.V 0,rg y.V 1,rg y.V 2,rg y.V 3,rg y.V 4,rg y.V 5,.bool y.live] 31)):=aq.alloc _;have oA:ag (w4.alloc (.cells #[vI y.b,vI y.p,rg y.R 0,rg y.R 1,rg y.R 2,rg y.R 3,rg y.R 4,rg y.R 5,rg y.V 0,rg y.V 1,rg y.V 2,rg y.V 3,rg y.V 4,rg y.V 5,.bool y.live] 31)) w4.heap.size (bq y):=ag.lI w4 [_,_,_,_,_,_,_,_,_,_,_,_,_,_,_] _ _ rfl;have UH:(w4.alloc (.cells #[vI y.b,vI y.p,rg y.R 0,rg y.R 1,rg y.R 2,rg y.R 3,rg y.R 4,rg y.R 5,rg y.V 0,rg y.V 1,rg y.V 2,rg y.V 3,rg y.V 4,rg y.V 5,.bool y.live] 31)).heap.size=w4.heap.size+1:=by simp
     simp only[rg,aS] at kA oA UH;go_upto_region 13 with fail
     generalize mW:w4.alloc (.cells #[vI y.b,vI y.p,vI ((y.R[0]?.getD 0:Nat):Int),vI ((y.R[1]?.getD 0:Nat):Int),vI ((y.R[2]?.getD 0:Nat):Int),vI ((y.R[3]?.getD 0:Nat):Int),vI ((y.R[4]?.getD 0:Nat):Int),vI ((y.R[5]?.getD 0:Nat):Int),vI ((y.V[0]?.getD 0:Nat):Int),vI ((y.V[1]?.getD 0:Nat):Int),vI ((y.V[2]?.getD 0:Nat):Int),vI ((y.V[3]?.getD 0:Nat):Int),vI ((y.V[4]?.getD 0:Nat):Int),vI ((y.V[5]?.getD 0:Nat):Int),.bool y.live] 31)=W5 at *;clear mW;obtain⟨YK,Nr⟩:=au w4.heap.size;have AG:wr.heap.size<=YK:=by rw[<-Nr];exact c4.size
     rw[Nr] at oA UH ⊢;have c5:Calm wr W5:=c4.trans kA;have os:=Km (hMh.out.calm c5) (by omega) htX aa1 Zg.out.2.1 Zg.out.1 Zg.out.2.2 (by omega);have Nr:=af Nr;clear c4 kA;go_wp2_with fail
     refine os.mono ?_;rintro e w6 hs;obtain⟨ak,ee,v,rfl,aX,S',ev',X',HJ,hK6,Zk,AO,V_,zQ,RG,Uo,YX⟩:=TcA.of Bd.out xg (hMh.out.calm c5) sJ.out (hch.out.trans c5) Wb.out hl hs;rw[hyh.out] at Uo;have oA6:ag w6 YK (bq y):=oA.fr hK6.fr (by show ¬τ0 YK<603;rw[dM.out YK AG];omega);clear os hs oA UH hK6 c5 hMh sJ dM Wb Zg hch hyh hl;simp only[cO];have aaX:t<X'.length:=by rw[HJ.r.n];exact xg
     obtain⟨kB,oB⟩:=gL w6 [vI ak,vI ee,vI v] 35;have HJ:=af HJ;have Zk:=af Zk;have AO:=af AO;have V_:=af V_;have RG:=af RG;have Uo:=af Uo;have YX:=af YX;go_upto_region 14 with fail
     generalize sU:w6.alloc (.cells #[vI ak,vI ee,vI v] 35)=W7 at *;clear sU;obtain⟨B15,RH⟩:=au w6.heap.size;rw[RH] at oB ⊢;have RH:=af RH;have ot:=oQ (HJ.out.calm kB) aaX;obtain⟨y2,Ie⟩:=au ((X'.getD t d0).ser (vw S'));rw[Ie] at ot Uo;simp only[bO,rg] at ot;have Mp:Hid (y2.b=(X'.getD t d0).b):=by rw[<-Ie];rfl
     have Ie:=af Ie;have oA7:=oA6.calm kB;clear oA6;go_wp2_with fail
     refine ot.mono ?_;rintro e w8 ⟨rfl,c8⟩;clear ot;have kC:Calm w8 (w8.alloc (.cells #[vI y2.b,vI y2.p,rg y2.R 0,rg y2.R 1,rg y2.R 2,rg y2.R 3,rg y2.R 4,rg y2.R 5,rg y2.V 0,rg y2.V 1,rg y2.V 2,rg y2.V 3,rg y2.V 4,rg y2.V 5,.bool y2.live] 31)):=aq.alloc _;have oC:ag (w8.alloc (.cells #[vI y2.b,vI y2.p,rg y2.R 0,rg y2.R 1,rg y2.R 2,rg y2.R 3,rg y2.R 4,rg y2.R 5,rg y2.V 0,rg y2.V 1,rg y2.V 2,rg y2.V 3,rg y2.V 4,rg y2.V 5,.bool y2.live] 31)) w8.heap.size (bq y2):=ag.lI w8 [_,_,_,_,_,_,_,_,_,_,_,_,_,_,_] _ _ rfl;simp only[rg,aS] at kC oC;go_upto_region 15 with fail
     generalize jn:w8.alloc (.cells #[vI y2.b,vI y2.p,vI ((y2.R[0]?.getD 0:Nat):Int),vI ((y2.R[1]?.getD 0:Nat):Int),vI ((y2.R[2]?.getD 0:Nat):Int),vI ((y2.R[3]?.getD 0:Nat):Int),vI ((y2.R[4]?.getD 0:Nat):Int),vI ((y2.R[5]?.getD 0:Nat):Int),vI ((y2.V[0]?.getD 0:Nat):Int),vI ((y2.V[1]?.getD 0:Nat):Int),vI ((y2.V[2]?.getD 0:Nat):Int),vI ((y2.V[3]?.getD 0:Nat):Int),vI ((y2.V[4]?.getD 0:Nat):Int),vI ((y2.V[5]?.getD 0:Nat):Int),.bool y2.live] 31)=W8 at *;clear jn;obtain⟨B16,RJ⟩:=au w8.heap.size;rw[RJ] at oC ⊢;have RJ:=af RJ;have k68:Calm w6 W8:=(kB.trans c8).trans kC;have Cy:=oA7.calm (c8.trans kC);have Zy:=oB.calm (c8.trans kC);have oy:=af (HJ.out.calm k68);have du:=af (AO.out.trans k68);clear kB c8 kC oB oA7 k68 HJ AO;go_wp2_with fail
     go_loopw [18,19] (λs18 z wq=>∃k:Nat,k<=NQ/\z=vI k/\s18=vI ((Bt (vw S') t k:Nat):Int)/\Calm W8 wq) (λ_ z _=>NQ-(intOf z).toNat)
     case atStart=>exact⟨0,by omega,rfl,rfl,aq⟩
     case round=>
      obtain⟨k,hk,rfl,rfl,cr⟩:=hrel;obtain⟨cnt,C1⟩:=au (Bt (vw S') t k);have hcb:cnt<=4:=by rw[<-C1];unfold Bt;exact fH List.countP_le_length (by rw[List.length_range];omega)
      rw[C1]
      by_cases Mk:k<NQ
      ·have dk:decide ((k:Int)<NQ)=true:=decide_eq_true (by omega);have hkQ:k<Q.length:=by rw[ji.out];exact Mk
       have ot:=oQ (oy.out.calm cr) (t:=k) (by rw[oy.out.r.n];exact hkQ);obtain⟨y3,J5⟩:=au ((X'.getD k d0).ser (vw S'));have pC:y3.live=((vw S').tx k).live:=by rw[<-J5];exact(V_.out.rgd hkQ).2.1
       have qd:=Ka (vw S') t k;rw[C1,<-pC] at qd;rw[J5] at ot;simp only[bO,rg] at ot;clear J5 pC C1;have qd:=af qd;go_wp2_with fail
       refine ot.mono ?_;rintro e wa ⟨rfl,ca⟩;clear ot;have kD:Calm wa (wa.alloc (.cells #[vI y3.b,vI y3.p,rg y3.R 0,rg y3.R 1,rg y3.R 2,rg y3.R 3,rg y3.R 4,rg y3.R 5,rg y3.V 0,rg y3.V 1,rg y3.V 2,rg y3.V 3,rg y3.V 4,rg y3.V 5,.bool y3.live] 31)):=aq.alloc _;have oD:ag (wa.alloc (.cells #[vI y3.b,vI y3.p,rg y3.R 0,rg y3.R 1,rg y3.R 2,rg y3.R 3,rg y3.R 4,rg y3.R 5,rg y3.V 0,rg y3.V 1,rg y3.V 2,rg y3.V 3,rg y3.V 4,rg y3.V 5,.bool y3.live] 31)) wa.heap.size (bq y3):=ag.lI wa [_,_,_,_,_,_,_,_,_,_,_,_,_,_,_] _ _ rfl;simp only[rg,aS] at kD oD;go_upto_region 20 with fail
       generalize hWD:wa.alloc (.cells #[vI y3.b,vI y3.p,vI ((y3.R[0]?.getD 0:Nat):Int),vI ((y3.R[1]?.getD 0:Nat):Int),vI ((y3.R[2]?.getD 0:Nat):Int),vI ((y3.R[3]?.getD 0:Nat):Int),vI ((y3.R[4]?.getD 0:Nat):Int),vI ((y3.R[5]?.getD 0:Nat):Int),vI ((y3.V[0]?.getD 0:Nat):Int),vI ((y3.V[1]?.getD 0:Nat):Int),vI ((y3.V[2]?.getD 0:Nat):Int),vI ((y3.V[3]?.getD 0:Nat):Int),vI ((y3.V[4]?.getD 0:Nat):Int),vI ((y3.V[5]?.getD 0:Nat):Int),.bool y3.live] 31)=WD at *;clear hWD;have vB:WD.cell? ⟨wa.heap.size,14,none⟩=some (.bool y3.live):=(oD 14 _ rfl).1;have hF:=af ((cr.trans ca).trans kD);clear oD kD ca cr
       by_cases jk:y3.live=true
       ·rw[jk] at vB
        by_cases HY:k=t
        ·have dn:((k:Int) != (t:Int))=false:=by simp[HY]
         have Sv:Hid (Bt (vw S') t (k+1)=cnt):=by show _=_;rw[qd.out,jk];simp[HY]
         clear jk qd HY;go_wp2;exact⟨⟨k+1,by omega,by simp,by rw[Sv.out],hF.out⟩,by simp[intOf] <;> omega⟩
        ·have dn:((k:Int) != (t:Int))=true:=by simp;omega
         have Sv:Hid (Bt (vw S') t (k+1)=cnt+1):=by show _=_;rw[qd.out,jk];simp[HY]
         clear jk qd HY;go_wp2;exact⟨⟨k+1,by omega,by simp,by rw[Sv.out];simp,hF.out⟩,by simp[intOf] <;> omega⟩
       ·have jk:y3.live=false:=by cases h:y3.live with
         | true=>exact absurd h jk
         | false=>rfl
        rw[jk] at vB;have Sv:Hid (Bt (vw S') t (k+1)=cnt):=by show _=_;rw[qd.out,jk];simp
        clear jk qd;go_wp2;exact⟨⟨k+1,by omega,by simp,by rw[Sv.out],hF.out⟩,by simp[intOf] <;> omega⟩
      ·obtain rfl:k=NQ:=by omega
       have dk:decide ((k:Int)<k)=false:=decide_eq_false (by omega);have hMr:=af (oy.out.calm cr);have hF:Hid (∀nq,QZ w1 n mp Q tv hv (4*i+(t+1)) (wr.drewN nq)):=λnq=>⟨aX,S',ev',X',hMr.out.calm (aq.drewN nq),Zk.out,(du.out.trans cr).drewN nq,V_.out,zQ⟩;have on:=af (λnq=>OE (hMr.out.calm (aq.drewN nq:Calm wr (wr.drewN nq))));obtain⟨nw,nK⟩:=au S'.now;rw[nK] at on;have aal:=YX.out;rw[nK] at aal;have yu:=RG.out;rw[ji.out,C1,nK] at yu;have Cy:=Cy.calm cr;have Zy:=Zy.calm cr;have Kv:=oC.calm cr;have dnw:decide ((nw:Int)>(n:Int))=false:=decide_eq_false (by omega);have yN:n<=8:=by omega
       obtain⟨g,o,bu,bc,rfl,iV⟩:=hqg.out t zS;have yb:=iV wr (du.out.trans cr);obtain⟨x0,x1,x2⟩:=ag.sP Zy;have Up:=Uo.out;replace C1:=af C1;replace nK:=af nK;clear iV cr oC Zy RG Uo YX hMr oy du V_ Zk
       by_cases P5:ak=1
       ·have e1:(ak==1)=true:=by simp[P5]
        have yu:=yu P5
        by_cases EI:ee=0
        ·have e2:(ee==0)=true:=by simp[EI]
         have e3:(ee==120)=false:=by simp[EI]
         have e4:decide ((cnt:Int)+1<=(n:Int)-(nw:Int))=true:=decide_eq_true (yu.1 EI);clear yu Up P5 EI Cy Kv yb;go_wp2_with fail
         go_quiet (exact Calls.quiet_of_same (on.out _))
         have hF:=af (hF.out nq);go_wp2;exact⟨⟨t+1,by omega,by simp,hF.out⟩,by simp[intOf] <;> omega⟩
        ·have e2:(ee==0)=false:=by simp[EI]
         have e4:decide ((cnt:Int)+1<=(n:Int)-(nw:Int))=false:=decide_eq_false (λh=>EI (yu.2 h))
         by_cases he:ee=120
         ·have e3:(ee==120)=true:=by simp[he]
          obtain⟨-,vt,hR2⟩:=Up he;have z0:=(Kv 0 _ rfl).1;rw[Mp.out,vt] at z0;have u0:=(Kv 2 _ rfl).1;have u1:=(Kv 3 _ rfl).1;have u2:=(Kv 4 _ rfl).1;have u3:=(Kv 5 _ rfl).1;have u4:=(Kv 6 _ rfl).1;have u5:=(Kv 7 _ rfl).1;have v0:=(Cy 2 _ rfl).1;have v1:=(Cy 3 _ rfl).1;have v2:=(Cy 4 _ rfl).1;have v3:=(Cy 5 _ rfl).1;have v4:=(Cy 6 _ rfl).1;have v5:=(Cy 7 _ rfl).1;simp only[rg] at u0 u1 u2 u3 u4 u5 v0 v1 v2 v3 v4 v5;rw[hR2] at u0 u1 u2 u3 u4 u5;obtain⟨r0,h0⟩:=au (((y.R.getD 0 0:Nat):Int):Int);obtain⟨r1',h1⟩:=au (((y.R.getD 1 0:Nat):Int):Int);obtain⟨r2',h2⟩:=au (((y.R.getD 2 0:Nat):Int):Int);obtain⟨r3,h3⟩:=au (((y.R.getD 3 0:Nat):Int):Int);obtain⟨r4,h4⟩:=au (((y.R.getD 4 0:Nat):Int):Int);obtain⟨r5,h5⟩:=au (((y.R.getD 5 0:Nat):Int):Int);rw[h0] at u0 v0;rw[h1] at u1 v1;rw[h2] at u2 v2;rw[h3] at u3 v3;rw[h4] at u4 v4;rw[h5] at u5 v5;obtain⟨LB,hLB⟩:=au ((Q.getD t []).length);rw[hLB] at z0 yb;have he6:=eq6 r0 r1' r2' r3 r4 r5;have fL:IntKind.i64.wrap ((n:Int)-(nw:Int))=(n:Int)-nw:=IntWalk.i64_in _ ⟨by omega,by omega⟩;have Bs:IntKind.i64.wrap ((cnt:Int)+1)=(cnt:Int)+1:=IntWalk.i64_in _ ⟨by omega,by omega⟩;clear yu Up P5 EI he vt hR2 Cy Kv h0 h1 h2 h3 h4 h5 hLB;go_wp2_with fail
          go_quiet (exact Calls.quiet_of_same (on.out _))
          have hF:=af (hF.out nq);go_wp2;exact⟨⟨t+1,by omega,by simp,hF.out⟩,by simp[intOf] <;> omega⟩
         ·have e3:(ee==120)=false:=by simp[he]
          clear yu Up P5 EI he Cy Kv yb;go_wp2_with fail
          go_quiet (exact Calls.quiet_of_same (on.out _))
          have hF:=af (hF.out nq);go_wp2;exact⟨⟨t+1,by omega,by simp,hF.out⟩,by simp[intOf] <;> omega⟩
       ·have e1:(ak==1)=false:=by simp[P5]
        have e3:(ee==120)=false:=by
         have:ee≠120:=λh=>P5 (Up h).1;simp[this]
        clear yu Up P5 Cy Kv yb;go_wp2_with fail
        go_quiet (exact Calls.quiet_of_same (on.out _))
        have hF:=af (hF.out nq);go_wp2;exact⟨⟨t+1,by omega,by simp,hF.out⟩,by simp[intOf] <;> omega⟩
    ·obtain rfl:t=NQ:=by omega
     have dtn:decide ((t:Int)<t)=false:=decide_eq_false (by omega);have hF:=af (hS.mono (show 4*i+t<=4*(i+1) by omega));clear hS;go_wp2;exact⟨⟨i+1,by omega,by simp,hF.out⟩,by simp[intOf] <;> omega⟩
  ·have dir:decide ((i:Int)<r)=false:=decide_eq_false (by omega);obtain⟨τ,S,ev,X,hM,ht,qP,hI,hl⟩:=hS.out;clear hS;have oh:=Kl hM;obtain⟨M,rr,wt,rL,mn⟩:=hI.ci;have ng:tries Q ev.H=some rr.tr:=by unfold tries;rw[mn];rfl
   obtain⟨ms,R2⟩:=rL.exp Bd.out.rt;have p_:(vw S).now<=n:=by have:=rL.cn;omega
   have Gq:Hid (∀aX w6,eQ wr τ w6 aX->Calm w1 w6):=λaX w6 k=>(k.at ht qP).2;have NR:=af hI.k;replace ng:=af ng;replace R2:=af R2;clear hM ht qP hI rL mn;go_wp2_with fail
   refine oh.mono ?_;rintro e w6 ⟨u,aX,rfl,HJ,dR,SE,Dw,hK⟩;clear oh;have AO:=Gq.out aX w6 hK;have oc:=Hq (hQ'.out.calm AO) Bd.out dR (by omega) ng.out NR.out R2.out (by omega);obtain⟨ua,un,uc,rfl⟩:∃a n c,u=.slice a n c:=by obtain⟨a,c,e⟩:=aG dR;exact⟨a,_,c,e⟩
   clear dR SE Dw hK HJ;go_wp2_with fail
   refine oc.mono ?_;rintro e w7 ⟨rfl,c7⟩;have hF:=af ((c1.trans AO).trans c7);clear oc c7;go_wp2;go_ret;exact⟨rfl,hF.out.below (aM _) (λ_ _ e=>e)⟩
