import Derived.Test.YtgijglafnlbdbaaGreatTmAT
set_option linter.all false
set_option maxHeartbeats 8000000
set_option maxRecDepth 8000
namespace Go.Proofs.YtgijglafnlbdbaaGreat
open RowKit Shelf Proofs.Tryz
open Go renaming World->aj,Value->aC,Calls->aL
section
variable {w:aj}{τ:Nat->Nat}{s:Nat}{S:aY}
def L6(S:aY)(t:Nat)(P:List (List Dd))(x x':bT)(k e v:Int)(S':aY):Prop:=
 (k=0/\e=0/\v=0/\x'=x/\vw S'=vw S/\(P.length:Int)<=x.b) \/
 (k=1/\x.live=false/\x.b<P.length/\Vb S t P.length x x' e v S') \/
 (k=3/\x.live=true/\x.b<P.length/\((P.getD x.b.toNat []).length:Int)<=x.p/\Ve S t x x' e v S') \/
 (k=2/\x.live=true/\x.b<P.length/\x.p<((P.getD x.b.toNat []).length:Nat)/\lC (vw S) t ((P.getD x.b.toNat []).getD x.p.toNat dD) x x' e v (vw S'))
def Uf(w:aj)(τ:Nat->Nat)(s:Nat)(S:aY)(t:Nat)(P:List (List Dd))(x:bT)(en:Ending)(w':aj):Prop:=
 ∃ (x':bT) (k e v:Int),en=.returned (.tuple #[bO x',cO k e v])/\kG P.length x'/\Nx w τ (s+1) S w' (L6 S t P x x' k e v)
theorem kG.dt{n:Nat}{x x':bT}{e:Int}(h:kG n x)(hb:x.b<n)(hp:x.p<50){d:Dd}(g:PI d x x' e):kG n x':=by
 obtain⟨xl,r1,r2,eb,ep,ev,el,g⟩:=g;have hv:xl.V.length=6:=by rw[ev];exact h.v
 have zT:∀a∈xl.V,a<=131072:=by rw[ev];exact h.vp
 have b0:=h.b;have p0:=h.p;have hl:xl.live=true->xl.b<n:=λ_=>by rw[eb];exact hb
 have z:(0:Int)<=0/\(0:Int)<=100:=by decide
 rcases g with ⟨rfl,_⟩|⟨_,_,rfl⟩
 ·unfold bT.cV bT.back;split
  ·exact⟨by rw[<-eb] at b0;exact b0,⟨by show 0<=xl.p+1;omega,by show xl.p+1<=100;omega⟩,hl,r1,hv,r2,zT⟩
  ·split
   ·exact⟨by rw[<-eb] at b0;exact b0,z,(λe=>by cases e),hv,hv,zT,zT⟩
   ·split
    ·exact⟨⟨by show 0<=xl.b+1;omega,by show xl.b+1<=n;omega⟩,z,(λe=>by cases e),hv,hv,zT,zT⟩
    ·exact⟨by rw[<-eb] at b0;exact b0,⟨by show 0<=xl.p+1;omega,by show xl.p+1<=100;omega⟩,hl,r1,hv,r2,zT⟩
 ·exact⟨⟨by show 0<=x.b+1;omega,by show x.b+1<=n;omega⟩,z,(λe=>by cases e),h.v,h.v,h.vp,h.vp⟩
theorem LR(h:St w τ s S)(hs:s<100000){t:Nat}(ht:t<S.bB.length){P:List (List Dd)}{v:aC}{T0:Nat->Prop}(Wg:fJ T0 w v P)(hn:P.length<=100)(Mm:∀b,b<P.length->(P.getD b []).length<=20)(ml:∀b,b<P.length->∀d∈P.getD b [],d.Rt){x:bT}(hx:kG P.length x)(EW:x.live=(S.tx t).live)(hg:wL S x)(oL:(S.tx t).live=true->(S.now:Int)<S.aW) :
 aL prog 21 #[pV S.sp,vI (t:Int),v,bO x] w (Uf w τ s S t P x):=by
 obtain⟨τ0,hf,tk,fr⟩:=h.fresh;replace EW:=af EW;replace hg:=af hg;replace oL:=af oL;obtain⟨W,fK,hW⟩:=uX w x;have Wp:=hW.z;obtain⟨va,vc,rfl,Qa⟩:=Wg;have dQ:=af Qa;clear Qa;have gK:=af hx;have Ze:=af hx.p;replace Mm:=af Mm;replace ml:=af ml;have H6:=af hn;have od:=M7 W va P.length vc hn x;simp only[bO,rg] at od;simp only[rg,aS] at fK;simp only[bO,rg];have o7:=hW.o7;simp only[bq,rg] at o7;obtain⟨y0,y1,y2,y3,y4,y5,y6,y7,y8,y9,lN,nB,nC,ko,kp⟩:=ag.nY o7;clear hx hn;go_in;go_wp2_with fail
 clear fK;refine od.mono ?_;rintro en w1 ⟨rfl,c1⟩;clear od o7 y0 y1 y2 y3 y4 y5 y6 y7 y8 y9 lN nB nC ko kp;have tg:∀j,j<=2->500<=τ0 (w.heap.size+j):=λj hj=>by rw[fr _ (by omega)];omega
 have Gc:=hW.c.trans c1;have WG:=hf.calm Gc;have r7:=hW.o7.calm c1;have r8:=hW.o8.calm c1;have r9:=hW.o9.calm c1;have gU:w.heap.size+1+1<w1.heap.size:=r9.lt (by simp);have n1:Nx w1 τ0 (s+1) S w1 (λS'=>S'=S):=Nx.mono (Nx.calm WG aq (R:=λS'=>S'=S) rfl) (Nat.le_succ _) (λ_ h=>h);simp only[bq,rg] at r7;obtain⟨u0,u1,u2,u3,u4,u5,u6,u7,u8,u9,Pq,Pr,Ps,Pu,wB⟩:=ag.nY r7
 by_cases hd:x.b<0\/(P.length:Int)<=x.b
 ·rw[decide_eq_true hd];have hX:=gK.out;obtain⟨y0,z0,y1,z1,y2,z2,y3,z3,y4,z4,y5,z5,y6,z6,y7,z7,y8,z8,y9,z9,lN,vo,nB,xR,nC,xS,ko,zL,kp,vB⟩:=ag.jU r8;obtain⟨wD,vC,wE,vD,wF,xT⟩:=ag.sR r9;have T1:=r8.whole (us:=(bq x)) rfl;have F1:=rG w1 (w.heap.size+1) 0 (bq x);have U0:=r9.fr F1 (by omega);have U:=U0.whole (us:=[vI 0,vI 0,vI 0]) rfl;have F2:Fr (λk=>k=w.heap.size+1+1) (w1.setCells (w.heap.size+1) 0 (bq x)) ((w1.setCells (w.heap.size+1) 0 (bq x)).setCells (w.heap.size+1+1) 0 [vI 0,vI 0,vI 0]):=Fr.setCells (S:=λk=>k=w.heap.size+1+1) rfl _ _ aq;have T:=T1.fr F2 (by omega)
  have hF:Fr (λb=>w.heap.size<=b/\b<w1.heap.size) w1 ((w1.setCells (w.heap.size+1) 0 (bq x)).setCells (w.heap.size+1+1) 0 [vI 0,vI 0,vI 0]):=
   (F1.mono (λb _ e=>by omega)).trans (F2.mono (λb _ e=>by omega))
  have hP:Uf w τ s S t P x (.returned (.tuple #[bO x,cO 0 0 0])) ((w1.setCells (w.heap.size+1) 0 (bq x)).setCells (w.heap.size+1+1) 0 [vI 0,vI 0,vI 0]):=⟨x,0,0,0,rfl,hX,(Nx.fin n1 Gc tk fr hF (λb hb=>hb)).mono (aM _) (λS' e=>.inl ⟨rfl,rfl,rfl,rfl,by rw[e],by have:=hX.b;omega⟩)⟩;replace hP:=af hP;replace T:=af T;replace U:=af U;clear T1 F1 U0 F2 hF
  try simp only[bO,cO,rg]
  go_wp2;exact bodyPost_ret (v:=.tuple #[bO x,cO 0 0 0]) (cd (i:=8) (j:=9) rfl rfl rfl T.out U.out) rfl hP.out
 ·rw[decide_eq_false hd];have mX:0<=x.b:=by omega
  have Mf:x.b<P.length:=by omega
  have hp1:decide (x.p<0)=false:=by have:=Ze.out;simp;omega
  cases jk:x.live with
  | false=>
    rw[jk] at wB;have ob:=Hc WG ht (EW.out.symm.trans jk) H6.out gK.out Mf jk;simp only[bO,rg,jk] at ob;replace jk:=af jk;replace hd:=af hd;go_wp2_with fail
    refine ob.mono ?_;rintro en w5 ⟨x2,e,v,rfl,hX,n5⟩;clear ob u0 u1 u2 u3 u4 u5 u6 u7 u8 u9 Pq Pr Ps Pu wB;obtain⟨fB,S5,p1,p2,p3,p4⟩:=n5;have q8:=p2.bw r8 (tg 1 (by omega));have q9:=p2.bw r9 (tg 2 (by omega));have n5:Nx w1 τ0 (s+1) S w5 (L6 S t P x x2 1 e v):=Nx.mono (R:=Vb S t P.length x x2 e v) ⟨fB,S5,p1,p2,p3,p4⟩ (Nat.le_succ _) (λ_ h=>.inr (.inl ⟨rfl,jk.out,Mf,h⟩));clear p1 p2 p3 p4 r7 r8 r9 n1;obtain⟨y0,z0,y1,z1,y2,z2,y3,z3,y4,z4,y5,z5,y6,z6,y7,z7,y8,z8,y9,z9,lN,vo,nB,xR,nC,xS,ko,zL,kp,vB⟩:=ag.jU q8;obtain⟨wD,vC,wE,vD,wF,xT⟩:=ag.sR q9;have T1:=q8.whole (us:=(bq x2)) rfl;have F1:=rG w5 (w.heap.size+1) 0 (bq x2);have U0:=q9.fr F1 (by omega);have U:=U0.whole (us:=[vI 1,vI e,vI v]) rfl;have F2:Fr (λk=>k=w.heap.size+1+1) (w5.setCells (w.heap.size+1) 0 (bq x2)) ((w5.setCells (w.heap.size+1) 0 (bq x2)).setCells (w.heap.size+1+1) 0 [vI 1,vI e,vI v]):=Fr.setCells (S:=λk=>k=w.heap.size+1+1) rfl _ _ aq;have T:=T1.fr F2 (by omega)
    have hF:Fr (λb=>w.heap.size<=b/\b<w1.heap.size) w5 ((w5.setCells (w.heap.size+1) 0 (bq x2)).setCells (w.heap.size+1+1) 0 [vI 1,vI e,vI v]):=
     (F1.mono (λb _ e=>by omega)).trans (F2.mono (λb _ e=>by omega))
    have hP:Uf w τ s S t P x (.returned (.tuple #[bO x2,cO 1 e v])) ((w5.setCells (w.heap.size+1) 0 (bq x2)).setCells (w.heap.size+1+1) 0 [vI 1,vI e,vI v]):=⟨x2,1,e,v,rfl,hX,Nx.fin n5 Gc tk fr hF (λb hb=>hb)⟩;replace hP:=af hP;replace T:=af T;replace U:=af U;clear T1 F1 U0 F2 hF
    try simp only[bO,cO,rg]
    go_wp2;exact bodyPost_ret (v:=.tuple #[bO x2,cO 1 e v]) (cd (i:=8) (j:=9) rfl rfl rfl T.out U.out) rfl hP.out
  | true=>
    rw[jk] at wB;obtain⟨b,lR⟩:∃b:Nat,x.b=b:=⟨x.b.toNat,by omega⟩;obtain⟨p,EU⟩:∃p:Nat,x.p=p:=⟨x.p.toNat,by have:=Ze.out;omega⟩;have sW:b<P.length:=by omega
    obtain⟨g,o,u,rfl,Yy,kL,hdd⟩:=dQ.out b sW;have RY:=Gc.cellAt kL id;obtain⟨da,dc,rfl,yH⟩:=hdd;have Xa:=Mm.out b sW;obtain⟨N,hN⟩:=au ((P.getD b []).length);rw[hN] at kL RY yH Xa;replace yH:=af yH;have u0':=u0;have u1':=u1;rw[lR] at u0';rw[EU] at u1' hp1
    by_cases hpN:N<=p
    ·have oc:=D7 WG ht (EW.out.symm.trans jk) (oL.out (EW.out.symm.trans jk)) H6.out gK.out Mf;simp only[bO,rg,jk,lR,EU] at oc;have hX0:=gK;have Jr:=af lR;have Sr:=af EU;clear Mf mX u0 u1;replace jk:=af jk;replace hd:=af hd;have hNh:=af hN;clear lR EU Xa hN;go_wp2_with fail
     refine oc.mono ?_;rintro en w5 ⟨x2,e,v,rfl,hX,n5⟩;clear oc u0' u1' u2 u3 u4 u5 u6 u7 u8 u9 Pq Pr Ps Pu wB;obtain⟨fB,S5,p1,p2,p3,p4⟩:=n5;have q8:=p2.bw r8 (tg 1 (by omega));have q9:=p2.bw r9 (tg 2 (by omega));have n5:Nx w1 τ0 (s+1) S w5 (L6 S t P x x2 3 e v):=Nx.mono (R:=Ve S t x x2 e v) ⟨fB,S5,p1,p2,p3,p4⟩ (Nat.le_succ _) (λ_ h=>.inr (.inr (.inl ⟨rfl,jk.out,by have:=Jr.out;omega,by rw[Jr.out,Sr.out];show(((P.getD b []).length:Nat):Int)<=(p:Int);have:=hNh.out;omega,h⟩)));clear p1 p2 p3 p4 r7 r8 r9 n1 kL RY;obtain⟨y0,z0,y1,z1,y2,z2,y3,z3,y4,z4,y5,z5,y6,z6,y7,z7,y8,z8,y9,z9,lN,vo,nB,xR,nC,xS,ko,zL,kp,vB⟩:=ag.jU q8;obtain⟨wD,vC,wE,vD,wF,xT⟩:=ag.sR q9;have T1:=q8.whole (us:=(bq x2)) rfl;have F1:=rG w5 (w.heap.size+1) 0 (bq x2);have U0:=q9.fr F1 (by omega);have U:=U0.whole (us:=[vI 3,vI e,vI v]) rfl;have F2:Fr (λk=>k=w.heap.size+1+1) (w5.setCells (w.heap.size+1) 0 (bq x2)) ((w5.setCells (w.heap.size+1) 0 (bq x2)).setCells (w.heap.size+1+1) 0 [vI 3,vI e,vI v]):=Fr.setCells (S:=λk=>k=w.heap.size+1+1) rfl _ _ aq;have T:=T1.fr F2 (by omega)
     have hF:Fr (λb=>w.heap.size<=b/\b<w1.heap.size) w5 ((w5.setCells (w.heap.size+1) 0 (bq x2)).setCells (w.heap.size+1+1) 0 [vI 3,vI e,vI v]):=
      (F1.mono (λb _ e=>by omega)).trans (F2.mono (λb _ e=>by omega))
     have hP:Uf w τ s S t P x (.returned (.tuple #[bO x2,cO 3 e v])) ((w5.setCells (w.heap.size+1) 0 (bq x2)).setCells (w.heap.size+1+1) 0 [vI 3,vI e,vI v]):=⟨x2,3,e,v,rfl,hX,Nx.fin n5 Gc tk fr hF (λb hb=>hb)⟩;replace hP:=af hP;replace T:=af T;replace U:=af U;clear T1 F1 U0 F2 hF
     try simp only[bO,cO,rg]
     go_wp2;exact bodyPost_ret (v:=.tuple #[bO x2,cO 3 e v]) (cd (i:=8) (j:=9) rfl rfl rfl T.out U.out) rfl hP.out
    ·have aaP:p<N:=by omega
     obtain⟨g2,o2,rfl,tg2,oI⟩:=yH.out p aaP;obtain⟨d,Wx⟩:=au ((P.getD b []).getD p dD);rw[Wx] at oI;have hdm:d∈P.getD b []:=by rw[<-Wx];exact get_mem _ (by omega)
     have oP:=ml.out b sW d hdm
     have HQ:(P.getD x.b.toNat []).getD x.p.toNat dD=d/\x.p<((P.getD x.b.toNat []).length:Nat):=by
      rw[lR,EU,<-Wx];exact⟨rfl,by show(p:Int)<((P.getD b []).length:Nat);omega⟩
     have e0:=Gc.cellAt (oI 0 _ rfl) id;have e1:=Gc.cellAt (oI 1 _ rfl) id;have e2:=Gc.cellAt (oI 2 _ rfl) id;have e3:=Gc.cellAt (oI 3 _ rfl) id;have e4:=Gc.cellAt (oI 4 _ rfl) id;rw[fj] at e0;have k2:Calm w1 (w1.alloc (.cells #[vI d.k,vI d.a,vI d.b,vI d.i,vI d.n] 52)):=aq.alloc _;have oD:ag (w1.alloc (.cells #[vI d.k,vI d.a,vI d.b,vI d.i,vI d.n] 52)) w1.heap.size (eZ d):=ag.lI w1 [_,_,_,_,_] _ _ rfl;have hX0:=gK;have Jr:=af lR;have Sr:=af EU;have abS:decide ((p:Int)>=(N:Int))=false:=by simp;omega
     clear Mf mX u0 u1 oI;have NW:=af jk;replace hd:=af hd;clear lR EU hN jk;replace HQ:=af HQ;replace Wx:=af Wx;go_upto_region 9 with fail
     generalize iA:w1.alloc (.cells #[vI d.k,vI d.a,vI d.b,vI d.i,vI d.n] 52)=W2 at *;have or:=qo W2 d oP;simp only[e_] at or;have oD0:=oD;simp only[eZ] at oD0;obtain⟨f0,f1,f2,f3,f4⟩:=ag.Eu oD0;clear oD0 e0 e1 e2 e3 e4 u0' u1' u2 u3 u4 u5 u6 u7 u8 u9 Pq Pr Ps Pu wB;go_wp2_with fail
     refine or.mono ?_;rintro en w3 ⟨rfl,c3⟩;clear or f0 f1 f2 f3 f4 iA;have IM:=k2.trans c3;have yg:=Gc.trans IM;have oD3:=oD.calm c3;simp only[eZ] at oD3;obtain⟨f0,f1,f2,f3,f4⟩:=ag.Eu oD3;have s7:=r7.calm IM;have s8:=r8.calm IM;have s9:=r9.calm IM;rw[NW.out] at s7;obtain⟨u0,u1,u2,u3,u4,u5,u6,u7,u8,u9,Pq,Pr,Ps,Pu,wB⟩:=ag.nY s7;have od:=Lu (hf.calm yg) hs (x:=x) ⟨⟨(gK.out.b).1,by have:=(gK.out.b).2;have:=H6.out;omega⟩,⟨Ze.out.1,by have:=Ze.out.2;omega⟩,gK.out.r,gK.out.rp⟩ hg.out ht (EW.out.symm.trans NW.out) oP;simp only[bO,rg,e_,NW.out] at od;go_wp2_with fail
     refine od.mono ?_;rintro en w5 ⟨x2,e,v,rfl,he,hX2,n5⟩;clear od f0 f1 f2 f3 f4 u0 u1 u2 u3 u4 u5 u6 u7 u8 u9 Pq Pr Ps Pu wB;have hX:kG P.length x2:=gK.out.dt (by have:=Jr.out;omega) (by have:=Sr.out;omega) hX2;obtain⟨fB,S5,p1,p2,p3,p4⟩:=n5;have q8:=p2.bw s8 (tg 1 (by omega));have q9:=p2.bw s9 (tg 2 (by omega));have n5:Nx w3 τ0 (s+1) S w5 (L6 S t P x x2 2 e v):=⟨fB,S5,p1,p2,p3,.inr (.inr (.inr ⟨rfl,NW.out,by have:=Jr.out;omega,HQ.out.2,by rw[HQ.out.1];exact p4⟩))⟩;have Mr:w1.heap.size<=w3.heap.size:=IM.size;clear p1 p2 p3 p4 r7 r8 r9 n1 kL RY s7 s8 s9 hX2;obtain⟨y0,z0,y1,z1,y2,z2,y3,z3,y4,z4,y5,z5,y6,z6,y7,z7,y8,z8,y9,z9,lN,vo,nB,xR,nC,xS,ko,zL,kp,vB⟩:=ag.jU q8;obtain⟨wD,vC,wE,vD,wF,xT⟩:=ag.sR q9;have T1:=q8.whole (us:=(bq x2)) rfl;have F1:=rG w5 (w.heap.size+1) 0 (bq x2);have U0:=q9.fr F1 (by omega);have U:=U0.whole (us:=[vI 2,vI e,vI v]) rfl;have F2:Fr (λk=>k=w.heap.size+1+1) (w5.setCells (w.heap.size+1) 0 (bq x2)) ((w5.setCells (w.heap.size+1) 0 (bq x2)).setCells (w.heap.size+1+1) 0 [vI 2,vI e,vI v]):=Fr.setCells (S:=λk=>k=w.heap.size+1+1) rfl _ _ aq;have T:=T1.fr F2 (by omega)
     have hF:Fr (λb=>w.heap.size<=b/\b<w3.heap.size) w5 ((w5.setCells (w.heap.size+1) 0 (bq x2)).setCells (w.heap.size+1+1) 0 [vI 2,vI e,vI v]):=
      (F1.mono (λb _ e=>by omega)).trans (F2.mono (λb _ e=>by omega))
     have hP:Uf w τ s S t P x (.returned (.tuple #[bO x2,cO 2 e v])) ((w5.setCells (w.heap.size+1) 0 (bq x2)).setCells (w.heap.size+1+1) 0 [vI 2,vI e,vI v]):=⟨x2,2,e,v,rfl,hX,Nx.fin n5 yg tk fr hF (λb hb=>hb)⟩;replace hP:=af hP;replace T:=af T;replace U:=af U;clear T1 F1 U0 F2 hF
     try simp only[bO,cO,rg]
     go_wp2;exact bodyPost_ret (v:=.tuple #[bO x2,cO 2 e v]) (cd (i:=8) (j:=9) rfl rfl rfl T.out U.out) rfl hP.out
end
