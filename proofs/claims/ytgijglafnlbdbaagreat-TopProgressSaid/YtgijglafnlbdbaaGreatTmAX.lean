import Derived.Test.YtgijglafnlbdbaaGreatTmAW
set_option linter.all false
set_option maxHeartbeats 8000000
set_option maxRecDepth 8000
namespace Go.Proofs.YtgijglafnlbdbaaGreat
open RowKit Shelf Proofs.Tryz
open Go renaming World->ag,Value->aA,Calls->aJ
section
variable {w:ag}{τ:Nat->Nat}{s q:Nat}{S:aE}
def Rs(S:aE)(t:Int)(P:List (List Dd))(x x':bP)(k e:Int)(S':aE):Prop:=
 (k=0/\e=0/\x'=x/\S'=S/\(P.length:Int)<=x.b) \/
 (k=1/\x.live=false/\x.b<P.length/\XL S t P.length x x' e S') \/
 (k=3/\x.live=true/\x.b<P.length/\((P.getD x.b.toNat []).length:Int)<=x.p/\XO S t x x' e S') \/
 (k=2/\x.live=true/\x.b<P.length/\∃d,((P.getD x.b.toNat [])[x.p.toNat]?=some d)/\AO S t d e S'/\NW d x x' e)
def WI(w:ag)(τ:Nat->Nat)(s q:Nat)(S:aE)(t:Int)(P:List (List Dd))(x:bP)(en:Ending)(w':ag):Prop:=
 ∃ (x':bP) (k e v:Int),en=.returned (.tuple #[bQ x',cS k e v])/\ko P.length x'/\Nx w τ (s+1) q S w' (Rs S t P x x' k e)
theorem ko.dt{n:Nat}{x x':bP}{e:Int}(h:ko n x)(hb:x.b<n)(hp:x.p<50){d:Dd}(g:NW d x x' e):ko n x':=by
 obtain⟨xl,r1,r2,eb,ep,ev,el,g⟩:=g;have hv:xl.V.length=6:=by rw[ev];exact h.v
 have AH:∀a∈xl.V,a<=131072:=by rw[ev];exact h.vp
 have b0:=h.b;have p0:=h.p;have hl:xl.live=true->xl.b<n:=λ_=>by rw[eb];exact hb
 have z:(0:Int)<=0/\(0:Int)<=100:=by decide
 rcases g with ⟨rfl,_⟩|⟨_,_,rfl⟩
 ·unfold bP.fQ bP.back;split
  ·exact⟨by rw[<-eb] at b0;exact b0,⟨by show 0<=xl.p+1;omega,by show xl.p+1<=100;omega⟩,hl,r1,hv,r2,AH⟩
  ·split
   ·exact⟨by rw[<-eb] at b0;exact b0,z,(λe=>by cases e),hv,hv,AH,AH⟩
   ·split
    ·exact⟨⟨by show 0<=xl.b+1;omega,by show xl.b+1<=n;omega⟩,z,(λe=>by cases e),hv,hv,AH,AH⟩
    ·exact⟨by rw[<-eb] at b0;exact b0,⟨by show 0<=xl.p+1;omega,by show xl.p+1<=100;omega⟩,hl,r1,hv,r2,AH⟩
 ·exact⟨⟨by show 0<=x.b+1;omega,by show x.b+1<=n;omega⟩,z,(λe=>by cases e),h.v,h.v,h.vp,h.vp⟩
theorem Nw(h:St w τ s q S)(hs:s<100000)(hq:q<=100000)(t:Int)(ht:bX t){P:List (List Dd)}{v:aA}{T0:Nat->Prop}(Jo:gy T0 w v P)(hn:P.length<=100)(kI:∀b,b<P.length->(P.getD b []).length<=20)(hpr:∀b,b<P.length->∀d∈P.getD b [],d.Rt){x:bP}(hx:ko P.length x) :
 aJ prog 21 #[pV S.sp,vI t,v,bQ x] w (WI w τ s q S t P x):=by
 obtain⟨τ0,hf,tk,fr⟩:=h.fresh;obtain⟨W,eT,hW⟩:=vT w x;have hb7:=hW.z;obtain⟨va,vc,rfl,RW⟩:=Jo;have gG:=hid RW;clear RW;have jb:=hid hx;have Xf:=hid hx.p;replace kI:=hid kI;replace hpr:=hid hpr;have sP:=hid hn;have od:=FN W va P.length vc hn x;simp only[bQ,rg] at od;simp only[rg,aS] at eT;simp only[bQ,rg];have o7:=hW.o7;simp only[aX,rg] at o7;obtain⟨y0,y1,y2,y3,y4,y5,y6,y7,y8,y9,j_,kY,iL,jv,iM⟩:=af.lB o7;clear hx hn;go_in;go_wp2_with fail
 clear eT;refine od.mono ?_;rintro en w1 ⟨rfl,c1⟩;clear od o7 y0 y1 y2 y3 y4 y5 y6 y7 y8 y9 j_ kY iL jv iM;have tg:∀j,j<=2->500<=τ0 (w.heap.size+j):=λj hj=>by rw[fr _ (by omega)];omega
 have Hf:=hW.c.trans c1;have N8:=hf.calm Hf;have r7:=hW.o7.calm c1;have r8:=hW.o8.calm c1;have r9:=hW.o9.calm c1;have iT:w.heap.size+1+1<w1.heap.size:=r9.lt (by simp);have n1:Nx w1 τ0 (s+1) q S w1 (λS'=>S'=S):=Nx.mono (s2:=s+1) (q2:=q) (Nx.calm N8 ah (R:=λS'=>S'=S) rfl) (Nat.le_succ _) (aD _) (λ_ h=>h);simp only[aX,rg] at r7;obtain⟨u0,u1,u2,u3,u4,u5,u6,u7,u8,u9,QY,QZ,Q1,Q2,NF⟩:=af.lB r7
 by_cases hd:x.b<0\/(P.length:Int)<=x.b
 ·rw[decide_eq_true hd];have hX:=jb.out;obtain⟨y0,z0,y1,z1,y2,z2,y3,z3,y4,z4,y5,z5,y6,z6,y7,z7,y8,z8,y9,z9,j_,qB,kY,sI,iL,z12,jv,qM,iM,nT⟩:=af.kt r8;obtain⟨yO,vW,yP,vX,yQ,vY⟩:=af.pG r9;have T1:=r8.whole (us:=(aX x)) rfl;have F1:=sK w1 (w.heap.size+1) 0 (aX x);have U0:=r9.fr F1 (by omega);have U:=U0.whole (us:=[vI 0,vI 0,vI 0]) rfl;have F2:Fr (λk=>k=w.heap.size+1+1) (w1.setCells (w.heap.size+1) 0 (aX x)) ((w1.setCells (w.heap.size+1) 0 (aX x)).setCells (w.heap.size+1+1) 0 [vI 0,vI 0,vI 0]):=Fr.setCells (S:=λk=>k=w.heap.size+1+1) rfl _ _ ah;have T:=T1.fr F2 (by omega)
  have hF:Fr (λb=>w.heap.size<=b/\b<w1.heap.size) w1 ((w1.setCells (w.heap.size+1) 0 (aX x)).setCells (w.heap.size+1+1) 0 [vI 0,vI 0,vI 0]):=
   (F1.mono (λb _ e=>by omega)).trans (F2.mono (λb _ e=>by omega))
  have hP:WI w τ s q S t P x (.returned (.tuple #[bQ x,cS 0 0 0])) ((w1.setCells (w.heap.size+1) 0 (aX x)).setCells (w.heap.size+1+1) 0 [vI 0,vI 0,vI 0]):=⟨x,0,0,0,rfl,hX,(Nx.fin n1 Hf tk fr hF (λb hb=>hb)).mono (aD _) (aD _) (λS' e=>.inl ⟨rfl,rfl,rfl,e,by have:=hX.b;omega⟩)⟩;replace hP:=hid hP;replace T:=hid T;replace U:=hid U;clear T1 F1 U0 F2 hF
  try simp only[bQ,cS,rg]
  go_wp2;exact bodyPost_ret (v:=.tuple #[bQ x,cS 0 0 0]) (cC (i:=8) (j:=9) rfl rfl rfl T.out U.out) rfl hP.out
 ·rw[decide_eq_false hd];have qE:0<=x.b:=by omega
  have N4:x.b<P.length:=by omega
  have Ia:decide (x.p<0)=false:=by have:=Xf.out;simp;omega
  cases il:x.live with
  | false=>
    rw[il] at NF;have ob:=I0 N8 hq t ht sP.out jb.out N4 il;simp only[bQ,rg,il] at ob;replace il:=hid il;replace hd:=hid hd;go_wp2_with fail
    refine ob.mono ?_;rintro en w5 ⟨x2,e,v,rfl,hX,n5⟩;clear ob u0 u1 u2 u3 u4 u5 u6 u7 u8 u9 QY QZ Q1 Q2 NF;obtain⟨dW,S5,p1,p2,p3,p4⟩:=n5;have q8:=p2.bH r8 (tg 1 (by omega));have q9:=p2.bH r9 (tg 2 (by omega));have n5:Nx w1 τ0 (s+1) q S w5 (Rs S t P x x2 1 e):=Nx.mono (s2:=s+1) (q2:=q) (R:=XL S t P.length x x2 e) ⟨dW,S5,p1,p2,p3,p4⟩ (Nat.le_succ _) (aD _) (λ_ h=>.inr (.inl ⟨rfl,il.out,N4,h⟩));clear p1 p2 p3 p4 r7 r8 r9 n1;obtain⟨y0,z0,y1,z1,y2,z2,y3,z3,y4,z4,y5,z5,y6,z6,y7,z7,y8,z8,y9,z9,j_,qB,kY,sI,iL,z12,jv,qM,iM,nT⟩:=af.kt q8;obtain⟨yO,vW,yP,vX,yQ,vY⟩:=af.pG q9;have T1:=q8.whole (us:=(aX x2)) rfl;have F1:=sK w5 (w.heap.size+1) 0 (aX x2);have U0:=q9.fr F1 (by omega);have U:=U0.whole (us:=[vI 1,vI e,vI v]) rfl;have F2:Fr (λk=>k=w.heap.size+1+1) (w5.setCells (w.heap.size+1) 0 (aX x2)) ((w5.setCells (w.heap.size+1) 0 (aX x2)).setCells (w.heap.size+1+1) 0 [vI 1,vI e,vI v]):=Fr.setCells (S:=λk=>k=w.heap.size+1+1) rfl _ _ ah;have T:=T1.fr F2 (by omega)
    have hF:Fr (λb=>w.heap.size<=b/\b<w1.heap.size) w5 ((w5.setCells (w.heap.size+1) 0 (aX x2)).setCells (w.heap.size+1+1) 0 [vI 1,vI e,vI v]):=
     (F1.mono (λb _ e=>by omega)).trans (F2.mono (λb _ e=>by omega))
    have hP:WI w τ s q S t P x (.returned (.tuple #[bQ x2,cS 1 e v])) ((w5.setCells (w.heap.size+1) 0 (aX x2)).setCells (w.heap.size+1+1) 0 [vI 1,vI e,vI v]):=⟨x2,1,e,v,rfl,hX,Nx.fin n5 Hf tk fr hF (λb hb=>hb)⟩;replace hP:=hid hP;replace T:=hid T;replace U:=hid U;clear T1 F1 U0 F2 hF
    try simp only[bQ,cS,rg]
    go_wp2;exact bodyPost_ret (v:=.tuple #[bQ x2,cS 1 e v]) (cC (i:=8) (j:=9) rfl rfl rfl T.out U.out) rfl hP.out
  | true=>
    rw[il] at NF;obtain⟨b,PE⟩:∃b:Nat,x.b=b:=⟨x.b.toNat,by omega⟩;obtain⟨p,rU⟩:∃p:Nat,x.p=p:=⟨x.p.toNat,by have:=Xf.out;omega⟩;have xV:b<P.length:=by omega
    obtain⟨g,o,u,rfl,tg0,ku,hdd⟩:=gG.out b xV;have UG:=Hf.cellAt ku id;obtain⟨da,dc,rfl,UJ⟩:=hdd;have P1:=kI.out b xV;obtain⟨N,hN⟩:=ao ((P.getD b []).length);rw[hN] at ku UG UJ P1;replace UJ:=hid UJ;have u0':=u0;have u1':=u1;rw[PE] at u0';rw[rU] at u1' Ia
    by_cases hpN:N<=p
    ·have oc:=Fv N8 hq t ht sP.out jb.out N4;simp only[bQ,rg,il,PE,rU] at oc;have hX0:=jb;have KI:=hid PE;have Vf:=hid rU;clear N4 qE u0 u1;replace il:=hid il;replace hd:=hid hd;have hNh:=hid hN;clear PE rU P1 hN;go_wp2_with fail
     refine oc.mono ?_;rintro en w5 ⟨x2,e,v,rfl,hX,n5⟩;clear oc u0' u1' u2 u3 u4 u5 u6 u7 u8 u9 QY QZ Q1 Q2 NF;obtain⟨dW,S5,p1,p2,p3,p4⟩:=n5;have q8:=p2.bH r8 (tg 1 (by omega));have q9:=p2.bH r9 (tg 2 (by omega));have n5:Nx w1 τ0 (s+1) q S w5 (Rs S t P x x2 3 e):=Nx.mono (s2:=s+1) (q2:=q) (R:=XO S t x x2 e) ⟨dW,S5,p1,p2,p3,p4⟩ (Nat.le_succ _) (aD _) (λ_ h=>.inr (.inr (.inl ⟨rfl,il.out,by have:=KI.out;omega,by rw[KI.out,Vf.out];show(((P.getD b []).length:Nat):Int)<=(p:Int);have:=hNh.out;omega,h⟩)));clear p1 p2 p3 p4 r7 r8 r9 n1 ku UG;obtain⟨y0,z0,y1,z1,y2,z2,y3,z3,y4,z4,y5,z5,y6,z6,y7,z7,y8,z8,y9,z9,j_,qB,kY,sI,iL,z12,jv,qM,iM,nT⟩:=af.kt q8;obtain⟨yO,vW,yP,vX,yQ,vY⟩:=af.pG q9;have T1:=q8.whole (us:=(aX x2)) rfl;have F1:=sK w5 (w.heap.size+1) 0 (aX x2);have U0:=q9.fr F1 (by omega);have U:=U0.whole (us:=[vI 3,vI e,vI v]) rfl;have F2:Fr (λk=>k=w.heap.size+1+1) (w5.setCells (w.heap.size+1) 0 (aX x2)) ((w5.setCells (w.heap.size+1) 0 (aX x2)).setCells (w.heap.size+1+1) 0 [vI 3,vI e,vI v]):=Fr.setCells (S:=λk=>k=w.heap.size+1+1) rfl _ _ ah;have T:=T1.fr F2 (by omega)
     have hF:Fr (λb=>w.heap.size<=b/\b<w1.heap.size) w5 ((w5.setCells (w.heap.size+1) 0 (aX x2)).setCells (w.heap.size+1+1) 0 [vI 3,vI e,vI v]):=
      (F1.mono (λb _ e=>by omega)).trans (F2.mono (λb _ e=>by omega))
     have hP:WI w τ s q S t P x (.returned (.tuple #[bQ x2,cS 3 e v])) ((w5.setCells (w.heap.size+1) 0 (aX x2)).setCells (w.heap.size+1+1) 0 [vI 3,vI e,vI v]):=⟨x2,3,e,v,rfl,hX,Nx.fin n5 Hf tk fr hF (λb hb=>hb)⟩;replace hP:=hid hP;replace T:=hid T;replace U:=hid U;clear T1 F1 U0 F2 hF
     try simp only[bQ,cS,rg]
     go_wp2;exact bodyPost_ret (v:=.tuple #[bQ x2,cS 3 e v]) (cC (i:=8) (j:=9) rfl rfl rfl T.out U.out) rfl hP.out
    ·have abT:p<N:=by omega
     obtain⟨g2,o2,rfl,tg2,RU⟩:=UJ.out p abT;obtain⟨d,Zr⟩:=ao ((P.getD b []).getD p dD);rw[Zr] at RU;have hdm:d∈P.getD b []:=by rw[<-Zr];exact get_mem _ (by omega)
     have AF:=hpr.out b xV d hdm
     have KM:(P.getD x.b.toNat [])[x.p.toNat]?=some d:=by
      rw[PE,rU,<-Zr];show(P.getD b [])[p]?=some ((P.getD b []).getD p dD);exact(show ∀l:List Dd,p<l.length->l[p]?=some (l.getD p dD) from λl hl=>by rw[lQ hl];simp[aS,hl]) _ (by omega)
     have e0:=Hf.cellAt (RU 0 _ rfl) id;have e1:=Hf.cellAt (RU 1 _ rfl) id;have e2:=Hf.cellAt (RU 2 _ rfl) id;have e3:=Hf.cellAt (RU 3 _ rfl) id;have e4:=Hf.cellAt (RU 4 _ rfl) id;rw[fM] at e0;have k2:Calm w1 (w1.alloc (.cells #[vI d.k,vI d.a,vI d.b,vI d.i,vI d.n] 52)):=ah.alloc _;have oD:af (w1.alloc (.cells #[vI d.k,vI d.a,vI d.b,vI d.i,vI d.n] 52)) w1.heap.size (fW d):=af.kC w1 [_,_,_,_,_] _ _ rfl;have hX0:=jb;have KI:=hid PE;have Vf:=hid rU;have ac1:decide ((p:Int)>=(N:Int))=false:=by simp;omega
     clear N4 qE u0 u1 RU;have uH:=hid il;replace hd:=hid hd;clear PE rU hN il;replace KM:=hid KM;replace Zr:=hid Zr;go_upto_region 9 with fail
     generalize fI:w1.alloc (.cells #[vI d.k,vI d.a,vI d.b,vI d.i,vI d.n] 52)=W2 at *;have or:=CV W2 d AF;simp only[fX] at or;have oD0:=oD;simp only[fW] at oD0;obtain⟨f0,f1,f2,f3,f4⟩:=af.Yr oD0;clear oD0 e0 e1 e2 e3 e4 u0' u1' u2 u3 u4 u5 u6 u7 u8 u9 QY QZ Q1 Q2 NF;go_wp2_with fail
     refine or.mono ?_;rintro en w3 ⟨rfl,c3⟩;clear or f0 f1 f2 f3 f4 fI;have Bg:=k2.trans c3;have Tt:=Hf.trans Bg;have oD3:=oD.calm c3;simp only[fW] at oD3;obtain⟨f0,f1,f2,f3,f4⟩:=af.Yr oD3;have s7:=r7.calm Bg;have s8:=r8.calm Bg;have s9:=r9.calm Bg;rw[uH.out] at s7;obtain⟨u0,u1,u2,u3,u4,u5,u6,u7,u8,u9,QY,QZ,Q1,Q2,NF⟩:=af.lB s7;have od:=M4 (hf.calm Tt) hs hq (x:=x) ⟨⟨(jb.out.b).1,by have:=(jb.out.b).2;have:=sP.out;omega⟩,⟨Xf.out.1,by have:=Xf.out.2;omega⟩,jb.out.r,jb.out.rp⟩ t ht AF;simp only[bQ,rg,fX,uH.out] at od;go_wp2_with fail
     refine od.mono ?_;rintro en w5 ⟨x2,e,v,rfl,he,hX2,n5⟩;clear od f0 f1 f2 f3 f4 u0 u1 u2 u3 u4 u5 u6 u7 u8 u9 QY QZ Q1 Q2 NF;have hX:ko P.length x2:=jb.out.dt (by have:=KI.out;omega) (by have:=Vf.out;omega) hX2;obtain⟨dW,S5,p1,p2,p3,p4⟩:=n5;have q8:=p2.bH s8 (tg 1 (by omega));have q9:=p2.bH s9 (tg 2 (by omega));have n5:Nx w3 τ0 (s+1) q S w5 (Rs S t P x x2 2 e):=⟨dW,S5,p1,p2,p3,.inr (.inr (.inr ⟨rfl,uH.out,by have:=KI.out;omega,d,KM.out,p4,hX2⟩))⟩;have Og:w1.heap.size<=w3.heap.size:=Bg.size;clear p1 p2 p3 p4 r7 r8 r9 n1 ku UG s7 s8 s9 hX2;obtain⟨y0,z0,y1,z1,y2,z2,y3,z3,y4,z4,y5,z5,y6,z6,y7,z7,y8,z8,y9,z9,j_,qB,kY,sI,iL,z12,jv,qM,iM,nT⟩:=af.kt q8;obtain⟨yO,vW,yP,vX,yQ,vY⟩:=af.pG q9;have T1:=q8.whole (us:=(aX x2)) rfl;have F1:=sK w5 (w.heap.size+1) 0 (aX x2);have U0:=q9.fr F1 (by omega);have U:=U0.whole (us:=[vI 2,vI e,vI v]) rfl;have F2:Fr (λk=>k=w.heap.size+1+1) (w5.setCells (w.heap.size+1) 0 (aX x2)) ((w5.setCells (w.heap.size+1) 0 (aX x2)).setCells (w.heap.size+1+1) 0 [vI 2,vI e,vI v]):=Fr.setCells (S:=λk=>k=w.heap.size+1+1) rfl _ _ ah;have T:=T1.fr F2 (by omega)
     have hF:Fr (λb=>w.heap.size<=b/\b<w3.heap.size) w5 ((w5.setCells (w.heap.size+1) 0 (aX x2)).setCells (w.heap.size+1+1) 0 [vI 2,vI e,vI v]):=
      (F1.mono (λb _ e=>by omega)).trans (F2.mono (λb _ e=>by omega))
     have hP:WI w τ s q S t P x (.returned (.tuple #[bQ x2,cS 2 e v])) ((w5.setCells (w.heap.size+1) 0 (aX x2)).setCells (w.heap.size+1+1) 0 [vI 2,vI e,vI v]):=⟨x2,2,e,v,rfl,hX,Nx.fin n5 Tt tk fr hF (λb hb=>hb)⟩;replace hP:=hid hP;replace T:=hid T;replace U:=hid U;clear T1 F1 U0 F2 hF
     try simp only[bQ,cS,rg]
     go_wp2;exact bodyPost_ret (v:=.tuple #[bQ x2,cS 2 e v]) (cC (i:=8) (j:=9) rfl rfl rfl T.out U.out) rfl hP.out
end
