import Derived.Test.YtgijglafnlbdbaaGreatTmAV
set_option linter.all false
set_option maxHeartbeats 8000000
set_option maxRecDepth 8000
namespace Go.Proofs.YtgijglafnlbdbaaGreat
open RowKit Shelf Proofs.Tryz
open Go renaming World->ag,Value->aA,Calls->aJ
section
variable {w:ag}{τ:Nat->Nat}{s q:Nat}{S:aE}
theorem I2(h:St w τ s q S)(hs:s<100000)(hq:q<=100000){x:bP}(hx:yV x)(t:Int)(ht:bX t){a b:Nat}(lT:a<6)(kG:b<6) :
 aJ prog 45 #[pV S.sp,vI t,fX ⟨11,a,b,0,0⟩,bQ x] w (oP w τ s q S t ⟨11,a,b,0,0⟩ x):=by
 obtain⟨τ0,hf,tk,fr⟩:=h.fresh;have cM:=cF;have iQ:=dP;obtain⟨W,eT,hW⟩:=ey w S ⟨11,a,b,0,0⟩ x;simp only[] at eT hW;have qQ:=(hW.o6 1 _ rfl).1;have qR:=(hW.o6 2 _ rfl).1;have qU:=(hW.o6 0 _ rfl).1;have ly:=(hW.o7 (2+a) _ (cG lT)).1;have lz:=(hW.o7 (2+b) _ (cG kG)).1;have a0:(0:Int)<=a:=by omega
 have a1:(a:Int)<6:=by omega
 have b0:(0:Int)<=b:=by omega
 have b1:(b:Int)<6:=by omega
 simp only[rg,cL,aS] at eT ly lz;simp only[fX,bQ,rg];go_in;go_wp2_with fail
 go_quiet (fail)
 clear eT cM iQ qQ qR ly lz;have hV:tR w (W.drewN nq) S ⟨11,a,b,0,0⟩ x:=hW.calm (ah.drewN nq) rfl;clear hW qU;generalize W.drewN nq=W' at *;have y4:=(hV.o4 0 _ rfl).1;have tN:=(hV.o6 0 _ rfl).1;have pD:=(hV.o6 3 _ rfl).1;have pE:=(hV.o6 4 _ rfl).1;have yF:=(hV.oF 0 _ rfl).1;have aM:∀j,j<=5->w.heap.size+j<W'.heap.size:=λj hj=>by rw[hV.z];omega
 have ky:=hx.at b;have kx:=hx.at a;rw[aS] at kx ky;obtain⟨pb,cj⟩:=ao (x.R[b]?.getD 0);obtain⟨pa,cB⟩:=ao (x.R[a]?.getD 0);rw[cj] at ky;rw[cB] at kx;rw[cj,cB];replace cj:=hid cj;replace cB:=hid cB
 by_cases heq:pa=pb
 ·have ee:((pa:Int)==(pb:Int))=true:=by simp[heq]
  replace heq:=hid heq;have q8:=hV.o8;have q9:=hV.o9;have ol:=iC hV.o7 hx.b hx.p 1 0;clear y4 pD pE;simp only[cL] at yF;go_wp2_with fail
  refine ol.mono ?_;rintro en w6 ⟨rfl,k6⟩;clear ol yF;have kX:=q8.calm k6;have lK:=q9.calm k6;have hX:=(⟨x,hx.r,hx.rp,rfl,rfl,rfl,rfl,.inl ⟨rfl,by simp⟩⟩:NW ⟨11,a,b,0,0⟩ x (x.fQ 0) 0);generalize (x:bP).fQ 0=x2 at *;obtain⟨v2,dK⟩:=ao ((if (0:Int)=0 then (1:Int) else 0):Int);rw[dK];replace dK:=hid dK;simp only[bQ,cS,rg];obtain⟨y0,z0,y1,z1,y2,z2,y3,z3,y4,z4,y5,z5,y6,z6,y7,z7,y8,z8,y9,z9,j_,qB,kY,sI,iL,z12,jv,qM,iM,nT⟩:=af.kt kX;obtain⟨yO,vW,yP,vX,yQ,vY⟩:=af.pG lK;have T1:=kX.whole (us:=(aX x2)) rfl;have F1:=sK w6 (w.heap.size+1+1+1) 0 (aX x2);have U0:=lK.fr F1 (by omega);have U:=U0.whole (us:=[vI 2,vI 0,vI v2]) rfl;have F2:Fr (λk=>k=w.heap.size+1+1+1+1) (w6.setCells (w.heap.size+1+1+1) 0 (aX x2)) ((w6.setCells (w.heap.size+1+1+1) 0 (aX x2)).setCells (w.heap.size+1+1+1+1) 0 [vI 2,vI 0,vI v2]):=Fr.setCells (S:=λk=>k=w.heap.size+1+1+1+1) rfl _ _ ah;have T:=T1.fr F2 (by omega)
  have hF:Fr (λb=>w.heap.size<=b/\b<W'.heap.size) W' ((w6.setCells (w.heap.size+1+1+1) 0 (aX x2)).setCells (w.heap.size+1+1+1+1) 0 [vI 2,vI 0,vI v2]):=
   (((Fr.refl (λb=>w.heap.size<=b/\b<W'.heap.size) W').trans (Calm.any k6)).trans (F1.mono (λb _ e=>by have:=aM 3 (by omega);omega))).trans (F2.mono (λb _ e=>by have:=aM 4 (by omega);omega))
  have hP:oP w τ s q S t ⟨11,a,b,0,0⟩ x (.returned (.tuple #[bQ x2,cS 2 0 v2])) ((w6.setCells (w.heap.size+1+1+1) 0 (aX x2)).setCells (w.heap.size+1+1+1+1) 0 [vI 2,vI 0,vI v2]):=⟨x2,0,v2,rfl,by decide,hX,gD hV tk fr (Nx.mono (s2:=s+1) (q2:=q) (Nx.calm (hf.calm hV.c) ah (R:=AO S t ⟨11,a,b,0,0⟩ 0) (.inl ⟨by simp,Jd.same _ _⟩)) (Nat.le_succ _) (aD _) (λ_ h=>h)) hF⟩;replace hP:=hid hP;replace T:=hid T;replace U:=hid U;clear T1 F1 U0 F2 hF hX q8 q9;go_wp2;exact bodyPost_ret (v:=.tuple #[bQ x2,cS 2 0 v2]) (cC (i:=8) (j:=9) rfl rfl rfl T.out U.out) rfl hP.out
 ·have ee:((pa:Int)==(pb:Int))=false:=by simp;omega
  have q8:=hV.o8;have q9:=hV.o9;have ol:=iC hV.o7 hx.b hx.p 0 0;clear y4 pD pE;simp only[cL] at yF;go_wp2_with fail
  refine ol.mono ?_;rintro en w6 ⟨rfl,k6⟩;clear ol yF;have kX:=q8.calm k6;have lK:=q9.calm k6;have hX:=(⟨x,hx.r,hx.rp,rfl,rfl,rfl,rfl,.inl ⟨rfl,by simp⟩⟩:NW ⟨11,a,b,0,0⟩ x (x.fQ 0) 0);generalize (x:bP).fQ 0=x2 at *;obtain⟨v2,dK⟩:=ao ((if (0:Int)=0 then (0:Int) else 0):Int);rw[dK];replace dK:=hid dK;simp only[bQ,cS,rg];obtain⟨y0,z0,y1,z1,y2,z2,y3,z3,y4,z4,y5,z5,y6,z6,y7,z7,y8,z8,y9,z9,j_,qB,kY,sI,iL,z12,jv,qM,iM,nT⟩:=af.kt kX;obtain⟨yO,vW,yP,vX,yQ,vY⟩:=af.pG lK;have T1:=kX.whole (us:=(aX x2)) rfl;have F1:=sK w6 (w.heap.size+1+1+1) 0 (aX x2);have U0:=lK.fr F1 (by omega);have U:=U0.whole (us:=[vI 2,vI 0,vI v2]) rfl;have F2:Fr (λk=>k=w.heap.size+1+1+1+1) (w6.setCells (w.heap.size+1+1+1) 0 (aX x2)) ((w6.setCells (w.heap.size+1+1+1) 0 (aX x2)).setCells (w.heap.size+1+1+1+1) 0 [vI 2,vI 0,vI v2]):=Fr.setCells (S:=λk=>k=w.heap.size+1+1+1+1) rfl _ _ ah;have T:=T1.fr F2 (by omega)
  have hF:Fr (λb=>w.heap.size<=b/\b<W'.heap.size) W' ((w6.setCells (w.heap.size+1+1+1) 0 (aX x2)).setCells (w.heap.size+1+1+1+1) 0 [vI 2,vI 0,vI v2]):=
   (((Fr.refl (λb=>w.heap.size<=b/\b<W'.heap.size) W').trans (Calm.any k6)).trans (F1.mono (λb _ e=>by have:=aM 3 (by omega);omega))).trans (F2.mono (λb _ e=>by have:=aM 4 (by omega);omega))
  have hP:oP w τ s q S t ⟨11,a,b,0,0⟩ x (.returned (.tuple #[bQ x2,cS 2 0 v2])) ((w6.setCells (w.heap.size+1+1+1) 0 (aX x2)).setCells (w.heap.size+1+1+1+1) 0 [vI 2,vI 0,vI v2]):=⟨x2,0,v2,rfl,by decide,hX,gD hV tk fr (Nx.mono (s2:=s+1) (q2:=q) (Nx.calm (hf.calm hV.c) ah (R:=AO S t ⟨11,a,b,0,0⟩ 0) (.inl ⟨by simp,Jd.same _ _⟩)) (Nat.le_succ _) (aD _) (λ_ h=>h)) hF⟩;replace hP:=hid hP;replace T:=hid T;replace U:=hid U;clear T1 F1 U0 F2 hF hX q8 q9;go_wp2;exact bodyPost_ret (v:=.tuple #[bQ x2,cS 2 0 v2]) (cC (i:=8) (j:=9) rfl rfl rfl T.out U.out) rfl hP.out
theorem I3(h:St w τ s q S)(hs:s<100000)(hq:q<=100000){x:bP}(hx:yV x)(t:Int)(ht:bX t){a b:Nat}(lT:a<6)(kG:b<6) :
 aJ prog 45 #[pV S.sp,vI t,fX ⟨12,a,b,0,0⟩,bQ x] w (oP w τ s q S t ⟨12,a,b,0,0⟩ x):=by
 obtain⟨τ0,hf,tk,fr⟩:=h.fresh;have cM:=cF;have iQ:=dP;obtain⟨W,eT,hW⟩:=ey w S ⟨12,a,b,0,0⟩ x;simp only[] at eT hW;have qQ:=(hW.o6 1 _ rfl).1;have qR:=(hW.o6 2 _ rfl).1;have qU:=(hW.o6 0 _ rfl).1;have ly:=(hW.o7 (2+a) _ (cG lT)).1;have lz:=(hW.o7 (2+b) _ (cG kG)).1;have a0:(0:Int)<=a:=by omega
 have a1:(a:Int)<6:=by omega
 have b0:(0:Int)<=b:=by omega
 have b1:(b:Int)<6:=by omega
 simp only[rg,cL,aS] at eT ly lz;simp only[fX,bQ,rg];go_in;go_wp2_with fail
 go_quiet (fail)
 clear eT cM iQ qQ qR ly lz;have hV:tR w (W.drewN nq) S ⟨12,a,b,0,0⟩ x:=hW.calm (ah.drewN nq) rfl;clear hW qU;generalize W.drewN nq=W' at *;have y4:=(hV.o4 0 _ rfl).1;have tN:=(hV.o6 0 _ rfl).1;have pD:=(hV.o6 3 _ rfl).1;have pE:=(hV.o6 4 _ rfl).1;have yF:=(hV.oF 0 _ rfl).1;have aM:∀j,j<=5->w.heap.size+j<W'.heap.size:=λj hj=>by rw[hV.z];omega
 have ky:=hx.at b;have kx:=hx.at a;rw[aS] at kx ky;obtain⟨pb,cj⟩:=ao (x.R[b]?.getD 0);obtain⟨pa,cB⟩:=ao (x.R[a]?.getD 0);rw[cj] at ky;rw[cB] at kx;rw[cj,cB];replace cj:=hid cj;replace cB:=hid cB;have c7:=hV.o7 (2+a) _ (cG lT);have c70:=c7.1;have c71:=c7.2;have y6a:=(hV.o6 1 _ rfl).1;have F:Fr (λb=>b=w.heap.size+1+1) W' (W'.setCell ⟨w.heap.size+1+1,2+a,none⟩ (vI ((pb:Nat):Int))):=(Fr.refl (λb=>b=w.heap.size+1+1) W').setCell (p:=⟨w.heap.size+1+1,2+a,none⟩) (.inl rfl) _;have CE:=hV.o7.set (2+a) (vI ((pb:Nat):Int)) (by rw[iA];omega);rw[tL hx.r lT] at CE;have q8:=hV.o8.fr F (by omega);have q9:=hV.o9.fr F (by omega);have XH:=F.cellAt yF (by show ¬(w.heap.size+1+1+1+1+1=w.heap.size+1+1);omega);have Uq:NW ⟨12,a,b,0,0⟩ x (({ x with R:=x.R.set a pb } : bP).fQ 0) 0:=hx.xf (by simp) (a:=a) (v:=pb) (by omega) 0;obtain⟨W3,xS⟩:=ao (W'.setCell ⟨w.heap.size+1+1,2+a,none⟩ (vI (pb:Int)));rw[xS] at F CE q8 q9 XH;clear c7;have ol:=iC CE hx.b hx.p 0 0;clear y4 pD pE;simp only[cL] at yF;go_wp2_with fail
 refine ol.mono ?_;rintro en w6 ⟨rfl,k6⟩;clear ol XH;have kX:=q8.calm k6;have lK:=q9.calm k6;have hX:=Uq;generalize ({ x with R:=x.R.set a pb } : bP).fQ 0=x2 at *;obtain⟨v2,dK⟩:=ao ((if (0:Int)=0 then (0:Int) else 0):Int);rw[dK];replace dK:=hid dK;simp only[bQ,cS,rg];obtain⟨y0,z0,y1,z1,y2,z2,y3,z3,y4,z4,y5,z5,y6,z6,y7,z7,y8,z8,y9,z9,j_,qB,kY,sI,iL,z12,jv,qM,iM,nT⟩:=af.kt kX;obtain⟨yO,vW,yP,vX,yQ,vY⟩:=af.pG lK;have T1:=kX.whole (us:=(aX x2)) rfl;have F1:=sK w6 (w.heap.size+1+1+1) 0 (aX x2);have U0:=lK.fr F1 (by omega);have U:=U0.whole (us:=[vI 2,vI 0,vI v2]) rfl;have F2:Fr (λk=>k=w.heap.size+1+1+1+1) (w6.setCells (w.heap.size+1+1+1) 0 (aX x2)) ((w6.setCells (w.heap.size+1+1+1) 0 (aX x2)).setCells (w.heap.size+1+1+1+1) 0 [vI 2,vI 0,vI v2]):=Fr.setCells (S:=λk=>k=w.heap.size+1+1+1+1) rfl _ _ ah;have T:=T1.fr F2 (by omega)
 have hF:Fr (λb=>w.heap.size<=b/\b<W'.heap.size) W' ((w6.setCells (w.heap.size+1+1+1) 0 (aX x2)).setCells (w.heap.size+1+1+1+1) 0 [vI 2,vI 0,vI v2]):=
  (((F.mono (λb _ e=>by have:=aM 2 (by omega);omega):Fr (λb=>w.heap.size<=b/\b<W'.heap.size) _ _).trans (Calm.any k6)).trans (F1.mono (λb _ e=>by have:=aM 3 (by omega);omega))).trans (F2.mono (λb _ e=>by have:=aM 4 (by omega);omega))
 have hP:oP w τ s q S t ⟨12,a,b,0,0⟩ x (.returned (.tuple #[bQ x2,cS 2 0 v2])) ((w6.setCells (w.heap.size+1+1+1) 0 (aX x2)).setCells (w.heap.size+1+1+1+1) 0 [vI 2,vI 0,vI v2]):=⟨x2,0,v2,rfl,by decide,hX,gD hV tk fr (Nx.mono (s2:=s+1) (q2:=q) (Nx.calm (hf.calm hV.c) ah (R:=AO S t ⟨12,a,b,0,0⟩ 0) (.inl ⟨by simp,Jd.same _ _⟩)) (Nat.le_succ _) (aD _) (λ_ h=>h)) hF⟩;replace hP:=hid hP;replace T:=hid T;replace U:=hid U;clear T1 F1 U0 F2 hF hX q8 q9;go_wp2;exact bodyPost_ret (v:=.tuple #[bQ x2,cS 2 0 v2]) (cC (i:=8) (j:=9) rfl rfl rfl T.out U.out) rfl hP.out
theorem I4(h:St w τ s q S)(hs:s<100000)(hq:q<=100000){x:bP}(hx:yV x)(t:Int)(ht:bX t){a b:Nat}(lT:a<6)(kG:b<6) :
 aJ prog 45 #[pV S.sp,vI t,fX ⟨13,a,b,0,0⟩,bQ x] w (oP w τ s q S t ⟨13,a,b,0,0⟩ x):=by
 obtain⟨τ0,hf,tk,fr⟩:=h.fresh;have cM:=cF;have iQ:=dP;obtain⟨W,eT,hW⟩:=ey w S ⟨13,a,b,0,0⟩ x;simp only[] at eT hW;have qQ:=(hW.o6 1 _ rfl).1;have qR:=(hW.o6 2 _ rfl).1;have qU:=(hW.o6 0 _ rfl).1;have ly:=(hW.o7 (2+a) _ (cG lT)).1;have lz:=(hW.o7 (2+b) _ (cG kG)).1;have a0:(0:Int)<=a:=by omega
 have a1:(a:Int)<6:=by omega
 have b0:(0:Int)<=b:=by omega
 have b1:(b:Int)<6:=by omega
 simp only[rg,cL,aS] at eT ly lz;simp only[fX,bQ,rg];go_in;go_wp2_with fail
 go_quiet (fail)
 clear eT cM iQ qQ qR ly lz;have hV:tR w (W.drewN nq) S ⟨13,a,b,0,0⟩ x:=hW.calm (ah.drewN nq) rfl;clear hW qU;generalize W.drewN nq=W' at *;have y4:=(hV.o4 0 _ rfl).1;have tN:=(hV.o6 0 _ rfl).1;have pD:=(hV.o6 3 _ rfl).1;have pE:=(hV.o6 4 _ rfl).1;have yF:=(hV.oF 0 _ rfl).1;have aM:∀j,j<=5->w.heap.size+j<W'.heap.size:=λj hj=>by rw[hV.z];omega
 have ky:=hx.at b;have kx:=hx.at a;rw[aS] at kx ky;obtain⟨pb,cj⟩:=ao (x.R[b]?.getD 0);obtain⟨pa,cB⟩:=ao (x.R[a]?.getD 0);rw[cj] at ky;rw[cB] at kx;rw[cj,cB];replace cj:=hid cj;replace cB:=hid cB;have c7:=hV.o7 (2+a) _ (cG lT);have c70:=c7.1;have c71:=c7.2;have y6a:=(hV.o6 1 _ rfl).1;have F:Fr (λb=>b=w.heap.size+1+1) W' (W'.setCell ⟨w.heap.size+1+1,2+a,none⟩ (vI ((0:Nat):Int))):=(Fr.refl (λb=>b=w.heap.size+1+1) W').setCell (p:=⟨w.heap.size+1+1,2+a,none⟩) (.inl rfl) _;have CE:=hV.o7.set (2+a) (vI ((0:Nat):Int)) (by rw[iA];omega);rw[tL hx.r lT] at CE;have q8:=hV.o8.fr F (by omega);have q9:=hV.o9.fr F (by omega);have XH:=F.cellAt yF (by show ¬(w.heap.size+1+1+1+1+1=w.heap.size+1+1);omega);have Uq:NW ⟨13,a,b,0,0⟩ x (({ x with R:=x.R.set a 0 } : bP).fQ 0) 0:=hx.xf (by simp) (a:=a) (v:=0) (by omega) 0;have Ds:vI ((0:Nat):Int)=vI 0:=rfl;rw[Ds] at F CE q8 q9 XH;obtain⟨W3,xS⟩:=ao (W'.setCell ⟨w.heap.size+1+1,2+a,none⟩ (vI (0:Int)));rw[xS] at F CE q8 q9 XH;clear c7;have ol:=iC CE hx.b hx.p 0 0;clear y4 pD pE;simp only[cL] at yF;go_wp2_with fail
 refine ol.mono ?_;rintro en w6 ⟨rfl,k6⟩;clear ol XH;have kX:=q8.calm k6;have lK:=q9.calm k6;have hX:=Uq;generalize ({ x with R:=x.R.set a 0 } : bP).fQ 0=x2 at *;obtain⟨v2,dK⟩:=ao ((if (0:Int)=0 then (0:Int) else 0):Int);rw[dK];replace dK:=hid dK;simp only[bQ,cS,rg];obtain⟨y0,z0,y1,z1,y2,z2,y3,z3,y4,z4,y5,z5,y6,z6,y7,z7,y8,z8,y9,z9,j_,qB,kY,sI,iL,z12,jv,qM,iM,nT⟩:=af.kt kX;obtain⟨yO,vW,yP,vX,yQ,vY⟩:=af.pG lK;have T1:=kX.whole (us:=(aX x2)) rfl;have F1:=sK w6 (w.heap.size+1+1+1) 0 (aX x2);have U0:=lK.fr F1 (by omega);have U:=U0.whole (us:=[vI 2,vI 0,vI v2]) rfl;have F2:Fr (λk=>k=w.heap.size+1+1+1+1) (w6.setCells (w.heap.size+1+1+1) 0 (aX x2)) ((w6.setCells (w.heap.size+1+1+1) 0 (aX x2)).setCells (w.heap.size+1+1+1+1) 0 [vI 2,vI 0,vI v2]):=Fr.setCells (S:=λk=>k=w.heap.size+1+1+1+1) rfl _ _ ah;have T:=T1.fr F2 (by omega)
 have hF:Fr (λb=>w.heap.size<=b/\b<W'.heap.size) W' ((w6.setCells (w.heap.size+1+1+1) 0 (aX x2)).setCells (w.heap.size+1+1+1+1) 0 [vI 2,vI 0,vI v2]):=
  (((F.mono (λb _ e=>by have:=aM 2 (by omega);omega):Fr (λb=>w.heap.size<=b/\b<W'.heap.size) _ _).trans (Calm.any k6)).trans (F1.mono (λb _ e=>by have:=aM 3 (by omega);omega))).trans (F2.mono (λb _ e=>by have:=aM 4 (by omega);omega))
 have hP:oP w τ s q S t ⟨13,a,b,0,0⟩ x (.returned (.tuple #[bQ x2,cS 2 0 v2])) ((w6.setCells (w.heap.size+1+1+1) 0 (aX x2)).setCells (w.heap.size+1+1+1+1) 0 [vI 2,vI 0,vI v2]):=⟨x2,0,v2,rfl,by decide,hX,gD hV tk fr (Nx.mono (s2:=s+1) (q2:=q) (Nx.calm (hf.calm hV.c) ah (R:=AO S t ⟨13,a,b,0,0⟩ 0) (.inl ⟨by simp,Jd.same _ _⟩)) (Nat.le_succ _) (aD _) (λ_ h=>h)) hF⟩;replace hP:=hid hP;replace T:=hid T;replace U:=hid U;clear T1 F1 U0 F2 hF hX q8 q9;go_wp2;exact bodyPost_ret (v:=.tuple #[bQ x2,cS 2 0 v2]) (cC (i:=8) (j:=9) rfl rfl rfl T.out U.out) rfl hP.out
end
section
variable {w:ag}{τ:Nat->Nat}{s q:Nat}{S:aE}
theorem I5(h:St w τ s q S)(hs:s<100000)(hq:q<=100000){x:bP}(hx:yV x)(t:Int)(ht:bX t){a b:Nat}(lT:a<6)(kG:b<6) :
 aJ prog 45 #[pV S.sp,vI t,fX ⟨14,a,b,0,0⟩,bQ x] w (oP w τ s q S t ⟨14,a,b,0,0⟩ x):=by
 obtain⟨τ0,hf,tk,fr⟩:=h.fresh;have cM:=cF;have iQ:=dP;obtain⟨W,eT,hW⟩:=ey w S ⟨14,a,b,0,0⟩ x;simp only[] at eT hW;have qQ:=(hW.o6 1 _ rfl).1;have qR:=(hW.o6 2 _ rfl).1;have qU:=(hW.o6 0 _ rfl).1;have ly:=(hW.o7 (2+a) _ (cG lT)).1;have lz:=(hW.o7 (2+b) _ (cG kG)).1;have a0:(0:Int)<=a:=by omega
 have a1:(a:Int)<6:=by omega
 have b0:(0:Int)<=b:=by omega
 have b1:(b:Int)<6:=by omega
 simp only[rg,cL,aS] at eT ly lz;simp only[fX,bQ,rg];go_in;go_wp2_with fail
 go_quiet (fail)
 clear eT cM iQ qQ qR ly lz;have hV:tR w (W.drewN nq) S ⟨14,a,b,0,0⟩ x:=hW.calm (ah.drewN nq) rfl;clear hW qU;generalize W.drewN nq=W' at *;have y4:=(hV.o4 0 _ rfl).1;have tN:=(hV.o6 0 _ rfl).1;have pD:=(hV.o6 3 _ rfl).1;have pE:=(hV.o6 4 _ rfl).1;have yF:=(hV.oF 0 _ rfl).1;have aM:∀j,j<=5->w.heap.size+j<W'.heap.size:=λj hj=>by rw[hV.z];omega
 have ky:=hx.at b;have kx:=hx.at a;rw[aS] at kx ky;obtain⟨pb,cj⟩:=ao (x.R[b]?.getD 0);obtain⟨pa,cB⟩:=ao (x.R[a]?.getD 0);rw[cj] at ky;rw[cB] at kx;rw[cj,cB];replace cj:=hid cj;replace cB:=hid cB;have oc:=IY (hf.calm hV.c) hq t ht;go_wp2_with fail
 refine oc.mono ?_;rintro en w5 ⟨x0,rfl,jb,Sw,n5⟩;clear oc;obtain⟨dW,S5,p1,p2,p3,p4⟩:=n5;have tg:∀j,j<=5->500<=τ0 (w.heap.size+j):=λj hj=>by rw[fr _ (by omega)];omega
 have q7:=p2.bH hV.o7 (tg 2 (by omega));have qF:=p2.bH hV.oF (tg 5 (by omega));have q8:=p2.bH hV.o8 (tg 3 (by omega));have q9:=p2.bH hV.o9 (tg 4 (by omega));have n5:Nx W' τ0 (s+1) q S w5 (AO S t ⟨14,a,b,0,0⟩ x0):=Nx.mono (s2:=s+1) (q2:=q) (⟨dW,S5,p1,p2,p3,.inr ⟨rfl,p4⟩⟩:Nx W' τ0 s q S w5 (AO S t ⟨14,a,b,0,0⟩ x0)) (Nat.le_succ _) (aD _) (λ_ h=>h);clear p1 p2 p3 p4 yF tN
 by_cases h0:x0=0
 ·subst h0;obtain⟨x2,dy⟩:=ao (({ x.back with b:=x.b+1 } : bP));have hX:NW ⟨14,a,b,0,0⟩ x x2 0:=⟨x,hx.r,hx.rp,rfl,rfl,rfl,rfl,.inr ⟨rfl,rfl,dy.symm⟩⟩;have ob:=qP w5 x.b x.p (x.R.getD 0 0:Nat) (x.R.getD 1 0:Nat) (x.R.getD 2 0:Nat) (x.R.getD 3 0:Nat) (x.R.getD 4 0:Nat) (x.R.getD 5 0:Nat) (x.V.getD 0 0:Nat) (x.V.getD 1 0:Nat) (x.V.getD 2 0:Nat) (x.V.getD 3 0:Nat) (x.V.getD 4 0:Nat) (x.V.getD 5 0:Nat) x.live;simp only[aX,rg] at q7;obtain⟨y0,y1,y2,y3,y4,y5,y6,y7,y8,y9,j_,kY,iL,jv,iM⟩:=af.lB q7;have nL:IntKind.i64.wrap (x.b+1)=x.b+1:=IntWalk.i64_in _ (by have:=hx.b;omega);go_wp2_with fail
  refine ob.mono ?_;rintro en w6 ⟨rfl,hw6⟩;have k6:Calm w5 w6:=by rw[hw6];exact(ah.alloc _).alloc _
  clear hw6 ob y0 y1 y2 y3 y4 y5 y6 y7 y8 y9 j_ kY iL jv iM;have r7:=q7.calm k6;have r8:=q8.calm k6;have r9:=q9.calm k6;have xb1:=eM x.back
  go_wp2_with (
   refine oL rfl _ _ _ rfl (w.heap.size+1+1) (aX x.back).toArray rfl rfl r7 rfl (by kernel_rfl) xb1 ?_;intro W7 s7 f7;clear r7 xb1;have s8:=s7.set 0 (vI (x.b+1)) (by show 0<15;decide);have g7:=jR W7 (w.heap.size+1+1) 0 (vI (x.b+1));have e8:(aX x.back).set 0 (vI (x.b+1))=aX x2:=by rw[<-dy];rfl
   have s8:af (W7.setCell ⟨w.heap.size+1+1,0,none⟩ (vI (x.b+1))) (w.heap.size+1+1) (aX x2):=by rw[<-e8];exact s8
   obtain⟨W8,wh⟩:=ao (W7.setCell ⟨w.heap.size+1+1,0,none⟩ (vI (x.b+1)));rw[wh] at s8 g7;have s70:W7.cell? ⟨w.heap.size+1+1,0,none⟩=some (vI x.b):=(s7 0 _ rfl).1;have s71:W7.frozen? ⟨w.heap.size+1+1,0,none⟩=false:=(s7 0 _ rfl).2;replace dy:=hid dy;simp only[aX,rg] at s8;obtain⟨d0,d1,d2,d3,d4,d5,d6,d7,d8,d9,d10,d11,d12,d13,d14⟩:=af.lB s8;have kX:=(r8.fr f7 (by omega)).fr g7 (by omega);have lK:=(r9.fr f7 (by omega)).fr g7 (by omega);simp only[bQ,cS,rg];obtain⟨y0,z0,y1,z1,y2,z2,y3,z3,y4,z4,y5,z5,y6,z6,y7,z7,y8,z8,y9,z9,j_,qB,kY,sI,iL,z12,jv,qM,iM,nT⟩:=af.kt kX;obtain⟨yO,vW,yP,vX,yQ,vY⟩:=af.pG lK;have T1:=kX.whole (us:=(aX x2)) rfl;have F1:=sK W8 (w.heap.size+1+1+1) 0 (aX x2);have U0:=lK.fr F1 (by omega);have U:=U0.whole (us:=[vI 2,vI 0,vI 0]) rfl;have F2:Fr (λk=>k=w.heap.size+1+1+1+1) (W8.setCells (w.heap.size+1+1+1) 0 (aX x2)) ((W8.setCells (w.heap.size+1+1+1) 0 (aX x2)).setCells (w.heap.size+1+1+1+1) 0 [vI 2,vI 0,vI 0]):=Fr.setCells (S:=λk=>k=w.heap.size+1+1+1+1) rfl _ _ ah;have T:=T1.fr F2 (by omega)
   have hF:Fr (λb=>w.heap.size<=b/\b<W'.heap.size) w5 ((W8.setCells (w.heap.size+1+1+1) 0 (aX x2)).setCells (w.heap.size+1+1+1+1) 0 [vI 2,vI 0,vI 0]):=
    ((((Calm.any k6:Fr (λb=>w.heap.size<=b/\b<W'.heap.size) _ _).trans (f7.mono (λb _ e=>by have:=aM 2 (by omega);omega))).trans (g7.mono (λb _ e=>by have:=aM 2 (by omega);omega))).trans (F1.mono (λb _ e=>by have:=aM 3 (by omega);omega))).trans (F2.mono (λb _ e=>by have:=aM 4 (by omega);omega))
   have hP:oP w τ s q S t ⟨14,a,b,0,0⟩ x (.returned (.tuple #[bQ x2,cS 2 0 0])) ((W8.setCells (w.heap.size+1+1+1) 0 (aX x2)).setCells (w.heap.size+1+1+1+1) 0 [vI 2,vI 0,vI 0]):=⟨x2,0,0,rfl,by decide,hX,gD hV tk fr n5 hF⟩;replace hP:=hid hP;replace T:=hid T;replace U:=hid U
   clear T1 F1 U0 F2 hF n5 hX q8 q9 r8 r9 f7 g7 s7 e8)
  exact bodyPost_ret (v:=.tuple #[bQ x2,cS 2 0 0]) (cC (i:=8) (j:=9) rfl rfl rfl T.out U.out) rfl hP.out
 ·have YG:(x0 != 0)=true:=by simp[bne,h0]
  have yF:=(qF 0 _ rfl).1;have ol:=iC q7 hx.b hx.p 0 x0;simp only[cL] at yF;go_wp2_with fail
  refine ol.mono ?_;rintro en w6 ⟨rfl,k6⟩;clear ol yF;have kX:=q8.calm k6;have lK:=q9.calm k6;have hX:=(⟨x,hx.r,hx.rp,rfl,rfl,rfl,rfl,.inl ⟨rfl,λ_=>h0⟩⟩:NW ⟨14,a,b,0,0⟩ x (x.fQ x0) x0);generalize (x:bP).fQ x0=x2 at *;obtain⟨v2,dK⟩:=ao ((if (x0:Int)=0 then (0:Int) else 0):Int);rw[dK];replace dK:=hid dK;simp only[bQ,cS,rg];obtain⟨y0,z0,y1,z1,y2,z2,y3,z3,y4,z4,y5,z5,y6,z6,y7,z7,y8,z8,y9,z9,j_,qB,kY,sI,iL,z12,jv,qM,iM,nT⟩:=af.kt kX;obtain⟨yO,vW,yP,vX,yQ,vY⟩:=af.pG lK;have T1:=kX.whole (us:=(aX x2)) rfl;have F1:=sK w6 (w.heap.size+1+1+1) 0 (aX x2);have U0:=lK.fr F1 (by omega);have U:=U0.whole (us:=[vI 2,vI x0,vI v2]) rfl;have F2:Fr (λk=>k=w.heap.size+1+1+1+1) (w6.setCells (w.heap.size+1+1+1) 0 (aX x2)) ((w6.setCells (w.heap.size+1+1+1) 0 (aX x2)).setCells (w.heap.size+1+1+1+1) 0 [vI 2,vI x0,vI v2]):=Fr.setCells (S:=λk=>k=w.heap.size+1+1+1+1) rfl _ _ ah;have T:=T1.fr F2 (by omega)
  have hF:Fr (λb=>w.heap.size<=b/\b<W'.heap.size) w5 ((w6.setCells (w.heap.size+1+1+1) 0 (aX x2)).setCells (w.heap.size+1+1+1+1) 0 [vI 2,vI x0,vI v2]):=
   (((Fr.refl (λb=>w.heap.size<=b/\b<W'.heap.size) w5).trans (Calm.any k6)).trans (F1.mono (λb _ e=>by have:=aM 3 (by omega);omega))).trans (F2.mono (λb _ e=>by have:=aM 4 (by omega);omega))
  have hP:oP w τ s q S t ⟨14,a,b,0,0⟩ x (.returned (.tuple #[bQ x2,cS 2 x0 v2])) ((w6.setCells (w.heap.size+1+1+1) 0 (aX x2)).setCells (w.heap.size+1+1+1+1) 0 [vI 2,vI x0,vI v2]):=⟨x2,x0,v2,rfl,jb,hX,gD hV tk fr (n5) hF⟩;replace hP:=hid hP;replace T:=hid T;replace U:=hid U;clear T1 F1 U0 F2 hF hX q8 q9;go_wp2;exact bodyPost_ret (v:=.tuple #[bQ x2,cS 2 x0 v2]) (cC (i:=8) (j:=9) rfl rfl rfl T.out U.out) rfl hP.out
theorem M4(h:St w τ s q S)(hs:s<100000)(hq:q<=100000){x:bP}(hx:yV x)(t:Int)(ht:bX t){d:Dd}(hd:d.Rt) :
 aJ prog 45 #[pV S.sp,vI t,fX d,bQ x] w (oP w τ s q S t d x):=by
 have n6:∀y:Int,R6 y->∃a:Nat,y=a/\a<6:=λy ⟨h1,h2⟩=>⟨y.toNat,by omega,by omega⟩;have n8:∀y:Int,R8 y->∃a:Nat,y=a/\a<=7:=λy ⟨h1,h2⟩=>⟨y.toNat,by omega,by omega⟩;have n5:∀y:Int,R5 y->∃a:Nat,y=a/\a<=4:=λy ⟨h1,h2⟩=>⟨y.toNat,by omega,by omega⟩;have z6:(0:Nat)<6:=by decide
 obtain⟨k,a,b,i,n⟩:=d;simp only[Dd.Rt] at hd;rcases hd with ⟨rfl,h1,rfl,h3,h4⟩|⟨rfl,h1,rfl,h3,h4⟩|⟨rfl,h1,h2,rfl,rfl⟩|⟨rfl,h1,h2,h3,rfl⟩|⟨rfl,h1,h2,h3,rfl⟩|⟨rfl,h1,rfl,h3,rfl⟩|⟨rfl,h1,rfl,h3,h4⟩|⟨rfl,h1,rfl,rfl,rfl⟩|⟨rfl,h1,h2,rfl,rfl⟩|⟨rfl,h1,rfl,rfl,rfl⟩|⟨rfl,h1,h2,rfl,rfl⟩|⟨rfl,h1,h2,rfl,rfl⟩|⟨rfl,h1,rfl,rfl,rfl⟩|⟨rfl,rfl,rfl,rfl,rfl⟩
 ·obtain⟨a,rfl,ha⟩:=n6 a h1;obtain⟨i,rfl,hi⟩:=n5 i h3;obtain⟨n,rfl,hn⟩:=n5 n h4;exact M7 h hs hq hx t ht (b:=0) ha z6 hi hn
 ·obtain⟨a,rfl,ha⟩:=n6 a h1;obtain⟨i,rfl,hi⟩:=n5 i h3;obtain⟨n,rfl,hn⟩:=n5 n h4;exact M9 h hs hq hx t ht (b:=0) ha z6 hi hn
 ·obtain⟨a,rfl,ha⟩:=n6 a h1;obtain⟨b,rfl,hb⟩:=n6 b h2;exact M_ h hs hq hx t ht ha hb
 ·obtain⟨a,rfl,ha⟩:=n6 a h1;obtain⟨b,rfl,hb⟩:=n6 b h2;obtain⟨i,rfl,hi⟩:=n8 i h3;exact Na h hs hq hx t ht ha hb hi
 ·obtain⟨a,rfl,ha⟩:=n6 a h1;obtain⟨b,rfl,hb⟩:=n6 b h2;obtain⟨i,rfl,hi⟩:=n8 i h3;exact Nb h hs hq hx t ht ha hb hi
 ·obtain⟨a,rfl,ha⟩:=n6 a h1;obtain⟨i,rfl,hi⟩:=n8 i h3;exact Nc h hs hq hx t ht (b:=0) ha z6 hi
 ·obtain⟨a,rfl,ha⟩:=n6 a h1;obtain⟨i,rfl,hi⟩:=n8 i h3;exact Nd h hs hq hx t ht (b:=0) ha z6 hi (n:=n) (by obtain⟨g1,g2⟩:=h4;exact⟨by omega,by omega⟩)
 ·obtain⟨a,rfl,ha⟩:=n6 a h1;exact Nf h hs hq hx t ht (b:=0) ha z6
 ·obtain⟨a,rfl,ha⟩:=n6 a h1;obtain⟨b,rfl,hb⟩:=n6 b h2;exact Ng h hs hq hx t ht ha hb
 ·obtain⟨a,rfl,ha⟩:=n6 a h1;exact I1 h hs hq hx t ht (b:=0) ha z6
 ·obtain⟨a,rfl,ha⟩:=n6 a h1;obtain⟨b,rfl,hb⟩:=n6 b h2;exact I2 h hs hq hx t ht ha hb
 ·obtain⟨a,rfl,ha⟩:=n6 a h1;obtain⟨b,rfl,hb⟩:=n6 b h2;exact I3 h hs hq hx t ht ha hb
 ·obtain⟨a,rfl,ha⟩:=n6 a h1;exact I4 h hs hq hx t ht (b:=0) ha z6
 ·exact I5 h hs hq hx t ht (a:=0) (b:=0) z6 z6
end
section
variable {w:ag}{τ:Nat->Nat}{s q:Nat}{S:aE}
def WG(w:ag)(τ:Nat->Nat)(s q:Nat)(S:aE)(n:Nat)(k:Int)(R:bP->Int->aE->Prop)(en:Ending)(w':ag):Prop:=∃ (x':bP) (e v:Int),en=.returned (.tuple #[bQ x',cS k e v])/\ko n x'/\Nx w τ s q S w' (R x' e)
def XL(S:aE)(t:Int)(n:Nat)(x x':bP)(e:Int)(S':aE):Prop:=(e=0->x'=⟨x.b,0,x.R,x.R,true⟩)/\(e≠0->x' = { x with b:=(n:Int) })/\BgD S t e S'
def XO(S:aE)(t:Int)(x x':bP)(e:Int)(S':aE):Prop:=(e=0->x'=⟨x.b+1,0,x.R,x.R,false⟩)/\(e≠0->x'=x.back)/\CmD S t e S'
theorem ko.back{n:Nat}{x:bP}(h:ko n x):ko n x.back:=⟨h.b,⟨Int.le_refl 0,(by show(0:Int)<=100;decide)⟩,(λe=>by cases e),h.v,h.v,h.vp,h.vp⟩
theorem Mw(x:bP):(#[rg x.R 0,rg x.R 1,rg x.R 2,rg x.R 3,rg x.R 4,rg x.R 5]:Array aA).all (·.oneCell')=true:=all_oneCell_toArray (cs:=[rg x.R 0,rg x.R 1,rg x.R 2,rg x.R 3,rg x.R 4,rg x.R 5]) (by simp[rg,Value.oneCell'])
def jX:List aA->Nat->List aA->List aA
 | vs,_,[]=>vs
 | vs,o,u::us=>jX (vs.set o u) (o+1) us
theorem af.Ab{B:Nat} : ∀ {w:ag} {vs:List aA} (_:af w B vs) (o:Nat) (us:List aA) (_:o+us.length<=vs.length),af (w.setCells B o us) B (jX vs o us)
 | _,_,h,_,[],_=>h
 | w,vs,h,o,u::us,hk=>af.Ab (h.set o u (by simp at hk;omega)) (o+1) us (by simp at hk ⊢;omega)
theorem af.QV{w:ag}{b:Nat}{vs:List aA}(h:af w b vs)(o n:Nat)(hn:o+n<=vs.length):w.there b o n:=λj hj=>by
 obtain⟨v,hv⟩:∃v,vs[o+j]?=some v:=⟨vs[o+j]'(by omega),lQ _⟩;have:=h (o+j) v hv;exact⟨by rw[this.1];rfl,this.2⟩
theorem mA{P:Program}{ops:Array Oper}{rest:List Oper}{op:Oper}{a:Act}{w:ag}{Q:Exit->Act->ag->Prop}(pH:op.guard=none)(ty:TypeId)(x y:Operand)(ho:op.op=.store ty x y)
 (b o:Nat) (cells:Array aA) (hx:a.eval x=.pointer (some ⟨b,o,none⟩)) (hy:a.eval y=.agg cells) {vs:List aA} (own:af w b vs) (hn:o+cells.size<=vs.length) (hi:(P.info? ty).map (·.size)=some cells.size) (h1:cells.all (·.oneCell')=true)
 (h:∀w',af w' b (jX vs o cells.toList)->Fr (λk=>k=b) w w'->wpList P ops Q rest (a.put op.dst undef) w'):wpList P ops Q (op::rest) a w:=
 wpList_store_mid pH ty x y ho b o cells hx hy (own.QV _ _ hn) hi h1 (h _ (own.Ab o cells.toList (by simpa using hn)) (Fr.setCells (S:=λk=>k=b) rfl _ _ ah))
structure ThW(w W:ag)(x:bP):Prop where
 c:Calm w W
 o7:af W (w.heap.size) (aX x)
 o8:af W (w.heap.size+1) [vI 0,vI 0,vI 0,vI 0,vI 0,vI 0,vI 0,vI 0,vI 0,vI 0,vI 0,vI 0,vI 0,vI 0,.bool false]
 o9:af W (w.heap.size+1+1) [vI 0,vI 0,vI 0]
 z:W.heap.size=w.heap.size+1+1+1
theorem vT(w:ag)(x:bP):∃W,((w.alloc (.cells #[vI x.b,vI x.p,rg x.R 0,rg x.R 1,rg x.R 2,rg x.R 3,rg x.R 4,rg x.R 5,rg x.V 0,rg x.V 1,rg x.V 2,rg x.V 3,rg x.V 4,rg x.V 5,.bool x.live] 31)).alloc (.cells #[vI 0,vI 0,vI 0,vI 0,vI 0,vI 0,vI 0,vI 0,vI 0,vI 0,vI 0,vI 0,vI 0,vI 0,.bool false] 31)).alloc (.cells #[vI 0,vI 0,vI 0] 35)=W/\ThW w W x:=by
 obtain⟨W3,e3,k3,o3,s3⟩:=lJ w [vI x.b,vI x.p,rg x.R 0,rg x.R 1,rg x.R 2,rg x.R 3,rg x.R 4,rg x.R 5,rg x.V 0,rg x.V 1,rg x.V 2,rg x.V 3,rg x.V 4,rg x.V 5,.bool x.live] 31;obtain⟨W4,e4,k4,o4,s4⟩:=lJ W3 [vI 0,vI 0,vI 0,vI 0,vI 0,vI 0,vI 0,vI 0,vI 0,vI 0,vI 0,vI 0,vI 0,vI 0,.bool false] 31;obtain⟨W5,e5,k5,o5,s5⟩:=lJ W4 [vI 0,vI 0,vI 0] 35;rw[s3] at o4 s4;rw[s4] at o5 s5;have DT:=k4.trans k5;exact⟨W5,by rw[e3,e4,e5],k3.trans DT,o3.calm DT,o4.calm k5,o5,s5⟩
theorem I0(h:St w τ s q S)(hq:q<=100000)(t:Int)(ht:bX t){n:Nat}(hn:n<=100){x:bP}(hx:ko n x)(hb:x.b<n)(il:x.live=false) :
 aJ prog 43 #[pV S.sp,vI t,vI (n:Int),bQ x] w (WG w τ s q S n 1 (XL S t n x)):=by
 obtain⟨τ0,hf,tk,fr⟩:=h.fresh;obtain⟨W,eT,hW⟩:=vT w x;have oc:=JY (hf.calm hW.c) hq t ht;simp only[rg,aS] at eT;simp only[bQ,rg];replace il:=hid il;go_in;go_wp2_with fail
 clear eT;refine oc.mono ?_;rintro en w2 ⟨x0,rfl,jb,Sw,n2⟩;clear oc;have aM:∀j,j<=2->w.heap.size+j<W.heap.size:=λj hj=>by rw[hW.z];omega
 have tg:∀j,j<=2->500<=τ0 (w.heap.size+j):=λj hj=>by rw[fr _ (by omega)];omega
 obtain⟨fj,S2,p1,p2,p3,p4⟩:=n2;have q7:=p2.bH hW.o7 (tg 0 (by omega));have q8:=p2.bH hW.o8 (tg 1 (by omega));have q9:=p2.bH hW.o9 (tg 2 (by omega));have n2:Nx W τ0 s q S w2 (BgD S t x0):=⟨fj,S2,p1,p2,p3,p4⟩;obtain⟨k3,rA⟩:=mG w2 [vI 1,vI x0,vI 0] 35;go_upto_region 2 with fail
 generalize xS:w2.alloc (.cells #[vI 1,vI x0,vI 0] 35)=W3 at *;clear xS;have h7:w.heap.size<w2.heap.size:=q7.lt (by simp[aX]);have h8:w.heap.size+1<w2.heap.size:=q8.lt (by simp);have h9:w.heap.size+1+1<w2.heap.size:=q9.lt (by simp);have r7:=q7.calm k3;have r8:=q8.calm k3;have r9:=q9.calm k3;obtain⟨bA,hbA⟩:=ao w2.heap.size;rw[hbA] at rA h7 h8 h9 ⊢;have rA1:=(rA 1 _ rfl).1
 by_cases h0:x0=0
 ·subst h0;have cM:=p1.calm k3;have ol:=Np cM t ht;rw[p3.sp] at ol;clear p1 p2 p3 p4 cM;go_wp2_with fail
  refine ol.mono ?_;rintro en w4 ⟨⟨v,b,rfl,hv⟩,e4⟩;subst w4;clear ol rA1;have s7:=r7;simp only[aX] at s7;have A1:=rA.set 2 (vI v) (by simp);have E1:=jR W3 (bA) 2 (vI v);have f2:=rA 2 _ rfl;obtain⟨W4,oy⟩:=ao (W3.setCell ⟨bA,2,none⟩ (vI v));rw[oy] at A1 E1;have r74:=r7.fr E1 (by omega);have r84:=r8.fr E1 (by omega);have r94:=r9.fr E1 (by omega);have B1:=r74.set 14 (.bool true) (by simp[aX]);have G1:=jR W4 (w.heap.size) 14 (.bool true);have f14:=r74 14 _ rfl;obtain⟨W5,mK⟩:=ao (W4.setCell ⟨w.heap.size,14,none⟩ (.bool true));rw[mK] at B1 G1;have B2:=B1.set 1 (vI 0) (by simp[aX]);have G2:=jR W5 (w.heap.size) 1 (vI 0);have f1:=B1 1 _ rfl;obtain⟨W6,sO⟩:=ao (W5.setCell ⟨w.heap.size,1,none⟩ (vI 0));rw[sO] at B2 G2;have Ma:=Mw x;have B2c:=B2;simp only[aX,rg,jk,iz] at B2c;obtain⟨m0,m1,m2,m3,m4,m5,m6,m7,m8,m9,m10,m11,m12,m13⟩:=af.Yq B2c;have f20:=f2.1;have f21:=f2.2;have f140:=f14.1;have f141:=f14.2;have f10:=f1.1;have f11:=f1.2;clear B2c
  go_wp2_with (
   refine mA rfl _ _ _ rfl (w.heap.size) 8 #[rg x.R 0,rg x.R 1,rg x.R 2,rg x.R 3,rg x.R 4,rg x.R 5] rfl rfl B2 (by simp[aX]) (by kernel_rfl) Ma ?_;intro W7 B3 G3
   clear B2 Ma m0 m1 m2 m3 m4 m5 m6 m7 m8 m9 m10 m11 m12 m13)
  obtain⟨x2,dy⟩:=ao ((⟨x.b,0,x.R,x.R,true⟩:bP):bP);have hX:ko n x2:=by rw[<-dy];exact⟨hx.b,⟨Int.le_refl 0,(by show(0:Int)<=100;decide)⟩,λ_=>hb,hx.r,hx.r,hx.rp,hx.rp⟩
  have B4:af W7 w.heap.size (aX x2):=by rw[<-dy];exact B3
  replace dy:=hid dy;have E4:=(G1.trans G2).trans G3;have QC:=r84.fr E4 (by omega);have QD:=r94.fr E4 (by omega);have rAf:=A1.fr E4 (by omega);clear r74 r84 r94 B1 B3 G1 G2 G3 r7 r8 r9 rA A1 s7 f2 f14 f1 q7 q8 q9 f20 f21 f140 f141 f10 f11;have hFr:Fr (λb=>w.heap.size<=b/\b<W.heap.size\/w2.heap.size<=b) w2 W7:=((Calm.any k3:Fr (λb=>w.heap.size<=b/\b<W.heap.size\/w2.heap.size<=b) _ _).trans (E1.mono (λb _ e=>by omega))).trans (E4.mono (λb _ e=>by have:=aM 0 (by omega);omega));have D9:Fr (λb=>w.heap.size<=b/\b<W.heap.size) w2 W7:=hFr.mono (λk hk e=>by rcases e with e|e;exact e;omega);have kd:Calm W7 W7.drew:=ah.drew;have d7:=B4.calm kd;have d8:=QC.calm kd;have d9:=QD.calm kd;have dA:=rAf.calm kd;obtain⟨a0,a1,a2⟩:=af.mI dA;simp only[aX,rg] at d7;obtain⟨u0,u1,u2,u3,u4,u5,u6,u7,u8,u9,QY,QZ,Q1,Q2,NF⟩:=af.lB d7
  try simp only[bQ,cS,rg]
  go_wp2_with fail
  refine dv [1] [0,2,3] (λw'=>w'.cell? ⟨bA,0,none⟩=some (vI 1)/\w'.cell? ⟨bA,1,none⟩=some (vI 0)/\w'.cell? ⟨bA,2,none⟩=some (vI v)) (by kernel_rfl) (by kernel_rfl) ⟨a0,a1,a2⟩ ?_;refine ai (cS 1 0 v) rfl rfl (λw' hw'=>?_) ak ?_
  ·obtain⟨e0,e1,e2⟩:=hw';simp[go_sem,e0,e1,e2,cS]
  simp only[bq];refine aq rfl rfl ?_;unfold Oper.wp;go_simp
  try refine⟨⟨a0,a1,a2⟩,?_⟩
  refine aq rfl rfl ?_;refine bC _ _ _ rfl (w.heap.size+1) (aX x2).toArray rfl rfl d8 rfl (by kernel_rfl) (eM x2) ?_;intro w6 T6 F1;have n8:¬(bA=w.heap.size+1):=by omega
  refine⟨⟨F1.cellAt a0 n8,F1.cellAt a1 n8,F1.cellAt a2 n8⟩,?_⟩;refine aq rfl rfl ?_;have U0:=d9.fr F1 (by omega);refine bC _ _ _ rfl (w.heap.size+1+1) #[vI 1,vI 0,vI v] rfl rfl U0 rfl (by kernel_rfl) (by simp[Value.oneCell']) ?_;intro w7 U F2;have n9:¬(bA=w.heap.size+1+1):=by omega
  refine⟨⟨F2.cellAt (F1.cellAt a0 n8) n9,F2.cellAt (F1.cellAt a1 n8) n9,F2.cellAt (F1.cellAt a2 n8) n9⟩,?_⟩;have T:=T6.fr F2 (by omega)
  have hF:Fr (λb=>w.heap.size<=b/\b<W.heap.size) w2 w7:=
   ((D9.trans (Calm.any kd)).trans (F1.mono (λb _ e=>by have:=aM 1 (by omega);omega))).trans (F2.mono (λb _ e=>by have:=aM 2 (by omega);omega))
  have hP:WG w τ s q S n 1 (XL S t n x) (.returned (.tuple #[bQ x2,cS 1 0 v])) w7:=⟨x2,0,v,rfl,hX,(Nx.fin n2 hW.c tk fr hF (λb hb=>hb)).mono (aD _) (aD _) (λS' hR=>⟨λ_=>dy.out.symm,λe=>absurd rfl e,hR⟩)⟩;replace hP:=hid hP;replace T:=hid T;replace U:=hid U;clear F1 U0 F2 hF n2 T6 a0 a1 a2;simp only[bJ];go_wp2;exact bodyPost_ret (v:=.tuple #[bQ x2,cS 1 0 v]) (cC (i:=8) (j:=9) rfl rfl rfl T.out U.out) rfl hP.out
 ·have YG:(x0 != 0)=true:=by simp[bne,h0]
  obtain⟨x2,dy⟩:=ao (({ x with b:=(n:Int) } : bP):bP);have hX:ko n x2:=by rw[<-dy];exact⟨⟨by show(0:Int)<=n;omega,Int.le_refl _⟩,hx.p,λe=>(by rw[il.out] at e;cases e),hx.r,hx.v,hx.rp,hx.vp⟩
  have B1:=r7.set 0 (vI (n:Int)) (by simp[aX]);have G1:=jR W3 (w.heap.size) 0 (vI (n:Int));have f0:=(r7 0 _ rfl).1;have f00:=(r7 0 _ rfl).2;obtain⟨W7,Up⟩:=ao (W3.setCell ⟨w.heap.size,0,none⟩ (vI (n:Int)));rw[Up] at B1 G1;have B4:af W7 w.heap.size (aX x2):=by rw[<-dy];exact B1
  replace dy:=hid dy;have QC:=r8.fr G1 (by omega);have QD:=r9.fr G1 (by omega);have rAf:=rA.fr G1 (by omega);have D9:Fr (λb=>w.heap.size<=b/\b<W.heap.size) w2 W7:=(Calm.any k3:Fr (λb=>w.heap.size<=b/\b<W.heap.size) _ _).trans (G1.mono (λb _ e=>by have:=aM 0 (by omega);omega));clear r7 r8 r9 rA B1 p1 p2 p3 p4;have kd:Calm W7 W7.drew:=ah.drew;have d7:=B4.calm kd;have d8:=QC.calm kd;have d9:=QD.calm kd;have dA:=rAf.calm kd;obtain⟨a0,a1,a2⟩:=af.mI dA;simp only[aX,rg] at d7;obtain⟨u0,u1,u2,u3,u4,u5,u6,u7,u8,u9,QY,QZ,Q1,Q2,NF⟩:=af.lB d7
  try simp only[bQ,cS,rg]
  go_wp2_with fail
  refine dv [1] [0,2,3] (λw'=>w'.cell? ⟨bA,0,none⟩=some (vI 1)/\w'.cell? ⟨bA,1,none⟩=some (vI x0)/\w'.cell? ⟨bA,2,none⟩=some (vI 0)) (by kernel_rfl) (by kernel_rfl) ⟨a0,a1,a2⟩ ?_;refine ai (cS 1 x0 0) rfl rfl (λw' hw'=>?_) ak ?_
  ·obtain⟨e0,e1,e2⟩:=hw';simp[go_sem,e0,e1,e2,cS]
  simp only[bq];refine aq rfl rfl ?_;unfold Oper.wp;go_simp
  try refine⟨⟨a0,a1,a2⟩,?_⟩
  refine aq rfl rfl ?_;refine bC _ _ _ rfl (w.heap.size+1) (aX x2).toArray rfl rfl d8 rfl (by kernel_rfl) (eM x2) ?_;intro w6 T6 F1;have n8:¬(bA=w.heap.size+1):=by omega
  refine⟨⟨F1.cellAt a0 n8,F1.cellAt a1 n8,F1.cellAt a2 n8⟩,?_⟩;refine aq rfl rfl ?_;have U0:=d9.fr F1 (by omega);refine bC _ _ _ rfl (w.heap.size+1+1) #[vI 1,vI x0,vI 0] rfl rfl U0 rfl (by kernel_rfl) (by simp[Value.oneCell']) ?_;intro w7 U F2;have n9:¬(bA=w.heap.size+1+1):=by omega
  refine⟨⟨F2.cellAt (F1.cellAt a0 n8) n9,F2.cellAt (F1.cellAt a1 n8) n9,F2.cellAt (F1.cellAt a2 n8) n9⟩,?_⟩;have T:=T6.fr F2 (by omega)
  have hF:Fr (λb=>w.heap.size<=b/\b<W.heap.size) w2 w7:=
   ((D9.trans (Calm.any kd)).trans (F1.mono (λb _ e=>by have:=aM 1 (by omega);omega))).trans (F2.mono (λb _ e=>by have:=aM 2 (by omega);omega))
  have hP:WG w τ s q S n 1 (XL S t n x) (.returned (.tuple #[bQ x2,cS 1 x0 0])) w7:=⟨x2,x0,0,rfl,hX,(Nx.fin n2 hW.c tk fr hF (λb hb=>hb)).mono (aD _) (aD _) (λS' hR=>⟨λe=>absurd e h0,λ_=>dy.out.symm,hR⟩)⟩;replace hP:=hid hP;replace T:=hid T;replace U:=hid U;clear F1 U0 F2 hF n2 T6 a0 a1 a2;simp only[bJ];go_wp2;exact bodyPost_ret (v:=.tuple #[bQ x2,cS 1 x0 0]) (cC (i:=8) (j:=9) rfl rfl rfl T.out U.out) rfl hP.out
theorem Fv(h:St w τ s q S)(hq:q<=100000)(t:Int)(ht:bX t){n:Nat}(hn:n<=100){x:bP}(hx:ko n x)(hb:x.b<n) :
 aJ prog 44 #[pV S.sp,vI t,bQ x] w (WG w τ s q S n 3 (XO S t x)):=by
 obtain⟨τ0,hf,tk,fr⟩:=h.fresh;obtain⟨W,eT,hW⟩:=vT w x;have oc:=Hi (hf.calm hW.c) hq t ht;simp only[rg,aS] at eT;simp only[bQ,rg];go_in;go_wp2_with fail
 clear eT;refine oc.mono ?_;rintro en w2 ⟨v0,x0,rfl,ye,jb,Sw,n2⟩;clear oc;have aM:∀j,j<=2->w.heap.size+j<W.heap.size:=λj hj=>by rw[hW.z];omega
 have tg:∀j,j<=2->500<=τ0 (w.heap.size+j):=λj hj=>by rw[fr _ (by omega)];omega
 obtain⟨fj,S2,p1,p2,p3,p4⟩:=n2;have q7:=p2.bH hW.o7 (tg 0 (by omega));have q8:=p2.bH hW.o8 (tg 1 (by omega));have q9:=p2.bH hW.o9 (tg 2 (by omega));have n2:Nx W τ0 s q S w2 (CmD S t x0):=⟨fj,S2,p1,p2,p3,p4⟩;have h7:w.heap.size<w2.heap.size:=q7.lt (by simp[aX]);have h8:w.heap.size+1<w2.heap.size:=q8.lt (by simp);have h9:w.heap.size+1+1<w2.heap.size:=q9.lt (by simp);clear p1 p2 p3 p4
 by_cases h0:x0=0
 ·subst h0;have nL:IntKind.i64.wrap (x.b+1)=x.b+1:=IntWalk.i64_in _ (by have:=hx.b;omega);have B1:=q7.set 14 (.bool false) (by simp[aX]);have G1:=jR w2 (w.heap.size) 14 (.bool false);have f14:=q7 14 _ rfl;obtain⟨W4,oy⟩:=ao (w2.setCell ⟨w.heap.size,14,none⟩ (.bool false));rw[oy] at B1 G1;have B2:=B1.set 1 (vI 0) (by simp[aX]);have G2:=jR W4 (w.heap.size) 1 (vI 0);have f1:=B1 1 _ rfl;obtain⟨W5,mK⟩:=ao (W4.setCell ⟨w.heap.size,1,none⟩ (vI 0));rw[mK] at B2 G2;have B3:=B2.set 0 (vI (x.b+1)) (by simp[aX]);have G3:=jR W5 (w.heap.size) 0 (vI (x.b+1));have f0:=B2 0 _ rfl;obtain⟨W6,sO⟩:=ao (W5.setCell ⟨w.heap.size,0,none⟩ (vI (x.b+1)));rw[sO] at B3 G3;have Ma:=Mw x;have B3c:=B3;simp only[aX,rg,jk,iz] at B3c;obtain⟨m0,m1,m2,m3,m4,m5,m6,m7,m8,m9,m10,m11,m12,m13⟩:=af.Yq B3c;have f140:=f14.1;have f141:=f14.2;have f10:=f1.1;have f11:=f1.2;have f00:=f0.1;have f01:=f0.2;clear B3c f14 f1 f0
  go_wp2_with (
   refine mA rfl _ _ _ rfl (w.heap.size) 8 #[rg x.R 0,rg x.R 1,rg x.R 2,rg x.R 3,rg x.R 4,rg x.R 5] rfl rfl B3 (by simp[aX]) (by kernel_rfl) Ma ?_;intro W7 B4 G4;clear B3 Ma m0 m1 m2 m3 m4 m5 m6 m7 m8 m9 m10 m11 m12 m13 f140 f141 f10 f11 f00 f01;obtain⟨x2,dy⟩:=ao ((⟨x.b+1,0,x.R,x.R,false⟩:bP):bP);have hX:ko n x2:=by rw[<-dy];exact⟨⟨by show(0:Int)<=x.b+1;have:=hx.b;omega,by show x.b+1<=n;omega⟩,⟨Int.le_refl 0,(by show(0:Int)<=100;decide)⟩,λe=>(by cases e),hx.r,hx.r,hx.rp,hx.rp⟩
   have B5:af W7 w.heap.size (aX x2):=by rw[<-dy];exact B4
   replace dy:=hid dy;simp only[aX,rg] at B5;obtain⟨d0,d1,d2,d3,d4,d5,d6,d7,d8,d9,d10,d11,d12,d13,d14⟩:=af.lB B5;have E4:=((G1.trans G2).trans G3).trans G4;have QC:=q8.fr E4 (by omega);have QD:=q9.fr E4 (by omega);have D9:Fr (λb=>w.heap.size<=b/\b<W.heap.size) w2 W7:=E4.mono (λb _ e=>by have:=aM 0 (by omega);omega);clear B1 B2 B4 G1 G2 G3 G4 q7 q8 q9 E4
   try simp only[bQ,cS,rg]
   obtain⟨y0,z0,y1,z1,y2,z2,y3,z3,y4,z4,y5,z5,y6,z6,y7,z7,y8,z8,y9,z9,j_,qB,kY,sI,iL,z12,jv,qM,iM,nT⟩:=af.kt QC;obtain⟨yO,vW,yP,vX,yQ,vY⟩:=af.pG QD;have T1:=QC.whole (us:=(aX x2)) rfl;have F1:=sK W7 (w.heap.size+1) 0 (aX x2);have U0:=QD.fr F1 (by omega);have U:=U0.whole (us:=[vI 3,vI 0,vI v0]) rfl;have F2:Fr (λk=>k=w.heap.size+1+1) (W7.setCells (w.heap.size+1) 0 (aX x2)) ((W7.setCells (w.heap.size+1) 0 (aX x2)).setCells (w.heap.size+1+1) 0 [vI 3,vI 0,vI v0]):=Fr.setCells (S:=λk=>k=w.heap.size+1+1) rfl _ _ ah;have T:=T1.fr F2 (by omega)
   have hF:Fr (λb=>w.heap.size<=b/\b<W.heap.size) w2 ((W7.setCells (w.heap.size+1) 0 (aX x2)).setCells (w.heap.size+1+1) 0 [vI 3,vI 0,vI v0]):=
    (D9.trans (F1.mono (λb _ e=>by have:=aM 1 (by omega);omega))).trans (F2.mono (λb _ e=>by have:=aM 2 (by omega);omega))
   have hP:WG w τ s q S n 3 (XO S t x) (.returned (.tuple #[bQ x2,cS 3 0 v0])) ((W7.setCells (w.heap.size+1) 0 (aX x2)).setCells (w.heap.size+1+1) 0 [vI 3,vI 0,vI v0]):=⟨x2,0,v0,rfl,hX,(Nx.fin n2 hW.c tk fr hF (λb hb=>hb)).mono (aD _) (aD _) (λS' hR=>⟨λ_=>dy.out.symm,λe=>absurd rfl e,hR⟩)⟩;replace hP:=hid hP;replace T:=hid T;replace U:=hid U
   clear T1 F1 U0 F2 hF n2)
  exact bodyPost_ret (v:=.tuple #[bQ x2,cS 3 0 v0]) (cC (i:=6) (j:=7) rfl rfl rfl T.out U.out) rfl hP.out
 ·have YG:(x0 != 0)=true:=by simp[bne,h0]
  have ob:=qP w2 x.b x.p (x.R.getD 0 0:Nat) (x.R.getD 1 0:Nat) (x.R.getD 2 0:Nat) (x.R.getD 3 0:Nat) (x.R.getD 4 0:Nat) (x.R.getD 5 0:Nat) (x.V.getD 0 0:Nat) (x.V.getD 1 0:Nat) (x.V.getD 2 0:Nat) (x.V.getD 3 0:Nat) (x.V.getD 4 0:Nat) (x.V.getD 5 0:Nat) x.live;simp only[aX,rg] at q7;obtain⟨u0,u1,u2,u3,u4,u5,u6,u7,u8,u9,QY,QZ,Q1,Q2,NF⟩:=af.lB q7;go_wp2_with fail
  refine ob.mono ?_;rintro en w6 ⟨rfl,hw6⟩;have k6:Calm w2 w6:=by rw[hw6];exact(ah.alloc _).alloc _
  clear hw6 ob u0 u1 u2 u3 u4 u5 u6 u7 u8 u9 QY QZ Q1 Q2 NF;have QC:=q8.calm k6;have QD:=q9.calm k6;have hX:ko n x.back:=hx.back;have D9:Fr (λb=>w.heap.size<=b/\b<W.heap.size) w2 w6:=Calm.any k6
  try simp only[bQ,cS,rg]
  obtain⟨y0,z0,y1,z1,y2,z2,y3,z3,y4,z4,y5,z5,y6,z6,y7,z7,y8,z8,y9,z9,j_,qB,kY,sI,iL,z12,jv,qM,iM,nT⟩:=af.kt QC;obtain⟨yO,vW,yP,vX,yQ,vY⟩:=af.pG QD;have T1:=QC.whole (us:=(aX x.back)) rfl;have F1:Fr (λk=>k=w.heap.size+1) w6 (w6.setCells (w.heap.size+1) 0 (aX x.back)):=Fr.setCells (S:=λk=>k=w.heap.size+1) rfl _ _ ah;have U0:=QD.fr F1 (by omega);have U:=U0.whole (us:=[vI 3,vI x0,vI 0]) rfl;have F2:Fr (λk=>k=w.heap.size+1+1) (w6.setCells (w.heap.size+1) 0 (aX x.back)) ((w6.setCells (w.heap.size+1) 0 (aX x.back)).setCells (w.heap.size+1+1) 0 [vI 3,vI x0,vI 0]):=Fr.setCells (S:=λk=>k=w.heap.size+1+1) rfl _ _ ah;have T:=T1.fr F2 (by omega)
  have hF:Fr (λb=>w.heap.size<=b/\b<W.heap.size) w2 ((w6.setCells (w.heap.size+1) 0 (aX x.back)).setCells (w.heap.size+1+1) 0 [vI 3,vI x0,vI 0]):=
   (D9.trans (F1.mono (λb _ e=>by have:=aM 1 (by omega);omega))).trans (F2.mono (λb _ e=>by have:=aM 2 (by omega);omega))
  have hP:WG w τ s q S n 3 (XO S t x) (.returned (.tuple #[bQ x.back,cS 3 x0 0])) ((w6.setCells (w.heap.size+1) 0 (aX x.back)).setCells (w.heap.size+1+1) 0 [vI 3,vI x0,vI 0]):=⟨x.back,x0,0,rfl,hX,(Nx.fin n2 hW.c tk fr hF (λb hb=>hb)).mono (aD _) (aD _) (λS' hR=>⟨λe=>absurd e h0,λ_=>rfl,hR⟩)⟩;replace hP:=hid hP;replace T:=hid T;replace U:=hid U;clear T1 F1 U0 F2 hF n2;go_wp2;exact bodyPost_ret (v:=.tuple #[bQ x.back,cS 3 x0 0]) (cC (i:=6) (j:=7) rfl rfl rfl T.out U.out) rfl hP.out
theorem FN(w:ag)(a:Option Addr)(n c:Nat)(hn:n<=100)(x:bP):aJ prog 33 #[.slice a n c,bQ x] w λe w'=>e=.returned (.bool (decide (x.b<0\/(n:Int)<=x.b)))/\Calm w w':=by
 obtain⟨W,eT⟩:=ao (w.alloc (.cells #[vI x.b,vI x.p,rg x.R 0,rg x.R 1,rg x.R 2,rg x.R 3,rg x.R 4,rg x.R 5,rg x.V 0,rg x.V 1,rg x.V 2,rg x.V 3,rg x.V 4,rg x.V 5,.bool x.live] 31));have k1:Calm w W:=by rw[<-eT];exact ah.alloc _
 have o:=af.kC w [vI x.b,vI x.p,rg x.R 0,rg x.R 1,rg x.R 2,rg x.R 3,rg x.R 4,rg x.R 5,rg x.V 0,rg x.V 1,rg x.V 2,rg x.V 3,rg x.V 4,rg x.V 5,.bool x.live] 31 w.heap.size rfl;have Y_:w.alloc (.cells (List.toArray [vI x.b,vI x.p,rg x.R 0,rg x.R 1,rg x.R 2,rg x.R 3,rg x.R 4,rg x.R 5,rg x.V 0,rg x.V 1,rg x.V 2,rg x.V 3,rg x.V 4,rg x.V 5,.bool x.live]) 31)=W:=eT;rw[Y_] at o;have c0:=(o 0 _ rfl).1;clear o Y_;simp only[rg,aS] at eT;simp only[bQ,rg]
 by_cases h1:x.b<0
 ·go_in;go_wp2;go_ret;exact⟨by first|(rw[decide_eq_true (p:=x.b<0\/(n:Int)<=x.b) (.inl h1)];rfl)|rfl|(simp[h1];omega)|(simp[h1];rfl)|simp[h1],k1⟩
 ·by_cases h2:(n:Int)<=x.b
  ·go_in;go_wp2;go_ret;exact⟨by first|(rw[decide_eq_true (p:=x.b<0\/(n:Int)<=x.b) (.inr h2)];rfl)|rfl|(simp[h1];omega)|(simp[h1];rfl)|simp[h1],k1⟩
  ·go_in;go_wp2;go_ret;exact⟨by first|(rw[decide_eq_false (p:=x.b<0\/(n:Int)<=x.b) (by omega)];rfl)|rfl|(simp[h1];omega)|(simp[h1];rfl)|simp[h1],k1⟩
end
section
inductive Way where
 | fin
 | read (i:Nat) (k:Way)
 | any (c:Way)
 | alt (j:Nat) (k r:Way)
 | stop
def Way.sz:Way->Nat
 | .fin=>1
 | .stop=>1
 | .read _ k=>k.sz+1
 | .any c=>c.sz+1
 | .alt _ k r=>k.sz+r.sz+1
def Way.qd:Way->List Nat
 | .alt j _ r=>j::r.qd
 | _=>[]
section
variable {P:Program}{ops:Array Oper}{Q:Exit->Act->ag->Prop}{md:Region.Mode}{S:ag->Prop}
def iD(P:Program)(ops:Array Oper)(Q:Exit->Act->ag->Prop)(S:ag->Prop)(R:Act->ag->Prop):Way->Act->ag->Prop
 | .fin,a,w=>R a w
 | .read i k,a,w=>∃o v,ops[i]?=some o/\YieldsIf P ops S o v a/\(∀c a w,Q (.panic c) (a.put o.dst v) w->Q (.panic c) a w)/\iD P ops Q S R k (a.put o.dst v) w
 | .any c,a,w=>iD P ops Q S R c a w
 | .alt j k r,a,w=>(∃o,ops[j]?=some o/\Region.wanted o (yielded ops a.tmps)=true/\o.wp P a w (λa' w'=>S w'/\iD P ops Q S R k a' w') Q)/\iD P ops Q S R r a w
 | .stop,_,_=>True
def kO(md:Region.Mode)(ops:Array Oper)(n:Nat):Bool->Nat->Way->Array Bool->Bool
 | true,f,.fin,done=>decide (f=0) && (Region.ready md ops done).all λj=>decide (n<=j)
 | true,f,.read i k,done=>decide (0<f) && (Region.ready md ops done).contains i && Region.free md ops done i && decide (i<n) && kO md ops n true (f-1) k (done.setIfInBounds i true)
 | true,f,.any c,done=>decide (0<f) && decide (Region.ready md ops done=c.qd) && decide (c.qd≠[]) && kO md ops n false (f-1) c done
 | false,f,.alt j k r,done=>decide (j<n) && kO md ops n true f k (done.setIfInBounds j true) && kO md ops n false f r done
 | false,_,.stop,_=>true
 | _,_,_,_=>false
theorem Dh{R:Act->ag->Prop}{n f:Nat} : ∀ (c:Way) (done:Array Bool) (a:Act) (w:ag),kO md ops n false f c done=true->iD P ops Q S R c a w->∀i∈c.qd,
 ∃k,i<n/\kO md ops n true f k (done.setIfInBounds i true)=true/\k.sz<c.sz/\∃o,ops[i]?=some o/\Region.wanted o (yielded ops a.tmps)=true/\o.wp P a w (λa' w'=>S w'/\iD P ops Q S R k a' w') Q
 | .fin,_,_,_,_,_,i,hi=>by simp[Way.qd] at hi
 | .read _ _,_,_,_,_,_,i,hi=>by simp[Way.qd] at hi
 | .any _,_,_,_,_,_,i,hi=>by simp[Way.qd] at hi
 | .stop,_,_,_,_,_,i,hi=>by simp[Way.qd] at hi
 | .alt j k r,done,a,w,hB,h,i,hi=>by
   simp only[kO,Bool.and_eq_true,decide_eq_true_eq] at hB;rcases List.mem_cons.1 (show i∈j::r.qd from hi) with rfl|hi
   ·exact⟨k,hB.1.1,hB.1.2,by simp[Way.sz];omega,h.1⟩
   ·obtain⟨k',h1,h2,h3,h4⟩:=Dh r done a w hB.2 h.2 i hi;exact⟨k',h1,h2,by simp[Way.sz];omega,h4⟩
theorem I7{R:Act->ag->Prop}{n:Nat}(f_:Region.noSelect ops=true)(tw:xF md ops n) :
 ∀ (m:Nat) (c:Way),c.sz<=m->∀ (f:Nat) (done:Array Bool) (a:Act) (w:ag),HeadInv md ops n done->kO md ops n true f c done=true->S w->iD P ops Q S R c a w ->
   fu P md ops Q S n (λd a w=>((Region.ready md ops d).all λj=>decide (n<=j))=true/\R a w) f done a w:=by
 intro m
 induction m with
 | zero=>intro c hc;cases c <;> simp[Way.sz] at hc
 | succ m ih=>
   intro c hc f done a w inv hB hS h
   cases c with
   | stop=>simp[kO] at hB
   | alt j k r=>simp[kO] at hB
   | fin=>
     simp only[kO,Bool.and_eq_true,decide_eq_true_eq] at hB;obtain⟨rfl,hB⟩:=hB;exact⟨hB,h⟩
   | read i k=>
     obtain⟨o,v,ho,hy,hQ,h⟩:=h;simp only[kO,Bool.and_eq_true,decide_eq_true_eq] at hB;obtain⟨⟨⟨⟨h0,hr⟩,hf⟩,gi⟩,D8⟩:=hB;obtain⟨f,rfl⟩:∃g,f=g+1:=⟨f-1,by omega⟩;have AE:i∈Region.ready md ops done:=by simpa using hr
     refine pj ho (Region.noSelect_spec f_) tw gi hQ (λxN a' w' hL j hj=>by
      have:=List.all_eq_true.1 hL.1 j hj
      simpa using this) _ done a w inv (Region.free_spec ho hf) AE hy hS ?_
     exact ih k (by simp[Way.sz] at hc;omega) f _ _ w (inv.set AE gi) D8 hS h
   | any c=>
     simp only[kO,Bool.and_eq_true,decide_eq_true_eq] at hB;obtain⟨⟨⟨h0,hr⟩,hne⟩,D8⟩:=hB;obtain⟨f,rfl⟩:∃g,f=g+1:=⟨f-1,by omega⟩;refine⟨λh1=>hne (by rw[<-hr,h1]),λi hi=>?_⟩;have oY:=hi;rw[hr] at hi;obtain⟨k,h1,h2,h3,o,ho,hw,hwp⟩:=Dh c done a w D8 h i hi;refine⟨h1,?_⟩;unfold wpOp;simp only[ho,hw,if_true];exact .inl (Oper.wp_mono (λa' w' h'=>⟨h'.1,ih k (by simp[Way.sz] at hc;omega) f _ a' w' (inv.set oY h1) h2 h'.1 h'.2⟩) hwp)
end
theorem nE{P:Program}{id:Nat}{Q:Exit->Act->ag->Prop}{a:Act}{w:ag}{l:List Oper}(c:Way)(S:ag->Prop)(hm:P.follows .mixedOrders=true)
 (hB:(Region.noSelect l.toArray && kO .any l.toArray l.toArray.size true l.toArray.size c (Array.replicate l.toArray.size false))=true) (hS:S w.drew)
 (h:iD P l.toArray Q S (λa' w'=>Q .normal a' w') c a w.drew):(Code.region id l.toArray true).wp P Q a w:=by
 simp only[Bool.and_eq_true,decide_eq_true_eq] at hB;obtain⟨f_,hp⟩:=hB
 have uR:HeadInv .any l.toArray l.toArray.size (Array.replicate l.toArray.size false):=
  ⟨by simp,λj oj _ hl=>(by rw[getD_replicate_false] at hl;cases hl),λt _ ht=>getD_in (by simpa using ht) (getD_replicate_false _ _)⟩
 have H:=I7 (P:=P) (Q:=Q) (S:=S) (R:=λa' w'=>Q .normal a' w') f_ pz _ c (Nat.le_refl _) _ _ a w.drew uR hp hS h;refine wp_region_any hm (dY (Q:=Q) (g:=0) (λdone a' w' hL=>?_) _ _ _ _ H);obtain⟨h1,h⟩:=hL;refine⟨List.eq_nil_iff_forall_not_mem.2 λi hi=>?_,h⟩;have h2:=List.all_eq_true.1 h1 i hi;obtain⟨o,ho,_⟩:=(mem_ready.1 hi).2;have:=(Array.getElem?_eq_some_iff.1 ho).1;simp at h2 this;omega
section
variable {P:Program}{ops:Array Oper}{Q:Exit->Act->ag->Prop}{S:ag->Prop}{R:Act->ag->Prop}{a:Act}{w:ag}
theorem bg{i:Nat}{k:Way}{o:Oper}(v:aA)(ho:ops[i]?=some o)(hw:Region.wanted o (yielded ops a.tmps)=true)(hy:∀w,S w->(execOp a.eval o).run P w=.ok (.value v) w)(hQ:∀c a w,Q (.panic c) (a.put o.dst v) w->Q (.panic c) a w)
 (h:iD P ops Q S R k (a.put o.dst v) w):iD P ops Q S R (.read i k) a w:=⟨o,v,ho,.inl ⟨hw,hy⟩,hQ,h⟩
theorem ny{c:Way}(h:iD P ops Q S R c a w):iD P ops Q S R (.any c) a w:=h
theorem d_{j:Nat}{k r:Way}{o:Oper}(ho:ops[j]?=some o)(hw:Region.wanted o (yielded ops a.tmps)=true)(h:o.wp P a w (λa' w'=>S w'/\iD P ops Q S R k a' w') Q)(hr:iD P ops Q S R r a w):iD P ops Q S R (.alt j k r) a w:=⟨⟨o,ho,hw,h⟩,hr⟩
theorem lR:iD P ops Q S R .stop a w:=trivial
theorem bR{j:Nat}{k:Way}{o:Oper}(ho:ops[j]?=some o)(hw:Region.wanted o (yielded ops a.tmps)=true)(h:o.wp P a w (λa' w'=>S w'/\iD P ops Q S R k a' w') Q):iD P ops Q S R (.any (.alt j k .stop)) a w:=d_ ho hw h trivial
theorem jl(h:R a w):iD P ops Q S R .fin a w:=h
end
abbrev Way.reads(l:List Nat)(k:Way):Way:=l.foldr Way.read k
abbrev Way.step(j:Nat)(k:Way):Way:=.any (.alt j k .stop)
end
theorem Yj(w:ag)(B:Nat):aJ prog 104 #[pV B] w λe w'=>e=.returned (.pointer (some ⟨B,1,none⟩))/\w'=w:=by
 go_in;go_wp2;go_ret;exact⟨rfl,rfl⟩
theorem Yk(w:ag)(B:Nat):aJ prog 105 #[pV B] w λe w'=>e=.returned (.pointer (some ⟨B,2,none⟩))/\w'=w:=by
 go_in;go_wp2;go_ret;exact⟨rfl,rfl⟩
theorem Yl(w:ag)(B:Nat):aJ prog 106 #[pV B] w λe w'=>e=.returned (.pointer (some ⟨B,3,none⟩))/\w'=w:=by
 go_in;go_wp2;go_ret;exact⟨rfl,rfl⟩
theorem Ym(w:ag)(B:Nat):aJ prog 107 #[pV B] w λe w'=>e=.returned (.pointer (some ⟨B,4,none⟩))/\w'=w:=by
 go_in;go_wp2;go_ret;exact⟨rfl,rfl⟩
theorem Qo(k:Nat)(h1:1<=k)(h2:k<=14):∃x,nmV k=.string x/\x.toList.isEmpty=false:=by
 rcases(by omega:k=1\/k=2\/k=3\/k=4\/k=5\/k=6\/k=7\/k=8\/k=9\/k=10\/k=11\/k=12\/k=13\/k=14) with rfl|rfl|rfl|rfl|rfl|rfl|rfl|rfl|rfl|rfl|rfl|rfl|rfl|rfl
 all_goals exact⟨_,rfl,by decide +kernel⟩
theorem zi(d:Dd):((fW d).toArray).all (·.oneCell')=true:=all_oneCell_toArray (by simp[fW,Value.oneCell'])
theorem O3(d:Dd)(v:Int):∀f,f<=3->(fW d).set (f+1) (vI v)=fW (mH d v f)
 | 0,_=>rfl
 | 1,_=>rfl
 | 2,_=>rfl
 | 3,_=>rfl
 | f+4,h=>by omega
theorem Ke(d:Dd):∀f,f<=3->(fW d)[f+1]?=some (vI (mC d f))
 | 0,_=>rfl
 | 1,_=>rfl
 | 2,_=>rfl
 | 3,_=>rfl
 | f+4,h=>by omega
theorem D2(d:Dd)(l:List Pt)(i:Nat)(h:i<l.length)(p0:Pt):cN d (l.take (i+1))=mH (cN d (l.take i)) (mC d (l.getD i p0).f) (l.getD i p0).f:=by
 rw[List.take_succ_eq_append_getElem h,D1];have e:l.getD i p0=l[i]:=by simp[aS,h]
 rw[e]
theorem CV(w:ag)(d:Dd)(h:d.Rt):aJ prog 35 #[fX d] w λe w'=>e=.returned (.bool true)/\Calm w w':=by
 obtain⟨k,hk,k1,k14,q_,hb,hf⟩:=MM h;obtain⟨y,DB,VM⟩:=Qo k k1 k14;obtain⟨k0,o1⟩:=mG w [vI d.k,vI d.a,vI d.b,vI d.i,vI d.n] 52;have ho:=Pb (w.alloc (.cells #[vI d.k,vI d.a,vI d.b,vI d.i,vI d.n] 52)) k k1 k14;rw[<-hk] at ho;replace hb:=hid hb;replace hf:=hid hf;replace hk:=hid hk;replace q_:=hid q_;simp only[fX];go_in;go_wp2_with fail
 refine ho.mono ?_;rintro e w1 ⟨v,rfl,hr,c1⟩;rw[DB];have Xt:=o1.calm c1;clear ho o1;have RO:w.heap.size<w1.heap.size:=Xt.lt (by simp);have Hf:=k0.trans c1;go_wp2_with fail
 go_cut [5,6] (λs5 s6 wx=>∃B5 B6,s5=pV B5/\s6=pV B6/\af wx B5 (fW d)/\af wx B6 (fW ⟨d.k,0,0,0,0⟩)/\B5≠B6/\w1.heap.size<=B5/\w1.heap.size<=B6/\Calm w1 wx)
 case first=>
  have kd:Calm w1 w1.drew:=ah.drew;refine nE (Way.reads [0,1,2,3] (.any (.alt 4 (.step 5 (.step 6 (.step 7 .fin))) (.alt 5 (.step 4 (.step 6 (.step 7 .fin))) .stop)))) (λw'=>Calm w1 w') (by kernel_rfl) (by kernel_rfl) kd ?_;refine bg (fX d) rfl rfl (λw' hw'=>?_) ak ?_
  ·have o:=Xt.calm hw';obtain⟨z0,z1,z2,z3,z4⟩:=af.Yr o;simp[go_sem,z0,z1,z2,z3,z4,fX]
  refine bg (bw w.heap.size) rfl rfl (λw' hw'=>?_) ak ?_
  ·simp[go_sem]
  refine bg (vI d.k) rfl rfl (λw' hw'=>?_) ak ?_
  ·have z0:=((Xt.calm hw') 0 _ rfl).1;simp[go_sem,z0]
  refine bg (fX ⟨d.k,0,0,0,0⟩) rfl rfl (λw' hw'=>?_) ak ?_
  ·simp[go_sem,fX]
  refine ny ?_;have hdz:w1.drew.heap.size=w1.heap.size:=rfl;have Z:∀W:ag,Calm w1 W->Calm w1 ((W.alloc (.cells #[vI 0,vI 0,vI 0,vI 0,vI 0] 140)).alloc (.cells #[vI 0,vI 0,vI 0,vI 0,vI 0] 140)):=λW c=>(c.alloc _).alloc _;have A1:=(af.kC w1.drew [vI 0,vI 0,vI 0,vI 0,vI 0] 140 _ rfl).alloc (.cells #[vI 0,vI 0,vI 0,vI 0,vI 0] 140);have A2:=af.kC (w1.drew.alloc (.cells #[vI 0,vI 0,vI 0,vI 0,vI 0] 140)) [vI 0,vI 0,vI 0,vI 0,vI 0] 140 (w1.heap.size+1) (by simp);refine d_ rfl rfl ?_ (d_ rfl rfl ?_ lR)
  ·unfold Oper.wp;go_simp;refine⟨kd.alloc _,?_⟩;refine bR rfl rfl ?_;unfold Oper.wp;go_simp;refine⟨Z _ kd,?_⟩;refine bR rfl rfl ?_;refine bC _ _ _ rfl (w1.heap.size) (fW d).toArray rfl rfl A1 rfl (by kernel_rfl) (zi d) ?_;intro w6 a6 f6;refine⟨(Z _ kd).join f6 (λj hj e=>by omega),?_⟩;refine bR rfl rfl ?_;refine bC _ _ _ rfl (w1.heap.size+1) (fW ⟨d.k,0,0,0,0⟩).toArray rfl rfl (A2.fr f6 (by omega)) rfl (by kernel_rfl) (zi _) ?_;intro w7 a7 f7;have kk:Calm w1 w7:=((Z _ kd).join f6 (λj hj e=>by omega)).join f7 (λj hj e=>by omega);refine⟨kk,jl ?_⟩;clear A1 A2 Z;go_wp2_with fail
   go_meet;exact⟨_,_,rfl,rfl,a6.fr f7 (by omega),a7,by omega,by omega,by omega,kk⟩
  ·unfold Oper.wp;go_simp;refine⟨kd.alloc _,?_⟩;refine bR rfl rfl ?_;unfold Oper.wp;go_simp;refine⟨Z _ kd,?_⟩;refine bR rfl rfl ?_;refine bC _ _ _ rfl (w1.heap.size+1) (fW d).toArray rfl rfl A2 rfl (by kernel_rfl) (zi d) ?_;intro w6 a6 f6;refine⟨(Z _ kd).join f6 (λj hj e=>by omega),?_⟩;refine bR rfl rfl ?_;refine bC _ _ _ rfl (w1.heap.size) (fW ⟨d.k,0,0,0,0⟩).toArray rfl rfl (A1.fr f6 (by omega)) rfl (by kernel_rfl) (zi _) ?_;intro w7 a7 f7;have kk:Calm w1 w7:=((Z _ kd).join f6 (λj hj e=>by omega)).join f7 (λj hj e=>by omega);refine⟨kk,jl ?_⟩;clear A1 A2 Z;go_wp2_with fail
   go_meet;exact⟨_,_,rfl,rfl,a6.fr f7 (by omega),a7,by omega,by omega,by omega,kk⟩
 case rest=>
  obtain⟨B5,B6,rfl,rfl,o5,o6,hne,g5,g6,kc⟩:=hcut;obtain⟨N,hN⟩:=ao ((parts k).length);obtain⟨va,vc,hv⟩:=aF hr;rw[hN] at hv
  have gG:Hid (∀i,i<N->∃g,va=some ⟨g,0,none⟩/\∀W,Calm w1 W->W.cell? ⟨g,i*3,none⟩=some (FT ((parts k).getD i pA).f)/\W.cell? ⟨g,i*3+1,none⟩=some (vI ((parts k).getD i pA).lo)/\W.cell? ⟨g,i*3+2,none⟩=some (vI ((parts k).getD i pA).hi)):=λi hi=>by
   obtain⟨g,c,nZ,hg⟩:=bT Qy (by decide) hr pA (show i<(parts k).length by omega);rw[hv] at nZ;injection nZ with e1 e2 e3
   exact⟨g,e1,λW c=>⟨c.cellAt (hg 0 _ rfl).1 id,c.cellAt (hg 1 _ rfl).1 id,c.cellAt (hg 2 _ rfl).1 id⟩⟩
  subst v;have cM:Hid (∀i,i<N->((parts k).getD i pA).f<=3/\((parts k).getD i pA).lo<=mC d ((parts k).getD i pA).f/\mC d ((parts k).getD i pA).f<=((parts k).getD i pA).hi):=λi hi=>hb.out _ (get_mem _ (by omega));have qG:Hid (∀i,i<N->cN d ((parts k).take (i+1))=mH (cN d ((parts k).take i)) (mC d ((parts k).getD i pA).f) ((parts k).getD i pA).f):=λi hi=>D2 d _ i (by omega) pA;have Zz:Hid (cN d ((parts k).take N)=d):=by rw[<-hN,List.take_length];exact hf.out
  have o60:Hid (af wc B6 (fW (cN d ((parts k).take 0)))):=o6;replace hN:=hid (show N<=3 by have:=q_.out;omega);replace o5:=hid o5;clear hr hb hf o6;go_wp2_with fail
  go_loopw [24] (λz wr=>∃i:Nat,i<=N/\z=vI i/\af wr B5 (fW d)/\af wr B6 (fW (cN d ((parts k).take i)))/\Calm w1 wr) (λz _=>N-(intOf z).toNat)
  case atStart=>exact⟨0,by omega,rfl,o5.out,o60.out,kc⟩
  case round=>
   obtain⟨i,hi,rfl,p5,p6,kr⟩:=hrel;have hN3:N<=3:=hN.out
   by_cases aM:i<N
   ·obtain⟨g,rfl,hc⟩:=gG.out i aM;obtain⟨c0,c1',c2⟩:=hc wr kr;obtain⟨b1,b2,b3⟩:=cM.out i aM;have UN:=qG.out i aM;generalize hp:(parts k).getD i pA=p at *;obtain⟨f,lo,oY⟩:=p;simp only[] at c0 c1' c2 b1 b2 b3 UN;have q5:=p5 (f+1) _ (Ke d f b1);have tH:=q5.1;have Yz:(fW (cN d ((parts k).take i))).set (f+1) (vI (mC d f))=fW (cN d ((parts k).take (i+1))):=by rw[O3 _ _ f b1,<-UN]
    have q60:∃u,(fW (cN d ((parts k).take i)))[f+1]?=some u:=⟨_,Ke _ f b1⟩;obtain⟨u,hu⟩:=q60;have SR:=(p6 (f+1) u hu).1;have q62:=(p6 (f+1) u hu).2;obtain⟨V,hV⟩:=ao (mC d f);rw[hV] at b2 b3 tH Yz;have e1:decide (V<lo)=false:=by simp;omega
    have e2:decide (V>oY)=false:=by simp;omega
    have hsf:=cF;have h6:B6<wr.heap.size:=p6.lt (by simp[fW]);have h5:B5<wr.heap.size:=p5.lt (by simp[fW]);clear UN q5 hc;rcases(by omega:f=0\/f=1\/f=2\/f=3) with rfl|rfl|rfl|rfl
    ·simp only[FT] at c0;obtain⟨W8,wh⟩:=ao (wr.alloc (.cells #[.func (.func 104) #[] #[],vI lo,vI oY] 143));have k8:Calm wr W8:=by rw[<-wh];exact ah.alloc _
     have oA:af W8 wr.heap.size [.func (.func 104) #[] #[],vI lo,vI oY]:=by rw[<-wh];exact af.kC wr [_,_,_] _ _ rfl
     obtain⟨m0,m1,m2⟩:=af.mI oA;have tH:=k8.cellAt tH id;have SR:=k8.cellAt SR id;have q62:=((p6.calm k8) 1 u (by assumption)).2;have g6:=jR W8 (B6) 1 (vI V);have Mj:=(p5.calm k8).fr g6 (by omega);have E3:=(p6.calm k8).set 1 (vI V) (by simp[fW]);have e9:(fW (cN d ((parts k).take i))).set 1 (vI V)=fW (cN d ((parts k).take (i+1))):=Yz;rw[e9] at E3;have kk:Calm w1 (W8.setCell ⟨B6,1,none⟩ (vI V)):=(kr.trans k8).join g6 (λj hj e=>by omega);have bM:Hid (af (W8.setCell ⟨B6,1,none⟩ (vI V)) B5 (fW d)/\af (W8.setCell ⟨B6,1,none⟩ (vI V)) B6 (fW (cN d ((parts k).take (i+1))))/\Calm w1 (W8.setCell ⟨B6,1,none⟩ (vI V))):=⟨Mj,E3,kk⟩;clear g6 Mj E3 kk p5 p6 oA e9;go_wp2_with fail
     refine(Yj _ B5).mono ?_;rintro e w4 ⟨rfl,e4⟩;subst w4;go_wp2_with fail
     refine(Yj _ B6).mono ?_;rintro e w4 ⟨rfl,e4⟩;subst w4;go_wp2_with fail
     exact⟨⟨i+1,by omega,by simp,bM.out⟩,by simp[intOf] <;> omega⟩
    ·simp only[FT] at c0;obtain⟨W8,wh⟩:=ao (wr.alloc (.cells #[.func (.func 105) #[] #[],vI lo,vI oY] 143));have k8:Calm wr W8:=by rw[<-wh];exact ah.alloc _
     have oA:af W8 wr.heap.size [.func (.func 105) #[] #[],vI lo,vI oY]:=by rw[<-wh];exact af.kC wr [_,_,_] _ _ rfl
     obtain⟨m0,m1,m2⟩:=af.mI oA;have tH:=k8.cellAt tH id;have SR:=k8.cellAt SR id;have q62:=((p6.calm k8) 2 u (by assumption)).2;have g6:=jR W8 (B6) 2 (vI V);have Mj:=(p5.calm k8).fr g6 (by omega);have E3:=(p6.calm k8).set 2 (vI V) (by simp[fW]);have e9:(fW (cN d ((parts k).take i))).set 2 (vI V)=fW (cN d ((parts k).take (i+1))):=Yz;rw[e9] at E3;have kk:Calm w1 (W8.setCell ⟨B6,2,none⟩ (vI V)):=(kr.trans k8).join g6 (λj hj e=>by omega);have bM:Hid (af (W8.setCell ⟨B6,2,none⟩ (vI V)) B5 (fW d)/\af (W8.setCell ⟨B6,2,none⟩ (vI V)) B6 (fW (cN d ((parts k).take (i+1))))/\Calm w1 (W8.setCell ⟨B6,2,none⟩ (vI V))):=⟨Mj,E3,kk⟩;clear g6 Mj E3 kk p5 p6 oA e9;go_wp2_with fail
     refine(Yk _ B5).mono ?_;rintro e w4 ⟨rfl,e4⟩;subst w4;go_wp2_with fail
     refine(Yk _ B6).mono ?_;rintro e w4 ⟨rfl,e4⟩;subst w4;go_wp2_with fail
     exact⟨⟨i+1,by omega,by simp,bM.out⟩,by simp[intOf] <;> omega⟩
    ·simp only[FT] at c0;obtain⟨W8,wh⟩:=ao (wr.alloc (.cells #[.func (.func 106) #[] #[],vI lo,vI oY] 143));have k8:Calm wr W8:=by rw[<-wh];exact ah.alloc _
     have oA:af W8 wr.heap.size [.func (.func 106) #[] #[],vI lo,vI oY]:=by rw[<-wh];exact af.kC wr [_,_,_] _ _ rfl
     obtain⟨m0,m1,m2⟩:=af.mI oA;have tH:=k8.cellAt tH id;have SR:=k8.cellAt SR id;have q62:=((p6.calm k8) 3 u (by assumption)).2;have g6:=jR W8 (B6) 3 (vI V);have Mj:=(p5.calm k8).fr g6 (by omega);have E3:=(p6.calm k8).set 3 (vI V) (by simp[fW]);have e9:(fW (cN d ((parts k).take i))).set 3 (vI V)=fW (cN d ((parts k).take (i+1))):=Yz;rw[e9] at E3;have kk:Calm w1 (W8.setCell ⟨B6,3,none⟩ (vI V)):=(kr.trans k8).join g6 (λj hj e=>by omega);have bM:Hid (af (W8.setCell ⟨B6,3,none⟩ (vI V)) B5 (fW d)/\af (W8.setCell ⟨B6,3,none⟩ (vI V)) B6 (fW (cN d ((parts k).take (i+1))))/\Calm w1 (W8.setCell ⟨B6,3,none⟩ (vI V))):=⟨Mj,E3,kk⟩;clear g6 Mj E3 kk p5 p6 oA e9;go_wp2_with fail
     refine(Yl _ B5).mono ?_;rintro e w4 ⟨rfl,e4⟩;subst w4;go_wp2_with fail
     refine(Yl _ B6).mono ?_;rintro e w4 ⟨rfl,e4⟩;subst w4;go_wp2_with fail
     exact⟨⟨i+1,by omega,by simp,bM.out⟩,by simp[intOf] <;> omega⟩
    ·simp only[FT] at c0;obtain⟨W8,wh⟩:=ao (wr.alloc (.cells #[.func (.func 107) #[] #[],vI lo,vI oY] 143));have k8:Calm wr W8:=by rw[<-wh];exact ah.alloc _
     have oA:af W8 wr.heap.size [.func (.func 107) #[] #[],vI lo,vI oY]:=by rw[<-wh];exact af.kC wr [_,_,_] _ _ rfl
     obtain⟨m0,m1,m2⟩:=af.mI oA;have tH:=k8.cellAt tH id;have SR:=k8.cellAt SR id;have q62:=((p6.calm k8) 4 u (by assumption)).2;have g6:=jR W8 (B6) 4 (vI V);have Mj:=(p5.calm k8).fr g6 (by omega);have E3:=(p6.calm k8).set 4 (vI V) (by simp[fW]);have e9:(fW (cN d ((parts k).take i))).set 4 (vI V)=fW (cN d ((parts k).take (i+1))):=Yz;rw[e9] at E3;have kk:Calm w1 (W8.setCell ⟨B6,4,none⟩ (vI V)):=(kr.trans k8).join g6 (λj hj e=>by omega);have bM:Hid (af (W8.setCell ⟨B6,4,none⟩ (vI V)) B5 (fW d)/\af (W8.setCell ⟨B6,4,none⟩ (vI V)) B6 (fW (cN d ((parts k).take (i+1))))/\Calm w1 (W8.setCell ⟨B6,4,none⟩ (vI V))):=⟨Mj,E3,kk⟩;clear g6 Mj E3 kk p5 p6 oA e9;go_wp2_with fail
     refine(Ym _ B5).mono ?_;rintro e w4 ⟨rfl,e4⟩;subst w4;go_wp2_with fail
     refine(Ym _ B6).mono ?_;rintro e w4 ⟨rfl,e4⟩;subst w4;go_wp2_with fail
     exact⟨⟨i+1,by omega,by simp,bM.out⟩,by simp[intOf] <;> omega⟩
   ·obtain rfl:i=N:=by omega
    rw[Zz.out] at p6;have p6':=p6;simp only[fW] at p5 p6';obtain⟨x0,x1,x2,x3,x4⟩:=af.Yr p5;obtain⟨y0,y1,y2,y3,y4⟩:=af.Yr p6';go_wp2;go_ret;exact⟨rfl,Hf.trans kr⟩
