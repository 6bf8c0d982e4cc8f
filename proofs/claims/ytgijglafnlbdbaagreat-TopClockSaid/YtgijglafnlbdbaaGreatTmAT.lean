import Derived.Test.YtgijglafnlbdbaaGreatTmAS
set_option linter.all false
set_option maxHeartbeats 8000000
set_option maxRecDepth 8000
namespace Go.Proofs.YtgijglafnlbdbaaGreat
open RowKit Shelf Proofs.Tryz
open Go renaming World->aj,Value->aC,Calls->aL
section
variable {w:aj}{τ:Nat->Nat}{s:Nat}{S:aY}
theorem Hf(h:St w τ s S)(hs:s<100000){x:bT}(hx:xX x)(hg:wL S x){t:Nat}(ht:t<S.bB.length)(hl:(S.tx t).live=true){a b:Nat}(ku:a<6)(kF:b<6) :
 aL prog 45 #[pV S.sp,vI (t:Int),e_ ⟨11,a,b,0,0⟩,bO x] w (px w τ s S t ⟨11,a,b,0,0⟩ x):=by
 obtain⟨τ0,hf,tk,fr⟩:=h.fresh;have cy:=bZ;have gT:=dm;obtain⟨W,fK,hW⟩:=dL w S ⟨11,a,b,0,0⟩ x;simp only[] at fK hW;have qI:=(hW.o6 1 _ rfl).1;have qJ:=(hW.o6 2 _ rfl).1;have qK:=(hW.o6 0 _ rfl).1;have jS:=(hW.o7 (2+a) _ (b_ ku)).1;have jT:=(hW.o7 (2+b) _ (b_ kF)).1;have a0:(0:Int)<=a:=by omega
 have a1:(a:Int)<6:=by omega
 have b0:(0:Int)<=b:=by omega
 have b1:(b:Int)<6:=by omega
 simp only[rg,cF,aS] at fK jS jT;simp only[e_,bO,rg];go_in;go_wp2_with fail
 go_quiet (fail)
 clear fK cy gT qI qJ jS jT;have hV:tJ w (W.drewN nq) S ⟨11,a,b,0,0⟩ x:=hW.calm (aq.drewN nq) rfl;clear hW qK;generalize W.drewN nq=W' at *;have y4:=(hV.o4 0 _ rfl).1;have tI:=(hV.o6 0 _ rfl).1;have po:=(hV.o6 3 _ rfl).1;have pq:=(hV.o6 4 _ rfl).1;have yF:=(hV.oF 0 _ rfl).1;have aZ:∀j,j<=5->w.heap.size+j<W'.heap.size:=λj hj=>by rw[hV.z];omega
 have iV:=hx.at b;have jc:=hx.at a;rw[aS] at jc iV;obtain⟨pb,bJ⟩:=au (x.R[b]?.getD 0);obtain⟨pa,bR⟩:=au (x.R[a]?.getD 0);rw[bJ] at iV;rw[bR] at jc;rw[bJ,bR];have lR:Hid (x.R.getD (b:Int).toNat 0=pb):=by show x.R.getD (b:Int).toNat 0=pb;rw[aS,Int.toNat_natCast];exact bJ
 have sV:Hid (x.R.getD (a:Int).toNat 0=pa):=by show x.R.getD (a:Int).toNat 0=pa;rw[aS,Int.toNat_natCast];exact bR
 replace bJ:=af bJ;replace bR:=af bR
 by_cases heq:pa=pb
 ·have ee:((pa:Int)==(pb:Int))=true:=by simp[heq]
  replace heq:=af heq;have q8:=hV.o8;have q9:=hV.o9;have ol:=ij hV.o7 hx.b hx.p 1 0;clear y4 po pq;simp only[cF] at yF;go_wp2_with fail
  refine ol.mono ?_;rintro en w6 ⟨rfl,k6⟩;clear ol yF;have jH:=q8.calm k6;have lx:=q9.calm k6;have hT:Hid (lC (vw S) t ⟨11,a,b,0,0⟩ x (x.cV 0) 0 1 (vw S)):=.inl ⟨By,x.R,DN.reg x.R 1 (.inr (.inl ⟨rfl,rfl,by show(1:Int)=if x.R.getD (a:Int).toNat 0=x.R.getD (b:Int).toNat 0 then 1 else 0;rw[sV.out,lR.out,if_pos heq.out]⟩)),mK (by decide) By⟩;have hX:=(⟨x,hx.r,hx.rp,rfl,rfl,rfl,rfl,.inl ⟨rfl,by simp⟩⟩:PI ⟨11,a,b,0,0⟩ x (x.cV 0) 0);generalize (x:bT).cV 0=x2 at *;obtain⟨v2,eC⟩:=au ((if (0:Int)=0 then (1:Int) else 0):Int);rw[eC];replace eC:=af eC;simp only[bO,cO,rg];obtain⟨y0,z0,y1,z1,y2,z2,y3,z3,y4,z4,y5,z5,y6,z6,y7,z7,y8,z8,y9,z9,lN,vo,nB,xR,nC,xS,ko,zL,kp,vB⟩:=ag.jU jH;obtain⟨wD,vC,wE,vD,wF,xT⟩:=ag.sR lx;have T1:=jH.whole (us:=(bq x2)) rfl;have F1:=rG w6 (w.heap.size+1+1+1) 0 (bq x2);have U0:=lx.fr F1 (by omega);have U:=U0.whole (us:=[vI 2,vI 0,vI v2]) rfl;have F2:Fr (λk=>k=w.heap.size+1+1+1+1) (w6.setCells (w.heap.size+1+1+1) 0 (bq x2)) ((w6.setCells (w.heap.size+1+1+1) 0 (bq x2)).setCells (w.heap.size+1+1+1+1) 0 [vI 2,vI 0,vI v2]):=Fr.setCells (S:=λk=>k=w.heap.size+1+1+1+1) rfl _ _ aq;have T:=T1.fr F2 (by omega)
  have hF:Fr (λb=>w.heap.size<=b/\b<W'.heap.size) W' ((w6.setCells (w.heap.size+1+1+1) 0 (bq x2)).setCells (w.heap.size+1+1+1+1) 0 [vI 2,vI 0,vI v2]):=
   (((Fr.refl (λb=>w.heap.size<=b/\b<W'.heap.size) W').trans (Calm.any k6)).trans (F1.mono (λb _ e=>by have:=aZ 3 (by omega);omega))).trans (F2.mono (λb _ e=>by have:=aZ 4 (by omega);omega))
  have hP:px w τ s S t ⟨11,a,b,0,0⟩ x (.returned (.tuple #[bO x2,cO 2 0 v2])) ((w6.setCells (w.heap.size+1+1+1) 0 (bq x2)).setCells (w.heap.size+1+1+1+1) 0 [vI 2,vI 0,vI v2]):=⟨x2,0,v2,rfl,by decide,hX,fY hV tk fr (Nx.mono (Nx.calm (hf.calm hV.c) aq (R:=λS'=>lC (vw S) t ⟨11,a,b,0,0⟩ x x2 0 v2 (vw S')) (by rw[<-eC.out];exact hT.out)) (Nat.le_succ _) (λ_ h=>h)) hF⟩;replace hP:=af hP;replace T:=af T;replace U:=af U;clear T1 F1 U0 F2 hF hX q8 q9;go_wp2;exact bodyPost_ret (v:=.tuple #[bO x2,cO 2 0 v2]) (cd (i:=8) (j:=9) rfl rfl rfl T.out U.out) rfl hP.out
 ·have ee:((pa:Int)==(pb:Int))=false:=by simp;omega
  have q8:=hV.o8;have q9:=hV.o9;have ol:=ij hV.o7 hx.b hx.p 0 0;clear y4 po pq;simp only[cF] at yF;go_wp2_with fail
  refine ol.mono ?_;rintro en w6 ⟨rfl,k6⟩;clear ol yF;have jH:=q8.calm k6;have lx:=q9.calm k6;have hT:Hid (lC (vw S) t ⟨11,a,b,0,0⟩ x (x.cV 0) 0 0 (vw S)):=.inl ⟨By,x.R,DN.reg x.R 0 (.inr (.inl ⟨rfl,rfl,by show(0:Int)=if x.R.getD (a:Int).toNat 0=x.R.getD (b:Int).toNat 0 then 1 else 0;rw[sV.out,lR.out,if_neg heq]⟩)),mK (by decide) By⟩;have hX:=(⟨x,hx.r,hx.rp,rfl,rfl,rfl,rfl,.inl ⟨rfl,by simp⟩⟩:PI ⟨11,a,b,0,0⟩ x (x.cV 0) 0);generalize (x:bT).cV 0=x2 at *;obtain⟨v2,eC⟩:=au ((if (0:Int)=0 then (0:Int) else 0):Int);rw[eC];replace eC:=af eC;simp only[bO,cO,rg];obtain⟨y0,z0,y1,z1,y2,z2,y3,z3,y4,z4,y5,z5,y6,z6,y7,z7,y8,z8,y9,z9,lN,vo,nB,xR,nC,xS,ko,zL,kp,vB⟩:=ag.jU jH;obtain⟨wD,vC,wE,vD,wF,xT⟩:=ag.sR lx;have T1:=jH.whole (us:=(bq x2)) rfl;have F1:=rG w6 (w.heap.size+1+1+1) 0 (bq x2);have U0:=lx.fr F1 (by omega);have U:=U0.whole (us:=[vI 2,vI 0,vI v2]) rfl;have F2:Fr (λk=>k=w.heap.size+1+1+1+1) (w6.setCells (w.heap.size+1+1+1) 0 (bq x2)) ((w6.setCells (w.heap.size+1+1+1) 0 (bq x2)).setCells (w.heap.size+1+1+1+1) 0 [vI 2,vI 0,vI v2]):=Fr.setCells (S:=λk=>k=w.heap.size+1+1+1+1) rfl _ _ aq;have T:=T1.fr F2 (by omega)
  have hF:Fr (λb=>w.heap.size<=b/\b<W'.heap.size) W' ((w6.setCells (w.heap.size+1+1+1) 0 (bq x2)).setCells (w.heap.size+1+1+1+1) 0 [vI 2,vI 0,vI v2]):=
   (((Fr.refl (λb=>w.heap.size<=b/\b<W'.heap.size) W').trans (Calm.any k6)).trans (F1.mono (λb _ e=>by have:=aZ 3 (by omega);omega))).trans (F2.mono (λb _ e=>by have:=aZ 4 (by omega);omega))
  have hP:px w τ s S t ⟨11,a,b,0,0⟩ x (.returned (.tuple #[bO x2,cO 2 0 v2])) ((w6.setCells (w.heap.size+1+1+1) 0 (bq x2)).setCells (w.heap.size+1+1+1+1) 0 [vI 2,vI 0,vI v2]):=⟨x2,0,v2,rfl,by decide,hX,fY hV tk fr (Nx.mono (Nx.calm (hf.calm hV.c) aq (R:=λS'=>lC (vw S) t ⟨11,a,b,0,0⟩ x x2 0 v2 (vw S')) (by rw[<-eC.out];exact hT.out)) (Nat.le_succ _) (λ_ h=>h)) hF⟩;replace hP:=af hP;replace T:=af T;replace U:=af U;clear T1 F1 U0 F2 hF hX q8 q9;go_wp2;exact bodyPost_ret (v:=.tuple #[bO x2,cO 2 0 v2]) (cd (i:=8) (j:=9) rfl rfl rfl T.out U.out) rfl hP.out
theorem Hg(h:St w τ s S)(hs:s<100000){x:bT}(hx:xX x)(hg:wL S x){t:Nat}(ht:t<S.bB.length)(hl:(S.tx t).live=true){a b:Nat}(ku:a<6)(kF:b<6) :
 aL prog 45 #[pV S.sp,vI (t:Int),e_ ⟨12,a,b,0,0⟩,bO x] w (px w τ s S t ⟨12,a,b,0,0⟩ x):=by
 obtain⟨τ0,hf,tk,fr⟩:=h.fresh;have cy:=bZ;have gT:=dm;obtain⟨W,fK,hW⟩:=dL w S ⟨12,a,b,0,0⟩ x;simp only[] at fK hW;have qI:=(hW.o6 1 _ rfl).1;have qJ:=(hW.o6 2 _ rfl).1;have qK:=(hW.o6 0 _ rfl).1;have jS:=(hW.o7 (2+a) _ (b_ ku)).1;have jT:=(hW.o7 (2+b) _ (b_ kF)).1;have a0:(0:Int)<=a:=by omega
 have a1:(a:Int)<6:=by omega
 have b0:(0:Int)<=b:=by omega
 have b1:(b:Int)<6:=by omega
 simp only[rg,cF,aS] at fK jS jT;simp only[e_,bO,rg];go_in;go_wp2_with fail
 go_quiet (fail)
 clear fK cy gT qI qJ jS jT;have hV:tJ w (W.drewN nq) S ⟨12,a,b,0,0⟩ x:=hW.calm (aq.drewN nq) rfl;clear hW qK;generalize W.drewN nq=W' at *;have y4:=(hV.o4 0 _ rfl).1;have tI:=(hV.o6 0 _ rfl).1;have po:=(hV.o6 3 _ rfl).1;have pq:=(hV.o6 4 _ rfl).1;have yF:=(hV.oF 0 _ rfl).1;have aZ:∀j,j<=5->w.heap.size+j<W'.heap.size:=λj hj=>by rw[hV.z];omega
 have iV:=hx.at b;have jc:=hx.at a;rw[aS] at jc iV;obtain⟨pb,bJ⟩:=au (x.R[b]?.getD 0);obtain⟨pa,bR⟩:=au (x.R[a]?.getD 0);rw[bJ] at iV;rw[bR] at jc;rw[bJ,bR];have lR:Hid (x.R.getD (b:Int).toNat 0=pb):=by show x.R.getD (b:Int).toNat 0=pb;rw[aS,Int.toNat_natCast];exact bJ
 have sV:Hid (x.R.getD (a:Int).toNat 0=pa):=by show x.R.getD (a:Int).toNat 0=pa;rw[aS,Int.toNat_natCast];exact bR
 replace bJ:=af bJ;replace bR:=af bR;have c7:=hV.o7 (2+a) _ (b_ ku);have c70:=c7.1;have c71:=c7.2;have y6a:=(hV.o6 1 _ rfl).1;have F:Fr (λb=>b=w.heap.size+1+1) W' (W'.setCell ⟨w.heap.size+1+1,2+a,none⟩ (vI ((pb:Nat):Int))):=(Fr.refl (λb=>b=w.heap.size+1+1) W').setCell (p:=⟨w.heap.size+1+1,2+a,none⟩) (.inl rfl) _;have Ih:=hV.o7.set (2+a) (vI ((pb:Nat):Int)) (by rw[iQ];omega);rw[tH hx.r ku] at Ih;have q8:=hV.o8.fr F (by omega);have q9:=hV.o9.fr F (by omega);have U5:=F.cellAt yF (by show ¬(w.heap.size+1+1+1+1+1=w.heap.size+1+1);omega);have hXX:PI ⟨12,a,b,0,0⟩ x (({ x with R:=x.R.set a pb } : bT).cV 0) 0:=hx.nh (by simp) (a:=a) (v:=pb) (by omega) 0;obtain⟨W3,yA⟩:=au (W'.setCell ⟨w.heap.size+1+1,2+a,none⟩ (vI (pb:Int)));rw[yA] at F Ih q8 q9 U5;clear c7;have ol:=ij Ih hx.b hx.p 0 0;clear y4 po pq;simp only[cF] at yF;go_wp2_with fail
 refine ol.mono ?_;rintro en w6 ⟨rfl,k6⟩;clear ol U5;have jH:=q8.calm k6;have lx:=q9.calm k6;have hX:=hXX;have hT:Hid (lC (vw S) t ⟨12,a,b,0,0⟩ x (({ x with R:=x.R.set a pb } : bT).cV 0) 0 0 (vw S)):=.inl ⟨By,x.R.set a pb,DN.reg _ _ (.inr (.inr (.inl ⟨rfl,by show x.R.set a pb=x.R.set (a:Int).toNat (x.R.getD (b:Int).toNat 0);rw[lR.out];rfl,rfl⟩))),mK (by decide) By⟩;generalize ({ x with R:=x.R.set a pb } : bT).cV 0=x2 at *;obtain⟨v2,eC⟩:=au ((if (0:Int)=0 then (0:Int) else 0):Int);rw[eC];replace eC:=af eC;simp only[bO,cO,rg];obtain⟨y0,z0,y1,z1,y2,z2,y3,z3,y4,z4,y5,z5,y6,z6,y7,z7,y8,z8,y9,z9,lN,vo,nB,xR,nC,xS,ko,zL,kp,vB⟩:=ag.jU jH;obtain⟨wD,vC,wE,vD,wF,xT⟩:=ag.sR lx;have T1:=jH.whole (us:=(bq x2)) rfl;have F1:=rG w6 (w.heap.size+1+1+1) 0 (bq x2);have U0:=lx.fr F1 (by omega);have U:=U0.whole (us:=[vI 2,vI 0,vI v2]) rfl;have F2:Fr (λk=>k=w.heap.size+1+1+1+1) (w6.setCells (w.heap.size+1+1+1) 0 (bq x2)) ((w6.setCells (w.heap.size+1+1+1) 0 (bq x2)).setCells (w.heap.size+1+1+1+1) 0 [vI 2,vI 0,vI v2]):=Fr.setCells (S:=λk=>k=w.heap.size+1+1+1+1) rfl _ _ aq;have T:=T1.fr F2 (by omega)
 have hF:Fr (λb=>w.heap.size<=b/\b<W'.heap.size) W' ((w6.setCells (w.heap.size+1+1+1) 0 (bq x2)).setCells (w.heap.size+1+1+1+1) 0 [vI 2,vI 0,vI v2]):=
  (((F.mono (λb _ e=>by have:=aZ 2 (by omega);omega):Fr (λb=>w.heap.size<=b/\b<W'.heap.size) _ _).trans (Calm.any k6)).trans (F1.mono (λb _ e=>by have:=aZ 3 (by omega);omega))).trans (F2.mono (λb _ e=>by have:=aZ 4 (by omega);omega))
 have hP:px w τ s S t ⟨12,a,b,0,0⟩ x (.returned (.tuple #[bO x2,cO 2 0 v2])) ((w6.setCells (w.heap.size+1+1+1) 0 (bq x2)).setCells (w.heap.size+1+1+1+1) 0 [vI 2,vI 0,vI v2]):=⟨x2,0,v2,rfl,by decide,hX,fY hV tk fr (Nx.mono (Nx.calm (hf.calm hV.c) aq (R:=λS'=>lC (vw S) t ⟨12,a,b,0,0⟩ x x2 0 v2 (vw S')) (by rw[<-eC.out];exact hT.out)) (Nat.le_succ _) (λ_ h=>h)) hF⟩;replace hP:=af hP;replace T:=af T;replace U:=af U;clear T1 F1 U0 F2 hF hX q8 q9;go_wp2;exact bodyPost_ret (v:=.tuple #[bO x2,cO 2 0 v2]) (cd (i:=8) (j:=9) rfl rfl rfl T.out U.out) rfl hP.out
theorem Hh(h:St w τ s S)(hs:s<100000){x:bT}(hx:xX x)(hg:wL S x){t:Nat}(ht:t<S.bB.length)(hl:(S.tx t).live=true){a b:Nat}(ku:a<6)(kF:b<6) :
 aL prog 45 #[pV S.sp,vI (t:Int),e_ ⟨13,a,b,0,0⟩,bO x] w (px w τ s S t ⟨13,a,b,0,0⟩ x):=by
 obtain⟨τ0,hf,tk,fr⟩:=h.fresh;have cy:=bZ;have gT:=dm;obtain⟨W,fK,hW⟩:=dL w S ⟨13,a,b,0,0⟩ x;simp only[] at fK hW;have qI:=(hW.o6 1 _ rfl).1;have qJ:=(hW.o6 2 _ rfl).1;have qK:=(hW.o6 0 _ rfl).1;have jS:=(hW.o7 (2+a) _ (b_ ku)).1;have jT:=(hW.o7 (2+b) _ (b_ kF)).1;have a0:(0:Int)<=a:=by omega
 have a1:(a:Int)<6:=by omega
 have b0:(0:Int)<=b:=by omega
 have b1:(b:Int)<6:=by omega
 simp only[rg,cF,aS] at fK jS jT;simp only[e_,bO,rg];go_in;go_wp2_with fail
 go_quiet (fail)
 clear fK cy gT qI qJ jS jT;have hV:tJ w (W.drewN nq) S ⟨13,a,b,0,0⟩ x:=hW.calm (aq.drewN nq) rfl;clear hW qK;generalize W.drewN nq=W' at *;have y4:=(hV.o4 0 _ rfl).1;have tI:=(hV.o6 0 _ rfl).1;have po:=(hV.o6 3 _ rfl).1;have pq:=(hV.o6 4 _ rfl).1;have yF:=(hV.oF 0 _ rfl).1;have aZ:∀j,j<=5->w.heap.size+j<W'.heap.size:=λj hj=>by rw[hV.z];omega
 have iV:=hx.at b;have jc:=hx.at a;rw[aS] at jc iV;obtain⟨pb,bJ⟩:=au (x.R[b]?.getD 0);obtain⟨pa,bR⟩:=au (x.R[a]?.getD 0);rw[bJ] at iV;rw[bR] at jc;rw[bJ,bR];have lR:Hid (x.R.getD (b:Int).toNat 0=pb):=by show x.R.getD (b:Int).toNat 0=pb;rw[aS,Int.toNat_natCast];exact bJ
 have sV:Hid (x.R.getD (a:Int).toNat 0=pa):=by show x.R.getD (a:Int).toNat 0=pa;rw[aS,Int.toNat_natCast];exact bR
 replace bJ:=af bJ;replace bR:=af bR;have c7:=hV.o7 (2+a) _ (b_ ku);have c70:=c7.1;have c71:=c7.2;have y6a:=(hV.o6 1 _ rfl).1;have F:Fr (λb=>b=w.heap.size+1+1) W' (W'.setCell ⟨w.heap.size+1+1,2+a,none⟩ (vI ((0:Nat):Int))):=(Fr.refl (λb=>b=w.heap.size+1+1) W').setCell (p:=⟨w.heap.size+1+1,2+a,none⟩) (.inl rfl) _;have Ih:=hV.o7.set (2+a) (vI ((0:Nat):Int)) (by rw[iQ];omega);rw[tH hx.r ku] at Ih;have q8:=hV.o8.fr F (by omega);have q9:=hV.o9.fr F (by omega);have U5:=F.cellAt yF (by show ¬(w.heap.size+1+1+1+1+1=w.heap.size+1+1);omega);have hXX:PI ⟨13,a,b,0,0⟩ x (({ x with R:=x.R.set a 0 } : bT).cV 0) 0:=hx.nh (by simp) (a:=a) (v:=0) (by omega) 0;have Rj:vI ((0:Nat):Int)=vI 0:=rfl;rw[Rj] at F Ih q8 q9 U5;obtain⟨W3,yA⟩:=au (W'.setCell ⟨w.heap.size+1+1,2+a,none⟩ (vI (0:Int)));rw[yA] at F Ih q8 q9 U5;clear c7;have ol:=ij Ih hx.b hx.p 0 0;clear y4 po pq;simp only[cF] at yF;go_wp2_with fail
 refine ol.mono ?_;rintro en w6 ⟨rfl,k6⟩;clear ol U5;have jH:=q8.calm k6;have lx:=q9.calm k6;have hX:=hXX;have hT:Hid (lC (vw S) t ⟨13,a,b,0,0⟩ x (({ x with R:=x.R.set a 0 } : bT).cV 0) 0 0 (vw S)):=.inl ⟨By,x.R.set a 0,DN.reg _ _ (.inr (.inr (.inr ⟨rfl,rfl,rfl⟩))),mK (by decide) By⟩;generalize ({ x with R:=x.R.set a 0 } : bT).cV 0=x2 at *;obtain⟨v2,eC⟩:=au ((if (0:Int)=0 then (0:Int) else 0):Int);rw[eC];replace eC:=af eC;simp only[bO,cO,rg];obtain⟨y0,z0,y1,z1,y2,z2,y3,z3,y4,z4,y5,z5,y6,z6,y7,z7,y8,z8,y9,z9,lN,vo,nB,xR,nC,xS,ko,zL,kp,vB⟩:=ag.jU jH;obtain⟨wD,vC,wE,vD,wF,xT⟩:=ag.sR lx;have T1:=jH.whole (us:=(bq x2)) rfl;have F1:=rG w6 (w.heap.size+1+1+1) 0 (bq x2);have U0:=lx.fr F1 (by omega);have U:=U0.whole (us:=[vI 2,vI 0,vI v2]) rfl;have F2:Fr (λk=>k=w.heap.size+1+1+1+1) (w6.setCells (w.heap.size+1+1+1) 0 (bq x2)) ((w6.setCells (w.heap.size+1+1+1) 0 (bq x2)).setCells (w.heap.size+1+1+1+1) 0 [vI 2,vI 0,vI v2]):=Fr.setCells (S:=λk=>k=w.heap.size+1+1+1+1) rfl _ _ aq;have T:=T1.fr F2 (by omega)
 have hF:Fr (λb=>w.heap.size<=b/\b<W'.heap.size) W' ((w6.setCells (w.heap.size+1+1+1) 0 (bq x2)).setCells (w.heap.size+1+1+1+1) 0 [vI 2,vI 0,vI v2]):=
  (((F.mono (λb _ e=>by have:=aZ 2 (by omega);omega):Fr (λb=>w.heap.size<=b/\b<W'.heap.size) _ _).trans (Calm.any k6)).trans (F1.mono (λb _ e=>by have:=aZ 3 (by omega);omega))).trans (F2.mono (λb _ e=>by have:=aZ 4 (by omega);omega))
 have hP:px w τ s S t ⟨13,a,b,0,0⟩ x (.returned (.tuple #[bO x2,cO 2 0 v2])) ((w6.setCells (w.heap.size+1+1+1) 0 (bq x2)).setCells (w.heap.size+1+1+1+1) 0 [vI 2,vI 0,vI v2]):=⟨x2,0,v2,rfl,by decide,hX,fY hV tk fr (Nx.mono (Nx.calm (hf.calm hV.c) aq (R:=λS'=>lC (vw S) t ⟨13,a,b,0,0⟩ x x2 0 v2 (vw S')) (by rw[<-eC.out];exact hT.out)) (Nat.le_succ _) (λ_ h=>h)) hF⟩;replace hP:=af hP;replace T:=af T;replace U:=af U;clear T1 F1 U0 F2 hF hX q8 q9;go_wp2;exact bodyPost_ret (v:=.tuple #[bO x2,cO 2 0 v2]) (cd (i:=8) (j:=9) rfl rfl rfl T.out U.out) rfl hP.out
end
section
variable {w:aj}{τ:Nat->Nat}{s:Nat}{S:aY}
theorem Hi(h:St w τ s S)(hs:s<100000){x:bT}(hx:xX x)(hg:wL S x){t:Nat}(ht:t<S.bB.length)(hl:(S.tx t).live=true){a b:Nat}(ku:a<6)(kF:b<6) :
 aL prog 45 #[pV S.sp,vI (t:Int),e_ ⟨14,a,b,0,0⟩,bO x] w (px w τ s S t ⟨14,a,b,0,0⟩ x):=by
 obtain⟨τ0,hf,tk,fr⟩:=h.fresh;have cy:=bZ;have gT:=dm;obtain⟨W,fK,hW⟩:=dL w S ⟨14,a,b,0,0⟩ x;simp only[] at fK hW;have qI:=(hW.o6 1 _ rfl).1;have qJ:=(hW.o6 2 _ rfl).1;have qK:=(hW.o6 0 _ rfl).1;have jS:=(hW.o7 (2+a) _ (b_ ku)).1;have jT:=(hW.o7 (2+b) _ (b_ kF)).1;have a0:(0:Int)<=a:=by omega
 have a1:(a:Int)<6:=by omega
 have b0:(0:Int)<=b:=by omega
 have b1:(b:Int)<6:=by omega
 simp only[rg,cF,aS] at fK jS jT;simp only[e_,bO,rg];go_in;go_wp2_with fail
 go_quiet (fail)
 clear fK cy gT qI qJ jS jT;have hV:tJ w (W.drewN nq) S ⟨14,a,b,0,0⟩ x:=hW.calm (aq.drewN nq) rfl;clear hW qK;generalize W.drewN nq=W' at *;have y4:=(hV.o4 0 _ rfl).1;have tI:=(hV.o6 0 _ rfl).1;have po:=(hV.o6 3 _ rfl).1;have pq:=(hV.o6 4 _ rfl).1;have yF:=(hV.oF 0 _ rfl).1;have aZ:∀j,j<=5->w.heap.size+j<W'.heap.size:=λj hj=>by rw[hV.z];omega
 have iV:=hx.at b;have jc:=hx.at a;rw[aS] at jc iV;obtain⟨pb,bJ⟩:=au (x.R[b]?.getD 0);obtain⟨pa,bR⟩:=au (x.R[a]?.getD 0);rw[bJ] at iV;rw[bR] at jc;rw[bJ,bR];replace bJ:=af bJ;replace bR:=af bR;have oc:=Ha (hf.calm hV.c) ht hl;go_wp2_with fail
 refine oc.mono ?_;rintro en w5 ⟨rfl,n5⟩;clear oc;obtain⟨x2,dg⟩:=au (({ x.back with b:=x.b+1 } : bT));obtain⟨fB,S5,p1,p2,p3,p4⟩:=n5;have tg:∀j,j<=5->500<=τ0 (w.heap.size+j):=λj hj=>by rw[fr _ (by omega)];omega
 have q7:=p2.bw hV.o7 (tg 2 (by omega));have qF:=p2.bw hV.oF (tg 5 (by omega));have q8:=p2.bw hV.o8 (tg 3 (by omega));have q9:=p2.bw hV.o9 (tg 4 (by omega));have n5:Nx W' τ0 (s+1) S w5 (λS'=>lC (vw S) t ⟨14,a,b,0,0⟩ x x2 0 0 (vw S')):=Nx.mono (⟨fB,S5,p1,p2,p3,p4⟩:Nx W' τ0 s S w5 (λS'=>vw S'=(vw S).wM t)) (Nat.le_succ _) (λS' h=>.inr (.inr ⟨rfl,rfl,rfl,dg.symm,h⟩));clear p1 p2 p3 p4 yF tI;have hX:PI ⟨14,a,b,0,0⟩ x x2 0:=⟨x,hx.r,hx.rp,rfl,rfl,rfl,rfl,.inr ⟨rfl,rfl,dg.symm⟩⟩;have ob:=qH w5 x.b x.p (x.R.getD 0 0:Nat) (x.R.getD 1 0:Nat) (x.R.getD 2 0:Nat) (x.R.getD 3 0:Nat) (x.R.getD 4 0:Nat) (x.R.getD 5 0:Nat) (x.V.getD 0 0:Nat) (x.V.getD 1 0:Nat) (x.V.getD 2 0:Nat) (x.V.getD 3 0:Nat) (x.V.getD 4 0:Nat) (x.V.getD 5 0:Nat) x.live;simp only[bq,rg] at q7;obtain⟨y0,y1,y2,y3,y4,y5,y6,y7,y8,y9,lN,nB,nC,ko,kp⟩:=ag.nY q7;have Bs:IntKind.i64.wrap (x.b+1)=x.b+1:=IntWalk.i64_in _ (by have:=hx.b;omega);go_wp2_with fail
 refine ob.mono ?_;rintro en w6 ⟨rfl,Xz⟩;have k6:Calm w5 w6:=by rw[Xz];exact(aq.alloc _).alloc _
 clear Xz ob y0 y1 y2 y3 y4 y5 y6 y7 y8 y9 lN nB nC ko kp;have r7:=q7.calm k6;have r8:=q8.calm k6;have r9:=q9.calm k6;have xb1:=eO x.back
 go_wp2_with (
  refine il rfl _ _ _ rfl (w.heap.size+1+1) (bq x.back).toArray rfl rfl r7 rfl (by kernel_rfl) xb1 ?_;intro W7 s7 f7;clear r7 xb1;have s8:=s7.set 0 (vI (x.b+1)) (by show 0<15;decide);have g7:=l_ W7 (w.heap.size+1+1) 0 (vI (x.b+1));have e8:(bq x.back).set 0 (vI (x.b+1))=bq x2:=by rw[<-dg];rfl
  have s8:ag (W7.setCell ⟨w.heap.size+1+1,0,none⟩ (vI (x.b+1))) (w.heap.size+1+1) (bq x2):=by rw[<-e8];exact s8
  obtain⟨W8,jn⟩:=au (W7.setCell ⟨w.heap.size+1+1,0,none⟩ (vI (x.b+1)));rw[jn] at s8 g7;have s70:W7.cell? ⟨w.heap.size+1+1,0,none⟩=some (vI x.b):=(s7 0 _ rfl).1;have s71:W7.frozen? ⟨w.heap.size+1+1,0,none⟩=false:=(s7 0 _ rfl).2;replace dg:=af dg;simp only[bq,rg] at s8;obtain⟨d0,d1,d2,d3,d4,d5,d6,d7,d8,d9,d10,d11,d12,d13,d14⟩:=ag.nY s8;have jH:=(r8.fr f7 (by omega)).fr g7 (by omega);have lx:=(r9.fr f7 (by omega)).fr g7 (by omega);simp only[bO,cO,rg];obtain⟨y0,z0,y1,z1,y2,z2,y3,z3,y4,z4,y5,z5,y6,z6,y7,z7,y8,z8,y9,z9,lN,vo,nB,xR,nC,xS,ko,zL,kp,vB⟩:=ag.jU jH;obtain⟨wD,vC,wE,vD,wF,xT⟩:=ag.sR lx;have T1:=jH.whole (us:=(bq x2)) rfl;have F1:=rG W8 (w.heap.size+1+1+1) 0 (bq x2);have U0:=lx.fr F1 (by omega);have U:=U0.whole (us:=[vI 2,vI 0,vI 0]) rfl;have F2:Fr (λk=>k=w.heap.size+1+1+1+1) (W8.setCells (w.heap.size+1+1+1) 0 (bq x2)) ((W8.setCells (w.heap.size+1+1+1) 0 (bq x2)).setCells (w.heap.size+1+1+1+1) 0 [vI 2,vI 0,vI 0]):=Fr.setCells (S:=λk=>k=w.heap.size+1+1+1+1) rfl _ _ aq;have T:=T1.fr F2 (by omega)
  have hF:Fr (λb=>w.heap.size<=b/\b<W'.heap.size) w5 ((W8.setCells (w.heap.size+1+1+1) 0 (bq x2)).setCells (w.heap.size+1+1+1+1) 0 [vI 2,vI 0,vI 0]):=
   ((((Calm.any k6:Fr (λb=>w.heap.size<=b/\b<W'.heap.size) _ _).trans (f7.mono (λb _ e=>by have:=aZ 2 (by omega);omega))).trans (g7.mono (λb _ e=>by have:=aZ 2 (by omega);omega))).trans (F1.mono (λb _ e=>by have:=aZ 3 (by omega);omega))).trans (F2.mono (λb _ e=>by have:=aZ 4 (by omega);omega))
  have hP:px w τ s S t ⟨14,a,b,0,0⟩ x (.returned (.tuple #[bO x2,cO 2 0 0])) ((W8.setCells (w.heap.size+1+1+1) 0 (bq x2)).setCells (w.heap.size+1+1+1+1) 0 [vI 2,vI 0,vI 0]):=⟨x2,0,0,rfl,by decide,hX,fY hV tk fr n5 hF⟩;replace hP:=af hP;replace T:=af T;replace U:=af U
  clear T1 F1 U0 F2 hF n5 hX q8 q9 r8 r9 f7 g7 s7 e8)
 exact bodyPost_ret (v:=.tuple #[bO x2,cO 2 0 0]) (cd (i:=8) (j:=9) rfl rfl rfl T.out U.out) rfl hP.out
theorem Lu(h:St w τ s S)(hs:s<100000){x:bT}(hx:xX x)(hg:wL S x){t:Nat}(ht:t<S.bB.length)(hl:(S.tx t).live=true){d:Dd}(hd:d.Rt) :
 aL prog 45 #[pV S.sp,vI (t:Int),e_ d,bO x] w (px w τ s S t d x):=by
 have n6:∀y:Int,R6 y->∃a:Nat,y=a/\a<6:=λy ⟨h1,h2⟩=>⟨y.toNat,by omega,by omega⟩;have n8:∀y:Int,R8 y->∃a:Nat,y=a/\a<=7:=λy ⟨h1,h2⟩=>⟨y.toNat,by omega,by omega⟩;have n5:∀y:Int,R5 y->∃a:Nat,y=a/\a<=4:=λy ⟨h1,h2⟩=>⟨y.toNat,by omega,by omega⟩;have z6:(0:Nat)<6:=by decide
 obtain⟨k,a,b,i,n⟩:=d;simp only[Dd.Rt] at hd;rcases hd with ⟨rfl,h1,rfl,h3,h4⟩|⟨rfl,h1,rfl,h3,h4⟩|⟨rfl,h1,h2,rfl,rfl⟩|⟨rfl,h1,h2,h3,rfl⟩|⟨rfl,h1,h2,h3,rfl⟩|⟨rfl,h1,rfl,h3,rfl⟩|⟨rfl,h1,rfl,h3,h4⟩|⟨rfl,h1,rfl,rfl,rfl⟩|⟨rfl,h1,h2,rfl,rfl⟩|⟨rfl,h1,rfl,rfl,rfl⟩|⟨rfl,h1,h2,rfl,rfl⟩|⟨rfl,h1,h2,rfl,rfl⟩|⟨rfl,h1,rfl,rfl,rfl⟩|⟨rfl,rfl,rfl,rfl,rfl⟩
 ·obtain⟨a,rfl,ha⟩:=n6 a h1;obtain⟨i,rfl,hi⟩:=n5 i h3;obtain⟨n,rfl,hn⟩:=n5 n h4;exact Lv h hs hx hg ht hl (b:=0) ha z6 hi hn
 ·obtain⟨a,rfl,ha⟩:=n6 a h1;obtain⟨i,rfl,hi⟩:=n5 i h3;obtain⟨n,rfl,hn⟩:=n5 n h4;exact Lw h hs hx hg ht hl (b:=0) ha z6 hi hn
 ·obtain⟨a,rfl,ha⟩:=n6 a h1;obtain⟨b,rfl,hb⟩:=n6 b h2;exact Lx h hs hx hg ht hl ha hb
 ·obtain⟨a,rfl,ha⟩:=n6 a h1;obtain⟨b,rfl,hb⟩:=n6 b h2;obtain⟨i,rfl,hi⟩:=n8 i h3;exact Ly h hs hx hg ht hl ha hb hi
 ·obtain⟨a,rfl,ha⟩:=n6 a h1;obtain⟨b,rfl,hb⟩:=n6 b h2;obtain⟨i,rfl,hi⟩:=n8 i h3;exact Lz h hs hx hg ht hl ha hb hi
 ·obtain⟨a,rfl,ha⟩:=n6 a h1;obtain⟨i,rfl,hi⟩:=n8 i h3;exact LA h hs hx hg ht hl (b:=0) ha z6 hi
 ·obtain⟨a,rfl,ha⟩:=n6 a h1;obtain⟨i,rfl,hi⟩:=n8 i h3;exact LC h hs hx hg ht hl (b:=0) ha z6 hi (n:=n) (by obtain⟨g1,g2⟩:=h4;exact⟨by omega,by omega⟩)
 ·obtain⟨a,rfl,ha⟩:=n6 a h1;exact LD h hs hx hg ht hl (b:=0) ha z6
 ·obtain⟨a,rfl,ha⟩:=n6 a h1;obtain⟨b,rfl,hb⟩:=n6 b h2;exact LF h hs hx hg ht hl ha hb
 ·obtain⟨a,rfl,ha⟩:=n6 a h1;exact He h hs hx hg ht hl (b:=0) ha z6
 ·obtain⟨a,rfl,ha⟩:=n6 a h1;obtain⟨b,rfl,hb⟩:=n6 b h2;exact Hf h hs hx hg ht hl ha hb
 ·obtain⟨a,rfl,ha⟩:=n6 a h1;obtain⟨b,rfl,hb⟩:=n6 b h2;exact Hg h hs hx hg ht hl ha hb
 ·obtain⟨a,rfl,ha⟩:=n6 a h1;exact Hh h hs hx hg ht hl (b:=0) ha z6
 ·exact Hi h hs hx hg ht hl (a:=0) (b:=0) z6 z6
end
def lH(d:Dd):Nat->Int|0=>d.a|1=>d.b|2=>d.i|_=>d.n
def lK(d:Dd)(v:Int):Nat->Dd|0=>{ d with a:=v } | 1=>{ d with b:=v } | 2=>{ d with i:=v } | _=>{ d with n:=v }
def cE(d:Dd)(l:List Pt):Dd:=l.foldl (λc p=>lK c (lH d p.f) p.f) ⟨d.k,0,0,0,0⟩
theorem CQ(d:Dd)(l:List Pt)(p:Pt):cE d (l++[p])=lK (cE d l) (lH d p.f) p.f:=by unfold cE;rw[List.foldl_append];rfl
theorem Lk{d:Dd}(h:d.Rt):∃k:Nat,d.k=k/\1<=k/\k<=14/\(parts k).length<=3/\(∀p∈parts k,p.f<=3/\p.lo<=lH d p.f/\lH d p.f<=p.hi)/\cE d (parts k)=d:=by
 obtain⟨k,a,b,i,n⟩:=d;simp only[Dd.Rt,R6,R5,R8,RM] at h;rcases h with ⟨rfl,h1,h2,h3,h4⟩|⟨rfl,h1,h2,h3,h4⟩|⟨rfl,h1,h2,h3,h4⟩|⟨rfl,h1,h2,h3,h4⟩|⟨rfl,h1,h2,h3,h4⟩|⟨rfl,h1,h2,h3,h4⟩|⟨rfl,h1,h2,h3,h4⟩|⟨rfl,h1,h2,h3,h4⟩|⟨rfl,h1,h2,h3,h4⟩|⟨rfl,h1,h2,h3,h4⟩|⟨rfl,h1,h2,h3,h4⟩|⟨rfl,h1,h2,h3,h4⟩|⟨rfl,h1,h2,h3,h4⟩|⟨rfl,h1,h2,h3,h4⟩
 ·exact⟨1,rfl,by decide,by decide,by decide,by simp[parts,lH];omega,by simp[cE,parts,lK,lH,h2]⟩
 ·exact⟨2,rfl,by decide,by decide,by decide,by simp[parts,lH];omega,by simp[cE,parts,lK,lH,h2]⟩
 ·exact⟨3,rfl,by decide,by decide,by decide,by simp[parts,lH];omega,by simp[cE,parts,lK,lH,h3,h4]⟩
 ·exact⟨4,rfl,by decide,by decide,by decide,by simp[parts,lH];omega,by simp[cE,parts,lK,lH,h4]⟩
 ·exact⟨5,rfl,by decide,by decide,by decide,by simp[parts,lH];omega,by simp[cE,parts,lK,lH,h4]⟩
 ·exact⟨6,rfl,by decide,by decide,by decide,by simp[parts,lH];omega,by simp[cE,parts,lK,lH,h2,h4]⟩
 ·exact⟨7,rfl,by decide,by decide,by decide,by simp[parts,lH];omega,by simp[cE,parts,lK,lH,h2]⟩
 ·exact⟨8,rfl,by decide,by decide,by decide,by simp[parts,lH];omega,by simp[cE,parts,lK,lH,h2,h3,h4]⟩
 ·exact⟨9,rfl,by decide,by decide,by decide,by simp[parts,lH];omega,by simp[cE,parts,lK,lH,h3,h4]⟩
 ·exact⟨10,rfl,by decide,by decide,by decide,by simp[parts,lH];omega,by simp[cE,parts,lK,lH,h2,h3,h4]⟩
 ·exact⟨11,rfl,by decide,by decide,by decide,by simp[parts,lH];omega,by simp[cE,parts,lK,lH,h3,h4]⟩
 ·exact⟨12,rfl,by decide,by decide,by decide,by simp[parts,lH];omega,by simp[cE,parts,lK,lH,h3,h4]⟩
 ·exact⟨13,rfl,by decide,by decide,by decide,by simp[parts,lH];omega,by simp[cE,parts,lK,lH,h2,h3,h4]⟩
 ·exact⟨14,rfl,by decide,by decide,by decide,by simp[parts],by simp[cE,parts,h1,h2,h3,h4]⟩
theorem Vv(w:aj)(B:Nat):aL prog 104 #[pV B] w λe w'=>e=.returned (.pointer (some ⟨B,1,none⟩))/\w'=w:=by
 go_in;go_wp2;go_ret;exact⟨rfl,rfl⟩
theorem Vx(w:aj)(B:Nat):aL prog 105 #[pV B] w λe w'=>e=.returned (.pointer (some ⟨B,2,none⟩))/\w'=w:=by
 go_in;go_wp2;go_ret;exact⟨rfl,rfl⟩
theorem Vy(w:aj)(B:Nat):aL prog 106 #[pV B] w λe w'=>e=.returned (.pointer (some ⟨B,3,none⟩))/\w'=w:=by
 go_in;go_wp2;go_ret;exact⟨rfl,rfl⟩
theorem Vz(w:aj)(B:Nat):aL prog 107 #[pV B] w λe w'=>e=.returned (.pointer (some ⟨B,4,none⟩))/\w'=w:=by
 go_in;go_wp2;go_ret;exact⟨rfl,rfl⟩
theorem OJ(k:Nat)(h1:1<=k)(h2:k<=14):∃x,nmV k=.string x/\x.toList.isEmpty=false:=by
 rcases(by omega:k=1\/k=2\/k=3\/k=4\/k=5\/k=6\/k=7\/k=8\/k=9\/k=10\/k=11\/k=12\/k=13\/k=14) with rfl|rfl|rfl|rfl|rfl|rfl|rfl|rfl|rfl|rfl|rfl|rfl|rfl|rfl
 all_goals exact⟨_,rfl,by decide +kernel⟩
theorem yj(d:Dd):((eZ d).toArray).all (·.oneCell')=true:=all_oneCell_toArray (by simp[eZ,Value.oneCell'])
theorem MY(d:Dd)(v:Int):∀f,f<=3->(eZ d).set (f+1) (vI v)=eZ (lK d v f)
 | 0,_=>rfl
 | 1,_=>rfl
 | 2,_=>rfl
 | 3,_=>rfl
 | f+4,h=>by omega
theorem IY(d:Dd):∀f,f<=3->(eZ d)[f+1]?=some (vI (lH d f))
 | 0,_=>rfl
 | 1,_=>rfl
 | 2,_=>rfl
 | 3,_=>rfl
 | f+4,h=>by omega
theorem CR(d:Dd)(l:List Pt)(i:Nat)(h:i<l.length)(p0:Pt):cE d (l.take (i+1))=lK (cE d (l.take i)) (lH d (l.getD i p0).f) (l.getD i p0).f:=by
 rw[List.take_succ_eq_append_getElem h,CQ];have e:l.getD i p0=l[i]:=by simp[aS,h]
 rw[e]
theorem qo(w:aj)(d:Dd)(h:d.Rt):aL prog 35 #[e_ d] w λe w'=>e=.returned (.bool true)/\Calm w w':=by
 obtain⟨k,hk,k1,k14,pC,hb,hf⟩:=Lk h;obtain⟨y,Cx,J5⟩:=OJ k k1 k14;obtain⟨k0,o1⟩:=gL w [vI d.k,vI d.a,vI d.b,vI d.i,vI d.n] 52;have ho:=Nj (w.alloc (.cells #[vI d.k,vI d.a,vI d.b,vI d.i,vI d.n] 52)) k k1 k14;rw[<-hk] at ho;replace hb:=af hb;replace hf:=af hf;replace hk:=af hk;replace pC:=af pC;simp only[e_];go_in;go_wp2_with fail
 refine ho.mono ?_;rintro e w1 ⟨v,rfl,hr,c1⟩;rw[Cx];have UP:=o1.calm c1;clear ho o1;have HM:w.heap.size<w1.heap.size:=UP.lt (by simp);have Gc:=k0.trans c1;go_wp2_with fail
 go_cut [5,6] (λs5 s6 wx=>∃B5 B6,s5=pV B5/\s6=pV B6/\ag wx B5 (eZ d)/\ag wx B6 (eZ ⟨d.k,0,0,0,0⟩)/\B5≠B6/\w1.heap.size<=B5/\w1.heap.size<=B6/\Calm w1 wx)
 case first=>
  have kd:Calm w1 w1.drew:=aq.drew;refine d_ (Way.reads [0,1,2,3] (.any (.alt 4 (.step 5 (.step 6 (.step 7 .fin))) (.alt 5 (.step 4 (.step 6 (.step 7 .fin))) .stop)))) (λw'=>Calm w1 w') (by kernel_rfl) (by kernel_rfl) kd ?_;refine ay (e_ d) rfl rfl (λw' hw'=>?_) ai ?_
  ·have o:=UP.calm hw';obtain⟨z0,z1,z2,z3,z4⟩:=ag.Eu o;simp[go_sem,z0,z1,z2,z3,z4,e_]
  refine ay (aR w.heap.size) rfl rfl (λw' hw'=>?_) ai ?_
  ·simp[go_sem]
  refine ay (vI d.k) rfl rfl (λw' hw'=>?_) ai ?_
  ·have z0:=((UP.calm hw') 0 _ rfl).1;simp[go_sem,z0]
  refine ay (e_ ⟨d.k,0,0,0,0⟩) rfl rfl (λw' hw'=>?_) ai ?_
  ·simp[go_sem,e_]
  refine eX ?_;have hdz:w1.drew.heap.size=w1.heap.size:=rfl;have Z:∀W:aj,Calm w1 W->Calm w1 ((W.alloc (.cells #[vI 0,vI 0,vI 0,vI 0,vI 0] 140)).alloc (.cells #[vI 0,vI 0,vI 0,vI 0,vI 0] 140)):=λW c=>(c.alloc _).alloc _;have A1:=(ag.lI w1.drew [vI 0,vI 0,vI 0,vI 0,vI 0] 140 _ rfl).alloc (.cells #[vI 0,vI 0,vI 0,vI 0,vI 0] 140);have A2:=ag.lI (w1.drew.alloc (.cells #[vI 0,vI 0,vI 0,vI 0,vI 0] 140)) [vI 0,vI 0,vI 0,vI 0,vI 0] 140 (w1.heap.size+1) (by simp);refine bC rfl rfl ?_ (bC rfl rfl ?_ dI)
  ·unfold Oper.wp;go_simp;refine⟨kd.alloc _,?_⟩;refine aI rfl rfl ?_;unfold Oper.wp;go_simp;refine⟨Z _ kd,?_⟩;refine aI rfl rfl ?_;refine aN _ _ _ rfl (w1.heap.size) (eZ d).toArray rfl rfl A1 rfl (by kernel_rfl) (yj d) ?_;intro w6 a6 f6;refine⟨(Z _ kd).join f6 (λj hj e=>by omega),?_⟩;refine aI rfl rfl ?_;refine aN _ _ _ rfl (w1.heap.size+1) (eZ ⟨d.k,0,0,0,0⟩).toArray rfl rfl (A2.fr f6 (by omega)) rfl (by kernel_rfl) (yj _) ?_;intro w7 a7 f7;have kk:Calm w1 w7:=((Z _ kd).join f6 (λj hj e=>by omega)).join f7 (λj hj e=>by omega);refine⟨kk,cg ?_⟩;clear A1 A2 Z;go_wp2_with fail
   go_meet;exact⟨_,_,rfl,rfl,a6.fr f7 (by omega),a7,by omega,by omega,by omega,kk⟩
  ·unfold Oper.wp;go_simp;refine⟨kd.alloc _,?_⟩;refine aI rfl rfl ?_;unfold Oper.wp;go_simp;refine⟨Z _ kd,?_⟩;refine aI rfl rfl ?_;refine aN _ _ _ rfl (w1.heap.size+1) (eZ d).toArray rfl rfl A2 rfl (by kernel_rfl) (yj d) ?_;intro w6 a6 f6;refine⟨(Z _ kd).join f6 (λj hj e=>by omega),?_⟩;refine aI rfl rfl ?_;refine aN _ _ _ rfl (w1.heap.size) (eZ ⟨d.k,0,0,0,0⟩).toArray rfl rfl (A1.fr f6 (by omega)) rfl (by kernel_rfl) (yj _) ?_;intro w7 a7 f7;have kk:Calm w1 w7:=((Z _ kd).join f6 (λj hj e=>by omega)).join f7 (λj hj e=>by omega);refine⟨kk,cg ?_⟩;clear A1 A2 Z;go_wp2_with fail
   go_meet;exact⟨_,_,rfl,rfl,a6.fr f7 (by omega),a7,by omega,by omega,by omega,kk⟩
 case rest=>
  obtain⟨B5,B6,rfl,rfl,o5,o6,hne,g5,g6,kc⟩:=hcut;obtain⟨N,hN⟩:=au ((parts k).length);obtain⟨va,vc,hv⟩:=aG hr;rw[hN] at hv
  have dQ:Hid (∀i,i<N->∃g,va=some ⟨g,0,none⟩/\∀W,Calm w1 W->W.cell? ⟨g,i*3,none⟩=some (EC ((parts k).getD i pA).f)/\W.cell? ⟨g,i*3+1,none⟩=some (vI ((parts k).getD i pA).lo)/\W.cell? ⟨g,i*3+2,none⟩=some (vI ((parts k).getD i pA).hi)):=λi hi=>by
   obtain⟨g,c,zU,hg⟩:=bz OW (by decide) hr pA (show i<(parts k).length by omega);rw[hv] at zU;injection zU with e1 e2 e3
   exact⟨g,e1,λW c=>⟨c.cellAt (hg 0 _ rfl).1 id,c.cellAt (hg 1 _ rfl).1 id,c.cellAt (hg 2 _ rfl).1 id⟩⟩
  subst v;have cy:Hid (∀i,i<N->((parts k).getD i pA).f<=3/\((parts k).getD i pA).lo<=lH d ((parts k).getD i pA).f/\lH d ((parts k).getD i pA).f<=((parts k).getD i pA).hi):=λi hi=>hb.out _ (get_mem _ (by omega));have sF:Hid (∀i,i<N->cE d ((parts k).take (i+1))=lK (cE d ((parts k).take i)) (lH d ((parts k).getD i pA).f) ((parts k).getD i pA).f):=λi hi=>CR d _ i (by omega) pA;have hfi:Hid (cE d ((parts k).take N)=d):=by rw[<-hN,List.take_length];exact hf.out
  have o60:Hid (ag wc B6 (eZ (cE d ((parts k).take 0)))):=o6;replace hN:=af (show N<=3 by have:=pC.out;omega);replace o5:=af o5;clear hr hb hf o6;go_wp2_with fail
  go_loopw [24] (λz wr=>∃i:Nat,i<=N/\z=vI i/\ag wr B5 (eZ d)/\ag wr B6 (eZ (cE d ((parts k).take i)))/\Calm w1 wr) (λz _=>N-(intOf z).toNat)
  case atStart=>exact⟨0,by omega,rfl,o5.out,o60.out,kc⟩
  case round=>
   obtain⟨i,hi,rfl,p5,p6,kr⟩:=hrel;have hN3:N<=3:=hN.out
   by_cases aZ:i<N
   ·obtain⟨g,rfl,hc⟩:=dQ.out i aZ;obtain⟨c0,Uh,c2⟩:=hc wr kr;obtain⟨b1,b2,b3⟩:=cy.out i aZ;have R3:=sF.out i aZ;generalize hp:(parts k).getD i pA=p at *;obtain⟨f,lo,sZ⟩:=p;simp only[] at c0 Uh c2 b1 b2 b3 R3;have q5:=p5 (f+1) _ (IY d f b1);have tG:=q5.1;have VP:(eZ (cE d ((parts k).take i))).set (f+1) (vI (lH d f))=eZ (cE d ((parts k).take (i+1))):=by rw[MY _ _ f b1,<-R3]
    have q60:∃u,(eZ (cE d ((parts k).take i)))[f+1]?=some u:=⟨_,IY _ f b1⟩;obtain⟨u,hu⟩:=q60;have QF:=(p6 (f+1) u hu).1;have ZK:=(p6 (f+1) u hu).2;obtain⟨V,hV⟩:=au (lH d f);rw[hV] at b2 b3 tG VP;have e1:decide (V<lo)=false:=by simp;omega
    have e2:decide (V>sZ)=false:=by simp;omega
    have hsf:=bZ;have h6:B6<wr.heap.size:=p6.lt (by simp[eZ]);have h5:B5<wr.heap.size:=p5.lt (by simp[eZ]);clear R3 q5 hc;rcases(by omega:f=0\/f=1\/f=2\/f=3) with rfl|rfl|rfl|rfl
    ·simp only[EC] at c0;obtain⟨W8,jn⟩:=au (wr.alloc (.cells #[.func (.func 104) #[] #[],vI lo,vI sZ] 143));have k8:Calm wr W8:=by rw[<-jn];exact aq.alloc _
     have oA:ag W8 wr.heap.size [.func (.func 104) #[] #[],vI lo,vI sZ]:=by rw[<-jn];exact ag.lI wr [_,_,_] _ _ rfl
     obtain⟨m0,m1,m2⟩:=ag.sP oA;have tG:=k8.cellAt tG id;have QF:=k8.cellAt QF id;have ZK:=((p6.calm k8) 1 u (by assumption)).2;have g6:=l_ W8 (B6) 1 (vI V);have KO:=(p5.calm k8).fr g6 (by omega);have DR:=(p6.calm k8).set 1 (vI V) (by simp[eZ]);have e9:(eZ (cE d ((parts k).take i))).set 1 (vI V)=eZ (cE d ((parts k).take (i+1))):=VP;rw[e9] at DR;have kk:Calm w1 (W8.setCell ⟨B6,1,none⟩ (vI V)):=(kr.trans k8).join g6 (λj hj e=>by omega);have dh:Hid (ag (W8.setCell ⟨B6,1,none⟩ (vI V)) B5 (eZ d)/\ag (W8.setCell ⟨B6,1,none⟩ (vI V)) B6 (eZ (cE d ((parts k).take (i+1))))/\Calm w1 (W8.setCell ⟨B6,1,none⟩ (vI V))):=⟨KO,DR,kk⟩;clear g6 KO DR kk p5 p6 oA e9;go_wp2_with fail
     refine(Vv _ B5).mono ?_;rintro e w4 ⟨rfl,e4⟩;subst w4;go_wp2_with fail
     refine(Vv _ B6).mono ?_;rintro e w4 ⟨rfl,e4⟩;subst w4;go_wp2_with fail
     exact⟨⟨i+1,by omega,by simp,dh.out⟩,by simp[intOf] <;> omega⟩
    ·simp only[EC] at c0;obtain⟨W8,jn⟩:=au (wr.alloc (.cells #[.func (.func 105) #[] #[],vI lo,vI sZ] 143));have k8:Calm wr W8:=by rw[<-jn];exact aq.alloc _
     have oA:ag W8 wr.heap.size [.func (.func 105) #[] #[],vI lo,vI sZ]:=by rw[<-jn];exact ag.lI wr [_,_,_] _ _ rfl
     obtain⟨m0,m1,m2⟩:=ag.sP oA;have tG:=k8.cellAt tG id;have QF:=k8.cellAt QF id;have ZK:=((p6.calm k8) 2 u (by assumption)).2;have g6:=l_ W8 (B6) 2 (vI V);have KO:=(p5.calm k8).fr g6 (by omega);have DR:=(p6.calm k8).set 2 (vI V) (by simp[eZ]);have e9:(eZ (cE d ((parts k).take i))).set 2 (vI V)=eZ (cE d ((parts k).take (i+1))):=VP;rw[e9] at DR;have kk:Calm w1 (W8.setCell ⟨B6,2,none⟩ (vI V)):=(kr.trans k8).join g6 (λj hj e=>by omega);have dh:Hid (ag (W8.setCell ⟨B6,2,none⟩ (vI V)) B5 (eZ d)/\ag (W8.setCell ⟨B6,2,none⟩ (vI V)) B6 (eZ (cE d ((parts k).take (i+1))))/\Calm w1 (W8.setCell ⟨B6,2,none⟩ (vI V))):=⟨KO,DR,kk⟩;clear g6 KO DR kk p5 p6 oA e9;go_wp2_with fail
     refine(Vx _ B5).mono ?_;rintro e w4 ⟨rfl,e4⟩;subst w4;go_wp2_with fail
     refine(Vx _ B6).mono ?_;rintro e w4 ⟨rfl,e4⟩;subst w4;go_wp2_with fail
     exact⟨⟨i+1,by omega,by simp,dh.out⟩,by simp[intOf] <;> omega⟩
    ·simp only[EC] at c0;obtain⟨W8,jn⟩:=au (wr.alloc (.cells #[.func (.func 106) #[] #[],vI lo,vI sZ] 143));have k8:Calm wr W8:=by rw[<-jn];exact aq.alloc _
     have oA:ag W8 wr.heap.size [.func (.func 106) #[] #[],vI lo,vI sZ]:=by rw[<-jn];exact ag.lI wr [_,_,_] _ _ rfl
     obtain⟨m0,m1,m2⟩:=ag.sP oA;have tG:=k8.cellAt tG id;have QF:=k8.cellAt QF id;have ZK:=((p6.calm k8) 3 u (by assumption)).2;have g6:=l_ W8 (B6) 3 (vI V);have KO:=(p5.calm k8).fr g6 (by omega);have DR:=(p6.calm k8).set 3 (vI V) (by simp[eZ]);have e9:(eZ (cE d ((parts k).take i))).set 3 (vI V)=eZ (cE d ((parts k).take (i+1))):=VP;rw[e9] at DR;have kk:Calm w1 (W8.setCell ⟨B6,3,none⟩ (vI V)):=(kr.trans k8).join g6 (λj hj e=>by omega);have dh:Hid (ag (W8.setCell ⟨B6,3,none⟩ (vI V)) B5 (eZ d)/\ag (W8.setCell ⟨B6,3,none⟩ (vI V)) B6 (eZ (cE d ((parts k).take (i+1))))/\Calm w1 (W8.setCell ⟨B6,3,none⟩ (vI V))):=⟨KO,DR,kk⟩;clear g6 KO DR kk p5 p6 oA e9;go_wp2_with fail
     refine(Vy _ B5).mono ?_;rintro e w4 ⟨rfl,e4⟩;subst w4;go_wp2_with fail
     refine(Vy _ B6).mono ?_;rintro e w4 ⟨rfl,e4⟩;subst w4;go_wp2_with fail
     exact⟨⟨i+1,by omega,by simp,dh.out⟩,by simp[intOf] <;> omega⟩
    ·simp only[EC] at c0;obtain⟨W8,jn⟩:=au (wr.alloc (.cells #[.func (.func 107) #[] #[],vI lo,vI sZ] 143));have k8:Calm wr W8:=by rw[<-jn];exact aq.alloc _
     have oA:ag W8 wr.heap.size [.func (.func 107) #[] #[],vI lo,vI sZ]:=by rw[<-jn];exact ag.lI wr [_,_,_] _ _ rfl
     obtain⟨m0,m1,m2⟩:=ag.sP oA;have tG:=k8.cellAt tG id;have QF:=k8.cellAt QF id;have ZK:=((p6.calm k8) 4 u (by assumption)).2;have g6:=l_ W8 (B6) 4 (vI V);have KO:=(p5.calm k8).fr g6 (by omega);have DR:=(p6.calm k8).set 4 (vI V) (by simp[eZ]);have e9:(eZ (cE d ((parts k).take i))).set 4 (vI V)=eZ (cE d ((parts k).take (i+1))):=VP;rw[e9] at DR;have kk:Calm w1 (W8.setCell ⟨B6,4,none⟩ (vI V)):=(kr.trans k8).join g6 (λj hj e=>by omega);have dh:Hid (ag (W8.setCell ⟨B6,4,none⟩ (vI V)) B5 (eZ d)/\ag (W8.setCell ⟨B6,4,none⟩ (vI V)) B6 (eZ (cE d ((parts k).take (i+1))))/\Calm w1 (W8.setCell ⟨B6,4,none⟩ (vI V))):=⟨KO,DR,kk⟩;clear g6 KO DR kk p5 p6 oA e9;go_wp2_with fail
     refine(Vz _ B5).mono ?_;rintro e w4 ⟨rfl,e4⟩;subst w4;go_wp2_with fail
     refine(Vz _ B6).mono ?_;rintro e w4 ⟨rfl,e4⟩;subst w4;go_wp2_with fail
     exact⟨⟨i+1,by omega,by simp,dh.out⟩,by simp[intOf] <;> omega⟩
   ·obtain rfl:i=N:=by omega
    rw[hfi.out] at p6;have p6':=p6;simp only[eZ] at p5 p6';obtain⟨x0,x1,x2,x3,x4⟩:=ag.Eu p5;obtain⟨y0,y1,y2,y3,y4⟩:=ag.Eu p6';go_wp2;go_ret;exact⟨rfl,Gc.trans kr⟩
