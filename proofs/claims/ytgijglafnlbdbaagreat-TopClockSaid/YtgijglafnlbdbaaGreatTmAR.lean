import Derived.Test.YtgijglafnlbdbaaGreatTmAP
import Derived.Test.YtgijglafnlbdbaaGreatTmAQ
set_option linter.all false
set_option maxHeartbeats 8000000
set_option maxRecDepth 8000
namespace Go.Proofs.YtgijglafnlbdbaaGreat
open RowKit Shelf Proofs.Tryz
open Go renaming World->aj,Value->aC,Calls->aL
section
variable {w:aj}{τ:Nat->Nat}{s:Nat}{S:aY}
structure tJ(w W:aj)(S:aY)(d:Dd)(x:bT):Prop where
 c:Calm w W
 o4:ag W (w.heap.size) [pV S.sp]
 o6:ag W (w.heap.size+1) (eZ d)
 o7:ag W (w.heap.size+1+1) (bq x)
 o8:ag W (w.heap.size+1+1+1) [vI 0,vI 0,vI 0,vI 0,vI 0,vI 0,vI 0,vI 0,vI 0,vI 0,vI 0,vI 0,vI 0,vI 0,.bool false]
 o9:ag W (w.heap.size+1+1+1+1) [vI 0,vI 0,vI 0]
 oF:ag W (w.heap.size+1+1+1+1+1) [cF (w.heap.size+1+1)]
 z:W.heap.size=w.heap.size+1+1+1+1+1+1
theorem dL(w:aj)(S:aY)(d:Dd)(x:bT):∃W,(((((w.alloc (.cells #[pV S.sp] 56)).alloc (.cells #[vI d.k,vI d.a,vI d.b,vI d.i,vI d.n] 52)).alloc (.cells #[vI x.b,vI x.p,rg x.R 0,rg x.R 1,rg x.R 2,rg x.R 3,rg x.R 4,rg x.R 5,rg x.V 0,rg x.V 1,rg x.V 2,rg x.V 3,rg x.V 4,rg x.V 5,.bool x.live] 31)).alloc (.cells #[vI 0,vI 0,vI 0,vI 0,vI 0,vI 0,vI 0,vI 0,vI 0,vI 0,vI 0,vI 0,vI 0,vI 0,.bool false] 31)).alloc (.cells #[vI 0,vI 0,vI 0] 35)).alloc (.cells #[cF (w.heap.size+1+1)] 175)=W/\tJ w W S d x:=by
 obtain⟨W1,e1,k1,o1,s1⟩:=dy w [pV S.sp] 56;obtain⟨W2,e2,k2,o2,s2⟩:=dy W1 [vI d.k,vI d.a,vI d.b,vI d.i,vI d.n] 52;obtain⟨W3,e3,k3,o3,s3⟩:=dy W2 [vI x.b,vI x.p,rg x.R 0,rg x.R 1,rg x.R 2,rg x.R 3,rg x.R 4,rg x.R 5,rg x.V 0,rg x.V 1,rg x.V 2,rg x.V 3,rg x.V 4,rg x.V 5,.bool x.live] 31;obtain⟨W4,e4,k4,o4,s4⟩:=dy W3 [vI 0,vI 0,vI 0,vI 0,vI 0,vI 0,vI 0,vI 0,vI 0,vI 0,vI 0,vI 0,vI 0,vI 0,.bool false] 31;obtain⟨W5,e5,k5,o5,s5⟩:=dy W4 [vI 0,vI 0,vI 0] 35;obtain⟨W6,e6,k6,o6,s6⟩:=dy W5 [cF (w.heap.size+1+1)] 175;rw[s1] at o2 s2;rw[s2] at o3 s3;rw[s3] at o4 s4;rw[s4] at o5 s5;rw[s5] at o6 s6;have c56:=k5.trans k6;have CK:=k4.trans c56;have c36:=k3.trans CK;have c26:=k2.trans c36;exact⟨W6,by rw[e1,e2,e3,e4,e5,e6],k1.trans c26,o1.calm c26,o2.calm c36,o3.calm CK,o4.calm c56,o5.calm k6,o6,s6⟩
theorem fY{W w5 W9:aj}{τ0:Nat->Nat}{d:Dd}{x:bT}{s':Nat}{R:aY->Prop}(hW:tJ w W S d x)(tk:nV w τ τ0)(fr:∀k,w.heap.size<=k->τ0 k=1000)(n5:Nx W τ0 s' S w5 R)(f:Fr (λb=>w.heap.size<=b/\b<W.heap.size) w5 W9):Nx w τ s' S W9 R:=by
 obtain⟨fB,S5,k1,k2,k3,k4⟩:=n5;have K:aF w τ0 w5 fB:=(aF.calm τ0 hW.c).trans k2;refine⟨fB,S5,k1.jC f (λb hb=>by rw[k2.tg b hb.2,fr b hb.1];omega),aF.dp ⟨K.fr.join f (λj hj e=>by omega),K.tg⟩ tk,k3,k4⟩
theorem tJ.calm{W W':aj}{d:Dd}{x:bT}(h:tJ w W S d x)(c:Calm W W')(e:W'.heap.size=W.heap.size):tJ w W' S d x:=⟨h.c.trans c,h.o4.calm c,h.o6.calm c,h.o7.calm c,h.o8.calm c,h.o9.calm c,h.oF.calm c,by rw[e];exact h.z⟩
def PI(d:Dd)(x x':bT)(e:Int):Prop:=∃xl:bT,xl.R.length=6/\(∀a∈xl.R,a<=131072)/\xl.b=x.b/\xl.p=x.p/\xl.V=x.V/\xl.live=x.live/\((x'=xl.cV e/\(d.k=14->e≠0))\/(d.k=14/\e=0/\x' = { x.back with b:=x.b+1 }))
def px(w:aj)(τ:Nat->Nat)(s:Nat)(S:aY)(t:Nat)(d:Dd)(x:bT)(en:Ending)(w':aj):Prop:=∃ (x':bT) (e v:Int),en=.returned (.tuple #[bO x',cO 2 e v])/\cL e/\PI d x x' e/\Nx w τ (s+1) S w' (λS'=>lC (vw S) t d x x' e v (vw S'))
structure xX(x:bT):Prop where
 b:0<=x.b/\x.b<=1000
 p:0<=x.p/\x.p<=1000
 r:x.R.length=6
 rp:∀a∈x.R,a<=131072
theorem xX.nh{x:bT}(h:xX x){d:Dd}(hd:d.k≠14){a v:Nat}(hv:v<=131072)(e:Int):PI d x ((x.nh a v e).cV e) e:=by
 refine⟨x.nh a v e,?_,?_,?_,?_,?_,?_,.inl ⟨rfl,λk=>absurd k hd⟩⟩ <;> unfold bT.nh <;> split
 ·simpa using h.r
 ·exact h.r
 ·intro y hy;rcases List.mem_or_eq_of_mem_set hy with hy|rfl
  ·exact h.rp y hy
  ·exact hv
 ·exact h.rp
 all_goals rfl
theorem xX.at{x:bT}(h:xX x)(j:Nat):x.R.getD j 0<=131072:=by
 by_cases hj:j<x.R.length
 ·exact h.rp _ (get_mem 0 hj)
 ·rw[aS,List.getElem?_eq_none (by omega)];exact cK _
theorem Lv(h:St w τ s S)(hs:s<100000){x:bT}(hx:xX x)(hg:wL S x){t:Nat}(ht:t<S.bB.length)(hl:(S.tx t).live=true){a b:Nat}(ku:a<6)(kF:b<6){i n:Nat}(hi:i<=4)(hn:n<=4) :
 aL prog 45 #[pV S.sp,vI (t:Int),e_ ⟨1,a,b,(i:Int),(n:Int)⟩,bO x] w (px w τ s S t ⟨1,a,b,(i:Int),(n:Int)⟩ x):=by
 obtain⟨τ0,hf,tk,fr⟩:=h.fresh;have cy:=bZ;have gT:=dm;obtain⟨W,fK,hW⟩:=dL w S ⟨1,a,b,(i:Int),(n:Int)⟩ x;simp only[] at fK hW;have qI:=(hW.o6 1 _ rfl).1;have qJ:=(hW.o6 2 _ rfl).1;have qK:=(hW.o6 0 _ rfl).1;have jS:=(hW.o7 (2+a) _ (b_ ku)).1;have jT:=(hW.o7 (2+b) _ (b_ kF)).1;have a0:(0:Int)<=a:=by omega
 have a1:(a:Int)<6:=by omega
 have b0:(0:Int)<=b:=by omega
 have b1:(b:Int)<6:=by omega
 simp only[rg,cF,aS] at fK jS jT;simp only[e_,bO,rg];go_in;go_wp2_with fail
 go_quiet (fail)
 clear fK cy gT qI qJ jS jT;have hV:tJ w (W.drewN nq) S ⟨1,a,b,(i:Int),(n:Int)⟩ x:=hW.calm (aq.drewN nq) rfl;clear hW qK;generalize W.drewN nq=W' at *;have y4:=(hV.o4 0 _ rfl).1;have tI:=(hV.o6 0 _ rfl).1;have po:=(hV.o6 3 _ rfl).1;have pq:=(hV.o6 4 _ rfl).1;have yF:=(hV.oF 0 _ rfl).1;have aZ:∀j,j<=5->w.heap.size+j<W'.heap.size:=λj hj=>by rw[hV.z];omega
 have iV:=hx.at b;have jc:=hx.at a;rw[aS] at jc iV;obtain⟨pb,bJ⟩:=au (x.R[b]?.getD 0);obtain⟨pa,bR⟩:=au (x.R[a]?.getD 0);rw[bJ] at iV;rw[bR] at jc;rw[bJ,bR];have oc:=Aj (hf.calm hV.c) hs ht hl (p:=i) (d:=n) (fn:=false) ⟨by omega,by omega,λe=>by cases e⟩;replace bJ:=af bJ;replace bR:=af bR;go_wp2_with fail
 refine oc.mono ?_;rintro en w5 ⟨v0,x0,rfl,tj,gK,n5⟩;clear oc;obtain⟨fB,S5,p1,p2,p3,p4⟩:=n5;have J0:=p4.le (λh=>lB.le h);obtain⟨v,rfl⟩:∃v:Nat,v0=v:=⟨v0.toNat,by omega⟩;have pG:v<=131072:=by omega
 have lR:x.R.getD (b:Int).toNat 0=pb:=by rw[aS,Int.toNat_natCast];exact bJ.out
 have tg:∀j,j<=5->500<=τ0 (w.heap.size+j):=λj hj=>by rw[fr _ (by omega)];omega
 have LK:∀j,j<=5->500<=fB (w.heap.size+j):=λj hj=>by rw[p2.tg _ (aZ j hj)];exact tg j hj
 have q7:=p2.bw hV.o7 (tg 2 (by omega));have q6:=p2.bw hV.o6 (tg 1 (by omega));have qF:=p2.bw hV.oF (tg 5 (by omega));have q4:=p2.bw hV.o4 (tg 0 (by omega));have q8:=p2.bw hV.o8 (tg 3 (by omega));have q9:=p2.bw hV.o9 (tg 4 (by omega));have e4:Own w5 (w.heap.size) 0 (pV S5.sp):=by rw[p3.sp];exact q4 0 _ rfl
 have ol:=qX p1 (e:=x0) (v:=v) q7 q6 (qF 0 _ rfl) e4 rfl ku hx.r (by omega) (by omega) (by omega) (LK 2 (by omega)) hx.b hx.p pG;have hT:lC (vw S) t ⟨1,a,b,(i:Int),(n:Int)⟩ x ((x.nh a v x0).cV x0) x0 (cR (vw S5) v x0) (vw S5):=lC.ptr p4 (λhf hr=>lB.dn hl (.inl rfl) hr hf);have n5:Nx W' τ0 (s+1) S w5 (λS'=>lC (vw S) t ⟨1,a,b,(i:Int),(n:Int)⟩ x ((x.nh a v x0).cV x0) x0 (cR (vw S5) v x0) (vw S')):=Nx.mono ⟨fB,S5,p1,p2,p3,hT⟩ (aM _) (λ_ h=>h);clear hT;clear p1 p2 p3 p4 J0 lR y4 tI po pq yF q6 q7 qF q4 e4;go_wp2_with fail
 refine ol.mono ?_;rintro en w6 ⟨rfl,f6⟩;clear ol;have jH:=q8.fr f6 (by omega);have lx:=q9.fr f6 (by omega);have hX:=hx.nh (d:=⟨1,a,b,(i:Int),(n:Int)⟩) (by simp) (a:=a) pG x0;generalize (x.nh a v x0).cV x0=x2 at *;generalize cR (vw S5) v x0=sv at *;simp only[bO,cO,rg];obtain⟨y0,z0,y1,z1,y2,z2,y3,z3,y4,z4,y5,z5,y6,z6,y7,z7,y8,z8,y9,z9,lN,vo,nB,xR,nC,xS,ko,zL,kp,vB⟩:=ag.jU jH;obtain⟨wD,vC,wE,vD,wF,xT⟩:=ag.sR lx;have T1:=jH.whole (us:=(bq x2)) rfl;have F1:=rG w6 (w.heap.size+1+1+1) 0 (bq x2);have U0:=lx.fr F1 (by omega);have U:=U0.whole (us:=[vI 2,vI x0,vI sv]) rfl;have F2:Fr (λk=>k=w.heap.size+1+1+1+1) (w6.setCells (w.heap.size+1+1+1) 0 (bq x2)) ((w6.setCells (w.heap.size+1+1+1) 0 (bq x2)).setCells (w.heap.size+1+1+1+1) 0 [vI 2,vI x0,vI sv]):=Fr.setCells (S:=λk=>k=w.heap.size+1+1+1+1) rfl _ _ aq;have T:=T1.fr F2 (by omega)
 have hF:Fr (λb=>w.heap.size<=b/\b<W'.heap.size) w5 ((w6.setCells (w.heap.size+1+1+1) 0 (bq x2)).setCells (w.heap.size+1+1+1+1) 0 [vI 2,vI x0,vI sv]):=
  (((f6.mono (λb _ e=>by have:=aZ 2 (by omega);omega)).trans (F1.mono (λb _ e=>by have:=aZ 3 (by omega);omega))).trans (F2.mono (λb _ e=>by have:=aZ 4 (by omega);omega)))
 have hP:px w τ s S t ⟨1,a,b,(i:Int),(n:Int)⟩ x (.returned (.tuple #[bO x2,cO 2 x0 sv])) ((w6.setCells (w.heap.size+1+1+1) 0 (bq x2)).setCells (w.heap.size+1+1+1+1) 0 [vI 2,vI x0,vI sv]):=⟨x2,x0,sv,rfl,gK,hX,fY hV tk fr n5 hF⟩;replace hP:=af hP;replace T:=af T;replace U:=af U;clear T1 F1 U0 F2 hF n5 hX q8 q9;go_wp2;exact bodyPost_ret (v:=.tuple #[bO x2,cO 2 x0 sv]) (cd (i:=8) (j:=9) rfl rfl rfl T.out U.out) rfl hP.out
theorem Lw(h:St w τ s S)(hs:s<100000){x:bT}(hx:xX x)(hg:wL S x){t:Nat}(ht:t<S.bB.length)(hl:(S.tx t).live=true){a b:Nat}(ku:a<6)(kF:b<6){i n:Nat}(hi:i<=4)(hn:n<=4) :
 aL prog 45 #[pV S.sp,vI (t:Int),e_ ⟨2,a,b,(i:Int),(n:Int)⟩,bO x] w (px w τ s S t ⟨2,a,b,(i:Int),(n:Int)⟩ x):=by
 obtain⟨τ0,hf,tk,fr⟩:=h.fresh;have cy:=bZ;have gT:=dm;obtain⟨W,fK,hW⟩:=dL w S ⟨2,a,b,(i:Int),(n:Int)⟩ x;simp only[] at fK hW;have qI:=(hW.o6 1 _ rfl).1;have qJ:=(hW.o6 2 _ rfl).1;have qK:=(hW.o6 0 _ rfl).1;have jS:=(hW.o7 (2+a) _ (b_ ku)).1;have jT:=(hW.o7 (2+b) _ (b_ kF)).1;have a0:(0:Int)<=a:=by omega
 have a1:(a:Int)<6:=by omega
 have b0:(0:Int)<=b:=by omega
 have b1:(b:Int)<6:=by omega
 simp only[rg,cF,aS] at fK jS jT;simp only[e_,bO,rg];go_in;go_wp2_with fail
 go_quiet (fail)
 clear fK cy gT qI qJ jS jT;have hV:tJ w (W.drewN nq) S ⟨2,a,b,(i:Int),(n:Int)⟩ x:=hW.calm (aq.drewN nq) rfl;clear hW qK;generalize W.drewN nq=W' at *;have y4:=(hV.o4 0 _ rfl).1;have tI:=(hV.o6 0 _ rfl).1;have po:=(hV.o6 3 _ rfl).1;have pq:=(hV.o6 4 _ rfl).1;have yF:=(hV.oF 0 _ rfl).1;have aZ:∀j,j<=5->w.heap.size+j<W'.heap.size:=λj hj=>by rw[hV.z];omega
 have iV:=hx.at b;have jc:=hx.at a;rw[aS] at jc iV;obtain⟨pb,bJ⟩:=au (x.R[b]?.getD 0);obtain⟨pa,bR⟩:=au (x.R[a]?.getD 0);rw[bJ] at iV;rw[bR] at jc;rw[bJ,bR];have oc:=Aj (hf.calm hV.c) hs ht hl (p:=i) (d:=n) (fn:=true) ⟨by omega,by omega,λe=>by cases e⟩;replace bJ:=af bJ;replace bR:=af bR;go_wp2_with fail
 refine oc.mono ?_;rintro en w5 ⟨v0,x0,rfl,tj,gK,n5⟩;clear oc;obtain⟨fB,S5,p1,p2,p3,p4⟩:=n5;have J0:=p4.le (λh=>lB.le h);obtain⟨v,rfl⟩:∃v:Nat,v0=v:=⟨v0.toNat,by omega⟩;have pG:v<=131072:=by omega
 have lR:x.R.getD (b:Int).toNat 0=pb:=by rw[aS,Int.toNat_natCast];exact bJ.out
 have tg:∀j,j<=5->500<=τ0 (w.heap.size+j):=λj hj=>by rw[fr _ (by omega)];omega
 have LK:∀j,j<=5->500<=fB (w.heap.size+j):=λj hj=>by rw[p2.tg _ (aZ j hj)];exact tg j hj
 have q7:=p2.bw hV.o7 (tg 2 (by omega));have q6:=p2.bw hV.o6 (tg 1 (by omega));have qF:=p2.bw hV.oF (tg 5 (by omega));have q4:=p2.bw hV.o4 (tg 0 (by omega));have q8:=p2.bw hV.o8 (tg 3 (by omega));have q9:=p2.bw hV.o9 (tg 4 (by omega));have e4:Own w5 (w.heap.size) 0 (pV S5.sp):=by rw[p3.sp];exact q4 0 _ rfl
 have ol:=qX p1 (e:=x0) (v:=v) q7 q6 (qF 0 _ rfl) e4 rfl ku hx.r (by omega) (by omega) (by omega) (LK 2 (by omega)) hx.b hx.p pG;have hT:lC (vw S) t ⟨2,a,b,(i:Int),(n:Int)⟩ x ((x.nh a v x0).cV x0) x0 (cR (vw S5) v x0) (vw S5):=lC.ptr p4 (λhf hr=>lB.dn hl (.inr rfl) hr hf);have n5:Nx W' τ0 (s+1) S w5 (λS'=>lC (vw S) t ⟨2,a,b,(i:Int),(n:Int)⟩ x ((x.nh a v x0).cV x0) x0 (cR (vw S5) v x0) (vw S')):=Nx.mono ⟨fB,S5,p1,p2,p3,hT⟩ (aM _) (λ_ h=>h);clear hT;clear p1 p2 p3 p4 J0 lR y4 tI po pq yF q6 q7 qF q4 e4;go_wp2_with fail
 refine ol.mono ?_;rintro en w6 ⟨rfl,f6⟩;clear ol;have jH:=q8.fr f6 (by omega);have lx:=q9.fr f6 (by omega);have hX:=hx.nh (d:=⟨2,a,b,(i:Int),(n:Int)⟩) (by simp) (a:=a) pG x0;generalize (x.nh a v x0).cV x0=x2 at *;generalize cR (vw S5) v x0=sv at *;simp only[bO,cO,rg];obtain⟨y0,z0,y1,z1,y2,z2,y3,z3,y4,z4,y5,z5,y6,z6,y7,z7,y8,z8,y9,z9,lN,vo,nB,xR,nC,xS,ko,zL,kp,vB⟩:=ag.jU jH;obtain⟨wD,vC,wE,vD,wF,xT⟩:=ag.sR lx;have T1:=jH.whole (us:=(bq x2)) rfl;have F1:=rG w6 (w.heap.size+1+1+1) 0 (bq x2);have U0:=lx.fr F1 (by omega);have U:=U0.whole (us:=[vI 2,vI x0,vI sv]) rfl;have F2:Fr (λk=>k=w.heap.size+1+1+1+1) (w6.setCells (w.heap.size+1+1+1) 0 (bq x2)) ((w6.setCells (w.heap.size+1+1+1) 0 (bq x2)).setCells (w.heap.size+1+1+1+1) 0 [vI 2,vI x0,vI sv]):=Fr.setCells (S:=λk=>k=w.heap.size+1+1+1+1) rfl _ _ aq;have T:=T1.fr F2 (by omega)
 have hF:Fr (λb=>w.heap.size<=b/\b<W'.heap.size) w5 ((w6.setCells (w.heap.size+1+1+1) 0 (bq x2)).setCells (w.heap.size+1+1+1+1) 0 [vI 2,vI x0,vI sv]):=
  (((f6.mono (λb _ e=>by have:=aZ 2 (by omega);omega)).trans (F1.mono (λb _ e=>by have:=aZ 3 (by omega);omega))).trans (F2.mono (λb _ e=>by have:=aZ 4 (by omega);omega)))
 have hP:px w τ s S t ⟨2,a,b,(i:Int),(n:Int)⟩ x (.returned (.tuple #[bO x2,cO 2 x0 sv])) ((w6.setCells (w.heap.size+1+1+1) 0 (bq x2)).setCells (w.heap.size+1+1+1+1) 0 [vI 2,vI x0,vI sv]):=⟨x2,x0,sv,rfl,gK,hX,fY hV tk fr n5 hF⟩;replace hP:=af hP;replace T:=af T;replace U:=af U;clear T1 F1 U0 F2 hF n5 hX q8 q9;go_wp2;exact bodyPost_ret (v:=.tuple #[bO x2,cO 2 x0 sv]) (cd (i:=8) (j:=9) rfl rfl rfl T.out U.out) rfl hP.out
end
def kj:List aC->Nat->List aC->List aC
 | vs,_,[]=>vs
 | vs,o,u::us=>kj (vs.set o u) (o+1) us
theorem uS:∀ (us a b:List aC) (o:Nat),kj (a++b) (a.length+o) us=a++kj b o us
 | [],a,b,o=>rfl
 | u::us,a,b,o=>by
   rw[kj,kj,List.set_append_right _ _ (by omega),show a.length+o-a.length=o by omega];exact uS us a (b.set o u) (o+1)
theorem G5:∀ (us a b:List aC),us.length=a.length->kj (a++b) 0 us=us++b:=by
 have h:∀ (us pre a b:List aC),us.length=a.length->kj (pre++(a++b)) pre.length us=pre++(us++b):=by
  intro us
  induction us with
  | nil=>
    intro pre a b h;have:a=[]:=List.length_eq_zero_iff.1 h.symm;subst this;rfl
  | cons u us ih=>
    intro pre a b h
    match a,h with
    | x::a,h=>
      rw[kj,List.set_append_right _ _ (aM _),Nat.sub_self];show kj (pre++(u::(a++b))) (pre.length+1) us=_;have:=ih (pre++[u]) a b (by simpa using h);simpa using this
 intro us a b hl;have:=h us [] a b hl;simpa using this
theorem jV{α:Type}(f:α->List aC)(k:Nat)(hf:∀a,(f a).length=k)(d:α):∀ (l:List α) (i:Nat),i<l.length->kj (l.flatMap f) (i*k) (f d)=(l.set i d).flatMap f
 | [],i,h=>by simp at h
 | x::l,0,_=>by
   rw[List.flatMap_cons,Nat.zero_mul,G5 _ _ _ (by rw[hf,hf]),qq,List.flatMap_cons]
 | x::l,i+1,h=>by
   have e1:(i+1)*k=(f x).length+i*k:=by rw[hf,Nat.succ_mul];omega
   rw[List.flatMap_cons,e1,uS,jV f k hf d l i (by simpa using h),rj,List.flatMap_cons]
theorem mQ{ety:TypeId}{k g n c:Nat} : ∀ (us:List aC) {w:aj} {xs:List aC} (_:w.ownsRow 0 ety k (.slice (some ⟨g,0,none⟩) n c) n xs) (o:Nat) (_:o+us.length<=xs.length),(w.setCells g o us).ownsRow 0 ety k (.slice (some ⟨g,0,none⟩) n c) n (kj xs o us)
 | [],_,_,h,_,_=>h
 | u::us,w,xs,h,o,hl=>mQ us (kg h (by simp at hl;omega) u) (o+1) (by simp at hl ⊢;omega)
section
variable {w:aj}{τ:Nat->Nat}{s:Nat}{S:aY}
def TZ(w:aj)(τ:Nat->Nat)(s:Nat)(S:aY)(n:Nat)(k:Int)(R:bT->Int->Int->aY->Prop)(en:Ending)(w':aj):Prop:=∃ (x':bT) (e v:Int),en=.returned (.tuple #[bO x',cO k e v])/\kG n x'/\Nx w τ s S w' (R x' e v)
def Vb(S:aY)(t n:Nat)(x x':bT)(e v:Int)(S':aY):Prop:=(e=0->x'=⟨x.b,0,x.R,x.R,true⟩/\v=((vw S).now:Nat))/\(e≠0->x' = { x with b:=(n:Int) } /\ v=0)/\Va S.bB.length S.aW t e (vw S) (vw S')
def Ve(S:aY)(t:Nat)(x x':bT)(e v:Int)(S':aY):Prop:=(e=0/\x'=⟨x.b+1,0,x.R,x.R,false⟩/\vE t v 0 (vw S) (vw S'))\/(e=141/\v=0/\x'=x.back/\vw S'=(vw S).wM t)
theorem Iu.cm0{S S':aY}{t:Nat}{v:Int}(h:Iu S t (Vw S (vE t)) v 0 S'):vE t v 0 (vw S) (vw S'):=by
 rcases h with ⟨_,h⟩|⟨h,_⟩
 ·exact h
 ·exact absurd h By
theorem Iu.cmx{S S':aY}{t:Nat}{v x:Int}(h:Iu S t (Vw S (vE t)) v x S')(hx:x≠0):x=141/\vw S'=(vw S).wM t:=by
 rcases h with ⟨hf,h|h|h⟩|⟨_,_,v0,S1,h|h|h,_,h2⟩
 ·exact absurd h.1 hx
 ·exact absurd (.inl h.2.1) hf
 ·exact absurd h.1 hx
 ·exact absurd h.1 hx
 ·exact⟨h.2.1,by rw[h2,h.2.2]⟩
 ·exact absurd h.1 hx
theorem kG.back{n:Nat}{x:bT}(h:kG n x):kG n x.back:=⟨h.b,⟨Int.le_refl 0,(by show(0:Int)<=100;decide)⟩,(λe=>by cases e),h.v,h.v,h.vp,h.vp⟩
theorem KZ(x:bT):(#[rg x.R 0,rg x.R 1,rg x.R 2,rg x.R 3,rg x.R 4,rg x.R 5]:Array aC).all (·.oneCell')=true:=all_oneCell_toArray (cs:=[rg x.R 0,rg x.R 1,rg x.R 2,rg x.R 3,rg x.R 4,rg x.R 5]) (by simp[rg,Value.oneCell'])
theorem ag.Lm{B:Nat} : ∀ {w:aj} {vs:List aC} (_:ag w B vs) (o:Nat) (us:List aC) (_:o+us.length<=vs.length),ag (w.setCells B o us) B (kj vs o us)
 | _,_,h,_,[],_=>h
 | w,vs,h,o,u::us,hk=>ag.Lm (h.set o u (by simp at hk;omega)) (o+1) us (by simp at hk ⊢;omega)
theorem ag.Pn{w:aj}{b:Nat}{vs:List aC}(h:ag w b vs)(o n:Nat)(hn:o+n<=vs.length):w.there b o n:=λj hj=>by
 obtain⟨v,hv⟩:∃v,vs[o+j]?=some v:=⟨vs[o+j]'(by omega),jI _⟩;have:=h (o+j) v hv;exact⟨by rw[this.1];rfl,this.2⟩
theorem lA{P:Program}{ops:Array Oper}{rest:List Oper}{op:Oper}{a:Act}{w:aj}{Q:Exit->Act->aj->Prop}(oJ:op.guard=none)(ty:TypeId)(x y:Operand)(ho:op.op=.store ty x y)
 (b o:Nat) (cells:Array aC) (hx:a.eval x=.pointer (some ⟨b,o,none⟩)) (hy:a.eval y=.agg cells) {vs:List aC} (own:ag w b vs) (hn:o+cells.size<=vs.length) (hi:(P.info? ty).map (·.size)=some cells.size) (h1:cells.all (·.oneCell')=true)
 (h:∀w',ag w' b (kj vs o cells.toList)->Fr (λk=>k=b) w w'->wpList P ops Q rest (a.put op.dst undef) w'):wpList P ops Q (op::rest) a w:=
 wpList_store_mid oJ ty x y ho b o cells hx hy (own.Pn _ _ hn) hi h1 (h _ (own.Lm o cells.toList (by simpa using hn)) (Fr.setCells (S:=λk=>k=b) rfl _ _ aq))
structure ThW(w W:aj)(x:bT):Prop where
 c:Calm w W
 o7:ag W (w.heap.size) (bq x)
 o8:ag W (w.heap.size+1) [vI 0,vI 0,vI 0,vI 0,vI 0,vI 0,vI 0,vI 0,vI 0,vI 0,vI 0,vI 0,vI 0,vI 0,.bool false]
 o9:ag W (w.heap.size+1+1) [vI 0,vI 0,vI 0]
 z:W.heap.size=w.heap.size+1+1+1
theorem uX(w:aj)(x:bT):∃W,((w.alloc (.cells #[vI x.b,vI x.p,rg x.R 0,rg x.R 1,rg x.R 2,rg x.R 3,rg x.R 4,rg x.R 5,rg x.V 0,rg x.V 1,rg x.V 2,rg x.V 3,rg x.V 4,rg x.V 5,.bool x.live] 31)).alloc (.cells #[vI 0,vI 0,vI 0,vI 0,vI 0,vI 0,vI 0,vI 0,vI 0,vI 0,vI 0,vI 0,vI 0,vI 0,.bool false] 31)).alloc (.cells #[vI 0,vI 0,vI 0] 35)=W/\ThW w W x:=by
 obtain⟨W3,e3,k3,o3,s3⟩:=dy w [vI x.b,vI x.p,rg x.R 0,rg x.R 1,rg x.R 2,rg x.R 3,rg x.R 4,rg x.R 5,rg x.V 0,rg x.V 1,rg x.V 2,rg x.V 3,rg x.V 4,rg x.V 5,.bool x.live] 31;obtain⟨W4,e4,k4,o4,s4⟩:=dy W3 [vI 0,vI 0,vI 0,vI 0,vI 0,vI 0,vI 0,vI 0,vI 0,vI 0,vI 0,vI 0,vI 0,vI 0,.bool false] 31;obtain⟨W5,e5,k5,o5,s5⟩:=dy W4 [vI 0,vI 0,vI 0] 35;rw[s3] at o4 s4;rw[s4] at o5 s5;have CK:=k4.trans k5;exact⟨W5,by rw[e3,e4,e5],k3.trans CK,o3.calm CK,o4.calm k5,o5,s5⟩
theorem Hc(h:St w τ s S){t:Nat}(ht:t<S.bB.length)(Y_:(S.tx t).live=false){n:Nat}(hn:n<=100){x:bT}(hx:kG n x)(hb:x.b<n)(jk:x.live=false) :
 aL prog 43 #[pV S.sp,vI (t:Int),vI (n:Int),bO x] w (TZ w τ s S n 1 (Vb S t n x)):=by
 obtain⟨τ0,hf,tk,fr⟩:=h.fresh;obtain⟨W,fK,hW⟩:=uX w x;have oc:=IJ (hf.calm hW.c) ht Y_;simp only[rg,aS] at fK;simp only[bO,rg];replace jk:=af jk;go_in;go_wp2_with fail
 clear fK;refine oc.mono ?_;rintro en w2 ⟨x0,rfl,gK,n2⟩;clear oc;have aZ:∀j,j<=2->w.heap.size+j<W.heap.size:=λj hj=>by rw[hW.z];omega
 have tg:∀j,j<=2->500<=τ0 (w.heap.size+j):=λj hj=>by rw[fr _ (by omega)];omega
 obtain⟨eY,S2,p1,p2,p3,p4⟩:=n2;have q7:=p2.bw hW.o7 (tg 0 (by omega));have q8:=p2.bw hW.o8 (tg 1 (by omega));have q9:=p2.bw hW.o9 (tg 2 (by omega));have n2:Nx W τ0 s S w2 (λS'=>Va S.bB.length S.aW t x0 (vw S) (vw S')):=⟨eY,S2,p1,p2,p3,p4⟩;obtain⟨k3,rA⟩:=gL w2 [vI 1,vI x0,vI 0] 35;go_upto_region 2 with fail
 generalize yA:w2.alloc (.cells #[vI 1,vI x0,vI 0] 35)=W3 at *;clear yA;have h7:w.heap.size<w2.heap.size:=q7.lt (by simp[bq]);have h8:w.heap.size+1<w2.heap.size:=q8.lt (by simp);have h9:w.heap.size+1+1<w2.heap.size:=q9.lt (by simp);have r7:=q7.calm k3;have r8:=q8.calm k3;have r9:=q9.calm k3;obtain⟨bA,hbA⟩:=au w2.heap.size;rw[hbA] at rA h7 h8 h9 ⊢;have rA1:=(rA 1 _ rfl).1
 by_cases h0:x0=0
 ·subst h0;have cy:=p1.calm k3
  have eb:vw S2=(vw S).aO t (((vw S).tx t).beg (vw S).now):=by
   rcases p4 with ⟨e,_⟩|⟨_,_,e⟩
   ·omega
   ·exact e
  have et2:(S2.tx t).pt=(((vw S).tx t).beg (vw S).now):=by
   show(vw S2).tx t=_;rw[eb];exact aV _ _ _
  have td:(S2.tx t).live=true:=by
   show(S2.tx t).pt.live=true;rw[et2];rfl
  obtain⟨v,hv⟩:=au ((S2.tx t).start)
  have tj:Hid (v=((vw S).now:Nat)):=by
   show v=((vw S).now:Nat)
   have h1:(S2.tx t).start.toNat=(vw S).now:=by
    show(S2.tx t).pt.start=_;rw[et2];rfl
   have h2:=(p1.ok.iv.st t td).1;omega
  have ol:=LN cy (by rw[p3.len];exact ht) td;rw[p3.sp,hv] at ol;clear p1 p2 p3 p4 cy eb et2 td hv;go_wp2_with fail
  refine ol.mono ?_;rintro en w4 ⟨⟨b,rfl⟩,e4⟩;subst w4;clear ol rA1;have s7:=r7;simp only[bq] at s7;have A1:=rA.set 2 (vI v) (by simp);have E1:=l_ W3 (bA) 2 (vI v);have f2:=rA 2 _ rfl;obtain⟨W4,zO⟩:=au (W3.setCell ⟨bA,2,none⟩ (vI v));rw[zO] at A1 E1;have r74:=r7.fr E1 (by omega);have r84:=r8.fr E1 (by omega);have r94:=r9.fr E1 (by omega);have B1:=r74.set 14 (.bool true) (by simp[bq]);have G1:=l_ W4 (w.heap.size) 14 (.bool true);have f14:=r74 14 _ rfl;obtain⟨W5,mW⟩:=au (W4.setCell ⟨w.heap.size,14,none⟩ (.bool true));rw[mW] at B1 G1;have B2:=B1.set 1 (vI 0) (by simp[bq]);have G2:=l_ W5 (w.heap.size) 1 (vI 0);have f1:=B1 1 _ rfl;obtain⟨W6,lQ⟩:=au (W5.setCell ⟨w.heap.size,1,none⟩ (vI 0));rw[lQ] at B2 G2;have KB:=KZ x;have ZS:=B2;simp only[bq,rg,rj,qq] at ZS;obtain⟨m0,m1,m2,m3,m4,m5,m6,m7,m8,m9,m10,m11,m12,m13⟩:=ag.VG ZS;have f20:=f2.1;have f21:=f2.2;have f140:=f14.1;have f141:=f14.2;have f10:=f1.1;have f11:=f1.2;clear ZS
  go_wp2_with (
   refine lA rfl _ _ _ rfl (w.heap.size) 8 #[rg x.R 0,rg x.R 1,rg x.R 2,rg x.R 3,rg x.R 4,rg x.R 5] rfl rfl B2 (by simp[bq]) (by kernel_rfl) KB ?_;intro W7 B3 G3
   clear B2 KB m0 m1 m2 m3 m4 m5 m6 m7 m8 m9 m10 m11 m12 m13)
  obtain⟨x2,dg⟩:=au ((⟨x.b,0,x.R,x.R,true⟩:bT):bT);have hX:kG n x2:=by rw[<-dg];exact⟨hx.b,⟨Int.le_refl 0,(by show(0:Int)<=100;decide)⟩,λ_=>hb,hx.r,hx.r,hx.rp,hx.rp⟩
  have B4:ag W7 w.heap.size (bq x2):=by rw[<-dg];exact B3
  replace dg:=af dg;have E4:=(G1.trans G2).trans G3;have OZ:=r84.fr E4 (by omega);have O0:=r94.fr E4 (by omega);have rAf:=A1.fr E4 (by omega);clear r74 r84 r94 B1 B3 G1 G2 G3 r7 r8 r9 rA A1 s7 f2 f14 f1 q7 q8 q9 f20 f21 f140 f141 f10 f11;have hFr:Fr (λb=>w.heap.size<=b/\b<W.heap.size\/w2.heap.size<=b) w2 W7:=((Calm.any k3:Fr (λb=>w.heap.size<=b/\b<W.heap.size\/w2.heap.size<=b) _ _).trans (E1.mono (λb _ e=>by omega))).trans (E4.mono (λb _ e=>by have:=aZ 0 (by omega);omega));have CV:Fr (λb=>w.heap.size<=b/\b<W.heap.size) w2 W7:=hFr.mono (λk hk e=>by rcases e with e|e;exact e;omega);have kd:Calm W7 W7.drew:=aq.drew;have d7:=B4.calm kd;have d8:=OZ.calm kd;have d9:=O0.calm kd;have dA:=rAf.calm kd;obtain⟨a0,a1,a2⟩:=ag.sP dA;simp only[bq,rg] at d7;obtain⟨u0,u1,u2,u3,u4,u5,u6,u7,u8,u9,Pq,Pr,Ps,Pu,wB⟩:=ag.nY d7
  try simp only[bO,cO,rg]
  go_wp2_with fail
  refine bQ [1] [0,2,3] (λw'=>w'.cell? ⟨bA,0,none⟩=some (vI 1)/\w'.cell? ⟨bA,1,none⟩=some (vI 0)/\w'.cell? ⟨bA,2,none⟩=some (vI v)) (by kernel_rfl) (by kernel_rfl) ⟨a0,a1,a2⟩ ?_;refine ah (cO 1 0 v) rfl rfl (λw' hw'=>?_) ai ?_
  ·obtain⟨e0,e1,e2⟩:=hw';simp[go_sem,e0,e1,e2,cO]
  simp only[aU];refine aw rfl rfl ?_;unfold Oper.wp;go_simp
  try refine⟨⟨a0,a1,a2⟩,?_⟩
  refine aw rfl rfl ?_;refine aN _ _ _ rfl (w.heap.size+1) (bq x2).toArray rfl rfl d8 rfl (by kernel_rfl) (eO x2) ?_;intro w6 T6 F1;have n8:¬(bA=w.heap.size+1):=by omega
  refine⟨⟨F1.cellAt a0 n8,F1.cellAt a1 n8,F1.cellAt a2 n8⟩,?_⟩;refine aw rfl rfl ?_;have U0:=d9.fr F1 (by omega);refine aN _ _ _ rfl (w.heap.size+1+1) #[vI 1,vI 0,vI v] rfl rfl U0 rfl (by kernel_rfl) (by simp[Value.oneCell']) ?_;intro w7 U F2;have n9:¬(bA=w.heap.size+1+1):=by omega
  refine⟨⟨F2.cellAt (F1.cellAt a0 n8) n9,F2.cellAt (F1.cellAt a1 n8) n9,F2.cellAt (F1.cellAt a2 n8) n9⟩,?_⟩;have T:=T6.fr F2 (by omega)
  have hF:Fr (λb=>w.heap.size<=b/\b<W.heap.size) w2 w7:=
   ((CV.trans (Calm.any kd)).trans (F1.mono (λb _ e=>by have:=aZ 1 (by omega);omega))).trans (F2.mono (λb _ e=>by have:=aZ 2 (by omega);omega))
  have hP:TZ w τ s S n 1 (Vb S t n x) (.returned (.tuple #[bO x2,cO 1 0 v])) w7:=⟨x2,0,v,rfl,hX,(Nx.fin n2 hW.c tk fr hF (λb hb=>hb)).mono (aM _) (λS' hR=>⟨λ_=>⟨dg.out.symm,tj.out⟩,λe=>absurd rfl e,hR⟩)⟩;replace hP:=af hP;replace T:=af T;replace U:=af U;clear F1 U0 F2 hF n2 T6 a0 a1 a2;simp only[bj];go_wp2;exact bodyPost_ret (v:=.tuple #[bO x2,cO 1 0 v]) (cd (i:=8) (j:=9) rfl rfl rfl T.out U.out) rfl hP.out
 ·have YR:(x0 != 0)=true:=by simp[bne,h0]
  obtain⟨x2,dg⟩:=au (({ x with b:=(n:Int) } : bT):bT);have hX:kG n x2:=by rw[<-dg];exact⟨⟨by show(0:Int)<=n;omega,Int.le_refl _⟩,hx.p,λe=>(by rw[jk.out] at e;cases e),hx.r,hx.v,hx.rp,hx.vp⟩
  have B1:=r7.set 0 (vI (n:Int)) (by simp[bq]);have G1:=l_ W3 (w.heap.size) 0 (vI (n:Int));have f0:=(r7 0 _ rfl).1;have f00:=(r7 0 _ rfl).2;obtain⟨W7,sU⟩:=au (W3.setCell ⟨w.heap.size,0,none⟩ (vI (n:Int)));rw[sU] at B1 G1;have B4:ag W7 w.heap.size (bq x2):=by rw[<-dg];exact B1
  replace dg:=af dg;have OZ:=r8.fr G1 (by omega);have O0:=r9.fr G1 (by omega);have rAf:=rA.fr G1 (by omega);have CV:Fr (λb=>w.heap.size<=b/\b<W.heap.size) w2 W7:=(Calm.any k3:Fr (λb=>w.heap.size<=b/\b<W.heap.size) _ _).trans (G1.mono (λb _ e=>by have:=aZ 0 (by omega);omega));clear r7 r8 r9 rA B1 p1 p2 p3 p4;have kd:Calm W7 W7.drew:=aq.drew;have d7:=B4.calm kd;have d8:=OZ.calm kd;have d9:=O0.calm kd;have dA:=rAf.calm kd;obtain⟨a0,a1,a2⟩:=ag.sP dA;simp only[bq,rg] at d7;obtain⟨u0,u1,u2,u3,u4,u5,u6,u7,u8,u9,Pq,Pr,Ps,Pu,wB⟩:=ag.nY d7
  try simp only[bO,cO,rg]
  go_wp2_with fail
  refine bQ [1] [0,2,3] (λw'=>w'.cell? ⟨bA,0,none⟩=some (vI 1)/\w'.cell? ⟨bA,1,none⟩=some (vI x0)/\w'.cell? ⟨bA,2,none⟩=some (vI 0)) (by kernel_rfl) (by kernel_rfl) ⟨a0,a1,a2⟩ ?_;refine ah (cO 1 x0 0) rfl rfl (λw' hw'=>?_) ai ?_
  ·obtain⟨e0,e1,e2⟩:=hw';simp[go_sem,e0,e1,e2,cO]
  simp only[aU];refine aw rfl rfl ?_;unfold Oper.wp;go_simp
  try refine⟨⟨a0,a1,a2⟩,?_⟩
  refine aw rfl rfl ?_;refine aN _ _ _ rfl (w.heap.size+1) (bq x2).toArray rfl rfl d8 rfl (by kernel_rfl) (eO x2) ?_;intro w6 T6 F1;have n8:¬(bA=w.heap.size+1):=by omega
  refine⟨⟨F1.cellAt a0 n8,F1.cellAt a1 n8,F1.cellAt a2 n8⟩,?_⟩;refine aw rfl rfl ?_;have U0:=d9.fr F1 (by omega);refine aN _ _ _ rfl (w.heap.size+1+1) #[vI 1,vI x0,vI 0] rfl rfl U0 rfl (by kernel_rfl) (by simp[Value.oneCell']) ?_;intro w7 U F2;have n9:¬(bA=w.heap.size+1+1):=by omega
  refine⟨⟨F2.cellAt (F1.cellAt a0 n8) n9,F2.cellAt (F1.cellAt a1 n8) n9,F2.cellAt (F1.cellAt a2 n8) n9⟩,?_⟩;have T:=T6.fr F2 (by omega)
  have hF:Fr (λb=>w.heap.size<=b/\b<W.heap.size) w2 w7:=
   ((CV.trans (Calm.any kd)).trans (F1.mono (λb _ e=>by have:=aZ 1 (by omega);omega))).trans (F2.mono (λb _ e=>by have:=aZ 2 (by omega);omega))
  have hP:TZ w τ s S n 1 (Vb S t n x) (.returned (.tuple #[bO x2,cO 1 x0 0])) w7:=⟨x2,x0,0,rfl,hX,(Nx.fin n2 hW.c tk fr hF (λb hb=>hb)).mono (aM _) (λS' hR=>⟨λe=>absurd e h0,λ_=>⟨dg.out.symm,rfl⟩,hR⟩)⟩;replace hP:=af hP;replace T:=af T;replace U:=af U;clear F1 U0 F2 hF n2 T6 a0 a1 a2;simp only[bj];go_wp2;exact bodyPost_ret (v:=.tuple #[bO x2,cO 1 x0 0]) (cd (i:=8) (j:=9) rfl rfl rfl T.out U.out) rfl hP.out
theorem D7(h:St w τ s S){t:Nat}(ht:t<S.bB.length)(hl:(S.tx t).live=true)(oL:(S.now:Int)<S.aW){n:Nat}(hn:n<=100){x:bT}(hx:kG n x)(hb:x.b<n) :
 aL prog 44 #[pV S.sp,vI (t:Int),bO x] w (TZ w τ s S n 3 (Ve S t x)):=by
 obtain⟨τ0,hf,tk,fr⟩:=h.fresh;obtain⟨W,fK,hW⟩:=uX w x;have oc:=Gf (hf.calm hW.c) ht hl oL;simp only[rg,aS] at fK;simp only[bO,rg];go_in;go_wp2_with fail
 clear fK;refine oc.mono ?_;rintro en w2 ⟨v0,x0,rfl,tj,gK,n2⟩;clear oc;have aZ:∀j,j<=2->w.heap.size+j<W.heap.size:=λj hj=>by rw[hW.z];omega
 have tg:∀j,j<=2->500<=τ0 (w.heap.size+j):=λj hj=>by rw[fr _ (by omega)];omega
 obtain⟨eY,S2,p1,p2,p3,p4⟩:=n2;have q7:=p2.bw hW.o7 (tg 0 (by omega));have q8:=p2.bw hW.o8 (tg 1 (by omega));have q9:=p2.bw hW.o9 (tg 2 (by omega));have n2:Nx W τ0 s S w2 (Iu S t (Vw S (vE t)) v0 x0):=⟨eY,S2,p1,p2,p3,p4⟩;have h7:w.heap.size<w2.heap.size:=q7.lt (by simp[bq]);have h8:w.heap.size+1<w2.heap.size:=q8.lt (by simp);have h9:w.heap.size+1+1<w2.heap.size:=q9.lt (by simp);clear p1 p2 p3 p4
 by_cases h0:x0=0
 ·subst h0;have Bs:IntKind.i64.wrap (x.b+1)=x.b+1:=IntWalk.i64_in _ (by have:=hx.b;omega);have B1:=q7.set 14 (.bool false) (by simp[bq]);have G1:=l_ w2 (w.heap.size) 14 (.bool false);have f14:=q7 14 _ rfl;obtain⟨W4,zO⟩:=au (w2.setCell ⟨w.heap.size,14,none⟩ (.bool false));rw[zO] at B1 G1;have B2:=B1.set 1 (vI 0) (by simp[bq]);have G2:=l_ W4 (w.heap.size) 1 (vI 0);have f1:=B1 1 _ rfl;obtain⟨W5,mW⟩:=au (W4.setCell ⟨w.heap.size,1,none⟩ (vI 0));rw[mW] at B2 G2;have B3:=B2.set 0 (vI (x.b+1)) (by simp[bq]);have G3:=l_ W5 (w.heap.size) 0 (vI (x.b+1));have f0:=B2 0 _ rfl;obtain⟨W6,lQ⟩:=au (W5.setCell ⟨w.heap.size,0,none⟩ (vI (x.b+1)));rw[lQ] at B3 G3;have KB:=KZ x;have ZT:=B3;simp only[bq,rg,rj,qq] at ZT;obtain⟨m0,m1,m2,m3,m4,m5,m6,m7,m8,m9,m10,m11,m12,m13⟩:=ag.VG ZT;have f140:=f14.1;have f141:=f14.2;have f10:=f1.1;have f11:=f1.2;have f00:=f0.1;have f01:=f0.2;clear ZT f14 f1 f0
  go_wp2_with (
   refine lA rfl _ _ _ rfl (w.heap.size) 8 #[rg x.R 0,rg x.R 1,rg x.R 2,rg x.R 3,rg x.R 4,rg x.R 5] rfl rfl B3 (by simp[bq]) (by kernel_rfl) KB ?_;intro W7 B4 G4;clear B3 KB m0 m1 m2 m3 m4 m5 m6 m7 m8 m9 m10 m11 m12 m13 f140 f141 f10 f11 f00 f01;obtain⟨x2,dg⟩:=au ((⟨x.b+1,0,x.R,x.R,false⟩:bT):bT);have hX:kG n x2:=by rw[<-dg];exact⟨⟨by show(0:Int)<=x.b+1;have:=hx.b;omega,by show x.b+1<=n;omega⟩,⟨Int.le_refl 0,(by show(0:Int)<=100;decide)⟩,λe=>(by cases e),hx.r,hx.r,hx.rp,hx.rp⟩
   have B5:ag W7 w.heap.size (bq x2):=by rw[<-dg];exact B4
   replace dg:=af dg;simp only[bq,rg] at B5;obtain⟨d0,d1,d2,d3,d4,d5,d6,d7,d8,d9,d10,d11,d12,d13,d14⟩:=ag.nY B5;have E4:=((G1.trans G2).trans G3).trans G4;have OZ:=q8.fr E4 (by omega);have O0:=q9.fr E4 (by omega);have CV:Fr (λb=>w.heap.size<=b/\b<W.heap.size) w2 W7:=E4.mono (λb _ e=>by have:=aZ 0 (by omega);omega);clear B1 B2 B4 G1 G2 G3 G4 q7 q8 q9 E4
   try simp only[bO,cO,rg]
   obtain⟨y0,z0,y1,z1,y2,z2,y3,z3,y4,z4,y5,z5,y6,z6,y7,z7,y8,z8,y9,z9,lN,vo,nB,xR,nC,xS,ko,zL,kp,vB⟩:=ag.jU OZ;obtain⟨wD,vC,wE,vD,wF,xT⟩:=ag.sR O0;have T1:=OZ.whole (us:=(bq x2)) rfl;have F1:=rG W7 (w.heap.size+1) 0 (bq x2);have U0:=O0.fr F1 (by omega);have U:=U0.whole (us:=[vI 3,vI 0,vI v0]) rfl;have F2:Fr (λk=>k=w.heap.size+1+1) (W7.setCells (w.heap.size+1) 0 (bq x2)) ((W7.setCells (w.heap.size+1) 0 (bq x2)).setCells (w.heap.size+1+1) 0 [vI 3,vI 0,vI v0]):=Fr.setCells (S:=λk=>k=w.heap.size+1+1) rfl _ _ aq;have T:=T1.fr F2 (by omega)
   have hF:Fr (λb=>w.heap.size<=b/\b<W.heap.size) w2 ((W7.setCells (w.heap.size+1) 0 (bq x2)).setCells (w.heap.size+1+1) 0 [vI 3,vI 0,vI v0]):=
    (CV.trans (F1.mono (λb _ e=>by have:=aZ 1 (by omega);omega))).trans (F2.mono (λb _ e=>by have:=aZ 2 (by omega);omega))
   have hP:TZ w τ s S n 3 (Ve S t x) (.returned (.tuple #[bO x2,cO 3 0 v0])) ((W7.setCells (w.heap.size+1) 0 (bq x2)).setCells (w.heap.size+1+1) 0 [vI 3,vI 0,vI v0]):=⟨x2,0,v0,rfl,hX,(Nx.fin n2 hW.c tk fr hF (λb hb=>hb)).mono (aM _) (λS' hR=>.inl ⟨rfl,dg.out.symm,hR.cm0⟩)⟩;replace hP:=af hP;replace T:=af T;replace U:=af U
   clear T1 F1 U0 F2 hF n2)
  exact bodyPost_ret (v:=.tuple #[bO x2,cO 3 0 v0]) (cd (i:=6) (j:=7) rfl rfl rfl T.out U.out) rfl hP.out
 ·have YR:(x0 != 0)=true:=by simp[bne,h0]
  have ob:=qH w2 x.b x.p (x.R.getD 0 0:Nat) (x.R.getD 1 0:Nat) (x.R.getD 2 0:Nat) (x.R.getD 3 0:Nat) (x.R.getD 4 0:Nat) (x.R.getD 5 0:Nat) (x.V.getD 0 0:Nat) (x.V.getD 1 0:Nat) (x.V.getD 2 0:Nat) (x.V.getD 3 0:Nat) (x.V.getD 4 0:Nat) (x.V.getD 5 0:Nat) x.live;simp only[bq,rg] at q7;obtain⟨u0,u1,u2,u3,u4,u5,u6,u7,u8,u9,Pq,Pr,Ps,Pu,wB⟩:=ag.nY q7;go_wp2_with fail
  refine ob.mono ?_;rintro en w6 ⟨rfl,Xz⟩;have k6:Calm w2 w6:=by rw[Xz];exact(aq.alloc _).alloc _
  clear Xz ob u0 u1 u2 u3 u4 u5 u6 u7 u8 u9 Pq Pr Ps Pu wB;have OZ:=q8.calm k6;have O0:=q9.calm k6;have hX:kG n x.back:=hx.back;have CV:Fr (λb=>w.heap.size<=b/\b<W.heap.size) w2 w6:=Calm.any k6
  try simp only[bO,cO,rg]
  obtain⟨y0,z0,y1,z1,y2,z2,y3,z3,y4,z4,y5,z5,y6,z6,y7,z7,y8,z8,y9,z9,lN,vo,nB,xR,nC,xS,ko,zL,kp,vB⟩:=ag.jU OZ;obtain⟨wD,vC,wE,vD,wF,xT⟩:=ag.sR O0;have T1:=OZ.whole (us:=(bq x.back)) rfl;have F1:Fr (λk=>k=w.heap.size+1) w6 (w6.setCells (w.heap.size+1) 0 (bq x.back)):=Fr.setCells (S:=λk=>k=w.heap.size+1) rfl _ _ aq;have U0:=O0.fr F1 (by omega);have U:=U0.whole (us:=[vI 3,vI x0,vI 0]) rfl;have F2:Fr (λk=>k=w.heap.size+1+1) (w6.setCells (w.heap.size+1) 0 (bq x.back)) ((w6.setCells (w.heap.size+1) 0 (bq x.back)).setCells (w.heap.size+1+1) 0 [vI 3,vI x0,vI 0]):=Fr.setCells (S:=λk=>k=w.heap.size+1+1) rfl _ _ aq;have T:=T1.fr F2 (by omega)
  have hF:Fr (λb=>w.heap.size<=b/\b<W.heap.size) w2 ((w6.setCells (w.heap.size+1) 0 (bq x.back)).setCells (w.heap.size+1+1) 0 [vI 3,vI x0,vI 0]):=
   (CV.trans (F1.mono (λb _ e=>by have:=aZ 1 (by omega);omega))).trans (F2.mono (λb _ e=>by have:=aZ 2 (by omega);omega))
  have hP:TZ w τ s S n 3 (Ve S t x) (.returned (.tuple #[bO x.back,cO 3 x0 0])) ((w6.setCells (w.heap.size+1) 0 (bq x.back)).setCells (w.heap.size+1+1) 0 [vI 3,vI x0,vI 0]):=⟨x.back,x0,0,rfl,hX,(Nx.fin n2 hW.c tk fr hF (λb hb=>hb)).mono (aM _) (λS' hR=>.inr ⟨(hR.cmx h0).1,rfl,rfl,(hR.cmx h0).2⟩)⟩;replace hP:=af hP;replace T:=af T;replace U:=af U;clear T1 F1 U0 F2 hF n2;go_wp2;exact bodyPost_ret (v:=.tuple #[bO x.back,cO 3 x0 0]) (cd (i:=6) (j:=7) rfl rfl rfl T.out U.out) rfl hP.out
theorem M7(w:aj)(a:Option Addr)(n c:Nat)(hn:n<=100)(x:bT):aL prog 33 #[.slice a n c,bO x] w λe w'=>e=.returned (.bool (decide (x.b<0\/(n:Int)<=x.b)))/\Calm w w':=by
 obtain⟨W,fK⟩:=au (w.alloc (.cells #[vI x.b,vI x.p,rg x.R 0,rg x.R 1,rg x.R 2,rg x.R 3,rg x.R 4,rg x.R 5,rg x.V 0,rg x.V 1,rg x.V 2,rg x.V 3,rg x.V 4,rg x.V 5,.bool x.live] 31));have k1:Calm w W:=by rw[<-fK];exact aq.alloc _
 have o:=ag.lI w [vI x.b,vI x.p,rg x.R 0,rg x.R 1,rg x.R 2,rg x.R 3,rg x.R 4,rg x.R 5,rg x.V 0,rg x.V 1,rg x.V 2,rg x.V 3,rg x.V 4,rg x.V 5,.bool x.live] 31 w.heap.size rfl;have Wl:w.alloc (.cells (List.toArray [vI x.b,vI x.p,rg x.R 0,rg x.R 1,rg x.R 2,rg x.R 3,rg x.R 4,rg x.R 5,rg x.V 0,rg x.V 1,rg x.V 2,rg x.V 3,rg x.V 4,rg x.V 5,.bool x.live]) 31)=W:=fK;rw[Wl] at o;have c0:=(o 0 _ rfl).1;clear o Wl;simp only[rg,aS] at fK;simp only[bO,rg]
 by_cases h1:x.b<0
 ·go_in;go_wp2;go_ret;exact⟨by first|(rw[decide_eq_true (p:=x.b<0\/(n:Int)<=x.b) (.inl h1)];rfl)|rfl|(simp[h1];omega)|(simp[h1];rfl)|simp[h1],k1⟩
 ·by_cases h2:(n:Int)<=x.b
  ·go_in;go_wp2;go_ret;exact⟨by first|(rw[decide_eq_true (p:=x.b<0\/(n:Int)<=x.b) (.inr h2)];rfl)|rfl|(simp[h1];omega)|(simp[h1];rfl)|simp[h1],k1⟩
  ·go_in;go_wp2;go_ret;exact⟨by first|(rw[decide_eq_false (p:=x.b<0\/(n:Int)<=x.b) (by omega)];rfl)|rfl|(simp[h1];omega)|(simp[h1];rfl)|simp[h1],k1⟩
end
section
variable {w:aj}{τ:Nat->Nat}{s:Nat}{S:aY}
theorem Lx(h:St w τ s S)(hs:s<100000){x:bT}(hx:xX x)(hg:wL S x){t:Nat}(ht:t<S.bB.length)(hl:(S.tx t).live=true){a b:Nat}(ku:a<6)(kF:b<6) :
 aL prog 45 #[pV S.sp,vI (t:Int),e_ ⟨3,a,b,0,0⟩,bO x] w (px w τ s S t ⟨3,a,b,0,0⟩ x):=by
 obtain⟨τ0,hf,tk,fr⟩:=h.fresh;have cy:=bZ;have gT:=dm;obtain⟨W,fK,hW⟩:=dL w S ⟨3,a,b,0,0⟩ x;simp only[] at fK hW;have qI:=(hW.o6 1 _ rfl).1;have qJ:=(hW.o6 2 _ rfl).1;have qK:=(hW.o6 0 _ rfl).1;have jS:=(hW.o7 (2+a) _ (b_ ku)).1;have jT:=(hW.o7 (2+b) _ (b_ kF)).1;have a0:(0:Int)<=a:=by omega
 have a1:(a:Int)<6:=by omega
 have b0:(0:Int)<=b:=by omega
 have b1:(b:Int)<6:=by omega
 simp only[rg,cF,aS] at fK jS jT;simp only[e_,bO,rg];go_in;go_wp2_with fail
 go_quiet (fail)
 clear fK cy gT qI qJ jS jT;have hV:tJ w (W.drewN nq) S ⟨3,a,b,0,0⟩ x:=hW.calm (aq.drewN nq) rfl;clear hW qK;generalize W.drewN nq=W' at *;have y4:=(hV.o4 0 _ rfl).1;have tI:=(hV.o6 0 _ rfl).1;have po:=(hV.o6 3 _ rfl).1;have pq:=(hV.o6 4 _ rfl).1;have yF:=(hV.oF 0 _ rfl).1;have aZ:∀j,j<=5->w.heap.size+j<W'.heap.size:=λj hj=>by rw[hV.z];omega
 have iV:=hx.at b;have jc:=hx.at a;rw[aS] at jc iV;obtain⟨pb,bJ⟩:=au (x.R[b]?.getD 0);obtain⟨pa,bR⟩:=au (x.R[a]?.getD 0);rw[bJ] at iV;rw[bR] at jc;rw[bJ,bR];have oc:=Pz (hf.calm hV.c) hs ht hl iV;replace bJ:=af bJ;replace bR:=af bR;go_wp2_with fail
 refine oc.mono ?_;rintro en w5 ⟨v0,x0,rfl,tj,gK,n5⟩;clear oc;obtain⟨fB,S5,p1,p2,p3,p4⟩:=n5;have J0:=p4.le (λh=>xY.le h);obtain⟨v,rfl⟩:∃v:Nat,v0=v:=⟨v0.toNat,by omega⟩;have pG:v<=131072:=by omega
 have lR:x.R.getD (b:Int).toNat 0=pb:=by rw[aS,Int.toNat_natCast];exact bJ.out
 have tg:∀j,j<=5->500<=τ0 (w.heap.size+j):=λj hj=>by rw[fr _ (by omega)];omega
 have LK:∀j,j<=5->500<=fB (w.heap.size+j):=λj hj=>by rw[p2.tg _ (aZ j hj)];exact tg j hj
 have q7:=p2.bw hV.o7 (tg 2 (by omega));have q6:=p2.bw hV.o6 (tg 1 (by omega));have qF:=p2.bw hV.oF (tg 5 (by omega));have q4:=p2.bw hV.o4 (tg 0 (by omega));have q8:=p2.bw hV.o8 (tg 3 (by omega));have q9:=p2.bw hV.o9 (tg 4 (by omega));have e4:Own w5 (w.heap.size) 0 (pV S5.sp):=by rw[p3.sp];exact q4 0 _ rfl
 have ol:=qX p1 (e:=x0) (v:=v) q7 q6 (qF 0 _ rfl) e4 rfl ku hx.r (by omega) (by omega) (by omega) (LK 2 (by omega)) hx.b hx.p pG;have hT:lC (vw S) t ⟨3,a,b,0,0⟩ x ((x.nh a v x0).cV x0) x0 (cR (vw S5) v x0) (vw S5):=lC.ptr p4 (λhf hr=>xY.dn hl rfl (hg.at _) (by show xY t (x.R.getD (b:Int).toNat 0) _ _ _ _;rw[lR];exact hr) hf);have n5:Nx W' τ0 (s+1) S w5 (λS'=>lC (vw S) t ⟨3,a,b,0,0⟩ x ((x.nh a v x0).cV x0) x0 (cR (vw S5) v x0) (vw S')):=Nx.mono ⟨fB,S5,p1,p2,p3,hT⟩ (aM _) (λ_ h=>h);clear hT;clear p1 p2 p3 p4 J0 lR y4 tI po pq yF q6 q7 qF q4 e4;go_wp2_with fail
 refine ol.mono ?_;rintro en w6 ⟨rfl,f6⟩;clear ol;have jH:=q8.fr f6 (by omega);have lx:=q9.fr f6 (by omega);have hX:=hx.nh (d:=⟨3,a,b,0,0⟩) (by simp) (a:=a) pG x0;generalize (x.nh a v x0).cV x0=x2 at *;generalize cR (vw S5) v x0=sv at *;simp only[bO,cO,rg];obtain⟨y0,z0,y1,z1,y2,z2,y3,z3,y4,z4,y5,z5,y6,z6,y7,z7,y8,z8,y9,z9,lN,vo,nB,xR,nC,xS,ko,zL,kp,vB⟩:=ag.jU jH;obtain⟨wD,vC,wE,vD,wF,xT⟩:=ag.sR lx;have T1:=jH.whole (us:=(bq x2)) rfl;have F1:=rG w6 (w.heap.size+1+1+1) 0 (bq x2);have U0:=lx.fr F1 (by omega);have U:=U0.whole (us:=[vI 2,vI x0,vI sv]) rfl;have F2:Fr (λk=>k=w.heap.size+1+1+1+1) (w6.setCells (w.heap.size+1+1+1) 0 (bq x2)) ((w6.setCells (w.heap.size+1+1+1) 0 (bq x2)).setCells (w.heap.size+1+1+1+1) 0 [vI 2,vI x0,vI sv]):=Fr.setCells (S:=λk=>k=w.heap.size+1+1+1+1) rfl _ _ aq;have T:=T1.fr F2 (by omega)
 have hF:Fr (λb=>w.heap.size<=b/\b<W'.heap.size) w5 ((w6.setCells (w.heap.size+1+1+1) 0 (bq x2)).setCells (w.heap.size+1+1+1+1) 0 [vI 2,vI x0,vI sv]):=
  (((f6.mono (λb _ e=>by have:=aZ 2 (by omega);omega)).trans (F1.mono (λb _ e=>by have:=aZ 3 (by omega);omega))).trans (F2.mono (λb _ e=>by have:=aZ 4 (by omega);omega)))
 have hP:px w τ s S t ⟨3,a,b,0,0⟩ x (.returned (.tuple #[bO x2,cO 2 x0 sv])) ((w6.setCells (w.heap.size+1+1+1) 0 (bq x2)).setCells (w.heap.size+1+1+1+1) 0 [vI 2,vI x0,vI sv]):=⟨x2,x0,sv,rfl,gK,hX,fY hV tk fr n5 hF⟩;replace hP:=af hP;replace T:=af T;replace U:=af U;clear T1 F1 U0 F2 hF n5 hX q8 q9;go_wp2;exact bodyPost_ret (v:=.tuple #[bO x2,cO 2 x0 sv]) (cd (i:=8) (j:=9) rfl rfl rfl T.out U.out) rfl hP.out
theorem Ly(h:St w τ s S)(hs:s<100000){x:bT}(hx:xX x)(hg:wL S x){t:Nat}(ht:t<S.bB.length)(hl:(S.tx t).live=true){a b:Nat}(ku:a<6)(kF:b<6){i:Nat}(hi:i<=7) :
 aL prog 45 #[pV S.sp,vI (t:Int),e_ ⟨4,a,b,(i:Int),0⟩,bO x] w (px w τ s S t ⟨4,a,b,(i:Int),0⟩ x):=by
 obtain⟨τ0,hf,tk,fr⟩:=h.fresh;have cy:=bZ;have gT:=dm;obtain⟨W,fK,hW⟩:=dL w S ⟨4,a,b,(i:Int),0⟩ x;simp only[] at fK hW;have qI:=(hW.o6 1 _ rfl).1;have qJ:=(hW.o6 2 _ rfl).1;have qK:=(hW.o6 0 _ rfl).1;have jS:=(hW.o7 (2+a) _ (b_ ku)).1;have jT:=(hW.o7 (2+b) _ (b_ kF)).1;have a0:(0:Int)<=a:=by omega
 have a1:(a:Int)<6:=by omega
 have b0:(0:Int)<=b:=by omega
 have b1:(b:Int)<6:=by omega
 simp only[rg,cF,aS] at fK jS jT;simp only[e_,bO,rg];go_in;go_wp2_with fail
 go_quiet (fail)
 clear fK cy gT qI qJ jS jT;have hV:tJ w (W.drewN nq) S ⟨4,a,b,(i:Int),0⟩ x:=hW.calm (aq.drewN nq) rfl;clear hW qK;generalize W.drewN nq=W' at *;have y4:=(hV.o4 0 _ rfl).1;have tI:=(hV.o6 0 _ rfl).1;have po:=(hV.o6 3 _ rfl).1;have pq:=(hV.o6 4 _ rfl).1;have yF:=(hV.oF 0 _ rfl).1;have aZ:∀j,j<=5->w.heap.size+j<W'.heap.size:=λj hj=>by rw[hV.z];omega
 have iV:=hx.at b;have jc:=hx.at a;rw[aS] at jc iV;obtain⟨pb,bJ⟩:=au (x.R[b]?.getD 0);obtain⟨pa,bR⟩:=au (x.R[a]?.getD 0);rw[bJ] at iV;rw[bR] at jc;rw[bJ,bR];have oc:=Rx (hf.calm hV.c) ht hl iV (k:=(i:Int)) ⟨by omega,by omega⟩ (by omega);replace bJ:=af bJ;replace bR:=af bR;go_wp2_with fail
 refine oc.mono ?_;rintro en w5 ⟨v0,x0,rfl,tj,gK,n5⟩;clear oc;obtain⟨fB,S5,p1,p2,p3,p4⟩:=n5;have J0:=p4.le (λh=>h.2);obtain⟨v,rfl⟩:∃v:Nat,v0=v:=⟨v0.toNat,by omega⟩;have pG:v<=131072:=by omega
 have lR:x.R.getD (b:Int).toNat 0=pb:=by rw[aS,Int.toNat_natCast];exact bJ.out
 have tg:∀j,j<=5->500<=τ0 (w.heap.size+j):=λj hj=>by rw[fr _ (by omega)];omega
 have LK:∀j,j<=5->500<=fB (w.heap.size+j):=λj hj=>by rw[p2.tg _ (aZ j hj)];exact tg j hj
 have q7:=p2.bw hV.o7 (tg 2 (by omega));have q6:=p2.bw hV.o6 (tg 1 (by omega));have qF:=p2.bw hV.oF (tg 5 (by omega));have q4:=p2.bw hV.o4 (tg 0 (by omega));have q8:=p2.bw hV.o8 (tg 3 (by omega));have q9:=p2.bw hV.o9 (tg 4 (by omega));have e4:Own w5 (w.heap.size) 0 (pV S5.sp):=by rw[p3.sp];exact q4 0 _ rfl
 have ol:=qX p1 (e:=x0) (v:=v) q7 q6 (qF 0 _ rfl) e4 rfl ku hx.r (by omega) (by omega) (by omega) (LK 2 (by omega)) hx.b hx.p pG;have hT:lC (vw S) t ⟨4,a,b,(i:Int),0⟩ x ((x.nh a v x0).cV x0) x0 (cR (vw S5) v x0) (vw S5):=lC.ptr p4 (λhf hr=>iY.dn hg.z (.inl rfl) (hg.at _) (by show iY 4 t (x.R.getD (b:Int).toNat 0) _ _ _ _ _ _;rw[lR];exact hr.1) hf);have n5:Nx W' τ0 (s+1) S w5 (λS'=>lC (vw S) t ⟨4,a,b,(i:Int),0⟩ x ((x.nh a v x0).cV x0) x0 (cR (vw S5) v x0) (vw S')):=Nx.mono ⟨fB,S5,p1,p2,p3,hT⟩ (Nat.le_succ _) (λ_ h=>h);clear hT;clear p1 p2 p3 p4 J0 lR y4 tI po pq yF q6 q7 qF q4 e4;go_wp2_with fail
 refine ol.mono ?_;rintro en w6 ⟨rfl,f6⟩;clear ol;have jH:=q8.fr f6 (by omega);have lx:=q9.fr f6 (by omega);have hX:=hx.nh (d:=⟨4,a,b,(i:Int),0⟩) (by simp) (a:=a) pG x0;generalize (x.nh a v x0).cV x0=x2 at *;generalize cR (vw S5) v x0=sv at *;simp only[bO,cO,rg];obtain⟨y0,z0,y1,z1,y2,z2,y3,z3,y4,z4,y5,z5,y6,z6,y7,z7,y8,z8,y9,z9,lN,vo,nB,xR,nC,xS,ko,zL,kp,vB⟩:=ag.jU jH;obtain⟨wD,vC,wE,vD,wF,xT⟩:=ag.sR lx;have T1:=jH.whole (us:=(bq x2)) rfl;have F1:=rG w6 (w.heap.size+1+1+1) 0 (bq x2);have U0:=lx.fr F1 (by omega);have U:=U0.whole (us:=[vI 2,vI x0,vI sv]) rfl;have F2:Fr (λk=>k=w.heap.size+1+1+1+1) (w6.setCells (w.heap.size+1+1+1) 0 (bq x2)) ((w6.setCells (w.heap.size+1+1+1) 0 (bq x2)).setCells (w.heap.size+1+1+1+1) 0 [vI 2,vI x0,vI sv]):=Fr.setCells (S:=λk=>k=w.heap.size+1+1+1+1) rfl _ _ aq;have T:=T1.fr F2 (by omega)
 have hF:Fr (λb=>w.heap.size<=b/\b<W'.heap.size) w5 ((w6.setCells (w.heap.size+1+1+1) 0 (bq x2)).setCells (w.heap.size+1+1+1+1) 0 [vI 2,vI x0,vI sv]):=
  (((f6.mono (λb _ e=>by have:=aZ 2 (by omega);omega)).trans (F1.mono (λb _ e=>by have:=aZ 3 (by omega);omega))).trans (F2.mono (λb _ e=>by have:=aZ 4 (by omega);omega)))
 have hP:px w τ s S t ⟨4,a,b,(i:Int),0⟩ x (.returned (.tuple #[bO x2,cO 2 x0 sv])) ((w6.setCells (w.heap.size+1+1+1) 0 (bq x2)).setCells (w.heap.size+1+1+1+1) 0 [vI 2,vI x0,vI sv]):=⟨x2,x0,sv,rfl,gK,hX,fY hV tk fr n5 hF⟩;replace hP:=af hP;replace T:=af T;replace U:=af U;clear T1 F1 U0 F2 hF n5 hX q8 q9;go_wp2;exact bodyPost_ret (v:=.tuple #[bO x2,cO 2 x0 sv]) (cd (i:=8) (j:=9) rfl rfl rfl T.out U.out) rfl hP.out
theorem LF(h:St w τ s S)(hs:s<100000){x:bT}(hx:xX x)(hg:wL S x){t:Nat}(ht:t<S.bB.length)(hl:(S.tx t).live=true){a b:Nat}(ku:a<6)(kF:b<6) :
 aL prog 45 #[pV S.sp,vI (t:Int),e_ ⟨9,a,b,0,0⟩,bO x] w (px w τ s S t ⟨9,a,b,0,0⟩ x):=by
 obtain⟨τ0,hf,tk,fr⟩:=h.fresh;have cy:=bZ;have gT:=dm;obtain⟨W,fK,hW⟩:=dL w S ⟨9,a,b,0,0⟩ x;simp only[] at fK hW;have qI:=(hW.o6 1 _ rfl).1;have qJ:=(hW.o6 2 _ rfl).1;have qK:=(hW.o6 0 _ rfl).1;have jS:=(hW.o7 (2+a) _ (b_ ku)).1;have jT:=(hW.o7 (2+b) _ (b_ kF)).1;have a0:(0:Int)<=a:=by omega
 have a1:(a:Int)<6:=by omega
 have b0:(0:Int)<=b:=by omega
 have b1:(b:Int)<6:=by omega
 simp only[rg,cF,aS] at fK jS jT;simp only[e_,bO,rg];go_in;go_wp2_with fail
 go_quiet (fail)
 clear fK cy gT qI qJ jS jT;have hV:tJ w (W.drewN nq) S ⟨9,a,b,0,0⟩ x:=hW.calm (aq.drewN nq) rfl;clear hW qK;generalize W.drewN nq=W' at *;have y4:=(hV.o4 0 _ rfl).1;have tI:=(hV.o6 0 _ rfl).1;have po:=(hV.o6 3 _ rfl).1;have pq:=(hV.o6 4 _ rfl).1;have yF:=(hV.oF 0 _ rfl).1;have aZ:∀j,j<=5->w.heap.size+j<W'.heap.size:=λj hj=>by rw[hV.z];omega
 have iV:=hx.at b;have jc:=hx.at a;rw[aS] at jc iV;obtain⟨pb,bJ⟩:=au (x.R[b]?.getD 0);obtain⟨pa,bR⟩:=au (x.R[a]?.getD 0);rw[bJ] at iV;rw[bR] at jc;rw[bJ,bR];have oc:=Ow (hf.calm hV.c) ht hl iV;replace bJ:=af bJ;replace bR:=af bR;go_wp2_with fail
 refine oc.mono ?_;rintro en w5 ⟨v0,x0,rfl,tj,gK,n5⟩;clear oc;obtain⟨fB,S5,p1,p2,p3,p4⟩:=n5;have J0:=p4.le (λh=>h.2);obtain⟨v,rfl⟩:∃v:Nat,v0=v:=⟨v0.toNat,by omega⟩;have pG:v<=131072:=by omega
 have lR:x.R.getD (b:Int).toNat 0=pb:=by rw[aS,Int.toNat_natCast];exact bJ.out
 have tg:∀j,j<=5->500<=τ0 (w.heap.size+j):=λj hj=>by rw[fr _ (by omega)];omega
 have LK:∀j,j<=5->500<=fB (w.heap.size+j):=λj hj=>by rw[p2.tg _ (aZ j hj)];exact tg j hj
 have q7:=p2.bw hV.o7 (tg 2 (by omega));have q6:=p2.bw hV.o6 (tg 1 (by omega));have qF:=p2.bw hV.oF (tg 5 (by omega));have q4:=p2.bw hV.o4 (tg 0 (by omega));have q8:=p2.bw hV.o8 (tg 3 (by omega));have q9:=p2.bw hV.o9 (tg 4 (by omega));have e4:Own w5 (w.heap.size) 0 (pV S5.sp):=by rw[p3.sp];exact q4 0 _ rfl
 have ol:=qX p1 (e:=x0) (v:=v) q7 q6 (qF 0 _ rfl) e4 rfl ku hx.r (by omega) (by omega) (by omega) (LK 2 (by omega)) hx.b hx.p pG;have hT:lC (vw S) t ⟨9,a,b,0,0⟩ x ((x.nh a v x0).cV x0) x0 (cR (vw S5) v x0) (vw S5):=lC.ptr p4 (λhf hr=>iY.dn hg.z (.inr rfl) (hg.at _) (by show iY 9 t (x.R.getD (b:Int).toNat 0) _ _ _ _ _ _;rw[lR];exact hr.1) hf);have n5:Nx W' τ0 (s+1) S w5 (λS'=>lC (vw S) t ⟨9,a,b,0,0⟩ x ((x.nh a v x0).cV x0) x0 (cR (vw S5) v x0) (vw S')):=Nx.mono ⟨fB,S5,p1,p2,p3,hT⟩ (Nat.le_succ _) (λ_ h=>h);clear hT;clear p1 p2 p3 p4 J0 lR y4 tI po pq yF q6 q7 qF q4 e4;go_wp2_with fail
 refine ol.mono ?_;rintro en w6 ⟨rfl,f6⟩;clear ol;have jH:=q8.fr f6 (by omega);have lx:=q9.fr f6 (by omega);have hX:=hx.nh (d:=⟨9,a,b,0,0⟩) (by simp) (a:=a) pG x0;generalize (x.nh a v x0).cV x0=x2 at *;generalize cR (vw S5) v x0=sv at *;simp only[bO,cO,rg];obtain⟨y0,z0,y1,z1,y2,z2,y3,z3,y4,z4,y5,z5,y6,z6,y7,z7,y8,z8,y9,z9,lN,vo,nB,xR,nC,xS,ko,zL,kp,vB⟩:=ag.jU jH;obtain⟨wD,vC,wE,vD,wF,xT⟩:=ag.sR lx;have T1:=jH.whole (us:=(bq x2)) rfl;have F1:=rG w6 (w.heap.size+1+1+1) 0 (bq x2);have U0:=lx.fr F1 (by omega);have U:=U0.whole (us:=[vI 2,vI x0,vI sv]) rfl;have F2:Fr (λk=>k=w.heap.size+1+1+1+1) (w6.setCells (w.heap.size+1+1+1) 0 (bq x2)) ((w6.setCells (w.heap.size+1+1+1) 0 (bq x2)).setCells (w.heap.size+1+1+1+1) 0 [vI 2,vI x0,vI sv]):=Fr.setCells (S:=λk=>k=w.heap.size+1+1+1+1) rfl _ _ aq;have T:=T1.fr F2 (by omega)
 have hF:Fr (λb=>w.heap.size<=b/\b<W'.heap.size) w5 ((w6.setCells (w.heap.size+1+1+1) 0 (bq x2)).setCells (w.heap.size+1+1+1+1) 0 [vI 2,vI x0,vI sv]):=
  (((f6.mono (λb _ e=>by have:=aZ 2 (by omega);omega)).trans (F1.mono (λb _ e=>by have:=aZ 3 (by omega);omega))).trans (F2.mono (λb _ e=>by have:=aZ 4 (by omega);omega)))
 have hP:px w τ s S t ⟨9,a,b,0,0⟩ x (.returned (.tuple #[bO x2,cO 2 x0 sv])) ((w6.setCells (w.heap.size+1+1+1) 0 (bq x2)).setCells (w.heap.size+1+1+1+1) 0 [vI 2,vI x0,vI sv]):=⟨x2,x0,sv,rfl,gK,hX,fY hV tk fr n5 hF⟩;replace hP:=af hP;replace T:=af T;replace U:=af U;clear T1 F1 U0 F2 hF n5 hX q8 q9;go_wp2;exact bodyPost_ret (v:=.tuple #[bO x2,cO 2 x0 sv]) (cd (i:=8) (j:=9) rfl rfl rfl T.out U.out) rfl hP.out
theorem He(h:St w τ s S)(hs:s<100000){x:bT}(hx:xX x)(hg:wL S x){t:Nat}(ht:t<S.bB.length)(hl:(S.tx t).live=true){a b:Nat}(ku:a<6)(kF:b<6) :
 aL prog 45 #[pV S.sp,vI (t:Int),e_ ⟨10,a,b,0,0⟩,bO x] w (px w τ s S t ⟨10,a,b,0,0⟩ x):=by
 obtain⟨τ0,hf,tk,fr⟩:=h.fresh;have cy:=bZ;have gT:=dm;obtain⟨W,fK,hW⟩:=dL w S ⟨10,a,b,0,0⟩ x;simp only[] at fK hW;have qI:=(hW.o6 1 _ rfl).1;have qJ:=(hW.o6 2 _ rfl).1;have qK:=(hW.o6 0 _ rfl).1;have jS:=(hW.o7 (2+a) _ (b_ ku)).1;have jT:=(hW.o7 (2+b) _ (b_ kF)).1;have a0:(0:Int)<=a:=by omega
 have a1:(a:Int)<6:=by omega
 have b0:(0:Int)<=b:=by omega
 have b1:(b:Int)<6:=by omega
 simp only[rg,cF,aS] at fK jS jT;simp only[e_,bO,rg];go_in;go_wp2_with fail
 go_quiet (fail)
 clear fK cy gT qI qJ jS jT;have hV:tJ w (W.drewN nq) S ⟨10,a,b,0,0⟩ x:=hW.calm (aq.drewN nq) rfl;clear hW qK;generalize W.drewN nq=W' at *;have y4:=(hV.o4 0 _ rfl).1;have tI:=(hV.o6 0 _ rfl).1;have po:=(hV.o6 3 _ rfl).1;have pq:=(hV.o6 4 _ rfl).1;have yF:=(hV.oF 0 _ rfl).1;have aZ:∀j,j<=5->w.heap.size+j<W'.heap.size:=λj hj=>by rw[hV.z];omega
 have iV:=hx.at b;have jc:=hx.at a;rw[aS] at jc iV;obtain⟨pb,bJ⟩:=au (x.R[b]?.getD 0);obtain⟨pa,bR⟩:=au (x.R[a]?.getD 0);rw[bJ] at iV;rw[bR] at jc;rw[bJ,bR];have oc:=Ph (hf.calm hV.c) ht hl;replace bJ:=af bJ;replace bR:=af bR;go_wp2_with fail
 refine oc.mono ?_;rintro en w5 ⟨v0,x0,rfl,tj,gK,n5⟩;clear oc;obtain⟨fB,S5,p1,p2,p3,p4⟩:=n5;have J0:=p4.le (λh=>Cq.le h);obtain⟨v,rfl⟩:∃v:Nat,v0=v:=⟨v0.toNat,by omega⟩;have pG:v<=131072:=by omega
 have lR:x.R.getD (b:Int).toNat 0=pb:=by rw[aS,Int.toNat_natCast];exact bJ.out
 have tg:∀j,j<=5->500<=τ0 (w.heap.size+j):=λj hj=>by rw[fr _ (by omega)];omega
 have LK:∀j,j<=5->500<=fB (w.heap.size+j):=λj hj=>by rw[p2.tg _ (aZ j hj)];exact tg j hj
 have q7:=p2.bw hV.o7 (tg 2 (by omega));have q6:=p2.bw hV.o6 (tg 1 (by omega));have qF:=p2.bw hV.oF (tg 5 (by omega));have q4:=p2.bw hV.o4 (tg 0 (by omega));have q8:=p2.bw hV.o8 (tg 3 (by omega));have q9:=p2.bw hV.o9 (tg 4 (by omega));have e4:Own w5 (w.heap.size) 0 (pV S5.sp):=by rw[p3.sp];exact q4 0 _ rfl
 have ol:=qX p1 (e:=x0) (v:=v) q7 q6 (qF 0 _ rfl) e4 rfl ku hx.r (by omega) (by omega) (by omega) (LK 2 (by omega)) hx.b hx.p pG;have hT:lC (vw S) t ⟨10,a,b,0,0⟩ x ((x.nh a v x0).cV x0) x0 (cR (vw S5) v x0) (vw S5):=lC.ptr p4 (λhf hr=>Cq.dn rfl hr hf);have n5:Nx W' τ0 (s+1) S w5 (λS'=>lC (vw S) t ⟨10,a,b,0,0⟩ x ((x.nh a v x0).cV x0) x0 (cR (vw S5) v x0) (vw S')):=Nx.mono ⟨fB,S5,p1,p2,p3,hT⟩ (Nat.le_succ _) (λ_ h=>h);clear hT;clear p1 p2 p3 p4 J0 lR y4 tI po pq yF q6 q7 qF q4 e4;go_wp2_with fail
 refine ol.mono ?_;rintro en w6 ⟨rfl,f6⟩;clear ol;have jH:=q8.fr f6 (by omega);have lx:=q9.fr f6 (by omega);have hX:=hx.nh (d:=⟨10,a,b,0,0⟩) (by simp) (a:=a) pG x0;generalize (x.nh a v x0).cV x0=x2 at *;generalize cR (vw S5) v x0=sv at *;simp only[bO,cO,rg];obtain⟨y0,z0,y1,z1,y2,z2,y3,z3,y4,z4,y5,z5,y6,z6,y7,z7,y8,z8,y9,z9,lN,vo,nB,xR,nC,xS,ko,zL,kp,vB⟩:=ag.jU jH;obtain⟨wD,vC,wE,vD,wF,xT⟩:=ag.sR lx;have T1:=jH.whole (us:=(bq x2)) rfl;have F1:=rG w6 (w.heap.size+1+1+1) 0 (bq x2);have U0:=lx.fr F1 (by omega);have U:=U0.whole (us:=[vI 2,vI x0,vI sv]) rfl;have F2:Fr (λk=>k=w.heap.size+1+1+1+1) (w6.setCells (w.heap.size+1+1+1) 0 (bq x2)) ((w6.setCells (w.heap.size+1+1+1) 0 (bq x2)).setCells (w.heap.size+1+1+1+1) 0 [vI 2,vI x0,vI sv]):=Fr.setCells (S:=λk=>k=w.heap.size+1+1+1+1) rfl _ _ aq;have T:=T1.fr F2 (by omega)
 have hF:Fr (λb=>w.heap.size<=b/\b<W'.heap.size) w5 ((w6.setCells (w.heap.size+1+1+1) 0 (bq x2)).setCells (w.heap.size+1+1+1+1) 0 [vI 2,vI x0,vI sv]):=
  (((f6.mono (λb _ e=>by have:=aZ 2 (by omega);omega)).trans (F1.mono (λb _ e=>by have:=aZ 3 (by omega);omega))).trans (F2.mono (λb _ e=>by have:=aZ 4 (by omega);omega)))
 have hP:px w τ s S t ⟨10,a,b,0,0⟩ x (.returned (.tuple #[bO x2,cO 2 x0 sv])) ((w6.setCells (w.heap.size+1+1+1) 0 (bq x2)).setCells (w.heap.size+1+1+1+1) 0 [vI 2,vI x0,vI sv]):=⟨x2,x0,sv,rfl,gK,hX,fY hV tk fr n5 hF⟩;replace hP:=af hP;replace T:=af T;replace U:=af U;clear T1 F1 U0 F2 hF n5 hX q8 q9;go_wp2;exact bodyPost_ret (v:=.tuple #[bO x2,cO 2 x0 sv]) (cd (i:=8) (j:=9) rfl rfl rfl T.out U.out) rfl hP.out
end
