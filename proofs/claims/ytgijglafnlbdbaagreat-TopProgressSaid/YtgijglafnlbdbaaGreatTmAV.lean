import Derived.Test.YtgijglafnlbdbaaGreatTmAU
set_option linter.all false
set_option maxHeartbeats 8000000
set_option maxRecDepth 8000
namespace Go.Proofs.YtgijglafnlbdbaaGreat
open RowKit Shelf Proofs.Tryz
open Go renaming World->ag,Value->aA,Calls->aJ
section
variable {w:ag}{τ:Nat->Nat}{s q:Nat}{S:aE}
theorem Nb(h:St w τ s q S)(hs:s<100000)(hq:q<=100000){x:bP}(hx:yV x)(t:Int)(ht:bX t){a b:Nat}(lT:a<6)(kG:b<6){i:Nat}(hi:i<=7) :
 aJ prog 45 #[pV S.sp,vI t,fX ⟨5,a,b,(i:Int),0⟩,bQ x] w (oP w τ s q S t ⟨5,a,b,(i:Int),0⟩ x):=by
 obtain⟨τ0,hf,tk,fr⟩:=h.fresh;have cM:=cF;have iQ:=dP;obtain⟨W,eT,hW⟩:=ey w S ⟨5,a,b,(i:Int),0⟩ x;simp only[] at eT hW;have qQ:=(hW.o6 1 _ rfl).1;have qR:=(hW.o6 2 _ rfl).1;have qU:=(hW.o6 0 _ rfl).1;have ly:=(hW.o7 (2+a) _ (cG lT)).1;have lz:=(hW.o7 (2+b) _ (cG kG)).1;have a0:(0:Int)<=a:=by omega
 have a1:(a:Int)<6:=by omega
 have b0:(0:Int)<=b:=by omega
 have b1:(b:Int)<6:=by omega
 simp only[rg,cL,aS] at eT ly lz;simp only[fX,bQ,rg];go_in;go_wp2_with fail
 go_quiet (fail)
 clear eT cM iQ qQ qR ly lz;have hV:tR w (W.drewN nq) S ⟨5,a,b,(i:Int),0⟩ x:=hW.calm (ah.drewN nq) rfl;clear hW qU;generalize W.drewN nq=W' at *;have y4:=(hV.o4 0 _ rfl).1;have tN:=(hV.o6 0 _ rfl).1;have pD:=(hV.o6 3 _ rfl).1;have pE:=(hV.o6 4 _ rfl).1;have yF:=(hV.oF 0 _ rfl).1;have aM:∀j,j<=5->w.heap.size+j<W'.heap.size:=λj hj=>by rw[hV.z];omega
 have ky:=hx.at b;have kx:=hx.at a;rw[aS] at kx ky;obtain⟨pb,cj⟩:=ao (x.R[b]?.getD 0);obtain⟨pa,cB⟩:=ao (x.R[a]?.getD 0);rw[cj] at ky;rw[cB] at kx;rw[cj,cB];have kd:Calm W' W'.drew:=ah.drew;have hD:tR w W'.drew S ⟨5,a,b,(i:Int),0⟩ x:=hV.calm kd rfl;have dO:∀j,j<=5->w.heap.size+j<W'.drew.heap.size:=aM;have oc:=We (hf.calm (hV.c.trans kd)) hq t ht kx (k:=(i:Int)) ⟨by omega,by omega⟩ ky;replace cj:=hid cj;replace cB:=hid cB;go_wp2_with fail
 refine bW [(true,0),(true,1),(true,2),(true,3),(true,4),(true,5),(true,6),(false,7),(false,8),(true,9),(true,10),(false,11),(false,12)] (λw'=>w'.cell? ⟨w.heap.size+1+1+1+1+1,0,none⟩=some (cL (w.heap.size+1+1))/\w'.cell? ⟨w.heap.size,0,none⟩=some (pV S.sp)/\w'.cell? ⟨w.heap.size+1,3,none⟩=some (vI (i:Int))/\w'.cell? ⟨w.heap.size+1,4,none⟩=some (vI 0)) (by kernel_rfl) (by kernel_rfl) ⟨yF,y4,pD,pE⟩ ?_;refine au (cL (w.heap.size+1+1)) rfl rfl (λw' hw'=>?_) ak ?_
 ·have e1:=hw'.1;simp[go_sem,e1]
 refine au (pV S.sp) rfl rfl (λw' hw'=>?_) ak ?_
 ·have e1:=hw'.2.1;simp[go_sem,e1]
 refine au (vI t) rfl rfl (λw' hw'=>?_) ak ?_
 ·simp[go_sem]
 refine au (vI (pa:Int)) rfl rfl (λw' hw'=>?_) ak ?_
 ·simp[go_sem]
 refine au (.pointer (some ⟨w.heap.size+1,3,none⟩)) rfl rfl (λw' hw'=>?_) ak ?_
 ·simp[go_sem]
 refine au (vI (i:Int)) rfl rfl (λw' hw'=>?_) ak ?_
 ·have e1:=hw'.2.2.1;simp[go_sem,e1]
 refine au (vI (pb:Int)) rfl rfl (λw' hw'=>?_) ak ?_
 ·simp[go_sem]
 refine bj rfl rfl ?_;go_wp2_with fail
 refine oc.mono ?_;rintro en w5 ⟨x0,rfl,jb,ft,n5⟩;have V0:=n5;obtain⟨dW,S5,p1,p2,p3,p4⟩:=n5;have tg:∀j,j<=5->500<=τ0 (w.heap.size+j):=λj hj=>by rw[fr _ (by omega)];omega
 have q7:=p2.bH hD.o7 (tg 2 (by omega));have q6:=p2.bH hD.o6 (tg 1 (by omega));have qF:=p2.bH hD.oF (tg 5 (by omega));have q4:=p2.bH hD.o4 (tg 0 (by omega));have q8:=p2.bH hD.o8 (tg 3 (by omega));have q9:=p2.bH hD.o9 (tg 4 (by omega));have sA:w5.cell? ⟨w.heap.size+1+1+1+1+1,0,none⟩=some (cL (w.heap.size+1+1))/\w5.cell? ⟨w.heap.size,0,none⟩=some (pV S.sp)/\w5.cell? ⟨w.heap.size+1,3,none⟩=some (vI (i:Int))/\w5.cell? ⟨w.heap.size+1,4,none⟩=some (vI 0):=⟨(qF 0 _ rfl).1,(q4 0 _ rfl).1,(q6 3 _ rfl).1,(q6 4 _ rfl).1⟩;refine⟨sA,?_⟩;have ol:=iC q7 hx.b hx.p 0 x0;clear oc y4 tN pD pE yF p1 p2 p3 p4;refine bj rfl rfl ?_;go_wp2_with fail
 refine ol.mono ?_;rintro en w6 ⟨rfl,k6⟩;clear ol;have sB:w6.cell? ⟨w.heap.size+1+1+1+1+1,0,none⟩=some (cL (w.heap.size+1+1))/\w6.cell? ⟨w.heap.size,0,none⟩=some (pV S.sp)/\w6.cell? ⟨w.heap.size+1,3,none⟩=some (vI (i:Int))/\w6.cell? ⟨w.heap.size+1,4,none⟩=some (vI 0):=⟨k6.cellAt sA.1 id,k6.cellAt sA.2.1 id,k6.cellAt sA.2.2.1 id,k6.cellAt sA.2.2.2 id⟩;refine⟨sB,?_⟩;generalize dy:x.fQ x0=x2 at *;obtain⟨v2,dK⟩:=ao ((if x0=0 then (0:Int) else 0):Int);rw[dK];replace dy:=hid dy;replace dK:=hid dK;refine au (bQ x2) rfl rfl (λw' hw'=>?_) ak ?_
 ·simp[go_sem]
 refine au (cS 2 x0 v2) rfl rfl (λw' hw'=>?_) ak ?_
 ·simp[go_sem]
 refine bj rfl rfl ?_;refine bC _ _ _ rfl (w.heap.size+1+1+1) (aX x2).toArray rfl rfl (q8.calm k6) rfl (by kernel_rfl) (eM x2) ?_;intro w7 p8 f7;refine⟨⟨f7.cellAt sB.1 (by show ¬(w.heap.size+1+1+1+1+1=_);omega),f7.cellAt sB.2.1 (by show ¬(w.heap.size=_);omega),f7.cellAt sB.2.2.1 (by show ¬(w.heap.size+1=_);omega),f7.cellAt sB.2.2.2 (by show ¬(w.heap.size+1=_);omega)⟩,?_⟩;have Mt:=(q9.calm k6).fr f7 (by omega);refine bj rfl rfl ?_;refine bC _ _ _ rfl (w.heap.size+1+1+1+1) #[vI 2,vI x0,vI v2] rfl rfl Mt rfl (by kernel_rfl) (by simp[Value.oneCell']) ?_;intro w8 p9 f8;have sC:=f7.cellAt sB.1 (by show ¬(w.heap.size+1+1+1+1+1=_);omega);refine⟨⟨f8.cellAt sC (by show ¬(w.heap.size+1+1+1+1+1=_);omega),f8.cellAt (f7.cellAt sB.2.1 (by show ¬(w.heap.size=_);omega)) (by show ¬(w.heap.size=_);omega),f8.cellAt (f7.cellAt sB.2.2.1 (by show ¬(w.heap.size+1=_);omega)) (by show ¬(w.heap.size+1=_);omega),f8.cellAt (f7.cellAt sB.2.2.2 (by show ¬(w.heap.size+1=_);omega)) (by show ¬(w.heap.size+1=_);omega)⟩,?_⟩;have V9:=p8.fr f8 (by omega);refine eW ?_;have hF:Fr (λb=>w.heap.size<=b/\b<W'.drew.heap.size) w5 w8:=((Calm.any k6:Fr (λb=>w.heap.size<=b/\b<W'.drew.heap.size) _ _).trans (f7.mono (λb _ e=>by have:=dO 3 (by omega);omega))).trans (f8.mono (λb _ e=>by have:=dO 4 (by omega);omega));have hP:oP w τ s q S t ⟨5,a,b,(i:Int),0⟩ x (.returned (.tuple #[bQ x2,cS 2 x0 v2])) w8:=⟨x2,x0,v2,rfl,jb,⟨x,hx.r,hx.rp,rfl,rfl,rfl,rfl,.inl ⟨dy.out.symm,by simp⟩⟩,(gD hD tk fr V0 hF).mono (Nat.le_succ _) (aD _) (λS' hR=>.inl ⟨by simp,hR⟩)⟩;replace hP:=hid hP;clear hF sA sB sC p8 Mt;go_wp2;exact bodyPost_ret (v:=.tuple #[bQ x2,cS 2 x0 v2]) (cC (i:=8) (j:=9) rfl rfl rfl V9 p9) rfl hP.out
theorem Nc(h:St w τ s q S)(hs:s<100000)(hq:q<=100000){x:bP}(hx:yV x)(t:Int)(ht:bX t){a b:Nat}(lT:a<6)(kG:b<6){i:Nat}(hi:i<=7) :
 aJ prog 45 #[pV S.sp,vI t,fX ⟨6,a,b,(i:Int),0⟩,bQ x] w (oP w τ s q S t ⟨6,a,b,(i:Int),0⟩ x):=by
 obtain⟨τ0,hf,tk,fr⟩:=h.fresh;have cM:=cF;have iQ:=dP;obtain⟨W,eT,hW⟩:=ey w S ⟨6,a,b,(i:Int),0⟩ x;simp only[] at eT hW;have qQ:=(hW.o6 1 _ rfl).1;have qR:=(hW.o6 2 _ rfl).1;have qU:=(hW.o6 0 _ rfl).1;have ly:=(hW.o7 (2+a) _ (cG lT)).1;have lz:=(hW.o7 (2+b) _ (cG kG)).1;have a0:(0:Int)<=a:=by omega
 have a1:(a:Int)<6:=by omega
 have b0:(0:Int)<=b:=by omega
 have b1:(b:Int)<6:=by omega
 simp only[rg,cL,aS] at eT ly lz;simp only[fX,bQ,rg];go_in;go_wp2_with fail
 go_quiet (fail)
 clear eT cM iQ qQ qR ly lz;have hV:tR w (W.drewN nq) S ⟨6,a,b,(i:Int),0⟩ x:=hW.calm (ah.drewN nq) rfl;clear hW qU;generalize W.drewN nq=W' at *;have y4:=(hV.o4 0 _ rfl).1;have tN:=(hV.o6 0 _ rfl).1;have pD:=(hV.o6 3 _ rfl).1;have pE:=(hV.o6 4 _ rfl).1;have yF:=(hV.oF 0 _ rfl).1;have aM:∀j,j<=5->w.heap.size+j<W'.heap.size:=λj hj=>by rw[hV.z];omega
 have ky:=hx.at b;have kx:=hx.at a;rw[aS] at kx ky;obtain⟨pb,cj⟩:=ao (x.R[b]?.getD 0);obtain⟨pa,cB⟩:=ao (x.R[a]?.getD 0);rw[cj] at ky;rw[cB] at kx;rw[cj,cB];have kd:Calm W' W'.drew:=ah.drew;have hD:tR w W'.drew S ⟨6,a,b,(i:Int),0⟩ x:=hV.calm kd rfl;have dO:∀j,j<=5->w.heap.size+j<W'.drew.heap.size:=aM;have oc:=QE (hf.calm (hV.c.trans kd)) hq t ht kx (k:=(i:Int)) ⟨by omega,by omega⟩;replace cj:=hid cj;replace cB:=hid cB;go_wp2_with fail
 refine bW [(true,0),(true,1),(true,2),(true,3),(true,4),(true,5),(false,6),(true,7),(true,8),(false,9),(true,10),(true,11),(false,12),(false,13)] (λw'=>w'.cell? ⟨w.heap.size+1+1+1+1+1,0,none⟩=some (cL (w.heap.size+1+1))/\w'.cell? ⟨w.heap.size,0,none⟩=some (pV S.sp)/\w'.cell? ⟨w.heap.size+1,3,none⟩=some (vI (i:Int))/\w'.cell? ⟨w.heap.size+1,4,none⟩=some (vI 0)) (by kernel_rfl) (by kernel_rfl) ⟨yF,y4,pD,pE⟩ ?_;refine au (cL (w.heap.size+1+1)) rfl rfl (λw' hw'=>?_) ak ?_
 ·have e1:=hw'.1;simp[go_sem,e1]
 refine au (pV S.sp) rfl rfl (λw' hw'=>?_) ak ?_
 ·have e1:=hw'.2.1;simp[go_sem,e1]
 refine au (vI t) rfl rfl (λw' hw'=>?_) ak ?_
 ·simp[go_sem]
 refine au (vI (pa:Int)) rfl rfl (λw' hw'=>?_) ak ?_
 ·simp[go_sem]
 refine au (.pointer (some ⟨w.heap.size+1,3,none⟩)) rfl rfl (λw' hw'=>?_) ak ?_
 ·simp[go_sem]
 refine au (vI (i:Int)) rfl rfl (λw' hw'=>?_) ak ?_
 ·have e1:=hw'.2.2.1;simp[go_sem,e1]
 refine bj rfl rfl ?_;go_wp2_with fail
 refine oc.mono ?_;rintro en w5 ⟨v0,x0,rfl,ye,jb,ft,n5⟩;have V0:=n5;obtain⟨dW,S5,p1,p2,p3,p4⟩:=n5;have tg:∀j,j<=5->500<=τ0 (w.heap.size+j):=λj hj=>by rw[fr _ (by omega)];omega
 have q7:=p2.bH hD.o7 (tg 2 (by omega));have q6:=p2.bH hD.o6 (tg 1 (by omega));have qF:=p2.bH hD.oF (tg 5 (by omega));have q4:=p2.bH hD.o4 (tg 0 (by omega));have q8:=p2.bH hD.o8 (tg 3 (by omega));have q9:=p2.bH hD.o9 (tg 4 (by omega));have sA:w5.cell? ⟨w.heap.size+1+1+1+1+1,0,none⟩=some (cL (w.heap.size+1+1))/\w5.cell? ⟨w.heap.size,0,none⟩=some (pV S.sp)/\w5.cell? ⟨w.heap.size+1,3,none⟩=some (vI (i:Int))/\w5.cell? ⟨w.heap.size+1,4,none⟩=some (vI 0):=⟨(qF 0 _ rfl).1,(q4 0 _ rfl).1,(q6 3 _ rfl).1,(q6 4 _ rfl).1⟩;refine⟨sA,?_⟩;have ol:=iC q7 hx.b hx.p v0 x0;clear oc y4 tN pD pE yF p1 p2 p3 p4;refine au (vI v0) rfl rfl (λw' hw'=>?_) ak ?_
 ·simp[go_sem]
 refine au (vI x0) rfl rfl (λw' hw'=>?_) ak ?_
 ·simp[go_sem]
 refine bj rfl rfl ?_;go_wp2_with fail
 refine ol.mono ?_;rintro en w6 ⟨rfl,k6⟩;clear ol;have sB:w6.cell? ⟨w.heap.size+1+1+1+1+1,0,none⟩=some (cL (w.heap.size+1+1))/\w6.cell? ⟨w.heap.size,0,none⟩=some (pV S.sp)/\w6.cell? ⟨w.heap.size+1,3,none⟩=some (vI (i:Int))/\w6.cell? ⟨w.heap.size+1,4,none⟩=some (vI 0):=⟨k6.cellAt sA.1 id,k6.cellAt sA.2.1 id,k6.cellAt sA.2.2.1 id,k6.cellAt sA.2.2.2 id⟩;refine⟨sB,?_⟩;generalize dy:x.fQ x0=x2 at *;obtain⟨v2,dK⟩:=ao ((if x0=0 then (v0:Int) else 0):Int);rw[dK];replace dy:=hid dy;replace dK:=hid dK;refine au (bQ x2) rfl rfl (λw' hw'=>?_) ak ?_
 ·simp[go_sem]
 refine au (cS 2 x0 v2) rfl rfl (λw' hw'=>?_) ak ?_
 ·simp[go_sem]
 refine bj rfl rfl ?_;refine bC _ _ _ rfl (w.heap.size+1+1+1) (aX x2).toArray rfl rfl (q8.calm k6) rfl (by kernel_rfl) (eM x2) ?_;intro w7 p8 f7;refine⟨⟨f7.cellAt sB.1 (by show ¬(w.heap.size+1+1+1+1+1=_);omega),f7.cellAt sB.2.1 (by show ¬(w.heap.size=_);omega),f7.cellAt sB.2.2.1 (by show ¬(w.heap.size+1=_);omega),f7.cellAt sB.2.2.2 (by show ¬(w.heap.size+1=_);omega)⟩,?_⟩;have Mt:=(q9.calm k6).fr f7 (by omega);refine bj rfl rfl ?_;refine bC _ _ _ rfl (w.heap.size+1+1+1+1) #[vI 2,vI x0,vI v2] rfl rfl Mt rfl (by kernel_rfl) (by simp[Value.oneCell']) ?_;intro w8 p9 f8;have sC:=f7.cellAt sB.1 (by show ¬(w.heap.size+1+1+1+1+1=_);omega);refine⟨⟨f8.cellAt sC (by show ¬(w.heap.size+1+1+1+1+1=_);omega),f8.cellAt (f7.cellAt sB.2.1 (by show ¬(w.heap.size=_);omega)) (by show ¬(w.heap.size=_);omega),f8.cellAt (f7.cellAt sB.2.2.1 (by show ¬(w.heap.size+1=_);omega)) (by show ¬(w.heap.size+1=_);omega),f8.cellAt (f7.cellAt sB.2.2.2 (by show ¬(w.heap.size+1=_);omega)) (by show ¬(w.heap.size+1=_);omega)⟩,?_⟩;have V9:=p8.fr f8 (by omega);refine eW ?_;have hF:Fr (λb=>w.heap.size<=b/\b<W'.drew.heap.size) w5 w8:=((Calm.any k6:Fr (λb=>w.heap.size<=b/\b<W'.drew.heap.size) _ _).trans (f7.mono (λb _ e=>by have:=dO 3 (by omega);omega))).trans (f8.mono (λb _ e=>by have:=dO 4 (by omega);omega));have hP:oP w τ s q S t ⟨6,a,b,(i:Int),0⟩ x (.returned (.tuple #[bQ x2,cS 2 x0 v2])) w8:=⟨x2,x0,v2,rfl,jb,⟨x,hx.r,hx.rp,rfl,rfl,rfl,rfl,.inl ⟨dy.out.symm,by simp⟩⟩,(gD hD tk fr V0 hF).mono (Nat.le_succ _) (aD _) (λS' hR=>.inl ⟨by simp,hR⟩)⟩;replace hP:=hid hP;clear hF sA sB sC p8 Mt;go_wp2;exact bodyPost_ret (v:=.tuple #[bQ x2,cS 2 x0 v2]) (cC (i:=8) (j:=9) rfl rfl rfl V9 p9) rfl hP.out
theorem Nd(h:St w τ s q S)(hs:s<100000)(hq:q<=100000){x:bP}(hx:yV x)(t:Int)(ht:bX t){a b:Nat}(lT:a<6)(kG:b<6){i:Nat}(hi:i<=7){n:Int}(hn:bX n) :
 aJ prog 45 #[pV S.sp,vI t,fX ⟨7,a,b,(i:Int),n⟩,bQ x] w (oP w τ s q S t ⟨7,a,b,(i:Int),n⟩ x):=by
 obtain⟨τ0,hf,tk,fr⟩:=h.fresh;have cM:=cF;have iQ:=dP;obtain⟨W,eT,hW⟩:=ey w S ⟨7,a,b,(i:Int),n⟩ x;simp only[] at eT hW;have qQ:=(hW.o6 1 _ rfl).1;have qR:=(hW.o6 2 _ rfl).1;have qU:=(hW.o6 0 _ rfl).1;have ly:=(hW.o7 (2+a) _ (cG lT)).1;have lz:=(hW.o7 (2+b) _ (cG kG)).1;have a0:(0:Int)<=a:=by omega
 have a1:(a:Int)<6:=by omega
 have b0:(0:Int)<=b:=by omega
 have b1:(b:Int)<6:=by omega
 simp only[rg,cL,aS] at eT ly lz;simp only[fX,bQ,rg];go_in;go_wp2_with fail
 go_quiet (fail)
 clear eT cM iQ qQ qR ly lz;have hV:tR w (W.drewN nq) S ⟨7,a,b,(i:Int),n⟩ x:=hW.calm (ah.drewN nq) rfl;clear hW qU;generalize W.drewN nq=W' at *;have y4:=(hV.o4 0 _ rfl).1;have tN:=(hV.o6 0 _ rfl).1;have pD:=(hV.o6 3 _ rfl).1;have pE:=(hV.o6 4 _ rfl).1;have yF:=(hV.oF 0 _ rfl).1;have aM:∀j,j<=5->w.heap.size+j<W'.heap.size:=λj hj=>by rw[hV.z];omega
 have ky:=hx.at b;have kx:=hx.at a;rw[aS] at kx ky;obtain⟨pb,cj⟩:=ao (x.R[b]?.getD 0);obtain⟨pa,cB⟩:=ao (x.R[a]?.getD 0);rw[cj] at ky;rw[cB] at kx;rw[cj,cB];have kd:Calm W' W'.drew:=ah.drew;have hD:tR w W'.drew S ⟨7,a,b,(i:Int),n⟩ x:=hV.calm kd rfl;have dO:∀j,j<=5->w.heap.size+j<W'.drew.heap.size:=aM;have oc:=NV (hf.calm (hV.c.trans kd)) hq t ht kx (k:=(i:Int)) ⟨by omega,by omega⟩ (b:=n) hn;replace cj:=hid cj;replace cB:=hid cB;go_wp2_with fail
 refine bW [(true,0),(true,1),(true,2),(true,3),(true,4),(true,5),(true,6),(true,7),(false,8),(false,9),(true,10),(true,11),(false,12),(false,13)] (λw'=>w'.cell? ⟨w.heap.size+1+1+1+1+1,0,none⟩=some (cL (w.heap.size+1+1))/\w'.cell? ⟨w.heap.size,0,none⟩=some (pV S.sp)/\w'.cell? ⟨w.heap.size+1,3,none⟩=some (vI (i:Int))/\w'.cell? ⟨w.heap.size+1,4,none⟩=some (vI n)) (by kernel_rfl) (by kernel_rfl) ⟨yF,y4,pD,pE⟩ ?_;refine au (cL (w.heap.size+1+1)) rfl rfl (λw' hw'=>?_) ak ?_
 ·have e1:=hw'.1;simp[go_sem,e1]
 refine au (pV S.sp) rfl rfl (λw' hw'=>?_) ak ?_
 ·have e1:=hw'.2.1;simp[go_sem,e1]
 refine au (vI t) rfl rfl (λw' hw'=>?_) ak ?_
 ·simp[go_sem]
 refine au (vI (pa:Int)) rfl rfl (λw' hw'=>?_) ak ?_
 ·simp[go_sem]
 refine au (.pointer (some ⟨w.heap.size+1,3,none⟩)) rfl rfl (λw' hw'=>?_) ak ?_
 ·simp[go_sem]
 refine au (vI (i:Int)) rfl rfl (λw' hw'=>?_) ak ?_
 ·have e1:=hw'.2.2.1;simp[go_sem,e1]
 refine au (.pointer (some ⟨w.heap.size+1,4,none⟩)) rfl rfl (λw' hw'=>?_) ak ?_
 ·simp[go_sem]
 refine au (vI n) rfl rfl (λw' hw'=>?_) ak ?_
 ·have e1:=hw'.2.2.2;simp[go_sem,e1]
 refine bj rfl rfl ?_;go_wp2_with fail
 refine oc.mono ?_;rintro en w5 ⟨x0,rfl,jb,ft,n5⟩;have V0:=n5;obtain⟨dW,S5,p1,p2,p3,p4⟩:=n5;have tg:∀j,j<=5->500<=τ0 (w.heap.size+j):=λj hj=>by rw[fr _ (by omega)];omega
 have q7:=p2.bH hD.o7 (tg 2 (by omega));have q6:=p2.bH hD.o6 (tg 1 (by omega));have qF:=p2.bH hD.oF (tg 5 (by omega));have q4:=p2.bH hD.o4 (tg 0 (by omega));have q8:=p2.bH hD.o8 (tg 3 (by omega));have q9:=p2.bH hD.o9 (tg 4 (by omega));have sA:w5.cell? ⟨w.heap.size+1+1+1+1+1,0,none⟩=some (cL (w.heap.size+1+1))/\w5.cell? ⟨w.heap.size,0,none⟩=some (pV S.sp)/\w5.cell? ⟨w.heap.size+1,3,none⟩=some (vI (i:Int))/\w5.cell? ⟨w.heap.size+1,4,none⟩=some (vI n):=⟨(qF 0 _ rfl).1,(q4 0 _ rfl).1,(q6 3 _ rfl).1,(q6 4 _ rfl).1⟩;refine⟨sA,?_⟩;have ol:=iC q7 hx.b hx.p 0 x0;clear oc y4 tN pD pE yF p1 p2 p3 p4;refine bj rfl rfl ?_;go_wp2_with fail
 refine ol.mono ?_;rintro en w6 ⟨rfl,k6⟩;clear ol;have sB:w6.cell? ⟨w.heap.size+1+1+1+1+1,0,none⟩=some (cL (w.heap.size+1+1))/\w6.cell? ⟨w.heap.size,0,none⟩=some (pV S.sp)/\w6.cell? ⟨w.heap.size+1,3,none⟩=some (vI (i:Int))/\w6.cell? ⟨w.heap.size+1,4,none⟩=some (vI n):=⟨k6.cellAt sA.1 id,k6.cellAt sA.2.1 id,k6.cellAt sA.2.2.1 id,k6.cellAt sA.2.2.2 id⟩;refine⟨sB,?_⟩;generalize dy:x.fQ x0=x2 at *;obtain⟨v2,dK⟩:=ao ((if x0=0 then (0:Int) else 0):Int);rw[dK];replace dy:=hid dy;replace dK:=hid dK;refine au (bQ x2) rfl rfl (λw' hw'=>?_) ak ?_
 ·simp[go_sem]
 refine au (cS 2 x0 v2) rfl rfl (λw' hw'=>?_) ak ?_
 ·simp[go_sem]
 refine bj rfl rfl ?_;refine bC _ _ _ rfl (w.heap.size+1+1+1) (aX x2).toArray rfl rfl (q8.calm k6) rfl (by kernel_rfl) (eM x2) ?_;intro w7 p8 f7;refine⟨⟨f7.cellAt sB.1 (by show ¬(w.heap.size+1+1+1+1+1=_);omega),f7.cellAt sB.2.1 (by show ¬(w.heap.size=_);omega),f7.cellAt sB.2.2.1 (by show ¬(w.heap.size+1=_);omega),f7.cellAt sB.2.2.2 (by show ¬(w.heap.size+1=_);omega)⟩,?_⟩;have Mt:=(q9.calm k6).fr f7 (by omega);refine bj rfl rfl ?_;refine bC _ _ _ rfl (w.heap.size+1+1+1+1) #[vI 2,vI x0,vI v2] rfl rfl Mt rfl (by kernel_rfl) (by simp[Value.oneCell']) ?_;intro w8 p9 f8;have sC:=f7.cellAt sB.1 (by show ¬(w.heap.size+1+1+1+1+1=_);omega);refine⟨⟨f8.cellAt sC (by show ¬(w.heap.size+1+1+1+1+1=_);omega),f8.cellAt (f7.cellAt sB.2.1 (by show ¬(w.heap.size=_);omega)) (by show ¬(w.heap.size=_);omega),f8.cellAt (f7.cellAt sB.2.2.1 (by show ¬(w.heap.size+1=_);omega)) (by show ¬(w.heap.size+1=_);omega),f8.cellAt (f7.cellAt sB.2.2.2 (by show ¬(w.heap.size+1=_);omega)) (by show ¬(w.heap.size+1=_);omega)⟩,?_⟩;have V9:=p8.fr f8 (by omega);refine eW ?_;have hF:Fr (λb=>w.heap.size<=b/\b<W'.drew.heap.size) w5 w8:=((Calm.any k6:Fr (λb=>w.heap.size<=b/\b<W'.drew.heap.size) _ _).trans (f7.mono (λb _ e=>by have:=dO 3 (by omega);omega))).trans (f8.mono (λb _ e=>by have:=dO 4 (by omega);omega));have hP:oP w τ s q S t ⟨7,a,b,(i:Int),n⟩ x (.returned (.tuple #[bQ x2,cS 2 x0 v2])) w8:=⟨x2,x0,v2,rfl,jb,⟨x,hx.r,hx.rp,rfl,rfl,rfl,rfl,.inl ⟨dy.out.symm,by simp⟩⟩,(gD hD tk fr V0 hF).mono (Nat.le_succ _) (aD _) (λS' hR=>.inl ⟨by simp,hR⟩)⟩;replace hP:=hid hP;clear hF sA sB sC p8 Mt;go_wp2;exact bodyPost_ret (v:=.tuple #[bQ x2,cS 2 x0 v2]) (cC (i:=8) (j:=9) rfl rfl rfl V9 p9) rfl hP.out
theorem Nf(h:St w τ s q S)(hs:s<100000)(hq:q<=100000){x:bP}(hx:yV x)(t:Int)(ht:bX t){a b:Nat}(lT:a<6)(kG:b<6) :
 aJ prog 45 #[pV S.sp,vI t,fX ⟨8,a,b,0,0⟩,bQ x] w (oP w τ s q S t ⟨8,a,b,0,0⟩ x):=by
 obtain⟨τ0,hf,tk,fr⟩:=h.fresh;have cM:=cF;have iQ:=dP;obtain⟨W,eT,hW⟩:=ey w S ⟨8,a,b,0,0⟩ x;simp only[] at eT hW;have qQ:=(hW.o6 1 _ rfl).1;have qR:=(hW.o6 2 _ rfl).1;have qU:=(hW.o6 0 _ rfl).1;have ly:=(hW.o7 (2+a) _ (cG lT)).1;have lz:=(hW.o7 (2+b) _ (cG kG)).1;have a0:(0:Int)<=a:=by omega
 have a1:(a:Int)<6:=by omega
 have b0:(0:Int)<=b:=by omega
 have b1:(b:Int)<6:=by omega
 simp only[rg,cL,aS] at eT ly lz;simp only[fX,bQ,rg];go_in;go_wp2_with fail
 go_quiet (fail)
 clear eT cM iQ qQ qR ly lz;have hV:tR w (W.drewN nq) S ⟨8,a,b,0,0⟩ x:=hW.calm (ah.drewN nq) rfl;clear hW qU;generalize W.drewN nq=W' at *;have y4:=(hV.o4 0 _ rfl).1;have tN:=(hV.o6 0 _ rfl).1;have pD:=(hV.o6 3 _ rfl).1;have pE:=(hV.o6 4 _ rfl).1;have yF:=(hV.oF 0 _ rfl).1;have aM:∀j,j<=5->w.heap.size+j<W'.heap.size:=λj hj=>by rw[hV.z];omega
 have ky:=hx.at b;have kx:=hx.at a;rw[aS] at kx ky;obtain⟨pb,cj⟩:=ao (x.R[b]?.getD 0);obtain⟨pa,cB⟩:=ao (x.R[a]?.getD 0);rw[cj] at ky;rw[cB] at kx;rw[cj,cB];have kd:Calm W' W'.drew:=ah.drew;have hD:tR w W'.drew S ⟨8,a,b,0,0⟩ x:=hV.calm kd rfl;have dO:∀j,j<=5->w.heap.size+j<W'.drew.heap.size:=aM;have oc:=Pd (hf.calm (hV.c.trans kd)) hq t ht kx;replace cj:=hid cj;replace cB:=hid cB;go_wp2_with fail
 refine bW [(true,0),(true,1),(true,2),(true,3),(false,4),(false,5),(true,6),(true,7),(false,8),(false,9)] (λw'=>w'.cell? ⟨w.heap.size+1+1+1+1+1,0,none⟩=some (cL (w.heap.size+1+1))/\w'.cell? ⟨w.heap.size,0,none⟩=some (pV S.sp)/\w'.cell? ⟨w.heap.size+1,3,none⟩=some (vI 0)/\w'.cell? ⟨w.heap.size+1,4,none⟩=some (vI 0)) (by kernel_rfl) (by kernel_rfl) ⟨yF,y4,pD,pE⟩ ?_;refine au (cL (w.heap.size+1+1)) rfl rfl (λw' hw'=>?_) ak ?_
 ·have e1:=hw'.1;simp[go_sem,e1]
 refine au (pV S.sp) rfl rfl (λw' hw'=>?_) ak ?_
 ·have e1:=hw'.2.1;simp[go_sem,e1]
 refine au (vI t) rfl rfl (λw' hw'=>?_) ak ?_
 ·simp[go_sem]
 refine au (vI (pa:Int)) rfl rfl (λw' hw'=>?_) ak ?_
 ·simp[go_sem]
 refine bj rfl rfl ?_;go_wp2_with fail
 refine oc.mono ?_;rintro en w5 ⟨x0,rfl,jb,ft,n5⟩;have V0:=n5;obtain⟨dW,S5,p1,p2,p3,p4⟩:=n5;have tg:∀j,j<=5->500<=τ0 (w.heap.size+j):=λj hj=>by rw[fr _ (by omega)];omega
 have q7:=p2.bH hD.o7 (tg 2 (by omega));have q6:=p2.bH hD.o6 (tg 1 (by omega));have qF:=p2.bH hD.oF (tg 5 (by omega));have q4:=p2.bH hD.o4 (tg 0 (by omega));have q8:=p2.bH hD.o8 (tg 3 (by omega));have q9:=p2.bH hD.o9 (tg 4 (by omega));have sA:w5.cell? ⟨w.heap.size+1+1+1+1+1,0,none⟩=some (cL (w.heap.size+1+1))/\w5.cell? ⟨w.heap.size,0,none⟩=some (pV S.sp)/\w5.cell? ⟨w.heap.size+1,3,none⟩=some (vI 0)/\w5.cell? ⟨w.heap.size+1,4,none⟩=some (vI 0):=⟨(qF 0 _ rfl).1,(q4 0 _ rfl).1,(q6 3 _ rfl).1,(q6 4 _ rfl).1⟩;refine⟨sA,?_⟩;have ol:=iC q7 hx.b hx.p 0 x0;clear oc y4 tN pD pE yF p1 p2 p3 p4;refine bj rfl rfl ?_;go_wp2_with fail
 refine ol.mono ?_;rintro en w6 ⟨rfl,k6⟩;clear ol;have sB:w6.cell? ⟨w.heap.size+1+1+1+1+1,0,none⟩=some (cL (w.heap.size+1+1))/\w6.cell? ⟨w.heap.size,0,none⟩=some (pV S.sp)/\w6.cell? ⟨w.heap.size+1,3,none⟩=some (vI 0)/\w6.cell? ⟨w.heap.size+1,4,none⟩=some (vI 0):=⟨k6.cellAt sA.1 id,k6.cellAt sA.2.1 id,k6.cellAt sA.2.2.1 id,k6.cellAt sA.2.2.2 id⟩;refine⟨sB,?_⟩;generalize dy:x.fQ x0=x2 at *;obtain⟨v2,dK⟩:=ao ((if x0=0 then (0:Int) else 0):Int);rw[dK];replace dy:=hid dy;replace dK:=hid dK;refine au (bQ x2) rfl rfl (λw' hw'=>?_) ak ?_
 ·simp[go_sem]
 refine au (cS 2 x0 v2) rfl rfl (λw' hw'=>?_) ak ?_
 ·simp[go_sem]
 refine bj rfl rfl ?_;refine bC _ _ _ rfl (w.heap.size+1+1+1) (aX x2).toArray rfl rfl (q8.calm k6) rfl (by kernel_rfl) (eM x2) ?_;intro w7 p8 f7;refine⟨⟨f7.cellAt sB.1 (by show ¬(w.heap.size+1+1+1+1+1=_);omega),f7.cellAt sB.2.1 (by show ¬(w.heap.size=_);omega),f7.cellAt sB.2.2.1 (by show ¬(w.heap.size+1=_);omega),f7.cellAt sB.2.2.2 (by show ¬(w.heap.size+1=_);omega)⟩,?_⟩;have Mt:=(q9.calm k6).fr f7 (by omega);refine bj rfl rfl ?_;refine bC _ _ _ rfl (w.heap.size+1+1+1+1) #[vI 2,vI x0,vI v2] rfl rfl Mt rfl (by kernel_rfl) (by simp[Value.oneCell']) ?_;intro w8 p9 f8;have sC:=f7.cellAt sB.1 (by show ¬(w.heap.size+1+1+1+1+1=_);omega);refine⟨⟨f8.cellAt sC (by show ¬(w.heap.size+1+1+1+1+1=_);omega),f8.cellAt (f7.cellAt sB.2.1 (by show ¬(w.heap.size=_);omega)) (by show ¬(w.heap.size=_);omega),f8.cellAt (f7.cellAt sB.2.2.1 (by show ¬(w.heap.size+1=_);omega)) (by show ¬(w.heap.size+1=_);omega),f8.cellAt (f7.cellAt sB.2.2.2 (by show ¬(w.heap.size+1=_);omega)) (by show ¬(w.heap.size+1=_);omega)⟩,?_⟩;have V9:=p8.fr f8 (by omega);refine eW ?_;have hF:Fr (λb=>w.heap.size<=b/\b<W'.drew.heap.size) w5 w8:=((Calm.any k6:Fr (λb=>w.heap.size<=b/\b<W'.drew.heap.size) _ _).trans (f7.mono (λb _ e=>by have:=dO 3 (by omega);omega))).trans (f8.mono (λb _ e=>by have:=dO 4 (by omega);omega));have hP:oP w τ s q S t ⟨8,a,b,0,0⟩ x (.returned (.tuple #[bQ x2,cS 2 x0 v2])) w8:=⟨x2,x0,v2,rfl,jb,⟨x,hx.r,hx.rp,rfl,rfl,rfl,rfl,.inl ⟨dy.out.symm,by simp⟩⟩,(gD hD tk fr V0 hF).mono (Nat.le_succ _) (aD _) (λS' hR=>.inl ⟨by simp,hR⟩)⟩;replace hP:=hid hP;clear hF sA sB sC p8 Mt;go_wp2;exact bodyPost_ret (v:=.tuple #[bQ x2,cS 2 x0 v2]) (cC (i:=8) (j:=9) rfl rfl rfl V9 p9) rfl hP.out
end
