import Derived.Test.YtgijglafnlbdbaaGreatTmAR
set_option linter.all false
set_option maxHeartbeats 8000000
set_option maxRecDepth 8000
namespace Go.Proofs.YtgijglafnlbdbaaGreat
open RowKit Shelf Proofs.Tryz
open Go renaming World->aj,Value->aC,Calls->aL
section
variable {w:aj}{τ:Nat->Nat}{s:Nat}{S:aY}
theorem Lz(h:St w τ s S)(hs:s<100000){x:bT}(hx:xX x)(hg:wL S x){t:Nat}(ht:t<S.bB.length)(hl:(S.tx t).live=true){a b:Nat}(ku:a<6)(kF:b<6){i:Nat}(hi:i<=7) :
 aL prog 45 #[pV S.sp,vI (t:Int),e_ ⟨5,a,b,(i:Int),0⟩,bO x] w (px w τ s S t ⟨5,a,b,(i:Int),0⟩ x):=by
 obtain⟨τ0,hf,tk,fr⟩:=h.fresh;have cy:=bZ;have gT:=dm;obtain⟨W,fK,hW⟩:=dL w S ⟨5,a,b,(i:Int),0⟩ x;simp only[] at fK hW;have qI:=(hW.o6 1 _ rfl).1;have qJ:=(hW.o6 2 _ rfl).1;have qK:=(hW.o6 0 _ rfl).1;have jS:=(hW.o7 (2+a) _ (b_ ku)).1;have jT:=(hW.o7 (2+b) _ (b_ kF)).1;have a0:(0:Int)<=a:=by omega
 have a1:(a:Int)<6:=by omega
 have b0:(0:Int)<=b:=by omega
 have b1:(b:Int)<6:=by omega
 simp only[rg,cF,aS] at fK jS jT;simp only[e_,bO,rg];go_in;go_wp2_with fail
 go_quiet (fail)
 clear fK cy gT qI qJ jS jT;have hV:tJ w (W.drewN nq) S ⟨5,a,b,(i:Int),0⟩ x:=hW.calm (aq.drewN nq) rfl;clear hW qK;generalize W.drewN nq=W' at *;have y4:=(hV.o4 0 _ rfl).1;have tI:=(hV.o6 0 _ rfl).1;have po:=(hV.o6 3 _ rfl).1;have pq:=(hV.o6 4 _ rfl).1;have yF:=(hV.oF 0 _ rfl).1;have aZ:∀j,j<=5->w.heap.size+j<W'.heap.size:=λj hj=>by rw[hV.z];omega
 have iV:=hx.at b;have jc:=hx.at a;rw[aS] at jc iV;obtain⟨pb,bJ⟩:=au (x.R[b]?.getD 0);obtain⟨pa,bR⟩:=au (x.R[a]?.getD 0);rw[bJ] at iV;rw[bR] at jc;rw[bJ,bR];have kd:Calm W' W'.drew:=aq.drew;have hD:tJ w W'.drew S ⟨5,a,b,(i:Int),0⟩ x:=hV.calm kd rfl;have gJ:∀j,j<=5->w.heap.size+j<W'.drew.heap.size:=aZ;have oc:=Tv (hf.calm (hV.c.trans kd)) ht hl jc (k:=(i:Int)) ⟨by omega,by omega⟩ (by omega) iV (dd:=⟨5,a,b,(i:Int),0⟩) rfl rfl;have lR:Hid (x.R.getD (b:Int).toNat 0=pb):=by show x.R.getD (b:Int).toNat 0=pb;rw[aS,Int.toNat_natCast];exact bJ
 have sV:Hid (x.R.getD (a:Int).toNat 0=pa):=by show x.R.getD (a:Int).toNat 0=pa;rw[aS,Int.toNat_natCast];exact bR
 replace bJ:=af bJ;replace bR:=af bR;go_wp2_with fail
 refine bK [(true,0),(true,1),(true,2),(true,3),(true,4),(true,5),(true,6),(false,7),(false,8),(true,9),(true,10),(false,11),(false,12)] (λw'=>w'.cell? ⟨w.heap.size+1+1+1+1+1,0,none⟩=some (cF (w.heap.size+1+1))/\w'.cell? ⟨w.heap.size,0,none⟩=some (pV S.sp)/\w'.cell? ⟨w.heap.size+1,3,none⟩=some (vI (i:Int))/\w'.cell? ⟨w.heap.size+1,4,none⟩=some (vI 0)) (by kernel_rfl) (by kernel_rfl) ⟨yF,y4,po,pq⟩ ?_;refine ao (cF (w.heap.size+1+1)) rfl rfl (λw' hw'=>?_) ai ?_
 ·have e1:=hw'.1;simp[go_sem,e1]
 refine ao (pV S.sp) rfl rfl (λw' hw'=>?_) ai ?_
 ·have e1:=hw'.2.1;simp[go_sem,e1]
 refine ao (vI (t:Int)) rfl rfl (λw' hw'=>?_) ai ?_
 ·simp[go_sem]
 refine ao (vI (pa:Int)) rfl rfl (λw' hw'=>?_) ai ?_
 ·simp[go_sem]
 refine ao (.pointer (some ⟨w.heap.size+1,3,none⟩)) rfl rfl (λw' hw'=>?_) ai ?_
 ·simp[go_sem]
 refine ao (vI (i:Int)) rfl rfl (λw' hw'=>?_) ai ?_
 ·have e1:=hw'.2.2.1;simp[go_sem,e1]
 refine ao (vI (pb:Int)) rfl rfl (λw' hw'=>?_) ai ?_
 ·simp[go_sem]
 refine bg rfl rfl ?_;go_wp2_with fail
 refine oc.mono ?_;rintro en w5 ⟨x0,rfl,gK,n5⟩;have Tf:=n5;obtain⟨fB,S5,p1,p2,p3,p4⟩:=n5;have tg:∀j,j<=5->500<=τ0 (w.heap.size+j):=λj hj=>by rw[fr _ (by omega)];omega
 have q7:=p2.bw hD.o7 (tg 2 (by omega));have q6:=p2.bw hD.o6 (tg 1 (by omega));have qF:=p2.bw hD.oF (tg 5 (by omega));have q4:=p2.bw hD.o4 (tg 0 (by omega));have q8:=p2.bw hD.o8 (tg 3 (by omega));have q9:=p2.bw hD.o9 (tg 4 (by omega));have sA:w5.cell? ⟨w.heap.size+1+1+1+1+1,0,none⟩=some (cF (w.heap.size+1+1))/\w5.cell? ⟨w.heap.size,0,none⟩=some (pV S.sp)/\w5.cell? ⟨w.heap.size+1,3,none⟩=some (vI (i:Int))/\w5.cell? ⟨w.heap.size+1,4,none⟩=some (vI 0):=⟨(qF 0 _ rfl).1,(q4 0 _ rfl).1,(q6 3 _ rfl).1,(q6 4 _ rfl).1⟩;refine⟨sA,?_⟩;have ol:=ij q7 hx.b hx.p 0 x0;clear oc y4 tI po pq yF p1 p2 p3 p4;refine bg rfl rfl ?_;go_wp2_with fail
 refine ol.mono ?_;rintro en w6 ⟨rfl,k6⟩;clear ol;have sB:w6.cell? ⟨w.heap.size+1+1+1+1+1,0,none⟩=some (cF (w.heap.size+1+1))/\w6.cell? ⟨w.heap.size,0,none⟩=some (pV S.sp)/\w6.cell? ⟨w.heap.size+1,3,none⟩=some (vI (i:Int))/\w6.cell? ⟨w.heap.size+1,4,none⟩=some (vI 0):=⟨k6.cellAt sA.1 id,k6.cellAt sA.2.1 id,k6.cellAt sA.2.2.1 id,k6.cellAt sA.2.2.2 id⟩;refine⟨sB,?_⟩;generalize dg:x.cV x0=x2 at *;obtain⟨v2,eC⟩:=au ((if x0=0 then (0:Int) else 0):Int);rw[eC];replace dg:=af dg;replace eC:=af eC;refine ao (bO x2) rfl rfl (λw' hw'=>?_) ai ?_
 ·simp[go_sem]
 refine ao (cO 2 x0 v2) rfl rfl (λw' hw'=>?_) ai ?_
 ·simp[go_sem]
 refine bg rfl rfl ?_;refine aN _ _ _ rfl (w.heap.size+1+1+1) (bq x2).toArray rfl rfl (q8.calm k6) rfl (by kernel_rfl) (eO x2) ?_;intro w7 p8 f7;refine⟨⟨f7.cellAt sB.1 (by show ¬(w.heap.size+1+1+1+1+1=_);omega),f7.cellAt sB.2.1 (by show ¬(w.heap.size=_);omega),f7.cellAt sB.2.2.1 (by show ¬(w.heap.size+1=_);omega),f7.cellAt sB.2.2.2 (by show ¬(w.heap.size+1=_);omega)⟩,?_⟩;have KW:=(q9.calm k6).fr f7 (by omega);refine bg rfl rfl ?_;refine aN _ _ _ rfl (w.heap.size+1+1+1+1) #[vI 2,vI x0,vI v2] rfl rfl KW rfl (by kernel_rfl) (by simp[Value.oneCell']) ?_;intro w8 p9 f8;have sC:=f7.cellAt sB.1 (by show ¬(w.heap.size+1+1+1+1+1=_);omega);refine⟨⟨f8.cellAt sC (by show ¬(w.heap.size+1+1+1+1+1=_);omega),f8.cellAt (f7.cellAt sB.2.1 (by show ¬(w.heap.size=_);omega)) (by show ¬(w.heap.size=_);omega),f8.cellAt (f7.cellAt sB.2.2.1 (by show ¬(w.heap.size+1=_);omega)) (by show ¬(w.heap.size+1=_);omega),f8.cellAt (f7.cellAt sB.2.2.2 (by show ¬(w.heap.size+1=_);omega)) (by show ¬(w.heap.size+1=_);omega)⟩,?_⟩;have Tq:=p8.fr f8 (by omega);refine fp ?_;have hF:Fr (λb=>w.heap.size<=b/\b<W'.drew.heap.size) w5 w8:=((Calm.any k6:Fr (λb=>w.heap.size<=b/\b<W'.drew.heap.size) _ _).trans (f7.mono (λb _ e=>by have:=gJ 3 (by omega);omega))).trans (f8.mono (λb _ e=>by have:=gJ 4 (by omega);omega));have hP:px w τ s S t ⟨5,a,b,(i:Int),0⟩ x (.returned (.tuple #[bO x2,cO 2 x0 v2])) w8:=⟨x2,x0,v2,rfl,gK,⟨x,hx.r,hx.rp,rfl,rfl,rfl,rfl,.inl ⟨dg.out.symm,by simp⟩⟩,(fY hD tk fr Tf hF).mono (Nat.le_succ _) (λS' hR=>by rw[<-dg.out,<-eC.out];exact lC.num hR (λhf hr=>jK.dn hl (.inl rfl) (hg.at _) (hg.at _) (by show _/\jK _ (x.R.getD (b:Int).toNat 0) t (x.R.getD (a:Int).toNat 0) _ _ _;rw[sV.out,lR.out];exact hr) hf))⟩;replace hP:=af hP;clear hF sA sB sC p8 KW;go_wp2;exact bodyPost_ret (v:=.tuple #[bO x2,cO 2 x0 v2]) (cd (i:=8) (j:=9) rfl rfl rfl Tq p9) rfl hP.out
theorem LA(h:St w τ s S)(hs:s<100000){x:bT}(hx:xX x)(hg:wL S x){t:Nat}(ht:t<S.bB.length)(hl:(S.tx t).live=true){a b:Nat}(ku:a<6)(kF:b<6){i:Nat}(hi:i<=7) :
 aL prog 45 #[pV S.sp,vI (t:Int),e_ ⟨6,a,b,(i:Int),0⟩,bO x] w (px w τ s S t ⟨6,a,b,(i:Int),0⟩ x):=by
 obtain⟨τ0,hf,tk,fr⟩:=h.fresh;have cy:=bZ;have gT:=dm;obtain⟨W,fK,hW⟩:=dL w S ⟨6,a,b,(i:Int),0⟩ x;simp only[] at fK hW;have qI:=(hW.o6 1 _ rfl).1;have qJ:=(hW.o6 2 _ rfl).1;have qK:=(hW.o6 0 _ rfl).1;have jS:=(hW.o7 (2+a) _ (b_ ku)).1;have jT:=(hW.o7 (2+b) _ (b_ kF)).1;have a0:(0:Int)<=a:=by omega
 have a1:(a:Int)<6:=by omega
 have b0:(0:Int)<=b:=by omega
 have b1:(b:Int)<6:=by omega
 simp only[rg,cF,aS] at fK jS jT;simp only[e_,bO,rg];go_in;go_wp2_with fail
 go_quiet (fail)
 clear fK cy gT qI qJ jS jT;have hV:tJ w (W.drewN nq) S ⟨6,a,b,(i:Int),0⟩ x:=hW.calm (aq.drewN nq) rfl;clear hW qK;generalize W.drewN nq=W' at *;have y4:=(hV.o4 0 _ rfl).1;have tI:=(hV.o6 0 _ rfl).1;have po:=(hV.o6 3 _ rfl).1;have pq:=(hV.o6 4 _ rfl).1;have yF:=(hV.oF 0 _ rfl).1;have aZ:∀j,j<=5->w.heap.size+j<W'.heap.size:=λj hj=>by rw[hV.z];omega
 have iV:=hx.at b;have jc:=hx.at a;rw[aS] at jc iV;obtain⟨pb,bJ⟩:=au (x.R[b]?.getD 0);obtain⟨pa,bR⟩:=au (x.R[a]?.getD 0);rw[bJ] at iV;rw[bR] at jc;rw[bJ,bR];have kd:Calm W' W'.drew:=aq.drew;have hD:tJ w W'.drew S ⟨6,a,b,(i:Int),0⟩ x:=hV.calm kd rfl;have gJ:∀j,j<=5->w.heap.size+j<W'.drew.heap.size:=aZ;have oc:=O1 (hf.calm (hV.c.trans kd)) ht hl jc (k:=(i:Int)) ⟨by omega,by omega⟩ (by omega);have lR:Hid (x.R.getD (b:Int).toNat 0=pb):=by show x.R.getD (b:Int).toNat 0=pb;rw[aS,Int.toNat_natCast];exact bJ
 have sV:Hid (x.R.getD (a:Int).toNat 0=pa):=by show x.R.getD (a:Int).toNat 0=pa;rw[aS,Int.toNat_natCast];exact bR
 replace bJ:=af bJ;replace bR:=af bR;go_wp2_with fail
 refine bK [(true,0),(true,1),(true,2),(true,3),(true,4),(true,5),(false,6),(true,7),(true,8),(false,9),(true,10),(true,11),(false,12),(false,13)] (λw'=>w'.cell? ⟨w.heap.size+1+1+1+1+1,0,none⟩=some (cF (w.heap.size+1+1))/\w'.cell? ⟨w.heap.size,0,none⟩=some (pV S.sp)/\w'.cell? ⟨w.heap.size+1,3,none⟩=some (vI (i:Int))/\w'.cell? ⟨w.heap.size+1,4,none⟩=some (vI 0)) (by kernel_rfl) (by kernel_rfl) ⟨yF,y4,po,pq⟩ ?_;refine ao (cF (w.heap.size+1+1)) rfl rfl (λw' hw'=>?_) ai ?_
 ·have e1:=hw'.1;simp[go_sem,e1]
 refine ao (pV S.sp) rfl rfl (λw' hw'=>?_) ai ?_
 ·have e1:=hw'.2.1;simp[go_sem,e1]
 refine ao (vI (t:Int)) rfl rfl (λw' hw'=>?_) ai ?_
 ·simp[go_sem]
 refine ao (vI (pa:Int)) rfl rfl (λw' hw'=>?_) ai ?_
 ·simp[go_sem]
 refine ao (.pointer (some ⟨w.heap.size+1,3,none⟩)) rfl rfl (λw' hw'=>?_) ai ?_
 ·simp[go_sem]
 refine ao (vI (i:Int)) rfl rfl (λw' hw'=>?_) ai ?_
 ·have e1:=hw'.2.2.1;simp[go_sem,e1]
 refine bg rfl rfl ?_;go_wp2_with fail
 refine oc.mono ?_;rintro en w5 ⟨v0,x0,rfl,tj,gK,n5⟩;have Tf:=n5;obtain⟨fB,S5,p1,p2,p3,p4⟩:=n5;have tg:∀j,j<=5->500<=τ0 (w.heap.size+j):=λj hj=>by rw[fr _ (by omega)];omega
 have q7:=p2.bw hD.o7 (tg 2 (by omega));have q6:=p2.bw hD.o6 (tg 1 (by omega));have qF:=p2.bw hD.oF (tg 5 (by omega));have q4:=p2.bw hD.o4 (tg 0 (by omega));have q8:=p2.bw hD.o8 (tg 3 (by omega));have q9:=p2.bw hD.o9 (tg 4 (by omega));have sA:w5.cell? ⟨w.heap.size+1+1+1+1+1,0,none⟩=some (cF (w.heap.size+1+1))/\w5.cell? ⟨w.heap.size,0,none⟩=some (pV S.sp)/\w5.cell? ⟨w.heap.size+1,3,none⟩=some (vI (i:Int))/\w5.cell? ⟨w.heap.size+1,4,none⟩=some (vI 0):=⟨(qF 0 _ rfl).1,(q4 0 _ rfl).1,(q6 3 _ rfl).1,(q6 4 _ rfl).1⟩;refine⟨sA,?_⟩;have ol:=ij q7 hx.b hx.p v0 x0;clear oc y4 tI po pq yF p1 p2 p3 p4;refine ao (vI v0) rfl rfl (λw' hw'=>?_) ai ?_
 ·simp[go_sem]
 refine ao (vI x0) rfl rfl (λw' hw'=>?_) ai ?_
 ·simp[go_sem]
 refine bg rfl rfl ?_;go_wp2_with fail
 refine ol.mono ?_;rintro en w6 ⟨rfl,k6⟩;clear ol;have sB:w6.cell? ⟨w.heap.size+1+1+1+1+1,0,none⟩=some (cF (w.heap.size+1+1))/\w6.cell? ⟨w.heap.size,0,none⟩=some (pV S.sp)/\w6.cell? ⟨w.heap.size+1,3,none⟩=some (vI (i:Int))/\w6.cell? ⟨w.heap.size+1,4,none⟩=some (vI 0):=⟨k6.cellAt sA.1 id,k6.cellAt sA.2.1 id,k6.cellAt sA.2.2.1 id,k6.cellAt sA.2.2.2 id⟩;refine⟨sB,?_⟩;generalize dg:x.cV x0=x2 at *;obtain⟨v2,eC⟩:=au ((if x0=0 then (v0:Int) else 0):Int);rw[eC];replace dg:=af dg;replace eC:=af eC;refine ao (bO x2) rfl rfl (λw' hw'=>?_) ai ?_
 ·simp[go_sem]
 refine ao (cO 2 x0 v2) rfl rfl (λw' hw'=>?_) ai ?_
 ·simp[go_sem]
 refine bg rfl rfl ?_;refine aN _ _ _ rfl (w.heap.size+1+1+1) (bq x2).toArray rfl rfl (q8.calm k6) rfl (by kernel_rfl) (eO x2) ?_;intro w7 p8 f7;refine⟨⟨f7.cellAt sB.1 (by show ¬(w.heap.size+1+1+1+1+1=_);omega),f7.cellAt sB.2.1 (by show ¬(w.heap.size=_);omega),f7.cellAt sB.2.2.1 (by show ¬(w.heap.size+1=_);omega),f7.cellAt sB.2.2.2 (by show ¬(w.heap.size+1=_);omega)⟩,?_⟩;have KW:=(q9.calm k6).fr f7 (by omega);refine bg rfl rfl ?_;refine aN _ _ _ rfl (w.heap.size+1+1+1+1) #[vI 2,vI x0,vI v2] rfl rfl KW rfl (by kernel_rfl) (by simp[Value.oneCell']) ?_;intro w8 p9 f8;have sC:=f7.cellAt sB.1 (by show ¬(w.heap.size+1+1+1+1+1=_);omega);refine⟨⟨f8.cellAt sC (by show ¬(w.heap.size+1+1+1+1+1=_);omega),f8.cellAt (f7.cellAt sB.2.1 (by show ¬(w.heap.size=_);omega)) (by show ¬(w.heap.size=_);omega),f8.cellAt (f7.cellAt sB.2.2.1 (by show ¬(w.heap.size+1=_);omega)) (by show ¬(w.heap.size+1=_);omega),f8.cellAt (f7.cellAt sB.2.2.2 (by show ¬(w.heap.size+1=_);omega)) (by show ¬(w.heap.size+1=_);omega)⟩,?_⟩;have Tq:=p8.fr f8 (by omega);refine fp ?_;have hF:Fr (λb=>w.heap.size<=b/\b<W'.drew.heap.size) w5 w8:=((Calm.any k6:Fr (λb=>w.heap.size<=b/\b<W'.drew.heap.size) _ _).trans (f7.mono (λb _ e=>by have:=gJ 3 (by omega);omega))).trans (f8.mono (λb _ e=>by have:=gJ 4 (by omega);omega));have hP:px w τ s S t ⟨6,a,b,(i:Int),0⟩ x (.returned (.tuple #[bO x2,cO 2 x0 v2])) w8:=⟨x2,x0,v2,rfl,gK,⟨x,hx.r,hx.rp,rfl,rfl,rfl,rfl,.inl ⟨dg.out.symm,by simp⟩⟩,(fY hD tk fr Tf hF).mono (Nat.le_succ _) (λS' hR=>by rw[<-dg.out,<-eC.out];exact lC.num hR (λhf hr=>iY.dn6 rfl (hg.at _) (by show iY 6 t (x.R.getD (a:Int).toNat 0) _ _ _ _ _ _;rw[sV.out];exact hr) hf))⟩;replace hP:=af hP;clear hF sA sB sC p8 KW;go_wp2;exact bodyPost_ret (v:=.tuple #[bO x2,cO 2 x0 v2]) (cd (i:=8) (j:=9) rfl rfl rfl Tq p9) rfl hP.out
theorem LC(h:St w τ s S)(hs:s<100000){x:bT}(hx:xX x)(hg:wL S x){t:Nat}(ht:t<S.bB.length)(hl:(S.tx t).live=true){a b:Nat}(ku:a<6)(kF:b<6){i:Nat}(hi:i<=7){n:Int}(hn:cL n) :
 aL prog 45 #[pV S.sp,vI (t:Int),e_ ⟨7,a,b,(i:Int),n⟩,bO x] w (px w τ s S t ⟨7,a,b,(i:Int),n⟩ x):=by
 obtain⟨τ0,hf,tk,fr⟩:=h.fresh;have cy:=bZ;have gT:=dm;obtain⟨W,fK,hW⟩:=dL w S ⟨7,a,b,(i:Int),n⟩ x;simp only[] at fK hW;have qI:=(hW.o6 1 _ rfl).1;have qJ:=(hW.o6 2 _ rfl).1;have qK:=(hW.o6 0 _ rfl).1;have jS:=(hW.o7 (2+a) _ (b_ ku)).1;have jT:=(hW.o7 (2+b) _ (b_ kF)).1;have a0:(0:Int)<=a:=by omega
 have a1:(a:Int)<6:=by omega
 have b0:(0:Int)<=b:=by omega
 have b1:(b:Int)<6:=by omega
 simp only[rg,cF,aS] at fK jS jT;simp only[e_,bO,rg];go_in;go_wp2_with fail
 go_quiet (fail)
 clear fK cy gT qI qJ jS jT;have hV:tJ w (W.drewN nq) S ⟨7,a,b,(i:Int),n⟩ x:=hW.calm (aq.drewN nq) rfl;clear hW qK;generalize W.drewN nq=W' at *;have y4:=(hV.o4 0 _ rfl).1;have tI:=(hV.o6 0 _ rfl).1;have po:=(hV.o6 3 _ rfl).1;have pq:=(hV.o6 4 _ rfl).1;have yF:=(hV.oF 0 _ rfl).1;have aZ:∀j,j<=5->w.heap.size+j<W'.heap.size:=λj hj=>by rw[hV.z];omega
 have iV:=hx.at b;have jc:=hx.at a;rw[aS] at jc iV;obtain⟨pb,bJ⟩:=au (x.R[b]?.getD 0);obtain⟨pa,bR⟩:=au (x.R[a]?.getD 0);rw[bJ] at iV;rw[bR] at jc;rw[bJ,bR];have kd:Calm W' W'.drew:=aq.drew;have hD:tJ w W'.drew S ⟨7,a,b,(i:Int),n⟩ x:=hV.calm kd rfl;have gJ:∀j,j<=5->w.heap.size+j<W'.drew.heap.size:=aZ;have oc:=L2 (hf.calm (hV.c.trans kd)) ht hl jc (k:=(i:Int)) ⟨by omega,by omega⟩ (by omega) (b:=n) hn (dd:=⟨7,a,b,(i:Int),n⟩) rfl rfl rfl pb;have lR:Hid (x.R.getD (b:Int).toNat 0=pb):=by show x.R.getD (b:Int).toNat 0=pb;rw[aS,Int.toNat_natCast];exact bJ
 have sV:Hid (x.R.getD (a:Int).toNat 0=pa):=by show x.R.getD (a:Int).toNat 0=pa;rw[aS,Int.toNat_natCast];exact bR
 replace bJ:=af bJ;replace bR:=af bR;go_wp2_with fail
 refine bK [(true,0),(true,1),(true,2),(true,3),(true,4),(true,5),(true,6),(true,7),(false,8),(false,9),(true,10),(true,11),(false,12),(false,13)] (λw'=>w'.cell? ⟨w.heap.size+1+1+1+1+1,0,none⟩=some (cF (w.heap.size+1+1))/\w'.cell? ⟨w.heap.size,0,none⟩=some (pV S.sp)/\w'.cell? ⟨w.heap.size+1,3,none⟩=some (vI (i:Int))/\w'.cell? ⟨w.heap.size+1,4,none⟩=some (vI n)) (by kernel_rfl) (by kernel_rfl) ⟨yF,y4,po,pq⟩ ?_;refine ao (cF (w.heap.size+1+1)) rfl rfl (λw' hw'=>?_) ai ?_
 ·have e1:=hw'.1;simp[go_sem,e1]
 refine ao (pV S.sp) rfl rfl (λw' hw'=>?_) ai ?_
 ·have e1:=hw'.2.1;simp[go_sem,e1]
 refine ao (vI (t:Int)) rfl rfl (λw' hw'=>?_) ai ?_
 ·simp[go_sem]
 refine ao (vI (pa:Int)) rfl rfl (λw' hw'=>?_) ai ?_
 ·simp[go_sem]
 refine ao (.pointer (some ⟨w.heap.size+1,3,none⟩)) rfl rfl (λw' hw'=>?_) ai ?_
 ·simp[go_sem]
 refine ao (vI (i:Int)) rfl rfl (λw' hw'=>?_) ai ?_
 ·have e1:=hw'.2.2.1;simp[go_sem,e1]
 refine ao (.pointer (some ⟨w.heap.size+1,4,none⟩)) rfl rfl (λw' hw'=>?_) ai ?_
 ·simp[go_sem]
 refine ao (vI n) rfl rfl (λw' hw'=>?_) ai ?_
 ·have e1:=hw'.2.2.2;simp[go_sem,e1]
 refine bg rfl rfl ?_;go_wp2_with fail
 refine oc.mono ?_;rintro en w5 ⟨x0,rfl,gK,n5⟩;have Tf:=n5;obtain⟨fB,S5,p1,p2,p3,p4⟩:=n5;have tg:∀j,j<=5->500<=τ0 (w.heap.size+j):=λj hj=>by rw[fr _ (by omega)];omega
 have q7:=p2.bw hD.o7 (tg 2 (by omega));have q6:=p2.bw hD.o6 (tg 1 (by omega));have qF:=p2.bw hD.oF (tg 5 (by omega));have q4:=p2.bw hD.o4 (tg 0 (by omega));have q8:=p2.bw hD.o8 (tg 3 (by omega));have q9:=p2.bw hD.o9 (tg 4 (by omega));have sA:w5.cell? ⟨w.heap.size+1+1+1+1+1,0,none⟩=some (cF (w.heap.size+1+1))/\w5.cell? ⟨w.heap.size,0,none⟩=some (pV S.sp)/\w5.cell? ⟨w.heap.size+1,3,none⟩=some (vI (i:Int))/\w5.cell? ⟨w.heap.size+1,4,none⟩=some (vI n):=⟨(qF 0 _ rfl).1,(q4 0 _ rfl).1,(q6 3 _ rfl).1,(q6 4 _ rfl).1⟩;refine⟨sA,?_⟩;have ol:=ij q7 hx.b hx.p 0 x0;clear oc y4 tI po pq yF p1 p2 p3 p4;refine bg rfl rfl ?_;go_wp2_with fail
 refine ol.mono ?_;rintro en w6 ⟨rfl,k6⟩;clear ol;have sB:w6.cell? ⟨w.heap.size+1+1+1+1+1,0,none⟩=some (cF (w.heap.size+1+1))/\w6.cell? ⟨w.heap.size,0,none⟩=some (pV S.sp)/\w6.cell? ⟨w.heap.size+1,3,none⟩=some (vI (i:Int))/\w6.cell? ⟨w.heap.size+1,4,none⟩=some (vI n):=⟨k6.cellAt sA.1 id,k6.cellAt sA.2.1 id,k6.cellAt sA.2.2.1 id,k6.cellAt sA.2.2.2 id⟩;refine⟨sB,?_⟩;generalize dg:x.cV x0=x2 at *;obtain⟨v2,eC⟩:=au ((if x0=0 then (0:Int) else 0):Int);rw[eC];replace dg:=af dg;replace eC:=af eC;refine ao (bO x2) rfl rfl (λw' hw'=>?_) ai ?_
 ·simp[go_sem]
 refine ao (cO 2 x0 v2) rfl rfl (λw' hw'=>?_) ai ?_
 ·simp[go_sem]
 refine bg rfl rfl ?_;refine aN _ _ _ rfl (w.heap.size+1+1+1) (bq x2).toArray rfl rfl (q8.calm k6) rfl (by kernel_rfl) (eO x2) ?_;intro w7 p8 f7;refine⟨⟨f7.cellAt sB.1 (by show ¬(w.heap.size+1+1+1+1+1=_);omega),f7.cellAt sB.2.1 (by show ¬(w.heap.size=_);omega),f7.cellAt sB.2.2.1 (by show ¬(w.heap.size+1=_);omega),f7.cellAt sB.2.2.2 (by show ¬(w.heap.size+1=_);omega)⟩,?_⟩;have KW:=(q9.calm k6).fr f7 (by omega);refine bg rfl rfl ?_;refine aN _ _ _ rfl (w.heap.size+1+1+1+1) #[vI 2,vI x0,vI v2] rfl rfl KW rfl (by kernel_rfl) (by simp[Value.oneCell']) ?_;intro w8 p9 f8;have sC:=f7.cellAt sB.1 (by show ¬(w.heap.size+1+1+1+1+1=_);omega);refine⟨⟨f8.cellAt sC (by show ¬(w.heap.size+1+1+1+1+1=_);omega),f8.cellAt (f7.cellAt sB.2.1 (by show ¬(w.heap.size=_);omega)) (by show ¬(w.heap.size=_);omega),f8.cellAt (f7.cellAt sB.2.2.1 (by show ¬(w.heap.size+1=_);omega)) (by show ¬(w.heap.size+1=_);omega),f8.cellAt (f7.cellAt sB.2.2.2 (by show ¬(w.heap.size+1=_);omega)) (by show ¬(w.heap.size+1=_);omega)⟩,?_⟩;have Tq:=p8.fr f8 (by omega);refine fp ?_;have hF:Fr (λb=>w.heap.size<=b/\b<W'.drew.heap.size) w5 w8:=((Calm.any k6:Fr (λb=>w.heap.size<=b/\b<W'.drew.heap.size) _ _).trans (f7.mono (λb _ e=>by have:=gJ 3 (by omega);omega))).trans (f8.mono (λb _ e=>by have:=gJ 4 (by omega);omega));have hP:px w τ s S t ⟨7,a,b,(i:Int),n⟩ x (.returned (.tuple #[bO x2,cO 2 x0 v2])) w8:=⟨x2,x0,v2,rfl,gK,⟨x,hx.r,hx.rp,rfl,rfl,rfl,rfl,.inl ⟨dg.out.symm,by simp⟩⟩,(fY hD tk fr Tf hF).mono (Nat.le_succ _) (λS' hR=>by rw[<-dg.out,<-eC.out];exact lC.num hR (λhf hr=>jK.dn hl (.inr (.inl rfl)) (hg.at _) (hg.at _) (by show _/\jK _ (x.R.getD (b:Int).toNat 0) t (x.R.getD (a:Int).toNat 0) _ _ _;rw[sV.out,lR.out];exact hr) hf))⟩;replace hP:=af hP;clear hF sA sB sC p8 KW;go_wp2;exact bodyPost_ret (v:=.tuple #[bO x2,cO 2 x0 v2]) (cd (i:=8) (j:=9) rfl rfl rfl Tq p9) rfl hP.out
theorem LD(h:St w τ s S)(hs:s<100000){x:bT}(hx:xX x)(hg:wL S x){t:Nat}(ht:t<S.bB.length)(hl:(S.tx t).live=true){a b:Nat}(ku:a<6)(kF:b<6) :
 aL prog 45 #[pV S.sp,vI (t:Int),e_ ⟨8,a,b,0,0⟩,bO x] w (px w τ s S t ⟨8,a,b,0,0⟩ x):=by
 obtain⟨τ0,hf,tk,fr⟩:=h.fresh;have cy:=bZ;have gT:=dm;obtain⟨W,fK,hW⟩:=dL w S ⟨8,a,b,0,0⟩ x;simp only[] at fK hW;have qI:=(hW.o6 1 _ rfl).1;have qJ:=(hW.o6 2 _ rfl).1;have qK:=(hW.o6 0 _ rfl).1;have jS:=(hW.o7 (2+a) _ (b_ ku)).1;have jT:=(hW.o7 (2+b) _ (b_ kF)).1;have a0:(0:Int)<=a:=by omega
 have a1:(a:Int)<6:=by omega
 have b0:(0:Int)<=b:=by omega
 have b1:(b:Int)<6:=by omega
 simp only[rg,cF,aS] at fK jS jT;simp only[e_,bO,rg];go_in;go_wp2_with fail
 go_quiet (fail)
 clear fK cy gT qI qJ jS jT;have hV:tJ w (W.drewN nq) S ⟨8,a,b,0,0⟩ x:=hW.calm (aq.drewN nq) rfl;clear hW qK;generalize W.drewN nq=W' at *;have y4:=(hV.o4 0 _ rfl).1;have tI:=(hV.o6 0 _ rfl).1;have po:=(hV.o6 3 _ rfl).1;have pq:=(hV.o6 4 _ rfl).1;have yF:=(hV.oF 0 _ rfl).1;have aZ:∀j,j<=5->w.heap.size+j<W'.heap.size:=λj hj=>by rw[hV.z];omega
 have iV:=hx.at b;have jc:=hx.at a;rw[aS] at jc iV;obtain⟨pb,bJ⟩:=au (x.R[b]?.getD 0);obtain⟨pa,bR⟩:=au (x.R[a]?.getD 0);rw[bJ] at iV;rw[bR] at jc;rw[bJ,bR];have kd:Calm W' W'.drew:=aq.drew;have hD:tJ w W'.drew S ⟨8,a,b,0,0⟩ x:=hV.calm kd rfl;have gJ:∀j,j<=5->w.heap.size+j<W'.drew.heap.size:=aZ;have oc:=Nl (hf.calm (hV.c.trans kd)) ht hl jc (d9:=⟨8,a,b,0,0⟩) rfl pb;have lR:Hid (x.R.getD (b:Int).toNat 0=pb):=by show x.R.getD (b:Int).toNat 0=pb;rw[aS,Int.toNat_natCast];exact bJ
 have sV:Hid (x.R.getD (a:Int).toNat 0=pa):=by show x.R.getD (a:Int).toNat 0=pa;rw[aS,Int.toNat_natCast];exact bR
 replace bJ:=af bJ;replace bR:=af bR;go_wp2_with fail
 refine bK [(true,0),(true,1),(true,2),(true,3),(false,4),(false,5),(true,6),(true,7),(false,8),(false,9)] (λw'=>w'.cell? ⟨w.heap.size+1+1+1+1+1,0,none⟩=some (cF (w.heap.size+1+1))/\w'.cell? ⟨w.heap.size,0,none⟩=some (pV S.sp)/\w'.cell? ⟨w.heap.size+1,3,none⟩=some (vI 0)/\w'.cell? ⟨w.heap.size+1,4,none⟩=some (vI 0)) (by kernel_rfl) (by kernel_rfl) ⟨yF,y4,po,pq⟩ ?_;refine ao (cF (w.heap.size+1+1)) rfl rfl (λw' hw'=>?_) ai ?_
 ·have e1:=hw'.1;simp[go_sem,e1]
 refine ao (pV S.sp) rfl rfl (λw' hw'=>?_) ai ?_
 ·have e1:=hw'.2.1;simp[go_sem,e1]
 refine ao (vI (t:Int)) rfl rfl (λw' hw'=>?_) ai ?_
 ·simp[go_sem]
 refine ao (vI (pa:Int)) rfl rfl (λw' hw'=>?_) ai ?_
 ·simp[go_sem]
 refine bg rfl rfl ?_;go_wp2_with fail
 refine oc.mono ?_;rintro en w5 ⟨x0,rfl,gK,n5⟩;have Tf:=n5;obtain⟨fB,S5,p1,p2,p3,p4⟩:=n5;have tg:∀j,j<=5->500<=τ0 (w.heap.size+j):=λj hj=>by rw[fr _ (by omega)];omega
 have q7:=p2.bw hD.o7 (tg 2 (by omega));have q6:=p2.bw hD.o6 (tg 1 (by omega));have qF:=p2.bw hD.oF (tg 5 (by omega));have q4:=p2.bw hD.o4 (tg 0 (by omega));have q8:=p2.bw hD.o8 (tg 3 (by omega));have q9:=p2.bw hD.o9 (tg 4 (by omega));have sA:w5.cell? ⟨w.heap.size+1+1+1+1+1,0,none⟩=some (cF (w.heap.size+1+1))/\w5.cell? ⟨w.heap.size,0,none⟩=some (pV S.sp)/\w5.cell? ⟨w.heap.size+1,3,none⟩=some (vI 0)/\w5.cell? ⟨w.heap.size+1,4,none⟩=some (vI 0):=⟨(qF 0 _ rfl).1,(q4 0 _ rfl).1,(q6 3 _ rfl).1,(q6 4 _ rfl).1⟩;refine⟨sA,?_⟩;have ol:=ij q7 hx.b hx.p 0 x0;clear oc y4 tI po pq yF p1 p2 p3 p4;refine bg rfl rfl ?_;go_wp2_with fail
 refine ol.mono ?_;rintro en w6 ⟨rfl,k6⟩;clear ol;have sB:w6.cell? ⟨w.heap.size+1+1+1+1+1,0,none⟩=some (cF (w.heap.size+1+1))/\w6.cell? ⟨w.heap.size,0,none⟩=some (pV S.sp)/\w6.cell? ⟨w.heap.size+1,3,none⟩=some (vI 0)/\w6.cell? ⟨w.heap.size+1,4,none⟩=some (vI 0):=⟨k6.cellAt sA.1 id,k6.cellAt sA.2.1 id,k6.cellAt sA.2.2.1 id,k6.cellAt sA.2.2.2 id⟩;refine⟨sB,?_⟩;generalize dg:x.cV x0=x2 at *;obtain⟨v2,eC⟩:=au ((if x0=0 then (0:Int) else 0):Int);rw[eC];replace dg:=af dg;replace eC:=af eC;refine ao (bO x2) rfl rfl (λw' hw'=>?_) ai ?_
 ·simp[go_sem]
 refine ao (cO 2 x0 v2) rfl rfl (λw' hw'=>?_) ai ?_
 ·simp[go_sem]
 refine bg rfl rfl ?_;refine aN _ _ _ rfl (w.heap.size+1+1+1) (bq x2).toArray rfl rfl (q8.calm k6) rfl (by kernel_rfl) (eO x2) ?_;intro w7 p8 f7;refine⟨⟨f7.cellAt sB.1 (by show ¬(w.heap.size+1+1+1+1+1=_);omega),f7.cellAt sB.2.1 (by show ¬(w.heap.size=_);omega),f7.cellAt sB.2.2.1 (by show ¬(w.heap.size+1=_);omega),f7.cellAt sB.2.2.2 (by show ¬(w.heap.size+1=_);omega)⟩,?_⟩;have KW:=(q9.calm k6).fr f7 (by omega);refine bg rfl rfl ?_;refine aN _ _ _ rfl (w.heap.size+1+1+1+1) #[vI 2,vI x0,vI v2] rfl rfl KW rfl (by kernel_rfl) (by simp[Value.oneCell']) ?_;intro w8 p9 f8;have sC:=f7.cellAt sB.1 (by show ¬(w.heap.size+1+1+1+1+1=_);omega);refine⟨⟨f8.cellAt sC (by show ¬(w.heap.size+1+1+1+1+1=_);omega),f8.cellAt (f7.cellAt sB.2.1 (by show ¬(w.heap.size=_);omega)) (by show ¬(w.heap.size=_);omega),f8.cellAt (f7.cellAt sB.2.2.1 (by show ¬(w.heap.size+1=_);omega)) (by show ¬(w.heap.size+1=_);omega),f8.cellAt (f7.cellAt sB.2.2.2 (by show ¬(w.heap.size+1=_);omega)) (by show ¬(w.heap.size+1=_);omega)⟩,?_⟩;have Tq:=p8.fr f8 (by omega);refine fp ?_;have hF:Fr (λb=>w.heap.size<=b/\b<W'.drew.heap.size) w5 w8:=((Calm.any k6:Fr (λb=>w.heap.size<=b/\b<W'.drew.heap.size) _ _).trans (f7.mono (λb _ e=>by have:=gJ 3 (by omega);omega))).trans (f8.mono (λb _ e=>by have:=gJ 4 (by omega);omega));have hP:px w τ s S t ⟨8,a,b,0,0⟩ x (.returned (.tuple #[bO x2,cO 2 x0 v2])) w8:=⟨x2,x0,v2,rfl,gK,⟨x,hx.r,hx.rp,rfl,rfl,rfl,rfl,.inl ⟨dg.out.symm,by simp⟩⟩,(fY hD tk fr Tf hF).mono (Nat.le_succ _) (λS' hR=>by rw[<-dg.out,<-eC.out];exact lC.num hR (λhf hr=>jK.dn hl (.inr (.inr rfl)) (hg.at _) (hg.at _) (by show _/\jK _ (x.R.getD (b:Int).toNat 0) t (x.R.getD (a:Int).toNat 0) _ _ _;rw[sV.out,lR.out];exact hr) hf))⟩;replace hP:=af hP;clear hF sA sB sC p8 KW;go_wp2;exact bodyPost_ret (v:=.tuple #[bO x2,cO 2 x0 v2]) (cd (i:=8) (j:=9) rfl rfl rfl Tq p9) rfl hP.out
end
