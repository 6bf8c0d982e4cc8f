import Derived.Test.YtgijglafnlbdbaaGreatTmBD
set_option linter.all false
set_option maxHeartbeats 8000000
set_option maxRecDepth 8000
namespace Go.Proofs.YtgijglafnlbdbaaGreat
open RowKit Shelf Proofs.Tryz
open Go renaming World->aj,Value->aC,Calls->aL
section
variable {w:aj}{τ:Nat->Nat}{rp i:Nat}{pv:aC}{Q:Pg}{r:Rd}
theorem Gh(w:aj)(e:Int):aL prog 84 #[vI e] w λen w'=>en=.returned (.bool (n_ e))/\w=w':=by
 unfold n_
 by_cases h1:e=141
 ·subst h1;go_in;go_wp2;go_ret;exact⟨rfl,rfl⟩
 ·have a1:(e==141)=false:=by simp[h1]
  rw[a1]
  by_cases h2:e=100
  ·subst h2;go_in;go_wp2;go_ret;exact⟨rfl,rfl⟩
  ·have a2:(e==100)=false:=by simp[h2]
   rw[a2]
   cases a3:(e==130) with
   | true=>
     go_in;go_wp2;go_ret;exact⟨rfl,rfl⟩
   | false=>
     go_in;go_wp2;go_ret;exact⟨rfl,rfl⟩
theorem tM.aJ{M:Mem}{atv cz:aC}{ms:List rE}{bY:Int}{sp:List tN}(h1:bF w τ M)(h2:tM M rp pv atv cz sp ms bY){j:Nat}(hj:j<ms.length)(hj4:j<=3000){w1 w2:aj}{m':rE}(f1:Fr (aB (ms.getD j eP).av) w w1)(ho:w1.ownsRow 0 35 3 m'.av m'.x.aJ.length (m'.x.aJ.flatMap Er))(iE:∀b,aB m'.av b->aB (ms.getD j eP).av b\/w.heap.size<=b)
 (f2:Fr (aB cz) w1 w2) (ht:w2.ownsRow 0 89 10 cz (ms.set j m').length ((ms.set j m').flatMap rz)) (hs:m'.tv=(ms.getD j eP).tv/\m'.x.gF=(ms.getD j eP).x.gF):∃M' aX,bF w2 aX M'/\tM M' rp pv atv cz sp (ms.set j m') bY/\dP 10000 w τ w2 aX/\(∀k,w.heap.size<=k->¬aB m'.av k->aX k=10000):=by
 have hb:(M (10+2*j)).bU=aB (ms.getD j eP).av:=by rw[(h2.x j hj).1];rfl
 obtain⟨gi,k1,k2,k3⟩:=h1.OY (L:=10000) (t:=10+2*j) (a:=dK 35 3 m'.av m'.x.aJ.length (m'.x.aJ.flatMap Er)) (by rw[hb];exact f1) ho (λk hk=>by rw[hb];exact iE k hk) (by omega) 10000;have o1:=Mem.cM.put M (P:=λq=>q=10+2*j) (dK 35 3 m'.av m'.x.aJ.length (m'.x.aJ.flatMap Er)) rfl;obtain⟨M1,Cr⟩:=au (M.put (10+2*j) (dK 35 3 m'.av m'.x.aJ.length (m'.x.aJ.flatMap Er)));have e1:M1 (10+2*j)=dK 35 3 m'.av m'.x.aJ.length (m'.x.aJ.flatMap Er):=by rw[<-Cr,Mem.aP]
 rw[Cr] at k1 o1;have RP:(M1 3).bU=aB cz:=by rw[o1 3 (by show ¬_=_;omega),h2.t];rfl
 obtain⟨k4,k5⟩:=k1.BS (L:=10000) (t:=3) (a:=dK 89 10 cz (ms.set j m').length ((ms.set j m').flatMap rz)) (by rw[RP];exact f2) ht (λk hk=>by rw[RP];exact hk) (by decide);have o2:=Mem.cM.put M1 (P:=λq=>q=3) (dK 89 10 cz (ms.set j m').length ((ms.set j m').flatMap rz)) rfl;refine⟨_,gi,k4,⟨(o2 1 (by decide)).trans ((o1 1 (by show ¬_=_;omega)).trans h2.c),(o2 2 (by decide)).trans ((o1 2 (by show ¬_=_;omega)).trans h2.a),Mem.aP _ _ _,λk hk=>?_,λq hq=>?_⟩,k2.trans k5,λk hk gI=>k3 k hk gI⟩
 ·rw[bE] at hk;rw[o2 _ (by show ¬_=_;omega),o2 _ (by show ¬_=_;omega)]
  by_cases e:k=j
  ·subst e;rw[ks hk,e1,o1 _ (by show ¬_=_;omega),(h2.x k hk).2,hs.1,hs.2];exact⟨rfl,rfl⟩
  ·rw[rH e,o1 _ (by show ¬_=_;omega),o1 _ (by show ¬_=_;omega)];exact h2.x k hk
 ·rw[bE] at hq;rw[o2 q (by show ¬_=_;omega),o1 q (by show ¬_=_;omega)];exact h2.z q hq
theorem tM.gF{M:Mem}{atv cz:aC}{ms:List rE}{bY:Int}{sp:List tN}(h1:bF w τ M)(h2:tM M rp pv atv cz sp ms bY){j:Nat}(hj:j<ms.length)(hj4:j<=3000){w1 w2:aj}{m':rE}(f1:Fr (aB (ms.getD j eP).tv) w w1)(ho:bm w1 0 m'.tv m'.x.gF)(iE:∀b,aB m'.tv b->aB (ms.getD j eP).tv b\/w.heap.size<=b)
 (f2:Fr (aB cz) w1 w2) (ht:w2.ownsRow 0 89 10 cz (ms.set j m').length ((ms.set j m').flatMap rz)) (hs:m'.av=(ms.getD j eP).av/\m'.x.aJ=(ms.getD j eP).x.aJ):∃M' aX,bF w2 aX M'/\tM M' rp pv atv cz sp (ms.set j m') bY/\dP 10000 w τ w2 aX:=by
 have hb:(M (10+2*j+1)).bU=aB (ms.getD j eP).tv:=by rw[(h2.x j hj).2];rfl
 obtain⟨gi,k1,k2,k3⟩:=h1.OY (L:=10000) (t:=10+2*j+1) (a:=iL m'.tv m'.x.gF) (by rw[hb];exact f1) ho (λk hk=>by rw[hb];exact iE k hk) (by omega) 10000;have o1:=Mem.cM.put M (P:=λq=>q=10+2*j+1) (iL m'.tv m'.x.gF) rfl;obtain⟨M1,Cr⟩:=au (M.put (10+2*j+1) (iL m'.tv m'.x.gF));have e1:M1 (10+2*j+1)=iL m'.tv m'.x.gF:=by rw[<-Cr,Mem.aP]
 rw[Cr] at k1 o1;have RP:(M1 3).bU=aB cz:=by rw[o1 3 (by show ¬_=_;omega),h2.t];rfl
 obtain⟨k4,k5⟩:=k1.BS (L:=10000) (t:=3) (a:=dK 89 10 cz (ms.set j m').length ((ms.set j m').flatMap rz)) (by rw[RP];exact f2) ht (λk hk=>by rw[RP];exact hk) (by decide);have o2:=Mem.cM.put M1 (P:=λq=>q=3) (dK 89 10 cz (ms.set j m').length ((ms.set j m').flatMap rz)) rfl;refine⟨_,gi,k4,⟨(o2 1 (by decide)).trans ((o1 1 (by show ¬_=_;omega)).trans h2.c),(o2 2 (by decide)).trans ((o1 2 (by show ¬_=_;omega)).trans h2.a),Mem.aP _ _ _,λk hk=>?_,λq hq=>?_⟩,k2.trans k5⟩
 ·rw[bE] at hk;rw[o2 _ (by show ¬_=_;omega),o2 _ (by show ¬_=_;omega)]
  by_cases e:k=j
  ·subst e;rw[ks hk,e1,o1 _ (by show ¬_=_;omega),(h2.x k hk).1,hs.1,hs.2];exact⟨rfl,rfl⟩
  ·rw[rH e,o1 _ (by show ¬_=_;omega),o1 _ (by show ¬_=_;omega)];exact h2.x k hk
 ·rw[bE] at hq;rw[o2 q (by show ¬_=_;omega),o1 q (by show ¬_=_;omega)];exact h2.z q hq
theorem K_(h:iZ w τ rp pv Q i r)(hi:i<=2000)(hQ:tL Q){t b j:Nat}(ht:t<Q.length)(hb:b<(Q.getD t []).length)(hj:(r.sp.getD t cJ).tr=(j:Int))(sW:(r.sp.getD t cJ).block=(b:Int))(n k ee v:Int):aL prog 102 #[pR rp,vI (i:Int),.agg #[vI (t:Int),vI (b:Int),vI n,vI k,vI ee,vI v]] w (jm w τ rp i pv Q (r.gX Q i ⟨t,b,n,k,ee,v⟩)):=by
 obtain⟨τ0,h0,tk,fr⟩:=h.fresh;clear h;obtain⟨M,ms,ga,ca,gt,ct,gp,op,cp,gb,ob,cb,U4,ud,gq,oq,cq,hJ⟩:=h0.at_ ht hb hj;have Xe:rp<w.heap.size:=hJ.c.lt (by simp);have k0:Calm w (w.alloc (.cells #[vI (t:Int),vI (b:Int),vI n,vI k,vI ee,vI v] 76)):=aq.alloc _;have oE:ag (w.alloc (.cells #[vI (t:Int),vI (b:Int),vI n,vI k,vI ee,vI v] 76)) w.heap.size (lG t b n k ee v):=ag.GU w [_,_,_,_,_,_] _ _ rfl;obtain⟨W0,gS⟩:=au (w.alloc (.cells #[vI (t:Int),vI (b:Int),vI n,vI k,vI ee,vI v] 76));rw[gS] at k0 oE;obtain⟨NS,su⟩:=au r.sp.length;obtain⟨NM,jD⟩:=au ms.length;obtain⟨NQ,ji⟩:=au Q.length;obtain⟨NB,oH⟩:=au ((Q.getD t []).length);obtain⟨ND,Jj⟩:=au (((Q.getD t []).getD b []).length);obtain⟨ad,GC,-⟩:=hJ.ud_;have hts:=hJ.ts;have NP:=hJ.js;rw[su] at hts;rw[jD] at NP;rw[ji] at ht;rw[oH] at hb;rw[Jj] at GC;obtain⟨m,hm⟩:=au (ms.getD j eP)
 obtain⟨aa,ac,Jq⟩:∃a c,m.av=.slice a m.x.aJ.length c:=by
  have:=hJ.h.at_ (10+2*j);rw[(hJ.m.x j hJ.js).1,hm] at this;exact aG this
 obtain⟨ta,tc,qx⟩:∃a c,m.tv=.slice a m.x.gF.length c:=by
  have:=hJ.h.at_ (10+2*j+1);rw[(hJ.m.x j hJ.js).2,hm] at this;exact aG this
 have Cx:∀W,Calm w W->W.cell? ⟨rp,1,none⟩=some (.slice (some ⟨ga,0,none⟩) NS ca):=λW c=>by rw[<-su];exact c.cellAt (hJ.c 1 _ rfl).1 id
 have Ie:∀W,Calm w W->W.cell? ⟨rp,2,none⟩=some (.slice (some ⟨gt,0,none⟩) NM ct):=λW c=>by rw[<-jD];exact c.cellAt (hJ.c 2 _ rfl).1 id
 have vA:∀W,Calm w W->W.cell? ⟨rp,0,none⟩=some (.slice (some ⟨gp,op,none⟩) NQ cp):=λW c=>by rw[<-ji,<-hJ.pv_];exact c.cellAt (hJ.c 0 _ rfl).1 id
 have SM:∀W,Calm w W->W.cell? ⟨ga,t*2+1,none⟩=some (vI (j:Int)):=λW c=>c.cellAt (cf eN (by decide) hJ.a cJ hJ.ts 1 (by rw[<-hj];rfl)).1 id;have J6:∀W,Calm w W->W.cell? ⟨gt,j*10+6,none⟩=some (.slice aa m.x.aJ.length ac):=λW c=>by rw[<-Jq];exact c.cellAt (cf fq (by decide) hJ.tt eP hJ.js 6 (by rw[hm];rfl)).1 id
 have Mp:∀W,Calm w W->W.cell? ⟨gp,op+t,none⟩=some (.slice (some ⟨gb,ob,none⟩) NB cb):=λW c=>by rw[<-oH,<-hJ.ub];exact c.cellAt hJ.pb id
 have Qq:∀W,Calm w W->W.cell? ⟨gb,ob+b,none⟩=some (.slice ad ND cq):=λW c=>by rw[<-GC];exact c.cellAt hJ.pd id
 obtain⟨NA,wX⟩:=au m.x.aJ.length;rw[wX] at J6;have z1:=Cx W0 k0;have z0:=(oE 0 _ rfl).1;replace hJ:=af hJ;replace su:=af su;replace jD:=af jD;replace ji:=af ji;replace oH:=af oH;replace Jj:=af Jj;replace wX:=af wX;replace hm:=af hm;replace Jq:=af Jq;replace qx:=af qx;replace GC:=af GC;replace hj:=af hj;replace sW:=af sW;replace vA:=af vA;replace Cx:=af Cx;replace Ie:=af Ie;replace SM:=af SM;replace J6:=af J6;replace Mp:=af Mp;replace Qq:=af Qq;replace hQ:=af hQ;clear h0;go_in;go_wp2_with fail
 clear gS
 go_quiet (fail)
 have k1:Calm w (W0.drewN nq):=k0.trans (aq.drewN nq);have vX:ag (W0.drewN nq) w.heap.size (lG t b n k ee v):=oE.calm (aq.drewN nq);generalize W0.drewN nq=W1 at *;clear z0 z1 oE k0;have z1:=Cx.out W1 k1;have z2:=Ie.out W1 k1;have z3:=SM.out W1 k1;go_wp2_with fail
 go_quiet (fail)
 have k2:Calm w (W1.drewN nq):=k1.trans (aq.drewN nq);have vY:ag (W1.drewN nq) w.heap.size (lG t b n k ee v):=vX.calm (aq.drewN nq);generalize W1.drewN nq=W2 at *;clear z1 z2 z3 vX k1;have z1:=vA.out W2 k2;have z2:=(vY 0 _ rfl).1;have z3:=Mp.out W2 k2;have z4:=(vY 1 _ rfl).1;have z5:=Qq.out W2 k2;go_wp2_with fail
 go_quiet (fail)
 have k3:Calm w (W2.drewN nq):=k2.trans (aq.drewN nq);have DG:ag (W2.drewN nq) w.heap.size (lG t b n k ee v):=vY.calm (aq.drewN nq);generalize W2.drewN nq=W3 at *;clear z1 z2 z3 z4 z5 vY k2;have z1:=J6.out W3 k3;have z2:=(DG 2 _ rfl).1;have qV:Hid (∀W,Calm w W->r.gX Q i ⟨t,b,n,k,ee,v⟩=none->jm w τ rp i pv Q (r.gX Q i ⟨t,b,n,k,ee,v⟩) (.returned (.bool false)) W):=λW c e=>.inr ⟨e,rfl,c.any⟩
 have ng:Hid (r.kY ⟨t,b,n,k,ee,v⟩=m.x):=by
  have hJ:=hJ.out;unfold Rd.kY Rd.spot;show r.tr.getD (r.sp.getD t cJ).tr.toNat aK=m.x;rw[hj.out,<-hJ.e];show(ms.map (·.x)).getD j eP.x=m.x;rw[ss,hm.out]
 have Gr:Hid ((bU Q (t:Int) (b:Int)).length=ND):=Jj.out
 by_cases hn:n=(NA:Int)
 ·by_cases nJ:(ND:Int)<=n
  ·have NZ:(n != (NA:Int))=false:=by simp[hn]
   have Sn:decide (n>=(ND:Int))=true:=by simp;exact nJ
   have hP:Hid (∀W,Calm w W->jm w τ rp i pv Q (r.gX Q i ⟨t,b,n,k,ee,v⟩) (.returned (.bool false)) W):=λW c=>qV.out W c (by unfold Rd.gX;rw[ng.out,Gr.out];exact if_pos (.inr nJ));replace hn:=af hn;replace nJ:=af nJ;go_wp2_with fail
   go_quiet (fail)
   go_wp2;go_ret;exact hP.out _ (k3.trans (aq.drewN nq))
  ·obtain rfl:n=(NA:Int):=hn;have hNN:NA<ND:=by omega
   have Sn:decide (ND<=NA)=false:=by simp;omega
   go_wp2_with fail
   go_quiet (fail)
   have k4:Calm w (W3.drewN nq):=k3.trans (aq.drewN nq);have ZA:ag (W3.drewN nq) w.heap.size (lG t b NA k ee v):=DG.calm (aq.drewN nq);generalize W3.drewN nq=W4 at *;clear z1 z2 DG k3;have z2:=(ZA 2 _ rfl).1;have hJ0:=hJ.out;obtain⟨ad',SF,had⟩:=hJ0.ud_
   have e9:ad=some ⟨gq,oq,none⟩:=by
    rw[GC.out] at SF;injection SF with e9 _ _
    rw[e9];exact had (by rw[Jj.out];omega)
   subst e9;obtain⟨d,hd⟩:=au (((Q.getD t []).getD b []).getD NA dD);have zk:=k4.cellAt (hJ0.dd NA (by rw[Jj.out];exact hNN) 0 (vI d.k) (by rw[hd];rfl)) id;rw[fj] at zk;replace hd:=af hd;clear had SF hJ0;go_upto_region 7 with fail
   have hJ:=hJ.out;have fF:=hm.out;obtain⟨fG,A_,qU⟩:=hJ.ne;have Hy:aB (.slice (some ⟨ga,0,none⟩) r.sp.length ca) ga:=aB.mk.2 rfl;have AF:aB (.slice (some ⟨gt,0,none⟩) ms.length ct) gt:=aB.mk.2 rfl;have gaw:ga<w.heap.size:=(World.ownsRow.lt hJ.a ga Hy).2;have gtw:gt<w.heap.size:=(World.ownsRow.lt hJ.tt gt AF).2
   have GB:Hid (r.tr.getD j aK=m.x):=by
    show r.tr.getD j aK=m.x;rw[<-hJ.e];show(ms.map (·.x)).getD j eP.x=m.x;rw[ss,fF]
   have CX:∀b,aB m.av b->b<w.heap.size/\b≠ga/\b≠gt/\b≠rp:=λb hb=>by
    have e0:(M (10+2*j)).bU b:=by rw[(hJ.m.x j hJ.js).1,fF];exact hb
    refine⟨hJ.h.lt _ e0,λe=>?_,λe=>?_,λe=>?_⟩
    ·exact hJ.h.apart (t:=10+2*j) (u:=2) (k:=b) (by omega) e0 (by rw[hJ.m.a,e];exact Hy)
    ·exact hJ.h.apart (t:=10+2*j) (u:=3) (k:=b) (by omega) e0 (by rw[hJ.m.t,e];exact AF)
    ·exact hJ.h.apart (t:=10+2*j) (u:=1) (k:=b) (by omega) e0 (by rw[hJ.m.c];exact e)
   have yC:∀b,aB m.tv b->b<w.heap.size/\b≠ga/\b≠gt/\b≠rp/\¬aB m.av b:=λb hb=>by
    have e0:(M (10+2*j+1)).bU b:=by rw[(hJ.m.x j hJ.js).2,fF];exact hb
    refine⟨hJ.h.lt _ e0,λe=>?_,λe=>?_,λe=>?_,λe=>?_⟩
    ·exact hJ.h.apart (t:=10+2*j+1) (u:=2) (k:=b) (by omega) e0 (by rw[hJ.m.a,e];exact Hy)
    ·exact hJ.h.apart (t:=10+2*j+1) (u:=3) (k:=b) (by omega) e0 (by rw[hJ.m.t,e];exact AF)
    ·exact hJ.h.apart (t:=10+2*j+1) (u:=1) (k:=b) (by omega) e0 (by rw[hJ.m.c];exact e)
    ·exact hJ.h.apart (t:=10+2*j+1) (u:=10+2*j) (k:=b) (by omega) e0 (by rw[(hJ.m.x j hJ.js).1,fF];exact e)
   have kd:Calm W4 W4.drew:=aq.drew;have OP:=ZA.calm kd;have x6:=J6.out W4.drew (k4.trans kd);refine a_ 7 9 (λw'=>w'.cell? ⟨gt,j*10+6,none⟩=some (.slice aa NA ac)/\ag w' w.heap.size (lG t b NA k ee v)) (by kernel_rfl) (by kernel_rfl) ⟨x6,OP⟩ ?_;refine ae (.pointer (some ⟨gt,j*10,none⟩)) rfl (λw' hw'=>?_) ai ?_
   ·simp[go_sem]
   refine ae (.pointer (some ⟨gt,j*10,none⟩)) rfl (λw' hw'=>?_) ai ?_
   ·simp[go_sem]
   refine ae (.pointer (some ⟨gt,j*10,none⟩)) rfl (λw' hw'=>?_) ai ?_
   ·simp[go_sem]
   refine ae (.pointer (some ⟨gt,j*10+6,none⟩)) rfl (λw' hw'=>?_) ai ?_
   ·simp[go_sem]
   refine ae (.slice aa NA ac) rfl (λw' hw'=>?_) ai ?_
   ·simp[go_sem,hw'.1]
   refine ae (.pointer (some ⟨w.heap.size,3,none⟩)) rfl (λw' hw'=>?_) ai ?_
   ·simp[go_sem]
   refine ae (.agg #[vI k,vI ee,vI v]) rfl (λw' hw'=>?_) ai ?_
   ·have e:=hw'.2;simp only[lG] at e;obtain⟨z0,z1,z2,z3,z4,z5⟩:=ag.t_ e;simp[go_sem,z3,z4,z5]
   simp only[bG];have kA0:Calm W4 (W4.drew.alloc (.cells #[vI k,vI ee,vI v] 35)):=kd.alloc _;have kA:Calm w (W4.drew.alloc (.cells #[vI k,vI ee,vI v] 35)):=k4.trans kA0;have Tl:=ZA.calm kA0;have hS:=(show World.cell? (W4.drew.alloc (.cells #[vI k,vI ee,vI v] 35)) ⟨gt,j*10+6,none⟩=some (.slice aa NA ac)/\ag (W4.drew.alloc (.cells #[vI k,vI ee,vI v] 35)) w.heap.size (lG t b NA k ee v) from⟨J6.out _ kA,Tl⟩)
   have Jl:w.ownsRow 0 35 3 m.av m.x.aJ.length (m.x.aJ.flatMap Er):=by
    have:=hJ.h.at_ (10+2*j);rw[(hJ.m.x j hJ.js).1,fF] at this;exact this
   have hRA:=az Jl kA (λ_ _=>id);have AJ:m.av=.slice aa NA ac:=by rw[<-wX.out];exact Jq.out
   rw[AJ,wX.out] at hRA;have Gk:=(hJ.k.a j (by have:=hJ.js;rw[<-hJ.e,List.length_map];exact this));rw[GB.out,wX.out] at Gk;refine bH rfl ?_;unfold Oper.wp;go_simp
   first|refine⟨hS,?_⟩|skip
   refine bH rfl ?_;refine Eq.mp (if_pos (show Region.wanted _ (yielded _ _)=true from rfl)) (gu (ops:=#[]) (E:=True) aag rfl (.tmp 64) (.tmp 67) rfl (.slice aa NA ac) NA _ hRA rfl (Er ⟨k,ee,v⟩) rfl (by simp[Er,Value.oneCell']) ⟨W4.heap.size,0,none⟩ 1 rfl (λj u hj=>by rw[cT];simp only[fk];exact wO W4.drew _ _ _ hj) (by have:=Gk.1;omega) ?_);intro g1 c1 w5 hr5 f5 Mh;obtain⟨m1,qR⟩:=au (({ m with av:=.slice (some ⟨g1,0,none⟩) (NA+1) c1,x:={ m.x with aJ:=m.x.aJ++[⟨k,ee,v⟩] } } : rE):rE);have ngt:¬aB (.slice aa NA ac) gt:=λe=>(CX gt (by rw[AJ];exact e)).2.2.1 rfl;have nga:¬aB (.slice aa NA ac) ga:=λe=>(CX ga (by rw[AJ];exact e)).2.1 rfl;have nrp:¬aB (.slice aa NA ac) rp:=λe=>(CX rp (by rw[AJ];exact e)).2.2.2 rfl;have nen:¬aB (.slice aa NA ac) w.heap.size:=λe=>by have:=(CX _ (by rw[AJ];exact e)).1;omega
   have T5:=az (az hJ.tt kA (λ_ _=>id)) f5 (λb hb e=>by obtain rfl:=aB.fg hb;exact ngt e);have A5:=az (az hJ.a kA (λ_ _=>id)) f5 (λb hb e=>by obtain rfl:=aB.fg hb;exact nga e);have C5:=(hJ.c.calm kA).fr f5 nrp;have E5:=Tl.fr f5 nen;have p6:=cf fq (by decide) T5 eP hJ.js 6 (u:=m.av) (by rw[fF];rfl);rw[AJ] at p6;have p61:=p6.1;have p62:=p6.2;have T6:=fV T5 rfl hJ.js 6 (by decide) (.slice (some ⟨g1,0,none⟩) (NA+1) c1) m1 (by rw[fF,<-qR];rfl);have F6:Fr (λk=>k=gt) w5 (w5.setCell ⟨gt,j*10+6,none⟩ (.slice (some ⟨g1,0,none⟩) (NA+1) c1)):=(Fr.refl (λk=>k=gt) w5).setCell (p:=⟨gt,j*10+6,none⟩) (.inl rfl) _;obtain⟨W6,lQ⟩:=au (w5.setCell ⟨gt,j*10+6,none⟩ (.slice (some ⟨g1,0,none⟩) (NA+1) c1));rw[lQ] at T6 F6;have A6:=az A5 F6 (λb hb e=>fG (by obtain rfl:=aB.fg hb;exact e));have C6:=C5.fr F6 (λe=>qU e.symm);have E6:=E5.fr F6 (show ¬w.heap.size=gt by omega)
   obtain⟨M6,iX,h6,r6,K6,-⟩:=tM.aJ (hJ.h.calm kA) hJ.m hJ.js (by have:=hJ.k.l;rw[<-hJ.e,List.length_map] at this;have:=hJ.js;omega) (w1:=w5) (m':=m1) (by rw[fF,AJ];exact f5) (by rw[<-qR];show w5.ownsRow 0 _ 3 _ (m.x.aJ++[_]).length ((m.x.aJ++[_]).flatMap Er);rw[cX,List.flatMap_append,wX.out];simpa using hr5) (λb hb=>by
    rw[fF,AJ];rw[<-qR] at hb;obtain rfl:=aB.fg hb;rcases Mh with e|e
    ·exact .inl e
    ·exact .inr (Nat.le_of_eq e.symm)) (F6.mono (λb _ e=>by rw[e];exact AF)) T6 (by rw[fF,<-qR];exact⟨rfl,rfl⟩)
   have kw6:w.heap.size<W6.heap.size:=E6.lt (by simp[lG]);obtain⟨NT,yy⟩:=au m.x.gF.length;have vU:m.tv=.slice ta NT tc:=by rw[<-yy];exact qx.out
   have SR:j<(ms.set j m1).length:=by rw[bE];exact hJ.js
   have g6:=ks hJ.js m1 eP;have p7:=cf fq (by decide) T6 eP SR 7 (u:=.slice ta NT tc) (by rw[g6,<-qR,<-vU];rfl);have p71:=p7.1;have p72:=p7.2
   have hro:bm W6 0 (.slice ta NT tc) m.x.gF:=by
    have:=h6.at_ (10+2*j+1);rw[(r6.x j SR).2,g6,<-qR] at this;rw[<-vU];exact this
   rw[yy] at Gk;have aaq:NT<=1000000:=by have:=Gk.2.1;omega
   have Ic:=af hS;refine⟨⟨p61,E5⟩,?_⟩;simp only[bW];replace fF:=af fF;replace yy:=af yy;replace hro:=af hro;replace hJ:=af hJ;replace qR:=af qR;clear T5 A5 C5 E5 Jl hRA f5 F6 hr5 Mh Tl OP hS Ic kA0 ZA x6 kd p6 z2 zk ngt nga nrp nen;replace h6:=af h6;replace r6:=af r6;replace T6:=af T6;replace A6:=af A6;replace C6:=af C6;replace E6:=af E6;replace K6:=af K6;replace CX:=af CX;replace yC:=af yC;have qh:=Gh
   go_upto_region 9 with (
    at_builtin
    go_must (refine gx rfl _ _ rfl 0 (.slice ta NT tc) m.x.gF hro.out rfl (i:Int) rfl (by rw[yy.out];exact aaq) (cK _) ?_)
    intro g2 c2 w7 Cu f7 Db;have y71:=f7.cellAt p71 (λe=>(yC.out gt (by rw[vU];exact e)).2.2.1 rfl);have y72:=f7.frozenAt p71 p72 (λe=>(yC.out gt (by rw[vU];exact e)).2.2.1 rfl);rw[yy.out] at Cu ⊢;replace Cu:=af Cu;replace f7:=af f7
    replace Db:=af Db)
   have hJ:=hJ.out;have fF:=fF.out;have XU:¬aB (.slice ta NT tc) gt:=λe=>(yC.out gt (by rw[vU];exact e)).2.2.1 rfl;have XS:¬aB (.slice ta NT tc) ga:=λe=>(yC.out ga (by rw[vU];exact e)).2.1 rfl;have XW:¬aB (.slice ta NT tc) rp:=λe=>(yC.out rp (by rw[vU];exact e)).2.2.2.1 rfl;have XR:¬aB (.slice ta NT tc) w.heap.size:=λe=>by have:=(yC.out _ (by rw[vU];exact e)).1;omega
   obtain⟨m2,rP⟩:=au ((⟨{ m.x with aJ:=m.x.aJ++[⟨k,ee,v⟩],gF:=m.x.gF++[(i:Int)] },.slice (some ⟨g1,0,none⟩) (NA+1) c1,.slice (some ⟨g2,0,none⟩) (NT+1) c2⟩:rE):rE);have T7:=az T6.out f7.out (λb hb e=>by obtain rfl:=aB.fg hb;exact XU e);have A7:=az A6.out f7.out (λb hb e=>by obtain rfl:=aB.fg hb;exact XS e);have C7:=C6.out.fr f7.out XW;have E7:=E6.out.fr f7.out XR;have T8:=fV (n:=ms.length) T7 (by rw[bE]) SR 7 (by decide) (.slice (some ⟨g2,0,none⟩) (NT+1) c2) m2 (by rw[g6,<-qR.out,<-rP];rfl);have F8:Fr (λk=>k=gt) w7 (w7.setCell ⟨gt,j*10+7,none⟩ (.slice (some ⟨g2,0,none⟩) (NT+1) c2)):=(Fr.refl (λk=>k=gt) w7).setCell (p:=⟨gt,j*10+7,none⟩) (.inl rfl) _;obtain⟨W8,jn⟩:=au (w7.setCell ⟨gt,j*10+7,none⟩ (.slice (some ⟨g2,0,none⟩) (NT+1) c2));rw[jn] at T8 F8;have A8:=az A7 F8 (λb hb e=>fG (by obtain rfl:=aB.fg hb;exact e));have C8:=C7.fr F8 (λe=>qU e.symm);have E8:=E7.fr F8 (show ¬w.heap.size=gt by omega)
   obtain⟨M8,FH,h8,r8,K8⟩:=tM.gF h6.out r6.out SR (by have:=hJ.k.l;rw[<-hJ.e,List.length_map] at this;have:=hJ.js;omega) (w1:=w7) (m':=m2) (by rw[g6,<-qR.out];show Fr (aB m.tv) W6 w7;rw[vU];exact f7.out) (by rw[<-rP];show w7.ownsRow 0 _ 1 _ (m.x.gF++[_]).length _;have:=Cu.out;rw[cX,yy.out];exact(by simpa[bm,yy.out] using this)) (λb hb=>by
    rw[g6,<-qR.out];show aB m.tv b\/_;rw[vU];rw[<-rP] at hb;obtain rfl:=aB.fg hb;rcases Db.out with e|e
    ·exact .inl e
    ·exact .inr e) (F8.mono (λb _ e=>by rw[e];exact AF)) T8 (by rw[g6,<-qR.out,<-rP];exact⟨rfl,rfl⟩)
   rw[List.set_set] at T8 r8;replace K8:=((dP.calm 10000 τ0 kA).trans K6.out).trans K8;have Zq:j<(ms.set j m2).length:=by rw[bE];exact hJ.js
   have g8:=ks hJ.js m2 eP;have p8:=cf fq (by decide) T8 eP Zq 8 (u:=vI m2.x.en) (by rw[g8];rfl);have p81:=p8.1;have p82:=p8.2;rw[jn];clear T7 A7 C7 E7 F8 y71 y72 XU XS XW XR h6 r6 K6 T6 A6 C6 E6 Cu f7 Db hro p71 p72 p7 CX yC p61 p62 p8;replace jn:=af jn;have abD:=yy;have abn:=qR
   by_cases RE:ee=141
   ·subst RE;have qh:=qh W8 141;rw[show n_ 141=true from rfl] at qh;have T9:=fV (n:=ms.length) T8 (by rw[bE]) Zq 8 (by decide) (vI 2) { m2 with x:={ m2.x with en:=2 } } (by rw[g8];rfl);rw[List.set_set] at T9;have F9:Fr (λk=>k=gt) W8 (W8.setCell ⟨gt,j*10+8,none⟩ (vI 2)):=(Fr.refl (λk=>k=gt) W8).setCell (p:=⟨gt,j*10+8,none⟩) (.inl rfl) _;obtain⟨W9,vq⟩:=au (W8.setCell ⟨gt,j*10+8,none⟩ (vI 2));rw[vq] at T9 F9;have A9:=az A8 F9 (λb hb e=>fG (by obtain rfl:=aB.fg hb;exact e));have C9:=C8.fr F9 (λe=>qU e.symm);have E9:=E8.fr F9 (show ¬w.heap.size=gt by omega);have Qs:j<(ms.set j { m2 with x:={ m2.x with en:=2 } }).length:=by rw[bE];exact hJ.js
    have g9:=ks hJ.js ({ m2 with x:={ m2.x with en:=2 } } : rE) eP;have p5:=cf fq (by decide) T9 eP Qs 5 (u:=vI m2.x.dr) (by rw[g9];rfl);have p51:=p5.1;have p52:=p5.2;have Em:=fV (n:=ms.length) T9 (by rw[bE]) Qs 5 (by decide) (vI (i:Int)) { m2 with x:={ m2.x with en:=2,dr:=(i:Int) } } (by rw[g9];rfl);rw[List.set_set] at Em;have wH:Fr (λk=>k=gt) W9 (W9.setCell ⟨gt,j*10+5,none⟩ (vI (i:Int))):=(Fr.refl (λk=>k=gt) W9).setCell (p:=⟨gt,j*10+5,none⟩) (.inl rfl) _;obtain⟨zM,vK⟩:=au (W9.setCell ⟨gt,j*10+5,none⟩ (vI (i:Int)));rw[vK] at Em wH;have Iq:=az A9 wH (λb hb e=>fG (by obtain rfl:=aB.fg hb;exact e));have PE:=C9.fr wH (λe=>qU e.symm);have PJ:=E9.fr wH (show ¬w.heap.size=gt by omega);have q1:=cf eN (by decide) Iq cJ hJ.ts 1 (u:=vI (j:Int)) (by rw[<-hj.out];rfl);have uQ:=q1.1;have q_:=q1.2;have FJ:=fQ Iq rfl hJ.ts 1 (by decide) (vI (-1)) ⟨(r.sp.getD t cJ).block,-1⟩ rfl;have wI:Fr (λk=>k=ga) zM (zM.setCell ⟨ga,t*2+1,none⟩ (vI (-1))):=(Fr.refl (λk=>k=ga) zM).setCell (p:=⟨ga,t*2+1,none⟩) (.inl rfl) _;obtain⟨Ep,Jm⟩:=au (zM.setCell ⟨ga,t*2+1,none⟩ (vI (-1)));rw[Jm] at FJ wI;have PQ:=az Em wI (λb hb e=>fG (by obtain rfl:=aB.fg hb;exact e.symm));have PF:=PE.fr wI (λe=>A_ e.symm);have PK:=PJ.fr wI (show ¬w.heap.size=ga by omega);have z4:=(E8 4 _ rfl).1;have z4':=(PK 4 _ rfl).1;have AB:Fr (λb=>b=rp\/aB (.slice (some ⟨ga,0,none⟩) r.sp.length ca) b\/aB (.slice (some ⟨gt,0,none⟩) ms.length ct) b) W8 Ep:=((F9.mono (λb _ e=>.inr (.inr (by rw[e];exact AF)))).trans (wH.mono (λb _ e=>.inr (.inr (by rw[e];exact AF))))).trans (wI.mono (λb _ e=>.inr (.inl (by rw[e];exact Hy))))
    have hP:jm w τ rp i pv Q (r.gX Q i ⟨t,b,NA,k,141,v⟩) (.returned (.bool true)) Ep:=by
     obtain⟨M',aX,Ig,XH,Qw⟩:=tM.dN h8 r8 AB PF FJ PQ (λb hb=>.inl hb) (by rw[bE,bE];exact aM _) (λq hq=>by
      rw[bE] at hq;have:=mF (ms:=ms.set j m2) (j:=j) (m':={ m2 with x:={ m2.x with en:=2,dr:=(i:Int) } }) (by rw[bE];exact hJ.js) (by rw[g8];exact⟨rfl,rfl,rfl,rfl⟩) q (by rw[bE];exact hq);rw[List.set_set] at this
      exact this) (λq h1 h2=>by rw[bE] at h1 h2;omega)
     have pZ:last Q ⟨t,b,NA,k,141,v⟩=true:=by
      unfold last;rfl
     have er:r.gX Q i ⟨t,b,NA,k,141,v⟩=some ⟨r.sp.set t ⟨(r.sp.getD t cJ).block,-1⟩,r.tr.set j { m2.x with en:=2,dr:=(i:Int) },r.bY⟩:=by
      unfold Rd.gX;rw[ng.out,if_neg (by rw[Gr.out,wX.out];rintro (h|h);exact h rfl;have h:(ND:Int)<=(NA:Int):=h;omega),pZ];have e8:(r.spot ⟨t,b,NA,k,141,v⟩).tr.toNat=j:=by show(r.sp.getD t cJ).tr.toNat=j;rw[hj.out];rfl
      have e9:(r.spot ⟨t,b,NA,k,141,v⟩).block=(r.sp.getD t cJ).block:=rfl;rw[e8,e9,if_pos rfl,if_neg (show ¬((141:Int)≠141) from λh=>h rfl),if_pos rfl,if_pos rfl,<-rP];rfl
     refine .inl ⟨_,aX,er,rfl,⟨M',_,_,_,Ig,XH,?_,Qw.Fl (K8.Fl hJ.p),?_⟩,(K8.trans Qw).dp tk⟩
     ·rw[List.map_set,hJ.e]
     ·refine hJ.k.dN (t:=t) (.inl rfl) ⟨(hJ.k.s t hJ.ts).1,Int.le_refl (-1),by show(-1:Int)<_;omega⟩ ⟨by simp,by have:=hJ.k.l;simp;omega⟩ rfl (λq hq=>?_);have yP:q<r.tr.length:=by simpa using hq
      clear hq
      by_cases e:q=j
      ·subst e;right;have e7:=ks yP ({ m2.x with en:=2,dr:=(i:Int) } : Tr) aK;simp only[] at e7 ⊢;rw[e7];have ha:=hJ.k.a q yP;rw[GB.out] at ha;rw[<-rP];exact⟨by show(m.x.aJ++[_]).length<=i+1;rw[cX];have:=ha.1;simp;omega,by show(m.x.gF++[_]).length<=i+1;rw[cX];have:=ha.2.1;simp;omega,by show(0:Int)<=2;decide,Int.le_refl 2⟩
      ·exact .inl ⟨yP,rH e _ _⟩
    replace hP:=af hP;clear T8 A8 C8 E8 T9 A9 C9 E9 Em Iq PE PJ PQ FJ PF PK F9 wH wI AB p5 q1 hJ h8 r8 K8;replace fG:=af fG;go_wp2_with (go_at_call 84;refine qh.mono ?_;rintro en w' ⟨rfl,rfl⟩)
    go_ret;exact hP.out
   ·by_cases hf:n_ ee=true
    ·have qh:=qh W8 ee;rw[hf] at qh;have T9:=fV (n:=ms.length) T8 (by rw[bE]) Zq 8 (by decide) (vI 2) { m2 with x:={ m2.x with en:=2 } } (by rw[g8];rfl);rw[List.set_set] at T9;have F9:Fr (λk=>k=gt) W8 (W8.setCell ⟨gt,j*10+8,none⟩ (vI 2)):=(Fr.refl (λk=>k=gt) W8).setCell (p:=⟨gt,j*10+8,none⟩) (.inl rfl) _;obtain⟨W9,vq⟩:=au (W8.setCell ⟨gt,j*10+8,none⟩ (vI 2));rw[vq] at T9 F9;have A9:=az A8 F9 (λb hb e=>fG (by obtain rfl:=aB.fg hb;exact e));have C9:=C8.fr F9 (λe=>qU e.symm);have E9:=E8.fr F9 (show ¬w.heap.size=gt by omega);have Qs:j<(ms.set j { m2 with x:={ m2.x with en:=2 } }).length:=by rw[bE];exact hJ.js
     have g9:=ks hJ.js ({ m2 with x:={ m2.x with en:=2 } } : rE) eP;have p5:=cf fq (by decide) T9 eP Qs 5 (u:=vI m2.x.dr) (by rw[g9];rfl);have p51:=p5.1;have p52:=p5.2;have Em:=fV (n:=ms.length) T9 (by rw[bE]) Qs 5 (by decide) (vI (i:Int)) { m2 with x:={ m2.x with en:=2,dr:=(i:Int) } } (by rw[g9];rfl);rw[List.set_set] at Em;have wH:Fr (λk=>k=gt) W9 (W9.setCell ⟨gt,j*10+5,none⟩ (vI (i:Int))):=(Fr.refl (λk=>k=gt) W9).setCell (p:=⟨gt,j*10+5,none⟩) (.inl rfl) _;obtain⟨zM,vK⟩:=au (W9.setCell ⟨gt,j*10+5,none⟩ (vI (i:Int)));rw[vK] at Em wH;have Iq:=az A9 wH (λb hb e=>fG (by obtain rfl:=aB.fg hb;exact e));have PE:=C9.fr wH (λe=>qU e.symm);have PJ:=E9.fr wH (show ¬w.heap.size=gt by omega);have q1:=cf eN (by decide) Iq cJ hJ.ts 1 (u:=vI (j:Int)) (by rw[<-hj.out];rfl);have uQ:=q1.1;have q_:=q1.2;have FJ:=fQ Iq rfl hJ.ts 1 (by decide) (vI (-1)) ⟨(r.sp.getD t cJ).block,-1⟩ rfl;have wI:Fr (λk=>k=ga) zM (zM.setCell ⟨ga,t*2+1,none⟩ (vI (-1))):=(Fr.refl (λk=>k=ga) zM).setCell (p:=⟨ga,t*2+1,none⟩) (.inl rfl) _;obtain⟨Ep,Jm⟩:=au (zM.setCell ⟨ga,t*2+1,none⟩ (vI (-1)));rw[Jm] at FJ wI;have PQ:=az Em wI (λb hb e=>fG (by obtain rfl:=aB.fg hb;exact e.symm));have PF:=PE.fr wI (λe=>A_ e.symm);have PK:=PJ.fr wI (show ¬w.heap.size=ga by omega);have z4:=(E8 4 _ rfl).1;have z4':=(PK 4 _ rfl).1;have AB:Fr (λb=>b=rp\/aB (.slice (some ⟨ga,0,none⟩) r.sp.length ca) b\/aB (.slice (some ⟨gt,0,none⟩) ms.length ct) b) W8 Ep:=((F9.mono (λb _ e=>.inr (.inr (by rw[e];exact AF)))).trans (wH.mono (λb _ e=>.inr (.inr (by rw[e];exact AF))))).trans (wI.mono (λb _ e=>.inr (.inl (by rw[e];exact Hy))));have LQ:t<(r.sp.set t ⟨(r.sp.getD t cJ).block,-1⟩).length:=by rw[bE];exact hJ.ts
     have ui:=ks hJ.ts (⟨(r.sp.getD t cJ).block,-1⟩:tN) cJ;have q0:=cf eN (by decide) FJ cJ LQ 0 (u:=vI (b:Int)) (by rw[ui,<-sW.out];rfl);rw[fj] at q0;have qk:=q0.1;have ql:=q0.2;have MF:=fQ (n:=r.sp.length) FJ (by rw[bE]) LQ 0 (by decide) (vI ((b:Int)+1)) ⟨(b:Int)+1,-1⟩ (by rw[ui];rfl);rw[List.set_set,fj] at MF;have Iv:Fr (λk=>k=ga) Ep (Ep.setCell ⟨ga,t*2,none⟩ (vI ((b:Int)+1))):=(Fr.refl (λk=>k=ga) Ep).setCell (p:=⟨ga,t*2,none⟩) (.inl rfl) _;obtain⟨W12,RL⟩:=au (Ep.setCell ⟨ga,t*2,none⟩ (vI ((b:Int)+1)));rw[RL] at MF Iv;have Vp:=az PQ Iv (λb hb e=>fG (by obtain rfl:=aB.fg hb;exact e.symm));have Vc:=PF.fr Iv (λe=>A_ e.symm);have RK:NB<=3:=by have:=hQ.out.b t (by rw[ji.out];exact ht);rw[oH.out] at this;exact this
     have AL:cL ((b:Int)+1):=⟨by omega,by omega⟩;have J2:IntKind.i64.wrap ((b:Int)+1)=(b:Int)+1:=IntWalk.i64_in _ AL;have WW:(ee != 141)=true:=by simp[bne,RE]
     have Je:=AB.trans (Iv.mono (λb _ e=>.inr (.inl (by rw[e];exact Hy))))
     have hP:jm w τ rp i pv Q (r.gX Q i ⟨t,b,NA,k,ee,v⟩) (.returned (.bool true)) W12:=by
      obtain⟨M',aX,Ig,XH,Qw⟩:=tM.dN h8 r8 Je Vc MF Vp (λb hb=>.inl hb) (by rw[bE,bE];exact aM _) (λq hq=>by
       rw[bE] at hq;have:=mF (ms:=ms.set j m2) (j:=j) (m':={ m2 with x:={ m2.x with en:=2,dr:=(i:Int) } }) (by rw[bE];exact hJ.js) (by rw[g8];exact⟨rfl,rfl,rfl,rfl⟩) q (by rw[bE];exact hq);rw[List.set_set] at this
       exact this) (λq h1 h2=>by rw[bE] at h1 h2;omega)
      have pZ:last Q ⟨t,b,NA,k,ee,v⟩=true:=by
       unfold last;simp only[hf,Bool.true_or]
      have er:r.gX Q i ⟨t,b,NA,k,ee,v⟩=some ⟨r.sp.set t ⟨(b:Int)+1,-1⟩,r.tr.set j { m2.x with en:=2,dr:=(i:Int) },r.bY⟩:=by
       unfold Rd.gX;rw[ng.out,if_neg (by rw[Gr.out,wX.out];rintro (h|h);exact h rfl;have h:(ND:Int)<=(NA:Int):=h;omega),pZ];have e8:(r.spot ⟨t,b,NA,k,ee,v⟩).tr.toNat=j:=by show(r.sp.getD t cJ).tr.toNat=j;rw[hj.out];rfl
       have e9:(r.spot ⟨t,b,NA,k,ee,v⟩).block=(b:Int):=sW.out;rw[e8,e9,if_pos rfl,if_pos (show ee≠141 from RE),if_pos rfl,if_pos rfl,<-rP];rfl
      refine .inl ⟨_,aX,er,rfl,⟨M',_,_,_,Ig,XH,?_,Qw.Fl (K8.Fl hJ.p),?_⟩,(K8.trans Qw).dp tk⟩
      ·rw[List.map_set,hJ.e]
      ·refine hJ.k.dN (t:=t) (.inl rfl) ⟨AL,Int.le_refl (-1),by show(-1:Int)<_;omega⟩ ⟨by simp,by have:=hJ.k.l;simp;omega⟩ rfl (λq hq=>?_);have yP:q<r.tr.length:=by simpa using hq
       clear hq
       by_cases e:q=j
       ·subst e;right;have e7:=ks yP ({ m2.x with en:=2,dr:=(i:Int) } : Tr) aK;simp only[] at e7 ⊢;rw[e7];have ha:=hJ.k.a q yP;rw[GB.out] at ha;rw[<-rP];exact⟨by show(m.x.aJ++[_]).length<=i+1;rw[cX];have:=ha.1;simp;omega,by show(m.x.gF++[_]).length<=i+1;rw[cX];have:=ha.2.1;simp;omega,by show(0:Int)<=2;decide,Int.le_refl 2⟩
       ·exact .inl ⟨yP,rH e _ _⟩
     replace hP:=af hP;clear T8 A8 C8 E8 T9 A9 C9 E9 Em Iq PE PJ PQ FJ PF PK F9 wH wI AB p5 q1 hJ h8 r8 K8 Iv Vp MF Vc Je q0;replace fG:=af fG;go_wp2_with (go_at_call 84;refine qh.mono ?_;rintro en w' ⟨rfl,rfl⟩)
     go_ret;exact hP.out
    ·have hf:n_ ee=false:=by simpa using hf
     have qh:=qh W8 ee;rw[hf] at qh
     by_cases h0:ee=0
     ·subst h0
      by_cases h14:d.k=14
      ·have VY:(d.k==14)=true:=by simp[h14]
       have T9:=fV (n:=ms.length) T8 (by rw[bE]) Zq 8 (by decide) (vI 2) { m2 with x:={ m2.x with en:=2 } } (by rw[g8];rfl);rw[List.set_set] at T9;have F9:Fr (λk=>k=gt) W8 (W8.setCell ⟨gt,j*10+8,none⟩ (vI 2)):=(Fr.refl (λk=>k=gt) W8).setCell (p:=⟨gt,j*10+8,none⟩) (.inl rfl) _;obtain⟨W9,vq⟩:=au (W8.setCell ⟨gt,j*10+8,none⟩ (vI 2));rw[vq] at T9 F9;have A9:=az A8 F9 (λb hb e=>fG (by obtain rfl:=aB.fg hb;exact e));have C9:=C8.fr F9 (λe=>qU e.symm);have E9:=E8.fr F9 (show ¬w.heap.size=gt by omega);have Qs:j<(ms.set j { m2 with x:={ m2.x with en:=2 } }).length:=by rw[bE];exact hJ.js
       have g9:=ks hJ.js ({ m2 with x:={ m2.x with en:=2 } } : rE) eP;have p5:=cf fq (by decide) T9 eP Qs 5 (u:=vI m2.x.dr) (by rw[g9];rfl);have p51:=p5.1;have p52:=p5.2;have Em:=fV (n:=ms.length) T9 (by rw[bE]) Qs 5 (by decide) (vI (i:Int)) { m2 with x:={ m2.x with en:=2,dr:=(i:Int) } } (by rw[g9];rfl);rw[List.set_set] at Em;have wH:Fr (λk=>k=gt) W9 (W9.setCell ⟨gt,j*10+5,none⟩ (vI (i:Int))):=(Fr.refl (λk=>k=gt) W9).setCell (p:=⟨gt,j*10+5,none⟩) (.inl rfl) _;obtain⟨zM,vK⟩:=au (W9.setCell ⟨gt,j*10+5,none⟩ (vI (i:Int)));rw[vK] at Em wH;have Iq:=az A9 wH (λb hb e=>fG (by obtain rfl:=aB.fg hb;exact e));have PE:=C9.fr wH (λe=>qU e.symm);have PJ:=E9.fr wH (show ¬w.heap.size=gt by omega);have q1:=cf eN (by decide) Iq cJ hJ.ts 1 (u:=vI (j:Int)) (by rw[<-hj.out];rfl);have uQ:=q1.1;have q_:=q1.2;have FJ:=fQ Iq rfl hJ.ts 1 (by decide) (vI (-1)) ⟨(r.sp.getD t cJ).block,-1⟩ rfl;have wI:Fr (λk=>k=ga) zM (zM.setCell ⟨ga,t*2+1,none⟩ (vI (-1))):=(Fr.refl (λk=>k=ga) zM).setCell (p:=⟨ga,t*2+1,none⟩) (.inl rfl) _;obtain⟨Ep,Jm⟩:=au (zM.setCell ⟨ga,t*2+1,none⟩ (vI (-1)));rw[Jm] at FJ wI;have PQ:=az Em wI (λb hb e=>fG (by obtain rfl:=aB.fg hb;exact e.symm));have PF:=PE.fr wI (λe=>A_ e.symm);have PK:=PJ.fr wI (show ¬w.heap.size=ga by omega);have z4:=(E8 4 _ rfl).1;have z4':=(PK 4 _ rfl).1;have AB:Fr (λb=>b=rp\/aB (.slice (some ⟨ga,0,none⟩) r.sp.length ca) b\/aB (.slice (some ⟨gt,0,none⟩) ms.length ct) b) W8 Ep:=((F9.mono (λb _ e=>.inr (.inr (by rw[e];exact AF)))).trans (wH.mono (λb _ e=>.inr (.inr (by rw[e];exact AF))))).trans (wI.mono (λb _ e=>.inr (.inl (by rw[e];exact Hy))));have LQ:t<(r.sp.set t ⟨(r.sp.getD t cJ).block,-1⟩).length:=by rw[bE];exact hJ.ts
       have ui:=ks hJ.ts (⟨(r.sp.getD t cJ).block,-1⟩:tN) cJ;have q0:=cf eN (by decide) FJ cJ LQ 0 (u:=vI (b:Int)) (by rw[ui,<-sW.out];rfl);rw[fj] at q0;have qk:=q0.1;have ql:=q0.2;have MF:=fQ (n:=r.sp.length) FJ (by rw[bE]) LQ 0 (by decide) (vI ((b:Int)+1)) ⟨(b:Int)+1,-1⟩ (by rw[ui];rfl);rw[List.set_set,fj] at MF;have Iv:Fr (λk=>k=ga) Ep (Ep.setCell ⟨ga,t*2,none⟩ (vI ((b:Int)+1))):=(Fr.refl (λk=>k=ga) Ep).setCell (p:=⟨ga,t*2,none⟩) (.inl rfl) _;obtain⟨W12,RL⟩:=au (Ep.setCell ⟨ga,t*2,none⟩ (vI ((b:Int)+1)));rw[RL] at MF Iv;have Vp:=az PQ Iv (λb hb e=>fG (by obtain rfl:=aB.fg hb;exact e.symm));have Vc:=PF.fr Iv (λe=>A_ e.symm);have RK:NB<=3:=by have:=hQ.out.b t (by rw[ji.out];exact ht);rw[oH.out] at this;exact this
       have AL:cL ((b:Int)+1):=⟨by omega,by omega⟩;have J2:IntKind.i64.wrap ((b:Int)+1)=(b:Int)+1:=IntWalk.i64_in _ AL;have WW:((0:Int) != 141)=true:=rfl;have Je:=AB.trans (Iv.mono (λb _ e=>.inr (.inl (by rw[e];exact Hy))))
       have hP:jm w τ rp i pv Q (r.gX Q i ⟨t,b,NA,k,0,v⟩) (.returned (.bool true)) W12:=by
        obtain⟨M',aX,Ig,XH,Qw⟩:=tM.dN h8 r8 Je Vc MF Vp (λb hb=>.inl hb) (by rw[bE,bE];exact aM _) (λq hq=>by
         rw[bE] at hq;have:=mF (ms:=ms.set j m2) (j:=j) (m':={ m2 with x:={ m2.x with en:=2,dr:=(i:Int) } }) (by rw[bE];exact hJ.js) (by rw[g8];exact⟨rfl,rfl,rfl,rfl⟩) q (by rw[bE];exact hq);rw[List.set_set] at this
         exact this) (λq h1 h2=>by rw[bE] at h1 h2;omega)
        have pZ:last Q ⟨t,b,NA,k,0,v⟩=true:=by
         unfold last;have Rk:((bU Q (t:Int) (b:Int)).getD NA dD).k=14:=by show(((Q.getD t []).getD b []).getD NA dD).k=14;rw[hd.out];exact h14
         show(n_ 0 || ((0:Int)==0 && (((bU Q (t:Int) (b:Int)).getD NA dD).k==14)))=true;rw[Rk];rfl
        have er:r.gX Q i ⟨t,b,NA,k,0,v⟩=some ⟨r.sp.set t ⟨(b:Int)+1,-1⟩,r.tr.set j { m2.x with en:=2,dr:=(i:Int) },r.bY⟩:=by
         unfold Rd.gX;rw[ng.out,if_neg (by rw[Gr.out,wX.out];rintro (h|h);exact h rfl;have h:(ND:Int)<=(NA:Int):=h;omega),pZ];have e8:(r.spot ⟨t,b,NA,k,0,v⟩).tr.toNat=j:=by show(r.sp.getD t cJ).tr.toNat=j;rw[hj.out];rfl
         have e9:(r.spot ⟨t,b,NA,k,0,v⟩).block=(b:Int):=sW.out;rw[e8,e9,if_pos rfl,if_pos (show(0:Int)≠141 from by decide),if_pos rfl,if_pos rfl,<-rP];rfl
        refine .inl ⟨_,aX,er,rfl,⟨M',_,_,_,Ig,XH,?_,Qw.Fl (K8.Fl hJ.p),?_⟩,(K8.trans Qw).dp tk⟩
        ·rw[List.map_set,hJ.e]
        ·refine hJ.k.dN (t:=t) (.inl rfl) ⟨AL,Int.le_refl (-1),by show(-1:Int)<_;omega⟩ ⟨by simp,by have:=hJ.k.l;simp;omega⟩ rfl (λq hq=>?_);have yP:q<r.tr.length:=by simpa using hq
         clear hq
         by_cases e:q=j
         ·subst e;right;have e7:=ks yP ({ m2.x with en:=2,dr:=(i:Int) } : Tr) aK;simp only[] at e7 ⊢;rw[e7];have ha:=hJ.k.a q yP;rw[GB.out] at ha;rw[<-rP];exact⟨by show(m.x.aJ++[_]).length<=i+1;rw[cX];have:=ha.1;simp;omega,by show(m.x.gF++[_]).length<=i+1;rw[cX];have:=ha.2.1;simp;omega,by show(0:Int)<=2;decide,Int.le_refl 2⟩
         ·exact .inl ⟨yP,rH e _ _⟩
       replace hP:=af hP;clear T8 A8 C8 E8 T9 A9 C9 E9 Em Iq PE PJ PQ FJ PF PK F9 wH wI AB p5 q1 hJ h8 r8 K8 Iv Vp MF Vc Je q0;replace fG:=af fG;go_wp2_with (go_at_call 84;refine qh.mono ?_;rintro en w' ⟨rfl,rfl⟩)
       go_ret;exact hP.out
      ·have VY:(d.k==14)=false:=by simp[h14]
       have z4:=(E8 4 _ rfl).1
       have hP:jm w τ rp i pv Q (r.gX Q i ⟨t,b,NA,k,0,v⟩) (.returned (.bool true)) W8:=by
        have pZ:last Q ⟨t,b,NA,k,0,v⟩=false:=by
         unfold last;have Rk:((bU Q (t:Int) (b:Int)).getD NA dD).k=d.k:=by show(((Q.getD t []).getD b []).getD NA dD).k=d.k;rw[hd.out]
         show(n_ 0 || ((0:Int)==0 && (((bU Q (t:Int) (b:Int)).getD NA dD).k==14)))=false;rw[Rk,VY];rfl
        have er:r.gX Q i ⟨t,b,NA,k,0,v⟩=some ⟨r.sp,r.tr.set j m2.x,r.bY⟩:=by
         unfold Rd.gX;rw[ng.out,if_neg (by rw[Gr.out,wX.out];rintro (h|h);exact h rfl;have h:(ND:Int)<=(NA:Int):=h;omega),pZ];have e8:(r.spot ⟨t,b,NA,k,0,v⟩).tr.toNat=j:=by show(r.sp.getD t cJ).tr.toNat=j;rw[hj.out];rfl
         rw[e8,<-rP];rfl
        refine .inl ⟨_,FH,er,rfl,⟨M8,_,_,_,h8,r8,?_,K8.Fl hJ.p,?_⟩,K8.dp tk⟩
        ·rw[List.map_set,hJ.e]
        ·refine hJ.k.dN (t:=t) (s':=r.sp.getD t cJ) (.inr rfl) ⟨(hJ.k.s t hJ.ts).1,(hJ.k.s t hJ.ts).2.1,by show _<((r.tr.set j _).length:Int);rw[bE];exact(hJ.k.s t hJ.ts).2.2⟩ ⟨by simp,by have:=hJ.k.l;simp;omega⟩ rfl (λq hq=>?_);have yP:q<r.tr.length:=by simpa using hq
         clear hq
         by_cases e:q=j
         ·subst e;right;have e7:=ks yP m2.x aK;simp only[] at e7 ⊢;rw[e7];have ha:=hJ.k.a q yP;rw[GB.out] at ha;rw[<-rP];exact⟨by show(m.x.aJ++[_]).length<=i+1;rw[cX];have:=ha.1;simp;omega,by show(m.x.gF++[_]).length<=i+1;rw[cX];have:=ha.2.1;simp;omega,ha.2.2⟩
         ·exact .inl ⟨yP,rH e _ _⟩
       replace hP:=af hP;clear T8 A8 C8 E8 hJ h8 r8 K8;replace fG:=af fG;go_wp2_with (go_at_call 84;refine qh.mono ?_;rintro en w' ⟨rfl,rfl⟩)
       go_ret;exact hP.out
     ·have h0':(ee==0)=false:=by simp[h0]
      have z4:=(E8 4 _ rfl).1
      have hP:jm w τ rp i pv Q (r.gX Q i ⟨t,b,NA,k,ee,v⟩) (.returned (.bool true)) W8:=by
       have pZ:last Q ⟨t,b,NA,k,ee,v⟩=false:=by
        unfold last;show(n_ ee || (ee==0 && _))=false;rw[hf,h0'];rfl
       have er:r.gX Q i ⟨t,b,NA,k,ee,v⟩=some ⟨r.sp,r.tr.set j m2.x,r.bY⟩:=by
        unfold Rd.gX;rw[ng.out,if_neg (by rw[Gr.out,wX.out];rintro (h|h);exact h rfl;have h:(ND:Int)<=(NA:Int):=h;omega),pZ];have e8:(r.spot ⟨t,b,NA,k,ee,v⟩).tr.toNat=j:=by show(r.sp.getD t cJ).tr.toNat=j;rw[hj.out];rfl
        rw[e8,<-rP];rfl
       refine .inl ⟨_,FH,er,rfl,⟨M8,_,_,_,h8,r8,?_,K8.Fl hJ.p,?_⟩,K8.dp tk⟩
       ·rw[List.map_set,hJ.e]
       ·refine hJ.k.dN (t:=t) (s':=r.sp.getD t cJ) (.inr rfl) ⟨(hJ.k.s t hJ.ts).1,(hJ.k.s t hJ.ts).2.1,by show _<((r.tr.set j _).length:Int);rw[bE];exact(hJ.k.s t hJ.ts).2.2⟩ ⟨by simp,by have:=hJ.k.l;simp;omega⟩ rfl (λq hq=>?_);have yP:q<r.tr.length:=by simpa using hq
        clear hq
        by_cases e:q=j
        ·subst e;right;have e7:=ks yP m2.x aK;simp only[] at e7 ⊢;rw[e7];have ha:=hJ.k.a q yP;rw[GB.out] at ha;rw[<-rP];exact⟨by show(m.x.aJ++[_]).length<=i+1;rw[cX];have:=ha.1;simp;omega,by show(m.x.gF++[_]).length<=i+1;rw[cX];have:=ha.2.1;simp;omega,ha.2.2⟩
        ·exact .inl ⟨yP,rH e _ _⟩
      replace hP:=af hP;clear T8 A8 C8 E8 hJ h8 r8 K8;replace fG:=af fG;go_wp2_with (go_at_call 84;refine qh.mono ?_;rintro en w' ⟨rfl,rfl⟩)
      go_ret;exact hP.out
 ·have NZ:(n != (NA:Int))=true:=by simp[bne,hn]
  have hP:Hid (∀W,Calm w W->jm w τ rp i pv Q (r.gX Q i ⟨t,b,n,k,ee,v⟩) (.returned (.bool false)) W):=λW c=>qV.out W c (by unfold Rd.gX;rw[ng.out,wX.out];exact if_pos (.inl hn));replace hn:=af hn;go_wp2_with fail
  go_quiet (fail)
  go_wp2;go_ret;exact hP.out _ (k3.trans (aq.drewN nq))
end
section
variable {w:aj}{τ:Nat->Nat}{rp i:Nat}{pv:aC}{Q:Pg}{r:Rd}
theorem jm.out{W w':aj}{τ0:Nat->Nat}{r':Option Rd}{en:Ending}(h:jm W τ0 rp i pv Q r' en w')(c:Calm w W)(tk:nV w τ τ0):jm w τ rp i pv Q r' en w':=by
 rcases h with ⟨x,aX,e1,e2,h,k⟩|⟨e1,e2,f⟩
 ·exact .inl ⟨x,aX,e1,e2,h,((dP.calm 10000 τ0 c).trans k).dp tk⟩
 ·exact .inr ⟨e1,e2,(((Calm.any c:Fr (λk=>τ0 k<10000) _ _).trans f).mono (λk hk e=>by show τ k<10000;rw[<-tk k hk];exact e))⟩
theorem iZ.bY{w':aj}(h:iZ w τ rp pv Q i r){came':Int}(hc:∀vs,ag w rp vs->vs.length=4->ag w' rp (vs.set 3 (vI came')))(f:Fr (λk=>k=rp) w w')(hb:0<=came'/\came'<=(i+1:Nat)):∃aX,iZ w' aX rp pv Q (i+1) { r with bY:=came' } /\ dP 10000 w τ w' aX:=by
 obtain⟨M,atv,cz,ms,h1,h2,h3,h4,h5⟩:=h;have jX:ag w rp [pv,atv,cz,vI r.bY]:=by have:=h1.at_ 1;rw[h2.c] at this;exact this
 have ha:w.ownsRow 0 135 2 atv r.sp.length (r.sp.flatMap sL):=by have:=h1.at_ 2;rw[h2.a] at this;exact this
 have ng:w.ownsRow 0 89 10 cz ms.length (ms.flatMap rz):=by have:=h1.at_ 3;rw[h2.t] at this;exact this
 have gC:ag w' rp [pv,atv,cz,vI came']:=hc _ jX rfl;obtain⟨M',aX,m1,m2,m3⟩:=tM.dN (ms':=ms) h1 h2 (f.mono (λb _ e=>.inl e)) gC (az ha f (λb hb e=>h1.apart (t:=2) (u:=1) (k:=b) (by decide) (by rw[h2.a];exact hb) (by rw[h2.c];exact e))) (az ng f (λb hb e=>h1.apart (t:=3) (u:=1) (k:=b) (by decide) (by rw[h2.t];exact hb) (by rw[h2.c];exact e))) (λb hb=>.inl hb) (aM _) (λk hk=>⟨rfl,rfl,rfl,rfl⟩) (λk h1 h2=>by omega);refine⟨aX,⟨M',atv,cz,ms,m1,m2,h3,m3.Fl h4,⟨h5.n,h5.s,hb,?_,λk hk=>?_⟩⟩,m3⟩
 ·have:=h5.l;show r.tr.length<=_;omega
 ·have:=h5.a k hk;exact⟨by show(r.tr.getD k aK).aJ.length<=i+1;omega,by show(r.tr.getD k aK).gF.length<=i+1;omega,this.2.2.1,this.2.2.2⟩
theorem iZ.next(h:iZ w τ rp pv Q i r):iZ w τ rp pv Q (i+1) r:=by
 obtain⟨M,atv,cz,ms,h1,h2,h3,h4,h5⟩:=h;exact⟨M,atv,cz,ms,h1,h2,h3,h4,h5.mono (Nat.le_succ _)⟩
theorem Ll(h:iZ w τ rp pv Q i r)(hi:i<=2000)(hQ:tL Q)(t b n k ee v:Int):aL prog 56 #[pR rp,vI (i:Int),.agg #[vI t,vI b,vI n,vI k,vI ee,vI v]] w (jm w τ rp i pv Q (r.take Q i ⟨t,b,n,k,ee,v⟩)):=by
 obtain⟨τ0,h0,tk,fr⟩:=h.fresh;clear h;have k0:Calm w (w.alloc (.cells #[vI t,vI b,vI n,vI k,vI ee,vI v] 76)):=aq.alloc _;have oE:ag (w.alloc (.cells #[vI t,vI b,vI n,vI k,vI ee,vI v] 76)) w.heap.size (lG t b n k ee v):=ag.GU w [_,_,_,_,_,_] _ _ rfl;obtain⟨W0,gS⟩:=au (w.alloc (.cells #[vI t,vI b,vI n,vI k,vI ee,vI v] 76));rw[gS] at k0 oE;have hX:=h0.calm k0;obtain⟨M,atv,cz,ms,h1,h2,h3,h4,h5⟩:=h0;have hc:ag w rp [pv,atv,cz,vI r.bY]:=by have:=h1.at_ 1;rw[h2.c] at this;exact this
 have ha:w.ownsRow 0 135 2 atv r.sp.length (r.sp.flatMap sL):=by have:=h1.at_ 2;rw[h2.a] at this;exact this
 have Xe:rp<w.heap.size:=hc.lt (by simp);obtain⟨pa,pc,zT,xf⟩:=h4;obtain⟨aa,ac,vW⟩:=aG ha;obtain⟨NS,su⟩:=au r.sp.length;obtain⟨NQ,ji⟩:=au Q.length;have hSQ:NS=NQ:=by rw[<-su,<-ji];exact h5.n
 rw[su] at vW;rw[ji] at zT;have vA:∀W,Calm w W->W.cell? ⟨rp,0,none⟩=some (.slice pa NQ pc):=λW c=>by rw[<-zT];exact c.cellAt (hc 0 _ rfl).1 id
 have Cx:∀W,Calm w W->W.cell? ⟨rp,1,none⟩=some (.slice aa NS ac):=λW c=>by rw[<-vW];exact c.cellAt (hc 1 _ rfl).1 id
 have J5:=(hc.calm k0 3 _ rfl);have qV:Hid (∀W,Calm w W->r.take Q i ⟨t,b,n,k,ee,v⟩=none->jm w τ rp i pv Q (r.take Q i ⟨t,b,n,k,ee,v⟩) (.returned (.bool false)) W):=λW c e=>.inr ⟨e,rfl,c.any⟩;have hk5:=h5.c
 have SA:Hid (∀q,q<NS->∃g,aa=some ⟨g,0,none⟩/\(∀W,Calm w W->W.cell? ⟨g,q*2,none⟩=some (vI (r.sp.getD q cJ).block)/\W.cell? ⟨g,q*2+1,none⟩=some (vI (r.sp.getD q cJ).tr))/\-1<=(r.sp.getD q cJ).tr):=λq hq=>by
  obtain⟨g,c,hv,hg⟩:=bz eN (by decide) ha cJ (i:=q) (by omega);rw[vW,su] at hv;injection hv with e1 e2 e3
  exact⟨g,e1,λW c=>⟨by have:=c.cellAt (hg 0 _ rfl).1 id;rwa [fj] at this,c.cellAt (hg 1 _ rfl).1 id⟩,(h5.s q (by omega)).2.1⟩
 have hpq:Hid (∀q,q<NQ->∃g o u uc,pa=some ⟨g,o,none⟩/\∀W,Calm w W->W.cell? ⟨g,o+q,none⟩=some (.slice u (Q.getD q []).length uc)):=λq hq=>by
  obtain⟨g,o,u,e,tg,kL,ub,uc,hu,_⟩:=xf q (by omega);exact⟨g,o,ub,uc,e,λW c=>by rw[<-hu];exact c.cellAt kL id⟩
 replace vA:=af vA;replace Cx:=af Cx;replace su:=af su;replace ji:=af ji;replace hX:=af hX;have z0:=(oE 0 _ rfl).1;have z3:=(oE 3 _ rfl).1;clear h1 h2 h3 ha vW xf zT hc
 by_cases pE:t = -1
 ·subst pE;have Gp:IntKind.i64.wrap (r.bY+1)=r.bY+1:=IntWalk.i64_in _ ⟨by omega,by omega⟩
  by_cases V5:k=5
  ·subst V5;have y31:=J5.1;have y32:=J5.2;have F1:=l_ W0 (rp) 3 (vI (r.bY+1))
   have hP:jm w τ rp i pv Q (r.take Q i ⟨-1,b,n,5,ee,v⟩) (.returned (.bool true)) (W0.setCell ⟨rp,3,none⟩ (vI (r.bY+1))):=by
    obtain⟨aX,m1,m2⟩:=hX.out.bY (came':=r.bY+1) (λvs o hl=>o.set 3 (vI (r.bY+1)) (by omega)) F1 ⟨by omega,by omega⟩;have e1:r.take Q i ⟨-1,b,n,5,ee,v⟩=some { r with bY:=r.bY+1 }:=by unfold Rd.take;rw[if_pos rfl,if_pos rfl]
    exact jm.out (W:=W0) (τ0:=τ0) (.inl ⟨_,aX,e1,rfl,m1,m2⟩) k0 tk
   replace hP:=af hP;have z3':=F1.cellAt z3 (by show ¬w.heap.size=rp;omega);clear F1 J5;go_in;go_wp2;go_ret;exact hP.out
  ·have h5b:(k==5)=false:=by simp[V5]
   by_cases V4:k=4
   ·subst V4
    have hP:jm w τ rp i pv Q (r.take Q i ⟨-1,b,n,4,ee,v⟩) (.returned (.bool true)) W0:=by
     have e1:r.take Q i ⟨-1,b,n,4,ee,v⟩=some r:=by unfold Rd.take;rw[if_pos rfl,if_neg (show ¬((4:Int)=5) by decide),if_pos rfl]
     exact jm.out (W:=W0) (τ0:=τ0) (.inl ⟨r,τ0,e1,rfl,hX.out.next,.refl _ _ _⟩) k0 tk
    replace hP:=af hP;clear J5;go_in;go_wp2;go_ret;exact hP.out
   ·have h4b:(k==4)=false:=by simp[V4]
    have hP:=af (qV.out W0 k0 (by unfold Rd.take;rw[if_pos rfl,if_neg V5,if_neg V4]));replace V4:=af V4;replace V5:=af V5;clear J5;go_in;go_wp2;go_ret;exact hP.out
 ·have abZ:(t==-1)=false:=by simp[pE]
  clear J5
  by_cases lq:t<0
  ·have ab2:decide (t<0)=true:=decide_eq_true lq;have hP:Hid (∀W,Calm w W->jm w τ rp i pv Q (r.take Q i ⟨t,b,n,k,ee,v⟩) (.returned (.bool false)) W):=λW c=>qV.out W c (by unfold Rd.take;rw[if_neg pE,if_pos (.inl lq)]);replace pE:=af pE;replace lq:=af lq;go_in;go_wp2_with fail
   go_quiet (fail)
   go_wp2;go_ret;exact hP.out _ (k0.trans (aq.drewN nq))
  obtain⟨t,rfl⟩:∃q:Nat,t=q:=⟨t.toNat,by omega⟩;have ab1:decide ((t:Int)<0)=false:=decide_eq_false lq;have y0:=vA.out W0 k0
  by_cases jG:NQ<=t
  ·have aaY:decide (t>=NQ)=true:=decide_eq_true jG;have hP:Hid (∀W,Calm w W->jm w τ rp i pv Q (r.take Q i ⟨t,b,n,k,ee,v⟩) (.returned (.bool false)) W):=λW c=>qV.out W c (by unfold Rd.take;rw[if_neg pE,if_pos (.inr (by rw[ji.out];show(NQ:Int)<=(t:Int);omega))]);replace pE:=af pE;replace lq:=af lq;replace jG:=af jG;go_in;go_wp2_with fail
   go_quiet (fail)
   go_wp2;go_ret;exact hP.out _ (k0.trans (aq.drewN nq))
  have xg:t<NQ:=by omega
  have aaY:decide (NQ<=t)=false:=decide_eq_false jG;have Gz:t<NS:=by omega
  obtain⟨g,o,ub,uc,rfl,H9⟩:=hpq.out t xg;obtain⟨ga,rfl,hsc,aaU⟩:=SA.out t Gz;obtain⟨NB,oH⟩:=au ((Q.getD t []).length);rw[oH] at H9;obtain⟨sb,Ql⟩:=au ((r.sp.getD t cJ).block);obtain⟨st,cy⟩:=au ((r.sp.getD t cJ).tr);rw[Ql,cy] at hsc;rw[cy] at aaU;replace hsc:=af hsc;replace H9:=af H9;replace hpq:=af hpq;replace SA:=af SA;have vN:Hid (¬((t:Int)<0\/(Q.length:Int)<=(t:Int))):=by show ¬_;rw[ji.out];omega
  replace pE:=af pE;replace lq:=af lq;replace jG:=af jG;replace oH:=af oH;replace Ql:=af Ql;replace cy:=af cy;replace hQ:=af hQ;go_in;go_wp2_with fail
  go_quiet (fail)
  have k1:Calm w (W0.drewN nq):=k0.trans (aq.drewN nq);have vX:ag (W0.drewN nq) w.heap.size (lG t b n k ee v):=oE.calm (aq.drewN nq);replace hX:=af (hX.out.calm (aq.drewN nq:Calm W0 (W0.drewN nq)));generalize W0.drewN nq=W1 at *;clear y0 z0 z3 oE k0 gS;obtain⟨z0,z1⟩:=ag.lF vX;have y0:=vA.out W1 k1;have y1:=Cx.out W1 k1;have y2:=H9.out W1 k1;have y3:=(hsc.out W1 k1).1
  by_cases mX:b<0
  ·have aas:decide (b<0)=true:=decide_eq_true mX;have hP:Hid (∀W,Calm w W->jm w τ rp i pv Q (r.take Q i ⟨t,b,n,k,ee,v⟩) (.returned (.bool false)) W):=λW c=>qV.out W c (by unfold Rd.take;rw[if_neg pE.out,if_neg vN.out,if_pos (.inl mX)]);replace mX:=af mX;go_wp2_with fail
   go_quiet (fail)
   go_wp2;go_ret;exact hP.out _ (k1.trans (aq.drewN nq))
  obtain⟨b,rfl⟩:∃q:Nat,b=q:=⟨b.toNat,by omega⟩;have aas:decide ((b:Int)<0)=false:=decide_eq_false mX
  by_cases Gn:NB<=b
  ·have aat:decide (b>=NB)=true:=decide_eq_true Gn;have hP:Hid (∀W,Calm w W->jm w τ rp i pv Q (r.take Q i ⟨t,b,n,k,ee,v⟩) (.returned (.bool false)) W):=λW c=>qV.out W c (by unfold Rd.take;rw[if_neg pE.out,if_neg vN.out,if_pos (.inr (.inl (by show((Q.getD t []).length:Int)<=(b:Int);rw[oH.out];omega)))]);replace Gn:=af Gn;go_wp2_with fail
   go_quiet (fail)
   go_wp2;go_ret;exact hP.out _ (k1.trans (aq.drewN nq))
  have aat:decide (NB<=b)=false:=decide_eq_false Gn
  by_cases yD:¬(b:Int)=sb
  ·have aau:((b:Int) != sb)=true:=by simp[bne,yD]
   have hP:Hid (∀W,Calm w W->jm w τ rp i pv Q (r.take Q i ⟨t,b,n,k,ee,v⟩) (.returned (.bool false)) W):=λW c=>qV.out W c (by unfold Rd.take;rw[if_neg pE.out,if_neg vN.out,if_pos (.inr (.inr (by show(b:Int)≠(r.sp.getD t cJ).block;rw[Ql.out];exact yD)))]);replace yD:=af yD;go_wp2_with fail
   go_quiet (fail)
   go_wp2;go_ret;exact hP.out _ (k1.trans (aq.drewN nq))
  have yD:(b:Int)=sb:=Classical.not_not.1 yD;have aau:((b:Int) != sb)=false:=by simp[yD]
  have Dc:Hid (¬((b:Int)<0\/((Q.getD (t:Int).toNat []).length:Int)<=(b:Int)\/(b:Int)≠(r.spot ⟨t,b,n,k,ee,v⟩).block)):=by
   show ¬((b:Int)<0\/((Q.getD t []).length:Int)<=(b:Int)\/(b:Int)≠(r.sp.getD t cJ).block);rw[oH.out,Ql.out];omega
  have sI:Hid ((r.spot ⟨t,b,n,k,ee,v⟩).tr=st):=cy.out;have Ws:Hid ((r.sp.getD t cJ).block=(b:Int)):=Ql.out.trans yD.symm;replace mX:=af mX;replace Gn:=af Gn;replace yD:=af yD;go_wp2_with fail
  go_quiet (fail)
  have k2:Calm w (W1.drewN nq):=k1.trans (aq.drewN nq);have vY:ag (W1.drewN nq) w.heap.size (lG t b n k ee v):=vX.calm (aq.drewN nq);replace hX:=af (hX.out.calm (aq.drewN nq:Calm W1 (W1.drewN nq)));generalize W1.drewN nq=W2 at *;clear y0 y1 y2 y3 z0 z1 vX k1;have z0:=(vY 0 _ rfl).1;have y1:=Cx.out W2 k2;have y4:=(hsc.out W2 k2).2;go_wp2_with fail
  go_quiet (fail)
  have k3:Calm w (W2.drewN nq):=k2.trans (aq.drewN nq);have DG:ag (W2.drewN nq) w.heap.size (lG t b n k ee v):=vY.calm (aq.drewN nq);replace hX:=af (hX.out.calm (aq.drewN nq:Calm W2 (W2.drewN nq)));generalize W2.drewN nq=W3 at *;clear y1 y4 z0 vY k2;obtain⟨q0,q1,q2,q3,q4,q5⟩:=ag.t_ DG;have SB:Hid (t<Q.length):=by show _<_;rw[ji.out];exact xg
  have Wq:Hid (b<(Q.getD t []).length):=by show _<_;rw[oH.out];have:=Gn.out;omega
  have eW:st = -1\/0<=st:=by omega
  have N2:Hid (r.take Q i ⟨t,b,n,k,ee,v⟩=none->jm w τ rp i pv Q (r.take Q i ⟨t,b,n,k,ee,v⟩) (.returned (.bool false)) W3):=λe=>qV.out W3 k3 e;have jL:∀x:Int,0<=x->decide (x>=0)=true:=λx hx=>decide_eq_true hx
  by_cases JA:k=1
  ·subst JA;rcases eW with hl|hl
   ·have Xg:decide (st>=0)=false:=by rw[hl];rfl
    have ob:=GZ hX.out hi hQ.out SB.out (b:Int) n 1 ee v
    have e9:r.take Q i ⟨t,b,n,1,ee,v⟩=some (r.begin Q i ⟨t,b,n,1,ee,v⟩):=by
     unfold Rd.take;rw[if_neg pE.out,if_neg vN.out,if_neg Dc.out,if_pos rfl,if_neg (by rw[sI.out,hl];decide)]
    rw[<-e9] at ob;replace jL:=af jL;replace hl:=af hl;replace e9:=af e9;go_wp2_with fail
    refine ob.mono ?_;rintro en w5 (⟨x,aX,e1,rfl,m1,m2⟩|⟨e1,rfl,m2⟩)
    ·have hP:=af (jm.out (.inl ⟨x,aX,e1,rfl,m1,m2⟩:jm W3 τ0 rp i pv Q _ _ w5) k3 tk);clear ob m1 m2;go_wp2;go_ret;exact hP.out
    ·have hP:=af (jm.out (.inr ⟨e1,rfl,m2⟩:jm W3 τ0 rp i pv Q _ _ w5) k3 tk);clear ob m2;go_wp2;go_ret;exact hP.out
   ·have Xg:decide (st>=0)=true:=jL st hl;have hP:=af (N2.out (by unfold Rd.take;rw[if_neg pE.out,if_neg vN.out,if_neg Dc.out,if_pos rfl,if_pos (by rw[sI.out];exact hl)]));replace jL:=af jL;replace hl:=af hl;go_wp2;go_ret;exact hP.out
  have kN:(k==1)=false:=by simp[JA]
  by_cases JB:k=2
  ·subst JB;rcases eW with hl|hl
   ·have Xg:decide (st>=0)=false:=by rw[hl];rfl
    have hP:=af (N2.out (by unfold Rd.take;rw[if_neg pE.out,if_neg vN.out,if_neg Dc.out,if_neg (show ¬((2:Int)=1) by decide),if_pos rfl,if_neg (by rw[sI.out,hl];decide)]));replace jL:=af jL;replace hl:=af hl;go_wp2;go_ret;exact hP.out
   ·have Xg:decide (st>=0)=true:=jL st hl;obtain⟨j,hj⟩:∃j:Nat,st=j:=⟨st.toNat,by omega⟩;have ob:=K_ hX.out hi hQ.out SB.out Wq.out (j:=j) (cy.out.trans hj) Ws.out n 2 ee v
    have e9:r.take Q i ⟨t,b,n,2,ee,v⟩=r.gX Q i ⟨t,b,n,2,ee,v⟩:=by
     unfold Rd.take;rw[if_neg pE.out,if_neg vN.out,if_neg Dc.out,if_neg (show ¬((2:Int)=1) by decide),if_pos rfl,if_pos (by rw[sI.out];exact hl)]
    rw[<-e9] at ob;replace jL:=af jL;replace hl:=af hl;replace e9:=af e9;replace hj:=af hj;go_wp2_with fail
    refine ob.mono ?_;rintro en w5 (⟨x,aX,e1,rfl,m1,m2⟩|⟨e1,rfl,m2⟩)
    ·have hP:=af (jm.out (.inl ⟨x,aX,e1,rfl,m1,m2⟩:jm W3 τ0 rp i pv Q _ _ w5) k3 tk);clear ob m1 m2;go_wp2;go_ret;exact hP.out
    ·have hP:=af (jm.out (.inr ⟨e1,rfl,m2⟩:jm W3 τ0 rp i pv Q _ _ w5) k3 tk);clear ob m2;go_wp2;go_ret;exact hP.out
  have gI:(k==2)=false:=by simp[JB]
  by_cases JC:k=3
  ·subst JC;rcases eW with hl|hl
   ·have Xg:decide (st>=0)=false:=by rw[hl];rfl
    have hP:=af (N2.out (by unfold Rd.take;rw[if_neg pE.out,if_neg vN.out,if_neg Dc.out,if_neg (show ¬((3:Int)=1) by decide),if_neg (show ¬((3:Int)=2) by decide),if_pos rfl,if_neg (by rw[sI.out,hl];decide)]));replace jL:=af jL;replace hl:=af hl;go_wp2;go_ret;exact hP.out
   ·have Xg:decide (st>=0)=true:=jL st hl;obtain⟨j,hj⟩:∃j:Nat,st=j:=⟨st.toNat,by omega⟩;have ob:=D2 hX.out hi hQ.out SB.out Wq.out (j:=j) (cy.out.trans hj) Ws.out n 3 ee v
    have e9:r.take Q i ⟨t,b,n,3,ee,v⟩=r.fe Q i ⟨t,b,n,3,ee,v⟩:=by
     unfold Rd.take;rw[if_neg pE.out,if_neg vN.out,if_neg Dc.out,if_neg (show ¬((3:Int)=1) by decide),if_neg (show ¬((3:Int)=2) by decide),if_pos rfl,if_pos (by rw[sI.out];exact hl)]
    rw[<-e9] at ob;replace jL:=af jL;replace hl:=af hl;replace e9:=af e9;replace hj:=af hj;go_wp2_with fail
    refine ob.mono ?_;rintro en w5 (⟨x,aX,e1,rfl,m1,m2⟩|⟨e1,rfl,m2⟩)
    ·have hP:=af (jm.out (.inl ⟨x,aX,e1,rfl,m1,m2⟩:jm W3 τ0 rp i pv Q _ _ w5) k3 tk);clear ob m1 m2;go_wp2;go_ret;exact hP.out
    ·have hP:=af (jm.out (.inr ⟨e1,rfl,m2⟩:jm W3 τ0 rp i pv Q _ _ w5) k3 tk);clear ob m2;go_wp2;go_ret;exact hP.out
  have lT:(k==3)=false:=by simp[JC]
  have hP:=af (N2.out (by unfold Rd.take;rw[if_neg pE.out,if_neg vN.out,if_neg Dc.out,if_neg JA,if_neg JB,if_neg JC]));replace jL:=af jL;replace JA:=af JA;replace JB:=af JB;replace JC:=af JC;go_wp2;go_ret;exact hP.out
end
