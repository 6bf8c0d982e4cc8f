import Derived.Test.YtgijglafnlbdbaaGreatTmBD
set_option linter.all false
set_option maxHeartbeats 8000000
set_option maxRecDepth 8000
namespace Go.Proofs.YtgijglafnlbdbaaGreat
open RowKit Shelf Proofs.Tryz
open Go renaming World->ag,Value->aA,Calls->aJ
section
variable {w:ag}{τ:Nat->Nat}{rp i:Nat}{pv:aA}{Q:Pg}{r:Rd}
theorem Kf(w:ag)(e:Int):aJ prog 84 #[vI e] w λen w'=>en=.returned (.bool (D3 e))/\w=w':=by
 unfold D3
 by_cases h1:e=141
 ·subst h1;go_in;go_wp2;go_ret;exact⟨rfl,rfl⟩
 ·have a1:(e==141)=false:=by simp[h1]
  rw[a1]
  by_cases h2:e=100
  ·subst h2;go_in;go_wp2;go_ret;exact⟨rfl,rfl⟩
  ·have a2:(e==100)=false:=by simp[h2]
   rw[a2]
   cases a3:(e==130) with
   | true=>
     go_in;go_wp2;go_ret;exact⟨rfl,rfl⟩
   | false=>
     go_in;go_wp2;go_ret;exact⟨rfl,rfl⟩
theorem wg.cQ{M:Mem}{atv ib:aA}{ms:List ue}{bK:Int}{sp:List Ax}(h1:bE w τ M)(h2:wg M rp pv atv ib sp ms bK){j:Nat}(hj:j<ms.length)(hj4:j<=3000){w1 w2:ag}{m':ue}(f1:Fr (ay (ms.getD j fo).av) w w1)(ho:w1.ownsRow 0 35 3 m'.av m'.x.cQ.length (m'.x.cQ.flatMap NZ))(fZ:∀b,ay m'.av b->ay (ms.getD j fo).av b\/w.heap.size<=b)
 (f2:Fr (ay ib) w1 w2) (ht:w2.ownsRow 0 89 10 ib (ms.set j m').length ((ms.set j m').flatMap sF)) (hs:m'.tv=(ms.getD j fo).tv/\m'.x.lS=(ms.getD j fo).x.lS):∃M' aL,bE w2 aL M'/\wg M' rp pv atv ib sp (ms.set j m') bK/\fS 10000 w τ w2 aL/\(∀k,w.heap.size<=k->¬ay m'.av k->aL k=10000):=by
 have hb:(M (10+2*j)).dh=ay (ms.getD j fo).av:=by rw[(h2.x j hj).1];rfl
 obtain⟨gI,k1,k2,k3⟩:=h1.aaI (L:=10000) (t:=10+2*j) (a:=fU 35 3 m'.av m'.x.cQ.length (m'.x.cQ.flatMap NZ)) (by rw[hb];exact f1) ho (λk hk=>by rw[hb];exact fZ k hk) (by omega) 10000;have o1:=Mem.cf.put M (P:=λq=>q=10+2*j) (fU 35 3 m'.av m'.x.cQ.length (m'.x.cQ.flatMap NZ)) rfl;obtain⟨M1,Pr⟩:=ao (M.put (10+2*j) (fU 35 3 m'.av m'.x.cQ.length (m'.x.cQ.flatMap NZ)));have e1:M1 (10+2*j)=fU 35 3 m'.av m'.x.cQ.length (m'.x.cQ.flatMap NZ):=by rw[<-Pr,Mem.aG]
 rw[Pr] at k1 o1;have xU:(M1 3).dh=ay ib:=by rw[o1 3 (by show ¬_=_;omega),h2.t];rfl
 obtain⟨k4,k5⟩:=k1.SP (L:=10000) (t:=3) (a:=fU 89 10 ib (ms.set j m').length ((ms.set j m').flatMap sF)) (by rw[xU];exact f2) ht (λk hk=>by rw[xU];exact hk) (by decide);have o2:=Mem.cf.put M1 (P:=λq=>q=3) (fU 89 10 ib (ms.set j m').length ((ms.set j m').flatMap sF)) rfl;refine⟨_,gI,k4,⟨(o2 1 (by decide)).trans ((o1 1 (by show ¬_=_;omega)).trans h2.c),(o2 2 (by decide)).trans ((o1 2 (by show ¬_=_;omega)).trans h2.a),Mem.aG _ _ _,λk hk=>?_,λq hq=>?_⟩,k2.trans k5,λk hk gX=>k3 k hk gX⟩
 ·rw[bN] at hk;rw[o2 _ (by show ¬_=_;omega),o2 _ (by show ¬_=_;omega)]
  by_cases e:k=j
  ·subst e;rw[oV hk,e1,o1 _ (by show ¬_=_;omega),(h2.x k hk).2,hs.1,hs.2];exact⟨rfl,rfl⟩
  ·rw[wK e,o1 _ (by show ¬_=_;omega),o1 _ (by show ¬_=_;omega)];exact h2.x k hk
 ·rw[bN] at hq;rw[o2 q (by show ¬_=_;omega),o1 q (by show ¬_=_;omega)];exact h2.z q hq
theorem wg.lS{M:Mem}{atv ib:aA}{ms:List ue}{bK:Int}{sp:List Ax}(h1:bE w τ M)(h2:wg M rp pv atv ib sp ms bK){j:Nat}(hj:j<ms.length)(hj4:j<=3000){w1 w2:ag}{m':ue}(f1:Fr (ay (ms.getD j fo).tv) w w1)(ho:aI w1 0 m'.tv m'.x.lS)(fZ:∀b,ay m'.tv b->ay (ms.getD j fo).tv b\/w.heap.size<=b)
 (f2:Fr (ay ib) w1 w2) (ht:w2.ownsRow 0 89 10 ib (ms.set j m').length ((ms.set j m').flatMap sF)) (hs:m'.av=(ms.getD j fo).av/\m'.x.cQ=(ms.getD j fo).x.cQ):∃M' aL,bE w2 aL M'/\wg M' rp pv atv ib sp (ms.set j m') bK/\fS 10000 w τ w2 aL:=by
 have hb:(M (10+2*j+1)).dh=ay (ms.getD j fo).tv:=by rw[(h2.x j hj).2];rfl
 obtain⟨gI,k1,k2,k3⟩:=h1.aaI (L:=10000) (t:=10+2*j+1) (a:=fV m'.tv m'.x.lS) (by rw[hb];exact f1) ho (λk hk=>by rw[hb];exact fZ k hk) (by omega) 10000;have o1:=Mem.cf.put M (P:=λq=>q=10+2*j+1) (fV m'.tv m'.x.lS) rfl;obtain⟨M1,Pr⟩:=ao (M.put (10+2*j+1) (fV m'.tv m'.x.lS));have e1:M1 (10+2*j+1)=fV m'.tv m'.x.lS:=by rw[<-Pr,Mem.aG]
 rw[Pr] at k1 o1;have xU:(M1 3).dh=ay ib:=by rw[o1 3 (by show ¬_=_;omega),h2.t];rfl
 obtain⟨k4,k5⟩:=k1.SP (L:=10000) (t:=3) (a:=fU 89 10 ib (ms.set j m').length ((ms.set j m').flatMap sF)) (by rw[xU];exact f2) ht (λk hk=>by rw[xU];exact hk) (by decide);have o2:=Mem.cf.put M1 (P:=λq=>q=3) (fU 89 10 ib (ms.set j m').length ((ms.set j m').flatMap sF)) rfl;refine⟨_,gI,k4,⟨(o2 1 (by decide)).trans ((o1 1 (by show ¬_=_;omega)).trans h2.c),(o2 2 (by decide)).trans ((o1 2 (by show ¬_=_;omega)).trans h2.a),Mem.aG _ _ _,λk hk=>?_,λq hq=>?_⟩,k2.trans k5⟩
 ·rw[bN] at hk;rw[o2 _ (by show ¬_=_;omega),o2 _ (by show ¬_=_;omega)]
  by_cases e:k=j
  ·subst e;rw[oV hk,e1,o1 _ (by show ¬_=_;omega),(h2.x k hk).1,hs.1,hs.2];exact⟨rfl,rfl⟩
  ·rw[wK e,o1 _ (by show ¬_=_;omega),o1 _ (by show ¬_=_;omega)];exact h2.x k hk
 ·rw[bN] at hq;rw[o2 q (by show ¬_=_;omega),o1 q (by show ¬_=_;omega)];exact h2.z q hq
theorem Mx(h:jP w τ rp pv Q i r)(hi:i<=2000)(hQ:tX Q){t b j:Nat}(ht:t<Q.length)(hb:b<(Q.getD t []).length)(hj:(r.sp.getD t dp).tr=(j:Int))(xV:(r.sp.getD t dp).block=(b:Int))(n k ee v:Int):aJ prog 102 #[pR rp,vI (i:Int),.agg #[vI (t:Int),vI (b:Int),vI n,vI k,vI ee,vI v]] w (kn w τ rp i pv Q (r.jn Q i ⟨t,b,n,k,ee,v⟩)):=by
 obtain⟨τ0,h0,tk,fr⟩:=h.fresh;clear h;obtain⟨M,ms,ga,ca,gt,ct,gp,op,cp,gb,ob,cb,XF,ud,gq,oq,cq,hJ⟩:=h0.at_ ht hb hj;have Od:rp<w.heap.size:=hJ.c.lt (by simp);have k0:Calm w (w.alloc (.cells #[vI (t:Int),vI (b:Int),vI n,vI k,vI ee,vI v] 76)):=ah.alloc _;have oE:af (w.alloc (.cells #[vI (t:Int),vI (b:Int),vI n,vI k,vI ee,vI v] 76)) w.heap.size (mB t b n k ee v):=af.zT w [_,_,_,_,_,_] _ _ rfl;obtain⟨W0,gF⟩:=ao (w.alloc (.cells #[vI (t:Int),vI (b:Int),vI n,vI k,vI ee,vI v] 76));rw[gF] at k0 oE;obtain⟨NS,sM⟩:=ao r.sp.length;obtain⟨NM,sL⟩:=ao ms.length;obtain⟨NQ,kZ⟩:=ao Q.length;obtain⟨NB,qD⟩:=ao ((Q.getD t []).length);obtain⟨ND,Ku⟩:=ao (((Q.getD t []).getD b []).length);obtain⟨ad,Il,-⟩:=hJ.ud_;have Ij:=hJ.ts;have PS:=hJ.js;rw[sM] at Ij;rw[sL] at PS;rw[kZ] at ht;rw[qD] at hb;rw[Ku] at Il;obtain⟨m,hm⟩:=ao (ms.getD j fo)
 obtain⟨aa,ac,HF⟩:∃a c,m.av=.slice a m.x.cQ.length c:=by
  have:=hJ.h.at_ (10+2*j);rw[(hJ.m.x j hJ.js).1,hm] at this;exact aF this
 obtain⟨ta,tc,ry⟩:∃a c,m.tv=.slice a m.x.lS.length c:=by
  have:=hJ.h.at_ (10+2*j+1);rw[(hJ.m.x j hJ.js).2,hm] at this;exact aF this
 have DB:∀W,Calm w W->W.cell? ⟨rp,1,none⟩=some (.slice (some ⟨ga,0,none⟩) NS ca):=λW c=>by rw[<-sM];exact c.cellAt (hJ.c 1 _ rfl).1 id
 have VL:∀W,Calm w W->W.cell? ⟨rp,2,none⟩=some (.slice (some ⟨gt,0,none⟩) NM ct):=λW c=>by rw[<-sL];exact c.cellAt (hJ.c 2 _ rfl).1 id
 have DA:∀W,Calm w W->W.cell? ⟨rp,0,none⟩=some (.slice (some ⟨gp,op,none⟩) NQ cp):=λW c=>by rw[<-kZ,<-hJ.pv_];exact c.cellAt (hJ.c 0 _ rfl).1 id
 have VO:∀W,Calm w W->W.cell? ⟨ga,t*2+1,none⟩=some (vI (j:Int)):=λW c=>c.cellAt (cI fe (by decide) hJ.a dp hJ.ts 1 (by rw[<-hj];rfl)).1 id;have LH:∀W,Calm w W->W.cell? ⟨gt,j*10+6,none⟩=some (.slice aa m.x.cQ.length ac):=λW c=>by rw[<-HF];exact c.cellAt (cI fg (by decide) hJ.tt fo hJ.js 6 (by rw[hm];rfl)).1 id
 have Sz:∀W,Calm w W->W.cell? ⟨gp,op+t,none⟩=some (.slice (some ⟨gb,ob,none⟩) NB cb):=λW c=>by rw[<-qD,<-hJ.ub];exact c.cellAt hJ.pb id
 have SA:∀W,Calm w W->W.cell? ⟨gb,ob+b,none⟩=some (.slice ad ND cq):=λW c=>by rw[<-Il];exact c.cellAt hJ.pd id
 obtain⟨NA,xR⟩:=ao m.x.cQ.length;rw[xR] at LH;have z1:=DB W0 k0;have z0:=(oE 0 _ rfl).1;replace hJ:=hid hJ;replace sM:=hid sM;replace sL:=hid sL;replace kZ:=hid kZ;replace qD:=hid qD;replace Ku:=hid Ku;replace xR:=hid xR;replace hm:=hid hm;replace HF:=hid HF;replace ry:=hid ry;replace Il:=hid Il;replace hj:=hid hj;replace xV:=hid xV;replace DA:=hid DA;replace DB:=hid DB;replace VL:=hid VL;replace VO:=hid VO;replace LH:=hid LH;replace Sz:=hid Sz;replace SA:=hid SA;replace hQ:=hid hQ;clear h0;go_in;go_wp2_with fail
 clear gF
 go_quiet (fail)
 have k1:Calm w (W0.drewN nq):=k0.trans (ah.drewN nq);have xg:af (W0.drewN nq) w.heap.size (mB t b n k ee v):=oE.calm (ah.drewN nq);generalize W0.drewN nq=W1 at *;clear z0 z1 oE k0;have z1:=DB.out W1 k1;have z2:=VL.out W1 k1;have z3:=VO.out W1 k1;go_wp2_with fail
 go_quiet (fail)
 have k2:Calm w (W1.drewN nq):=k1.trans (ah.drewN nq);have xh:af (W1.drewN nq) w.heap.size (mB t b n k ee v):=xg.calm (ah.drewN nq);generalize W1.drewN nq=W2 at *;clear z1 z2 z3 xg k1;have z1:=DA.out W2 k2;have z2:=(xh 0 _ rfl).1;have z3:=Sz.out W2 k2;have z4:=(xh 1 _ rfl).1;have z5:=SA.out W2 k2;go_wp2_with fail
 go_quiet (fail)
 have k3:Calm w (W2.drewN nq):=k2.trans (ah.drewN nq);have ET:af (W2.drewN nq) w.heap.size (mB t b n k ee v):=xh.calm (ah.drewN nq);generalize W2.drewN nq=W3 at *;clear z1 z2 z3 z4 z5 xh k2;have z1:=LH.out W3 k3;have z2:=(ET 2 _ rfl).1;have rm:Hid (∀W,Calm w W->r.jn Q i ⟨t,b,n,k,ee,v⟩=none->kn w τ rp i pv Q (r.jn Q i ⟨t,b,n,k,ee,v⟩) (.returned (.bool false)) W):=λW c e=>.inr ⟨e,rfl,c.any⟩
 have ru:Hid (r.nB ⟨t,b,n,k,ee,v⟩=m.x):=by
  have hJ:=hJ.out;unfold Rd.nB Rd.spot;show r.tr.getD (r.sp.getD t dp).tr.toNat ke=m.x;rw[hj.out,<-hJ.e];show(ms.map (·.x)).getD j fo.x=m.x;rw[RC,hm.out]
 have HY:Hid ((dh Q (t:Int) (b:Int)).length=ND):=Ku.out
 by_cases hn:n=(NA:Int)
 ·by_cases lU:(ND:Int)<=n
  ·have oZ:(n != (NA:Int))=false:=by simp[hn]
   have Va:decide (n>=(ND:Int))=true:=by simp;exact lU
   have hP:Hid (∀W,Calm w W->kn w τ rp i pv Q (r.jn Q i ⟨t,b,n,k,ee,v⟩) (.returned (.bool false)) W):=λW c=>rm.out W c (by unfold Rd.jn;rw[ru.out,HY.out];exact if_pos (.inr lU));replace hn:=hid hn;replace lU:=hid lU;go_wp2_with fail
   go_quiet (fail)
   go_wp2;go_ret;exact hP.out _ (k3.trans (ah.drewN nq))
  ·obtain rfl:n=(NA:Int):=hn;have hNN:NA<ND:=by omega
   have Va:decide (ND<=NA)=false:=by simp;omega
   go_wp2_with fail
   go_quiet (fail)
   have k4:Calm w (W3.drewN nq):=k3.trans (ah.drewN nq);have oE4:af (W3.drewN nq) w.heap.size (mB t b NA k ee v):=ET.calm (ah.drewN nq);generalize W3.drewN nq=W4 at *;clear z1 z2 ET k3;have z2:=(oE4 2 _ rfl).1;have hJ0:=hJ.out;obtain⟨ad',VE,Zc⟩:=hJ0.ud_
   have e9:ad=some ⟨gq,oq,none⟩:=by
    rw[Il.out] at VE;injection VE with e9 _ _
    rw[e9];exact Zc (by rw[Ku.out];omega)
   subst e9;obtain⟨d,hd⟩:=ao (((Q.getD t []).getD b []).getD NA dD);have zk:=k4.cellAt (hJ0.dd NA (by rw[Ku.out];exact hNN) 0 (vI d.k) (by rw[hd];rfl)) id;rw[fM] at zk;replace hd:=hid hd;clear Zc VE hJ0;go_upto_region 7 with fail
   have hJ:=hJ.out;have qi:=hm.out;obtain⟨gm,zE,rj⟩:=hJ.ne;have Ji:ay (.slice (some ⟨ga,0,none⟩) r.sp.length ca) ga:=ay.mk.2 rfl;have Bt:ay (.slice (some ⟨gt,0,none⟩) ms.length ct) gt:=ay.mk.2 rfl;have gaw:ga<w.heap.size:=(World.ownsRow.lt hJ.a ga Ji).2;have gtw:gt<w.heap.size:=(World.ownsRow.lt hJ.tt gt Bt).2
   have Ii:Hid (r.tr.getD j ke=m.x):=by
    show r.tr.getD j ke=m.x;rw[<-hJ.e];show(ms.map (·.x)).getD j fo.x=m.x;rw[RC,qi]
   have Ed:∀b,ay m.av b->b<w.heap.size/\b≠ga/\b≠gt/\b≠rp:=λb hb=>by
    have e0:(M (10+2*j)).dh b:=by rw[(hJ.m.x j hJ.js).1,qi];exact hb
    refine⟨hJ.h.lt _ e0,λe=>?_,λe=>?_,λe=>?_⟩
    ·exact hJ.h.apart (t:=10+2*j) (u:=2) (k:=b) (by omega) e0 (by rw[hJ.m.a,e];exact Ji)
    ·exact hJ.h.apart (t:=10+2*j) (u:=3) (k:=b) (by omega) e0 (by rw[hJ.m.t,e];exact Bt)
    ·exact hJ.h.apart (t:=10+2*j) (u:=1) (k:=b) (by omega) e0 (by rw[hJ.m.c];exact e)
   have zv:∀b,ay m.tv b->b<w.heap.size/\b≠ga/\b≠gt/\b≠rp/\¬ay m.av b:=λb hb=>by
    have e0:(M (10+2*j+1)).dh b:=by rw[(hJ.m.x j hJ.js).2,qi];exact hb
    refine⟨hJ.h.lt _ e0,λe=>?_,λe=>?_,λe=>?_,λe=>?_⟩
    ·exact hJ.h.apart (t:=10+2*j+1) (u:=2) (k:=b) (by omega) e0 (by rw[hJ.m.a,e];exact Ji)
    ·exact hJ.h.apart (t:=10+2*j+1) (u:=3) (k:=b) (by omega) e0 (by rw[hJ.m.t,e];exact Bt)
    ·exact hJ.h.apart (t:=10+2*j+1) (u:=1) (k:=b) (by omega) e0 (by rw[hJ.m.c];exact e)
    ·exact hJ.h.apart (t:=10+2*j+1) (u:=10+2*j) (k:=b) (by omega) e0 (by rw[(hJ.m.x j hJ.js).1,qi];exact e)
   have kd:Calm W4 W4.drew:=ah.drew;have Qs:=oE4.calm kd;have x6:=LH.out W4.drew (k4.trans kd);refine aO 7 9 (λw'=>w'.cell? ⟨gt,j*10+6,none⟩=some (.slice aa NA ac)/\af w' w.heap.size (mB t b NA k ee v)) (by kernel_rfl) (by kernel_rfl) ⟨x6,Qs⟩ ?_;refine ae (.pointer (some ⟨gt,j*10,none⟩)) rfl (λw' hw'=>?_) ak ?_
   ·simp[go_sem]
   refine ae (.pointer (some ⟨gt,j*10,none⟩)) rfl (λw' hw'=>?_) ak ?_
   ·simp[go_sem]
   refine ae (.pointer (some ⟨gt,j*10,none⟩)) rfl (λw' hw'=>?_) ak ?_
   ·simp[go_sem]
   refine ae (.pointer (some ⟨gt,j*10+6,none⟩)) rfl (λw' hw'=>?_) ak ?_
   ·simp[go_sem]
   refine ae (.slice aa NA ac) rfl (λw' hw'=>?_) ak ?_
   ·simp[go_sem,hw'.1]
   refine ae (.pointer (some ⟨w.heap.size,3,none⟩)) rfl (λw' hw'=>?_) ak ?_
   ·simp[go_sem]
   refine ae (.agg #[vI k,vI ee,vI v]) rfl (λw' hw'=>?_) ak ?_
   ·have e:=hw'.2;simp only[mB] at e;obtain⟨z0,z1,z2,z3,z4,z5⟩:=af.Ry e;simp[go_sem,z3,z4,z5]
   simp only[bG];have kA0:Calm W4 (W4.drew.alloc (.cells #[vI k,vI ee,vI v] 35)):=kd.alloc _;have kA:Calm w (W4.drew.alloc (.cells #[vI k,vI ee,vI v] 35)):=k4.trans kA0;have V7:=oE4.calm kA0;have hS:=(show World.cell? (W4.drew.alloc (.cells #[vI k,vI ee,vI v] 35)) ⟨gt,j*10+6,none⟩=some (.slice aa NA ac)/\af (W4.drew.alloc (.cells #[vI k,vI ee,vI v] 35)) w.heap.size (mB t b NA k ee v) from⟨LH.out _ kA,V7⟩)
   have D_:w.ownsRow 0 35 3 m.av m.x.cQ.length (m.x.cQ.flatMap NZ):=by
    have:=hJ.h.at_ (10+2*j);rw[(hJ.m.x j hJ.js).1,qi] at this;exact this
   have hRA:=aw D_ kA (λ_ _=>id);have Bz:m.av=.slice aa NA ac:=by rw[<-xR.out];exact HF.out
   rw[Bz,xR.out] at hRA;have By:=(hJ.k.a j (by have:=hJ.js;rw[<-hJ.e,List.length_map];exact this));rw[Ii.out,xR.out] at By;refine aQ rfl ?_;unfold Oper.wp;go_simp
   first|refine⟨hS,?_⟩|skip
   refine aQ rfl ?_;refine Eq.mp (if_pos (show Region.wanted _ (yielded _ _)=true from rfl)) (gu (ops:=#[]) (E:=True) aa6 rfl (.tmp 64) (.tmp 67) rfl (.slice aa NA ac) NA _ hRA rfl (NZ ⟨k,ee,v⟩) rfl (by simp[NZ,Value.oneCell']) ⟨W4.heap.size,0,none⟩ 1 rfl (λj u hj=>by rw[dM];simp only[ia];exact xH W4.drew _ _ _ hj) (by have:=By.1;omega) ?_);intro g1 c1 w5 Ca f5 RV;obtain⟨m1,re⟩:=ao (({ m with av:=.slice (some ⟨g1,0,none⟩) (NA+1) c1,x:={ m.x with cQ:=m.x.cQ++[⟨k,ee,v⟩] } } : ue):ue);have ngt:¬ay (.slice aa NA ac) gt:=λe=>(Ed gt (by rw[Bz];exact e)).2.2.1 rfl;have nga:¬ay (.slice aa NA ac) ga:=λe=>(Ed ga (by rw[Bz];exact e)).2.1 rfl;have nrp:¬ay (.slice aa NA ac) rp:=λe=>(Ed rp (by rw[Bz];exact e)).2.2.2 rfl;have nen:¬ay (.slice aa NA ac) w.heap.size:=λe=>by have:=(Ed _ (by rw[Bz];exact e)).1;omega
   have T5:=aw (aw hJ.tt kA (λ_ _=>id)) f5 (λb hb e=>by obtain rfl:=ay.fJ hb;exact ngt e);have A5:=aw (aw hJ.a kA (λ_ _=>id)) f5 (λb hb e=>by obtain rfl:=ay.fJ hb;exact nga e);have C5:=(hJ.c.calm kA).fr f5 nrp;have E5:=V7.fr f5 nen;have p6:=cI fg (by decide) T5 fo hJ.js 6 (u:=m.av) (by rw[qi];rfl);rw[Bz] at p6;have p61:=p6.1;have p62:=p6.2;have T6:=gP T5 rfl hJ.js 6 (by decide) (.slice (some ⟨g1,0,none⟩) (NA+1) c1) m1 (by rw[qi,<-re];rfl);have F6:Fr (λk=>k=gt) w5 (w5.setCell ⟨gt,j*10+6,none⟩ (.slice (some ⟨g1,0,none⟩) (NA+1) c1)):=(Fr.refl (λk=>k=gt) w5).setCell (p:=⟨gt,j*10+6,none⟩) (.inl rfl) _;obtain⟨W6,sO⟩:=ao (w5.setCell ⟨gt,j*10+6,none⟩ (.slice (some ⟨g1,0,none⟩) (NA+1) c1));rw[sO] at T6 F6;have A6:=aw A5 F6 (λb hb e=>gm (by obtain rfl:=ay.fJ hb;exact e));have C6:=C5.fr F6 (λe=>rj e.symm);have E6:=E5.fr F6 (show ¬w.heap.size=gt by omega)
   obtain⟨M6,gj,h6,r6,K6,-⟩:=wg.cQ (hJ.h.calm kA) hJ.m hJ.js (by have:=hJ.k.l;rw[<-hJ.e,List.length_map] at this;have:=hJ.js;omega) (w1:=w5) (m':=m1) (by rw[qi,Bz];exact f5) (by rw[<-re];show w5.ownsRow 0 _ 3 _ (m.x.cQ++[_]).length ((m.x.cQ++[_]).flatMap NZ);rw[b_,List.flatMap_append,xR.out];simpa using Ca) (λb hb=>by
    rw[qi,Bz];rw[<-re] at hb;obtain rfl:=ay.fJ hb;rcases RV with e|e
    ·exact .inl e
    ·exact .inr (Nat.le_of_eq e.symm)) (F6.mono (λb _ e=>by rw[e];exact Bt)) T6 (by rw[qi,<-re];exact⟨rfl,rfl⟩)
   have kw6:w.heap.size<W6.heap.size:=E6.lt (by simp[mB]);obtain⟨NT,Pv⟩:=ao m.x.lS.length;have xd:m.tv=.slice ta NT tc:=by rw[<-Pv];exact ry.out
   have VS:j<(ms.set j m1).length:=by rw[bN];exact hJ.js
   have g6:=oV hJ.js m1 fo;have p7:=cI fg (by decide) T6 fo VS 7 (u:=.slice ta NT tc) (by rw[g6,<-re,<-xd];rfl);have p71:=p7.1;have p72:=p7.2
   have hro:aI W6 0 (.slice ta NT tc) m.x.lS:=by
    have:=h6.at_ (10+2*j+1);rw[(r6.x j VS).2,g6,<-re] at this;rw[<-xd];exact this
   rw[Pv] at By;have abd:NT<=1000000:=by have:=By.2.1;omega
   have ft:=hid hS;refine⟨⟨p61,E5⟩,?_⟩;simp only[bV];replace qi:=hid qi;replace Pv:=hid Pv;replace hro:=hid hro;replace hJ:=hid hJ;replace re:=hid re;clear T5 A5 C5 E5 D_ hRA f5 F6 Ca RV V7 Qs hS ft kA0 oE4 x6 kd p6 z2 zk ngt nga nrp nen;replace h6:=hid h6;replace r6:=hid r6;replace T6:=hid T6;replace A6:=hid A6;replace C6:=hid C6;replace E6:=hid E6;replace K6:=hid K6;replace Ed:=hid Ed;replace zv:=hid zv;have qq:=Kf
   go_upto_region 9 with (
    at_builtin
    go_must (refine cU rfl _ _ rfl 0 (.slice ta NT tc) m.x.lS hro.out rfl (i:Int) rfl (by rw[Pv.out];exact abd) (bY _) ?_)
    intro g2 c2 w7 lZ f7 wO;have y71:=f7.cellAt p71 (λe=>(zv.out gt (by rw[xd];exact e)).2.2.1 rfl);have y72:=f7.frozenAt p71 p72 (λe=>(zv.out gt (by rw[xd];exact e)).2.2.1 rfl);rw[Pv.out] at lZ ⊢;replace lZ:=hid lZ;replace f7:=hid f7
    replace wO:=hid wO)
   have hJ:=hJ.out;have qi:=qi.out;have aaA:¬ay (.slice ta NT tc) gt:=λe=>(zv.out gt (by rw[xd];exact e)).2.2.1 rfl;have aaz:¬ay (.slice ta NT tc) ga:=λe=>(zv.out ga (by rw[xd];exact e)).2.1 rfl;have aaB:¬ay (.slice ta NT tc) rp:=λe=>(zv.out rp (by rw[xd];exact e)).2.2.2.1 rfl;have aay:¬ay (.slice ta NT tc) w.heap.size:=λe=>by have:=(zv.out _ (by rw[xd];exact e)).1;omega
   obtain⟨m2,wu⟩:=ao ((⟨{ m.x with cQ:=m.x.cQ++[⟨k,ee,v⟩],lS:=m.x.lS++[(i:Int)] },.slice (some ⟨g1,0,none⟩) (NA+1) c1,.slice (some ⟨g2,0,none⟩) (NT+1) c2⟩:ue):ue);have T7:=aw T6.out f7.out (λb hb e=>by obtain rfl:=ay.fJ hb;exact aaA e);have A7:=aw A6.out f7.out (λb hb e=>by obtain rfl:=ay.fJ hb;exact aaz e);have C7:=C6.out.fr f7.out aaB;have E7:=E6.out.fr f7.out aay;have T8:=gP (n:=ms.length) T7 (by rw[bN]) VS 7 (by decide) (.slice (some ⟨g2,0,none⟩) (NT+1) c2) m2 (by rw[g6,<-re.out,<-wu];rfl);have F8:Fr (λk=>k=gt) w7 (w7.setCell ⟨gt,j*10+7,none⟩ (.slice (some ⟨g2,0,none⟩) (NT+1) c2)):=(Fr.refl (λk=>k=gt) w7).setCell (p:=⟨gt,j*10+7,none⟩) (.inl rfl) _;obtain⟨W8,wh⟩:=ao (w7.setCell ⟨gt,j*10+7,none⟩ (.slice (some ⟨g2,0,none⟩) (NT+1) c2));rw[wh] at T8 F8;have A8:=aw A7 F8 (λb hb e=>gm (by obtain rfl:=ay.fJ hb;exact e));have C8:=C7.fr F8 (λe=>rj e.symm);have E8:=E7.fr F8 (show ¬w.heap.size=gt by omega)
   obtain⟨M8,yR,h8,r8,K8⟩:=wg.lS h6.out r6.out VS (by have:=hJ.k.l;rw[<-hJ.e,List.length_map] at this;have:=hJ.js;omega) (w1:=w7) (m':=m2) (by rw[g6,<-re.out];show Fr (ay m.tv) W6 w7;rw[xd];exact f7.out) (by rw[<-wu];show w7.ownsRow 0 _ 1 _ (m.x.lS++[_]).length _;have:=lZ.out;rw[b_,Pv.out];exact(by simpa[aI,Pv.out] using this)) (λb hb=>by
    rw[g6,<-re.out];show ay m.tv b\/_;rw[xd];rw[<-wu] at hb;obtain rfl:=ay.fJ hb;rcases wO.out with e|e
    ·exact .inl e
    ·exact .inr e) (F8.mono (λb _ e=>by rw[e];exact Bt)) T8 (by rw[g6,<-re.out,<-wu];exact⟨rfl,rfl⟩)
   rw[List.set_set] at T8 r8;replace K8:=((fS.calm 10000 τ0 kA).trans K6.out).trans K8;have js8:j<(ms.set j m2).length:=by rw[bN];exact hJ.js
   have g8:=oV hJ.js m2 fo;have p8:=cI fg (by decide) T8 fo js8 8 (u:=vI m2.x.en) (by rw[g8];rfl);have p81:=p8.1;have p82:=p8.2;rw[wh];clear T7 A7 C7 E7 F8 y71 y72 aaA aaz aaB aay h6 r6 K6 T6 A6 C6 E6 lZ f7 wO hro p71 p72 p7 Ed zv p61 p62 p8;replace wh:=hid wh;have acI:=Pv;have acz:=re
   by_cases p_:ee=141
   ·subst p_;have qq:=qq W8 141;rw[show D3 141=true from rfl] at qq;have T9:=gP (n:=ms.length) T8 (by rw[bN]) js8 8 (by decide) (vI 2) { m2 with x:={ m2.x with en:=2 } } (by rw[g8];rfl);rw[List.set_set] at T9;have F9:Fr (λk=>k=gt) W8 (W8.setCell ⟨gt,j*10+8,none⟩ (vI 2)):=(Fr.refl (λk=>k=gt) W8).setCell (p:=⟨gt,j*10+8,none⟩) (.inl rfl) _;obtain⟨W9,Y9⟩:=ao (W8.setCell ⟨gt,j*10+8,none⟩ (vI 2));rw[Y9] at T9 F9;have A9:=aw A8 F9 (λb hb e=>gm (by obtain rfl:=ay.fJ hb;exact e));have C9:=C8.fr F9 (λe=>rj e.symm);have E9:=E8.fr F9 (show ¬w.heap.size=gt by omega);have SF:j<(ms.set j { m2 with x:={ m2.x with en:=2 } }).length:=by rw[bN];exact hJ.js
    have g9:=oV hJ.js ({ m2 with x:={ m2.x with en:=2 } } : ue) fo;have p5:=cI fg (by decide) T9 fo SF 5 (u:=vI m2.x.mM) (by rw[g9];rfl);have p51:=p5.1;have p52:=p5.2;have FK:=gP (n:=ms.length) T9 (by rw[bN]) SF 5 (by decide) (vI (i:Int)) { m2 with x:={ m2.x with en:=2,mM:=(i:Int) } } (by rw[g9];rfl);rw[List.set_set] at FK;have tT:Fr (λk=>k=gt) W9 (W9.setCell ⟨gt,j*10+5,none⟩ (vI (i:Int))):=(Fr.refl (λk=>k=gt) W9).setCell (p:=⟨gt,j*10+5,none⟩) (.inl rfl) _;obtain⟨Dq,Ea⟩:=ao (W9.setCell ⟨gt,j*10+5,none⟩ (vI (i:Int)));rw[Ea] at FK tT;have JC:=aw A9 tT (λb hb e=>gm (by obtain rfl:=ay.fJ hb;exact e));have Q9:=C9.fr tT (λe=>rj e.symm);have Rb:=E9.fr tT (show ¬w.heap.size=gt by omega);have q1:=cI fe (by decide) JC dp hJ.ts 1 (u:=vI (j:Int)) (by rw[<-hj.out];rfl);have rI:=q1.1;have qK:=q1.2;have GQ:=gN JC rfl hJ.ts 1 (by decide) (vI (-1)) ⟨(r.sp.getD t dp).block,-1⟩ rfl;have tU:Fr (λk=>k=ga) Dq (Dq.setCell ⟨ga,t*2+1,none⟩ (vI (-1))):=(Fr.refl (λk=>k=ga) Dq).setCell (p:=⟨ga,t*2+1,none⟩) (.inl rfl) _;obtain⟨FL,Kw⟩:=ao (Dq.setCell ⟨ga,t*2+1,none⟩ (vI (-1)));rw[Kw] at GQ tU;have Ru:=aw FK tU (λb hb e=>gm (by obtain rfl:=ay.fJ hb;exact e.symm));have Q_:=Q9.fr tU (λe=>zE e.symm);have Rc:=Rb.fr tU (show ¬w.heap.size=ga by omega);have z4:=(E8 4 _ rfl).1;have z4':=(Rc 4 _ rfl).1;have Bq:Fr (λb=>b=rp\/ay (.slice (some ⟨ga,0,none⟩) r.sp.length ca) b\/ay (.slice (some ⟨gt,0,none⟩) ms.length ct) b) W8 FL:=((F9.mono (λb _ e=>.inr (.inr (by rw[e];exact Bt)))).trans (tT.mono (λb _ e=>.inr (.inr (by rw[e];exact Bt))))).trans (tU.mono (λb _ e=>.inr (.inl (by rw[e];exact Ji))))
    have hP:kn w τ rp i pv Q (r.jn Q i ⟨t,b,NA,k,141,v⟩) (.returned (.bool true)) FL:=by
     obtain⟨M',aL,LS,m2',SI⟩:=wg.fD h8 r8 Bq Q_ GQ Ru (λb hb=>.inl hb) (by rw[bN,bN];exact aD _) (λq hq=>by
      rw[bN] at hq;have:=nz (ms:=ms.set j m2) (j:=j) (m':={ m2 with x:={ m2.x with en:=2,mM:=(i:Int) } }) (by rw[bN];exact hJ.js) (by rw[g8];exact⟨rfl,rfl,rfl,rfl⟩) q (by rw[bN];exact hq);rw[List.set_set] at this
      exact this) (λq h1 h2=>by rw[bN] at h1 h2;omega)
     have jU:last Q ⟨t,b,NA,k,141,v⟩=true:=by
      unfold last;rfl
     have er:r.jn Q i ⟨t,b,NA,k,141,v⟩=some ⟨r.sp.set t ⟨(r.sp.getD t dp).block,-1⟩,r.tr.set j { m2.x with en:=2,mM:=(i:Int) },r.bK⟩:=by
      unfold Rd.jn;rw[ru.out,if_neg (by rw[HY.out,xR.out];rintro (h|h);exact h rfl;have h:(ND:Int)<=(NA:Int):=h;omega),jU];have e8:(r.spot ⟨t,b,NA,k,141,v⟩).tr.toNat=j:=by show(r.sp.getD t dp).tr.toNat=j;rw[hj.out];rfl
      have e9:(r.spot ⟨t,b,NA,k,141,v⟩).block=(r.sp.getD t dp).block:=rfl;rw[e8,e9,if_pos rfl,if_neg (show ¬((141:Int)≠141) from λh=>h rfl),if_pos rfl,if_pos rfl,<-wu];rfl
     refine .inl ⟨_,aL,er,rfl,⟨M',_,_,_,LS,m2',?_,SI.Gv (K8.Gv hJ.p),?_⟩,(K8.trans SI).dE tk⟩
     ·rw[List.map_set,hJ.e]
     ·refine hJ.k.fD (t:=t) (.inl rfl) ⟨(hJ.k.s t hJ.ts).1,Int.le_refl (-1),by show(-1:Int)<_;omega⟩ ⟨by simp,by have:=hJ.k.l;simp;omega⟩ rfl (λq hq=>?_);have wA:q<r.tr.length:=by simpa using hq
      clear hq
      by_cases e:q=j
      ·subst e;right;have e7:=oV wA ({ m2.x with en:=2,mM:=(i:Int) } : Tr) ke;simp only[] at e7 ⊢;rw[e7];have ha:=hJ.k.a q wA;rw[Ii.out] at ha;rw[<-wu];exact⟨by show(m.x.cQ++[_]).length<=i+1;rw[b_];have:=ha.1;simp;omega,by show(m.x.lS++[_]).length<=i+1;rw[b_];have:=ha.2.1;simp;omega,by show(0:Int)<=2;decide,Int.le_refl 2⟩
      ·exact .inl ⟨wA,wK e _ _⟩
    replace hP:=hid hP;clear T8 A8 C8 E8 T9 A9 C9 E9 FK JC Q9 Rb Ru GQ Q_ Rc F9 tT tU Bq p5 q1 hJ h8 r8 K8;replace gm:=hid gm;go_wp2_with (go_at_call 84;refine qq.mono ?_;rintro en w' ⟨rfl,rfl⟩)
    go_ret;exact hP.out
   ·by_cases hf:D3 ee=true
    ·have qq:=qq W8 ee;rw[hf] at qq;have T9:=gP (n:=ms.length) T8 (by rw[bN]) js8 8 (by decide) (vI 2) { m2 with x:={ m2.x with en:=2 } } (by rw[g8];rfl);rw[List.set_set] at T9;have F9:Fr (λk=>k=gt) W8 (W8.setCell ⟨gt,j*10+8,none⟩ (vI 2)):=(Fr.refl (λk=>k=gt) W8).setCell (p:=⟨gt,j*10+8,none⟩) (.inl rfl) _;obtain⟨W9,Y9⟩:=ao (W8.setCell ⟨gt,j*10+8,none⟩ (vI 2));rw[Y9] at T9 F9;have A9:=aw A8 F9 (λb hb e=>gm (by obtain rfl:=ay.fJ hb;exact e));have C9:=C8.fr F9 (λe=>rj e.symm);have E9:=E8.fr F9 (show ¬w.heap.size=gt by omega);have SF:j<(ms.set j { m2 with x:={ m2.x with en:=2 } }).length:=by rw[bN];exact hJ.js
     have g9:=oV hJ.js ({ m2 with x:={ m2.x with en:=2 } } : ue) fo;have p5:=cI fg (by decide) T9 fo SF 5 (u:=vI m2.x.mM) (by rw[g9];rfl);have p51:=p5.1;have p52:=p5.2;have FK:=gP (n:=ms.length) T9 (by rw[bN]) SF 5 (by decide) (vI (i:Int)) { m2 with x:={ m2.x with en:=2,mM:=(i:Int) } } (by rw[g9];rfl);rw[List.set_set] at FK;have tT:Fr (λk=>k=gt) W9 (W9.setCell ⟨gt,j*10+5,none⟩ (vI (i:Int))):=(Fr.refl (λk=>k=gt) W9).setCell (p:=⟨gt,j*10+5,none⟩) (.inl rfl) _;obtain⟨Dq,Ea⟩:=ao (W9.setCell ⟨gt,j*10+5,none⟩ (vI (i:Int)));rw[Ea] at FK tT;have JC:=aw A9 tT (λb hb e=>gm (by obtain rfl:=ay.fJ hb;exact e));have Q9:=C9.fr tT (λe=>rj e.symm);have Rb:=E9.fr tT (show ¬w.heap.size=gt by omega);have q1:=cI fe (by decide) JC dp hJ.ts 1 (u:=vI (j:Int)) (by rw[<-hj.out];rfl);have rI:=q1.1;have qK:=q1.2;have GQ:=gN JC rfl hJ.ts 1 (by decide) (vI (-1)) ⟨(r.sp.getD t dp).block,-1⟩ rfl;have tU:Fr (λk=>k=ga) Dq (Dq.setCell ⟨ga,t*2+1,none⟩ (vI (-1))):=(Fr.refl (λk=>k=ga) Dq).setCell (p:=⟨ga,t*2+1,none⟩) (.inl rfl) _;obtain⟨FL,Kw⟩:=ao (Dq.setCell ⟨ga,t*2+1,none⟩ (vI (-1)));rw[Kw] at GQ tU;have Ru:=aw FK tU (λb hb e=>gm (by obtain rfl:=ay.fJ hb;exact e.symm));have Q_:=Q9.fr tU (λe=>zE e.symm);have Rc:=Rb.fr tU (show ¬w.heap.size=ga by omega);have z4:=(E8 4 _ rfl).1;have z4':=(Rc 4 _ rfl).1;have Bq:Fr (λb=>b=rp\/ay (.slice (some ⟨ga,0,none⟩) r.sp.length ca) b\/ay (.slice (some ⟨gt,0,none⟩) ms.length ct) b) W8 FL:=((F9.mono (λb _ e=>.inr (.inr (by rw[e];exact Bt)))).trans (tT.mono (λb _ e=>.inr (.inr (by rw[e];exact Bt))))).trans (tU.mono (λb _ e=>.inr (.inl (by rw[e];exact Ji))));have Nv:t<(r.sp.set t ⟨(r.sp.getD t dp).block,-1⟩).length:=by rw[bN];exact hJ.ts
     have g11:=oV hJ.ts (⟨(r.sp.getD t dp).block,-1⟩:Ax) dp;have q0:=cI fe (by decide) GQ dp Nv 0 (u:=vI (b:Int)) (by rw[g11,<-xV.out];rfl);rw[fM] at q0;have qt:=q0.1;have qw:=q0.2;have Oq:=gN (n:=r.sp.length) GQ (by rw[bN]) Nv 0 (by decide) (vI ((b:Int)+1)) ⟨(b:Int)+1,-1⟩ (by rw[g11];rfl);rw[List.set_set,fM] at Oq;have JH:Fr (λk=>k=ga) FL (FL.setCell ⟨ga,t*2,none⟩ (vI ((b:Int)+1))):=(Fr.refl (λk=>k=ga) FL).setCell (p:=⟨ga,t*2,none⟩) (.inl rfl) _;obtain⟨W12,Uo⟩:=ao (FL.setCell ⟨ga,t*2,none⟩ (vI ((b:Int)+1)));rw[Uo] at Oq JH;have Yd:=aw Ru JH (λb hb e=>gm (by obtain rfl:=ay.fJ hb;exact e.symm));have XM:=Q_.fr JH (λe=>zE e.symm);have Pu:NB<=3:=by have:=hQ.out.b t (by rw[kZ.out];exact ht);rw[qD.out] at this;exact this
     have BB:bX ((b:Int)+1):=⟨by omega,by omega⟩;have hw9:IntKind.i64.wrap ((b:Int)+1)=(b:Int)+1:=IntWalk.i64_in _ BB;have Z0:(ee != 141)=true:=by simp[bne,p_]
     have Kn:=Bq.trans (JH.mono (λb _ e=>.inr (.inl (by rw[e];exact Ji))))
     have hP:kn w τ rp i pv Q (r.jn Q i ⟨t,b,NA,k,ee,v⟩) (.returned (.bool true)) W12:=by
      obtain⟨M',aL,LS,m2',SI⟩:=wg.fD h8 r8 Kn XM Oq Yd (λb hb=>.inl hb) (by rw[bN,bN];exact aD _) (λq hq=>by
       rw[bN] at hq;have:=nz (ms:=ms.set j m2) (j:=j) (m':={ m2 with x:={ m2.x with en:=2,mM:=(i:Int) } }) (by rw[bN];exact hJ.js) (by rw[g8];exact⟨rfl,rfl,rfl,rfl⟩) q (by rw[bN];exact hq);rw[List.set_set] at this
       exact this) (λq h1 h2=>by rw[bN] at h1 h2;omega)
      have jU:last Q ⟨t,b,NA,k,ee,v⟩=true:=by
       unfold last;simp only[hf,Bool.true_or]
      have er:r.jn Q i ⟨t,b,NA,k,ee,v⟩=some ⟨r.sp.set t ⟨(b:Int)+1,-1⟩,r.tr.set j { m2.x with en:=2,mM:=(i:Int) },r.bK⟩:=by
       unfold Rd.jn;rw[ru.out,if_neg (by rw[HY.out,xR.out];rintro (h|h);exact h rfl;have h:(ND:Int)<=(NA:Int):=h;omega),jU];have e8:(r.spot ⟨t,b,NA,k,ee,v⟩).tr.toNat=j:=by show(r.sp.getD t dp).tr.toNat=j;rw[hj.out];rfl
       have e9:(r.spot ⟨t,b,NA,k,ee,v⟩).block=(b:Int):=xV.out;rw[e8,e9,if_pos rfl,if_pos (show ee≠141 from p_),if_pos rfl,if_pos rfl,<-wu];rfl
      refine .inl ⟨_,aL,er,rfl,⟨M',_,_,_,LS,m2',?_,SI.Gv (K8.Gv hJ.p),?_⟩,(K8.trans SI).dE tk⟩
      ·rw[List.map_set,hJ.e]
      ·refine hJ.k.fD (t:=t) (.inl rfl) ⟨BB,Int.le_refl (-1),by show(-1:Int)<_;omega⟩ ⟨by simp,by have:=hJ.k.l;simp;omega⟩ rfl (λq hq=>?_);have wA:q<r.tr.length:=by simpa using hq
       clear hq
       by_cases e:q=j
       ·subst e;right;have e7:=oV wA ({ m2.x with en:=2,mM:=(i:Int) } : Tr) ke;simp only[] at e7 ⊢;rw[e7];have ha:=hJ.k.a q wA;rw[Ii.out] at ha;rw[<-wu];exact⟨by show(m.x.cQ++[_]).length<=i+1;rw[b_];have:=ha.1;simp;omega,by show(m.x.lS++[_]).length<=i+1;rw[b_];have:=ha.2.1;simp;omega,by show(0:Int)<=2;decide,Int.le_refl 2⟩
       ·exact .inl ⟨wA,wK e _ _⟩
     replace hP:=hid hP;clear T8 A8 C8 E8 T9 A9 C9 E9 FK JC Q9 Rb Ru GQ Q_ Rc F9 tT tU Bq p5 q1 hJ h8 r8 K8 JH Yd Oq XM Kn q0;replace gm:=hid gm;go_wp2_with (go_at_call 84;refine qq.mono ?_;rintro en w' ⟨rfl,rfl⟩)
     go_ret;exact hP.out
    ·have hf:D3 ee=false:=by simpa using hf
     have qq:=qq W8 ee;rw[hf] at qq
     by_cases h0:ee=0
     ·subst h0
      by_cases WM:d.k=14
      ·have YN:(d.k==14)=true:=by simp[WM]
       have T9:=gP (n:=ms.length) T8 (by rw[bN]) js8 8 (by decide) (vI 2) { m2 with x:={ m2.x with en:=2 } } (by rw[g8];rfl);rw[List.set_set] at T9;have F9:Fr (λk=>k=gt) W8 (W8.setCell ⟨gt,j*10+8,none⟩ (vI 2)):=(Fr.refl (λk=>k=gt) W8).setCell (p:=⟨gt,j*10+8,none⟩) (.inl rfl) _;obtain⟨W9,Y9⟩:=ao (W8.setCell ⟨gt,j*10+8,none⟩ (vI 2));rw[Y9] at T9 F9;have A9:=aw A8 F9 (λb hb e=>gm (by obtain rfl:=ay.fJ hb;exact e));have C9:=C8.fr F9 (λe=>rj e.symm);have E9:=E8.fr F9 (show ¬w.heap.size=gt by omega);have SF:j<(ms.set j { m2 with x:={ m2.x with en:=2 } }).length:=by rw[bN];exact hJ.js
       have g9:=oV hJ.js ({ m2 with x:={ m2.x with en:=2 } } : ue) fo;have p5:=cI fg (by decide) T9 fo SF 5 (u:=vI m2.x.mM) (by rw[g9];rfl);have p51:=p5.1;have p52:=p5.2;have FK:=gP (n:=ms.length) T9 (by rw[bN]) SF 5 (by decide) (vI (i:Int)) { m2 with x:={ m2.x with en:=2,mM:=(i:Int) } } (by rw[g9];rfl);rw[List.set_set] at FK;have tT:Fr (λk=>k=gt) W9 (W9.setCell ⟨gt,j*10+5,none⟩ (vI (i:Int))):=(Fr.refl (λk=>k=gt) W9).setCell (p:=⟨gt,j*10+5,none⟩) (.inl rfl) _;obtain⟨Dq,Ea⟩:=ao (W9.setCell ⟨gt,j*10+5,none⟩ (vI (i:Int)));rw[Ea] at FK tT;have JC:=aw A9 tT (λb hb e=>gm (by obtain rfl:=ay.fJ hb;exact e));have Q9:=C9.fr tT (λe=>rj e.symm);have Rb:=E9.fr tT (show ¬w.heap.size=gt by omega);have q1:=cI fe (by decide) JC dp hJ.ts 1 (u:=vI (j:Int)) (by rw[<-hj.out];rfl);have rI:=q1.1;have qK:=q1.2;have GQ:=gN JC rfl hJ.ts 1 (by decide) (vI (-1)) ⟨(r.sp.getD t dp).block,-1⟩ rfl;have tU:Fr (λk=>k=ga) Dq (Dq.setCell ⟨ga,t*2+1,none⟩ (vI (-1))):=(Fr.refl (λk=>k=ga) Dq).setCell (p:=⟨ga,t*2+1,none⟩) (.inl rfl) _;obtain⟨FL,Kw⟩:=ao (Dq.setCell ⟨ga,t*2+1,none⟩ (vI (-1)));rw[Kw] at GQ tU;have Ru:=aw FK tU (λb hb e=>gm (by obtain rfl:=ay.fJ hb;exact e.symm));have Q_:=Q9.fr tU (λe=>zE e.symm);have Rc:=Rb.fr tU (show ¬w.heap.size=ga by omega);have z4:=(E8 4 _ rfl).1;have z4':=(Rc 4 _ rfl).1;have Bq:Fr (λb=>b=rp\/ay (.slice (some ⟨ga,0,none⟩) r.sp.length ca) b\/ay (.slice (some ⟨gt,0,none⟩) ms.length ct) b) W8 FL:=((F9.mono (λb _ e=>.inr (.inr (by rw[e];exact Bt)))).trans (tT.mono (λb _ e=>.inr (.inr (by rw[e];exact Bt))))).trans (tU.mono (λb _ e=>.inr (.inl (by rw[e];exact Ji))));have Nv:t<(r.sp.set t ⟨(r.sp.getD t dp).block,-1⟩).length:=by rw[bN];exact hJ.ts
       have g11:=oV hJ.ts (⟨(r.sp.getD t dp).block,-1⟩:Ax) dp;have q0:=cI fe (by decide) GQ dp Nv 0 (u:=vI (b:Int)) (by rw[g11,<-xV.out];rfl);rw[fM] at q0;have qt:=q0.1;have qw:=q0.2;have Oq:=gN (n:=r.sp.length) GQ (by rw[bN]) Nv 0 (by decide) (vI ((b:Int)+1)) ⟨(b:Int)+1,-1⟩ (by rw[g11];rfl);rw[List.set_set,fM] at Oq;have JH:Fr (λk=>k=ga) FL (FL.setCell ⟨ga,t*2,none⟩ (vI ((b:Int)+1))):=(Fr.refl (λk=>k=ga) FL).setCell (p:=⟨ga,t*2,none⟩) (.inl rfl) _;obtain⟨W12,Uo⟩:=ao (FL.setCell ⟨ga,t*2,none⟩ (vI ((b:Int)+1)));rw[Uo] at Oq JH;have Yd:=aw Ru JH (λb hb e=>gm (by obtain rfl:=ay.fJ hb;exact e.symm));have XM:=Q_.fr JH (λe=>zE e.symm);have Pu:NB<=3:=by have:=hQ.out.b t (by rw[kZ.out];exact ht);rw[qD.out] at this;exact this
       have BB:bX ((b:Int)+1):=⟨by omega,by omega⟩;have hw9:IntKind.i64.wrap ((b:Int)+1)=(b:Int)+1:=IntWalk.i64_in _ BB;have Z0:((0:Int) != 141)=true:=rfl;have Kn:=Bq.trans (JH.mono (λb _ e=>.inr (.inl (by rw[e];exact Ji))))
       have hP:kn w τ rp i pv Q (r.jn Q i ⟨t,b,NA,k,0,v⟩) (.returned (.bool true)) W12:=by
        obtain⟨M',aL,LS,m2',SI⟩:=wg.fD h8 r8 Kn XM Oq Yd (λb hb=>.inl hb) (by rw[bN,bN];exact aD _) (λq hq=>by
         rw[bN] at hq;have:=nz (ms:=ms.set j m2) (j:=j) (m':={ m2 with x:={ m2.x with en:=2,mM:=(i:Int) } }) (by rw[bN];exact hJ.js) (by rw[g8];exact⟨rfl,rfl,rfl,rfl⟩) q (by rw[bN];exact hq);rw[List.set_set] at this
         exact this) (λq h1 h2=>by rw[bN] at h1 h2;omega)
        have jU:last Q ⟨t,b,NA,k,0,v⟩=true:=by
         unfold last;have Hp:((dh Q (t:Int) (b:Int)).getD NA dD).k=14:=by show(((Q.getD t []).getD b []).getD NA dD).k=14;rw[hd.out];exact WM
         show(D3 0 || ((0:Int)==0 && (((dh Q (t:Int) (b:Int)).getD NA dD).k==14)))=true;rw[Hp];rfl
        have er:r.jn Q i ⟨t,b,NA,k,0,v⟩=some ⟨r.sp.set t ⟨(b:Int)+1,-1⟩,r.tr.set j { m2.x with en:=2,mM:=(i:Int) },r.bK⟩:=by
         unfold Rd.jn;rw[ru.out,if_neg (by rw[HY.out,xR.out];rintro (h|h);exact h rfl;have h:(ND:Int)<=(NA:Int):=h;omega),jU];have e8:(r.spot ⟨t,b,NA,k,0,v⟩).tr.toNat=j:=by show(r.sp.getD t dp).tr.toNat=j;rw[hj.out];rfl
         have e9:(r.spot ⟨t,b,NA,k,0,v⟩).block=(b:Int):=xV.out;rw[e8,e9,if_pos rfl,if_pos (show(0:Int)≠141 from by decide),if_pos rfl,if_pos rfl,<-wu];rfl
        refine .inl ⟨_,aL,er,rfl,⟨M',_,_,_,LS,m2',?_,SI.Gv (K8.Gv hJ.p),?_⟩,(K8.trans SI).dE tk⟩
        ·rw[List.map_set,hJ.e]
        ·refine hJ.k.fD (t:=t) (.inl rfl) ⟨BB,Int.le_refl (-1),by show(-1:Int)<_;omega⟩ ⟨by simp,by have:=hJ.k.l;simp;omega⟩ rfl (λq hq=>?_);have wA:q<r.tr.length:=by simpa using hq
         clear hq
         by_cases e:q=j
         ·subst e;right;have e7:=oV wA ({ m2.x with en:=2,mM:=(i:Int) } : Tr) ke;simp only[] at e7 ⊢;rw[e7];have ha:=hJ.k.a q wA;rw[Ii.out] at ha;rw[<-wu];exact⟨by show(m.x.cQ++[_]).length<=i+1;rw[b_];have:=ha.1;simp;omega,by show(m.x.lS++[_]).length<=i+1;rw[b_];have:=ha.2.1;simp;omega,by show(0:Int)<=2;decide,Int.le_refl 2⟩
         ·exact .inl ⟨wA,wK e _ _⟩
       replace hP:=hid hP;clear T8 A8 C8 E8 T9 A9 C9 E9 FK JC Q9 Rb Ru GQ Q_ Rc F9 tT tU Bq p5 q1 hJ h8 r8 K8 JH Yd Oq XM Kn q0;replace gm:=hid gm;go_wp2_with (go_at_call 84;refine qq.mono ?_;rintro en w' ⟨rfl,rfl⟩)
       go_ret;exact hP.out
      ·have YN:(d.k==14)=false:=by simp[WM]
       have z4:=(E8 4 _ rfl).1
       have hP:kn w τ rp i pv Q (r.jn Q i ⟨t,b,NA,k,0,v⟩) (.returned (.bool true)) W8:=by
        have jU:last Q ⟨t,b,NA,k,0,v⟩=false:=by
         unfold last;have Hp:((dh Q (t:Int) (b:Int)).getD NA dD).k=d.k:=by show(((Q.getD t []).getD b []).getD NA dD).k=d.k;rw[hd.out]
         show(D3 0 || ((0:Int)==0 && (((dh Q (t:Int) (b:Int)).getD NA dD).k==14)))=false;rw[Hp,YN];rfl
        have er:r.jn Q i ⟨t,b,NA,k,0,v⟩=some ⟨r.sp,r.tr.set j m2.x,r.bK⟩:=by
         unfold Rd.jn;rw[ru.out,if_neg (by rw[HY.out,xR.out];rintro (h|h);exact h rfl;have h:(ND:Int)<=(NA:Int):=h;omega),jU];have e8:(r.spot ⟨t,b,NA,k,0,v⟩).tr.toNat=j:=by show(r.sp.getD t dp).tr.toNat=j;rw[hj.out];rfl
         rw[e8,<-wu];rfl
        refine .inl ⟨_,yR,er,rfl,⟨M8,_,_,_,h8,r8,?_,K8.Gv hJ.p,?_⟩,K8.dE tk⟩
        ·rw[List.map_set,hJ.e]
        ·refine hJ.k.fD (t:=t) (s':=r.sp.getD t dp) (.inr rfl) ⟨(hJ.k.s t hJ.ts).1,(hJ.k.s t hJ.ts).2.1,by show _<((r.tr.set j _).length:Int);rw[bN];exact(hJ.k.s t hJ.ts).2.2⟩ ⟨by simp,by have:=hJ.k.l;simp;omega⟩ rfl (λq hq=>?_);have wA:q<r.tr.length:=by simpa using hq
         clear hq
         by_cases e:q=j
         ·subst e;right;have e7:=oV wA m2.x ke;simp only[] at e7 ⊢;rw[e7];have ha:=hJ.k.a q wA;rw[Ii.out] at ha;rw[<-wu];exact⟨by show(m.x.cQ++[_]).length<=i+1;rw[b_];have:=ha.1;simp;omega,by show(m.x.lS++[_]).length<=i+1;rw[b_];have:=ha.2.1;simp;omega,ha.2.2⟩
         ·exact .inl ⟨wA,wK e _ _⟩
       replace hP:=hid hP;clear T8 A8 C8 E8 hJ h8 r8 K8;replace gm:=hid gm;go_wp2_with (go_at_call 84;refine qq.mono ?_;rintro en w' ⟨rfl,rfl⟩)
       go_ret;exact hP.out
     ·have h0':(ee==0)=false:=by simp[h0]
      have z4:=(E8 4 _ rfl).1
      have hP:kn w τ rp i pv Q (r.jn Q i ⟨t,b,NA,k,ee,v⟩) (.returned (.bool true)) W8:=by
       have jU:last Q ⟨t,b,NA,k,ee,v⟩=false:=by
        unfold last;show(D3 ee || (ee==0 && _))=false;rw[hf,h0'];rfl
       have er:r.jn Q i ⟨t,b,NA,k,ee,v⟩=some ⟨r.sp,r.tr.set j m2.x,r.bK⟩:=by
        unfold Rd.jn;rw[ru.out,if_neg (by rw[HY.out,xR.out];rintro (h|h);exact h rfl;have h:(ND:Int)<=(NA:Int):=h;omega),jU];have e8:(r.spot ⟨t,b,NA,k,ee,v⟩).tr.toNat=j:=by show(r.sp.getD t dp).tr.toNat=j;rw[hj.out];rfl
        rw[e8,<-wu];rfl
       refine .inl ⟨_,yR,er,rfl,⟨M8,_,_,_,h8,r8,?_,K8.Gv hJ.p,?_⟩,K8.dE tk⟩
       ·rw[List.map_set,hJ.e]
       ·refine hJ.k.fD (t:=t) (s':=r.sp.getD t dp) (.inr rfl) ⟨(hJ.k.s t hJ.ts).1,(hJ.k.s t hJ.ts).2.1,by show _<((r.tr.set j _).length:Int);rw[bN];exact(hJ.k.s t hJ.ts).2.2⟩ ⟨by simp,by have:=hJ.k.l;simp;omega⟩ rfl (λq hq=>?_);have wA:q<r.tr.length:=by simpa using hq
        clear hq
        by_cases e:q=j
        ·subst e;right;have e7:=oV wA m2.x ke;simp only[] at e7 ⊢;rw[e7];have ha:=hJ.k.a q wA;rw[Ii.out] at ha;rw[<-wu];exact⟨by show(m.x.cQ++[_]).length<=i+1;rw[b_];have:=ha.1;simp;omega,by show(m.x.lS++[_]).length<=i+1;rw[b_];have:=ha.2.1;simp;omega,ha.2.2⟩
        ·exact .inl ⟨wA,wK e _ _⟩
      replace hP:=hid hP;clear T8 A8 C8 E8 hJ h8 r8 K8;replace gm:=hid gm;go_wp2_with (go_at_call 84;refine qq.mono ?_;rintro en w' ⟨rfl,rfl⟩)
      go_ret;exact hP.out
 ·have oZ:(n != (NA:Int))=true:=by simp[bne,hn]
  have hP:Hid (∀W,Calm w W->kn w τ rp i pv Q (r.jn Q i ⟨t,b,n,k,ee,v⟩) (.returned (.bool false)) W):=λW c=>rm.out W c (by unfold Rd.jn;rw[ru.out,xR.out];exact if_pos (.inl hn));replace hn:=hid hn;go_wp2_with fail
  go_quiet (fail)
  go_wp2;go_ret;exact hP.out _ (k3.trans (ah.drewN nq))
end
section
variable {w:ag}{τ:Nat->Nat}{rp i:Nat}{pv:aA}{Q:Pg}{r:Rd}
theorem kn.out{W w':ag}{τ0:Nat->Nat}{r':Option Rd}{en:Ending}(h:kn W τ0 rp i pv Q r' en w')(c:Calm w W)(tk:oO w τ τ0):kn w τ rp i pv Q r' en w':=by
 rcases h with ⟨x,aL,e1,e2,h,k⟩|⟨e1,e2,f⟩
 ·exact .inl ⟨x,aL,e1,e2,h,((fS.calm 10000 τ0 c).trans k).dE tk⟩
 ·exact .inr ⟨e1,e2,(((Calm.any c:Fr (λk=>τ0 k<10000) _ _).trans f).mono (λk hk e=>by show τ k<10000;rw[<-tk k hk];exact e))⟩
theorem jP.bK{w':ag}(h:jP w τ rp pv Q i r){came':Int}(hc:∀vs,af w rp vs->vs.length=4->af w' rp (vs.set 3 (vI came')))(f:Fr (λk=>k=rp) w w')(hb:0<=came'/\came'<=(i+1:Nat)):∃aL,jP w' aL rp pv Q (i+1) { r with bK:=came' } /\ fS 10000 w τ w' aL:=by
 obtain⟨M,atv,ib,ms,h1,h2,h3,h4,h5⟩:=h;have jT:af w rp [pv,atv,ib,vI r.bK]:=by have:=h1.at_ 1;rw[h2.c] at this;exact this
 have ha:w.ownsRow 0 135 2 atv r.sp.length (r.sp.flatMap sX):=by have:=h1.at_ 2;rw[h2.a] at this;exact this
 have ru:w.ownsRow 0 89 10 ib ms.length (ms.flatMap sF):=by have:=h1.at_ 3;rw[h2.t] at this;exact this
 have dN:af w' rp [pv,atv,ib,vI came']:=hc _ jT rfl;obtain⟨M',aL,m1,m2,m3⟩:=wg.fD (ms':=ms) h1 h2 (f.mono (λb _ e=>.inl e)) dN (aw ha f (λb hb e=>h1.apart (t:=2) (u:=1) (k:=b) (by decide) (by rw[h2.a];exact hb) (by rw[h2.c];exact e))) (aw ru f (λb hb e=>h1.apart (t:=3) (u:=1) (k:=b) (by decide) (by rw[h2.t];exact hb) (by rw[h2.c];exact e))) (λb hb=>.inl hb) (aD _) (λk hk=>⟨rfl,rfl,rfl,rfl⟩) (λk h1 h2=>by omega);refine⟨aL,⟨M',atv,ib,ms,m1,m2,h3,m3.Gv h4,⟨h5.n,h5.s,hb,?_,λk hk=>?_⟩⟩,m3⟩
 ·have:=h5.l;show r.tr.length<=_;omega
 ·have:=h5.a k hk;exact⟨by show(r.tr.getD k ke).cQ.length<=i+1;omega,by show(r.tr.getD k ke).lS.length<=i+1;omega,this.2.2.1,this.2.2.2⟩
theorem jP.next(h:jP w τ rp pv Q i r):jP w τ rp pv Q (i+1) r:=by
 obtain⟨M,atv,ib,ms,h1,h2,h3,h4,h5⟩:=h;exact⟨M,atv,ib,ms,h1,h2,h3,h4,h5.mono (Nat.le_succ _)⟩
theorem MN(h:jP w τ rp pv Q i r)(hi:i<=2000)(hQ:tX Q)(t b n k ee v:Int):aJ prog 56 #[pR rp,vI (i:Int),.agg #[vI t,vI b,vI n,vI k,vI ee,vI v]] w (kn w τ rp i pv Q (r.take Q i ⟨t,b,n,k,ee,v⟩)):=by
 obtain⟨τ0,h0,tk,fr⟩:=h.fresh;clear h;have k0:Calm w (w.alloc (.cells #[vI t,vI b,vI n,vI k,vI ee,vI v] 76)):=ah.alloc _;have oE:af (w.alloc (.cells #[vI t,vI b,vI n,vI k,vI ee,vI v] 76)) w.heap.size (mB t b n k ee v):=af.zT w [_,_,_,_,_,_] _ _ rfl;obtain⟨W0,gF⟩:=ao (w.alloc (.cells #[vI t,vI b,vI n,vI k,vI ee,vI v] 76));rw[gF] at k0 oE;have hX:=h0.calm k0;obtain⟨M,atv,ib,ms,h1,h2,h3,h4,h5⟩:=h0;have hc:af w rp [pv,atv,ib,vI r.bK]:=by have:=h1.at_ 1;rw[h2.c] at this;exact this
 have ha:w.ownsRow 0 135 2 atv r.sp.length (r.sp.flatMap sX):=by have:=h1.at_ 2;rw[h2.a] at this;exact this
 have Od:rp<w.heap.size:=hc.lt (by simp);obtain⟨pa,pc,AH,xY⟩:=h4;obtain⟨aa,ac,EL⟩:=aF ha;obtain⟨NS,sM⟩:=ao r.sp.length;obtain⟨NQ,kZ⟩:=ao Q.length;have hSQ:NS=NQ:=by rw[<-sM,<-kZ];exact h5.n
 rw[sM] at EL;rw[kZ] at AH;have DA:∀W,Calm w W->W.cell? ⟨rp,0,none⟩=some (.slice pa NQ pc):=λW c=>by rw[<-AH];exact c.cellAt (hc 0 _ rfl).1 id
 have DB:∀W,Calm w W->W.cell? ⟨rp,1,none⟩=some (.slice aa NS ac):=λW c=>by rw[<-EL];exact c.cellAt (hc 1 _ rfl).1 id
 have VM:=(hc.calm k0 3 _ rfl);have rm:Hid (∀W,Calm w W->r.take Q i ⟨t,b,n,k,ee,v⟩=none->kn w τ rp i pv Q (r.take Q i ⟨t,b,n,k,ee,v⟩) (.returned (.bool false)) W):=λW c e=>.inr ⟨e,rfl,c.any⟩;have RZ:=h5.c
 have Vx:Hid (∀q,q<NS->∃g,aa=some ⟨g,0,none⟩/\(∀W,Calm w W->W.cell? ⟨g,q*2,none⟩=some (vI (r.sp.getD q dp).block)/\W.cell? ⟨g,q*2+1,none⟩=some (vI (r.sp.getD q dp).tr))/\-1<=(r.sp.getD q dp).tr):=λq hq=>by
  obtain⟨g,c,hv,hg⟩:=bT fe (by decide) ha dp (i:=q) (by omega);rw[EL,sM] at hv;injection hv with e1 e2 e3
  exact⟨g,e1,λW c=>⟨by have:=c.cellAt (hg 0 _ rfl).1 id;rwa [fM] at this,c.cellAt (hg 1 _ rfl).1 id⟩,(h5.s q (by omega)).2.1⟩
 have hpq:Hid (∀q,q<NQ->∃g o u uc,pa=some ⟨g,o,none⟩/\∀W,Calm w W->W.cell? ⟨g,o+q,none⟩=some (.slice u (Q.getD q []).length uc)):=λq hq=>by
  obtain⟨g,o,u,e,tg,ku,ub,uc,hu,_⟩:=xY q (by omega);exact⟨g,o,ub,uc,e,λW c=>by rw[<-hu];exact c.cellAt ku id⟩
 replace DA:=hid DA;replace DB:=hid DB;replace sM:=hid sM;replace kZ:=hid kZ;replace hX:=hid hX;have z0:=(oE 0 _ rfl).1;have z3:=(oE 3 _ rfl).1;clear h1 h2 h3 ha EL xY AH hc
 by_cases kV:t = -1
 ·subst kV;have Du:IntKind.i64.wrap (r.bK+1)=r.bK+1:=IntWalk.i64_in _ ⟨by omega,by omega⟩
  by_cases YQ:k=5
  ·subst YQ;have y31:=VM.1;have y32:=VM.2;have F1:=jR W0 (rp) 3 (vI (r.bK+1))
   have hP:kn w τ rp i pv Q (r.take Q i ⟨-1,b,n,5,ee,v⟩) (.returned (.bool true)) (W0.setCell ⟨rp,3,none⟩ (vI (r.bK+1))):=by
    obtain⟨aL,m1,m2⟩:=hX.out.bK (came':=r.bK+1) (λvs o hl=>o.set 3 (vI (r.bK+1)) (by omega)) F1 ⟨by omega,by omega⟩;have e1:r.take Q i ⟨-1,b,n,5,ee,v⟩=some { r with bK:=r.bK+1 }:=by unfold Rd.take;rw[if_pos rfl,if_pos rfl]
    exact kn.out (W:=W0) (τ0:=τ0) (.inl ⟨_,aL,e1,rfl,m1,m2⟩) k0 tk
   replace hP:=hid hP;have z3':=F1.cellAt z3 (by show ¬w.heap.size=rp;omega);clear F1 VM;go_in;go_wp2;go_ret;exact hP.out
  ·have h5b:(k==5)=false:=by simp[YQ]
   by_cases YP:k=4
   ·subst YP
    have hP:kn w τ rp i pv Q (r.take Q i ⟨-1,b,n,4,ee,v⟩) (.returned (.bool true)) W0:=by
     have e1:r.take Q i ⟨-1,b,n,4,ee,v⟩=some r:=by unfold Rd.take;rw[if_pos rfl,if_neg (show ¬((4:Int)=5) by decide),if_pos rfl]
     exact kn.out (W:=W0) (τ0:=τ0) (.inl ⟨r,τ0,e1,rfl,hX.out.next,.refl _ _ _⟩) k0 tk
    replace hP:=hid hP;clear VM;go_in;go_wp2;go_ret;exact hP.out
   ·have h4b:(k==4)=false:=by simp[YP]
    have hP:=hid (rm.out W0 k0 (by unfold Rd.take;rw[if_pos rfl,if_neg YQ,if_neg YP]));replace YP:=hid YP;replace YQ:=hid YQ;clear VM;go_in;go_wp2;go_ret;exact hP.out
 ·have ac4:(t==-1)=false:=by simp[kV]
  clear VM
  by_cases yd:t<0
  ·have ac7:decide (t<0)=true:=decide_eq_true yd;have hP:Hid (∀W,Calm w W->kn w τ rp i pv Q (r.take Q i ⟨t,b,n,k,ee,v⟩) (.returned (.bool false)) W):=λW c=>rm.out W c (by unfold Rd.take;rw[if_neg kV,if_pos (.inl yd)]);replace kV:=hid kV;replace yd:=hid yd;go_in;go_wp2_with fail
   go_quiet (fail)
   go_wp2;go_ret;exact hP.out _ (k0.trans (ah.drewN nq))
  obtain⟨t,rfl⟩:∃q:Nat,t=q:=⟨t.toNat,by omega⟩;have ac6:decide ((t:Int)<0)=false:=decide_eq_false yd;have y0:=DA.out W0 k0
  by_cases lV:NQ<=t
  ·have ab8:decide (t>=NQ)=true:=decide_eq_true lV;have hP:Hid (∀W,Calm w W->kn w τ rp i pv Q (r.take Q i ⟨t,b,n,k,ee,v⟩) (.returned (.bool false)) W):=λW c=>rm.out W c (by unfold Rd.take;rw[if_neg kV,if_pos (.inr (by rw[kZ.out];show(NQ:Int)<=(t:Int);omega))]);replace kV:=hid kV;replace yd:=hid yd;replace lV:=hid lV;go_in;go_wp2_with fail
   go_quiet (fail)
   go_wp2;go_ret;exact hP.out _ (k0.trans (ah.drewN nq))
  have uO:t<NQ:=by omega
  have ab8:decide (NQ<=t)=false:=decide_eq_false lV;have Ih:t<NS:=by omega
  obtain⟨g,o,ub,uc,rfl,hpc⟩:=hpq.out t uO;obtain⟨ga,rfl,hsc,ab2⟩:=Vx.out t Ih;obtain⟨NB,qD⟩:=ao ((Q.getD t []).length);rw[qD] at hpc;obtain⟨sb,Sr⟩:=ao ((r.sp.getD t dp).block);obtain⟨st,cM⟩:=ao ((r.sp.getD t dp).tr);rw[Sr,cM] at hsc;rw[cM] at ab2;replace hsc:=hid hsc;replace hpc:=hid hpc;replace hpq:=hid hpq;replace Vx:=hid Vx;have wP:Hid (¬((t:Int)<0\/(Q.length:Int)<=(t:Int))):=by show ¬_;rw[kZ.out];omega
  replace kV:=hid kV;replace yd:=hid yd;replace lV:=hid lV;replace qD:=hid qD;replace Sr:=hid Sr;replace cM:=hid cM;replace hQ:=hid hQ;go_in;go_wp2_with fail
  go_quiet (fail)
  have k1:Calm w (W0.drewN nq):=k0.trans (ah.drewN nq);have xg:af (W0.drewN nq) w.heap.size (mB t b n k ee v):=oE.calm (ah.drewN nq);replace hX:=hid (hX.out.calm (ah.drewN nq:Calm W0 (W0.drewN nq)));generalize W0.drewN nq=W1 at *;clear y0 z0 z3 oE k0 gF;obtain⟨z0,z1⟩:=af.N1 xg;have y0:=DA.out W1 k1;have y1:=DB.out W1 k1;have y2:=hpc.out W1 k1;have y3:=(hsc.out W1 k1).1
  by_cases qE:b<0
  ·have abj:decide (b<0)=true:=decide_eq_true qE;have hP:Hid (∀W,Calm w W->kn w τ rp i pv Q (r.take Q i ⟨t,b,n,k,ee,v⟩) (.returned (.bool false)) W):=λW c=>rm.out W c (by unfold Rd.take;rw[if_neg kV.out,if_neg wP.out,if_pos (.inl qE)]);replace qE:=hid qE;go_wp2_with fail
   go_quiet (fail)
   go_wp2;go_ret;exact hP.out _ (k1.trans (ah.drewN nq))
  obtain⟨b,rfl⟩:∃q:Nat,b=q:=⟨b.toNat,by omega⟩;have abj:decide ((b:Int)<0)=false:=decide_eq_false qE
  by_cases Ux:NB<=b
  ·have abk:decide (b>=NB)=true:=decide_eq_true Ux;have hP:Hid (∀W,Calm w W->kn w τ rp i pv Q (r.take Q i ⟨t,b,n,k,ee,v⟩) (.returned (.bool false)) W):=λW c=>rm.out W c (by unfold Rd.take;rw[if_neg kV.out,if_neg wP.out,if_pos (.inr (.inl (by show((Q.getD t []).length:Int)<=(b:Int);rw[qD.out];omega)))]);replace Ux:=hid Ux;go_wp2_with fail
   go_quiet (fail)
   go_wp2;go_ret;exact hP.out _ (k1.trans (ah.drewN nq))
  have abk:decide (NB<=b)=false:=decide_eq_false Ux
  by_cases Ej:¬(b:Int)=sb
  ·have abl:((b:Int) != sb)=true:=by simp[bne,Ej]
   have hP:Hid (∀W,Calm w W->kn w τ rp i pv Q (r.take Q i ⟨t,b,n,k,ee,v⟩) (.returned (.bool false)) W):=λW c=>rm.out W c (by unfold Rd.take;rw[if_neg kV.out,if_neg wP.out,if_pos (.inr (.inr (by show(b:Int)≠(r.sp.getD t dp).block;rw[Sr.out];exact Ej)))]);replace Ej:=hid Ej;go_wp2_with fail
   go_quiet (fail)
   go_wp2;go_ret;exact hP.out _ (k1.trans (ah.drewN nq))
  have Ej:(b:Int)=sb:=Classical.not_not.1 Ej;have abl:((b:Int) != sb)=false:=by simp[Ej]
  have Es:Hid (¬((b:Int)<0\/((Q.getD (t:Int).toNat []).length:Int)<=(b:Int)\/(b:Int)≠(r.spot ⟨t,b,n,k,ee,v⟩).block)):=by
   show ¬((b:Int)<0\/((Q.getD t []).length:Int)<=(b:Int)\/(b:Int)≠(r.sp.getD t dp).block);rw[qD.out,Sr.out];omega
  have gU:Hid ((r.spot ⟨t,b,n,k,ee,v⟩).tr=st):=cM.out;have Zi:Hid ((r.sp.getD t dp).block=(b:Int)):=Sr.out.trans Ej.symm;replace qE:=hid qE;replace Ux:=hid Ux;replace Ej:=hid Ej;go_wp2_with fail
  go_quiet (fail)
  have k2:Calm w (W1.drewN nq):=k1.trans (ah.drewN nq);have xh:af (W1.drewN nq) w.heap.size (mB t b n k ee v):=xg.calm (ah.drewN nq);replace hX:=hid (hX.out.calm (ah.drewN nq:Calm W1 (W1.drewN nq)));generalize W1.drewN nq=W2 at *;clear y0 y1 y2 y3 z0 z1 xg k1;have z0:=(xh 0 _ rfl).1;have y1:=DB.out W2 k2;have y4:=(hsc.out W2 k2).2;go_wp2_with fail
  go_quiet (fail)
  have k3:Calm w (W2.drewN nq):=k2.trans (ah.drewN nq);have ET:af (W2.drewN nq) w.heap.size (mB t b n k ee v):=xh.calm (ah.drewN nq);replace hX:=hid (hX.out.calm (ah.drewN nq:Calm W2 (W2.drewN nq)));generalize W2.drewN nq=W3 at *;clear y1 y4 z0 xh k2;obtain⟨q0,q1,q2,q3,q4,q5⟩:=af.Ry ET;have VA:Hid (t<Q.length):=by show _<_;rw[kZ.out];exact uO
  have Zg:Hid (b<(Q.getD t []).length):=by show _<_;rw[qD.out];have:=Ux.out;omega
  have du:st = -1\/0<=st:=by omega
  have PY:Hid (r.take Q i ⟨t,b,n,k,ee,v⟩=none->kn w τ rp i pv Q (r.take Q i ⟨t,b,n,k,ee,v⟩) (.returned (.bool false)) W3):=λe=>rm.out W3 k3 e;have ic:∀x:Int,0<=x->decide (x>=0)=true:=λx hx=>decide_eq_true hx
  by_cases KV:k=1
  ·subst KV;rcases du with hl|hl
   ·have hsd:decide (st>=0)=false:=by rw[hl];rfl
    have ob:=IF hX.out hi hQ.out VA.out (b:Int) n 1 ee v
    have e9:r.take Q i ⟨t,b,n,1,ee,v⟩=some (r.begin Q i ⟨t,b,n,1,ee,v⟩):=by
     unfold Rd.take;rw[if_neg kV.out,if_neg wP.out,if_neg Es.out,if_pos rfl,if_neg (by rw[gU.out,hl];decide)]
    rw[<-e9] at ob;replace ic:=hid ic;replace hl:=hid hl;replace e9:=hid e9;go_wp2_with fail
    refine ob.mono ?_;rintro en w5 (⟨x,aL,e1,rfl,m1,m2⟩|⟨e1,rfl,m2⟩)
    ·have hP:=hid (kn.out (.inl ⟨x,aL,e1,rfl,m1,m2⟩:kn W3 τ0 rp i pv Q _ _ w5) k3 tk);clear ob m1 m2;go_wp2;go_ret;exact hP.out
    ·have hP:=hid (kn.out (.inr ⟨e1,rfl,m2⟩:kn W3 τ0 rp i pv Q _ _ w5) k3 tk);clear ob m2;go_wp2;go_ret;exact hP.out
   ·have hsd:decide (st>=0)=true:=ic st hl;have hP:=hid (PY.out (by unfold Rd.take;rw[if_neg kV.out,if_neg wP.out,if_neg Es.out,if_pos rfl,if_pos (by rw[gU.out];exact hl)]));replace ic:=hid ic;replace hl:=hid hl;go_wp2;go_ret;exact hP.out
  have jg:(k==1)=false:=by simp[KV]
  by_cases KY:k=2
  ·subst KY;rcases du with hl|hl
   ·have hsd:decide (st>=0)=false:=by rw[hl];rfl
    have hP:=hid (PY.out (by unfold Rd.take;rw[if_neg kV.out,if_neg wP.out,if_neg Es.out,if_neg (show ¬((2:Int)=1) by decide),if_pos rfl,if_neg (by rw[gU.out,hl];decide)]));replace ic:=hid ic;replace hl:=hid hl;go_wp2;go_ret;exact hP.out
   ·have hsd:decide (st>=0)=true:=ic st hl;obtain⟨j,hj⟩:∃j:Nat,st=j:=⟨st.toNat,by omega⟩;have ob:=Mx hX.out hi hQ.out VA.out Zg.out (j:=j) (cM.out.trans hj) Zi.out n 2 ee v
    have e9:r.take Q i ⟨t,b,n,2,ee,v⟩=r.jn Q i ⟨t,b,n,2,ee,v⟩:=by
     unfold Rd.take;rw[if_neg kV.out,if_neg wP.out,if_neg Es.out,if_neg (show ¬((2:Int)=1) by decide),if_pos rfl,if_pos (by rw[gU.out];exact hl)]
    rw[<-e9] at ob;replace ic:=hid ic;replace hl:=hid hl;replace e9:=hid e9;replace hj:=hid hj;go_wp2_with fail
    refine ob.mono ?_;rintro en w5 (⟨x,aL,e1,rfl,m1,m2⟩|⟨e1,rfl,m2⟩)
    ·have hP:=hid (kn.out (.inl ⟨x,aL,e1,rfl,m1,m2⟩:kn W3 τ0 rp i pv Q _ _ w5) k3 tk);clear ob m1 m2;go_wp2;go_ret;exact hP.out
    ·have hP:=hid (kn.out (.inr ⟨e1,rfl,m2⟩:kn W3 τ0 rp i pv Q _ _ w5) k3 tk);clear ob m2;go_wp2;go_ret;exact hP.out
  have gX:(k==2)=false:=by simp[KY]
  by_cases KZ:k=3
  ·subst KZ;rcases du with hl|hl
   ·have hsd:decide (st>=0)=false:=by rw[hl];rfl
    have hP:=hid (PY.out (by unfold Rd.take;rw[if_neg kV.out,if_neg wP.out,if_neg Es.out,if_neg (show ¬((3:Int)=1) by decide),if_neg (show ¬((3:Int)=2) by decide),if_pos rfl,if_neg (by rw[gU.out,hl];decide)]));replace ic:=hid ic;replace hl:=hid hl;go_wp2;go_ret;exact hP.out
   ·have hsd:decide (st>=0)=true:=ic st hl;obtain⟨j,hj⟩:∃j:Nat,st=j:=⟨st.toNat,by omega⟩;have ob:=Fh hX.out hi hQ.out VA.out Zg.out (j:=j) (cM.out.trans hj) Zi.out n 3 ee v
    have e9:r.take Q i ⟨t,b,n,3,ee,v⟩=r.gC Q i ⟨t,b,n,3,ee,v⟩:=by
     unfold Rd.take;rw[if_neg kV.out,if_neg wP.out,if_neg Es.out,if_neg (show ¬((3:Int)=1) by decide),if_neg (show ¬((3:Int)=2) by decide),if_pos rfl,if_pos (by rw[gU.out];exact hl)]
    rw[<-e9] at ob;replace ic:=hid ic;replace hl:=hid hl;replace e9:=hid e9;replace hj:=hid hj;go_wp2_with fail
    refine ob.mono ?_;rintro en w5 (⟨x,aL,e1,rfl,m1,m2⟩|⟨e1,rfl,m2⟩)
    ·have hP:=hid (kn.out (.inl ⟨x,aL,e1,rfl,m1,m2⟩:kn W3 τ0 rp i pv Q _ _ w5) k3 tk);clear ob m1 m2;go_wp2;go_ret;exact hP.out
    ·have hP:=hid (kn.out (.inr ⟨e1,rfl,m2⟩:kn W3 τ0 rp i pv Q _ _ w5) k3 tk);clear ob m2;go_wp2;go_ret;exact hP.out
  have mL:(k==3)=false:=by simp[KZ]
  have hP:=hid (PY.out (by unfold Rd.take;rw[if_neg kV.out,if_neg wP.out,if_neg Es.out,if_neg KV,if_neg KY,if_neg KZ]));replace ic:=hid ic;replace KV:=hid KV;replace KY:=hid KY;replace KZ:=hid KZ;go_wp2;go_ret;exact hP.out
end
