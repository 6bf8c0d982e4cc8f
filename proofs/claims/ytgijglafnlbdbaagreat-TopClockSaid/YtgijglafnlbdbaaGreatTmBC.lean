import Derived.Maps.GroupsBeside
import Derived.Test.YtgijglafnlbdbaaGreatTmBB
set_option linter.all false
set_option maxHeartbeats 8000000
set_option maxRecDepth 8000
namespace Go.Proofs.YtgijglafnlbdbaaGreat
open RowKit Shelf Proofs.Tryz
open Go renaming World->aj,Value->aC,Calls->aL
theorem vF.Yu{w w':aj}{lo g8 c i:Nat}{v pv nv:aC}{ms:List fW}{x:Mo}(h:vF w lo v ms i)(hi:i<ms.length)(hv:v=.slice (some ⟨g8,0,none⟩) ms.length c)(hp:bm w' 0 pv x.ps)(hn:bm w' 0 nv x.ns)
 (bp:∀b,aB pv b->w.heap.size<=b) (bn:∀b,aB nv b->w.heap.size<=b/\¬aB pv b) (H0:lo<=w.heap.size) (hr:w'.ownsRow 0 240 8 v ms.length ((ms.set i ⟨x,pv,nv⟩).flatMap eF)) (f:Fr (λk=>k=g8) w w'):vF w' lo v (ms.set i ⟨x,pv,nv⟩) (i+1):=by
 have xd:aB v g8:=by rw[hv];exact aB.mk.2 rfl
 have Y5:g8<w.heap.size:=(World.ownsRow.lt h.r g8 xd).2
 have same:∀j,j<i+1->(j=i/\(ms.set i ⟨x,pv,nv⟩).getD j bV=⟨x,pv,nv⟩)\/(j<i/\(ms.set i ⟨x,pv,nv⟩).getD j bV=ms.getD j bV):=λj hj=>by
  by_cases e:j=i
  ·subst e;exact .inl ⟨rfl,ks hi _ _⟩
  ·exact .inr ⟨by omega,rH e _ _⟩
 have cC:∀j,j<i->∀b,aB (ms.getD j bV).pv b\/aB (ms.getD j bV).nv b->b<w.heap.size/\b≠g8:=λj hj b hb=>by
  refine⟨?_,λe=>(h.l j hj b hb).2 (by rw[e];exact xd)⟩;rcases hb with hb|hb
  ·exact(World.ownsRow.lt (h.p j hj) b hb).2
  ·exact(World.ownsRow.lt (h.n j hj) b hb).2
 have new:∀b,aB pv b\/aB nv b->w.heap.size<=b:=λb hb=>hb.elim (bp b) (λe=>(bn b e).1);refine⟨by rw[bE];exact hr,λj hj=>?_,λj hj=>?_,λj hj b hb=>?_,h.v,λj hj b hb=>?_,λj k hj hk HX b hb hc=>?_⟩
 ·rcases same j hj with ⟨_,e⟩|⟨h1,e⟩ <;> rw[e]
  ·exact hp
  ·exact az (h.p j h1) f (λb hb e=>(cC j h1 b (.inl hb)).2 e)
 ·rcases same j hj with ⟨_,e⟩|⟨h1,e⟩ <;> rw[e]
  ·exact hn
  ·exact az (h.n j h1) f (λb hb e=>(cC j h1 b (.inr hb)).2 e)
 ·rcases same j hj with ⟨_,e⟩|⟨h1,e⟩ <;> rw[e] at hb
  ·have:=new b hb;exact⟨by omega,λe2=>by have:=(World.ownsRow.lt h.r b e2).2;omega⟩
  ·exact h.l j h1 b hb
 ·rcases same j hj with ⟨_,e⟩|⟨h1,e⟩ <;> rw[e] at hb ⊢
  ·exact(bn b hb).2
  ·exact h.d j h1 b hb
 ·rcases same j hj with ⟨ej,e⟩|⟨h1,e⟩ <;> rcases same k hk with ⟨ek,e'⟩|⟨h2,e'⟩ <;> rw[e] at hb <;> rw[e'] at hc
  ·omega
  ·have:=new b hb;have:=(cC k h2 b hc).1;omega
  ·have:=new b hc;have:=(cC j h1 b hb).1;omega
  ·exact h.e j k h1 h2 HX b hb hc
theorem LZ{T:Nat->Prop}{w:aj}{v:aC}{ms:List fW}(h:bL T w v ms)(hl:ms.length<=100000)(qa:Option Addr)(qc:Nat)(hs:∀m∈ms,m.x.ps.length<=100000/\m.x.ns.length<=100000) :
 aL prog 83 #[.agg #[v,.slice qa 0 qc]] w (YN w (ms.map (·.x))):=by
 have h0:=h.mono (T':=λb=>b<w.heap.size) (λb h _=>h);obtain⟨W0,e0,k0,o1,o2⟩:=rU w [v,.slice qa 0 qc] 92 [.slice none 0 0,.slice none 0 0] 92;have td:=o2.lt (by simp);have h1:=h0.calm k0;obtain⟨va,vc,hv,-⟩:=h;obtain⟨NM,jD⟩:=au ms.length;have hNl:NM<=100000:=by rw[<-jD];exact hl
 rw[jD] at hv;subst hv;obtain⟨y0,y1⟩:=ag.lF o1;have oc:=af (λW (c:Calm W0 W)=>KG (h1.calm c) hl);have oi:=af (λW=>GY (w:=W) qa qc);replace o2:=af o2;replace k0:=af k0;replace h1:=af h1;replace hs:=af hs;replace jD:=af jD;clear h0 o1;go_in;go_upto_region 1 with fail
 clear e0
 go_cut [3] (λs3 wx=>PN W0 ms s3 wx)
 case first=>
  have kd:Calm W0 W0.drew:=aq.drew;refine d_ (Way.reads [0,1,3,4] (.any (.alt 2 (.any (.alt 5 (Way.reads [6] (.step 7 (.step 8 .fin))) (.alt 7 (.step 5 (Way.reads [6] (.step 8 .fin))) .stop))) (.alt 7 (.step 2 (.step 5 (Way.reads [6] (.step 8 .fin)))) .stop)))) (λw'=>Calm W0 w') (by kernel_rfl) (by kernel_rfl) kd ?_;refine ay (aR w.heap.size) rfl rfl (λw' hw'=>?_) ai ?_
  ·simp[go_sem]
  refine ay (.slice va NM vc) rfl rfl (λw' hw'=>?_) ai ?_
  ·have e1:=hw'.cellAt y0 id;simp[go_sem,e1]
  refine ay (.pointer (some ⟨w.heap.size,1,none⟩)) rfl rfl (λw' hw'=>?_) ai ?_
  ·simp[go_sem]
  refine ay (.slice qa 0 qc) rfl rfl (λw' hw'=>?_) ai ?_
  ·have e1:=hw'.cellAt y1 id;simp[go_sem,e1]
  refine eX ?_;refine bC rfl rfl ?_ (bC rfl rfl ?_ dI)
  ·skip
   have Kw:=oc.out _ kd;go_wp2_with fail
   refine Kw.mono ?_;rintro e w5 ⟨v8,rfl,r5,b5,c5⟩;obtain⟨a8,c8,vV⟩:=aG r5;subst vV;clear Kw;have K5:=kd.trans c5;refine⟨K5,?_⟩;refine eX ?_;refine bC rfl rfl ?_ (bC rfl rfl ?_ dI)
   ·skip
    have zi:=oi.out w5;go_wp2_with fail
    refine zi.mono ?_;rintro e w6 ⟨rfl,h6⟩;obtain rfl:w5=w6:=h6.symm;clear zi;refine⟨K5,?_⟩;refine ay (.agg #[.slice a8 ms.length c8,.slice none 0 0]) rfl rfl (λw' hw'=>?_) ai ?_
    ·simp[go_sem]
    refine aI rfl rfl ?_;refine im w5 rfl fP ?_;intro w7 k7 o7;have K7:=K5.trans k7;have l7:=o7.lt (by simp);refine⟨K7,?_⟩;go_simp;refine aI rfl rfl ?_;refine aN _ _ _ rfl (w5.heap.size) #[.slice a8 ms.length c8,.slice none 0 0] (by rfl) (by rfl) o7 rfl (by kernel_rfl) (by simp[Value.oneCell']) ?_;intro w8 s8 f8;have K8:=K7.join f8 (λj hj e=>by have:=kd.size;have:=K7.size;have:=K5.size;omega);refine⟨K8,cg ?_⟩;have hP:PN W0 ms (aR w5.heap.size) w8:=⟨_,_,rfl,s8,az (az r5 k7 (λ_ _=>id)) f8 (λb hb e=>by have:=(World.ownsRow.lt r5 b hb).2;omega),λb hb=>⟨by have:=b5 b hb;have:=kd.size;omega,λe=>by have:=(World.ownsRow.lt r5 b hb).2;omega⟩,by have:=K5.size;omega,K8⟩;replace hP:=af hP;clear s8 f8 K8 K5 K7 o7 r5 b5 c5;go_simp;go_wp2_with fail
    go_meet;exact hP.out
   ·skip
    refine im w5 rfl fP ?_;intro w7 k7 o7;have K7:=K5.trans k7;have l7:=o7.lt (by simp);refine⟨K7,?_⟩;go_simp;refine aI rfl rfl ?_;have zi:=oi.out w7;go_wp2_with fail
    refine zi.mono ?_;rintro e w6 ⟨rfl,h6⟩;obtain rfl:w7=w6:=h6.symm;clear zi;refine⟨K7,?_⟩;refine ay (.agg #[.slice a8 ms.length c8,.slice none 0 0]) rfl rfl (λw' hw'=>?_) ai ?_
    ·simp[go_sem]
    refine aI rfl rfl ?_;refine aN _ _ _ rfl (w5.heap.size) #[.slice a8 ms.length c8,.slice none 0 0] (by rfl) (by rfl) o7 rfl (by kernel_rfl) (by simp[Value.oneCell']) ?_;intro w8 s8 f8;have K8:=K7.join f8 (λj hj e=>by have:=kd.size;have:=K7.size;have:=K5.size;omega);refine⟨K8,cg ?_⟩;have hP:PN W0 ms (aR w5.heap.size) w8:=⟨_,_,rfl,s8,az (az r5 k7 (λ_ _=>id)) f8 (λb hb e=>by have:=(World.ownsRow.lt r5 b hb).2;omega),λb hb=>⟨by have:=b5 b hb;have:=kd.size;omega,λe=>by have:=(World.ownsRow.lt r5 b hb).2;omega⟩,by have:=K5.size;omega,K8⟩;replace hP:=af hP;clear s8 f8 K8 K5 K7 o7 r5 b5 c5;go_simp;go_wp2_with fail
    go_meet;exact hP.out
  ·skip
   refine im W0.drew rfl fP ?_;intro w7 k7 o7;have K7:=kd.trans k7;have l7:=o7.lt (by simp);refine⟨K7,?_⟩;go_simp;refine aI rfl rfl ?_;have Kw:=oc.out _ K7;go_wp2_with fail
   refine Kw.mono ?_;rintro e w5 ⟨v8,rfl,r5,b5,c5⟩;obtain⟨a8,c8,vV⟩:=aG r5;subst vV;clear Kw;have K5:=K7.trans c5;refine⟨K5,?_⟩;have XY:=o7.calm c5;refine aI rfl rfl ?_;have zi:=oi.out w5;go_wp2_with fail
   refine zi.mono ?_;rintro e w6 ⟨rfl,h6⟩;obtain rfl:w5=w6:=h6.symm;clear zi;refine⟨K5,?_⟩;refine ay (.agg #[.slice a8 ms.length c8,.slice none 0 0]) rfl rfl (λw' hw'=>?_) ai ?_
   ·simp[go_sem]
   refine aI rfl rfl ?_;refine aN _ _ _ rfl (W0.drew.heap.size) #[.slice a8 ms.length c8,.slice none 0 0] (by rfl) (by rfl) XY rfl (by kernel_rfl) (by simp[Value.oneCell']) ?_;intro w8 s8 f8;have K8:=K5.join f8 (λj hj e=>by have:=kd.size;have:=K5.size;have:=K5.size;omega);refine⟨K8,cg ?_⟩;have hP:PN W0 ms (aR W0.drew.heap.size) w8:=⟨_,_,rfl,s8,az r5 f8 (λb hb e=>by have:=b5 b hb;omega),λb hb=>⟨by have:=b5 b hb;have:=K7.size;omega,λe=>by have:=b5 b hb;omega⟩,by have:=kd.size;omega,K8⟩;replace hP:=af hP;clear s8 f8 K8 K5 K7 k7 o7 XY r5 b5 c5;go_simp;go_wp2_with fail
   go_meet;exact hP.out
 case rest=>
  obtain⟨g,v8,rfl,o8,r8,b8,lg,c8⟩:=hcut;obtain⟨oa,DH,vV⟩:=aG r8;rw[jD.out] at vV;have p0:=(o8 0 _ rfl).1;rw[vV] at p0;have um:Hid (Ue W0 ms g v8 0 wc):=⟨ms,rfl,λ_ _=>rfl,⟨r8,λj hj=>absurd hj (Nat.not_lt_zero j),λj hj=>absurd hj (Nat.not_lt_zero j),λj hj=>absurd hj (Nat.not_lt_zero j),λb hb=>(b8 b hb).1,λj hj=>absurd hj (Nat.not_lt_zero j),λj k hj=>absurd hj (Nat.not_lt_zero j)⟩,λj hj=>absurd hj (Nat.not_lt_zero j),λb hb=>(b8 b hb).2,o8,lg,c8⟩;replace vV:=af vV;clear oc oi y0 y1 o8 r8 b8 lg c8;go_wp2_with fail
  go_loopw [15] (λz w'=>∃i:Nat,i<=NM/\z=vI i/\Ue W0 ms g v8 i w') (λz _=>NM-(intOf z).toNat)
  case atStart=>exact⟨0,by omega,rfl,um.out⟩
  case round=>
   clear um p0;obtain⟨i,hi,rfl,ms',hx,yR,hM,N0,J1,og,lg,cr⟩:=hrel;have hlen:ms'.length=NM:=by have:=congrArg List.length hx;simpa[jD.out] using this
   by_cases aZ:i<NM
   ·have hd:decide ((i:Int)<(NM:Int))=true:=decide_eq_true (by omega);obtain⟨g8,c8,pF,gY⟩:=bz bX (by decide) hM.r bV (i:=i) (by omega);rw[hlen] at pF;have SG:=pF;rw[vV.out] at pF;injection pF with e1 _ e3
    subst e1;subst e3;obtain⟨⟨x,pv,nv⟩,hm⟩:∃m,ms'.getD i bV=m:=⟨_,rfl⟩;have rP:ms.getD i bV=⟨x,pv,nv⟩:=by rw[<-yR i (aM _)];exact hm
    rw[hm] at gY;obtain⟨_,_,-,Wz⟩:=h1.out;obtain⟨_,_,-,-,-,HV,gH⟩:=Wz i (by rw[jD.out];exact aZ);clear Wz;rw[rP] at HV gH;have nL:=hs.out ⟨x,pv,nv⟩ (by rw[<-rP];exact get_mem bV (by rw[jD.out];exact aZ));subst SG;simp only at HV gH nL;obtain⟨pa,pc,rfl⟩:∃a c,pv=.slice a x.ps.length c:=by obtain⟨a,c,e,_⟩:=HV;exact⟨a,c,e⟩
    obtain⟨na,nc,rfl⟩:∃a c,nv=.slice a x.ns.length c:=by obtain⟨a,c,e,_⟩:=gH;exact⟨a,c,e⟩
    have q5:=gY 5 _ rfl;have q6:=gY 6 _ rfl;have g0:=(og 0 _ rfl).1;have Y5:g<wr.heap.size:=og.lt (by simp);have xd:g8≠g:=J1 g8 (aB.mk.2 rfl);have aaB:g8<wr.heap.size:=(World.ownsRow.lt hM.r g8 (aB.mk.2 rfl)).2;have dR:=hM.r;rw[hlen] at dR;have lpx:=nL.1;have lnx:=nL.2;have ip:=HV.calm cr;have iN:=gH.calm cr
    have hTl:∀b,b<w.heap.size->b<wr.heap.size/\b≠g8:=λb hb=>by
     have h2:=hM.v g8 (aB.mk.2 rfl);have h3:=cr.size;omega
    replace hM:=af hM;replace N0:=af N0;replace J1:=af J1;replace og:=af og;replace hx:=af hx;replace yR:=af yR;replace hm:=af hm;replace rP:=af rP;replace hlen:=af hlen;replace ip:=af ip;replace iN:=af iN;replace dR:=af dR;clear gY nL HV gH;go_upto_region 5 with fail
    have UM:Calm wr wr.drew:=aq.drew;have oo5:=BK (ip.out.calm UM) lpx;refine a_ 9 10 (λw'=>w'.cell? ⟨g,0,none⟩=some (.slice (some ⟨g8,0,none⟩) NM DH)/\w'.cell? ⟨g8,i*8+5,none⟩=some (.slice pa x.ps.length pc)) (by kernel_rfl) (by kernel_rfl) ⟨UM.cellAt g0 id,UM.cellAt q5.1 id⟩ ?_;refine ae (aR g) rfl (λw' hw'=>?_) ai ?_
    ·simp[go_sem]
    refine ae (.slice (some ⟨g8,0,none⟩) NM DH) rfl (λw' hw'=>?_) ai ?_
    ·simp[go_sem,hw'.1]
    refine ae (vI (i:Int)) rfl (λw' hw'=>?_) ai ?_
    ·simp[go_sem]
    refine ae (aR g) rfl (λw' hw'=>?_) ai ?_
    ·simp[go_sem]
    refine ae (.slice (some ⟨g8,0,none⟩) NM DH) rfl (λw' hw'=>?_) ai ?_
    ·simp[go_sem,hw'.1]
    refine ae (vI (i:Int)) rfl (λw' hw'=>?_) ai ?_
    ·simp[go_sem]
    refine ae (.pointer (some ⟨g8,i*8,none⟩)) rfl (λw' hw'=>?_) ai ?_
    ·simp[go_sem,aZ]
    refine ae (.pointer (some ⟨g8,i*8+5,none⟩)) rfl (λw' hw'=>?_) ai ?_
    ·simp[go_sem]
    refine ae (.slice pa x.ps.length pc) rfl (λw' hw'=>?_) ai ?_
    ·simp[go_sem,hw'.2]
    simp only[bG];refine bH rfl ?_;go_wp2_with fail
    refine oo5.mono ?_;rintro e w5 ⟨v5,rfl,r5,b5,c5⟩;clear oo5;obtain⟨a5,n5,e5⟩:=aG r5;subst e5;have k5:=UM.trans c5;refine⟨⟨k5.cellAt g0 id,k5.cellAt q5.1 id⟩,?_⟩;have y5:=k5.cellAt q5.1 id;have z5:=k5.frozenAt q5.1 q5.2 id;have f51:Fr (λk=>k=g8) w5 (w5.setCell ⟨g8,i*8+5,none⟩ (.slice a5 x.ps.length n5)):=(Fr.refl (λk=>k=g8) w5).setCell (p:=⟨g8,i*8+5,none⟩) (.inl rfl) _;have R5:=kg (az dR.out k5 (λ_ _=>id)) (j:=i*8+5) (by rw[show ms'.flatMap eF=ms'.flatMap eF from rfl,dS eF 8 bX];have:=hlen.out;(try simp only[bE] at *);omega) (.slice a5 x.ps.length n5);rw[jW eF 8 bX bV ⟨x,.slice a5 x.ps.length n5,.slice na x.ns.length nc⟩ 5 (by decide) (.slice a5 x.ps.length n5) _ i (by have:=hlen.out;(try simp only[bE] at *);omega) (by rw[hm.out];rfl)] at R5;obtain⟨W5,mW⟩:=au (w5.setCell ⟨g8,i*8+5,none⟩ (.slice a5 x.ps.length n5));rw[mW] at f51 R5;have F5:Fr (λk=>k=g8) wr W5:=(Calm.any k5).trans f51;have Cs:∀b,aB (.slice a5 x.ps.length n5) b->wr.heap.size<=b/\b<w5.heap.size:=λb hb=>⟨by have:=b5 b hb;have:=UM.size;omega,(World.ownsRow.lt r5 b hb).2⟩;have r5':bm W5 0 (.slice a5 x.ps.length n5) x.ps:=az r5 f51 (λb hb e=>by have:=Cs b hb;omega);have g05:=F5.cellAt g0 (λe=>xd e.symm);have abX:=F5.size;have hw5:w5.heap.size<=W5.heap.size:=f51.size;obtain⟨g9,c9,he5,Mh⟩:=bz (l:=ms'.set i ⟨x,.slice a5 x.ps.length n5,.slice na x.ns.length nc⟩) bX (by decide) (by rw[bE,hlen.out];exact R5) bV (i:=i) (by rw[bE,hlen.out];exact aZ)
    have e1:g8=g9:=by
     injection he5 with e1 _ _
     injection e1 with e1
     injection e1
    subst e1;clear he5;rw[ks (by rw[hlen.out];exact aZ)] at Mh;have Yi:=Mh 6 _ rfl;replace r5':=af r5';replace R5:=af R5;replace F5:=af F5;replace Cs:=af Cs;clear Mh r5 b5 c5 k5 UM f51;simp only[bW];go_upto_region 6 with fail
    have UN:Calm W5 W5.drew:=aq.drew;have oo6:=BK (((iN.out.fr F5.out (λb hb e=>(hTl b hb).2 e))).calm UN) lnx;refine a_ 9 10 (λw'=>w'.cell? ⟨g,0,none⟩=some (.slice (some ⟨g8,0,none⟩) NM DH)/\w'.cell? ⟨g8,i*8+6,none⟩=some (.slice na x.ns.length nc)) (by kernel_rfl) (by kernel_rfl) ⟨UN.cellAt g05 id,UN.cellAt Yi.1 id⟩ ?_;refine ae (aR g) rfl (λw' hw'=>?_) ai ?_
    ·simp[go_sem]
    refine ae (.slice (some ⟨g8,0,none⟩) NM DH) rfl (λw' hw'=>?_) ai ?_
    ·simp[go_sem,hw'.1]
    refine ae (vI (i:Int)) rfl (λw' hw'=>?_) ai ?_
    ·simp[go_sem]
    refine ae (aR g) rfl (λw' hw'=>?_) ai ?_
    ·simp[go_sem]
    refine ae (.slice (some ⟨g8,0,none⟩) NM DH) rfl (λw' hw'=>?_) ai ?_
    ·simp[go_sem,hw'.1]
    refine ae (vI (i:Int)) rfl (λw' hw'=>?_) ai ?_
    ·simp[go_sem]
    refine ae (.pointer (some ⟨g8,i*8,none⟩)) rfl (λw' hw'=>?_) ai ?_
    ·simp[go_sem,aZ]
    refine ae (.pointer (some ⟨g8,i*8+6,none⟩)) rfl (λw' hw'=>?_) ai ?_
    ·simp[go_sem]
    refine ae (.slice na x.ns.length nc) rfl (λw' hw'=>?_) ai ?_
    ·simp[go_sem,hw'.2]
    simp only[bG];refine bH rfl ?_;go_wp2_with fail
    refine oo6.mono ?_;rintro e w6 ⟨v6,rfl,r6,b6,c6⟩;clear oo6;obtain⟨a6,n6,e6⟩:=aG r6;subst e6;have k6:=UN.trans c6;refine⟨⟨k6.cellAt g05 id,k6.cellAt Yi.1 id⟩,?_⟩;have y6:=k6.cellAt Yi.1 id;have z6:=k6.frozenAt Yi.1 Yi.2 id;have f61:Fr (λk=>k=g8) w6 (w6.setCell ⟨g8,i*8+6,none⟩ (.slice a6 x.ns.length n6)):=(Fr.refl (λk=>k=g8) w6).setCell (p:=⟨g8,i*8+6,none⟩) (.inl rfl) _;have R6:=kg (az R5.out k6 (λ_ _=>id)) (j:=i*8+6) (by rw[dS eF 8 bX];have:=hlen.out;(try simp only[bE] at *);omega) (.slice a6 x.ns.length n6);rw[jW eF 8 bX bV ⟨x,.slice a5 x.ps.length n5,.slice a6 x.ns.length n6⟩ 6 (by decide) (.slice a6 x.ns.length n6) _ i (by have:=hlen.out;(try simp only[bE] at *);omega) (by rw[ks (by rw[hlen.out];exact aZ)];rfl)] at R6;obtain⟨W6,lQ⟩:=au (w6.setCell ⟨g8,i*8+6,none⟩ (.slice a6 x.ns.length n6));rw[lQ] at f61 R6;have F6:Fr (λk=>k=g8) W5 W6:=(Calm.any k6).trans f61;rw[List.set_set] at R6
    have dh:Ue W0 ms g (.slice (some ⟨g8,0,none⟩) NM DH) (i+1) W6:=by
     have ZZ:=F5.out.trans F6;have kF:∀b,aB (.slice a6 x.ns.length n6) b->W5.heap.size<=b/\b<w6.heap.size:=λb hb=>⟨by have:=b6 b hb;have:=UN.size;omega,(World.ownsRow.lt r6 b hb).2⟩;have WZ:bm W6 0 (.slice a5 x.ps.length n5) x.ps:=az r5'.out F6 (λb hb e=>by have:=Cs.out b hb;omega);have Qh:bm W6 0 (.slice a6 x.ns.length n6) x.ns:=az r6 f61 (λb hb e=>by have:=kF b hb;omega);have cy:=hM.out.Yu (x:=x) (pv:=.slice a5 x.ps.length n5) (nv:=.slice a6 x.ns.length n6) (by rw[hlen.out];exact aZ) (by rw[hlen.out]) WZ Qh (λb hb=>(Cs.out b hb).1) (λb hb=>⟨by have:=kF b hb;omega,λe=>by have:=kF b hb;have:=Cs.out b e;omega⟩) (by have:=cr.size;omega) (by rw[hlen.out];exact R6) ZZ;refine⟨ms'.set i ⟨x,.slice a5 x.ps.length n5,.slice a6 x.ns.length n6⟩,?_,λj hj=>?_,cy,λj hj b hb=>?_,J1.out,og.out.fr ZZ (λe=>xd e.symm),lg,?_⟩
     ·rw[<-hx.out,List.map_set];have e:(ms'.map (·.x)).getD i jB=x:=(ss (·.x) ms' bV i).trans (by rw[hm.out]);exact xI (by rw[List.length_map,hlen.out];exact aZ) jB e
     ·rw[rH (by omega)];exact yR.out j (by omega)
     ·by_cases e:j=i
      ·subst e;rw[ks (by rw[hlen.out];exact aZ)] at hb
       have h1:wr.heap.size<=b:=by
        rcases hb with hb|hb
        ·exact(Cs.out b hb).1
        ·have:=(kF b hb).1;omega
       omega
      ·rw[rH e] at hb;exact N0.out j (by omega) b hb
     ·exact cr.join ZZ (λj hj e=>by have h2:=hM.out.v g8 (aB.mk.2 rfl);have e:j=g8:=e;omega)
    replace dh:=af dh;clear R6 F6 r6 b6 c6 k6 UN f61;simp only[bW];go_wp2_with fail
    exact⟨⟨i+1,by omega,by simp,dh.out⟩,by simp[intOf] <;> omega⟩
   ·have e:i=NM:=by omega
    have hd:decide ((i:Int)<(NM:Int))=false:=decide_eq_false (by omega);obtain⟨g0,g1⟩:=ag.lF og;have XX:=o2.out.calm cr;have Xm:w.heap.size+1<W0.heap.size:=td
    have hP:Hid (∀W,Fr (λk=>k=w.heap.size+1) wr W->YN w (ms.map (·.x)) (.returned (.agg #[v8,.slice none 0 0])) W):=λW f=>
     ⟨v8,ms',rfl,hx,by rw[hlen,<-e];exact hM.fr f (λb hb e=>by omega) (by omega),(k0.out.trans cr).join f (λj hj e=>by omega)⟩
    rw[vV.out] at g0 hP;clear hM N0 J1 og hx yR;replace e:=af e;replace hlen:=af hlen;go_wp2_with (refine il rfl _ _ _ rfl (w.heap.size+1) #[.slice oa NM DH,.slice none 0 0] rfl rfl XX rfl (by kernel_rfl) (by simp[Value.oneCell']) ?_;intro w9 s9 f9;have hQ:=af (hP.out w9 f9);clear f9 hP XX g0 g1)
    exact bodyPost_ret (v:=.agg #[.slice oa NM DH,.slice none 0 0]) (Lb (i:=2) rfl rfl s9) rfl hQ.out
section
attribute [local irreducible] Oper.wp
theorem D3{fn:Func}{W:aj}{B:Nat}{u v0 y:aC}{i j:Nat}{tmps:Array aC}(hf:fn.results = #[.cell i 92,.tmp j])(h1:tmps[i]?.getD undef = aR B)(h4:tmps[j]?.getD undef=y)(o:ag W B [u,v0]):(results fn tmps).run prog W=.ok (.tuple #[.agg #[u,v0],y]) W:=by
 obtain⟨m0,m1⟩:=ag.lF o;simp[results,hf,h1,h4,go_sem,m0,m1]
def Vo(w:aj)(l:List Mo)(en:Ending)(w':aj):Prop:=
 ∃v' ms',en=.returned (.tuple #[.agg #[v',.slice none 0 0],.bool true])/\ms'.map (·.x)=l/\bL (λb=>w.heap.size<=b) w' v' ms'/\Calm w w'
theorem Po(x:Tr):(lW x).length<=x.aJ.length/\(∀i,i<(lW x).length->(lW x).getD i aD=x.aJ.getD i aD)/\((lW x).length=x.aJ.length\/((lW x).length+1=x.aJ.length/\x.en=2/\n_ (x.aJ.getD (lW x).length aD).e=true)):=by
 unfold lW;split
 ·rename_i h;refine⟨by rw[List.length_dropLast];omega,λi hi=>?_,.inr ⟨by rw[List.length_dropLast];omega,h.1,?_⟩⟩
  ·rw[List.length_dropLast] at hi;rw[aS,aS,List.getElem?_dropLast,if_pos hi]
  ·rw[List.length_dropLast];exact h.2.2
 ·exact⟨aM _,λ_ _=>rfl,.inl rfl⟩
structure Z8(w:aj)(Ir:Nat)(x:Tr)(av tv:aC)(l:List Mo)(R:List Int)(wr:aj):Prop where
 c:Calm w wr
 o6:ag wr (w.heap.size+1) (iy R)
 o8:ag wr (w.heap.size+1+1) [vI x.th,vI x.bl,vI x.st,vI x.se,vI x.fr,vI x.dr,av,tv,vI x.en,vI x.bt]
 oA:ag wr (w.heap.size+1+1+1) [.slice none 0 0,.slice none 0 0]
 m:∃v ms,ag wr Ir [v,.slice none 0 0]/\ms.map (·.x)=l/\bL (λb=>w.heap.size+4<=b/\b≠Ir) wr v ms
theorem OV{T T0 T1 T2:Nat->Prop}{w:aj}{v dv av tv:aC}{ms:List fW}{Q:List Dd}{x:Tr}{y:List Mo × List Int}{R:List Int}(h:bL T w v ms)(hl:ms.length+x.aJ.length<=900)(yR:MO (ms.map (·.x)))(qa:Option Addr)(qc:Nat)(hR:R.length=6)(hd:fo T0 w dv Q)(hr:∀d∈Q,d.Rt)(ha:Af Er 3 aD T1 w av x.aJ)(JX:cB T2 w tv x.gF)(Wo:x.aJ.length<=Q.length)(hql:Q.length<=1000)(lq:x.gF.length=x.aJ.length)(hy:fN Q (lW x) 0 (ms.map (·.x),R)=some y)(la:Option Addr)(lc:Nat) :
 aL prog 49 #[.agg #[v,.slice qa 0 qc],Ip R,dv,.agg #[vI x.th,vI x.bl,vI x.st,vI x.se,vI x.fr,vI x.dr,av,tv,vI x.en,vI x.bt],.slice la 0 lc] w (Vo w y.1):=by
 obtain⟨cy,RU⟩:=KU hy;obtain⟨kN,gI,lT⟩:=Po x;obtain⟨K,hK⟩:=au ((lW x).length);rw[hK] at cy RU kN gI lT;obtain⟨ST,hST⟩:=au ((λi=>nk Q (lW x) (ms.map (·.x),R) i):Nat->List Mo × List Int);have hs:∀i,nk Q (lW x) (ms.map (·.x),R) i=ST i:=λi=>by rw[<-hST]
 have Qi:Hid (∀i,i<K->∀d a,Q.getD i dD=d->x.aJ.getD i aD=a->ST (i+1)=((gj (ST i).1 (ST i).2 d a.v).1,(gj (ST i).1 (ST i).2 d a.v).2.1)/\(gj (ST i).1 (ST i).2 d a.v).2.2.1=a.v/\(gj (ST i).1 (ST i).2 d a.v).2.2.2=a.e/\n_ a.e=false):=λi hi d a e1 e2=>by
  have h1:=RU i hi;rw[gI i hi,e1,e2,hs] at h1;refine⟨?_,h1.1,h1.2,by rw[<-h1.2];exact Ri _ _ _ _⟩;rw[<-hs,<-hs];show((gj _ _ (Q.getD i dD) ((lW x).getD i aD).v).1,_)=_;rw[gI i hi,e1,e2]
 have Sz:Hid (∀i,i<=K->MO (ST i).1/\(ST i).1.length<=ms.length+i/\(ST i).2.length=6):=λi=>by
  induction i with
  | zero=>intro _;rw[<-hs];exact⟨yR,by show(ms.map _).length<=_;simp,hR⟩
  | succ i ih=>
    intro hi;obtain⟨a1,a2,a3⟩:=ih (by omega);obtain⟨e,_⟩:=Qi.out i (by omega) _ _ rfl rfl;rw[e];have h9:=Ex (ST i).1 (ST i).2 (Q.getD i dD) (x.aJ.getD i aD).v;refine⟨Ey a1 _ (hr _ (get_mem _ (by omega))) _,?_,?_⟩
    ·show(gj _ _ _ _).1.length<=_;omega
    ·show(gj _ _ _ _).2.1.length=_;rw[h9.2.2];exact a3
 have dh:Hid ((ST K).1=y.1):=by show _=_;rw[<-hs,cy]
 have Oe:ST 0=(ms.map (·.x),R):=by rw[<-hs];rfl
 have hs9:∀m∈ms,m.x.ps.length<=100000/\m.x.ns.length<=100000:=λm hm=>by have:=yR _ (List.mem_map_of_mem (f:=(·.x)) hm);omega
 obtain⟨n,hn⟩:=au x.aJ.length;obtain⟨NQ,ji⟩:=au Q.length;have hK3:Hid (K=n\/(K+1=n/\x.en=2/\n_ (x.aJ.getD K aD).e=true)):=by rw[<-hn];exact lT
 obtain⟨aa,ac,Jq,RN⟩:=ha;obtain⟨da,dc,Wy,yH⟩:=hd;obtain⟨ta,tc,qx,jG⟩:=JX;rw[hn] at Jq RN Wo hl kN;rw[ji] at Wy yH Wo hql;rw[lq,hn] at qx jG;subst Wy
 have hg:Hid (∀i,i<n->∃g o a,aa=some ⟨g,o,none⟩/\x.aJ.getD i aD=a/\(∀W,Calm w W->W.cell? ⟨g,o+i*3,none⟩=some (vI a.k)/\W.cell? ⟨g,o+i*3+1,none⟩=some (vI a.e)/\W.cell? ⟨g,o+i*3+2,none⟩=some (vI a.v))):=λi hi=>by
  obtain⟨g,o,e1,_,h⟩:=RN i hi;exact⟨g,o,_,e1,rfl,λW c=>⟨c.cellAt (h 0 _ rfl) id,c.cellAt (h 1 _ rfl) id,c.cellAt (h 2 _ rfl) id⟩⟩
 have oJ:Hid (∀i,i<NQ->∃g o d,da=some ⟨g,o,none⟩/\Q.getD i dD=d/\d.Rt/\∀W,Calm w W->∀j u,(eZ d)[j]?=some u->W.cell? ⟨g,o+i*5+j,none⟩=some u):=λi hi=>by
  obtain⟨g,o,e1,_,h⟩:=yH i hi;exact⟨g,o,_,e1,rfl,hr _ (get_mem _ (by omega)),λW c j u hu=>c.cellAt (h j u hu) id⟩
 have Y6:Hid (∀i,i<n->∃g o a,ta=some ⟨g,o,none⟩/\∀W,Calm w W->W.cell? ⟨g,o+i,none⟩=some (vI a)):=λi hi=>by
  obtain⟨g,o,e1,_,h⟩:=jG i hi;exact⟨g,o,_,e1,λW c=>c.cellAt h id⟩
 have ow:=af (λW (c:Calm w W)=>LZ (h.calm c) (by omega) qa qc hs9);obtain⟨nm,N1⟩:=au ms.length;obtain⟨va,vc,vW,-⟩:=h;rw[N1] at vW hl Sz;subst vW;subst Jq;subst qx;obtain⟨r0,r1,r2,r3,r4,r5,yz⟩:=oV hR;rw[show Ip R=.agg #[vI r0,vI r1,vI r2,vI r3,vI r4,vI r5] by rw[yz];rfl];obtain⟨W1,e1,k1,o5,s1⟩:=dy w [.slice va nm vc,.slice qa 0 qc] 92;obtain⟨W2,e2,k2,o6,s2⟩:=dy W1 [vI r0,vI r1,vI r2,vI r3,vI r4,vI r5] 29;obtain⟨W3,e3,k3,o8,s3⟩:=dy W2 [vI x.th,vI x.bl,vI x.st,vI x.se,vI x.fr,vI x.dr,.slice aa n ac,.slice ta n tc,vI x.en,vI x.bt] 89;obtain⟨W4,e4,k4,oA,s4⟩:=dy W3 [.slice none 0 0,.slice none 0 0] 92;have c3:=k3.trans k4;have c2:=k2.trans c3;have c0:=k1.trans c2;have p5:=o5.calm c2;have p6:=o6.calm c3;have p8:=o8.calm k4;have pA:=oA;rw[s1] at p6;rw[s2,s1] at p8;rw[s3,s2,s1] at pA;have z4:W4.heap.size=w.heap.size+4:=by omega
 have zO:(((w.alloc (.cells #[.slice va nm vc,.slice qa 0 qc] 92)).alloc (.cells #[vI r0,vI r1,vI r2,vI r3,vI r4,vI r5] 29)).alloc (.cells #[vI x.th,vI x.bl,vI x.st,vI x.se,vI x.fr,vI x.dr,.slice aa n ac,.slice ta n tc,vI x.en,vI x.bt] 89)).alloc (.cells #[.slice none 0 0,.slice none 0 0] 92)=W4:=by rw[<-e4,<-e3,<-e2,<-e1]
 clear e1 e2 e3 e4 o5 o6 o8 oA k1 k2 k3 k4 c2 c3 s1 s2 s3 s4 hy cy RU gI lT RN yH jG hr yR hs9;replace hST:=af hST;replace hs:=af hs;replace Oe:=af Oe;replace yz:=af yz;replace hn:=af hn;replace ji:=af ji;replace hK:=af hK;replace lq:=af lq;replace N1:=af N1;replace hR:=af hR;obtain⟨b0,b1⟩:=ag.lF p5;have b20:=(p8 0 _ rfl).1;have b21:=(p8 1 _ rfl).1;have b22:=(p8 2 _ rfl).1;have b23:=(p8 3 _ rfl).1;have b24:=(p8 4 _ rfl).1;have b25:=(p8 5 _ rfl).1;have b26:=(p8 6 _ rfl).1;have b27:=(p8 7 _ rfl).1;have b28:=(p8 8 _ rfl).1;have b29:=(p8 9 _ rfl).1;have hda:decide ((NQ:Int)<n)=false:=decide_eq_false (by omega);have hdb:decide ((n:Int)<n)=false:=decide_eq_false (by omega);go_in;go_wp2_with fail
 go_step3
 go_wp2_with fail
 have o3:=ow.out W4 c0;refine o3.mono ?_;rintro e w5 ⟨v5,ms5,rfl,hm5,Uu,q5⟩;clear o3 ow zO;obtain⟨a5,cc5,rfl⟩:=aG Uu.r;have Uu:=Uu.ins;obtain⟨n5,hn5⟩:=au ms5.length;rw[hn5] at Uu ⊢;obtain⟨kA,oC⟩:=gL w5 [.slice a5 n5 cc5,.slice none 0 0] 92;go_upto_region 4 with fail
 obtain⟨W6,lQ⟩:=au (w5.alloc (.cells #[.slice a5 n5 cc5,.slice none 0 0] 92));rw[lQ] at kA oC ⊢;have z6:W6.heap.size=w5.heap.size+1:=by rw[<-lQ];simp
 clear lQ;have HJ:=(Uu.mono (T':=λb=>w.heap.size+4<=b/\b≠w5.heap.size) (λb hb e=>⟨by have e:W4.heap.size<=b:=e;omega,by omega⟩)).calm kA;obtain⟨Ir,aan⟩:=au w5.heap.size;rw[aan] at oC z6 HJ ⊢;have q6:=q5.trans kA;have hB4:w.heap.size+4<=Ir:=by have:=q5.size;omega
 have r8:=p8.calm q6;have r6:=p6.calm q6;have rA:=pA.calm q6
 have um:Hid (Z8 w Ir x (.slice aa n ac) (.slice ta n tc) (ST 0).1 (ST 0).2 W6):=by
  refine⟨c0.trans q6,?_,r8,rA,_,ms5,oC,by rw[Oe.out];exact hm5,HJ⟩;rw[Oe.out];show ag W6 _ (iy R);rw[yz.out];exact r6
 clear r6 rA oC HJ hm5 Uu p5 p6 p8 pA q5 q6 kA c0 z4 b0 b1 b20 b21 b22 b23 b24 b25 b26 b27 b28 b29 hda hdb;have a0:=(r8 0 _ rfl).1;have a1:=(r8 1 _ rfl).1;have a2:=(r8 2 _ rfl).1;have a3:=(r8 3 _ rfl).1;have a4:=(r8 4 _ rfl).1;have a5:=(r8 5 _ rfl).1;have a6:=(r8 6 _ rfl).1;have a7:=(r8 7 _ rfl).1;have a8:=(r8 8 _ rfl).1;have a9:=(r8 9 _ rfl).1;go_wp2_with fail
 go_step3
 go_wp2_with fail
 go_loopw [13,43] (λs13 z wr=>∃i:Nat,i<=K/\s13=.bool true/\z=vI i/\Z8 w Ir x (.slice aa n ac) (.slice ta n tc) (ST i).1 (ST i).2 wr) (λ_ z _=>n-(intOf z).toNat)
 case atStart=>exact⟨0,by omega,rfl,rfl,um.out⟩
 case round=>
  obtain⟨i,hi,rfl,rfl,hI⟩:=hrel;clear um a0 a1 a2 a3 a4 a5 a6 a7 a8 a9 r8 z6;have Wb:=af hI;obtain⟨hc,r6,r8,rA,v,ms',rC,EN,Nu⟩:=hI;obtain⟨yR,HZ,zQ⟩:=Sz.out i hi;have abl:=rC.lt (by simp);have WV:ms'.length<=1000:=by have:=congrArg List.length EN;rw[List.length_map] at this;omega
  by_cases hiK:i<K
  ·obtain⟨g,o,a,rfl,Wn,iD⟩:=hg.out i (by omega);obtain⟨g2,o2,d,rfl,jY,oP,oI⟩:=oJ.out i (by omega);obtain⟨x0,x1,x2⟩:=iD wr hc;obtain⟨jM,nJ,gD,hn4⟩:=Qi.out i hiK d a jY Wn;obtain⟨kA,oA⟩:=gL wr [vI a.k,vI a.e,vI a.v] 35;have Sc:decide ((i:Int)<n)=true:=decide_eq_true (by omega);have jM:=af jM;have nJ:=af nJ;have gD:=af gD;clear Wb iD jY Wn;have EN:=af EN;go_upto_region 7 with fail
   obtain⟨W7,sU⟩:=au (wr.alloc (.cells #[vI a.k,vI a.e,vI a.v] 35));rw[sU] at kA oA ⊢;have z7:W7.heap.size=wr.heap.size+1:=by rw[<-sU];simp
   clear sU x0 x1 x2;obtain⟨y0,y1,y2⟩:=ag.sP oA;have of:=Ay W7 a.e;go_wp2_with fail
   refine of.mono ?_;rintro e w8 ⟨rfl,e8⟩;rw[hn4,e8];clear of e8;have AP:=hc.trans kA;have d0:=oI W7 AP 0 _ rfl;have d1:=oI W7 AP 1 _ rfl;have d2:=oI W7 AP 2 _ rfl;have d3:=oI W7 AP 3 _ rfl;have d4:=oI W7 AP 4 _ rfl;rw[fj] at d0;have hiq:i<NQ:=by omega
   obtain⟨kD,oD⟩:=gL W7 [vI d.k,vI d.a,vI d.b,vI d.i,vI d.n] 52;go_upto_region 9 with fail
   obtain⟨W8,jn⟩:=au (W7.alloc (.cells #[vI d.k,vI d.a,vI d.b,vI d.i,vI d.n] 52));rw[jn] at kD oD ⊢;rw[z7] at oD;have z8:W8.heap.size=W7.heap.size+1:=by rw[<-jn];simp
   clear jn d0 d1 d2 d3 d4 y0 y1 y2;have k8:=kA.trans kD;have du:=hc.trans k8;obtain⟨s0,s1,s2,s3,s4,s5,EV⟩:=oV zQ;obtain⟨q0,q1,q2,q3,q4,q5,Zf⟩:=oV (Sz.out (i+1) (by omega)).2.2
   have od:aL prog 85 #[.agg #[v,.slice none 0 0],.agg #[vI s0,vI s1,vI s2,vI s3,vI s4,vI s5],.agg #[vI d.k,vI d.a,vI d.b,vI d.i,vI d.n],vI a.v,vI x.se] W8 (λen w'=>∃v' Td,en=.returned (.tuple #[.agg #[v',.slice none 0 0],.agg #[vI q0,vI q1,vI q2,vI q3,vI q4,vI q5],vI a.v,vI a.e])/\(Td:List fW).map (·.x)=(ST (i+1)).1/\bL (λb=>W8.heap.size<=b) w' v' Td/\Calm W8 w'):=by
    have o:=VJ (Nu.calm k8) WV none 0 (λm hm=>by have:=yR m.x (by rw[<-EN.out];exact List.mem_map_of_mem hm);omega) a.v x.se zQ oP;rw[EN.out,EV] at o;refine o.mono ?_;rintro en w' ⟨v',Td,e1,e2,e3,e4⟩;rw[EV] at jM nJ gD;rw[nJ.out,gD.out] at e1;have e5:=jM.out;have e6:(gj (ST i).1 [s0,s1,s2,s3,s4,s5] d a.v).2.1=[q0,q1,q2,q3,q4,q5]:=by rw[<-Zf,e5]
    rw[e6] at e1;exact⟨v',Td,e1,by rw[e2,e5],e3,e4⟩
   have UU:=r6.calm k8;rw[EV] at UU;have UU:ag W8 (w.heap.size+1) [vI s0,vI s1,vI s2,vI s3,vI s4,vI s5]:=UU;have rC8:=rC.calm k8;have Io:=r8.calm k8;have oA8:=oA.calm kD;have rA8:=rA.calm k8;clear jM Nu EN yR zQ EV r6 rC r8 oA rA kA kD k8 hc AP HZ nJ gD oI;replace Zf:=af Zf;obtain⟨c0,c1⟩:=ag.lF rC8;obtain⟨s0,s1,s2,s3,s4,s5⟩:=ag.t_ UU;obtain⟨d0,d1,d2,d3,d4⟩:=ag.Eu oD;obtain⟨y0,y1,y2⟩:=ag.sP oA8;have a0:=(Io 0 _ rfl).1;have a1:=(Io 1 _ rfl).1;have a2:=(Io 2 _ rfl).1;have a3:=(Io 3 _ rfl).1;have a4:=(Io 4 _ rfl).1;have a5:=(Io 5 _ rfl).1;have a6:=(Io 6 _ rfl).1;have a7:=(Io 7 _ rfl).1;have a8:=(Io 8 _ rfl).1;have a9:=(Io 9 _ rfl).1;go_wp2_with fail
   refine od.mono ?_;rintro e w9 ⟨v9,Td,rfl,oL,oz,k9⟩;obtain⟨Vs,VF,pF,-⟩:=id oz;obtain⟨n9,jo⟩:=au Td.length;rw[jo] at pF;subst pF;clear od c0 c1 y0 y1 y2 d0 d1 d2 d3 d4 a0 a1 a2 a3 a4 a5 a6 a7 a8 a9;obtain⟨W9,vq,kB,Tj,Tk⟩:=rU w9 [.slice Vs n9 VF,.slice none 0 0] 92 [vI q0,vI q1,vI q2,vI q3,vI q4,vI q5] 29;replace vq:(w9.alloc (.cells #[.slice Vs n9 VF,.slice none 0 0] 92)).alloc (.cells #[vI q0,vI q1,vI q2,vI q3,vI q4,vI q5] 29)=W9:=vq;have z9:W9.heap.size=w9.heap.size+1+1:=by rw[<-vq];simp
   have zz9:=k9.size;go_upto_region 10 with fail
   clear vq s0 s1 s2 s3 s4 s5;have Qu:=k9.trans kB;have EH:=du.trans Qu;have QH:=UU.calm Qu;have UX:=rC8.calm Qu;have CA:=Io.calm Qu;have uH:=oA8.calm Qu;have oD9:=oD.calm Qu;have UW:=rA8.calm Qu;have oz:=oz.calm kB;have hSt:Hid (∀wx,Calm W9 wx->ag wx (w.heap.size+1) [vI q0,vI q1,vI q2,vI q3,vI q4,vI q5]->True):=λ_ _ _=>trivial;clear UU rC8 Io oA8 oD rA8 du k9 kB Qu hSt;obtain⟨s0,s1,s2,s3,s4,s5⟩:=ag.t_ QH;obtain⟨d0,d1,d2,d3,d4⟩:=ag.Eu oD9;have a0:=(CA 0 _ rfl).1;have a1:=(CA 1 _ rfl).1;have a2:=(CA 2 _ rfl).1;have a3:=(CA 3 _ rfl).1;have a4:=(CA 4 _ rfl).1;have a5:=(CA 5 _ rfl).1;have a6:=(CA 6 _ rfl).1;have a7:=(CA 7 _ rfl).1;have a8:=(CA 8 _ rfl).1;have a9:=(CA 9 _ rfl).1
   go_cut [104] (λabc wx=>abc=.bool false/\Calm W9 wx)
   case first=>
    have Nh:∀k,Hid (Calm W9 (W9.drewN k)):=λk=>aq.drewN k
    by_cases he:a.e=0
    ·by_cases hk:d.k=9
     ·by_cases hv:a.v=0
      ·have e1:(a.e==0)=true:=by simp[he]
       have e2:(d.k==9)=true:=by simp[hk]
       have e3:(a.v != 0)=false:=by simp[hv]
       clear he hk hv;go_wp2_with fail
       go_quiet (fail)
       go_wp2;go_meet;exact⟨rfl,(Nh _).out⟩
      ·have e1:(a.e==0)=true:=by simp[he]
       have e2:(d.k==9)=true:=by simp[hk]
       have e3:(a.v != 0)=true:=by simp[hv]
       obtain⟨b,hb,kF⟩:∃b:Nat,d.b=b/\b<6:=⟨d.b.toNat,by unfold Dd.Rt R6 at oP;omega,by unfold Dd.Rt R6 at oP;omega⟩;clear he hk hv;rw[hb] at d2;obtain⟨g3,o3,at_,rfl,Zl⟩:=Y6.out i (by omega);have t0:=Zl W9 EH;have yb:=fy QH kF;have b0:(0:Int)<=(b:Int):=by omega
       have b6:(b:Int)<6:=by omega
       go_wp2_with fail
       go_quiet (exact Calls.quiet_of_same (O7 _ la lc _ _))
       go_wp2;go_meet;exact⟨rfl,(Nh _).out⟩
     ·have e1:(a.e==0)=true:=by simp[he]
      have e2:(d.k==9)=false:=by simp[hk]
      clear he hk;go_wp2_with fail
      go_quiet (fail)
      go_wp2;go_meet;exact⟨rfl,(Nh _).out⟩
    ·have e1:(a.e==0)=false:=by simp[he]
     clear he;go_wp2_with fail
     go_quiet (fail)
     go_wp2;go_meet;exact⟨rfl,(Nh _).out⟩
   case rest=>
    obtain⟨rfl,kq⟩:=hcut;have EH:=EH.trans kq;have QH:=QH.calm kq;have UX:=UX.calm kq;have CA:=CA.calm kq;have uH:=uH.calm kq;have UW:=UW.calm kq;have Tj:=Tj.calm kq;have Tk:=Tk.calm kq;have oz:=oz.calm kq;have abK:Ir<W8.heap.size:=by omega
    clear kq s0 s1 s2 s3 s4 s5 d0 d1 d2 d3 d4 a0 a1 a2 a3 a4 a5 a6 a7 a8 a9 oD9;obtain⟨y0,y1,y2⟩:=ag.sP uH;go_wp2_with fail
    have kd:Calm wc wc.drew:=aq.drew;have EH:=EH.trans kd;have QH:=QH.calm kd;have UX:=UX.calm kd;have CA:=CA.calm kd;have UW:=UW.calm kd;have oz:=oz.calm kd;have Tj:=Tj.calm kd;have Tk:=Tk.calm kd;refine bQ [0,1] [2,3] (λw'=>ag w' w9.heap.size [.slice Vs n9 VF,.slice none 0 0]/\ag w' (w9.heap.size+1) [vI q0,vI q1,vI q2,vI q3,vI q4,vI q5]) (by kernel_rfl) (by kernel_rfl) ⟨Tj,Tk⟩ ?_;refine ah (.agg #[.slice Vs n9 VF,.slice none 0 0]) rfl rfl (λw' hw'=>?_) ai ?_
    ·have o:=hw'.1;obtain⟨z0,z1⟩:=ag.lF o;simp[go_sem,z0,z1]
    refine ah (.agg #[vI q0,vI q1,vI q2,vI q3,vI q4,vI q5]) rfl rfl (λw' hw'=>?_) ai ?_
    ·have o:=hw'.2;obtain⟨z0,z1,z2,z3,z4,z5⟩:=ag.t_ o;simp[go_sem,z0,z1,z2,z3,z4,z5]
    simp only[aU];refine aw rfl (by kernel_rfl) ?_;refine aN _ _ _ rfl Ir #[.slice Vs n9 VF,.slice none 0 0] (by kernel_rfl) (by kernel_rfl) UX rfl (by kernel_rfl) (by simp[Value.oneCell']) ?_;intro uZ tC f10;have t17:=Tj.fr f10 (by omega);have t18:=Tk.fr f10 (by omega);refine⟨⟨t17,t18⟩,?_⟩;refine aw rfl (by kernel_rfl) ?_;refine aN _ _ _ rfl (w.heap.size+1) #[vI q0,vI q1,vI q2,vI q3,vI q4,vI q5] (by kernel_rfl) (by kernel_rfl) (QH.fr f10 (by omega)) rfl (by kernel_rfl) (by simp[Value.oneCell']) ?_;intro CB t6 f11;refine⟨⟨t17.fr f11 (by omega),t18.fr f11 (by omega)⟩,?_⟩
    have hF:Hid (Z8 w Ir x (.slice (some ⟨g,o,none⟩) n ac) (.slice ta n tc) (ST (i+1)).1 (ST (i+1)).2 CB):=by
     refine⟨(EH.join f10 (λj hj e=>by omega)).join f11 (λj hj e=>by omega),?_,(CA.fr f10 (by omega)).fr f11 (by omega),(UW.fr f10 (by omega)).fr f11 (by omega),_,Td,tC.fr f11 (by omega),oL,?_⟩
     ·show ag CB _ (iy (ST (i+1)).2);rw[Zf.out];exact t6
     ·refine((oz.fr f10 (λb hb e=>?_)).fr f11 (λb hb e=>?_)).mono (λb _ hb=>?_)
      ·have e:b=Ir:=e;have hb:W8.heap.size<=b:=hb;omega
      ·have e:b=w.heap.size+1:=e;have hb:W8.heap.size<=b:=hb;omega
      ·have hb:W8.heap.size<=b:=hb;show w.heap.size+4<=b/\b≠Ir;omega
    clear tC t6 t17 t18 f10 f11 Tj Tk oz oL QH UX CA UW uH EH y0 y1 y2 kd
    try simp only[bj]
    go_wp2;exact⟨⟨i+1,by omega,rfl,by simp,hF.out⟩,by simp[intOf] <;> omega⟩
  ·obtain rfl:i=K:=by omega
   obtain⟨av,cv,pF,-⟩:=id Nu;obtain⟨nv,N5⟩:=au ms'.length;rw[N5] at pF;subst pF;clear Wb yR HZ zQ WV r6;replace N5:=af N5;rcases hK3.out with hKn|⟨hKn,HT,WI⟩
   ·have jL:decide ((i:Int)<n)=false:=decide_eq_false (by omega);have U:=rA.whole (us:=[.slice av nv cv,.slice none 0 0]) rfl;have F:=rG wr (w.heap.size+1+1+1) 0 [.slice av nv cv,.slice none 0 0];have hP:Vo w y.1 (.returned (.tuple #[.agg #[.slice av nv cv,.slice none 0 0],.bool true])) (wr.setCells (w.heap.size+1+1+1) 0 [.slice av nv cv,.slice none 0 0]):=⟨_,ms',rfl,by rw[EN,dh.out],(Nu.fr F (λb hb e=>by have e:b=w.heap.size+1+1+1:=e;have hb:=hb.1;omega)).mono (λb _ hb=>by have hb:=hb.1;show w.heap.size<=b;omega),hc.join F (λj hj e=>by have e:j=w.heap.size+1+1+1:=e;omega)⟩;replace hP:=af hP;replace U:=af U;obtain⟨c0,c1⟩:=ag.lF rC;have z0:=(rA 0 _ rfl).1;have vC:=(rA 0 _ rfl).2;have z1:=(rA 1 _ rfl).1;have vD:=(rA 1 _ rfl).2;clear rC rA F Nu EN hc;have a0:=(r8 0 _ rfl).1;have a1:=(r8 1 _ rfl).1;have a2:=(r8 2 _ rfl).1;have a3:=(r8 3 _ rfl).1;have a4:=(r8 4 _ rfl).1;have a5:=(r8 5 _ rfl).1;have a6:=(r8 6 _ rfl).1;have a7:=(r8 7 _ rfl).1;have a8:=(r8 8 _ rfl).1;have a9:=(r8 9 _ rfl).1;go_wp2;exact bodyPost_ret (v:=.tuple #[.agg #[.slice av nv cv,.slice none 0 0],.bool true]) (D3 (i:=10) (j:=11) rfl rfl rfl U.out) rfl hP.out
   ·obtain⟨g,o,a,rfl,Wn,iD⟩:=hg.out i (by omega);obtain⟨x0,x1,x2⟩:=iD wr hc;rw[Wn] at WI;obtain⟨kA,oA⟩:=gL wr [vI a.k,vI a.e,vI a.v] 35;have Sc:decide ((i:Int)<n)=true:=decide_eq_true (by omega);have Qb:((i:Int)==(n:Int)-1)=true:=by simp;omega
    have abH:(x.en==2)=true:=by simp[HT]
    clear iD Wn HT;go_upto_region 7 with fail
    obtain⟨W7,sU⟩:=au (wr.alloc (.cells #[vI a.k,vI a.e,vI a.v] 35));rw[sU] at kA oA ⊢;have z7:W7.heap.size=wr.heap.size+1:=by rw[<-sU];simp
    clear sU x0 x1 x2;have hc:=hc.trans kA;have r8:=r8.calm kA;have rC:=rC.calm kA;have rA:=rA.calm kA;have Nu:=Nu.calm kA;obtain⟨y0,y1,y2⟩:=ag.sP oA;have a0:=(r8 0 _ rfl).1;have a1:=(r8 1 _ rfl).1;have a2:=(r8 2 _ rfl).1;have a3:=(r8 3 _ rfl).1;have a4:=(r8 4 _ rfl).1;have a5:=(r8 5 _ rfl).1;have a6:=(r8 6 _ rfl).1;have a7:=(r8 7 _ rfl).1;have a8:=(r8 8 _ rfl).1;have a9:=(r8 9 _ rfl).1;have of:=Ay W7 a.e;go_wp2_with fail
    refine of.mono ?_;rintro e w8 ⟨rfl,e8⟩;rw[WI,e8];clear of e8;have U:=rA.whole (us:=[.slice av nv cv,.slice none 0 0]) rfl;have F:=rG W7 (w.heap.size+1+1+1) 0 [.slice av nv cv,.slice none 0 0];have hP:Vo w y.1 (.returned (.tuple #[.agg #[.slice av nv cv,.slice none 0 0],.bool true])) (W7.setCells (w.heap.size+1+1+1) 0 [.slice av nv cv,.slice none 0 0]):=⟨_,ms',rfl,by rw[EN,dh.out],(Nu.fr F (λb hb e=>by have e:b=w.heap.size+1+1+1:=e;have hb:=hb.1;omega)).mono (λb _ hb=>by have hb:=hb.1;show w.heap.size<=b;omega),hc.join F (λj hj e=>by have e:j=w.heap.size+1+1+1:=e;omega)⟩;replace hP:=af hP;replace U:=af U;obtain⟨c0,c1⟩:=ag.lF rC;have z0:=(rA 0 _ rfl).1;have vC:=(rA 0 _ rfl).2;have z1:=(rA 1 _ rfl).1;have vD:=(rA 1 _ rfl).2;clear rC rA F Nu EN hc;go_wp2;exact bodyPost_ret (v:=.tuple #[.agg #[.slice av nv cv,.slice none 0 0],.bool true]) (D3 (i:=10) (j:=11) rfl rfl rfl U.out) rfl hP.out
theorem Cl{T T2:Nat->Prop}{w:aj}{Q:Pg}{tr:List Tr}{pv cz wv rv v:aC}{N:Nat}{ms:Nat->List Mo}{wr:Nat->Nat}{Fg:List fW}{y:List Mo × List Int}(hp:tL Q)(hx:L5 Q tr N ms wr)(h:iC T w Q tr pv cz wv rv)(hn:tr.length<=1000)(hm:bL T2 w v Fg){k:Nat}(hk:k<tr.length)(hl:Fg.length<=800)(hs:MO (Fg.map (·.x)))
 (hy:fN (bU Q (tr.getD k aK).th (tr.getD k aK).bl) (lW (tr.getD k aK)) 0 (Fg.map (·.x),gA Q (tr.take k) (tr.getD k aK).th.toNat)=some y):aL prog 27 #[UR pv cz wv rv,.agg #[v,.slice none 0 0],vI (k:Int)] w (Vo w y.1):=by
 obtain⟨q1,q2,q3,q4,q5,q6,q7⟩:=hx.t3 k hk;obtain⟨b1,b2⟩:=hx.bU hp hk;obtain⟨ta,tc,qx,jG⟩:=h.t.get;obtain⟨g,o,av,tv,rfl,hcell,iD,kE⟩:=jG k hk;obtain⟨ra,rc,Oa,UG⟩:=h.r;have zR:((List.range tr.length).map λk=>gA Q (tr.take k) (tr.getD k aK).th.toNat).length=tr.length:=by simp
 obtain⟨g2,o2,rfl,_,N9⟩:=UG k (by rw[zR];exact hk);rw[zR] at Oa;have hrk:((List.range tr.length).map λk=>gA Q (tr.take k) (tr.getD k aK).th.toNat).getD k []=gA Q (tr.take k) (tr.getD k aK).th.toNat:=by simp[aS,hk]
 rw[hrk] at N9;have Dm:=Ft Q (tr.getD k aK).th.toNat (tr.take k);obtain⟨R,hR⟩:=au (gA Q (tr.take k) (tr.getD k aK).th.toNat);rw[hR] at N9 Dm hy;obtain⟨x,rR⟩:=au (tr.getD k aK);rw[rR] at q1 q2 q3 q4 q5 q6 q7 b1 b2 hcell iD kE hy;clear hR hrk UG zR jG rR;obtain⟨th,bl,st,se,fr,dr,aJ,gF,en,bt⟩:=x;simp only[] at q1 q2 q3 q4 q5 q6 q7 b1 b2 iD kE;obtain⟨t,rfl⟩:∃t:Nat,th=t:=⟨th.toNat,by omega⟩;obtain⟨b,rfl⟩:∃b:Nat,bl=b:=⟨bl.toNat,by omega⟩;obtain⟨s0,s1,s2,s3,s4,s5,rfl⟩:=oV Dm;obtain⟨NQ,ji⟩:=au Q.length;have zS:t<NQ:=by omega
 obtain⟨pa,pc,pD,xf⟩:=h.p;obtain⟨gp,op,uv,rfl,-,H9,P8⟩:=xf t (by omega);obtain⟨ba,bc,rfl,Ny⟩:=P8;obtain⟨NB,oH⟩:=au ((Q.getD t []).length);have Gn:b<NB:=by rw[<-oH];have:(Q.getD (t:Int).toNat []).length=(Q.getD t []).length:=rfl;omega
 rw[oH] at H9 Ny;obtain⟨gb,ob,dv,rfl,-,RT,hdd⟩:=Ny b Gn;obtain⟨n,yN⟩:=au tr.length;rw[ji] at pD;rw[yN] at qx Oa hk hn;subst pD qx Oa;obtain⟨na,ER⟩:=au aJ.length;obtain⟨nt,Bb⟩:=au gF.length;obtain⟨Al,Am,rfl⟩:∃a c,av=.slice a na c:=by obtain⟨a,c,e,_⟩:=iD;exact⟨a,c,by rw[<-ER];exact e⟩
 obtain⟨Ec,Ed,rfl⟩:∃a c,tv=.slice a nt c:=by obtain⟨a,c,e,_⟩:=kE;exact⟨a,c,by rw[<-Bb];exact e⟩
 have Mm:=af (λW (c:Calm w W)=>OV (hm.calm c) (by show Fg.length+aJ.length<=900;omega) hs none 0 (R:=[s0,s1,s2,s3,s4,s5]) rfl (hdd.calm c) b2 (iD.calm c) (kE.calm c) q6 (fH b1 (by decide)) q7 hy none 0);obtain⟨Zv,Zw,Qg,-⟩:=id hm;obtain⟨nm,N1⟩:=au Fg.length;rw[N1] at Qg;subst Qg;simp only[] at Mm;simp only[Ip,List.getD_cons_zero,List.getD_cons_succ] at Mm;obtain⟨W1,e1,k1,o3,z1⟩:=dy w [.slice (some ⟨gp,op,none⟩) NQ pc,.slice (some ⟨g,o,none⟩) n tc,wv,.slice (some ⟨g2,o2,none⟩) n rc,.slice none 0 0,.slice none 0 0] 81;obtain⟨W2,e2,k2,o4,z2⟩:=dy W1 [.slice Zv nm Zw,.slice none 0 0] 92;obtain⟨W3,e3,k3,o6,z3⟩:=dy W2 [.slice none 0 0,.slice none 0 0] 92;obtain⟨W4,e4,k4,o8,z4⟩:=dy W3 [vI (t:Int),vI (b:Int),vI st,vI se,vI fr,vI dr,.slice Al na Am,.slice Ec nt Ed,vI en,vI bt] 89;have c3:=k3.trans k4;have c2:=k2.trans c3;have c0:=k1.trans c2;have p3:=o3.calm k2;have yA:(((w.alloc (.cells #[.slice (some ⟨gp,op,none⟩) NQ pc,.slice (some ⟨g,o,none⟩) n tc,wv,.slice (some ⟨g2,o2,none⟩) n rc,.slice none 0 0,.slice none 0 0] 81)).alloc (.cells #[.slice Zv nm Zw,.slice none 0 0] 92)).alloc (.cells #[.slice none 0 0,.slice none 0 0] 92))=W3:=by rw[<-e3,<-e2,<-e1]
 have zO:W3.alloc (.cells #[vI (t:Int),vI (b:Int),vI st,vI se,vI fr,vI dr,.slice Al na Am,.slice Ec nt Ed,vI en,vI bt] 89)=W4:=e4;have yg:=k1.trans (k2.trans k3);have x0:=hcell W3 yg 0 _ rfl;have x1:=hcell W3 yg 1 _ rfl;have x2:=hcell W3 yg 2 _ rfl;have x3:=hcell W3 yg 3 _ rfl;have x4:=hcell W3 yg 4 _ rfl;have x5:=hcell W3 yg 5 _ rfl;have x6:=hcell W3 yg 6 _ rfl;have x7:=hcell W3 yg 7 _ rfl;have x8:=hcell W3 yg 8 _ rfl;have x9:=hcell W3 yg 9 _ rfl;rw[fj] at x0;have y1:=(p3.calm k3 1 _ rfl).1;rw[z1] at o4;rw[z2,z1] at o6;rw[z3,z2,z1] at o8;have p6:=o6.calm k4;have zz:W4.heap.size=w.heap.size+4:=by omega
 have zW3:W3.heap.size=w.heap.size+1+1+1:=by omega
 have nb0:w.heap.size≠w.heap.size+1+1:=by omega
 have nb1:w.heap.size+1≠w.heap.size+1+1:=by omega
 have Mt:w.heap.size+1+1+1≠w.heap.size+1+1:=by omega
 have pm:∀w',Fr (λj=>j=w.heap.size+1+1) W4 w'->w'.cell? ⟨w.heap.size+1,0,none⟩=some (.slice Zv nm Zw)/\w'.cell? ⟨w.heap.size+1,1,none⟩=some (.slice none 0 0):=λw' f=>⟨f.cellAt ((o4.calm c3) 0 _ rfl).1 nb1,f.cellAt ((o4.calm c3) 1 _ rfl).1 nb1⟩;have pr:∀w',Fr (λj=>j=w.heap.size+1+1) W4 w'->w'.cell? ⟨w.heap.size,3,none⟩=some (.slice (some ⟨g2,o2,none⟩) n rc):=λw' f=>f.cellAt ((o3.calm c2) 3 _ rfl).1 nb0;have pp:∀w',Fr (λj=>j=w.heap.size+1+1) W4 w'->w'.cell? ⟨w.heap.size,0,none⟩=some (.slice (some ⟨gp,op,none⟩) NQ pc):=λw' f=>f.cellAt ((o3.calm c2) 0 _ rfl).1 nb0;have pl:∀w',Fr (λj=>j=w.heap.size+1+1) W4 w'->w'.cell? ⟨w.heap.size,5,none⟩=some (.slice none 0 0):=λw' f=>f.cellAt ((o3.calm c2) 5 _ rfl).1 nb0;have cC:∀w',Fr (λj=>j=w.heap.size+1+1) W4 w'->Calm w w':=λw' f=>c0.join f (λj hj e=>by omega);have pt:∀w',Fr (λj=>j=w.heap.size+1+1) W4 w'->w'.cell? ⟨w.heap.size+1+1+1,0,none⟩=some (vI (t:Int))/\w'.cell? ⟨w.heap.size+1+1+1,1,none⟩=some (vI (b:Int))/\w'.cell? ⟨w.heap.size+1+1+1,2,none⟩=some (vI st)/\w'.cell? ⟨w.heap.size+1+1+1,3,none⟩=some (vI se)/\w'.cell? ⟨w.heap.size+1+1+1,4,none⟩=some (vI fr)/\w'.cell? ⟨w.heap.size+1+1+1,5,none⟩=some (vI dr)/\w'.cell? ⟨w.heap.size+1+1+1,6,none⟩=some (.slice Al na Am)/\w'.cell? ⟨w.heap.size+1+1+1,7,none⟩=some (.slice Ec nt Ed)/\w'.cell? ⟨w.heap.size+1+1+1,8,none⟩=some (vI en)/\w'.cell? ⟨w.heap.size+1+1+1,9,none⟩=some (vI bt):=λw' f=>⟨f.cellAt (o8 0 _ rfl).1 Mt,f.cellAt (o8 1 _ rfl).1 Mt,f.cellAt (o8 2 _ rfl).1 Mt,f.cellAt (o8 3 _ rfl).1 Mt,f.cellAt (o8 4 _ rfl).1 Mt,f.cellAt (o8 5 _ rfl).1 Mt,f.cellAt (o8 6 _ rfl).1 Mt,f.cellAt (o8 7 _ rfl).1 Mt,f.cellAt (o8 8 _ rfl).1 Mt,f.cellAt (o8 9 _ rfl).1 Mt⟩;have ZH:=λw' f=>(pt w' f).1;have ZI:=λw' f=>(pt w' f).2.1;have pg:∀w',Fr (λj=>j=w.heap.size+1+1) W4 w'->w'.cell? ⟨g2,o2+k*6,none⟩=some (vI s0)/\w'.cell? ⟨g2,o2+k*6+1,none⟩=some (vI s1)/\w'.cell? ⟨g2,o2+k*6+2,none⟩=some (vI s2)/\w'.cell? ⟨g2,o2+k*6+3,none⟩=some (vI s3)/\w'.cell? ⟨g2,o2+k*6+4,none⟩=some (vI s4)/\w'.cell? ⟨g2,o2+k*6+5,none⟩=some (vI s5):=λw' f=>⟨(cC w' f).cellAt (N9 0 _ rfl) id,(cC w' f).cellAt (N9 1 _ rfl) id,(cC w' f).cellAt (N9 2 _ rfl) id,(cC w' f).cellAt (N9 3 _ rfl) id,(cC w' f).cellAt (N9 4 _ rfl) id,(cC w' f).cellAt (N9 5 _ rfl) id⟩;have ZF:∀w',Fr (λj=>j=w.heap.size+1+1) W4 w'->w'.cell? ⟨gp,op+t,none⟩=some (.slice (some ⟨gb,ob,none⟩) NB bc):=λw' f=>(cC w' f).cellAt H9 id;have ZG:∀w',Fr (λj=>j=w.heap.size+1+1) W4 w'->w'.cell? ⟨gb,ob+b,none⟩=some dv:=λw' f=>(cC w' f).cellAt RT id;replace pm:=af pm;replace pr:=af pr;replace pp:=af pp;replace pl:=af pl;replace pt:=af pt;replace ZH:=af ZH;replace ZI:=af ZI;replace pg:=af pg;replace ZF:=af ZF;replace ZG:=af ZG;replace cC:=af cC;clear e1 e2 e3 e4 k1 k2 k3 c2 c3 yg p3 o3 o4 o6 o8 hcell iD kE N9 H9 RT hdd Ny xf q1 q2 q3 q4 q5 q6 q7 b1 b2 hs hm hy h hx hp hl z1 z2 z3 z4;replace ER:=af ER;replace Bb:=af Bb;replace N1:=af N1;replace ji:=af ji;replace oH:=af oH;replace yN:=af yN;go_in;go_upto_region 2 with fail
 clear yA zO x0 x1 x2 x3 x4 x5 x6 x7 x8 x9 y1;have kd:Calm W4 W4.drew:=aq.drew;refine bK [(true,0),(true,1),(true,2),(true,3),(true,4),(true,5),(true,6),(true,7),(true,8),(true,9),(true,10),(true,11),(true,12),(true,13),(true,14),(true,15),(true,16),(true,17),(true,18),(false,19),(true,20),(true,21),(false,22),(false,23)] (λw'=>Fr (λj=>j=w.heap.size+1+1) W4 w') (by kernel_rfl) (by kernel_rfl) kd.any ?_;refine ao (.agg #[.slice Zv nm Zw,.slice none 0 0]) rfl rfl (λw' hw'=>?_) ai ?_
 ·obtain⟨f0,f1⟩:=pm.out w' hw';simp[go_sem,f0,f1]
 refine ao (.pointer (some ⟨w.heap.size,3,none⟩)) rfl rfl (λw' hw'=>?_) ai ?_
 ·simp[go_sem]
 refine ao (.slice (some ⟨g2,o2,none⟩) n rc) rfl rfl (λw' hw'=>?_) ai ?_
 ·have f1:=pr.out w' hw';simp[go_sem,f1]
 refine ao (vI (k:Int)) rfl rfl (λw' hw'=>?_) ai ?_
 ·simp[go_sem]
 refine ao (.pointer (some ⟨g2,o2+k*6,none⟩)) rfl rfl (λw' hw'=>?_) ai ?_
 ·simp[go_sem,hk]
 refine ao (.agg #[vI s0,vI s1,vI s2,vI s3,vI s4,vI s5]) rfl rfl (λw' hw'=>?_) ai ?_
 ·obtain⟨f0,f1,f2,f3,f4,f5⟩:=pg.out w' hw';simp[go_sem,f0,f1,f2,f3,f4,f5]
 refine ao (aR w.heap.size) rfl rfl (λw' hw'=>?_) ai ?_
 ·simp[go_sem]
 refine ao (.slice (some ⟨gp,op,none⟩) NQ pc) rfl rfl (λw' hw'=>?_) ai ?_
 ·have f1:=pp.out w' hw';simp[go_sem,f1]
 refine ao (.pointer (some ⟨w.heap.size+1+1+1,0,none⟩)) rfl rfl (λw' hw'=>?_) ai ?_
 ·simp[go_sem]
 refine ao (vI (t:Int)) rfl rfl (λw' hw'=>?_) ai ?_
 ·have f1:=ZH.out w' hw';simp[go_sem,f1]
 refine ao (.pointer (some ⟨gp,op+t,none⟩)) rfl rfl (λw' hw'=>?_) ai ?_
 ·simp[go_sem,zS]
 refine ao (.slice (some ⟨gb,ob,none⟩) NB bc) rfl rfl (λw' hw'=>?_) ai ?_
 ·have f1:=ZF.out w' hw';simp[go_sem,f1]
 refine ao (.pointer (some ⟨w.heap.size+1+1+1,1,none⟩)) rfl rfl (λw' hw'=>?_) ai ?_
 ·simp[go_sem]
 refine ao (vI (b:Int)) rfl rfl (λw' hw'=>?_) ai ?_
 ·have f1:=ZI.out w' hw';simp[go_sem,f1]
 refine ao (.pointer (some ⟨gb,ob+b,none⟩)) rfl rfl (λw' hw'=>?_) ai ?_
 ·simp[go_sem,Gn]
 refine ao (dv) rfl rfl (λw' hw'=>?_) ai ?_
 ·have f1:=ZG.out w' hw';simp[go_sem,f1]
 refine ao (.agg #[vI (t:Int),vI (b:Int),vI st,vI se,vI fr,vI dr,.slice Al na Am,.slice Ec nt Ed,vI en,vI bt]) rfl rfl (λw' hw'=>?_) ai ?_
 ·obtain⟨f0,f1,f2,f3,f4,f5,f6,f7,f8,f9⟩:=pt.out w' hw';simp[go_sem,f0,f1,f2,f3,f4,f5,f6,f7,f8,f9]
 refine ao (.pointer (some ⟨w.heap.size,5,none⟩)) rfl rfl (λw' hw'=>?_) ai ?_
 ·simp[go_sem]
 refine ao (.slice none 0 0) rfl rfl (λw' hw'=>?_) ai ?_
 ·have f1:=pl.out w' hw';simp[go_sem,f1]
 refine bg rfl rfl ?_;have o9:=Mm.out _ (c0.trans kd);go_wp2_with fail
 refine o9.mono ?_;rintro PZ w9 ⟨v',ms',rfl,oL,oz,k9⟩;clear o9 Mm;obtain⟨a9,c9,pF,-⟩:=id oz;obtain⟨n9,jo⟩:=au ms'.length;rw[jo] at pF;subst pF;replace jo:=af jo;have kk9:Calm W4 w9:=kd.trans k9;have f9:Fr (λj=>j=w.heap.size+1+1) W4 w9:=kk9.any;have o6:=p6.calm (kd.trans k9);refine⟨f9,?_⟩;refine ao (.agg #[.slice a9 n9 c9,.slice none 0 0]) rfl rfl (λw' hw'=>?_) ai ?_
 ·simp[go_sem]
 refine ao (.bool true) rfl rfl (λw' hw'=>?_) ai ?_
 ·simp[go_sem]
 refine bg rfl rfl ?_;refine aN _ _ _ rfl (w.heap.size+1+1) #[.slice a9 n9 c9,.slice none 0 0] (by kernel_rfl) (by kernel_rfl) o6 rfl (by kernel_rfl) (by simp[Value.oneCell']) ?_;intro uZ t6 f10;have f11:=f9.trans f10;refine⟨f11,?_⟩;refine bg rfl rfl ?_;unfold Oper.wp;go_simp
 first|refine⟨f11,?_⟩|skip
 refine fp ?_;have hP:Vo w y.1 (.returned (.tuple #[.agg #[.slice a9 n9 c9,.slice none 0 0],.bool true])) uZ:=⟨_,ms',rfl,oL,(oz.fr f10 (λb hb e=>by have e:b=w.heap.size+1+1:=e;have hb:W4.heap.size<=b:=hb;omega)).mono (λb _ hb=>by have hb:W4.heap.size<=b:=hb;show w.heap.size<=b;omega),cC.out uZ f11⟩;replace hP:=af hP;replace t6:=af t6;clear oL oz k9 o6 f9 f10 f11 p6 kd c0 pm pr pp pl pt ZH ZI pg ZF ZG cC;go_wp2;exact bodyPost_ret (v:=.tuple #[.agg #[.slice a9 n9 c9,.slice none 0 0],.bool true]) (D3 (i:=6) (j:=7) rfl rfl rfl t6.out) rfl hP.out
end
section
open Go.RowKit Go.Shelf Go.Maps Go.ChangeShapes
theorem aah:GI 84 92 2:=by
 obtain⟨i0,hi,ie,gU,iw⟩:=info_parts (show(prog.info? 92).map (λi=>(i.zero,i.size,i.bytes))=some (some (.agg #[.slice none 0 0,.slice none 0 0]),2,48) by kernel_rfl);exact⟨Tryz.underlying84,i0,_,_,hi,ie,gU,iw,rfl,by decide,by decide⟩
theorem FG(w:aj):(zeroValue 43).run prog w=.ok (.slice none 0 0) w:=by kernel_rfl
theorem FB{w w':aj}{row:Option Nat}(f:Fr (λk=>row=some k) w w'):w.grownBy w' row:=⟨f.os,f.tape,f.output,f.size,λi hi hne=>f.block i hi λe=>hne e.symm⟩
def RA:List Int->DataW Unit
 | []=>.nil
 | z::zs=>.slice (lits .i64 (z::zs)) []
theorem AE{w:aj}{base:Nat}{v:aC}{zs F:List Int}(ho:w.ownsInts base 3 .i64 v zs)(h:RA F=rowDatum .i64 v zs):zs=F:=by
 rcases ho.datum (H:=Unit) with ⟨e,e0⟩|e
 ·rw[e] at h
  cases F with
  | nil=>exact e0
  | cons z F=>cases h
 ·rw[e] at h
  cases F with
  | nil=>cases h
  | cons z F=>
    have h1:lits (H:=Unit) .i64 (z::F)=lits .i64 zs:=by injection h
    unfold lits at h1;exact((List.map_inj_right (λa b vL=>by injection vL with vL;injection vL)).1 h1).symm
abbrev Ub(w:aj)(b n:Nat)(D:DataW Unit):Prop:=w.ownsGroups prog 3 (b+1) 3 .i64 b n D
theorem Ub.calm{w w':aj}{b n:Nat}{D:DataW Unit}(h:Ub w b n D)(c:Calm w w'):Ub w' b n D:=
 h.kept (row:=none) (FB (c.mono λ_ _ e=>e.elim)) (by simp) (λ_ _ _ x _=>by cases x.val.ownBlock <;> simp)
structure nU(w:aj)(b n:Nat)(tr:List Tr)(l:aE)(D:DataW Unit):Prop where
 o:Ub w b n D
 m:IsMap D
 k:∀v:Int,D.atKey (.int .i64 v) .nil=RA (qy (mb tr l v))
theorem nU.calm{w w':aj}{b n:Nat}{tr:List Tr}{l:aE}{D:DataW Unit}(h:nU w b n tr l D)(c:Calm w w'):nU w' b n tr l D:=⟨Ub.calm h.o c,h.m,h.k⟩
theorem nU.made(w:aj)(tr:List Tr):nU (w.alloc (.map #[] 0)) w.heap.size 0 tr [] (.map []):=⟨World.ownsGroups_made w prog 3 3 .i64,isMap_empty,λv=>rfl⟩
theorem XD(p:Int):WideAt.IsKeyLit (.int .i64 p):=by first|trivial|exact rfl|simp[WideAt.IsKeyLit]
theorem nU.put{w w2:aj}{b n:Nat}{tr:List Tr}{l:aE}{D:DataW Unit}{k:Nat}{v':aC}{base:Nat}(h:nU w b n tr l D)(hk:(tr.getD k aK).bt=(tr.getD k aK).bt)(ho:Ub w2 b (n+1) (D.put (.int .i64 (tr.getD k aK).bt) (rowDatum .i64 v' (qy (mb tr l (tr.getD k aK).bt)++[(k:Int)])))){w1:aj}(hv:w1.ownsInts base 3 .i64 v' (qy (mb tr l (tr.getD k aK).bt)++[(k:Int)])):nU w2 b (n+1) tr (l++[k]) (D.put (.int .i64 (tr.getD k aK).bt) (rowDatum .i64 v' (qy (mb tr l (tr.getD k aK).bt)++[(k:Int)]))):=by
 refine⟨ho,h.m.put _ _,λv=>?_⟩;rw[Gi]
 by_cases e:(tr.getD k aK).bt=v
 ·rw[<-e,atKey_put_same h.m (XD _),if_pos rfl,hv.datum_pos (by simp)];unfold qy;rw[List.map_append];show _=RA (List.map _ _++[(k:Int)])
  cases h9:List.map (λk:Nat=>(k:Int)) (mb tr l (tr.getD k aK).bt) with
  | nil=>rfl
  | cons z zs=>rfl
 ·rw[if_neg e,List.append_nil,atKey_put_other (SX (Ne.symm e))];exact h.k v
abbrev PY:aC × List fW:=(.slice none 0 0,[])
abbrev XJ(x:aC × List fW):List aC:=[x.1,.slice none 0 0]
structure Hv(W wz:aj)(us:List (aC × List fW))(mv dv:aC)(L:List Int):Prop where
 c:Calm W wz
 r:wz.ownsRow 0 92 2 mv us.length (us.flatMap XJ)
 d:bm wz 0 dv L
 b1:∀b,aB mv b->W.heap.size<=b
 b2:∀b,aB dv b->W.heap.size<=b/\¬aB mv b
 m:∀i,i<us.length->bL (λb=>¬aB mv b/\¬aB dv b) wz (us.getD i PY).1 (us.getD i PY).2
section
variable {W wz w1 w2:aj}{us:List (aC × List fW)}{mv dv XO YP v':aC}{L:List Int}{ms':List fW}
theorem Hv.calm(h:Hv W wz us mv dv L)(c:Calm wz w1):Hv W w1 us mv dv L:=⟨h.c.trans c,az h.r c (λ_ _=>id),h.d.calm c,h.b1,h.b2,λi hi=>(h.m i hi).calm c⟩
theorem Hv.more(h:Hv W w1 us mv dv L)(hm:bL (λb=>¬aB mv b/\¬aB dv b) w1 v' ms')(hr:w2.ownsRow 0 92 2 XO (us.length+1) (us.flatMap XJ++[v',.slice none 0 0]))(f:Fr (aB mv) w1 w2)(hg:∀b,aB XO b->aB mv b\/w1.heap.size<=b):Hv W w2 (us++[(v',ms')]) XO dv L:=by
 have hd:∀b,aB dv b->¬aB mv b:=λb hb=>(h.b2 b hb).2
 have mo:∀ {v:aC} {ms:List fW},bL (λb=>¬aB mv b/\¬aB dv b) w1 v ms->bL (λb=>¬aB XO b/\¬aB dv b) w2 v ms:=λ{v ms} k=>
  (k.mono (T':=λb=>¬aB mv b/\(¬aB XO b/\¬aB dv b)) (λb hb hh=>⟨hh.1,λe=>by
   rcases hg b e with e1|e1
   ·exact hh.1 e1
   ·omega,hh.2⟩)).fr f (λb hb=>hb.1) |>.mono (λb _ hb=>hb.2)
 refine⟨h.c.join f (λj hj e=>by have:=h.b1 j e;omega),?_,h.d.iI f hd,λb hb=>?_,λb hb=>⟨(h.b2 b hb).1,λe=>?_⟩,λi hi=>?_⟩
 ·rw[cX,List.flatMap_append];simpa using hr
 ·rcases hg b hb with e|e
  ·exact h.b1 b e
  ·have:=h.c.size;omega
 ·rcases hg b e with e1|e1
  ·exact hd b hb e1
  ·have:=(h.d.lt hb).2;omega
 ·rw[cX] at hi;have hi:i<us.length+1:=hi
  by_cases e:i<us.length
  ·rw[P1 e PY];exact mo (h.m i e)
  ·have e2:i=us.length:=by omega
   subst e2;rw[Rw];exact mo hm
theorem Hv.mdv(h:Hv W w1 us mv dv L){x:Int}(hr:bm w2 0 YP (L++[x]))(f:Fr (aB dv) w1 w2)(hg:∀b,aB YP b->aB dv b\/w1.heap.size<=b):Hv W w2 us mv YP (L++[x]):=by
 have hd:∀b,aB mv b->¬aB dv b:=λb hb e=>(h.b2 b e).2 hb;refine⟨h.c.join f (λj hj e=>by have:=(h.b2 j e).1;omega),az h.r f hd,hr,h.b1,λb hb=>?_,λi hi=>?_⟩
 ·rcases hg b hb with e|e
  ·exact h.b2 b e
  ·exact⟨by have:=h.c.size;omega,λe2=>by have:=(World.ownsRow.lt h.r b e2).2;omega⟩
 ·exact(((h.m i hi).mono (T':=λb=>¬aB dv b/\(¬aB mv b/\¬aB YP b)) (λb hb hh=>⟨hh.2,hh.1,λe=>by
   rcases hg b e with e1|e1
   ·exact hh.2 e1
   ·omega⟩)).fr f (λb hb=>hb.1)).mono (λb _ hb=>hb.2)
end
def Ad(w:aj)(mv:aC)(n:Nat)(ms:Nat->List Mo):Prop:=
 ∃a c,mv=.slice a (n+1) c/\∀u,u<=n->∃g o v Fg,a=some ⟨g,o,none⟩/\w.cell? ⟨g,o+u*2,none⟩=some v/\w.cell? ⟨g,o+u*2+1,none⟩=some (.slice none 0 0)/\(Fg:List fW).map (·.x)=ms u/\bL allT w v Fg
theorem Ad.calm{w w':aj}{mv:aC}{n:Nat}{ms:Nat->List Mo}(h:Ad w mv n ms)(c:Calm w w'):Ad w' mv n ms:=by
 obtain⟨a,cc,e,h⟩:=h;exact⟨a,cc,e,λu hu=>by obtain⟨g,o,v,m,h1,h2,h3,h4,h5⟩:=h u hu;exact⟨g,o,v,m,h1,c.cellAt h2 id,c.cellAt h3 id,h4,h5.calm c⟩⟩
def Fb(wr:Nat->Nat)(n:Nat):List Int:=(List.range (n+1)).map λu=>if u=0 then (-1:Int) else (wr u:Int)
theorem Kj(wr:Nat->Nat)(n:Nat):Fb wr (n+1)=Fb wr n++[(wr (n+1):Int)]:=by unfold Fb;rw[List.range_succ,List.map_append];simp
theorem qg(wr:Nat->Nat)(n:Nat):(Fb wr n).length=n+1:=by simp[Fb]
theorem Tb(wr:Nat->Nat){n u:Nat}(h0:1<=u)(h:u<=n):(Fb wr n).getD u 0=(wr u:Int):=by
 unfold Fb;simp[aS,show u<n+1 by omega,show u≠0 by omega]
def MB(tr:List Tr)(wr:Nat->Nat)(u:Nat):Int:=if u=0 then -1 else (tr.getD (wr u) aK).dr
def Vn(w:aj)(n:Nat)(ms:Nat->List Mo)(wr:Nat->Nat)(en:Ending)(w':aj):Prop:=∃mv dv,en=.returned (.tuple #[mv,dv])/\Ad w' mv n ms/\cB allT w' dv (Fb wr n)/\Calm w w'
def QM:aC->Nat | .slice _ n _=>n|_=>0
def Uc(W:aj)(tr:List Tr)(ms:Nat->List Mo)(wr:Nat->Nat)(u:Nat)(mv dv tv:aC)(wz:aj):Prop:=
 ∃us,us.length=u+1/\Hv W wz us mv dv (Fb wr u)/\(∀i,i<=u->(us.getD i PY).2.map (·.x)=ms i)/\tv=vI (MB tr wr u)
theorem Uc.mdl{W wz:aj}{tr:List Tr}{ms:Nat->List Mo}{wr:Nat->Nat}{u:Nat}{mv dv tv:aC}(h:Uc W tr ms wr u mv dv tv wz):Ad wz mv u ms/\cB allT wz dv (Fb wr u)/\Calm W wz:=by
 obtain⟨us,h1,h2,h3,_⟩:=h;obtain⟨a,c,e⟩:=aG h2.r;refine⟨⟨a,c,by rw[<-h1];exact e,λi hi=>?_⟩,h2.d.ints λ_ _=>trivial,h2.c⟩;obtain⟨g,c2,e2,h4⟩:=bz (f:=XJ) (k:=2) (λ_=>rfl) (by decide) h2.r PY (i:=i) (by omega);rw[e] at e2;injection e2 with e2 _ _
 exact⟨g,0,_,_,e2,by rw[fk];exact(h4 0 _ rfl).1,by rw[fk];exact(h4 1 _ rfl).1,h3 i hi,(h2.m i (by omega)).mono λ_ _ _=>trivial⟩
end
