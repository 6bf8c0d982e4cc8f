import Derived.Test.YtgijglafnlbdbaaGreatTmBE
import Derived.Test.YtgijglafnlbdbaaGreatTmBB
set_option linter.all false
set_option maxHeartbeats 16000000
set_option maxRecDepth 8000
namespace Go.Proofs.YtgijglafnlbdbaaGreat
open RowKit Shelf Proofs.Tryz
open Go renaming World->ag,Value->aA,Calls->aJ
theorem Qi:∀n,n<=4->(madeCells (Value.agg #[vI 0,vI 0]).cells (n*2)).toList=(List.replicate n (⟨0,0⟩:Ax)).flatMap sX
 | 0,_=>by kernel_rfl
 | 1,_=>by kernel_rfl
 | 2,_=>by kernel_rfl
 | 3,_=>by kernel_rfl
 | 4,_=>by kernel_rfl
 | n+5,h=>by omega
def AK(N i:Nat):List Ax:=List.replicate i dp++List.replicate (N-i) ⟨0,0⟩
theorem Af{N i:Nat}(h:i<=N):(AK N i).length=N:=by simp[AK];omega
theorem QQ{N i:Nat}(h:i<N):(AK N i).set i dp=AK N (i+1):=by
 unfold AK;rw[List.set_append_right _ _ (by simp),List.length_replicate,Nat.sub_self,show N-i=(N-(i+1))+1 by omega,List.replicate_succ,iz,List.replicate_succ',List.append_assoc];rfl
theorem GJ{N i:Nat}(h:i<N):(AK N i).getD i dp=⟨0,0⟩:=by
 unfold AK;rw[aS,rM (by simp),List.length_replicate,Nat.sub_self,show N-i=(N-(i+1))+1 by omega,List.replicate_succ];rfl
theorem QP(N:Nat):AK N N=List.replicate N dp:=by simp[AK]
theorem jP.start{w w':ag}{T0:Nat->Prop}{rp:Nat}{pv atv:aA}{Q:Pg}(hp:ed T0 w pv Q)(hc:af w' rp [pv,atv,.slice none 0 0,vI 0])(ha:w'.ownsRow 0 135 2 atv Q.length ((List.replicate Q.length dp).flatMap sX))(c:Calm w w')(h1:w.heap.size<=rp)(h2:∀b,ay atv b->w.heap.size<=b/\b≠rp) :
 ∃τ,jP w' τ rp pv Q 0 (Rd.start Q)/\∀b,b<w.heap.size->τ b=10000:=by
 classical
 refine⟨λk=>if k=rp then 1 else if ay atv k then 2 else 10000,⟨λj=>if j=1 then bD rp pv [atv,.slice none 0 0,vI 0] else if j=2 then fU 135 2 atv Q.length ((List.replicate Q.length dp).flatMap sX) else if j=3 then fU 89 10 nR 0 [] else rQ,atv,nR,[],⟨λj=>?_,λj k hk=>?_⟩,⟨rfl,?_,rfl,λk hk=>absurd hk (Nat.not_lt_zero k),λj hj=>?_⟩,rfl,?_,?_⟩,λb hb=>?_⟩
 ·show(if j=1 then _ else if j=2 then _ else if j=3 then _ else rQ:tQ).at_ w'
  by_cases e1:j=1
  ·rw[if_pos e1];exact hc
  rw[if_neg e1]
  by_cases e2:j=2
  ·rw[if_pos e2];exact ha
  rw[if_neg e2]
  by_cases e3:j=3
  ·rw[if_pos e3];exact L3 _ _ _
  rw[if_neg e3];exact trivial
 ·replace hk:(if j=1 then bD rp pv [atv,.slice none 0 0,vI 0] else if j=2 then fU 135 2 atv Q.length ((List.replicate Q.length dp).flatMap sX) else if j=3 then fU 89 10 nR 0 [] else rQ:tQ).dh k:=hk
  by_cases e1:j=1
  ·rw[if_pos e1] at hk;have hk:k=rp:=hk;simp only[if_pos hk];exact e1.symm
  rw[if_neg e1] at hk
  by_cases e2:j=2
  ·rw[if_pos e2] at hk;have hk:ay atv k:=hk;simp only[if_neg (h2 k hk).2,if_pos hk];exact e2.symm
  rw[if_neg e2] at hk
  by_cases e3:j=3
  ·rw[if_pos e3] at hk;exact absurd hk (ay.nil k)
  rw[if_neg e3] at hk;exact hk.elim
 ·show fU _ 2 atv Q.length _=fU _ 2 atv (List.replicate Q.length dp).length _;rw[List.length_replicate];rfl
 ·have hj:10<=j:=hj;show(if j=1 then _ else if j=2 then _ else if j=3 then _ else rQ:tQ)=rQ;rw[if_neg (by omega),if_neg (by omega),if_neg (by omega)]
 ·refine((hp.mono (T':=λb=>b<w.heap.size) (λb hb _=>hb)).calm c).mono (λb _ e=>?_);show 10000<=(if b=rp then 1 else if ay atv b then 2 else 10000);rw[if_neg (show ¬b=rp by omega),if_neg (show ¬ay atv b from λe2=>by have:=(h2 b e2).1;omega)];exact aD _
 ·refine⟨by show(List.replicate Q.length dp).length=_;simp,λt ht=>?_,⟨Int.le_refl 0,Int.le_refl 0⟩,aD 0,λk hk=>absurd hk (Nat.not_lt_zero k)⟩
  have:(List.replicate Q.length dp).getD t dp=dp:=by
   have ht:t<(List.replicate Q.length dp).length:=ht;rw[aS,lQ ht];simp
  show bX ((List.replicate Q.length dp).getD t dp).block/\_/\_;rw[show(Rd.start Q).sp=List.replicate Q.length dp from rfl,this];exact⟨⟨by decide,by decide⟩,Int.le_refl (-1),by show(-1:Int)<0;decide⟩
 ·simp only[if_neg (show ¬b=rp by omega),if_neg (show ¬ay atv b from λe=>by have:=(h2 b e).1;omega)]
theorem IC{w:ag}{base:Nat}{e:TypeId}{k n:Nat}{v:aA}{xs:List aA}(h:w.ownsRow base e k v n xs):w.ownsRow 0 e k v n xs:=by
 refine⟨h.1,?_⟩;rcases h.2 with h|⟨g,cap,cur,h1,h2,h3⟩
 ·exact .inl h
 ·exact .inr ⟨g,cap,cur,h1,bY _,h3⟩
def DM(w:ag)(pv:aA)(Q:Pg)(H:List En)(e:Ending)(w':ag):Prop:=
 (tries Q H=none/\e=.returned (.tuple #[nR,.bool false])/\Calm w w') \/
 ∃aL M' rp atv ib ms r,tries Q H=some r.tr/\e=.returned (.tuple #[ib,.bool true])/\Calm w w'/\(∀b,b<w.heap.size->aL b=10000)/\bE w' aL M'/\wg M' rp pv atv ib r.sp ms r.bK/\ms.map (·.x)=r.tr/\OH Q r H.length
def TrI(w:ag)(rp:Nat)(pv:aA)(Q:Pg)(H:List En)(i:Nat)(wr:ag):Prop:=∃iF ri,jP wr iF rp pv Q i ri/\Rd.run Q H 0 (Rd.start Q)=Rd.run Q (H.drop i) i ri/\(∀b,b<w.heap.size->iF b=10000)/\Calm w wr
theorem Nu{T0:Nat->Prop}{w:ag}{v hv:aA}{Q:Pg}{H:List En}(hr:ed T0 w v Q)(hp:tX Q)(he:w.ownsRow 0 76 6 hv H.length (H.flatMap En.c))(hH:H.length<=2000):aJ prog 32 #[v,hv] w (DM w v Q H):=by
 obtain⟨i0,hi,iR,iT,jm⟩:=info_parts (show(prog.info? 135).map (λi=>(i.zero,i.size,i.bytes))=some (some (.agg #[vI 0,vI 0]),2,16) by kernel_rfl);have uB:=Bj hr hp;obtain⟨va,vc,nZ⟩:∃a c,v=.slice a Q.length c:=by obtain⟨a,c,e,_⟩:=hr;exact⟨a,c,e⟩
 obtain⟨N,hN⟩:=ao Q.length;have hN1:1<=N/\N<=4:=by rw[<-hN];exact hp.n
 obtain⟨ha,hc,HT⟩:=aF he;obtain⟨NH,Uh⟩:=ao H.length
 have gG:Hid (∀i,i<NH->∃g,ha=some ⟨g,0,none⟩/\∀W,Calm w W->∀j u,(H.getD i ⟨0,0,0,0,0,0⟩).c[j]?=some u->W.cell? ⟨g,i*6+j,none⟩=some u):=λi hi=>by
  obtain⟨g,c,e1,e2⟩:=bT (f:=En.c) (λ_=>rfl) (by decide) he ⟨0,0,0,0,0,0⟩ (i:=i) (by omega);rw[HT] at e1;injection e1 with e1 _ _
  exact⟨g,e1,λW c j u hu=>c.cellAt (e2 j u hu).1 id⟩
 rw[Uh] at HT hH;subst HT;rw[hN] at nZ;subst nZ;replace uB:=hid uB;replace hp:=hid hp;replace hr:=hid hr;replace hN:=hid hN;replace Uh:=hid Uh;replace hi:=hid hi;clear he;go_in;go_wp2_with fail
 refine uB.out.mono ?_;rintro e w1 ⟨rfl,c1⟩;clear uB;have k2:Calm w (w1.alloc (.cells #[vI 0,vI 0,vI 0] 46)):=c1.alloc _;go_upto_region 4 with fail
 generalize fI:w1.alloc (.cells #[vI 0,vI 0,vI 0] 46)=W2 at *;clear fI c1
 go_upto_block 0 with (
  at_make
  go_must (refine wpList_make_full _ rfl _ _ 131 rfl W2.heap.size 135 i0 (.agg #[vI 0,vI 0]) 2 Tryz.underlying131 hi.out iR iT .i64 .i64 N N N rfl rfl rfl rfl (by rw[jm];omega) (by unfold maxLen;omega) (aD _) ?_)
  intro w4 bS eK;rw[Qi N hN1.2] at bS;have c4:Calm W2 w4:=Fr.grown ah eK (λk hk=>by cases hk);replace bS:=hid bS;have wm:W2.heap.size<w4.heap.size:=(World.ownsRow.lt bS.out W2.heap.size (ay.mk.2 rfl)).2
  clear eK)
 have kb:Calm w4 (w4.alloc (.cells #[.slice va N vc,.slice (some ⟨W2.heap.size,0,none⟩) N N,.slice none 0 0,vI 0] 133)):=ah.alloc _;have ob:af (w4.alloc (.cells #[.slice va N vc,.slice (some ⟨W2.heap.size,0,none⟩) N N,.slice none 0 0,vI 0] 133)) w4.heap.size [.slice va N vc,.slice (some ⟨W2.heap.size,0,none⟩) N N,.slice none 0 0,vI 0]:=af.zT w4 [_,_,_,_] _ _ rfl;generalize sO:w4.alloc (.cells #[.slice va N vc,.slice (some ⟨W2.heap.size,0,none⟩) N N,.slice none 0 0,vI 0] 133)=W6 at *;clear sO;obtain⟨rp,Od⟩:=ao w4.heap.size;obtain⟨ga,zy⟩:=ao W2.heap.size;rw[Od] at ob wm ⊢;rw[zy] at ob wm ⊢;have k6:Calm w W6:=(k2.trans c4).trans kb;have aby:w.heap.size<=ga:=by rw[<-zy];exact k2.size
 have hA0:W6.ownsRow 0 135 2 (.slice (some ⟨ga,0,none⟩) N N) (AK N 0).length ((AK N 0).flatMap sX):=by
  have:=bS.out;rw[zy] at this;rw[Af (bY _)];have e:AK N 0=List.replicate N ⟨0,0⟩:=by simp[AK]
  rw[e];exact aw (IC this) kb (λ_ _=>id)
 have kg:Hid (af W6 rp [.slice va N vc,.slice (some ⟨ga,0,none⟩) N N,.slice none 0 0,vI 0]/\W6.ownsRow 0 135 2 (.slice (some ⟨ga,0,none⟩) N N) (AK N 0).length ((AK N 0).flatMap sX)/\Calm w W6):=⟨ob,hA0,k6⟩;clear hA0 bS c4 kb k2 k6 ob;go_wp2_with fail
 go_loopw [27] (λz wr=>∃i:Nat,i<=N/\z=vI i/\af wr rp [.slice va N vc,.slice (some ⟨ga,0,none⟩) N N,.slice none 0 0,vI 0]/\wr.ownsRow 0 135 2 (.slice (some ⟨ga,0,none⟩) N N) (AK N i).length ((AK N i).flatMap sX)/\Calm w wr) (λz _=>N-(intOf z).toNat)
 case atStart=>exact⟨0,by omega,rfl,kg.out⟩
 case round=>
  obtain⟨i,hi,rfl,ho,aP,wL⟩:=hrel;clear kg;have y1:=(ho 1 _ rfl).1
  by_cases aM:i<N
  ·have ts:i<(AK N i).length:=by rw[Af hi];exact aM
   have p1:=cI fe (by decide) aP dp ts 1 (u:=vI 0) (by rw[GJ aM];rfl);have A1:=gN (n:=N) aP (Af hi).symm ts 1 (by decide) (vI (-1)) dp (by rw[GJ aM];rfl);rw[QQ aM] at A1;have F1:Fr (λk=>k=ga) wr (wr.setCell ⟨ga,i*2+1,none⟩ (vI (-1))):=(Fr.refl (λk=>k=ga) wr).setCell (p:=⟨ga,i*2+1,none⟩) (.inl rfl) _;have o1:=ho.fr F1 (by omega);have c1:Calm w (wr.setCell ⟨ga,i*2+1,none⟩ (vI (-1))):=wL.join F1 (λj hj e=>by omega);have hF:=hid (And.intro o1 (And.intro A1 c1));have p11:=p1.1;have p12:=p1.2;clear A1 F1 o1 c1 aP ho;go_wp2;exact⟨⟨i+1,by omega,by simp,hF.out⟩,by simp[intOf] <;> omega⟩
  ·obtain rfl:i=N:=by omega
   have hI1:Hid (TrI w rp (.slice va i vc) Q H 0 wr):=by
    obtain⟨τ0,m1,m2⟩:=jP.start (atv:=.slice (some ⟨ga,0,none⟩) i i) hr.out ho (by rw[hN.out];rw[QP] at aP;simpa using aP) wL (by omega) (λb hb=>by obtain rfl:=ay.fJ hb;exact⟨aby,by omega⟩);exact⟨τ0,_,m1,rfl,m2,wL⟩
   have ic:decide ((i:Int)<i)=false:=decide_eq_false (by omega);clear ho aP wL y1;go_wp2_with fail
   go_loopw [38] (λz wr=>∃q:Nat,q<=NH/\z=vI q/\TrI w rp (.slice va i vc) Q H q wr) (λz _=>NH-(intOf z).toNat)
   case atStart=>exact⟨0,by omega,rfl,hI1.out⟩
   case round=>
    obtain⟨q,hq,rfl,iF,ri,hR,mE,lV,wL⟩:=hrel;clear hI1
    by_cases dO:q<NH
    ·obtain⟨g,rfl,hcell⟩:=gG.out q dO;obtain⟨e,hee⟩:=ao (H.getD q ⟨0,0,0,0,0,0⟩);rw[hee] at hcell;obtain⟨et,eb,en,ek,eE,ev⟩:=e;have x0:=hcell wr wL 0 _ rfl;have x1:=hcell wr wL 1 _ rfl;have x2:=hcell wr wL 2 _ rfl;have x3:=hcell wr wL 3 _ rfl;have x4:=hcell wr wL 4 _ rfl;have x5:=hcell wr wL 5 _ rfl;rw[fM] at x0;have kA:Calm wr (wr.alloc (.cells #[vI et,vI eb,vI en,vI ek,vI eE,vI ev] 76)):=ah.alloc _;have oA:af (wr.alloc (.cells #[vI et,vI eb,vI en,vI ek,vI eE,vI ev] 76)) wr.heap.size (mB et eb en ek eE ev):=af.zT wr [_,_,_,_,_,_] _ _ rfl;obtain⟨WA,hWA⟩:=ao (wr.alloc (.cells #[vI et,vI eb,vI en,vI ek,vI eE,vI ev] 76));rw[hWA] at kA oA;have ot:=MN (hR.calm kA) (by omega) hp.out et eb en ek eE ev
     have hd:Hid (H.drop q=⟨et,eb,en,ek,eE,ev⟩::H.drop (q+1)):=by
      show H.drop q=_;rw[List.drop_eq_getElem_cons (by have:=Uh.out;omega),<-hee];simp[aS,show q<H.length by have:=Uh.out;omega]
     have zw:=wL.trans kA;replace mE:=hid mE;replace lV:=hid lV;replace hee:=hid hee;simp only[mB] at oA;obtain⟨z0,z1,z2,z3,z4,z5⟩:=af.Ry oA;clear hcell hR oA;go_wp2_with fail
     refine ot.mono ?_;rintro e5 w5 (⟨x,aL,e1,rfl,m1,m2⟩|⟨e1,rfl,m2⟩)
     ·have Ga:Calm w w5:=zw.join m2.fr (λj hj e=>by have h1:=lV.out j hj;have h2:iF j<10000:=e;omega)
      have hF:Hid (TrI w rp (.slice va i vc) Q H (q+1) w5):=by
       refine⟨aL,x,m1,?_,λb hb=>(m2.tg b (by have:=zw.size;omega)).trans (lV.out b hb),Ga⟩;rw[mE.out,hd.out];show(match Rd.take Q ri q _ with|none=>none|some r'=>_)=_;rw[e1]
      clear ot m1 m2 Ga zw kA x0 x1 x2 x3 x4 x5;go_wp2;exact⟨⟨q+1,by omega,by simp,hF.out⟩,by simp[intOf] <;> omega⟩
     ·have Ga:Calm w w5:=zw.join m2 (λj hj e=>by have h1:=lV.out j hj;have h2:iF j<10000:=e;omega)
      have hP:Hid (DM w (.slice va i vc) Q H (.returned (.tuple #[.slice none 0 0,.bool false])) w5):=by
       refine .inl ⟨?_,rfl,Ga⟩;unfold tries;rw[mE.out,hd.out];show Option.map _ (match Rd.take Q ri q _ with|none=>none|some r'=>_)=_;rw[e1];rfl
      clear ot m2 Ga zw kA x0 x1 x2 x3 x4 x5;go_wp2
      go_ret2
      exact hP.out
    ·obtain rfl:q=NH:=by omega
     have Ep:decide ((q:Int)<q)=false:=decide_eq_false (by omega);obtain⟨M,atv,ib,ms,h1,h2,h3,h4,h5⟩:=hR;have y2:wr.cell? ⟨rp,2,none⟩=some ib:=by have:=h1.at_ 1;rw[h2.c] at this;exact((show af wr rp [.slice va i vc,atv,ib,vI ri.bK] from this) 2 _ rfl).1
     have hP:Hid (DM w (.slice va i vc) Q H (.returned (.tuple #[ib,.bool true])) wr):=by
      refine .inr ⟨iF,M,rp,atv,ib,ms,ri,?_,rfl,wL,lV,h1,h2,h3,by rw[Uh.out];exact h5⟩;unfold tries;rw[mE,List.drop_of_length_le (by have:=Uh.out;omega)];rfl
     clear h1 h2 h3 h4 h5 mE lV wL;go_wp2
     go_ret2
     exact hP.out
def cn(l:List Tr)(j:Int):Nat:=(l.filter λx=>x.en==j).length
theorem O1{l:List Tr}{i:Nat}(h:i<l.length)(j:Int):cn (l.take (i+1)) j=cn (l.take i) j+if (l.getD i ke).en=j then 1 else 0:=by
 unfold cn;rw[List.take_succ_eq_append_getElem h,List.filter_append,b_];have e:l[i]=l.getD i ke:=by simp[aS,h]
 rw[e]
 by_cases hj:(l.getD i ke).en=j
 ·rw[if_pos hj,List.filter_cons_of_pos (by simpa using hj)];rfl
 ·rw[if_neg hj,List.filter_cons_of_neg (by simpa using hj)];rfl
def cnt(Q:Pg)(H:List En)(j:Int):Nat:=match tries Q H with|none=>0|some l=>cn l j
def DF(w:ag)(Q:Pg)(H:List En)(e:Ending)(w':ag):Prop:=e=.returned (.agg #[vI (cnt Q H 0),vI (cnt Q H 1),vI (cnt Q H 2)])/\Calm w w'
theorem Ys(l:List Tr)(j:Int):cn l j<=l.length:=List.length_filter_le _ _
theorem SS{fn:Func}{i:Nat}{W:ag}{B:Nat}{k e v:Int}{tmps:Array aA}(hf:fn.results = #[.cell i 46])(h5:tmps[i]?.getD undef = bw B)(u:af W B [vI k,vI e,vI v]):(results fn tmps).run prog W=.ok (.agg #[vI k,vI e,vI v]) W:=by
 obtain⟨z0,z1,z2⟩:=af.mI u;simp[results,hf,h5,go_sem,z0,z1,z2]
theorem J_{T0:Nat->Prop}{w:ag}{v hv:aA}{Q:Pg}{H:List En}(hr:ed T0 w v Q)(hp:tX Q)(he:w.ownsRow 0 76 6 hv H.length (H.flatMap En.c))(hH:H.length<=2000):aJ prog 14 #[v,hv] w (DF w Q H):=by
 have k0:Calm w ((w.alloc (.cells #[vI 0,vI 0,vI 0] 46)).alloc (.cells #[vI 0,vI 0,vI 0] 46)):=(ah.alloc _).alloc _;have o4:af ((w.alloc (.cells #[vI 0,vI 0,vI 0] 46)).alloc (.cells #[vI 0,vI 0,vI 0] 46)) w.heap.size [vI 0,vI 0,vI 0]:=(af.zT w [_,_,_] _ _ rfl).alloc _;have o5:af ((w.alloc (.cells #[vI 0,vI 0,vI 0] 46)).alloc (.cells #[vI 0,vI 0,vI 0] 46)) (w.heap.size+1) [vI 0,vI 0,vI 0]:=af.zT (w.alloc _) [_,_,_] _ _ (by simp);have iG:((w.alloc (.cells #[vI 0,vI 0,vI 0] 46)).alloc (.cells #[vI 0,vI 0,vI 0] 46)).heap.size=w.heap.size+2:=by simp
 obtain⟨W0,gF⟩:=ao (((w.alloc (.cells #[vI 0,vI 0,vI 0] 46)).alloc (.cells #[vI 0,vI 0,vI 0] 46)));rw[gF] at k0 o4 o5 iG;have ot:=Nu (hr.calm k0) hp (aw he k0 (λ_ _=>id)) hH;clear hr he;go_in;go_wp2_with fail
 refine ot.mono ?_;rintro e w5 (⟨hn,rfl,c5⟩|⟨aL,M',rp,atv,ib,ms,r,hs,rfl,c5,lV,h1,h2,h3,h5⟩)
 ·have r4:=o4.calm c5;have r5:=o5.calm c5
  have hP:DF w Q H (.returned (.agg #[vI 0,vI 0,vI 0])) (w5.setCells w.heap.size 0 [vI 0,vI 0,vI 0]):=by
   refine⟨by unfold cnt;rw[hn];rfl,(k0.trans c5).join (Fr.setCells (S:=λk=>k=w.heap.size) rfl _ _ ah) (λj hj e=>by have e:j=w.heap.size:=e;omega)⟩
  have T:=r4.whole (us:=[vI 0,vI 0,vI 0]) rfl;replace hP:=hid hP;replace T:=hid T;obtain⟨y0,y1,y2⟩:=af.mI r5;obtain⟨z0,vW,z1,vX,z2,vY⟩:=af.pG r4;clear ot r4 r5 gF o4 o5;go_wp2;exact bodyPost_ret (v:=.agg #[vI 0,vI 0,vI 0]) (SS (i:=4) rfl rfl T.out) rfl hP.out
 ·have hkw:Calm w w5:=k0.trans c5;have ru:w5.ownsRow 0 89 10 ib ms.length (ms.flatMap sF):=by have:=h1.at_ 3;rw[h2.t] at this;exact this
  have xU:∀b,ay ib b->b≠w.heap.size/\b≠w.heap.size+1:=λb hb=>by
   have e1:=h1.tag 3 b (by rw[h2.t];exact hb);refine⟨λe=>?_,λe=>?_⟩
   ·have:=lV b (by omega);omega
   ·have:=lV b (by omega);omega
  obtain⟨ta,tc,wD⟩:=aF ru;obtain⟨N,hN⟩:=ao ms.length;have hrN:r.tr.length=N:=by rw[<-h3,List.length_map,hN]
  have hN2:N<=2000:=by have:=h5.l;omega
  have gG:Hid (∀i,i<N->∃g,ta=some ⟨g,0,none⟩/\g≠w.heap.size+1/\0<=(r.tr.getD i ke).en/\(r.tr.getD i ke).en<=2/\(ms.getD i fo).x.en=(r.tr.getD i ke).en/\(∃a c,(ms.getD i fo).av=.slice a (ms.getD i fo).x.cQ.length c)/\(∃a c,(ms.getD i fo).tv=.slice a (ms.getD i fo).x.lS.length c)/\∀W,Fr (λk=>k=w.heap.size+1) w5 W->∀j u,(sF (ms.getD i fo))[j]?=some u->W.cell? ⟨g,i*10+j,none⟩=some u):=λi hi=>by
   obtain⟨g,c,e1,e2⟩:=bT fg (by decide) ru fo (i:=i) (by omega);have e1':=e1;rw[wD] at e1;injection e1 with e1 _ _
   have hg:=xU g (by rw[e1'];exact ay.mk.2 rfl);have ha:=h5.a i (by omega);refine⟨g,e1,hg.2,ha.2.2.1,ha.2.2.2,?_,?_,?_,λW f j u hu=>f.cellAt (e2 j u hu).1 (λe=>hg.2 e)⟩
   ·rw[<-h3];show _=((ms.map (·.x)).getD i fo.x).en;rw[RC]
   ·have:=h1.at_ (10+2*i);rw[(h2.x i (by omega)).1] at this;exact aF this
   ·have:=h1.at_ (10+2*i+1);rw[(h2.x i (by omega)).2] at this;exact aF this
  rw[hN] at wD;subst wD;have Ek:Hid (∀j,cnt Q H j=cn (r.tr.take N) j):=λj=>by unfold cnt;rw[hs,<-hrN,List.take_length]
  have ZW:Hid (∀i,i<N->∀j,cn (r.tr.take (i+1)) j=cn (r.tr.take i) j+if (r.tr.getD i ke).en=j then 1 else 0):=λi hi j=>O1 (by omega) j;have hle:Hid (∀i j,cn (r.tr.take i) j<=2000):=λi j=>by have:=Ys (r.tr.take i) j;rw[List.length_take] at this;omega
  have kg:Hid (Fr (λk=>k=w.heap.size+1) w5 w5/\af w5 (w.heap.size+1) [vI (cn (r.tr.take 0) 0:Nat),vI (cn (r.tr.take 0) 1:Nat),vI (cn (r.tr.take 0) 2:Nat)]):=⟨ah,o5.calm c5⟩;have r4:=hid (o4.calm c5);replace hkw:=hid hkw;have h45:w.heap.size+1<w5.heap.size:=by have:=c5.size;omega
  clear ru xU lV h1 h2 h3 h5 hs ot o4 o5 k0 c5 gF hN hrN;go_wp2_with fail
  go_loopw [21] (λz wr=>∃i:Nat,i<=N/\z=vI i/\Fr (λk=>k=w.heap.size+1) w5 wr/\af wr (w.heap.size+1) [vI (cn (r.tr.take i) 0:Nat),vI (cn (r.tr.take i) 1:Nat),vI (cn (r.tr.take i) 2:Nat)]) (λz _=>N-(intOf z).toNat)
  case atStart=>exact⟨0,by omega,rfl,kg.out.1,kg.out.2⟩
  case round=>
   obtain⟨i,hi,rfl,hf,ho⟩:=hrel;clear kg
   by_cases aM:i<N
   ·obtain⟨g,rfl,tA,abt,abu,KO,⟨a1,c1,HF⟩,⟨a2,c2,ry⟩,hcell⟩:=gG.out i aM;have hm:=ZW.out i aM;have hl:=hle.out i;obtain⟨m,ZV⟩:=ao (ms.getD i fo);rw[ZV] at KO HF ry hcell;obtain⟨en,UL⟩:=ao ((r.tr.getD i ke).en);rw[UL] at abt abu KO hm;have hc:=hcell wr hf;have x0:=hc 0 _ rfl;have x1:=hc 1 _ rfl;have x2:=hc 2 _ rfl;have x3:=hc 3 _ rfl;have x4:=hc 4 _ rfl;have x5:=hc 5 _ rfl;have x6:=hc 6 _ rfl;have x7:=hc 7 _ rfl;have x8:=hc 8 _ rfl;have x9:=hc 9 _ rfl;rw[fM] at x0;rw[HF] at x6;rw[ry] at x7;rw[KO] at x8;replace UL:=hid UL;replace ZV:=hid ZV;replace HF:=hid HF;replace ry:=hid ry;replace KO:=hid KO;clear hc hcell;have N_:=hl 0;have qI:=hl 1;have kT:=hl 2;have kA:Calm wr (wr.alloc (.cells #[vI m.x.th,vI m.x.bl,vI m.x.st,vI m.x.se,vI m.x.fr,vI m.x.mM,.slice a1 m.x.cQ.length c1,.slice a2 m.x.lS.length c2,vI en,vI m.x.dm] 89)):=ah.alloc _;obtain⟨WA,hWA⟩:=ao (wr.alloc (.cells #[vI m.x.th,vI m.x.bl,vI m.x.st,vI m.x.se,vI m.x.fr,vI m.x.mM,.slice a1 m.x.cQ.length c1,.slice a2 m.x.lS.length c2,vI en,vI m.x.dm] 89));have oA:af WA wr.heap.size [vI m.x.th,vI m.x.bl,vI m.x.st,vI m.x.se,vI m.x.fr,vI m.x.mM,.slice a1 m.x.cQ.length c1,.slice a2 m.x.lS.length c2,vI en,vI m.x.dm]:=by rw[<-hWA];exact af.zT wr [_,_,_,_,_,_,_,_,_,_] _ _ rfl
    rw[hWA] at kA;have oc:=ho.calm kA;have y8:=(oA 8 _ rfl).1;have WY:=hf.trans (Calm.any kA);rcases(by omega:en=0\/en=1\/en=2) with rfl|rfl|rfl
    ·have fq:=(oc 0 _ rfl);have fq1:=fq.1;have fq2:=fq.2;have hw:IntKind.i64.wrap (((cn (r.tr.take i) 0:Nat):Int)+1)=((cn (r.tr.take i) 0:Nat):Int)+1:=IntWalk.i64_in _ ⟨by omega,by omega⟩;have on:=oc.set 0 (vI (((cn (r.tr.take i) 0:Nat):Int)+1)) (by simp);have e0:=hm 0;have e1:=hm 1;have e2:=hm 2;have F1:=jR WA (w.heap.size+1) 0 (vI (((cn (r.tr.take i) 0:Nat):Int)+1))
     have hF:Hid (Fr (λk=>k=w.heap.size+1) w5 (WA.setCell ⟨w.heap.size+1,0,none⟩ (vI (((cn (r.tr.take i) 0:Nat):Int)+1)))/\af (WA.setCell ⟨w.heap.size+1,0,none⟩ (vI (((cn (r.tr.take i) 0:Nat):Int)+1))) (w.heap.size+1) [vI (cn (r.tr.take (i+1)) 0:Nat),vI (cn (r.tr.take (i+1)) 1:Nat),vI (cn (r.tr.take (i+1)) 2:Nat)]):=by
      refine⟨WY.trans F1,?_⟩;rw[e0,e1,e2];simpa using on
     clear on F1 e0 e1 e2 oc oA ho hf WY kA hm hl fq;go_wp2;exact⟨⟨i+1,by omega,by simp,hF.out.1,hF.out.2⟩,by simp[intOf] <;> omega⟩
    ·have fq:=(oc 1 _ rfl);have fq1:=fq.1;have fq2:=fq.2;have hw:IntKind.i64.wrap (((cn (r.tr.take i) 1:Nat):Int)+1)=((cn (r.tr.take i) 1:Nat):Int)+1:=IntWalk.i64_in _ ⟨by omega,by omega⟩;have on:=oc.set 1 (vI (((cn (r.tr.take i) 1:Nat):Int)+1)) (by simp);have e0:=hm 0;have e1:=hm 1;have e2:=hm 2;have F1:=jR WA (w.heap.size+1) 1 (vI (((cn (r.tr.take i) 1:Nat):Int)+1))
     have hF:Hid (Fr (λk=>k=w.heap.size+1) w5 (WA.setCell ⟨w.heap.size+1,1,none⟩ (vI (((cn (r.tr.take i) 1:Nat):Int)+1)))/\af (WA.setCell ⟨w.heap.size+1,1,none⟩ (vI (((cn (r.tr.take i) 1:Nat):Int)+1))) (w.heap.size+1) [vI (cn (r.tr.take (i+1)) 0:Nat),vI (cn (r.tr.take (i+1)) 1:Nat),vI (cn (r.tr.take (i+1)) 2:Nat)]):=by
      refine⟨WY.trans F1,?_⟩;rw[e0,e1,e2];simpa using on
     clear on F1 e0 e1 e2 oc oA ho hf WY kA hm hl fq;go_wp2;exact⟨⟨i+1,by omega,by simp,hF.out.1,hF.out.2⟩,by simp[intOf] <;> omega⟩
    ·have fq:=(oc 2 _ rfl);have fq1:=fq.1;have fq2:=fq.2;have hw:IntKind.i64.wrap (((cn (r.tr.take i) 2:Nat):Int)+1)=((cn (r.tr.take i) 2:Nat):Int)+1:=IntWalk.i64_in _ ⟨by omega,by omega⟩;have on:=oc.set 2 (vI (((cn (r.tr.take i) 2:Nat):Int)+1)) (by simp);have e0:=hm 0;have e1:=hm 1;have e2:=hm 2;have F1:=jR WA (w.heap.size+1) 2 (vI (((cn (r.tr.take i) 2:Nat):Int)+1))
     have hF:Hid (Fr (λk=>k=w.heap.size+1) w5 (WA.setCell ⟨w.heap.size+1,2,none⟩ (vI (((cn (r.tr.take i) 2:Nat):Int)+1)))/\af (WA.setCell ⟨w.heap.size+1,2,none⟩ (vI (((cn (r.tr.take i) 2:Nat):Int)+1))) (w.heap.size+1) [vI (cn (r.tr.take (i+1)) 0:Nat),vI (cn (r.tr.take (i+1)) 1:Nat),vI (cn (r.tr.take (i+1)) 2:Nat)]):=by
      refine⟨WY.trans F1,?_⟩;rw[e0,e1,e2];simpa using on
     clear on F1 e0 e1 e2 oc oA ho hf WY kA hm hl fq;go_wp2;exact⟨⟨i+1,by omega,by simp,hF.out.1,hF.out.2⟩,by simp[intOf] <;> omega⟩
   ·obtain rfl:i=N:=by omega
    have ic:decide ((i:Int)<i)=false:=decide_eq_false (by omega);have e0:=Ek.out 0;have e1:=Ek.out 1;have e2:=Ek.out 2;rw[<-e0,<-e1,<-e2] at ho;have r4':=r4.out.fr hf (show ¬w.heap.size=w.heap.size+1 by omega);have T:=r4'.whole (us:=[vI (cnt Q H 0:Nat),vI (cnt Q H 1:Nat),vI (cnt Q H 2:Nat)]) rfl
    have hP:Hid (DF w Q H (.returned (.agg #[vI (cnt Q H 0),vI (cnt Q H 1),vI (cnt Q H 2)])) (wr.setCells w.heap.size 0 [vI (cnt Q H 0:Nat),vI (cnt Q H 1:Nat),vI (cnt Q H 2:Nat)])):=
     ⟨rfl,(hkw.out.join hf (λj hj e=>by omega)).join (Fr.setCells (S:=λk=>k=w.heap.size) rfl _ _ ah) (λj hj e=>by have e:j=w.heap.size:=e;omega)⟩
    replace T:=hid T;have y0:=(ho 0 _ rfl).1;have y1:=(ho 1 _ rfl).1;have y2:=(ho 2 _ rfl).1;obtain⟨z0,vW,z1,vX,z2,vY⟩:=af.pG r4';clear ho hf r4' e0 e1 e2;go_wp2;exact bodyPost_ret (v:=.agg #[vI (cnt Q H 0),vI (cnt Q H 1),vI (cnt Q H 2)]) (SS (i:=4) rfl rfl T.out) rfl hP.out
def Iy(Q:Pg)(L:Nat->Bool)(e:En):Nat->Bool:=λt=>if e.t=(t:Int) then (if e.k=1 then decide (e.e=0) else if e.k=2 then !(last Q e) else false) else L t
def Qg(Q:Pg)(H:List En):Nat->Bool:=H.foldl (Iy Q) (λ_=>false)
theorem LR(Q:Pg)(H:List En)(e:En):Qg Q (H++[e])=Iy Q (Qg Q H) e:=by unfold Qg;rw[List.foldl_append];rfl
theorem LQ(Q:Pg)(H:List En):∀m:List En,(∀x∈m,x.t = -1)->Qg Q (H++m)=Qg Q H:=by
 have h:∀ (m:List En) (L:Nat->Bool),(∀x∈m,x.t = -1)->m.foldl (Iy Q) L=L:=by
  intro m
  induction m with
  | nil=>intro L _;rfl
  | cons x m ih=>
    intro L hm;rw[List.foldl_cons]
    have e:Iy Q L x=L:=by
     funext t;unfold Iy;rw[if_neg];have:=hm x (by simp);omega
    rw[e];exact ih L λy hy=>hm y (List.mem_cons_of_mem _ hy)
 intro m hm;unfold Qg;rw[List.foldl_append];exact h m _ hm
structure RL(Q:Pg)(r:Rd)(L:Nat->Bool):Prop where
 n:r.sp.length=Q.length
 l:∀t,t<r.sp.length->L t=decide (0<=(r.sp.getD t dp).tr)
 b:∀t,t<r.sp.length->(r.sp.getD t dp).tr<(r.tr.length:Nat)
 e:∀k,k<r.tr.length->(r.tr.getD k ke).en=0->∃t,t<r.sp.length/\(r.sp.getD t dp).tr=(k:Nat)
theorem RL.start(Q:Pg):RL Q (Rd.start Q) (λ_=>false):=by
 have g:∀t,t<(Rd.start Q).sp.length->((Rd.start Q).sp.getD t dp)=dp:=λt ht=>by
  have P7:t<(List.replicate Q.length dp).length:=ht;show(List.replicate Q.length dp).getD t dp=dp;rw[aS,lQ P7];simp
 refine⟨by simp[Rd.start],λt ht=>?_,λt ht=>?_,λk hk=>absurd hk (Nat.not_lt_zero k)⟩
 ·rw[g t ht];rfl
 ·rw[g t ht];show(-1:Int)<_;omega
theorem RL.fD{Q:Pg}{r r':Rd}{L:Nat->Bool}(h:RL Q r L){t0:Nat}(Vz:t0<r.sp.length){s':Ax}{b:Bool}(hs:r'.sp=r.sp.set t0 s')(hb:b=decide (0<=s'.tr))(hlen:r.tr.length<=r'.tr.length)(aM:s'.tr<(r'.tr.length:Nat))
 (he:∀k,k<r'.tr.length->(r'.tr.getD k ke).en=0->s'.tr=(k:Nat)\/(k<r.tr.length/\(r.tr.getD k ke).en=0/\(r.sp.getD t0 dp).tr≠(k:Nat))):RL Q r' (λt=>if t=t0 then b else L t):=by
 have hn:r'.sp.length=r.sp.length:=by rw[hs,bN]
 refine⟨hn.trans h.n,λt ht=>?_,λt ht=>?_,λk hk fR=>?_⟩
 ·rw[hn] at ht
  by_cases e:t=t0
  ·subst e;show(if t=t then b else L t)=_;rw[if_pos rfl,hs,oV ht];exact hb
  ·show(if t=t0 then b else L t)=_;rw[if_neg e,hs,wK e];exact h.l t ht
 ·rw[hn] at ht
  by_cases e:t=t0
  ·subst e;rw[hs,oV ht];exact aM
  ·rw[hs,wK e];have:=h.b t ht;omega
 ·rcases he k hk fR with e|⟨e1,e2,e3⟩
  ·exact⟨t0,by rw[hn];exact Vz,by rw[hs,oV Vz];exact e⟩
  ·obtain⟨t,h1,h2⟩:=h.e k e1 e2;have:t≠t0:=λe=>e3 (e ▸ h2);exact⟨t,by rw[hn];exact h1,by rw[hs,wK this];exact h2⟩
theorem LP{Q:Pg}{L:Nat->Bool}{e:En}{t0:Nat}(h:e.t=(t0:Int)):Iy Q L e=λt=>if t=t0 then (if e.k=1 then decide (e.e=0) else if e.k=2 then !(last Q e) else false) else L t:=by
 funext t;unfold Iy
 by_cases e1:t=t0
 ·rw[if_pos e1,if_pos (by omega)]
 ·rw[if_neg e1,if_neg (by omega)]
theorem RL.take{Q:Pg}{r r':Rd}{L:Nat->Bool}{i:Nat}{e:En}(h:RL Q r L)(ht:r.take Q i e=some r'):RL Q r' (Iy Q L e):=by
 unfold Rd.take at ht
 by_cases h1:e.t = -1
 ·rw[if_pos h1] at ht;have hL:Iy Q L e=L:=by funext t;unfold Iy;rw[if_neg (by omega)]
  rw[hL]
  by_cases h2:e.k=5
  ·rw[if_pos h2] at ht;injection ht with ht
   subst ht;exact⟨h.n,h.l,h.b,h.e⟩
  ·rw[if_neg h2] at ht
   by_cases h3:e.k=4
   ·rw[if_pos h3] at ht;injection ht with ht
    subst ht;exact h
   ·rw[if_neg h3] at ht;cases ht
 rw[if_neg h1] at ht
 by_cases h2:e.t<0\/(Q.length:Int)<=e.t
 ·rw[if_pos h2] at ht;cases ht
 rw[if_neg h2] at ht;obtain⟨t0,Vz⟩:∃t0:Nat,e.t=t0:=⟨e.t.toNat,by omega⟩;have Ij:t0<r.sp.length:=by rw[h.n];omega
 have hto:e.t.toNat=t0:=by omega
 have gU:r.spot e=r.sp.getD t0 dp:=by unfold Rd.spot;rw[hto]
 by_cases h3:e.b<0\/((Q.getD e.t.toNat []).length:Int)<=e.b\/e.b≠(r.spot e).block
 ·rw[if_pos h3] at ht;cases ht
 rw[if_neg h3] at ht;rw[LP Vz]
 by_cases k1:e.k=1
 ·rw[if_pos k1] at ht;rw[if_pos k1]
  by_cases hl:0<=(r.spot e).tr
  ·rw[if_pos hl] at ht;cases ht
  ·rw[if_neg hl] at ht;injection ht with ht
   rw[gU] at hl;unfold Rd.begin at ht
   by_cases h0:e.e=0
   ·rw[if_neg (by simpa using h0),gU,hto] at ht;subst ht;refine h.fD Ij (s':=⟨(r.sp.getD t0 dp).block,(r.tr.length:Nat)⟩) rfl (by rw[decide_eq_true h0];exact(decide_eq_true (by show(0:Int)<=(r.tr.length:Nat);omega)).symm) (by simp) (by show((r.tr.length:Nat):Int)<((r.tr++[_]).length:Nat);rw[b_];simp;omega) (λk hk fR=>?_)
    by_cases e1:k<r.tr.length
    ·right;have fR:((r.tr++[_]).getD k ke).en=0:=fR;rw[gdL e1] at fR;exact⟨e1,fR,by omega⟩
    ·left;have hk:k<(r.tr++[_]).length:=hk;rw[b_] at hk;have:k=r.tr.length:=by simp at hk;omega
     rw[this]
   ·rw[if_pos (by simpa using h0),gU,hto] at ht;subst ht;refine h.fD Ij (s':=⟨_,(r.sp.getD t0 dp).tr⟩) rfl (by rw[decide_eq_false h0];exact(decide_eq_false (by show ¬0<=(r.sp.getD t0 dp).tr;exact hl)).symm) (aD _) (h.b t0 Ij) (λk hk fR=>.inr ⟨hk,fR,by omega⟩)
 rw[if_neg k1] at ht;rw[if_neg k1]
 by_cases k2:e.k=2
 ·rw[if_pos k2] at ht;rw[if_pos k2]
  by_cases hl:0<=(r.spot e).tr
  ·rw[if_pos hl] at ht;unfold Rd.jn at ht;split at ht
   ·cases ht
   ·injection ht with ht
    rw[gU] at hl;obtain⟨j,hj⟩:∃j:Nat,(r.sp.getD t0 dp).tr=j:=⟨(r.sp.getD t0 dp).tr.toNat,by omega⟩;have wQ:j<r.tr.length:=by have:=h.b t0 Ij;omega
    have qh:(r.spot e).tr.toNat=j:=by rw[gU,hj];rfl
    cases HX:last Q e with
    | true=>
      rw[HX,qh,gU,hto] at ht;subst ht;refine h.fD Ij (s':=⟨_,-1⟩) rfl rfl (by simp) (by show(-1:Int)<_;omega) (λk hk fR=>?_);have ki:k<r.tr.length:=by simpa using hk
      have fR:((r.tr.set j _).getD k ke).en=0:=fR
      by_cases e1:k=j
      ·subst e1;rw[oV ki] at fR;exact absurd fR (by show ¬((2:Int)=0);decide)
      ·rw[wK e1] at fR;exact .inr ⟨ki,fR,by rw[hj];omega⟩
    | false=>
      rw[HX,qh] at ht;subst ht
      have hse:r.sp.set t0 (r.sp.getD t0 dp)=r.sp:=by
       apply List.ext_getElem?;intro q
       by_cases e1:q=t0
       ·subst e1;rw[List.getElem?_set_self Ij,aS,lQ Ij];rfl
       ·rw[List.getElem?_set_ne (by omega)]
      refine h.fD Ij (s':=r.sp.getD t0 dp) (by rw[hse];rfl) (by rw[decide_eq_true hl];rfl) (by simp) (by rw[hj];show(j:Int)<((r.tr.set j _).length:Nat);rw[bN];omega) (λk hk fR=>?_);have ki:k<r.tr.length:=by simpa using hk
      have fR:((r.tr.set j _).getD k ke).en=0:=fR
      by_cases e1:k=j
      ·left;rw[hj,e1]
      ·rw[wK e1] at fR;exact .inr ⟨ki,fR,by rw[hj];omega⟩
  ·rw[if_neg hl] at ht;cases ht
 rw[if_neg k2] at ht;rw[if_neg k2]
 by_cases k3:e.k=3
 ·rw[if_pos k3] at ht
  by_cases hl:0<=(r.spot e).tr
  ·rw[if_pos hl] at ht;unfold Rd.gC at ht;split at ht
   ·cases ht
   ·injection ht with ht
    rw[gU] at hl;obtain⟨j,hj⟩:∃j:Nat,(r.sp.getD t0 dp).tr=j:=⟨(r.sp.getD t0 dp).tr.toNat,by omega⟩;have qh:(r.spot e).tr.toNat=j:=by rw[gU,hj];rfl
    rw[qh,gU,hto] at ht;subst ht;refine h.fD Ij (s':=⟨_,-1⟩) rfl rfl (by simp) (by show(-1:Int)<_;omega) (λk hk fR=>?_);have ki:k<r.tr.length:=by simpa using hk
    have fR:((r.tr.set j _).getD k ke).en=0:=fR
    by_cases e1:k=j
    ·subst e1;rw[oV ki] at fR
     by_cases e0:e.e≠0
     ·rw[if_pos e0] at fR;exact absurd fR (by show ¬((2:Int)=0);decide)
     ·rw[if_neg e0] at fR;exact absurd fR (by show ¬((1:Int)=0);decide)
    ·rw[wK e1] at fR;exact .inr ⟨ki,fR,by rw[hj];omega⟩
  ·rw[if_neg hl] at ht;cases ht
 ·rw[if_neg k3] at ht;cases ht
theorem RL.run{Q:Pg} : ∀ (H:List En) (i:Nat) (r r':Rd) (L:Nat->Bool),RL Q r L->Rd.run Q H i r=some r'->RL Q r' (H.foldl (Iy Q) L)
 | [],i,r,r',L,h,e=>by injection e with e;subst e;exact h
 | x::H,i,r,r',L,h,e=>by
   unfold Rd.run at e
   cases hx:r.take Q i x with
   | none=>rw[hx] at e;cases e
   | some r1=>
     rw[hx] at e;exact RL.run H (i+1) r1 r' (Iy Q L x) (h.take hx) e
theorem Fy{Q:Pg}{H:List En}{l:List Tr}(h:tries Q H=some l)(hl:∀t,t<Q.length->Qg Q H t=false):∀x∈l,x.en≠0:=by
 unfold tries at h
 cases hr:Rd.run Q H 0 (Rd.start Q) with
 | none=>rw[hr] at h;cases h
 | some r=>
   rw[hr] at h;injection h with h
   subst h;have R:=RL.run H 0 _ r _ (RL.start Q) hr;intro x hx e;obtain⟨k,hk,rfl⟩:=List.mem_iff_getElem.1 hx;have e1:r.tr[k]=r.tr.getD k ke:=by simp[aS,hk]
   rw[e1] at e;obtain⟨t,ht,h2⟩:=R.e k hk e;have h3:=R.l t ht;have h4:=hl t (by rw[<-R.n];exact ht);rw[show H.foldl (Iy Q) (λ_=>false)=Qg Q H from rfl,h4,h2] at h3;exact absurd h3 (by simp)
theorem O5(x:bP)(e:Int):(x.fQ e).live=(if e=141\/e=140\/e=100\/e=130 then false else x.live)/\(x.fQ e).b=(if e=100\/e=130 then x.b+1 else x.b)/\(x.fQ e).p=(if e=141\/e=140\/e=100\/e=130 then 0 else x.p+1):=by
 unfold bP.fQ bP.back
 by_cases h0:e=0
 ·subst h0;simp
 ·rw[if_neg h0]
  by_cases h1:e=141\/e=140
  ·rw[if_pos h1];have h2:¬(e=100\/e=130):=by omega
   have h3:e=141\/e=140\/e=100\/e=130:=by omega
   rw[if_pos h3,if_neg h2,if_pos h3];exact⟨rfl,rfl,rfl⟩
  ·rw[if_neg h1]
   by_cases h2:e=100\/e=130
   ·have h3:e=141\/e=140\/e=100\/e=130:=by omega
    rw[if_pos h2,if_pos h3,if_pos h2,if_pos h3];exact⟨rfl,rfl,rfl⟩
   ·have h3:¬(e=141\/e=140\/e=100\/e=130):=by omega
    rw[if_neg h2,if_neg h3,if_neg h2,if_neg h3];exact⟨rfl,rfl,rfl⟩
theorem FU(e:Int):D3 e=true↔Fatal e:=by unfold D3 Fatal;simp;omega
def tP(S:aE)(t:Nat):Prop:=(∀u,u≠t->(S.tx u).live=false)/\((S.tx t).live=true->(S.now:Int)<=(S.tx t).start)
theorem tP.lone{S:aE}{t:Nat}(h:tP S t)(hl:(S.tx t).live=true):Lone S t:=⟨h.1,h.2 hl⟩
def rk(n:Nat)(x:bP):Nat:=if (n:Int)<=x.b then 0 else (14*((n:Int)-x.b)-(if x.live then x.p+1 else 0)).toNat
structure SpL(Q:Pg)(S:aE)(t:Nat)(x x':bP)(k e:Int)(S':aE):Prop where
 o:∀u,u≠t->(S'.tx u).live=(S.tx u).live
 s:(S'.tx t).live=x'.live
 n:∀v,k≠0->x'.live=(if k=1 then decide (e=0) else if k=2 then !(last Q ⟨t,x.b,x.p,k,e,v⟩) else false)
 z:k=0->x'=x/\S'=S/\e=0
 p:x'.live=true->x'.p<=((dh Q t x'.b).length:Nat)
 c:x.live=true->x'.live=false\/(x'.p=x.p+1/\x'.b=x.b)
 a:tP S t->e≠141/\tP S' t/\(rk (Q.getD t []).length x'<rk (Q.getD t []).length x\/(rk (Q.getD t []).length x=0/\rk (Q.getD t []).length x'=0))
theorem uo(Q:Pg)(t:Nat)(b:Int):dh Q (t:Int) b=(Q.getD t []).getD b.toNat []:=rfl
theorem CW{n:Nat}{x x':bP}(hb:x.b<n)(hx:x.live=true->0<=x.p/\x.p<=6)(h:(n:Int)<=x'.b\/(x'.b=x.b+1/\x'.live=false)\/(x'.b=x.b/\x'.live=true/\0<=x'.p/\((x.live=true/\x'.p=x.p+1)\/x.live=false))):rk n x'<rk n x:=by
 have du:(x.live=true/\0<=x.p/\x.p<=6)\/x.live=false:=by
  cases hl:x.live with
  | true=>exact .inl ⟨rfl,hx hl⟩
  | false=>exact .inr rfl
 have abV:0<rk n x:=by
  unfold rk;rw[if_neg (by omega)];rcases du with ⟨h1,h2,h3⟩|h1
  ·rw[if_pos h1];omega
  ·rw[if_neg (by rw[h1];decide)];omega
 rcases h with h|⟨h1,h2⟩|⟨h1,h2,h3,h4⟩
 ·rw[show rk n x'=0 from by unfold rk;rw[if_pos h]];exact abV
 ·unfold rk;rw[if_neg (show ¬(n:Int)<=x.b by omega),h2]
  by_cases e:(n:Int)<=x'.b
  ·rw[if_pos e];rcases du with ⟨g1,g2,g3⟩|g1
   ·rw[if_pos g1];omega
   ·rw[if_neg (by rw[g1];decide)];omega
  ·rw[if_neg e,if_neg (by decide)];rcases du with ⟨g1,g2,g3⟩|g1
   ·rw[if_pos g1];omega
   ·rw[if_neg (by rw[g1];decide)];omega
 ·unfold rk;rw[if_neg (show ¬(n:Int)<=x.b by omega),if_neg (show ¬(n:Int)<=x'.b by omega),if_pos h2];rcases h4 with ⟨g1,g2⟩|g1
  ·obtain⟨g3,g4⟩:=hx g1;rw[if_pos g1];omega
  ·rw[if_neg (by rw[g1];decide)];omega
theorem Rs.law{Q:Pg}(hQ:tX Q){S S':aE}{t:Nat}(ht:t<Q.length)(hn:S.aW.length=Q.length){x x':bP}{k e:Int}(h:Rs S t (Q.getD t []) x x' k e S')(hx:ko (Q.getD t []).length x)(hl:x.live=(S.tx t).live)(hp:x.live=true->x.p<=((dh Q t x.b).length:Nat)):SpL Q S t x x' k e S':=by
 have yd:t<S.aW.length:=by omega
 have b6:∀b:Nat,b<(Q.getD t []).length->((Q.getD t []).getD b []).length<=6:=λb hb=>(hQ.d t ht b hb).2
 have Z6:x.b<(Q.getD t []).length->x.live=true->0<=x.p/\x.p<=6:=λhb hl=>by
  have h1:=hp hl;rw[uo] at h1;have h2:=b6 x.b.toNat (by have:=hx.b.1;omega);exact⟨hx.p.1,by omega⟩
 rcases h with ⟨rfl,rfl,rfl,rfl,hd⟩|⟨rfl,il,hb,e0,e1,hB⟩|⟨rfl,il,hb,Sh,e0,e1,hC⟩|⟨rfl,il,hb,d,hd,hD,hX⟩
 ·refine⟨λ_ _=>rfl,hl.symm,λ_ h=>absurd rfl h,λ_=>⟨rfl,rfl,rfl⟩,hp,λkT=>?_,λha=>⟨by decide,ha,.inr ?_⟩⟩
  ·have:=hx.l kT;omega
  ·have:rk (Q.getD t []).length x'=0:=by unfold rk;rw[if_pos hd]
   exact⟨this,this⟩
 ·have cM:(S.tx t).live=false:=by rw[<-hl];exact il
  rcases hB with ⟨Pm,Y2,h3⟩|⟨acB,Y2,h3⟩|⟨h0,h3⟩
  ·have:=h3 t rfl yd;rw[cM] at this;cases this
  ·subst Y2;have he:e≠0:=by omega
   have yg:=e1 he;subst yg;refine⟨λ_ _=>rfl,?_,λv _=>?_,λh=>by omega,λh=>?_,λh=>?_,λha=>⟨by omega,ha,.inl (CW hb (Z6 hb) (.inl (Int.le_refl _)))⟩⟩
   ·show(S'.tx t).live=x.live;rw[cM,il]
   ·show x.live=_;rw[if_pos rfl,il,decide_eq_false he]
   ·have h:x.live=true:=h;rw[il] at h;cases h
   ·rw[il] at h;cases h
  ·have yg:=e0 h0;subst yg;obtain⟨r1,r2,r3,r4⟩:=h3 t rfl;refine⟨λu hu=>(r1 u hu).1,r2,λv _=>?_,λh=>by omega,λ_=>?_,λh=>?_,λha=>⟨by omega,⟨λu hu=>((r1 u hu).1).trans (ha.1 u hu),λ_=>by rw[r3,r4];exact Int.le_refl _⟩,.inl (CW hb (Z6 hb) (.inr (.inr ⟨rfl,rfl,Int.le_refl 0,.inr il⟩)))⟩⟩
   ·show true=_;rw[if_pos rfl,decide_eq_true h0]
   ·show(0:Int)<=_;omega
   ·rw[il] at h;cases h
 ·have cM:(S.tx t).live=true:=by rw[<-hl];exact il
  rcases hC with ⟨Pm,Y2,h3⟩|⟨h0,h3⟩|⟨p_,h3⟩
  ·have:=h3 t rfl yd;rw[cM] at this;cases this
  ·have yg:=e0 h0;subst yg;obtain⟨r1,r2,r3⟩:=h3 t rfl;refine⟨λu hu=>(r1 u hu).1,r2,λv _=>rfl,λh=>by omega,λh=>(by cases h),λ_=>.inl rfl,λha=>⟨by omega,⟨λu hu=>((r1 u hu).1).trans (ha.1 u hu),λh=>(by rw[r2] at h;cases h)⟩,.inl (CW hb (Z6 hb) (.inr (.inl ⟨rfl,rfl⟩)))⟩⟩
  ·have he:e≠0:=by omega
   have yg:=e1 he;subst yg;obtain⟨r0,r1,r2,r3⟩:=h3 t rfl;exact⟨λu hu=>(r1 u hu).1,r2,λv _=>rfl,λh=>by omega,λh=>(by cases h),λ_=>.inl rfl,λha=>absurd (ha.lone cM) r0⟩
 ·have cM:(S.tx t).live=true:=by rw[<-hl];exact il
  obtain⟨xl,-,-,q1,q2,q3,q4,hX⟩:=hX;have Zs:((dh Q t x.b).getD x.p.toNat dD)=d:=by rw[uo,aS,hd];rfl
  have kI:x.p<((dh Q t x.b).length:Nat):=by
   have h1:=(List.getElem?_eq_some_iff.1 hd).1;rw[uo];have:=hx.p.1;omega
  have jU:∀v,last Q ⟨t,x.b,x.p,2,e,v⟩=(D3 e || (e==0 && d.k==14)):=λv=>by
   unfold last;show(D3 e || (e==0 && ((dh Q (t:Int) x.b).getD x.p.toNat dD).k==14))=_;rw[Zs]
  obtain⟨y1,y2,y3⟩:=O5 xl e;have xV:(dh Q t x.b).length<=6:=by rw[uo];exact b6 _ (by have:=hx.b.1;omega)
  have fin:∀ (hS:ll t S S') (yg:x'.live=false) (HX:∀v,last Q ⟨t,x.b,x.p,2,e,v⟩=true) (p_:tP S t->e≠141) (F0:tP S t->x'.b=x.b+1),SpL Q S t x x' 2 e S':=λhS yg HX p_ F0=>
   ⟨λu hu=>(hS.1 u hu).1,by rw[hS.2.1,yg],λv _=>by rw[yg,if_neg (by decide),if_pos rfl,HX v];rfl,λh=>by omega,λh=>(by rw[yg] at h;cases h),λ_=>.inl yg,λha=>⟨p_ ha,⟨λu hu=>((hS.1 u hu).1).trans (ha.1 u hu),λh=>(by rw[hS.2.1] at h;cases h)⟩,.inl (CW hb (Z6 hb) (.inr (.inl ⟨F0 ha,yg⟩)))⟩⟩
  rcases hD with ⟨KU,hD⟩|⟨KU,hD⟩
  ·have hX:x'=xl.fQ e:=by
    rcases hX with ⟨h,_⟩|⟨h,_⟩
    ·exact h
    ·exact absurd h KU
   subst hX;rcases hD with ⟨Pm,Y2,h3⟩|⟨Pm,hnf,hR⟩|⟨hf,p_,hE⟩
   ·have:=h3 t rfl yd;rw[cM] at this;cases this
   ·have hn4:¬(e=141\/e=140\/e=100\/e=130):=by unfold Fatal at hnf;omega
    have lU:¬(e=100\/e=130):=by omega
    rw[if_neg hn4] at y1 y3;rw[if_neg lU] at y2
    have HX:∀v,last Q ⟨t,x.b,x.p,2,e,v⟩=false:=λv=>by
     rw[jU v]
     have h1:D3 e=false:=by
      cases hh:D3 e with
      | false=>rfl
      | true=>exact absurd ((FU e).1 hh) hnf
     rw[h1,show(d.k==14)=false by simpa using KU,Bool.and_false];rfl
    have uH:(xl.fQ e).live=true:=by rw[y1,q4];exact il
    refine⟨λu hu=>hR.lv u,by rw[hR.lv,cM,uH],λv _=>by rw[uH,if_neg (by decide),if_pos rfl,HX v];rfl,λh=>by omega,λ_=>?_,λ_=>.inr ⟨by rw[y3,q2],by rw[y2,q1]⟩,λha=>⟨by omega,⟨λu hu=>(hR.lv u).trans (ha.1 u hu),λh=>by rw[hR.nw,hR.st];exact ha.2 cM⟩,.inl (CW hb (Z6 hb) (.inr (.inr ⟨by rw[y2,q1],uH,by rw[y3,q2];have:=hx.p.1;omega,.inl ⟨il,by rw[y3,q2]⟩⟩)))⟩⟩;rw[y3,y2,q2,q1];omega
   ·have h4:e=141\/e=140\/e=100\/e=130:=by unfold Fatal at hf;omega
    rw[if_pos h4] at y1;refine fin (hE t rfl) y1 (λv=>by rw[jU v,(FU e).2 hf];rfl) (λha h=>p_ h t rfl (ha.lone cM)) (λha=>?_);have h1:e≠141:=λh=>p_ h t rfl (ha.lone cM);rw[y2,if_pos (by unfold Fatal at hf;omega),q1]
  ·rcases hD with ⟨Pm,Y2,h3⟩|⟨h0,hE⟩
   ·have:=h3 t rfl yd;rw[cM] at this;cases this
   ·have hX:x' = { x.back with b:=x.b+1 }:=by
     rcases hX with ⟨_,h⟩|⟨_,_,h⟩
     ·exact absurd h0 (h KU)
     ·exact h
    subst hX;exact fin (hE t rfl) rfl (λv=>by rw[jU v,h0,KU];rfl) (λ_ h=>by omega) (λ_=>rfl)
structure MI(Q:Pg)(S:aE)(X:List bP)(H:List En):Prop where
 n:S.aW.length=Q.length
 x:X.length=Q.length
 lv:∀t,t<Q.length->(X.getD t d0).live=(S.tx t).live
 h:∀t,t<Q.length->(X.getD t d0).live=Qg Q H t
 p:∀t,t<Q.length->(X.getD t d0).live=true->(X.getD t d0).p<=((dh Q t (X.getD t d0).b).length:Nat)
theorem MI.start{Q:Pg}{S:aE}(hn:yT S)(hl:S.aW.length=Q.length):MI Q S (List.replicate Q.length d6) []:=by
 have e:∀t,t<Q.length->(List.replicate Q.length d6).getD t d0=d6:=λt ht=>by
  rw[aS,lQ (by simpa using ht)];simp
 exact⟨hl,by simp,λt ht=>by rw[e t ht,hn.lv t];rfl,λt ht=>by rw[e t ht];rfl,λt ht h=>by rw[e t ht] at h;cases h⟩
theorem MI.step{Q:Pg}{S S':aE}{X:List bP}{H:List En}(h:MI Q S X H){t:Nat}(ht:t<Q.length){x':bP}{k e v:Int}(l:SpL Q S t (X.getD t d0) x' k e S')(hf:S'.aW.length=S.aW.length):MI Q S' (X.set t x') (if k=0 then H else H++[⟨t,(X.getD t d0).b,(X.getD t d0).p,k,e,v⟩]):=by
 have Cm:t<X.length:=by rw[h.x];exact ht
 refine⟨hf.trans h.n,by rw[bN];exact h.x,λu hu=>?_,λu hu=>?_,λu hu hl=>?_⟩
 ·by_cases e1:u=t
  ·subst e1;rw[oV Cm,l.s]
  ·rw[wK e1,l.o u e1];exact h.lv u hu
 ·by_cases k0:k=0
  ·rw[if_pos k0];obtain⟨z1,z2,z3⟩:=l.z k0;rw[z1,Da Cm];exact h.h u hu
  ·rw[if_neg k0,LR,LP (t0:=t) rfl]
   by_cases e1:u=t
   ·subst e1;rw[oV Cm];show x'.live=if u=u then _ else _
    rw[if_pos rfl];exact l.n v k0
   ·rw[wK e1];show _=if u=t then _ else _
    rw[if_neg e1];exact h.h u hu
 ·by_cases e1:u=t
  ·subst e1;rw[oV Cm] at hl ⊢;exact l.p hl
  ·rw[wK e1] at hl ⊢;exact h.p u hu hl
theorem MI.J9{Q:Pg}{S S':aE}{X X':List bP}{H H':List En}(h:MI Q S X H)(d:FH S X H S' X' H'):MI Q S' X' H':=by
 obtain⟨r,hl,⟨x1,x2⟩,hs,C,L,h1,h2,m,rfl,hm,Xb⟩:=d;have g:∀t,t<Q.length->(X'.getD t d0).b=(X.getD t d0).b/\(X'.getD t d0).p=(X.getD t d0).p/\(X'.getD t d0).live=(X.getD t d0).live:=λt ht=>x2 t (by rw[h.x];exact ht);refine⟨hl.trans h.n,x1.trans h.x,λt ht=>?_,λt ht=>?_,λt ht hv=>?_⟩
 ·rw[(g t ht).2.2,r.lv];exact h.lv t ht
 ·rw[(g t ht).2.2,LQ Q H m hm];exact h.h t ht
 ·rw[(g t ht).2.2] at hv;rw[(g t ht).1,(g t ht).2.1];exact h.p t ht hv
structure CI(S:aE)(H:List En)(u D C L c:Nat):Prop where
 kh:H.length<=u+C+L
 kc:C+S.bK.length+S.D.A.fin.length<=S.D.A.ser
 kl:L+S.lost.length<=D*u
 kd:2*D+(if S.D.ph=2 then 1 else 0)<=c
theorem CI.start{S:aE}(h:yT S):CI S [] 0 0 0 0 0:=by
 refine⟨aD 0,?_,?_,?_⟩
 ·rw[h.ca,h.fi,h.se];exact aD 0
 ·rw[h.lo];exact aD 0
 ·rw[h.ph];exact aD 0
theorem CI.step{S S':aE}{H H':List En}{u D C L c:Nat}(h:CI S H u D C L c)(f:Fix S S')(hh:H'.length<=H.length+1):CI S' H' (u+1) D C L c:=by
 have h1:=h.kh;have h2:=h.kc;have h3:=h.kl;have h4:=f.fi;refine⟨by omega,by omega,?_,by rw[f.ph];exact h.kd⟩;rw[f.lo];exact gw h3 (Nat.mul_le_mul_left D (Nat.le_succ u))
theorem CI.J9{S S':aE}{X X':List bP}{H H':List En}{u D C L c:Nat}(h:CI S H u D C L c)(hs:S.D.A.ser<=u)(d:FH S X H S' X' H'):∃D' C' L',CI S' H' u D' C' L' (c+1):=by
 obtain⟨r,hl,hx,hs',C',L',h1,h2,m,rfl,hm,Xb⟩:=d;have g1:=h.kh;have g2:=h.kc;have g3:=h.kl;have g4:=h.kd;rcases h2 with h2|⟨p1,p2,h2⟩
 ·refine⟨D,C+C',L+L',by rw[b_];omega,by omega,by omega,?_⟩;split <;> omega
 ·refine⟨D+1,C+C',L+L',by rw[b_];omega,by omega,?_,?_⟩
  ·rw[Nat.succ_mul];omega
  ·rw[if_pos p1] at g4;rw[if_neg (by rw[p2];decide)];omega
theorem mJ(u D:Nat)(h:u+2*D<=100):2*u+D*u<=1400:=by
 have h1:∀D,D<=50->(100-2*D)*(D+2)<=1400:=by decide
 have h2:=h1 D (by omega);have h3:u*(D+2)<=(100-2*D)*(D+2):=Nat.mul_le_mul_right _ (by omega);have h4:u*(D+2)=D*u+2*u:=by rw[Nat.mul_add,Nat.mul_comm u D,Nat.mul_comm u 2]
 omega
theorem CI.mJ{S:aE}{H:List En}{u D C L c:Nat}(h:CI S H u D C L c)(hs:S.D.A.ser<=u)(hc:u+c<=100):H.length<=1400:=by
 have h1:=h.kh;have h2:=h.kc;have h3:=h.kl;have h4:=h.kd;have h5:=_root_.Go.Proofs.YtgijglafnlbdbaaGreat.mJ u D (by omega);omega
def Rj(w1:ag)(mp:Nat)(Q:Pg)(tv hv:aA)(i:Nat)(w':ag):Prop:=
 ∃τ S ev X u q D C L c,Mc w' τ u q mp S Q tv hv ev X/\(∀b,b<w1.heap.size->τ b=1000)/\Calm w1 w'/\MI Q S X ev.H/\CI S ev.H u D C L c/\u+c<=i/\q<=100*c
def tY(w1:ag)(mp:Nat)(Q:Pg)(tv hv:aA)(m:Nat)(P:aE->List bP->Prop)(w':ag):Prop:=
 ∃τ S ev X,Mc w' τ (100+m) 10000 mp S Q tv hv ev X/\(∀b,b<w1.heap.size->τ b=1000)/\Calm w1 w'/\MI Q S X ev.H/\ev.H.length<=1400+m/\P S X
theorem cP.at{w1 w w':ag}{τ aL:Nat->Nat}(h:cP w τ w' aL)(ht:∀b,b<w1.heap.size->τ b=1000)(c:Calm w1 w):(∀b,b<w1.heap.size->aL b=1000)/\Calm w1 w':=
 ⟨λb hb=>by have h1:=ht b hb;exact(h.tg b (Nat.lt_of_lt_of_le hb c.size) (by omega)).trans h1,c.join h.fr (λj hj e=>by have h1:=ht j hj;have e:τ j<603:=e;omega)⟩
section
variable {w:ag}{τ:Nat->Nat}{s q mp:Nat}{S:aE}{Q:List (List (List Dd))}{tv hv:aA}{ev:xy}{X:List bP}
theorem TM(l:List En):∀u∈l.flatMap En.c,u.oneCell'=true:=by
 intro u hu;obtain⟨x,_,hx⟩:=List.mem_flatMap.1 hu;simp[En.c,mB] at hx;rcases hx with rfl|rfl|rfl|rfl|rfl|rfl <;> rfl
def Tj(w:ag)(τ:Nat->Nat)(s q mp:Nat)(S:aE)(Q:List (List (List Dd)))(tv hv:aA)(ev:xy)(X:List bP)(e:Ending)(w':ag):Prop:=
 ∃u aL,e=.returned u/\Mc w' aL s q mp S Q tv hv ev X/\w'.ownsRow 0 76 6 u ev.H.length (ev.H.flatMap En.c)/\(∀b,ay u b->w.heap.size<=b)/\(∀b,b<w.heap.size->aL b=τ b)/\cP w τ w' aL
theorem Cx(h:Mc w τ s q mp S Q tv hv ev X):aJ prog 12 #[pV mp] w (Tj w τ s q mp S Q tv hv ev X):=by
 obtain⟨he,hn⟩:=h.r.e;have hne:¬ay ev mp:=λe=>by have h1:=h.r.t2 mp e;have h2:=h.r.t0;omega
 have oa:=Tp h.r.c he hne hn (TM _);go_in;go_wp2_with fail
 refine oa.mono ?_;rintro e w' ⟨u,rfl,hu,VD,hc,Zv,f⟩;obtain⟨aL,m1,m2,m3⟩:=h.fD (ev':=ev) (f.mono λ_ _ e=>.inl e) hc Zv hn (λb hb=>.inl hb);have hP:Hid (Tj w τ s q mp S Q tv hv ev X (.returned u) w'):=⟨u,aL,rfl,m1,hu,VD,m2,m3⟩;clear oa hu VD hc Zv f m1 m2 m3;go_wp2;go_ret;exact hP.out
structure JF(mp tg o B5:Nat)(tv u:aA)(x:bP)(w:ag):Prop where
 c1:w.cell? ⟨mp,1,none⟩=some tv
 ct:w.cell? ⟨tg,o,none⟩=some u
 o5:af w B5 (aX x)
theorem JF.calm{mp tg o B5:Nat}{tv u:aA}{x:bP}{w w':ag}(h:JF mp tg o B5 tv u x w)(c:Calm w w'):JF mp tg o B5 tv u x w':=⟨c.cellAt h.c1 id,c.cellAt h.ct id,h.o5.calm c⟩
theorem LV(h:Mc w τ s q mp S Q tv hv ev X)(hd:∀t,t<X.length->((Q.getD t []).length:Int)<=(X.getD t d0).b):aJ prog 15 #[pV mp] w λe w'=>e=.returned (.bool true)/\Calm w w':=by
 have y2:=(h.r.c 2 _ rfl).1;obtain⟨N,hN⟩:=ao X.length;have AB:N<=4:=by rw[<-hN,h.r.n];exact h.r.pk.n.2
 obtain⟨ha,hc,nZ⟩:=aF h.r.h;rw[hN] at nZ;rw[nZ] at y2;obtain⟨ta,tc,ry,xY⟩:=h.r.p;have hQN:Q.length=N:=by rw[<-h.r.n,hN]
 have gG:Hid (∀i,i<N->∃g tg Am bu bc,ha=some ⟨g,0,none⟩/\ta=some ⟨tg,Am,none⟩/\((Q.getD i []).length<=100)/\(∀W,Calm w W->∀j u,(aX (X.getD i d0))[j]?=some u->W.cell? ⟨g,i*15+j,none⟩=some u)/\(∀W,Calm w W->W.cell? ⟨mp,1,none⟩=some (.slice ta N tc)/\W.cell? ⟨tg,Am+i,none⟩=some (.slice bu (Q.getD i []).length bc))/\((Q.getD i []).length:Int)<=(X.getD i d0).b):=λi hi=>by
  obtain⟨g,c,e1,e2⟩:=tK h.r.h (t:=i) (by omega);rw[nZ] at e1;injection e1 with e1 _ _
  obtain⟨tg,Am,u,e3,tg',ku,bu,bc,hu,_⟩:=xY i (by omega);refine⟨g,tg,Am,bu,bc,e1,e3,by have:=h.r.pk.b i (by omega);omega,λW c j u hu=>c.cellAt (e2 j u hu).1 id,λW c=>⟨?_,?_⟩,hd i (by omega)⟩
  ·have:=c.cellAt (h.r.c 1 _ rfl).1 id;rw[ry,hQN] at this;exact this
  ·rw[<-hu];exact c.cellAt ku id
 have kg:Hid (Calm w w):=ah;clear h hd hN nZ ry xY hQN;go_in;go_wp2_with fail
 go_loopw [10] (λz wr=>∃i:Nat,i<=N/\z=vI i/\Calm w wr) (λz _=>N-(intOf z).toNat)
 case atStart=>exact⟨0,by omega,rfl,kg.out⟩
 case round=>
  obtain⟨i,hi,rfl,wL⟩:=hrel;clear kg
  by_cases aM:i<N
  ·obtain⟨g,tg,Am,bu,bc,rfl,rfl,R3,mb,k_,PI⟩:=gG.out i aM;obtain⟨x,hx⟩:=ao (X.getD i d0);obtain⟨bn,N4⟩:=ao ((Q.getD i []).length);rw[hx] at mb PI;rw[N4] at k_ PI R3;have eC:∀j u,(aX x)[j]?=some u->wr.cell? ⟨g,i*15+j,none⟩=some u:=mb wr wL;have e0:=eC 0 _ rfl;have e1:=eC 1 _ rfl;have e2:=eC 2 _ rfl;have e3:=eC 3 _ rfl;have e4:=eC 4 _ rfl;have e5:=eC 5 _ rfl;have e6:=eC 6 _ rfl;have e7:=eC 7 _ rfl;have e8:=eC 8 _ rfl;have e9:=eC 9 _ rfl;have FO:=eC 10 _ rfl;have FP:=eC 11 _ rfl;have Bn:=eC 12 _ rfl;have Ds:=eC 13 _ rfl;have Hp:=eC 14 _ rfl;rw[fM] at e0;simp only[rg] at e2 e3 e4 e5 e6 e7 e8 e9 FO FP Bn Ds;have kA:Calm wr (wr.alloc (.cells #[vI x.b,vI x.p,rg x.R 0,rg x.R 1,rg x.R 2,rg x.R 3,rg x.R 4,rg x.R 5,rg x.V 0,rg x.V 1,rg x.V 2,rg x.V 3,rg x.V 4,rg x.V 5,.bool x.live] 31)):=ah.alloc _;have oA:af (wr.alloc (.cells #[vI x.b,vI x.p,rg x.R 0,rg x.R 1,rg x.R 2,rg x.R 3,rg x.R 4,rg x.R 5,rg x.V 0,rg x.V 1,rg x.V 2,rg x.V 3,rg x.V 4,rg x.V 5,.bool x.live] 31)) wr.heap.size (aX x):=af.kC wr [_,_,_,_,_,_,_,_,_,_,_,_,_,_,_] _ _ rfl;simp only[rg,aS] at kA oA;clear eC mb;replace hx:=hid hx;replace N4:=hid N4;go_upto_region 4 with fail
   generalize mK:wr.alloc (.cells #[vI x.b,vI x.p,vI ((x.R[0]?.getD 0:Nat):Int),vI ((x.R[1]?.getD 0:Nat):Int),vI ((x.R[2]?.getD 0:Nat):Int),vI ((x.R[3]?.getD 0:Nat):Int),vI ((x.R[4]?.getD 0:Nat):Int),vI ((x.R[5]?.getD 0:Nat):Int),vI ((x.V[0]?.getD 0:Nat):Int),vI ((x.V[1]?.getD 0:Nat):Int),vI ((x.V[2]?.getD 0:Nat):Int),vI ((x.V[3]?.getD 0:Nat):Int),vI ((x.V[4]?.getD 0:Nat):Int),vI ((x.V[5]?.getD 0:Nat):Int),.bool x.live] 31)=W5 at *;clear mK e0 e1 e2 e3 e4 e5 e6 e7 e8 e9 FO FP Bn Ds Hp;have Ga:=wL.trans kA;have kd:Calm W5 W5.drew:=ah.drew;have Px:JF mp tg (Am+i) wr.heap.size (.slice (some ⟨tg,Am,none⟩) N tc) (.slice bu bn bc) x W5:=⟨(k_ W5 Ga).1,(k_ W5 Ga).2,oA⟩;have od:=FN W5.drew bu bn bc R3 x;rw[decide_eq_true (.inr PI:x.b<0\/(bn:Int)<=x.b)] at od;clear k_ oA kA;replace PI:=hid PI;refine bW [(true,0),(true,1),(true,2),(true,3),(true,4),(true,5),(true,6),(true,7),(false,8),(false,9)] (JF mp tg (Am+i) wr.heap.size (.slice (some ⟨tg,Am,none⟩) N tc) (.slice bu bn bc) x) (by kernel_rfl) (by kernel_rfl) (Px.calm kd) ?_;refine au (pV mp) rfl rfl (λw' hw'=>?_) ak ?_
   ·simp[go_sem]
   refine au (pV mp) rfl rfl (λw' hw'=>?_) ak ?_
   ·simp[go_sem]
   refine au (.pointer (some ⟨mp,1,none⟩)) rfl rfl (λw' hw'=>?_) ak ?_
   ·simp[go_sem]
   refine au (.slice (some ⟨tg,Am,none⟩) N tc) rfl rfl (λw' hw'=>?_) ak ?_
   ·simp[go_sem,hw'.c1]
   refine au (vI (i:Int)) rfl rfl (λw' hw'=>?_) ak ?_
   ·simp[go_sem]
   refine au (.pointer (some ⟨tg,Am+i,none⟩)) rfl rfl (λw' hw'=>?_) ak ?_
   ·simp[go_sem,aM]
   refine au (.slice bu bn bc) rfl rfl (λw' hw'=>?_) ak ?_
   ·simp[go_sem,hw'.ct]
   refine au (bQ x) rfl rfl (λw' hw'=>?_) ak ?_
   ·have o:=hw'.o5;simp only[aX,rg] at o;obtain⟨y0,y1,y2,y3,y4,y5,y6,y7,y8,y9,j_,kY,iL,jv,iM⟩:=af.lB o;simp[go_sem,bQ,rg,y0,y1,y2,y3,y4,y5,y6,y7,y8,y9,j_,kY,iL,jv,iM]
   refine bj rfl rfl ?_;go_wp2_with fail
   refine od.mono ?_;rintro en w6 ⟨rfl,c6⟩;clear od;have hF:Hid (Calm w w6):=(Ga.trans kd).trans c6;refine⟨(Px.calm kd).calm c6,?_⟩;refine bj rfl rfl ?_;unfold Oper.wp;go_simp;refine⟨(Px.calm kd).calm c6,?_⟩;refine eW ?_;clear Px c6 kd Ga wL;go_simp;go_wp2;exact⟨⟨i+1,by omega,by simp,hF.out⟩,by simp[intOf] <;> omega⟩
  ·obtain rfl:i=N:=by omega
   have ic:decide ((i:Int)<i)=false:=decide_eq_false (by omega);replace wL:=hid wL;go_wp2;go_ret;exact⟨rfl,wL.out⟩
end
theorem V_(c n:Int)(w:ag)(hc:bX c)(hn:0<n) :
 aJ prog 30 #[vI c,vI n] w (xD w n):=by
 obtain⟨h1,h2⟩:=hc;have wU:(n==0)=false:=by simp;omega
 have Sg:=SN c n hn
 by_cases h:c<0
 ·have h0:0<=-(c+1):=by omega
  have hp:Hid (pk c n=(-(c+1)) % n):=by unfold pk;rw[if_pos h];rfl
  go_in;go_wp2;go_ret;refine⟨⟨pk c n,?_,Sg⟩,rfl⟩;show Ending.returned (vI (-(Int.tmod (c+1) n)))=_;rw[hp.out,<-Int.neg_tmod,Int.tmod_eq_emod_of_nonneg h0]
 ·have h0:0<=c:=by omega
  have hp:Hid (pk c n=c % n):=by unfold pk;rw[if_neg h];rfl
  go_in;go_wp2;go_ret;refine⟨⟨pk c n,?_,Sg⟩,rfl⟩
  first|(rw[hp.out];rfl)|(show Ending.returned (vI (Int.tmod c n))=_;rw[hp.out,Int.tmod_eq_emod_of_nonneg h0])
def Yb(w:ag)(e:Ending)(w':ag):Prop:=∃pv Q mp u tv hv w1,e=.returned (.tuple #[pv,u,pV mp])/\tX Q/\ed (λb=>b<w1.heap.size) w1 pv Q/\Calm w w1/\tY w1 mp Q tv hv 0 (λ_ _=>True) w'
theorem Rj.step{w1 w w':ag}{mp:Nat}{Q:Pg}{tv hv:aA}{i:Nat}{τ:Nat->Nat}{S:aE}{ev:xy}{X:List bP}{u q D C L c t:Nat}{e:Ending}(hQ:tX Q)(hi:i<100)(hM:Mc w τ u q mp S Q tv hv ev X)(ht:∀b,b<w1.heap.size->τ b=1000)(hc:Calm w1 w)(hI:MI Q S X ev.H)(hC:CI S ev.H u D C L c)(huc:u+c<=i)(hq:q<=100*c)(uO:t<Q.length)(hs:Tl w τ u q mp S Q tv hv X ev.H t e w'):∃k ee v,e=.returned (cS k ee v)/\Rj w1 mp Q tv hv (i+1) w':=by
 obtain⟨k,ee,v,rfl,aL,S',ev',x',h1,h2,h3⟩:=hs;have rr:=hM.st.ok.se;have hlen:=hC.mJ rr (by omega);refine⟨k,ee,v,rfl,?_⟩;obtain⟨k1,k2⟩:=h2.at ht hc;rcases h3 with ⟨h3,_⟩|⟨_,hf,gU,hH⟩
 ·omega
 ·have Cm:t<X.length:=by rw[hI.x];exact uO
  have l:=gU.law hQ uO hI.n (hM.r.ok t Cm) (hI.lv t uO) (hI.p t uO);refine⟨aL,S',ev',X.set t x',u+1,q,D,C,L,c,h1,k1,k2,?_,hC.step hf ?_,by omega,hq⟩
  ·rw[hH];exact hI.step uO l hf.len
  ·rw[hH];split
   ·omega
   ·rw[b_];exact aD _
theorem Rj.J9{w1 w w':ag}{mp:Nat}{Q:Pg}{tv hv:aA}{i:Nat}{τ:Nat->Nat}{S:aE}{ev:xy}{X:List bP}{u q D C L c:Nat}{e:Ending}(hM:Mc w τ u q mp S Q tv hv ev X)(ht:∀b,b<w1.heap.size->τ b=1000)(hc:Calm w1 w)(hI:MI Q S X ev.H)(hC:CI S ev.H u D C L c)(hi:i<100)(huc:u+c<=i)(hq:q<=100*c)(hs:XZ w τ u (q+u) mp S Q tv hv X ev.H e w'):∃b,e=.returned (.bool b)/\Rj w1 mp Q tv hv (i+1) w':=by
 obtain⟨⟨b,rfl⟩,aL,S',ev',X',h1,h2,h3⟩:=hs;obtain⟨k1,k2⟩:=h2.at ht hc;obtain⟨D',C',L',h4⟩:=hC.J9 hM.st.ok.se h3;exact⟨b,rfl,aL,S',ev',X',u,q+u,D',C',L',c+1,h1,k1,k2,hI.J9 h3,h4,by omega,by omega⟩
theorem Wl{T0:Nat->Prop}(v1:aA)(Q0:List (List (List Dd)))(v2:aA)(l:List Int)(hl:∀x∈l,bX x)(w:ag)(gA:ed T0 w v1 Q0)(ho:QOk Q0)(rV:Row w v2 (l.map (Value.int .i64))) :
 aJ prog 13 #[vI 4000,v1,v2,vI 100] w (Yb w):=by
 have xY:=CT gA ho;obtain⟨va,vc,rfl,qg⟩:=Row.loop (l:=l) rV;obtain⟨N,hN⟩:=ao l.length
 have gG:Hid (∀i,i<N->∃b off,va=some ⟨b,off,none⟩/\bX (l.getD i 0)/\∀W,Calm w W->W.cell? ⟨b,off+i,none⟩=some (vI (l.getD i 0))):=λi hi=>by
  obtain⟨b,off,h1,h2,h3⟩:=qg i (by omega);exact⟨b,off,h1,hl _ (get_mem _ (by omega)),λW c=>c.cellAt h3 id⟩
 rw[hN];clear gA ho rV qg hl hN;go_in;go_wp2_with fail
 refine xY.mono ?_;rintro e w1 ⟨pv,Q,rfl,hQ,mY,c1⟩;clear xY;obtain⟨NQ,kZ⟩:=ao Q.length;have abc:1<=NQ/\NQ<=4:=by rw[<-kZ];exact mY.n
 have hQ':Hid (ed (λb=>b<w1.heap.size) w1 pv Q):=hQ.mono (λb hb _=>hb);obtain⟨pa,pc,Z_⟩:∃a c,pv=.slice a Q.length c:=by obtain⟨a,c,e,_⟩:=hQ;exact⟨a,c,e⟩
 have Jr:=Ql hQ mY 4000 (by omega) (by omega) 60 60 500;rw[kZ] at Z_;subst Z_;replace mY:=hid mY;replace kZ:=hid kZ;clear hQ;go_wp2_with fail
 refine Jr.mono ?_;rintro e w2 ⟨mp,τ,S,tv,hv,rfl,hM,ht,c2,hns,B8⟩;clear Jr;have kg:Hid (Rj w1 mp Q tv hv 0 w2):=⟨τ,S,_,_,0,0,0,0,0,0,hM,ht,c2,MI.start hns B8,CI.start hns,aD 0,aD 0⟩;clear hM ht c2 hns B8;go_wp2_with fail
 go_loopw [14] (λz w'=>∃i:Nat,i<=N/\i<=100/\z=vI i/\Rj w1 mp Q tv hv i w') (λz _=>100-(intOf z).toNat)
 case atStart=>exact⟨0,by omega,by omega,rfl,kg.out⟩
 case round=>
  clear kg;obtain⟨i,hi,acx,rfl,τ,S,ev,X,u,q,D,C,L,c,hM,ht,hc,oW,RE,huc,hqc⟩:=hrel;have hex:(i<N/\i<100)\/(¬i<N)\/(i<N/\¬i<100):=by omega
  rcases hex with ⟨aM,Kr⟩|hex
  ·obtain⟨b,off,rfl,hxI,hcell⟩:=gG.out i aM;have y0:=hcell wr (c1.trans hc);obtain⟨x,hx⟩:=ao (l.getD i 0);rw[hx] at y0 hxI;have op:=V_ x ((NQ:Int)+2) wr hxI (by omega);have hXl:X.length=NQ:=hM.r.n.trans kZ.out;replace hM:=hid hM;replace ht:=hid ht;replace hc:=hid hc;replace oW:=hid oW;replace RE:=hid RE;clear hcell hx hxI;go_wp2_with fail
   refine op.mono ?_;rintro e w' ⟨⟨tt,rfl,tt1,tt2⟩,rfl⟩;clear op y0;obtain⟨t,rfl⟩:∃k:Nat,tt=k:=⟨tt.toNat,by omega⟩
   by_cases Xj:t<NQ
   ·have abK:decide ((t:Int)>=(NQ:Int))=false:=by simp;omega
    have os:=uY hM.out (by omega) (by omega) (t:=t) (by omega);replace hXl:=hid hXl;go_wp2_with fail
    refine os.mono ?_;rintro e w6 ZY;obtain⟨k,ee,v,rfl,hF⟩:=Rj.step mY.out (by omega) hM.out ht.out hc.out oW.out RE.out huc hqc (by rw[kZ.out];exact Xj) ZY;replace hF:=hid hF;clear os ZY hM ht hc oW RE;go_wp2;exact⟨⟨i+1,by omega,by omega,by simp,hF.out⟩,by simp[intOf] <;> omega⟩
   ·have abK:decide ((t:Int)>=(NQ:Int))=true:=by simp;omega
    have os:=Cv hM.out (by omega) (by omega);replace hXl:=hid hXl;go_wp2_with fail
    refine os.mono ?_;rintro e w6 ZY;obtain⟨bb,rfl,hF⟩:=Rj.J9 hM.out ht.out hc.out oW.out RE.out (by omega) huc hqc ZY;replace hF:=hid hF;clear os ZY hM ht hc oW RE;go_wp2;exact⟨⟨i+1,by omega,by omega,by simp,hF.out⟩,by simp[intOf] <;> omega⟩
  ·have oh:=Cx hM;have hlen:=RE.mJ hM.st.ok.se (by omega)
   have lD:Hid (∀v W,Tj wr τ u q mp S Q tv hv ev X (.returned v) W->Yb w (.returned (.tuple #[.slice pa NQ pc,v,pV mp])) W):=λv W hh=>by
    obtain⟨v',aL,e1,h1,h2,h3,h4,h5⟩:=hh;obtain⟨k1,k2⟩:=h5.at ht hc;refine⟨_,Q,mp,v,tv,hv,w1,rfl,mY.out,hQ'.out,c1,aL,S,ev,X,h1.mono (by omega) (by omega),k1,k2,oW,by omega,trivial⟩
   replace hlen:=hid hlen;clear hM ht hc oW RE;rcases hex with h1|⟨h1,h2⟩
   ·have ic:decide ((i:Int)<(N:Int))=false:=decide_eq_false (by omega);go_wp2_with fail
    refine oh.mono ?_;rintro e w3 hh;obtain⟨v,e1⟩:∃v,e=.returned v:=by obtain⟨v,_,e1,_⟩:=hh;exact⟨v,e1⟩
    subst e1;have hP:=hid (lD.out v w3 hh);clear oh hh lD;go_wp2
    go_ret3
    exact hP.out
   ·have ic:decide ((i:Int)<(N:Int))=true:=decide_eq_true (by omega);have Ep:decide ((i:Int)<100)=false:=decide_eq_false (by omega);go_wp2_with fail
    refine oh.mono ?_;rintro e w3 hh;obtain⟨v,e1⟩:∃v,e=.returned v:=by obtain⟨v,_,e1,_⟩:=hh;exact⟨v,e1⟩
    subst e1;have hP:=hid (lD.out v w3 hh);clear oh hh lD;go_wp2
    go_ret3
    exact hP.out
