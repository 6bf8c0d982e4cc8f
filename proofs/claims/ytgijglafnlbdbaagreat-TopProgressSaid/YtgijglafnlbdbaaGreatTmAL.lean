import Derived.Test.YtgijglafnlbdbaaGreatTmAK
set_option linter.all false
set_option maxHeartbeats 4000000
set_option maxRecDepth 8000
namespace Go.Proofs.YtgijglafnlbdbaaGreat
open RowKit Shelf Proofs.Tryz
open Go renaming World->ag,Value->aA,Calls->aJ
theorem bE.same{w w':ag}{τ:Nat->Nat}{A B:Mem}(h:bE w τ A)(P:Nat->Prop)(f:Fr (λb=>P (τ b)) w w')(ho:Mem.cf P A B)
 (ha:∀t,P t->(B t).at_ w'/\∀b,(B t).dh b->(A t).dh b) (hp:∀t,P t->t<500):bE w' τ B/\aC w τ w' τ:=by
 refine⟨⟨λt=>?_,λt k hk=>?_⟩,f.mono ?_,λk hk=>rfl⟩
 ·by_cases e:P t
  ·exact(ha t e).1
  ·rw[ho t e];exact(A t).fr (h.at_ t) f (λk hk hu=>e (h.tag t k hk ▸ hu))
 ·by_cases e:P t
  ·exact h.tag t k ((ha t e).2 k hk)
  ·rw[ho t e] at hk;exact h.tag t k hk
 ·exact λk _ h1=>hp _ h1
theorem pY{α:Type}(f:α->List aA)(k:Nat)(hf:∀a,(f a).length=k)(d d':α)(j:Nat)(hj:j<k)(y:aA):∀ (l:List α) (i:Nat),i<l.length->f d'=(f (l.getD i d)).set j y->(l.flatMap f).set (i*k+j) y=(l.set i d').flatMap f
 | [],i,h,_=>by simp at h
 | x::l,0,_,e=>by
   rw[List.flatMap_cons,Nat.zero_mul,ia,List.set_append_left _ _ (by rw[hf];exact hj),iz,List.flatMap_cons,e];rfl
 | x::l,i+1,h,e=>by
   have e1:(i+1)*k=i*k+k:=Nat.succ_mul _ _
   rw[List.flatMap_cons,List.set_append_right _ _ (by rw[hf,e1];omega),jk,List.flatMap_cons,hf,
    show(i+1)*k+j-k=i*k+j by omega,pY f k hf d d' j hj y l i (by simpa using h) e]
theorem NG{bu:Nat}{l:List Ud}{E:Ad} : ∀m,m<=l.length->E∈ua bu l m->∃j,j<l.length/\(E=(bu,j*4+1)\/((l.getD j dU).kind=1/\E=(bu,j*4+3)))
 | 0,_,h=>by simp[ua] at h
 | m+1,hm,h=>by
   rw[ua] at h;rcases cJ.1 h with h|h
   ·exact NG m (by omega) h
   ·rcases eH.1 h with h|h
    ·exact⟨m,by omega,.inl h⟩
    ·split at h
     ·rename_i h1;exact⟨m,by omega,.inr ⟨h1,gH.1 h⟩⟩
     ·cases h
theorem Qx{L:cd}{br bk bh bu k:Nat}(hk:k<(iZ L br bk bh bu).length) :
 (∃j,j<L.reads.length/\k<L.reads.length+L.keeps.length/\ss L br bk bh bu k=(br,j))\/(∃j,j<L.keeps.length/\k<L.reads.length+L.keeps.length/\ss L br bk bh bu k=(bk,j))\/(∃j,j<L.holds.length/\k=L.reads.length+L.keeps.length+j/\ss L br bk bh bu k=(bh,j*2))
 \/ (∃j,j<L.az.length/\L.reads.length+L.keeps.length+L.holds.length<=k/\(ss L br bk bh bu k=(bu,j*4+1)\/((L.az.getD j dU).kind=1/\ss L br bk bh bu k=(bu,j*4+3)))):=by
 rw[iq] at hk;rcases fB k L.reads.length with h1|h1
 ·exact .inl ⟨k,h1,by omega,Mq h1⟩
 ·obtain⟨a,rfl⟩:∃a,k=L.reads.length+a:=⟨k-L.reads.length,by omega⟩;rcases fB a L.keeps.length with h2|h2
  ·exact .inr (.inl ⟨a,h2,by omega,Mp h2⟩)
  ·obtain⟨b,rfl⟩:∃b,a=L.keeps.length+b:=⟨a-L.keeps.length,by omega⟩;rcases fB b L.holds.length with h3|h3
   ·have:=Mo (br:=br) (bk:=bk) (bh:=bh) (bu:=bu) h3;rw[Nat.add_assoc] at this;exact .inr (.inr (.inl ⟨b,h3,by omega,this⟩))
   ·obtain⟨c,rfl⟩:∃c,b=L.holds.length+c:=⟨b-L.holds.length,by omega⟩;have:=Gu (L:=L) (br:=br) (bk:=bk) (bh:=bh) (bu:=bu) (k:=c)
    obtain⟨j,hj,e⟩:=NG (bu:=bu) (l:=L.az) (E:=ss L br bk bh bu (L.reads.length+(L.keeps.length+(L.holds.length+c)))) L.az.length (aD _) (by
     unfold ss;rw[show L.reads.length+(L.keeps.length+(L.holds.length+c))=L.reads.length+L.keeps.length+L.holds.length+c by omega,this]
     exact get_mem _ (by omega))
    exact .inr (.inr (.inr ⟨j,hj,by omega,e⟩))
structure JK(L:cd):Prop where
 r:∀p∈L.reads,p<=131072
 k:∀p∈L.keeps,p<=131072
 h:∀x∈L.holds,x.at_<=131072/\bX x.dm
 u:∀u∈L.az,AZ u/\bX u.kind/\bX u.i
structure mS(L L':cd):Prop where
 mr:L'.mr=L.mr
 mu:L'.mu=L.mu
 vr:L'.vr=L.vr
 vk:L'.vk=L.vk
 vh:L'.vh=L.vh
 vu:L'.vu=L.vu
 lr:L'.reads.length=L.reads.length
 lk:L'.keeps.length=L.keeps.length
 lh:L'.holds.length=L.holds.length
 lu:L'.az.length=L.az.length
 kd:∀j,(L'.az.getD j dU).kind=(L.az.getD j dU).kind
theorem mS.refl(L:cd):mS L L:=⟨rfl,rfl,rfl,rfl,rfl,rfl,rfl,rfl,rfl,rfl,λ_=>rfl⟩
structure jw(τ:Nat->Nat)(g:Nat)(W:ag)(lp:Nat)(L:cd):Prop where
 c:af W lp [vI L.mr,vI L.mu,L.vr,L.vk,L.vh,L.vu]
 r:aI W 0 L.vr (nI L.reads)
 k:aI W 0 L.vk (nI L.keeps)
 h:W.ownsRow 0 219 2 L.vh L.holds.length (L.holds.flatMap wM)
 u:W.ownsRow 0 231 4 L.vu L.az.length (L.az.flatMap qL)
 t1:τ lp=g+1
 t2:∀b,ay L.vr b->τ b=g+2
 t3:∀b,ay L.vk b->τ b=g+3
 t4:∀b,ay L.vh b->τ b=g+4
 t5:∀b,ay L.vu b->τ b=g+5
theorem jw.of{w:ag}{τ:Nat->Nat}{M:Mem}{g lp:Nat}{L:cd}(h:bE w τ M)(hl:cg M g lp L):jw τ g w lp L:=
 ⟨hl.cells h,hl.QI h,hl.Wk h,hl.QH h,hl.QJ h,h.tag (g+1) _ (by rw[hl.nV]),λb hb=>h.tag (g+2) _ (by rw[hl.OS];exact hb),λb hb=>h.tag (g+3) _ (by rw[hl.OU];exact hb),
  λb hb=>h.tag (g+4) _ (by rw[hl.OV];exact hb),λb hb=>h.tag (g+5) _ (by rw[hl.OX];exact hb)⟩
theorem jw.fr{S:Nat->Prop}{τ:Nat->Nat}{g lp:Nat}{L:cd}{A B:ag}(h:jw τ g A lp L)(f:Fr S A B)(hs:∀b,b<A.heap.size->g+1<=τ b->τ b<=g+5->¬S b):jw τ g B lp L:=
 ⟨h.c.fr f (hs _ (h.c.lt (by simp)) (by have:=h.t1;omega) (by have:=h.t1;omega)),
  h.r.dw f (λb hb=>hs b (h.r.lt hb).2 (by have:=h.t2 b hb;omega) (by have:=h.t2 b hb;omega)),h.k.dw f (λb hb=>hs b (h.k.lt hb).2 (by have:=h.t3 b hb;omega) (by have:=h.t3 b hb;omega)),
  aw h.h f (λb hb=>hs b (World.ownsRow.lt h.h b hb).2 (by have:=h.t4 b hb;omega) (by have:=h.t4 b hb;omega)),aw h.u f (λb hb=>hs b (World.ownsRow.lt h.u b hb).2 (by have:=h.t5 b hb;omega) (by have:=h.t5 b hb;omega)),
  h.t1,h.t2,h.t3,h.t4,h.t5⟩
theorem jw.mem{w w':ag}{τ:Nat->Nat}{M:Mem}{g lp:Nat}{L L':cd}(h:bE w τ M)(hl:cg M g lp L)(hg:g<=400)(hs:mS L L')(hr:jw τ g w' lp L')(f:Fr (λb=>g+2<=τ b/\τ b<=g+5) w w') :
 ∃M',bE w' τ M'/\cg M' g lp L'/\Mem.cf (λt=>g+2<=t/\t<=g+5) M M'/\aC w τ w' τ:=by
 obtain⟨M',hM⟩:∃M':Mem,M'=λt=>if t=g+2 then fV L'.vr (nI L'.reads) else if t=g+3 then fV L'.vk (nI L'.keeps) else if t=g+4 then A0 L'.vh L'.holds else if t=g+5 then A_ L'.vu L'.az else M t:=⟨_,rfl⟩
 have ho:Mem.cf (λt=>g+2<=t/\t<=g+5) M M':=λt ht=>by
  rw[hM];simp only[show t≠g+2 from λe=>ht (by omega),show t≠g+3 from λe=>ht (by omega),show t≠g+4 from λe=>ht (by omega),show t≠g+5 from λe=>ht (by omega),if_false]
 have e2:M' (g+2)=fV L'.vr (nI L'.reads):=by rw[hM];simp
 have e3:M' (g+3)=fV L'.vk (nI L'.keeps):=by rw[hM];simp
 have e4:M' (g+4)=A0 L'.vh L'.holds:=by rw[hM];simp
 have e5:M' (g+5)=A_ L'.vu L'.az:=by rw[hM];simp
 obtain⟨k1,k2⟩:=h.same (λt=>g+2<=t/\t<=g+5) f ho (B:=M') (λt ht=>by
  obtain rfl|rfl|rfl|rfl:t=g+2\/t=g+3\/t=g+4\/t=g+5:=by omega
  ·rw[e2,hl.r,hs.vr];have:=hr.r;rw[hs.vr] at this;exact⟨this,λb hb=>hb⟩
  ·rw[e3,hl.k,hs.vk];have:=hr.k;rw[hs.vk] at this;exact⟨this,λb hb=>hb⟩
  ·rw[e4,hl.h,hs.vh];have:=hr.h;rw[hs.vh] at this;exact⟨this,λb hb=>hb⟩
  ·rw[e5,hl.u,hs.vu];have:=hr.u;rw[hs.vu] at this;exact⟨this,λb hb=>hb⟩) (λt ht=>by omega)
 refine⟨M',k1,⟨?_,e2,e3,e4,e5⟩,ho,k2⟩;rw[ho (g+1) (by omega),hl.c,hs.mr,hs.mu,hs.vr,hs.vk,hs.vh,hs.vu]
theorem qp{α:Type}{l:List α}{j:Nat}{y x:α}(h:x∈l.set j y):x∈l\/x=y:=List.mem_or_eq_of_mem_set h
def GS(L L':cd)(vs:aj)(k:Nat):Prop:=∀i,i<L.holds.length->(L'.holds.getD i dH).dm=(L.holds.getD i dH).dm/\(L'.holds.getD i dH).at_=if L.reads.length+L.keeps.length+i<k then vs.getD (L.reads.length+L.keeps.length+i) 0 else (L.holds.getD i dH).at_
def HdS(L0 L L':cd)(k p:Nat):Prop:=(∃j,j<L0.holds.length/\k=L0.reads.length+L0.keeps.length+j/\L'.holds=L.holds.set j ⟨p,(L.holds.getD j dH).dm⟩)\/((k<L0.reads.length+L0.keeps.length\/L0.reads.length+L0.keeps.length+L0.holds.length<=k)/\L'.holds=L.holds)
theorem GS.start(L:cd)(vs:aj):GS L L vs 0:=λi _=>⟨rfl,by rw[if_neg (by omega)]⟩
theorem GS.step{L0 L L':cd}{vs:aj}{k:Nat}(h:GS L0 L vs k)(hl:L.holds.length=L0.holds.length)(g:HdS L0 L L' k (vs.getD k 0)):GS L0 L' vs (k+1):=λi hi=>by
 obtain⟨h1,h2⟩:=h i hi;rcases g with ⟨j,hj,e,g⟩|⟨e,g⟩
 ·rw[g]
  by_cases ej:i=j
  ·subst ej;rw[aS,List.getElem?_set_self (by omega),if_pos (by omega)];exact⟨h1,by rw[e];rfl⟩
  ·rw[aS,List.getElem?_set_ne (by omega),<-aS];refine⟨h1,h2.trans ?_⟩
   by_cases e3:L0.reads.length+L0.keeps.length+i<k
   ·rw[if_pos e3,if_pos (by omega)]
   ·rw[if_neg e3,if_neg (by omega)]
 ·rw[g];refine⟨h1,h2.trans ?_⟩
  by_cases e3:L0.reads.length+L0.keeps.length+i<k
  ·rw[if_pos e3,if_pos (by omega)]
  ·rw[if_neg e3,if_neg (by omega)]
theorem jw.write{τ:Nat->Nat}{g lp:Nat}{L L0:cd}{W:ag}{br bk bh bu k:Nat}(h:jw τ g W lp L)(hs:mS L0 L)(ho:JK L)
 (sr:DK L0.vr L0.reads.length br) (sk:DK L0.vk L0.keeps.length bk) (sh:DK L0.vh L0.holds.length bh) (su:DK L0.vu L0.az.length bu)
 (hk:k<(iZ L0 br bk bh bu).length) {p:Nat} (hp:p<=131072) :
 ∃L',mS L0 L'/\JK L'/\jw τ g (W.setCell ⟨(ss L0 br bk bh bu k).1,(ss L0 br bk bh bu k).2,none⟩ (vI p)) lp L'/\W.frozen? ⟨(ss L0 br bk bh bu k).1,(ss L0 br bk bh bu k).2,none⟩=false
  /\ (∃u,W.cell? ⟨(ss L0 br bk bh bu k).1,(ss L0 br bk bh bu k).2,none⟩=some u)/\g+2<=τ (ss L0 br bk bh bu k).1/\τ (ss L0 br bk bh bu k).1<=g+5/\HdS L0 L L' k p:=by
 have fr:∀b i,Fr (λx=>x=b) W (W.setCell ⟨b,i,none⟩ (vI p)):=λb i=>(Fr.refl (λx=>x=b) W).setCell (p:=⟨b,i,none⟩) (.inl rfl) _;rcases Qx hk with ⟨j,hj,ek,e⟩|⟨j,hj,ek,e⟩|⟨j,hj,ek,e⟩|⟨j,hj,ek,e⟩
 ·rw[e];obtain⟨a,c,hv,ha⟩:=sr;rw[ha (by omega)] at hv;have dK:L.vr=.slice (some ⟨br,0,none⟩) L0.reads.length c:=hs.vr.trans hv;have ht:τ br=g+2:=h.t2 br (by rw[dK];exact ay.mk.2 rfl);have hr:=h.r;have pK:j<(nI L.reads).length:=by simp;have:=hs.lr;omega
  obtain⟨g',c',rZ,_,bS⟩:=hr.get pK;rw[dK] at rZ hr;injection rZ with e1;injection e1 with e1;injection e1 with e1;subst e1
  refine⟨{ L with reads:=L.reads.set j p },?_,?_,?_,bS.2,⟨_,bS.1⟩,by simp only[];omega,by simp only[];omega,.inr ⟨.inl ek,rfl⟩⟩
  ·exact⟨hs.mr,hs.mu,hs.vr,hs.vk,hs.vh,hs.vu,by simp[hs.lr],hs.lk,hs.lh,hs.lu,hs.kd⟩
  ·exact⟨λx hx=>(qp hx).elim (λhx=>ho.r x hx) (λe=>by subst e;exact hp),ho.k,ho.h,ho.u⟩
  ·have f:=fr br j;refine⟨h.c.fr f (λe=>by have:=h.t1;rw[e] at this;omega),?_,h.k.dw f (λb hb e=>by have:=h.t3 b hb;rw[e] at this;omega),aw h.h f (λb hb e=>by have:=h.t4 b hb;rw[e] at this;omega),aw h.u f (λb hb e=>by have:=h.t5 b hb;rw[e] at this;omega),h.t1,h.t2,h.t3,h.t4,h.t5⟩;show aI _ 0 L.vr (nI (L.reads.set j p));have:=hr.set pK (p:Int);rw[dK];simpa[nI,List.map_set] using this
 ·rw[e];obtain⟨a,c,hv,ha⟩:=sk;rw[ha (by omega)] at hv;have dK:L.vk=.slice (some ⟨bk,0,none⟩) L0.keeps.length c:=hs.vk.trans hv;have ht:τ bk=g+3:=h.t3 bk (by rw[dK];exact ay.mk.2 rfl);have hr:=h.k;have pK:j<(nI L.keeps).length:=by simp;have:=hs.lk;omega
  obtain⟨g',c',rZ,_,bS⟩:=hr.get pK;rw[dK] at rZ hr;injection rZ with e1;injection e1 with e1;injection e1 with e1;subst e1
  refine⟨{ L with keeps:=L.keeps.set j p },?_,?_,?_,bS.2,⟨_,bS.1⟩,by simp only[];omega,by simp only[];omega,.inr ⟨.inl ek,rfl⟩⟩
  ·exact⟨hs.mr,hs.mu,hs.vr,hs.vk,hs.vh,hs.vu,hs.lr,by simp[hs.lk],hs.lh,hs.lu,hs.kd⟩
  ·exact⟨ho.r,λx hx=>(qp hx).elim (λhx=>ho.k x hx) (λe=>by subst e;exact hp),ho.h,ho.u⟩
  ·have f:=fr bk j;refine⟨h.c.fr f (λe=>by have:=h.t1;rw[e] at this;omega),h.r.dw f (λb hb e=>by have:=h.t2 b hb;rw[e] at this;omega),?_,aw h.h f (λb hb e=>by have:=h.t4 b hb;rw[e] at this;omega),aw h.u f (λb hb e=>by have:=h.t5 b hb;rw[e] at this;omega),h.t1,h.t2,h.t3,h.t4,h.t5⟩;show aI _ 0 L.vk (nI (L.keeps.set j p));have:=hr.set pK (p:Int);rw[dK];simpa[nI,List.map_set] using this
 ·rw[e];obtain⟨a,c,hv,ha⟩:=sh;rw[ha (by omega)] at hv;have HU:j<L.holds.length:=by have:=hs.lh;omega
  have dK:L.vh=.slice (some ⟨bh,0,none⟩) L.holds.length c:=by rw[hs.lh];exact hs.vh.trans hv
  have ht:τ bh=g+4:=h.t4 bh (by rw[dK];exact ay.mk.2 rfl);have hr:=h.h;obtain⟨g',c',rZ,fO⟩:=bT kH (by decide) hr dH HU;rw[dK] at rZ hr;injection rZ with e1;injection e1 with e1;injection e1 with e1;subst e1
  have bS:=fO 0 _ rfl;rw[fM] at bS;have iK:=get_mem dH HU;refine⟨{ L with holds:=L.holds.set j ⟨p,(L.holds.getD j dH).dm⟩ },?_,?_,?_,bS.2,⟨_,bS.1⟩,by simp only[];omega,by simp only[];omega,.inl ⟨j,hj,ek,rfl⟩⟩
  ·exact⟨hs.mr,hs.mu,hs.vr,hs.vk,hs.vh,hs.vu,hs.lr,hs.lk,by simp[hs.lh],hs.lu,hs.kd⟩
  ·exact⟨ho.r,ho.k,λx hx=>(qp hx).elim (λhx=>ho.h x hx) (λe=>by subst e;exact⟨hp,(ho.h _ iK).2⟩),ho.u⟩
  ·have f:=fr bh (j*2);refine⟨h.c.fr f (λe=>by have:=h.t1;rw[e] at this;omega),h.r.dw f (λb hb e=>by have:=h.t2 b hb;rw[e] at this;omega),h.k.dw f (λb hb e=>by have:=h.t3 b hb;rw[e] at this;omega),?_,aw h.u f (λb hb e=>by have:=h.t5 b hb;rw[e] at this;omega),h.t1,h.t2,h.t3,h.t4,h.t5⟩;show World.ownsRow _ 0 _ 2 L.vh (L.holds.set j _).length ((L.holds.set j _).flatMap wM);have:=lM hr (j:=j*2) (by rw[ij wM 2 kH];omega) (vI p);have e2:=pY wM 2 kH dH ⟨p,(L.holds.getD j dH).dm⟩ 0 (by decide) (vI p) L.holds j HU rfl;rw[fM] at e2;rw[dK,bN,<-e2];exact this
 ·obtain⟨a,c,hv,ha⟩:=su;rw[ha (by omega)] at hv;have HU:j<L.az.length:=by have:=hs.lu;omega
  have dK:L.vu=.slice (some ⟨bu,0,none⟩) L.az.length c:=by rw[hs.lu];exact hs.vu.trans hv
  have ht:τ bu=g+5:=h.t5 bu (by rw[dK];exact ay.mk.2 rfl);have hr:=h.u;obtain⟨g',c',rZ,fO⟩:=bT ml (by decide) hr dU HU;rw[dK] at rZ hr;injection rZ with e1;injection e1 with e1;injection e1 with e1;subst e1
  have iK:=get_mem dU HU;have hu:=ho.u _ iK
  have N9:∀u':Ud,u'.kind=(L.az.getD j dU).kind->∀i,((L.az.set j u').getD i dU).kind=(L0.az.getD i dU).kind:=by
   intro u' Ik i;rw[<-hs.kd i]
   by_cases e:i=j
   ·subst e;rw[aS,List.getElem?_set_self HU];exact Ik
   ·rw[aS,List.getElem?_set_ne (by omega),<-aS]
  have fin:∀ (i:Nat) (u':Ud),i<4->u'.kind=(L.az.getD j dU).kind->qL u'=(qL (L.az.getD j dU)).set i (vI p)->(AZ u'/\bX u'.kind/\bX u'.i) ->
   ∃L',mS L0 L'/\JK L'/\jw τ g (W.setCell ⟨bu,j*4+i,none⟩ (vI p)) lp L'/\W.frozen? ⟨bu,j*4+i,none⟩=false/\(∃u,W.cell? ⟨bu,j*4+i,none⟩=some u)/\g+2<=τ bu/\τ bu<=g+5/\HdS L0 L L' k p:=by
   intro i u' hi zB he bU;have bS:=fO i _ (lQ (by rw[ml];exact hi));refine⟨{ L with az:=L.az.set j u' },?_,?_,?_,bS.2,⟨_,bS.1⟩,by omega,by omega,.inr ⟨.inr ek,rfl⟩⟩
   ·exact⟨hs.mr,hs.mu,hs.vr,hs.vk,hs.vh,hs.vu,hs.lr,hs.lk,hs.lh,by simp[hs.lu],N9 u' zB⟩
   ·exact⟨ho.r,ho.k,ho.h,λx hx=>(qp hx).elim (λhx=>ho.u x hx) (λe=>by subst e;exact bU)⟩
   ·have f:=fr bu (j*4+i);refine⟨h.c.fr f (λe=>by have:=h.t1;rw[e] at this;omega),h.r.dw f (λb hb e=>by have:=h.t2 b hb;rw[e] at this;omega),h.k.dw f (λb hb e=>by have:=h.t3 b hb;rw[e] at this;omega),aw h.h f (λb hb e=>by have:=h.t4 b hb;rw[e] at this;omega),?_,h.t1,h.t2,h.t3,h.t4,h.t5⟩;show World.ownsRow _ 0 _ 4 L.vu (L.az.set j u').length ((L.az.set j u').flatMap qL);have:=lM hr (j:=j*4+i) (by rw[ij qL 4 ml];omega) (vI p);rw[dK,bN,<-pY qL 4 ml dU u' i hi (vI p) L.az j HU he];exact this
  rcases e with e|⟨jg,e⟩
  ·rw[e];exact fin 1 { L.az.getD j dU with at_:=p } (by decide) rfl rfl ⟨⟨hp,hu.1.2⟩,hu.2⟩
  ·rw[e];rw[<-hs.kd] at jg;exact fin 3 { L.az.getD j dU with aV:=p } (by decide) rfl rfl ⟨⟨hu.1.1,⟨by show _<=(p:Int);omega,by show(p:Int)<=_;omega⟩,λ_=>⟨Int.natCast_nonneg _,by show(p:Int)<=131072;omega⟩⟩,hu.2⟩
structure Rl(w:ag)(lp bu:Nat)(L:cd)(v:aA)(X:Nat->Prop)(k:Nat)(W:ag):Prop where
 n:Own W (w.heap.size+1) 0 (vI k)
 v:Own W w.heap.size 0 v
 c:Calm w W
 q:Dp (w.heap.size+2) lp bu L W
 x:∀b,X b->b≠w.heap.size/\b≠w.heap.size+1
theorem Rl.loops{w A B:ag}{lp bu:Nat}{L:cd}{v:aA}{X:Nat->Prop}{k:Nat}(h:Rl w lp bu L v X k A)(f:Fr (λb=>b=w.heap.size+3\/b=w.heap.size+3+1) A B)(h2:lp<w.heap.size)(h3:0<L.az.length->bu<w.heap.size):Rl w lp bu L v X k B:=
 ⟨h.n.fr f (by omega),h.v.fr f (by omega),h.c.join f (λj hj e=>by omega),h.q.fr f (by omega) (by omega) (λh0 e=>by have:=h3 h0;omega),h.x⟩
theorem Rl.grow{w A:ag}{lp bu:Nat}{L:cd}{v:aA}{X:Nat->Prop}{k:Nat}{o:Obj}(h:Rl w lp bu L v X k A):Rl w lp bu L v (λb=>X b\/b=A.heap.size) k (A.alloc o):=by
 have f:Calm A (A.alloc o):=ah.alloc _;have:=h.n.lt;refine⟨h.n.calm f,h.v.calm f,h.c.trans f,h.q.fr f id id (λ_=>id),λb hb=>?_⟩;rcases hb with hb|rfl
 ·exact h.x b hb
 ·omega
def aaZ(w:ag)(lp bu:Nat)(L:cd)(v:aA)(E:Nat->Ad)(X:Nat->Prop)(k:Nat)(a:Act)(W:ag):Prop:=
 Rl w lp bu L v X k W/\a = { tmps:=#[pV lp,v,undef,bw w.heap.size,.bool false,.pointer (some ⟨w.heap.size+1,0,none⟩),undef,undef,pV lp,
  .func (.func 209) #[] #[.pointer (some ⟨w.heap.size+2,0,none⟩)],.pointer (some ⟨(E k).1,(E k).2,none⟩),undef,undef,undef,undef,undef,undef,undef,undef,undef,undef,undef,undef,undef,undef,undef,undef,undef],defers:=[] }
theorem jw.plq{τ:Nat->Nat}{g lp cb bu:Nat}{L L':cd}{W:ag}(h:jw τ g W lp L')(hs:mS L L')(su:DK L.vu L.az.length bu)(hc:W.cell? ⟨cb,0,none⟩=some (pV lp)):Dp cb lp bu L W:=by
 refine⟨hc,hs.vr ▸ (h.c 2 _ rfl).1,hs.vk ▸ (h.c 3 _ rfl).1,hs.vh ▸ (h.c 4 _ rfl).1,hs.vu ▸ (h.c 5 _ rfl).1,λj hj=>?_⟩;obtain⟨a,c,hv,ha⟩:=su;obtain⟨b,c2,dK,ho⟩:=bT ml (by decide) h.u dU (i:=j) (by have:=hs.lu;omega);rw[hs.vu,hv,ha (by omega)] at dK;injection dK with e1;injection e1 with e1;injection e1 with e1;subst e1
 have:=(ho 0 _ rfl).1;rw[fM,hs.kd] at this;exact this
structure Ro(w:ag)(τ:Nat->Nat)(g lp bu:Nat)(L:cd)(vs:aj)(v:aA)(C:Nat)(X:Nat->Prop)(k:Nat)(W:ag):Prop where
 le:w.heap.size+3<C
 n:Own W C 0 (vI k)
 v:Own W w.heap.size 0 v
 f:Fr (λb=>g+2<=τ b/\τ b<=g+5) w W
 q:Dp (C+1) lp bu L W
 d:W.heap[w.heap.size+3]?=some (.deferred (some []))
 l:∃L',mS L L'/\JK L'/\jw τ g W lp L'/\GS L L' vs k
 x:∀b,X b->b≠w.heap.size/\w.heap.size<=b/\b≠C/\b≠C+1
theorem Ro.loops{w A B:ag}{τ:Nat->Nat}{g lp bu:Nat}{L:cd}{vs:aj}{v:aA}{C:Nat}{X:Nat->Prop}{k:Nat}(h:Ro w τ g lp bu L vs v C X k A)(f:Fr (λb=>b=C+2\/b=C+2+1) A B)(h2:lp<w.heap.size)(h3:0<L.az.length->bu<w.heap.size)(hg:g<=400)(ht:∀b,w.heap.size<=b->τ b=1000):Ro w τ g lp bu L vs v C X k B:=by
 have hle:=h.le;obtain⟨L',l1,l2,l3,l4⟩:=h.l;exact⟨hle,h.n.fr f (by omega),h.v.fr f (by omega),h.f.join f (λj hj e=>by omega),h.q.fr f (by omega) (by omega) (λh0 e=>by have:=h3 h0;omega),f.gT h.d (by omega),⟨L',l1,l2,l3.fr f (λb _ h4 h5 e=>by have:=ht b (by omega);omega),l4⟩,h.x⟩
theorem Ro.grow{w A:ag}{τ:Nat->Nat}{g lp bu:Nat}{L:cd}{vs:aj}{v:aA}{C:Nat}{X:Nat->Prop}{k:Nat}{o:Obj}(h:Ro w τ g lp bu L vs v C X k A):Ro w τ g lp bu L vs v C (λb=>X b\/b=A.heap.size) k (A.alloc o):=by
 have f:Calm A (A.alloc o):=ah.alloc _;have:=h.n.lt;have hle:=h.le;have hq:C+1<A.heap.size:=nt _ _ h.q.c;obtain⟨L',l1,l2,l3,l4⟩:=h.l;refine⟨h.le,h.n.calm f,h.v.calm f,h.f.alloc _,h.q.fr f id id (λ_=>id),f.gT h.d id,⟨L',l1,l2,l3.fr f (λ_ _ _ _=>id),l4⟩,λb hb=>?_⟩;rcases hb with hb|rfl
 ·exact h.x b hb
 ·omega
def aa1(w:ag)(τ:Nat->Nat)(g lp bu:Nat)(L:cd)(vs:aj)(va:Option Addr)(N vc C:Nat)(E:Nat->Ad)(X:Nat->Prop)(k:Nat)(a:Act)(W:ag):Prop:=
 Ro w τ g lp bu L vs (.slice va N vc) C X k W/\a = { tmps:=#[pV lp,.slice va N vc,undef,bw w.heap.size,.bool false,.pointer (some ⟨w.heap.size+1,0,none⟩),bw C,.pointer (some ⟨(E k).1,(E k).2,none⟩),pV lp,
  .func (.func 209) #[] #[.pointer (some ⟨w.heap.size+1+1,0,none⟩)],undef,undef,undef,vI N,.slice va N vc,vI N,.bool false,pV lp,
  .func (.func 209) #[] #[.pointer (some ⟨C+1,0,none⟩)],.pointer (some ⟨(E k).1,(E k).2,none⟩),undef,undef,undef,undef,undef,undef,undef,undef],defers:=[] }
theorem aC.dE{w w':ag}{τ aL fj:Nat->Nat}(h:aC w aL w' fj)(t:oO w τ aL):aC w τ w' fj:=⟨h.fr.mono (λk hk e=>by rw[t k hk] at e;exact e),λk hk=>(h.tg k hk).trans (t k hk)⟩
def AV(w:ag)(τ:Nat->Nat)(M:Mem)(g lp:Nat)(L:cd)(vs:aj)(e:Ending)(w':ag):Prop:=
 e=.returned (.bool true)/\∃L' M' aL,GS L L' vs L.roots.length/\mS L L'/\JK L'/\bE w' aL M'/\cg M' g lp L'/\Mem.cf (λt=>g+2<=t/\t<=g+5) M M'/\aC w τ w' aL
theorem Cs{w:ag}{τ:Nat->Nat}{M:Mem}{g lp:Nat}{L:cd}(h:bE w τ M)(hl:cg M g lp L)(hg:g<=400)(ho:JK L)
 (hf:L.reads.length<=100000/\L.keeps.length<=100000/\L.holds.length<=100000/\L.az.length<=100000)
 {v:aA} {vs:aj} (hv:Row w v (lj (nI vs))) (pL:vs.length=L.roots.length) (Xm:∀p∈vs,p<=131072) (wD:∀b,Gj v b->500<=τ b) :
 aJ prog 94 #[pV lp,v] w (AV w τ M g lp L vs):=by
 obtain⟨τ0,h',kK,ht⟩:=h.fresh 1000
 suffices hh:aJ prog 94 #[pV lp,v] w (AV w τ0 M g lp L vs) from hh.mono (by
  rintro e w' ⟨h1,L',M',fj,h0,h2,h3,h4,h5,h6,h7⟩
  exact⟨h1,L',M',fj,h0,h2,h3,h4,h5,h6,h7.dE kK⟩)
 replace wD:∀b,Gj v b->500<=τ0 b:=λb hb=>by
  by_cases e:b<w.heap.size
  ·rw[kK b e];exact wD b hb
  ·rw[ht b (by omega)];omega
 clear kK;replace h:=h';clear h';obtain⟨br,bk,bh,bu,HB⟩:=hl.Yn h;have hc:=hl.cells h;have oC:lp<w.heap.size:=hc.lt (by simp);have N6:0<L.az.length->bu<w.heap.size:=λh0=>(HB.cu 0 h0 0 _ rfl).lt;have ma:=yB (L:=L) (br:=br) (bk:=bk) (bh:=bh) (bu:=bu)
 have hul:(ua bu L.az L.az.length).length<=200000:=by
  have:∀m,(ua bu L.az m).length<=2*m:=by
   intro m;induction m with
   | zero=>simp[ua]
   | succ m ih=>rw[ua,b_];split <;> simp <;> omega
  have:=this L.az.length;omega
 have Bw:(iZ L br bk bh bu).length<=600000:=by rw[iq];omega
 have PQ:∀W cb,Calm w W->W.cell? ⟨cb,0,none⟩=some (pV lp)->Dp cb lp bu L W:=λW cb c h1=>
  ⟨h1,c.cellAt (hc 2 _ rfl).1 id,c.cellAt (hc 3 _ rfl).1 id,c.cellAt (hc 4 _ rfl).1 id,c.cellAt (hc 5 _ rfl).1 id,λj hj=>by have:=c.cellAt (HB.cu j hj 0 _ rfl).1 id;rwa [fM] at this⟩
 obtain⟨N,hN⟩:=ao ((iZ L br bk bh bu).length);rw[hN] at Bw ma
 obtain⟨va,vc,nZ,hvx⟩:∃a c,v=.slice a N c/\∀i,i<N->∃b off,a=some ⟨b,off,none⟩/\w.cell? ⟨b,off+i,none⟩=some (vI (vs.getD i 0:Nat)):=by
  obtain⟨a,c,h1,h2⟩:=hv.at;have e:(lj (nI vs)).length=N:=by simp;omega
  refine⟨a,c,by rw[h1,e],λi hi=>?_⟩;obtain⟨b,off,h3,h4⟩:=h2 i (by omega);refine⟨b,off,h3,h4.trans ?_⟩;have:i<vs.length:=by omega
  simp[aS,this]
 have hNh:=hid hN;have aau:=hid (pL.trans ma);have aad:=hid ma;have aP:=hid hv;clear hv pL ma hul;subst nZ;refine(callsIn_wide (n:=9)).1 ?_;refine callsIn_of_wp_marks func94 rfl trivial ?_ rfl;simp only[ntmps94,List.size_toArray,List.length_cons,List.length_nil,Nat.reduceAdd,Nat.reduceSub,Array.replicate_succ,Array.replicate_zero,List.push_toArray,List.append_toArray,List.nil_append,List.cons_append]
 gi_wp2_with (refine⟨trivial,?_⟩;gi_at_call 163;refine(rH _ _ _ lp trivial rfl).mono ?_;rintro e w' ⟨rfl,rfl⟩)
 have EH:(((w.alloc (.cells #[.slice va N vc] 43)).alloc (.cells #[vI 0] 3)).alloc (.cells #[pV lp] 111)).heap.size=w.heap.size+3:=by simp
 have i1:Own (((w.alloc (.cells #[.slice va N vc] 43)).alloc (.cells #[vI 0] 3)).alloc (.cells #[pV lp] 111)) w.heap.size 0 (.slice va N vc):=((Own.new w _ _ 0 rfl).alloc _).alloc _;have i2:Own (((w.alloc (.cells #[.slice va N vc] 43)).alloc (.cells #[vI 0] 3)).alloc (.cells #[pV lp] 111)) (w.heap.size+1) 0 (vI (0:Nat)):=(Own.at (w.alloc _) _ _ _ 0 (by simp) rfl).alloc _;have i3:Own (((w.alloc (.cells #[.slice va N vc] 43)).alloc (.cells #[vI 0] 3)).alloc (.cells #[pV lp] 111)) (w.heap.size+2) 0 (pV lp):=Own.at ((w.alloc _).alloc _) _ _ _ 0 (by simp) rfl;have i5:Calm w (((w.alloc (.cells #[.slice va N vc] 43)).alloc (.cells #[vI 0] 3)).alloc (.cells #[pV lp] 111)):=(((Fr.refl _ w).alloc _).alloc _).alloc _;generalize gF:(((w.alloc (.cells #[.slice va N vc] 43)).alloc (.cells #[vI 0] 3)).alloc (.cells #[pV lp] 111))=W0 at EH i1 i2 i3 i5 ⊢;clear gF;have Xi:∀cb W,t_ (Dp cb lp bu L) Fence.wide 8 prog 209 #[bw cb] (λk=>#[.pointer (some ⟨(ss L br bk bh bu k).1,(ss L br bk bh bu k).2,none⟩)]) N true W:=λcb W=>hNh.out ▸ vE 8 (by decide) W cb lp br bk bh bu L HB.sr HB.sk HB.sh HB.su hf
 refine kP (Qp:=Dp (w.heap.size+2) lp bu L) (g:=.tmp 9) rfl (by decide) (gf:=209) (lb:=#[.pointer (some ⟨w.heap.size+2,0,none⟩)]) rfl trivial (enters_of func209 (by kernel_rfl) rfl)
  (Xi _ W0) (aD _) (λ_=>rfl)
  (Rl w lp bu L (.slice va N vc)) (aaZ w lp bu L (.slice va N vc) (ss L br bk bh bu)) (λc W=>False)
  ?hI ?hI1 ?hG ?hQ ?hIx ?hN ?h0 ?assign ?body ?done ?stop
 case hI=>
  rintro X k A A' a kT;rw[EH] at kT;exact a.loops kT oC N6
 case hI1=>
  rintro X k a' A A' ⟨a,rfl⟩ kT;rw[EH] at kT;exact⟨a.loops kT oC N6,rfl⟩
 case hG=>
  rintro X k A o a -;exact a.grow
 case hQ=>
  rintro X k A a;exact a.q
 case hIx=>
  rintro c A A' h _;exact h
 case hN=>
  rintro h;cases h
 case h0=>exact⟨i2,i1,i5,PQ _ _ i5 i3.1,λb hb=>hb.elim⟩
 case assign=>
  rintro y X k W hk ha hX hs;clear i1 i2 i3 i5
  gi_wp2
  simp[Oper.semAt,go_sem,Act.eval];exact⟨cE.refl _ _,ha,rfl⟩
 case body=>
  rintro y X k a W hk ⟨⟨a1,a2,a4,a5,a6⟩,rfl⟩ hX hs;rw[EH] at hs;have b1:=a1.1;have b2:=a1.2;have aM:=a1.lt;have hV:=jR W (w.heap.size+1) 0 (vI ((k+1:Nat):Int));have j1:=a1.set (vI ((k+1:Nat):Int));have j2:=a2.fr hV (by omega);have j4:Calm w _:=a4.join hV (λj hj e=>by omega);have j5:=a5.fr hV (by omega) (by omega) (λh0 e=>by have:=N6 h0;omega)
  have hK:cE (λb=>X b\/b=W0.heap.size\/b=W0.heap.size+1) W (W.setCell ⟨w.heap.size+1,0,none⟩ (vI ((k+1:Nat):Int))):=by
   refine cE.yv hV ?_;rw[EH];rintro b (hb|rfl|rfl)
   ·exact⟨hX b hb,(a6 b hb).2⟩
   ·omega
   ·omega
  have jg:bX ((k:Int)+1):=⟨by omega,by omega⟩;have fA:=jg;have e9:((k+1:Nat):Int)=(k:Int)+1:=by omega
  clear hV i1 i2 i3 i5
  gi_wp2
  simp[Oper.semAt,go_sem,Act.eval,b1]
  gi_wp2
  simp[Oper.semAt,go_sem,Act.eval,b1];rw[IntWalk.i64_in _ jg]
  gi_wp2
  simp[Oper.semAt,go_sem,Act.eval,b1,b2]
  gi_wp2
  rw[e9] at hK j1 j2 j4 j5;exact⟨hK,j1,j2,j4,j5,a6⟩
 case done=>
  rintro X W Eo a hD;rw[EH] at hD;obtain⟨a1,a2,a4,a5,a6⟩:=a;have b1:=a1.1;have b2:=a2.1;have b3:=aau.out;clear i1 i2 i3 i5
  gi_wp2_with (refine⟨trivial,?_⟩;gi_at_call 163;refine(rH _ _ _ lp trivial rfl).mono ?_;rintro e w' ⟨rfl,rfl⟩)
  have hsW:w.heap.size+3<W.heap.size:=(sY.1 hD).1;have Ck:((W.alloc (.cells #[vI 0] 3)).alloc (.cells #[pV lp] 111)).heap.size=W.heap.size+2:=by simp
  have i1:Own ((W.alloc (.cells #[vI 0] 3)).alloc (.cells #[pV lp] 111)) w.heap.size 0 (.slice va N vc):=(a2.alloc _).alloc _;have i2:Own ((W.alloc (.cells #[vI 0] 3)).alloc (.cells #[pV lp] 111)) W.heap.size 0 (vI (0:Nat)):=(Own.new W _ _ 0 rfl).alloc _;have i3:Own ((W.alloc (.cells #[vI 0] 3)).alloc (.cells #[pV lp] 111)) (W.heap.size+1) 0 (pV lp):=Own.at (W.alloc _) _ _ _ 0 (by simp) rfl;have i5:Calm w ((W.alloc (.cells #[vI 0] 3)).alloc (.cells #[pV lp] 111)):=(a4.alloc _).alloc _;generalize gO:((W.alloc (.cells #[vI 0] 3)).alloc (.cells #[pV lp] 111))=W1 at Ck i1 i2 i3 i5 ⊢;have acD:w.heap.size+3<W.heap.size:=(sY.1 hD).1
  have hD1:W1.heap[w.heap.size+3]?=some (.deferred (some [])):=by
   rw[<-gO,Below.heap_alloc _ _ _ (by simp;omega),Below.heap_alloc _ _ _ (by omega)];exact hD
  clear gO a1 a2 a4 a5 a6 b1 b2 hD Eo;generalize W.heap.size=C at *
  refine kP (Qp:=Dp (C+1) lp bu L) (g:=.tmp 18) rfl (by decide) (gf:=209) (lb:=#[.pointer (some ⟨C+1,0,none⟩)]) rfl trivial (enters_of func209 (by kernel_rfl) rfl)
   (Xi _ W1) (aD _) (λ_=>rfl)
   (Ro w τ0 g lp bu L vs (.slice va N vc) C) (aa1 w τ0 g lp bu L vs va N vc C (ss L br bk bh bu)) (λc W=>False)
   ?hI2 ?hI12 ?hG2 ?hQ2 ?hIx2 ?hN2 ?h02 ?assign2 ?body2 ?done2 ?stop2
  case hI2=>
   rintro X k A A' a kT;rw[Ck] at kT;exact a.loops kT oC N6 hg ht
  case hI12=>
   rintro X k a' A A' ⟨a,rfl⟩ kT;rw[Ck] at kT;exact⟨a.loops kT oC N6 hg ht,rfl⟩
  case hG2=>
   rintro X k A o a -;exact a.grow
  case hQ2=>
   rintro X k A a;exact a.q
  case hIx2=>
   rintro c A A' h _;exact h
  case hN2=>
   rintro h;cases h
  case h02=>exact⟨hsW,i2,i1,i5.any,PQ _ _ i5 i3.1,hD1,⟨L,mS.refl L,ho,(jw.of h hl).fr i5 (λ_ _ _ _=>id),GS.start L vs⟩,λb hb=>hb.elim⟩
  case assign2=>
   rintro y X k W hk ha hX hs;clear i1 i2 i3 i5
   gi_wp2
   simp[Oper.semAt,go_sem,Act.eval]
   gi_wp2
   exact⟨cE.refl _ _,ha,rfl⟩
  case body2=>
   rintro y X k a W hk ⟨⟨a0,a1,a2,a3,a4,ad,⟨L1,l1,l2,l3,l4⟩,a6⟩,rfl⟩ hX hs;rw[Ck] at hs;obtain⟨vb,vo,rfl,hcell⟩:=hvx k hk;have b1:=a1.1;have b2:=a1.2;have b3:=a2.1;have kV:=wD vb ⟨_,_,_,rfl⟩;have b4:=a3.cellAt hcell (by show ¬(_/\_);simp only[];omega);have La:k<vs.length:=by have:=aau.out;omega
   obtain⟨L2,m1,m2,m3,m4,⟨u0,m5⟩,m6,m7,m8⟩:=l3.write l1 l2 HB.sr HB.sk HB.sh HB.su (k:=k) (by have:=hNh.out;omega) (Xm _ (get_mem 0 La));have m9:=hid (l4.step l1.lh m8);clear m8 l4 i1 i2 i3 i5;generalize ss L br bk bh bu k=E at *;generalize vs.getD k 0=P at *;obtain⟨eb,eo⟩:=E;simp only[] at m3 m4 m5 m6 m7;have wR:(k:Int)<N:=by omega
   have fR:(0:Int)<=k:=by omega
   gi_wp2
   simp[Oper.semAt,go_sem,Act.eval,b3]
   gi_wp2
   simp[Oper.semAt,go_sem,Act.eval,b1]
   gi_wp2
   simp[Oper.semAt,go_sem,Act.eval,hk]
   gi_wp2
   simp[Oper.semAt,go_sem,Act.eval,b4]
   gi_wp2
   simp[Oper.semAt,go_sem,Act.eval]
   gi_wp2
   simp[Oper.semAt,go_sem,Act.eval,m4,m5];have hE1:eb≠C:=λe=>by rw[e,ht C (by omega)] at m7;omega
   have hE2:eb≠w.heap.size:=λe=>by rw[e,ht w.heap.size (by omega)] at m7;omega
   have hE3:eb≠C+1:=λe=>by rw[e,ht (C+1) (by omega)] at m7;omega
   have hE4:eb≠lp:=λe=>by have:=l3.t1;rw[e] at m6;omega
   have hE5:eb<w.heap.size:=by
    rcases fB eb w.heap.size with h1|h1
    ·exact h1
    ·have:=ht eb h1;omega
   have fE:Fr (λb=>b=eb) W (W.setCell ⟨eb,eo,none⟩ (vI (P:Int))):=(Fr.refl (λb=>b=eb) W).setCell (p:=⟨eb,eo,none⟩) (.inl rfl) _;have n1:=a1.fr fE (λe=>hE1 e.symm);have n2:=a2.fr fE (λe=>hE2 e.symm);have n3:Fr (λb=>g+2<=τ0 b/\τ0 b<=g+5) w (W.setCell ⟨eb,eo,none⟩ (vI (P:Int))):=a3.setCell (p:=⟨eb,eo,none⟩) (.inl ⟨m6,m7⟩) _;have n4:Dp (C+1) lp bu L (W.setCell ⟨eb,eo,none⟩ (vI (P:Int))):=m3.plq m1 HB.su (fE.cellAt a4.c (λe=>hE3 e.symm));have nd:=fE.gT ad (show ¬_=_ by omega);have fK:Fr (λb=>b=eb\/b=C) W (W.setCell ⟨eb,eo,none⟩ (vI (P:Int))):=fE.mono (λ_ _ h=>.inl h);generalize W.setCell ⟨eb,eo,none⟩ (vI (P:Int))=W2 at *;have c1:=n1.1;have c2:=n1.2;have jg:bX ((k:Int)+1):=⟨by omega,by omega⟩;have e9:((k+1:Nat):Int)=(k:Int)+1:=by omega
   gi_wp2
   simp[Oper.semAt,go_sem,Act.eval,c1]
   gi_wp2
   simp[Oper.semAt,go_sem,Act.eval];rw[IntWalk.i64_in _ jg]
   gi_wp2
   simp[Oper.semAt,go_sem,Act.eval,c1,c2]
   gi_wp2
   have fC:=jR W2 (C) 0 (vI ((k:Int)+1));have fL:Fr (λb=>b=eb\/b=C) W (W2.setCell ⟨C,0,none⟩ (vI ((k:Int)+1))):=fK.setCell (p:=⟨C,0,none⟩) (.inl (.inr rfl)) _
   have hK:cE (λb=>X b\/b=W1.heap.size\/b=W1.heap.size+1) W (W2.setCell ⟨C,0,none⟩ (vI ((k:Int)+1))):=by
    refine cE.yv fL ?_;rw[Ck];rintro b (hb|rfl|rfl)
    ·exact⟨hX b hb,by have:=a6 b hb;omega⟩
    ·omega
    ·omega
   have rh:=n1.set (vI ((k:Int)+1));rw[<-e9] at rh;rw[<-e9] at fC hK ⊢;exact⟨hK,hsW,rh,n2.fr fC (by omega),n3.join fC (λj hj e=>by omega),n4.fr fC (by omega) (by omega) (λh0 e=>by have:=N6 h0;omega),fC.gT nd (by omega),⟨L2,m1,m2,m3.fr fC (λb _ h5 h6 e=>by rw[e,ht C (by omega)] at h6;omega),m9.out⟩,a6⟩
  case done2=>
   rintro X W hf3 ⟨a0,a1,a2,a3,a4,ad,⟨L1,l1,l2,l3,l4⟩,a6⟩ WQ;have jU:=hid (show GS L L1 vs L.roots.length from by rw[aad.out];exact l4);clear l4;rw[Ck] at WQ;clear i1 i2 i3 i5
   gi_wp2
   have Ia:Fr (λb=>b=C+2) W (W.putObj (C+2) (.deferred none)):=(Fr.refl (λb=>b=C+2) W).putObj (.inl rfl) _;have ad2:=Ia.gT ad (show ¬_=_ by omega);have Dw:Fr (λb=>b=w.heap.size+3) (W.putObj (C+2) (.deferred none)) ((W.putObj (C+2) (.deferred none)).putObj (w.heap.size+3) (.deferred none)):=(Fr.refl (λb=>b=w.heap.size+3) _).putObj (.inl rfl) _;refine⟨by simp,.inl ⟨_,_,rfl,run_takeDeferred WQ,?_⟩⟩;refine⟨by simp,.inl ⟨_,_,rfl,run_takeDeferred ad2,?_⟩⟩;have h3:=(a3.join Ia (λj hj e=>by omega)).join Dw (λj hj e=>by omega);obtain⟨M',k1,k2,k3,k4⟩:=jw.mem h hl hg l1 ((l3.fr Ia (λb _ h5 h6 e=>by rw[e,ht (C+2) (by omega)] at h6;omega)).fr Dw (λb _ h5 h6 e=>by rw[e,ht (w.heap.size+3) (by omega)] at h6;omega)) h3;exact⟨_,results_tmp rfl _ _ _,rfl,L1,M',τ0,jU.out,l1,l2,k1,k2,k3,k4⟩
  case stop2=>
   rintro c W h;exact h.elim
 case stop=>
  rintro c W h;exact h.elim
theorem uj{c i:Nat}{now:Int}{w:ag}(h:w.cell? ⟨c,i,none⟩=some (vI now)):aJ prog 82 #[.pointer (some ⟨c,i,none⟩)] w λe w'=>e=.returned (vI now)/\w'=w:=by
 have hl:=run_call_load (P:=prog) func151 (by kernel_rfl) (by kernel_rfl) (by kernel_rfl) .i64 (by kernel_rfl) h;go_in;go_wp2;go_ret;exact⟨rfl,rfl⟩
theorem OO{c i:Nat}{now y:Int}{w:ag}(h:w.cell? ⟨c,i,none⟩=some (vI now))(hf:w.frozen? ⟨c,i,none⟩=false):aJ prog 180 #[.pointer (some ⟨c,i,none⟩),vI now,vI y] w λe w'=>e=.returned (.bool true)/\w'=w.setCell ⟨c,i,none⟩ (vI y):=by
 have hl:=run_call_cas_hit (P:=prog) func220 (by kernel_rfl) (by kernel_rfl) (by kernel_rfl) .i64 (by kernel_rfl) (y:=y) h hf;go_in;go_wp2;go_ret;exact⟨rfl,rfl⟩
theorem Hh(w:ag)(n:Int):aJ prog 38 #[vI n] w λe w'=>∃m:Int,e=.returned (pV w.heap.size)/\0<=m/\m<=1099511627776/\af w' w.heap.size [vI (0:Nat),vI m]/\Calm w w':=by
 go_in;go_wp2
 all_goals first
  | (go_ret;exact⟨rfl,_,by omega,by omega,af.new w [vI 0,vI _] _,ah.alloc _⟩)
theorem xI{w:ag}{c:Nat}{now:Int}(h:Own w c 0 (vI now)):aJ prog 46 #[pV c] w λe w'=>e=.returned (vI now)/\w'=w:=by
 have h1:=h.1;go_in;go_wp2_with (go_at_call 82;refine(uj h1).mono ?_;rintro e w' ⟨rfl,rfl⟩)
 go_ret;exact⟨rfl,rfl⟩
def GR(now:Nat)(eI:Int):Prop:=0<=eI/\eI<=1099511627776/\now<=1099511627776
theorem Hg{w:ag}{c now:Nat}{eI:Int}(h:af w c [vI (now:Int),vI eI])(ho:GR now eI)(n:Nat)(hn:n<=1000):aJ prog 119 #[pV c,vI (n:Int)] w λe w'=>(∃b:Bool,e=.returned (.bool b)/\(b=false->eI<(now:Int)+n))/\Calm w w':=by
 have h0:=h 0 _ rfl;have h1:=(h 1 _ rfl).1;obtain⟨o1,o2,o3⟩:=ho;have fA:IntKind.i64.wrap (eI-now)=eI-now:=IntWalk.i64_in _ (by omega);have wU:((0:Int)<=n):=by omega
 go_in;go_wp2_with fail
 have q0:∀x:a_ w,x.w.cell? ⟨c,0,none⟩=some (vI (now:Int)):=λx=>x.cell h0.1;have q1:∀x:a_ w,x.w.cell? ⟨c,1,none⟩=some (vI eI):=λx=>x.cell h1;refine bO (by kernel_rfl) (by kernel_rfl) ?_
 repeat (go_big_quiet_step ((go_at_call 46;exact Calls.dC ((xI (h0.calm (a_.calm _))).mono (λe w' h=>⟨h.1,by rw[h.2];exact ah⟩)))))
 refine wpQuiet_nil ?_;intro V2 hw';have c4:=a_.out hw';clear hw' q0 q1;go_wp2;go_ret;refine⟨⟨_,rfl,λhb=>?_⟩,c4⟩;have hb:¬((n:Int)<=eI-now):=by simpa[wU] using hb
 omega
theorem DU{w:ag}{c now:Nat}{eI:Int}(h:af w c [vI (now:Int),vI eI])(ho:GR now eI):aJ prog 127 #[pV c] w λe w'=>∃ (v g_:Nat) (b:Bool),e=.returned (.tuple #[vI (v:Int),.bool b])/\af w' c [vI (g_:Int),vI eI]/\GR g_ eI/\(v<=1099511627776/\v<=g_/\now<=g_/\g_<=now+1)/\Fr (λb=>b=c) w w':=by
 have h0:=h 0 _ rfl;have h1:=(h 1 _ rfl).1;have Ua:=h0.1;have h01:=h0.2;obtain⟨o1,o2,o3⟩:=ho;have fA:IntKind.i64.wrap ((now:Int)+1)=now+1:=IntWalk.i64_in _ (by omega);have hF:=jR w (c) 0 (vI ((now:Int)+1));go_in;go_wp2_with fail
 refine wp_loop_once ?_
 by_cases hm:eI<=now
 ·go_wp2_with (go_at_call 82;refine(uj h0.1).mono ?_;rintro e w' ⟨rfl,rfl⟩)
  go_ret2
  exact⟨0,now,false,rfl,h,⟨o1,o2,o3⟩,⟨by omega,by omega,by omega,by omega⟩,ah⟩
 ·go_wp2_with (go_at_call 82;refine(uj h0.1).mono ?_;rintro e w' ⟨rfl,rfl⟩)
  go_wp2_with (go_at_call 180;refine(OO h0.1 h0.2).mono ?_;rintro e w' ⟨rfl,rfl⟩)
  go_ret2
  refine⟨now+1,now+1,true,?_,?_,⟨o1,o2,by omega⟩,⟨by omega,by omega,by omega,by omega⟩,hF⟩
  ·rw[show((now+1:Nat):Int)=(now:Int)+1 by omega];rfl
  ·have:=h.set 0 (vI ((now:Int)+1)) (by simp);rw[show((now+1:Nat):Int)=(now:Int)+1 by omega];exact this
section
structure It where
 at_:Nat
 seq:Int
def iH(x:It):List aA:=[vI x.at_,vI x.seq]
theorem kL(x:It):(iH x).length=2:=rfl
abbrev dI:It:=⟨0,0⟩
def pP(v:aA)(l:List It):tQ:=fU 123 2 v l.length (l.flatMap iH)
structure HD where
 B:HB
 A:HS
 c:Nat
 ph:Nat
 rv:aA
 lv:aA
 rd:aj
 ls:aj
def aH(D:HD):tQ:=⟨λk=>dz D.B k\/v_ D.c D.rv D.lv k,λw=>∃X,CH w 0 D.c D.B D.A X D.ph D.rv D.lv D.rd D.ls,
 λh f hs=>by
  obtain⟨X,h⟩:=h
  exact⟨X,h.ha.fr f (λk hk=>hs k (.inl hk)),h.cy.fr f (λk hk=>hs k (.inr hk)),h.ap⟩,
 λh k hk=>by
  obtain⟨X,h⟩:=h;rcases hk with hk|hk
  ·exact h.ha.lt k hk
  ·exact(h.cy.lt k hk).1⟩
structure gl where
 xp:Nat
 live:Bool
 start:Int
 seen:Int
 lp:Nat
 tv:aA
 took:List It
 L:cd
def dT:gl:=⟨0,false,0,0,0,.slice none 0 0,[],cd.new 0 0⟩
def gl.cs(t:Nat)(x:gl):List aA:=[vI t,.bool x.live,vI x.start,vI x.seen,pV x.lp,x.tv]
structure JT(M:Mem)(g t:Nat)(x:gl):Prop where
 c:M g=bD x.xp (vI t) [.bool x.live,vI x.start,vI x.seen,pV x.lp,x.tv]
 l:cg M g x.lp x.L
 k:M (g+6)=pP x.tv x.took
structure aE where
 D:HD
 ck:Nat
 now:Nat
 eI:Int
 sp:Nat
 mj:aA
 aW:List gl
 qv:aA
 qu:List It
 next:Nat
 aK:Int
 dm:Nat
 lv:aA
 lost:aj
 cv:aA
 bK:aj
def aE.tx(S:aE)(t:Nat):gl:=S.aW.getD t dT
def aE.cs(S:aE):List aA:=[pV S.D.B.hp,pV S.D.c,pV S.ck,S.mj,S.qv,vI S.next,vI S.aK,vI S.dm,S.lv,S.cv]
structure gZ(M:Mem)(S:aE):Prop where
 h:M 0=aH S.D
 c:M 2=bD S.sp (pV S.D.B.hp) [pV S.D.c,pV S.ck,S.mj,S.qv,vI S.next,vI S.aK,vI S.dm,S.lv,S.cv]
 k:M 3=bD S.ck (vI S.now) [vI S.eI]
 t:M 4=fU 110 1 S.mj S.aW.length (S.aW.map λx=>pV x.xp)
 q:M 5=pP S.qv S.qu
 l:M 6=fV S.lv (nI S.lost)
 m:M 7=fV S.cv (nI S.bK)
 x:∀t,t<S.aW.length->JT M (10+8*t) t (S.tx t)
 z:∀t,500<=t->M t=rQ
structure GY(x:gl):Prop where
 l:JK x.L
 f:x.L.reads.length<=200/\x.L.keeps.length<=200/\x.L.holds.length<=200/\x.L.az.length<=200
 m:0<=x.L.mr/\x.L.mr<=200/\0<=x.L.mu/\x.L.mu<=200
 i:bX x.start/\bX x.seen
 k:∀i∈x.took,i.at_<=131072/\bX i.seq
def aE.tM(S:aE):Nat:=S.qu.length+(S.aW.map λx=>x.took.length).sum
def aE.K(S:aE)(t s:Nat):Prop:=(S.tx t).live=true/\1<=s/\∃h∈(S.tx t).L.holds,nr Ob.ser S.D.A h.at_=s
structure Inv(S:aE):Prop where
 hv:iJ S.D.A S.K S.now
 ve:S.dm<=S.now
 st:∀t,(S.tx t).live=true->(S.tx t).start<=S.now
 vs:∀t,∀h∈(S.tx t).L.holds,0<=h.dm/\h.dm<=S.now
 ho:S.aK = -1\/∃t:Nat,S.aK=t/\(S.tx t).live=true
structure iO(I:aE->Prop)(s q:Nat)(S:aE):Prop where
 hw:HW S.D.A
 ph:S.D.ph=0↔S.D.A.mv=false
 p2:S.D.ph<=2
 se:S.D.A.ser<=s
 rd:S.D.rd=[]
 ls:S.D.ls=[]
 ck:GR S.now S.eI
 n:S.aW.length<=8
 x:∀t,t<S.aW.length->GY (S.tx t)
 qu:∀i∈S.qu,i.at_<=131072/\bX i.seq
 tt:S.tM<=q
 nx:S.next<=q
 ho:bX S.aK
 ve:S.dm<=1099511627776
 lo:S.lost.length<=q
 ca:S.bK.length<=q
 iv:I S
def gR(I:aE->Prop)(w:ag)(τ:Nat->Nat)(s q:Nat)(S:aE):Prop:=∃M,bE w τ M/\gZ M S/\iO I s q S
abbrev St:=gR Inv
structure wG(S S':aE):Prop where
 sp:S'.sp=S.sp
 hp:S'.D.B.hp=S.D.B.hp
 c:S'.D.c=S.D.c
 ck:S'.ck=S.ck
 n:S'.D.A.n=S.D.A.n
 len:S'.aW.length=S.aW.length
 xp:∀t,(S'.tx t).xp=(S.tx t).xp
 lp:∀t,(S'.tx t).lp=(S.tx t).lp
 fi:S'.bK.length+S'.D.A.fin.length+S.D.A.ser<=S.bK.length+S.D.A.fin.length+S'.D.A.ser
 nw:S.now<=S'.now
structure Fix(S S':aE):Prop where
 sp:S'.sp=S.sp
 hp:S'.D.B.hp=S.D.B.hp
 c:S'.D.c=S.D.c
 ck:S'.ck=S.ck
 n:S'.D.A.n=S.D.A.n
 len:S'.aW.length=S.aW.length
 xp:∀t,(S'.tx t).xp=(S.tx t).xp
 lp:∀t,(S'.tx t).lp=(S.tx t).lp
 fi:S'.bK.length+S'.D.A.fin.length+S.D.A.ser<=S.bK.length+S.D.A.fin.length+S'.D.A.ser
 nw:S.now<=S'.now
 lo:S'.lost=S.lost
 ph:S'.D.ph=S.D.ph
theorem Fix.refl(S:aE):Fix S S:=⟨rfl,rfl,rfl,rfl,rfl,rfl,λ_=>rfl,λ_=>rfl,aD _,aD _,rfl,rfl⟩
theorem Fix.f0{S S':aE}(h:Fix S S'):wG S S':=⟨h.sp,h.hp,h.c,h.ck,h.n,h.len,h.xp,h.lp,h.fi,h.nw⟩
theorem Fix.trans{A B C:aE}(h:Fix A B)(k:Fix B C):Fix A C:=⟨k.sp.trans h.sp,k.hp.trans h.hp,k.c.trans h.c,k.ck.trans h.ck,k.n.trans h.n,k.len.trans h.len,λt=>(k.xp t).trans (h.xp t),λt=>(k.lp t).trans (h.lp t),by have:=h.fi;have:=k.fi;omega,gw h.nw k.nw,k.lo.trans h.lo,k.ph.trans h.ph⟩
theorem wG.trans{A B C:aE}(h:wG A B)(k:wG B C):wG A C:=⟨k.sp.trans h.sp,k.hp.trans h.hp,k.c.trans h.c,k.ck.trans h.ck,k.n.trans h.n,k.len.trans h.len,λt=>(k.xp t).trans (h.xp t),λt=>(k.lp t).trans (h.lp t),by have:=h.fi;have:=k.fi;omega,gw h.nw k.nw⟩
def aE.aU(S:aE)(t:Nat)(x:gl):aE:={ S with aW:=S.aW.set t x }
theorem qX{α:Type}{l:List α}{t:Nat}(ht:t<l.length)(x d:α):(l.set t x).getD t d=x:=by
 rw[aS,List.getElem?_set_self ht];rfl
theorem nJ{α:Type}{l:List α}{t u:Nat}(h:u≠t)(x d:α):(l.set t x).getD u d=l.getD u d:=by
 rw[aS,List.getElem?_set_ne (by omega),<-aS]
theorem aE.dS{S:aE}{t:Nat}(ht:t<S.aW.length)(x:gl):(S.aU t x).tx t=x:=qX ht x dT
theorem aE.eJ{S:aE}{t u:Nat}(h:u≠t)(x:gl):(S.aU t x).tx u=S.tx u:=nJ h x dT
theorem qo{α β:Type}(f:α->β)(d x:α):∀ (l:List α) (t:Nat),t<l.length->f x=f (l.getD t d)->(l.set t x).map f=l.map f
 | [],_,h,_=>by simp at h
 | y::l,0,_,e=>by simp only[iz,List.map_cons];rw[e];rfl
 | y::l,t+1,h,e=>by simp only[jk,List.map_cons];rw[qo f d x l t (by simpa using h) e]
theorem Ai{α:Type}(f:α->Nat)(d x:α):∀ (l:List α) (t:Nat),t<l.length->((l.set t x).map f).sum+f (l.getD t d)=(l.map f).sum+f x
 | [],_,h=>by simp at h
 | y::l,0,_=>by simp only[iz,List.map_cons,List.sum_cons];show f x+_+f y=_;omega
 | y::l,t+1,h=>by
   simp only[jk,List.map_cons,List.sum_cons];have:=Ai f d x l t (by simpa using h);show f y+_+f (l.getD t d)=_;omega
theorem JT.only{P:Nat->Prop}{M M':Mem}{g t:Nat}{x:gl}(h:JT M g t x)(o:Mem.cf P M M')(hp:∀j,g<=j->j<=g+6->¬P j):JT M' g t x:=
 ⟨(o g (hp _ (by omega) (by omega))).trans h.c,h.l.only o (λj h1 h2=>hp j (by omega) (by omega)),(o (g+6) (hp _ (by omega) (by omega))).trans h.k⟩
theorem gZ.aU{M M':Mem}{S:aE}{t:Nat}{x':gl}(h:gZ M S)(ht:t<S.aW.length)(h8:S.aW.length<=8)(o:Mem.cf (λj=>10+8*t<=j/\j<=10+8*t+6) M M')(hx:JT M' (10+8*t) t x')(VJ:x'.xp=(S.tx t).xp):gZ M' (S.aU t x'):=by
 refine⟨(o 0 (by omega)).trans h.h,(o 2 (by omega)).trans h.c,(o 3 (by omega)).trans h.k,(o 4 (by omega)).trans ?_,(o 5 (by omega)).trans h.q,(o 6 (by omega)).trans h.l,(o 7 (by omega)).trans h.m,?_,λu hu=>(o u (by omega)).trans (h.z u hu)⟩
 ·rw[h.t];show fU _ 1 S.mj S.aW.length _=fU _ 1 S.mj (S.aW.set t x').length ((S.aW.set t x').map _);rw[bN,qo _ dT x' S.aW t ht (by rw[VJ];rfl)]
 ·intro u hu;have Ik:u<S.aW.length:=by simpa[aE.aU] using hu
  by_cases e:u=t
  ·subst e;rw[show(S.aU u x').tx u=x' from aE.dS ht x'];exact hx
  ·rw[show(S.aU t x').tx u=S.tx u from aE.eJ e x'];exact(h.x u Ik).only o (λj h1 h2=>by omega)
theorem aE.kN{S:aE}{t:Nat}{x':gl}(ht:t<S.aW.length):(S.aU t x').tM+(S.tx t).took.length=S.tM+x'.took.length:=by
 have h2:=Ai (λx:gl=>x.took.length) dT x' S.aW t ht;unfold aE.tM;show S.qu.length+((S.aW.set t x').map λx=>x.took.length).sum+(S.aW.getD t dT).took.length=_;omega
theorem Inv.yG{S:aE}{t:Nat}{x':gl}(h:Inv S)(ht:t<S.aW.length)(hK:iJ S.D.A (λu s=>S.K u s/\u≠t) S.now)(hs:x'.live=true->x'.start<=S.now)(hh:S.aK=t->x'.live=true)(hv:∀h∈x'.L.holds,0<=h.dm/\h.dm<=S.now):Inv (S.aU t x'):=by
 refine⟨hK.mono (λu k hu=>?_) (aD _),h.ve,λu=>?_,λu=>?_,?_⟩
 ·unfold aE.K;rw[show(S.aU t x').tx u=S.tx u from aE.eJ hu.2 x'];exact hu.1
 ·by_cases e:u=t
  ·subst e;rw[show(S.aU u x').tx u=x' from aE.dS ht x'];exact hs
  ·rw[show(S.aU t x').tx u=S.tx u from aE.eJ e x'];exact h.st u
 ·by_cases e:u=t
  ·subst e;rw[show(S.aU u x').tx u=x' from aE.dS ht x'];exact hv
  ·rw[show(S.aU t x').tx u=S.tx u from aE.eJ e x'];exact h.vs u
 ·rcases h.ho with e|⟨u,e,hl⟩
  ·exact .inl e
  ·refine .inr ⟨u,e,?_⟩
   by_cases e2:u=t
   ·subst e2;rw[show(S.aU u x').tx u=x' from aE.dS ht x'];exact hh e
   ·rw[show(S.aU t x').tx u=S.tx u from aE.eJ e2 x'];exact hl
theorem Inv.aU{S:aE}{t:Nat}{x':gl}(h:Inv S)(ht:t<S.aW.length)(hl:x'.live=(S.tx t).live)(hs:x'.start=(S.tx t).start)(hh:∀h∈(S.tx t).L.holds,h∈x'.L.holds)(hv:∀h∈x'.L.holds,0<=h.dm/\h.dm<=S.now):Inv (S.aU t x'):=by
 refine⟨h.hv.mono (λu k hu=>?_) (aD _),h.ve,λu=>?_,λu=>?_,?_⟩
 ·obtain⟨h1,h2,z,h3,h4⟩:=hu
  by_cases e:u=t
  ·subst e;refine⟨?_,h2,z,?_,h4⟩
   ·rw[show(S.aU u x').tx u=x' from aE.dS ht x',hl];exact h1
   ·rw[show(S.aU u x').tx u=x' from aE.dS ht x'];exact hh z h3
  ·refine⟨?_,h2,z,?_,h4⟩
   ·rw[show(S.aU t x').tx u=S.tx u from aE.eJ e x'];exact h1
   ·rw[show(S.aU t x').tx u=S.tx u from aE.eJ e x'];exact h3
 ·by_cases e:u=t
  ·subst e;rw[show(S.aU u x').tx u=x' from aE.dS ht x',hl,hs];exact h.st u
  ·rw[show(S.aU t x').tx u=S.tx u from aE.eJ e x'];exact h.st u
 ·by_cases e:u=t
  ·subst e;rw[show(S.aU u x').tx u=x' from aE.dS ht x'];exact hv
  ·rw[show(S.aU t x').tx u=S.tx u from aE.eJ e x'];exact h.vs u
 ·rcases h.ho with e|⟨u,e,kT⟩
  ·exact .inl e
  ·refine .inr ⟨u,e,?_⟩
   by_cases e2:u=t
   ·subst e2;rw[show(S.aU u x').tx u=x' from aE.dS ht x',hl];exact kT
   ·rw[show(S.aU t x').tx u=S.tx u from aE.eJ e2 x'];exact kT
theorem iO.yG{I:aE->Prop}{s q:Nat}{S:aE}{t:Nat}{x':gl}(h:iO I s q S)(ht:t<S.aW.length)(hx:GY x')(hk:(S.aU t x').tM<=q)(hi:I (S.aU t x')):iO I s q (S.aU t x'):=by
 refine⟨h.hw,h.ph,h.p2,h.se,h.rd,h.ls,h.ck,by simpa[aE.aU] using h.n,?_,h.qu,hk,h.nx,h.ho,h.ve,h.lo,h.ca,hi⟩;intro u hu;have Ik:u<S.aW.length:=by simpa[aE.aU] using hu
 by_cases e:u=t
 ·subst e;rw[show(S.aU u x').tx u=x' from aE.dS ht x'];exact hx
 ·rw[show(S.aU t x').tx u=S.tx u from aE.eJ e x'];exact h.x u Ik
theorem iO.aU{I:aE->Prop}{s q:Nat}{S:aE}{t:Nat}{x':gl}(h:iO I s q S)(ht:t<S.aW.length)(hx:GY x')(hk:x'.took.length<=(S.tx t).took.length)(hi:I (S.aU t x')):iO I s q (S.aU t x'):=
 h.yG ht hx (by have:=h.tt;have:=S.kN (x':=x') ht;omega) hi
theorem Fix.aU{S:aE}{t:Nat}{x':gl}(ht:t<S.aW.length)(h1:x'.xp=(S.tx t).xp)(h2:x'.lp=(S.tx t).lp):Fix S (S.aU t x'):=by
 refine⟨rfl,rfl,rfl,rfl,rfl,by simp[aE.aU],λu=>?_,λu=>?_,aD _,aD _,rfl,rfl⟩
 ·by_cases e:u=t
  ·subst e;rw[show(S.aU u x').tx u=x' from aE.dS ht x'];exact h1
  ·rw[show(S.aU t x').tx u=S.tx u from aE.eJ e x']
 ·by_cases e:u=t
  ·subst e;rw[show(S.aU u x').tx u=x' from aE.dS ht x'];exact h2
  ·rw[show(S.aU t x').tx u=S.tx u from aE.eJ e x']
def aE.h_(S:aE)(B':HB)(A':HS):aE:={ S with D:={ S.D with B:=B',A:=A' } }
theorem Inv.h_{S:aE}{B':HB}{A':HS}(h:Inv S)(k:AX S.D.A A')(hv:iJ A' S.K S.now):Inv (S.h_ B' A'):=by
 refine⟨hv.mono (λu s hu=>?_) (aD _),h.ve,h.st,h.vs,h.ho⟩;obtain⟨h1,h2,z,h3,h4⟩:=hu;exact⟨h1,h2,z,h3,(k _ (by rw[h4];exact h2)).trans h4⟩
theorem Inv.lv{S:aE}{B':HB}{A':HS}(h:Inv S)(k:AX S.D.A A')(l:Lv S.D.A A'):Inv (S.h_ B' A'):=h.h_ k (h.hv.lv l)
theorem gZ.IK{M M':Mem}{S:aE}{D':HD}(h:gZ M S)(o:Mem.cf (λj=>j=0) M M')(h0:M' 0=aH D')(h1:D'.B.hp=S.D.B.hp)(h2:D'.c=S.D.c):gZ M' { S with D:=D' }:=
 ⟨h0,by rw[o 2 (by omega),h.c,h1,h2],(o 3 (by omega)).trans h.k,(o 4 (by omega)).trans h.t,(o 5 (by omega)).trans h.q,(o 6 (by omega)).trans h.l,(o 7 (by omega)).trans h.m,λt ht=>(h.x t ht).only o (λj h1 h2=>by omega),λu hu=>(o u (by omega)).trans (h.z u hu)⟩
section
variable {w:ag}{τ:Nat->Nat}{s q:Nat}{S:aE}
theorem gR.calm{w':ag}{I:aE->Prop}(h:gR I w τ s q S)(c:Calm w w'):gR I w' τ s q S:=by
 obtain⟨M,h1,h2,h3⟩:=h;exact⟨M,h1.calm c,h2,h3⟩
theorem gR.ok{I:aE->Prop}(h:gR I w τ s q S):iO I s q S:=by obtain⟨M,h1,h2,h3⟩:=h;exact h3
theorem gR.cells{I:aE->Prop}(h:gR I w τ s q S):af w S.sp S.cs:=by
 obtain⟨M,h1,h2,h3⟩:=h;have:=h1.at_ 2;rw[h2.c] at this;exact this
theorem gR.clk{I:aE->Prop}(h:gR I w τ s q S):af w S.ck [vI S.now,vI S.eI]:=by
 obtain⟨M,h1,h2,h3⟩:=h;have:=h1.at_ 3;rw[h2.k] at this;exact this
theorem gR.lW{I:aE->Prop}(h:gR I w τ s q S){t:Nat}(ht:t<S.aW.length):af w (S.tx t).xp (gl.cs t (S.tx t)):=by
 obtain⟨M,h1,h2,h3⟩:=h;have:=h1.at_ (10+8*t);rw[(h2.x t ht).c] at this;exact this
theorem gR.QW{I:aE->Prop}(h:gR I w τ s q S):w.ownsRow 0 110 1 S.mj S.aW.length (S.aW.map λx=>pV x.xp):=by
 obtain⟨M,h1,h2,h3⟩:=h;have:=h1.at_ 4;rw[h2.t] at this;exact this
theorem gR.QB{I:aE->Prop}(h:gR I w τ s q S):w.ownsRow 0 123 2 S.qv S.qu.length (S.qu.flatMap iH):=by
 obtain⟨M,h1,h2,h3⟩:=h;have:=h1.at_ 5;rw[h2.q] at this;exact this
theorem gR.tok{I:aE->Prop}(h:gR I w τ s q S){t:Nat}(ht:t<S.aW.length):w.ownsRow 0 123 2 (S.tx t).tv (S.tx t).took.length ((S.tx t).took.flatMap iH):=by
 obtain⟨M,h1,h2,h3⟩:=h;have:=h1.at_ (10+8*t+6);rw[(h2.x t ht).k] at this;exact this
theorem gR.heap{I:aE->Prop}(h:gR I w τ s q S):∃X,CH w 0 S.D.c S.D.B S.D.A X S.D.ph S.D.rv S.D.lv S.D.rd S.D.ls:=by
 obtain⟨M,h1,h2,h3⟩:=h;have:=h1.at_ 0;rw[h2.h] at this;exact this
theorem gR.iW{I:aE->Prop}(h:gR I w τ s q S):∃X,cz w S.D.B S.D.A X:=let ⟨X,k⟩:=h.heap;⟨X,k.ha⟩
theorem St.gi{w':ag}{A':HS}{s':Nat}(h:St w τ s q S)(hi:Av w S.D.B w' A')(hm:A'.mv=S.D.A.mv)(hs:A'.ser<=s')(oY:∀B',Inv (S.h_ B' A')) :
 ∃B' aL,St w' aL s' q (S.h_ B' A')/\aC w τ w' aL/\B'.hp=S.D.B.hp:=by
 obtain⟨M,h1,h2,h3⟩:=h;obtain⟨B',X',k1,k2,k3⟩:=hi;have h0:=h1.at_ 0;rw[h2.h] at h0;obtain⟨X,hc⟩:=h0;have Ek:=hc.jz k1 k2;have hb:(M 0).dh=λk=>dz S.D.B k\/v_ S.D.c S.D.rv S.D.lv k:=by rw[h2.h];rfl
 obtain⟨aL,j1,j2⟩:=h1.put (t:=0) (a:=aH { S.D with B:=B',A:=A' }) (k2.fr.mono (λk _ e=>by rw[hb];exact .inl e)) ⟨X',Ek⟩ (by
  rintro k (hk|hk)
  ·rw[hb];rcases k2.new k hk with e|e
   ·exact .inl (.inl e)
   ·exact .inr e
  ·rw[hb];exact .inl (.inr hk)) (by decide)
 refine⟨B',aL,⟨_,j1,h2.IK (D':={ S.D with B:=B',A:=A' }) (Mem.cf.put M _ rfl) (Mem.aG _ _ _) k2.hp rfl,?_⟩,j2,k2.hp⟩;exact⟨k3,by rw[show(S.h_ B' A').D.ph=S.D.ph from rfl,show(S.h_ B' A').D.A.mv=A'.mv from rfl,hm];exact h3.ph,h3.p2,hs,h3.rd,h3.ls,h3.ck,h3.n,h3.x,h3.qu,h3.tt,h3.nx,h3.ho,h3.ve,h3.lo,h3.ca,oY B'⟩
theorem Fix.h_{S:aE}{B':HB}{A':HS}(h:B'.hp=S.D.B.hp)(hn:A'.n=S.D.A.n)(hf:A'.fin.length+S.D.A.ser<=S.D.A.fin.length+A'.ser):Fix S (S.h_ B' A'):=⟨rfl,h,rfl,rfl,hn,rfl,λ_=>rfl,λ_=>rfl,by show _+A'.fin.length+_<=_+_+A'.ser;have:(S.h_ B' A').bK=S.bK:=rfl;rw[this];omega,aD _,rfl,rfl⟩
theorem Inv.gL{S:aE}{t:Nat}(h:Inv S)(hl:(S.tx t).live=false):iJ S.D.A (λu s=>S.K u s/\u≠t) S.now:=h.hv.mono (λu s hu=>⟨hu,λe=>by subst e;rw[hu.1] at hl;cases hl⟩) (aD _)
theorem iO.mono{I:aE->Prop}{s' q':Nat}(h:iO I s q S)(hs:s<=s')(hq:q<=q'):iO I s' q' S:=
 ⟨h.hw,h.ph,h.p2,by have:=h.se;omega,h.rd,h.ls,h.ck,h.n,h.x,h.qu,by have:=h.tt;omega,by have:=h.nx;omega,h.ho,h.ve,by have:=h.lo;omega,by have:=h.ca;omega,h.iv⟩
theorem gR.jX{I:aE->Prop}{w':ag}{aL:Nat->Nat}{M M':Mem}{t:Nat}{L':cd}(h2:gZ M S)(h3:iO I s q S)(ht:t<S.aW.length)(k1:bE w' aL M')(k2:cg M' (10+8*t) (S.tx t).lp L')(k3:Mem.cf (λj=>10+8*t+1<=j/\j<=10+8*t+5) M M')
 (hx:GY { S.tx t with L:=L' }) (hi:I (S.aU t { S.tx t with L:=L' })):gR I w' aL s q (S.aU t { S.tx t with L:=L' }):=by
 refine⟨M',k1,h2.aU ht h3.n (k3.mono (λj hj=>by omega)) ⟨?_,k2,?_⟩ rfl,h3.aU ht hx (aD _) hi⟩
 ·rw[k3 _ (by omega)];exact(h2.x t ht).c
 ·rw[k3 _ (by omega)];exact(h2.x t ht).k
theorem gR.ack{I:aE->Prop}{w':ag}{M:Mem}{t:Nat}{x':gl}(h1:bE w τ M)(h2:gZ M S)(h3:iO I s q S)(ht:t<S.aW.length)(f:Fr (λb=>b=(S.tx t).xp) w w')(hc:af w' (S.tx t).xp (gl.cs t x'))
 (e1:x'.xp=(S.tx t).xp) (e2:x'.lp=(S.tx t).lp) (e3:x'.tv=(S.tx t).tv) (e4:x'.took=(S.tx t).took) (e5:x'.L=(S.tx t).L) (hx:GY x') (hi:I (S.aU t x')):gR I w' τ s q (S.aU t x')/\aC w τ w' τ:=by
 have hb:(M (10+8*t)).dh=λk=>k=(S.tx t).xp:=by rw[(h2.x t ht).c];rfl
 have f':Fr (M (10+8*t)).dh w w':=f.mono (λk _ e=>by rw[hb];exact e);have k1:=h1.put' (t:=10+8*t) (a:=bD (S.tx t).xp (vI t) [.bool x'.live,vI x'.start,vI x'.seen,pV x'.lp,x'.tv]) f' hc (λk hk=>by rw[hb];exact hk);have o:=Mem.cf.put M (P:=λj=>j=10+8*t) (bD (S.tx t).xp (vI t) [.bool x'.live,vI x'.start,vI x'.seen,pV x'.lp,x'.tv]) rfl;have hn:=h3.n;refine⟨⟨_,k1,h2.aU ht h3.n (o.mono (λj hj=>by omega)) ⟨?_,?_,?_⟩ e1,h3.aU ht hx (by rw[e4];exact aD _) hi⟩,aC.piece h1 f' (by omega)⟩
 ·rw[Mem.aG,e1]
 ·have:=(h2.x t ht).l.only o (λj g1 g2 (e:j=10+8*t)=>by omega);rw[<-e5,<-e2] at this;exact this
 ·rw[Mem.aB _ _ (by omega),e3,e4];exact(h2.x t ht).k
theorem gR.QN{I:aE->Prop}{w':ag}{M:Mem}{t:Nat}{x':gl}(h1:bE w τ M)(h2:gZ M S)(h3:iO I s q S)(ht:t<S.aW.length)(f:Fr (λb=>b=(S.tx t).xp\/ay (S.tx t).tv b) w w')(hc:af w' (S.tx t).xp (gl.cs t x'))
 (ho:w'.ownsRow 0 123 2 x'.tv x'.took.length (x'.took.flatMap iH)) (fZ:∀b,ay x'.tv b->ay (S.tx t).tv b\/w.heap.size<=b)
 (e1:x'.xp=(S.tx t).xp) (e2:x'.lp=(S.tx t).lp) (e5:x'.L=(S.tx t).L) (hx:GY x') (hk:(S.aU t x').tM<=q) (hi:I (S.aU t x')):∃aL,gR I w' aL s q (S.aU t x')/\aC w τ w' aL:=by
 have hn:=h3.n;have hb:(M (10+8*t)).dh=λk=>k=(S.tx t).xp:=by rw[(h2.x t ht).c];rfl
 have kG:(M (10+8*t+6)).dh=ay (S.tx t).tv:=by rw[(h2.x t ht).k];rfl
 obtain⟨aL,k1,k2⟩:=h1.xm (t:=10+8*t) (u:=10+8*t+6) (by omega) (a:=bD (S.tx t).xp (vI t) [.bool x'.live,vI x'.start,vI x'.seen,pV x'.lp,x'.tv]) (b:=pP x'.tv x'.took)
  (by rw[hb,kG];exact f) hc ho (λk hk=>by rw[hb];exact hk) (λk hk=>by rw[kG];exact fZ k hk) (by omega) (by omega)
 have o:=(Mem.cf.put M (P:=λj=>j=10+8*t\/j=10+8*t+6) (bD (S.tx t).xp (vI t) [.bool x'.live,vI x'.start,vI x'.seen,pV x'.lp,x'.tv]) (.inl rfl)).trans (Mem.cf.put _ (pP x'.tv x'.took) (.inr rfl));refine⟨aL,⟨_,k1,h2.aU ht h3.n (o.mono (λj hj=>by omega)) ⟨?_,?_,?_⟩ e1,h3.yG ht hx hk hi⟩,k2⟩
 ·rw[Mem.aB _ _ (by omega),Mem.aG,e1]
 ·have:=(h2.x t ht).l.only o (λj g1 g2 (e:j=10+8*t\/j=10+8*t+6)=>by omega);rw[<-e5,<-e2] at this;exact this
 ·rw[Mem.aG]
end
end
section
theorem CP{K:Nat->Nat->Prop}{n ser W:Nat}(h:To K n ser W)(h8:∀t s,K t s->t<8)(hn:n<=1099511627776)(w:ag):aJ prog 179 #[wV W] w λe w'=>
 ((∃t,W=2*t+1/\K t ser/\e=.returned (.tuple #[vI (t:Nat),vI 0,.bool true]))\/(∃v,W=2*v/\v<=n/\e=.returned (.tuple #[vI 0,vI (v:Nat),.bool false])))/\w=w':=by
 rcases h with ⟨t,rfl,hk⟩|⟨v,rfl,hv⟩
 ·refine(E0 t (h8 _ _ hk) w).mono ?_;rintro e w' ⟨rfl,rfl⟩;exact⟨.inl ⟨t,rfl,hk,rfl⟩,rfl⟩
 ·refine(EZ v (by omega) w).mono ?_;rintro e w' ⟨rfl,rfl⟩;exact⟨.inr ⟨v,rfl,hv,rfl⟩,rfl⟩
variable {w:ag}{τ:Nat->Nat}{s q:Nat}{S:aE}
def OK(w:ag)(S:aE)(t:Int)(e:Ending)(w':ag):Prop:=
 ((∃k:Nat,t=k/\k<S.aW.length/\e=.returned (pV (S.tx k).xp))\/((t<0\/(S.aW.length:Int)<=t)/\e=.returned (.pointer none)))/\w'=w
theorem yK(h:St w τ s q S)(t:Int)(ht:bX t):aJ prog 118 #[pV S.sp,vI t] w (OK w S t):=by
 have hc:=h.cells;have c3:w.cell? ⟨S.sp,3,none⟩=some S.mj:=(hc 3 _ rfl).1;have hn:=h.ok.n;have hr:=h.QW
 by_cases h0:t<0
 ·go_in;go_wp2;go_ret;exact⟨.inr ⟨.inl h0,rfl⟩,rfl⟩
 ·obtain⟨k,rfl⟩:∃k:Nat,t=k:=⟨t.toNat,by omega⟩;obtain⟨a,c,hv⟩:=aF hr
  by_cases hk:k<S.aW.length
  ·obtain⟨g,c',wC,ho⟩:=ji hr (by decide) hk;have h1:=(ho 0 (by decide)).1;rw[show k*1+0=k by omega] at h1;have e1:(S.aW.map λx=>pV x.xp).getD k .nilFunc=pV (S.tx k).xp:=by simp[aE.tx,aS,hk]
   rw[e1] at h1;rw[wC] at c3;obtain⟨N,hN⟩:∃N,N=S.aW.length:=⟨_,rfl⟩;rw[<-hN] at c3 hk;replace hN:=hid hN;clear hv hr;go_in;go_wp2;go_ret;exact⟨.inl ⟨k,rfl,hN.out ▸ hk,rfl⟩,rfl⟩
  ·rw[hv] at c3;have gX:(S.aW.length:Int)<=(k:Int):=by omega
   obtain⟨N,hN⟩:∃N,N=S.aW.length:=⟨_,rfl⟩;rw[<-hN] at c3 hk gX;replace hN:=hid hN;clear hv hr;go_in;go_wp2;go_ret;exact⟨.inr ⟨.inr (hN.out ▸ gX),rfl⟩,rfl⟩
def OJ(w:ag)(S:aE)(t:Int)(e:Ending)(w':ag):Prop:=
 ((∃k:Nat,t=k/\k<S.aW.length/\(S.tx k).live=true/\e=.returned (pV (S.tx k).xp))\/((∀k:Nat,t=k->k<S.aW.length->(S.tx k).live=false)/\e=.returned (.pointer none)))/\w'=w
theorem pw(h:St w τ s q S)(t:Int)(ht:bX t):aJ prog 120 #[pV S.sp,vI t] w (OJ w S t):=by
 go_in;go_wp2_with fail
 refine(yK h t ht).mono ?_;rintro e w' ⟨(⟨k,rfl,hk,rfl⟩|⟨hn,rfl⟩),rfl⟩
 ·have hx:=h.lW hk;have c1:=(hx 1 _ rfl).1
  cases hl:(S.tx k).live with
  | true=>
    rw[hl] at c1;go_wp2;go_ret;exact⟨.inl ⟨k,rfl,hk,hl,rfl⟩,rfl⟩
  | false=>
    rw[hl] at c1;go_wp2;go_ret;exact⟨.inr ⟨λk' e _=>by rw[<-Int.ofNat.inj e];exact hl,rfl⟩,rfl⟩
 ·go_wp2;go_ret;exact⟨.inr ⟨λk' e zB=>by omega,rfl⟩,rfl⟩
theorem SW{A:HS}{K:Nat->Nat->Prop}{n:Nat}(hw:HW A)(hv:iJ A K n)(a:Nat):To K n (nr Ob.ser A a) (nr Ob.snd A a):=by
 rcases dZ A a with ⟨i,o,c⟩|hm
 ·rw[gM hw c,gM hw c];exact hv a o (.inl c.eP)
 ·rw[vt (f:=Ob.snd) hm];exact .inr ⟨0,rfl,bY _⟩
def Lone(S:aE)(t:Nat):Prop:=(∀u,u≠t->(S.tx u).live=false)/\(S.now:Int)<=(S.tx t).start
structure Rn(S S':aE):Prop where
 lv:∀u,(S'.tx u).live=(S.tx u).live
 st:∀u,(S'.tx u).start=(S.tx u).start
 nw:S'.now=S.now
 ve:S'.dm=S.dm
theorem Rn.refl(S:aE):Rn S S:=⟨λ_=>rfl,λ_=>rfl,rfl,rfl⟩
theorem Rn.trans{A B C:aE}(h:Rn A B)(k:Rn B C):Rn A C:=⟨λu=>(k.lv u).trans (h.lv u),λu=>(k.st u).trans (h.st u),k.nw.trans h.nw,k.ve.trans h.ve⟩
theorem aE.pX{S:aE}{u:Nat}(h:(S.tx u).live=true):u<S.aW.length:=by
 by_cases e:u<S.aW.length
 ·exact e
 ·have:S.tx u=dT:=by unfold aE.tx;rw[aS,List.getElem?_eq_none (by omega)];rfl
  rw[this] at h;cases h
theorem Rf(h:St w τ s q S):∀t z,S.K t z->t<8:=λt z hk=>by have:=S.pX hk.1;have:=h.ok.n;omega
theorem ES(h:St w τ s q S):S.now<=1099511627776:=by have:=h.ok.ck;unfold GR at this;omega
theorem uq(h:St w τ s q S){t:Nat}(ht:t<S.aW.length){a:Nat}(ha:a<=131072):aJ prog 126 #[pV S.sp,pV (S.tx t).xp,vI a] w λe w'=>(∃b:Bool,e=.returned (.bool b)/\(b=true->¬Lone S t))/\Calm w w':=by
 have jT:=(h.cells 0 _ rfl).1;obtain⟨X,hh⟩:=h.iW;have hx:=h.lW ht;have Vv:=hid (SW h.ok.hw h.ok.iv.hv a);have h8:=hid (Rf h);have hn:=hid (ES h);go_in;go_wp2_with fail
 refine(rX hh h.ok.hw ha).mono ?_;rintro e w1 ⟨⟨x,rfl⟩,k1⟩;have c0:=k1.cellAt (hx 0 _ rfl).1 id;have c2:=k1.cellAt (hx 2 _ rfl).1 id;go_wp2_with fail
 refine(CP Vv.out h8.out hn.out _).mono ?_;rintro e w2 ⟨(⟨u,hu,hk,rfl⟩|⟨v,hv,hle,rfl⟩),rfl⟩
 ·go_wp2;go_ret;refine⟨⟨_,rfl,λhb hl=>?_⟩,k1⟩;have hb:¬(u:Int)=t:=by simpa using hb
  have hb:u≠t:=by omega
  have:=hl.1 u hb;rw[hk.1] at this;cases this
 ·go_wp2;go_ret;refine⟨⟨_,rfl,λhb hl=>?_⟩,k1⟩;have hb:(S.tx t).start<(v:Int):=by simpa using hb
  have:=hl.2;omega
def Nx(w:ag)(τ:Nat->Nat)(s q:Nat)(S:aE)(w':ag)(R:aE->Prop):Prop:=∃aL S',St w' aL s q S'/\aC w τ w' aL/\Fix S S'/\R S'
def mT(t:Nat)(S S':aE):Prop:=∃L',S'=S.aU t { S.tx t with L:=L' }
theorem mT.rn{t:Nat}{S S':aE}(ht:t<S.aW.length)(h:mT t S S'):Rn S S':=by
 obtain⟨L',rfl⟩:=h;refine⟨λu=>?_,λu=>?_,rfl,rfl⟩
 all_goals
  by_cases e:u=t
  ·subst e;rw[show(S.aU u _).tx u=_ from aE.dS ht _]
  ·rw[show(S.aU t _).tx u=S.tx u from aE.eJ e _]
theorem mT.D{t:Nat}{S S':aE}(h:mT t S S'):S'.D=S.D:=by obtain⟨L',rfl⟩:=h;rfl
theorem Mg(h:St w τ s q S){t:Nat}(ht:t<S.aW.length){a:Nat}(ha:a<=131072)(hl:(S.tx t).live=true)(hm:∃z∈(S.tx t).L.holds,z.at_=a):aJ prog 185 #[pV S.sp,pV (S.tx t).xp,vI a] w λe w'=>e=.returned (.tuple #[])/\Nx w τ s q S w' λS'=>Still (λk=>k=a) S.D.A S'.D.A/\∃B' A',S'=S.h_ B' A':=by
 have jT:=(h.cells 0 _ rfl).1;obtain⟨X,hh⟩:=h.iW;have hx:=h.lW ht;have c0:=(hx 0 _ rfl).1;have hn:=h.ok.n;go_in;go_wp2_with fail
 refine(uE (t:Nat) (by omega) (by omega) _).mono ?_;rintro e w1 ⟨rfl,rfl⟩;go_wp2_with fail
 refine(mZ hh h.ok.hw ha _).mono ?_;rintro e w2 ⟨x,A',rfl,_,hi,hs,_,hL,_⟩
 have hI:∀B',Inv (S.h_ B' A'):=λB'=>h.ok.iv.h_ hs.vK (h.ok.iv.hv.lvx hL λz y ⟨e1,e2,e3⟩=>by
  obtain⟨z0,z1,z2⟩:=hm
  exact .inl ⟨t,e2,hl,e3,z0,z1,by rw[z2,e1]⟩)
 obtain⟨B',aL,k1,k2,k3⟩:=h.gi hi hs.mv (s':=s) (by rw[hs.ser];exact h.ok.se) hI;go_wp2
 go_end0
 exact⟨rfl,aL,_,k1,k2,Fix.h_ k3 hs.n (by rw[hs.fi,hs.ser];omega),hs,B',A',rfl⟩
def OI(S:aE)(a n:Nat)(S':aE):Prop:=Still (λk=>k=a) S.D.A S'.D.A/\(∃B' A',S'=S.h_ B' A')/\Je S.D.A S'.D.A (λz y=>z=nr Ob.ser S.D.A a/\y=2*n/\1<=z)/\∀p o,Live S'.D.A p o->o.ser=nr Ob.ser S.D.A a->o.snd=2*n
theorem po(h:St w τ s q S){a:Nat}(ha:a<=131072){n:Nat}(hn:n<=S.now):aJ prog 128 #[pV S.sp,vI a,vI n] w λe w'=>e=.returned (.tuple #[])/\Nx w τ s q S w' (OI S a n):=by
 have jT:=(h.cells 0 _ rfl).1;obtain⟨X,hh⟩:=h.iW;have hN:=ES h;go_in;go_wp2_with fail
 refine(pZ (n:Nat) (by omega) (by omega) _).mono ?_;rintro e w1 ⟨rfl,rfl⟩;go_wp2_with fail
 refine(mZ hh h.ok.hw ha _).mono ?_;rintro e w2 ⟨x,A',rfl,_,hi,hs,_,hL,hF⟩;have hI:∀B',Inv (S.h_ B' A'):=λB'=>h.ok.iv.h_ hs.vK (h.ok.iv.hv.lvx hL λz y ⟨e1,e2,e3⟩=>.inr ⟨n,e2,hn⟩);obtain⟨B',aL,k1,k2,k3⟩:=h.gi hi hs.mv (s':=s) (by rw[hs.ser];exact h.ok.se) hI;go_wp2
 go_end0
 exact⟨rfl,aL,_,k1,k2,Fix.h_ k3 hs.n (by rw[hs.fi,hs.ser];omega),hs,⟨B',A',rfl⟩,hL,hF⟩
theorem yt{l:aj}{a:Nat}{m:Int}(hl:l.length<=200)(hm:m<=200):(my l a m).length<=200:=by
 unfold my;split
 ·exact hl
 ·rename_i h;simp only[b_,List.length_singleton];have:=λe=>h (.inr e);omega
theorem CC{l:aj}{a:Nat}{m:Int}(hl:∀p∈l,p<=131072)(ha:a<=131072):∀p∈my l a m,p<=131072:=by
 unfold my;split
 ·exact hl
 ·intro p hp;rcases cJ.1 hp with hp|hp
  ·exact hl p hp
  ·rw[gH.1 hp];exact ha
theorem Fix.lg{t:Nat}{S:aE}(ht:t<S.aW.length)(L':cd):Fix S (S.aU t { S.tx t with L:=L' }):=Fix.aU ht rfl rfl
theorem LN(h:St w τ s q S){t:Nat}(ht:t<S.aW.length){a:Nat}(ha:a<=131072):aJ prog 192 #[pV (S.tx t).lp,vI a] w λe w'=>(∃b:Bool,e=.returned (.bool b))/\Nx w τ s q S w' λS'=>mT t S S':=by
 obtain⟨M,h1,h2,h3⟩:=h;have hx:=h3.x t ht;have hn:=h3.n;refine(Iq h1 (h2.x t ht).l (by omega) (by have:=hx.f;omega) a).mono ?_;rintro e w' ⟨v',aL,M',rfl,k1,k2,k3,k4⟩;exact⟨⟨_,rfl⟩,aL,_,gR.jX h2 h3 ht k1 k2 k3 ⟨⟨CC hx.l.r ha,hx.l.k,hx.l.h,hx.l.u⟩,⟨yt hx.f.1 hx.m.2.1,hx.f.2⟩,hx.m,hx.i,hx.k⟩ (h3.iv.aU ht rfl rfl (λ_ h=>h) (h3.iv.vs t)),k4,Fix.lg ht _,_,rfl⟩
theorem LJ(h:St w τ s q S){t:Nat}(ht:t<S.aW.length){a:Nat}(ha:a<=131072):aJ prog 138 #[pV (S.tx t).lp,vI a] w λe w'=>(∃b:Bool,e=.returned (.bool b))/\Nx w τ s q S w' λS'=>mT t S S':=by
 obtain⟨M,h1,h2,h3⟩:=h;have hx:=h3.x t ht;have hn:=h3.n;refine(Ir h1 (h2.x t ht).l (by omega) (by have:=hx.f;omega) a).mono ?_;rintro e w' ⟨v',aL,M',rfl,k1,k2,k3,k4⟩;exact⟨⟨_,rfl⟩,aL,_,gR.jX h2 h3 ht k1 k2 k3 ⟨⟨hx.l.r,CC hx.l.k ha,hx.l.h,hx.l.u⟩,⟨hx.f.1,yt hx.f.2.1 hx.m.2.1,hx.f.2.2⟩,hx.m,hx.i,hx.k⟩ (h3.iv.aU ht rfl rfl (λ_ h=>h) (h3.iv.vs t)),k4,Fix.lg ht _,_,rfl⟩
theorem Cr(h:St w τ s q S){t:Nat}(ht:t<S.aW.length){a:Nat}(ha:a<=131072){n:Int}(abO:bX n)(AD:0<=n/\n<=S.now):aJ prog 184 #[pV (S.tx t).lp,.agg #[vI a,vI n]] w λe w'=>∃b:Bool,e=.returned (.bool b)/\Nx w τ s q S w' λS'=>mT t S S'/\(b=true->∃z∈(S'.tx t).L.holds,z.at_=a):=by
 obtain⟨M,h1,h2,h3⟩:=h;have hx:=h3.x t ht;have hn:=h3.n;refine(LL h1 (h2.x t ht).l (by omega) (by have:=hx.f;omega) ⟨a,n⟩).mono ?_;rintro e w' ⟨b,v',aL,M',rfl,hb,k1,k2,k3,k4⟩;refine⟨_,rfl,aL,_,gR.jX h2 h3 ht k1 k2 k3 ⟨⟨hx.l.r,hx.l.k,?_,hx.l.u⟩,⟨hx.f.1,hx.f.2.1,?_,hx.f.2.2.2⟩,hx.m,hx.i,hx.k⟩ (h3.iv.aU ht rfl rfl (λz hz=>?_) (λz hz=>?_)),k4,Fix.lg ht _,⟨_,rfl⟩,λtz=>?_⟩
 ·cases b with
  | false=>exact hx.l.h
  | true=>
    intro x dy;rcases cJ.1 dy with dy|dy
    ·exact hx.l.h x dy
    ·rw[gH.1 dy];exact⟨ha,abO⟩
 ·cases b with
  | false=>exact hx.f.2.2.1
  | true=>
    have h5:(((S.tx t).L.holds.length:Int)<(S.tx t).L.mu):=by
     have:=hb.symm;simp only[acn,decide_eq_true_eq] at this;exact this.2
    have:=hx.m.2.2.2;show((S.tx t).L.holds++[_]).length<=200;simp only[b_,List.length_singleton];omega
 ·cases b with
  | false=>exact hz
  | true=>exact cJ.2 (.inl hz)
 ·cases b with
  | false=>exact h3.iv.vs t z hz
  | true=>
    rcases cJ.1 hz with hz|hz
    ·exact h3.iv.vs t z hz
    ·rw[gH.1 hz];exact AD
 ·subst tz;rw[show(S.aU t _).tx t=_ from aE.dS ht _];exact⟨⟨a,n⟩,cJ.2 (.inr (gH.2 rfl)),rfl⟩
theorem uT(h:St w τ s q S){t:Nat}(ht:t<S.aW.length){u:Ud}(hu:AZ u/\bX u.kind/\bX u.i):aJ prog 148 #[pV (S.tx t).lp,.agg #[vI u.kind,vI u.at_,vI u.i,vI u.aV]] w λe w'=>(∃b:Bool,e=.returned (.bool b))/\Nx w τ s q S w' λS'=>mT t S S':=by
 obtain⟨M,h1,h2,h3⟩:=h;have hx:=h3.x t ht;have hn:=h3.n;refine(LM h1 (h2.x t ht).l (by omega) (by have:=hx.f;omega) u).mono ?_;rintro e w' ⟨b,v',aL,M',rfl,hb,k1,k2,k3,k4⟩;refine⟨⟨_,rfl⟩,aL,_,gR.jX h2 h3 ht k1 k2 k3 ⟨⟨hx.l.r,hx.l.k,hx.l.h,?_⟩,⟨hx.f.1,hx.f.2.1,hx.f.2.2.1,?_⟩,hx.m,hx.i,hx.k⟩ (h3.iv.aU ht rfl rfl (λ_ h=>h) (h3.iv.vs t)),k4,Fix.lg ht _,_,rfl⟩
 ·cases b with
  | false=>exact hx.l.u
  | true=>
    intro x dy;rcases cJ.1 dy with dy|dy
    ·exact hx.l.u x dy
    ·rw[gH.1 dy];exact hu
 ·cases b with
  | false=>exact hx.f.2.2.2
  | true=>
    have h5:(((S.tx t).L.az.length:Int)<(S.tx t).L.mu):=by simpa using hb.symm
    have:=hx.m.2.2.2;show((S.tx t).L.az++[_]).length<=200;simp only[b_,List.length_singleton];omega
theorem JK.empty(L:cd):JK L.empty:=by
 refine⟨?_,?_,?_,?_⟩ <;> · intro x h;cases h
theorem Iw(h:St w τ s q S){t:Nat}(ht:t<S.aW.length)(hK:iJ S.D.A (λu z=>S.K u z/\u≠t) S.now)(hl:(S.tx t).live=true):aJ prog 177 #[pV (S.tx t).lp] w λe w'=>e=.returned (.tuple #[])/\St w' τ s q (S.aU t { S.tx t with L:=(S.tx t).L.empty })/\aC w τ w' τ:=by
 obtain⟨M,h1,h2,h3⟩:=h;have hx:=h3.x t ht;have hn:=h3.n;refine(Iu h1 (h2.x t ht).l (by omega)).mono ?_;rintro e w' ⟨M',rfl,k1,k2,k3,k4⟩;exact⟨rfl,gR.jX h2 h3 ht k1 k2 k3 ⟨JK.empty _,⟨bY _,bY _,bY _,bY _⟩,hx.m,hx.i,hx.k⟩ (h3.iv.yG ht hK (λ_=>h3.iv.st t hl) (λ_=>hl) (λz hz=>by cases hz)),k4⟩
end
