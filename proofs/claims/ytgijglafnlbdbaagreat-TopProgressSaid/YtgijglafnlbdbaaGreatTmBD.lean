import Derived.Test.YtgijglafnlbdbaaGreatTmBC
set_option linter.all false
set_option maxHeartbeats 4000000
set_option maxRecDepth 8000
namespace Go.Proofs.YtgijglafnlbdbaaGreat
open RowKit Shelf Proofs.Tryz
open Go renaming World->ag,Value->aA,Calls->aJ
section
variable {w:ag}{τ:Nat->Nat}{rp i:Nat}{pv:aA}{Q:Pg}{r:Rd}
theorem jP.fresh(h:jP w τ rp pv Q i r):∃τ0,jP w τ0 rp pv Q i r/\oO w τ τ0/\∀k,w.heap.size<=k->τ0 k=10000:=by
 obtain⟨M,atv,ib,ms,h1,h2,h3,h4,h5⟩:=h;obtain⟨τ0,k1,k2,k3⟩:=h1.fresh 10000;exact⟨τ0,⟨M,atv,ib,ms,k1,h2,h3,(fS.Gv (L:=10000) ⟨ah,k2⟩ h4),h5⟩,k2,k3⟩
theorem fS.dE{L:Nat}{w':ag}{aL fj:Nat->Nat}(h:fS L w aL w' fj)(t:oO w τ aL):fS L w τ w' fj:=⟨h.fr.mono (λk hk e=>by show τ k<L;rw[<-t k hk];exact e),λk hk=>(h.tg k hk).trans (t k hk)⟩
def kn(w:ag)(τ:Nat->Nat)(rp i:Nat)(pv:aA)(Q:Pg)(r':Option Rd)(en:Ending)(w':ag):Prop:=
 (∃x aL,r'=some x/\en=.returned (.bool true)/\jP w' aL rp pv Q (i+1) x/\fS 10000 w τ w' aL)\/(r'=none/\en=.returned (.bool false)/\Fr (λk=>τ k<10000) w w')
abbrev nR:aA:=.slice none 0 0
theorem L3(w:ag)(e:TypeId)(k:Nat):w.ownsRow 0 e k nR 0 []:=⟨by simp,.inl ⟨rfl,rfl⟩⟩
theorem wg.fD{w':ag}{M:Mem}{atv ib xw:aA}{ms ms':List ue}{bK came':Int}{sp Wo:List Ax}(h1:bE w τ M)(h2:wg M rp pv atv ib sp ms bK)(f:Fr (λb=>b=rp\/ay atv b\/ay ib b) w w')
 (hc:af w' rp [pv,atv,xw,vI came']) (ha:w'.ownsRow 0 135 2 atv Wo.length (Wo.flatMap sX)) (ht:w'.ownsRow 0 89 10 xw ms'.length (ms'.flatMap sF)) (fZ:∀b,ay xw b->ay ib b\/w.heap.size<=b)
 (hlen:ms.length<=ms'.length) (aag:∀k,k<ms.length->(ms'.getD k fo).av=(ms.getD k fo).av/\(ms'.getD k fo).x.cQ=(ms.getD k fo).x.cQ/\(ms'.getD k fo).tv=(ms.getD k fo).tv/\(ms'.getD k fo).x.lS=(ms.getD k fo).x.lS)
 (Vc:∀k,ms.length<=k->k<ms'.length->(ms'.getD k fo).av=nR/\(ms'.getD k fo).x.cQ=[]/\(ms'.getD k fo).tv=nR/\(ms'.getD k fo).x.lS=[]) :
 ∃M' aL,bE w' aL M'/\wg M' rp pv atv xw Wo ms' came'/\fS 10000 w τ w' aL:=by
 classical
 have b1:(M 1).dh=λk=>k=rp:=by rw[h2.c];rfl
 have b2:(M 2).dh=ay atv:=by rw[h2.a];rfl
 have b3:(M 3).dh=ay ib:=by rw[h2.t];rfl
 have hS:∀b,(b=rp\/ay atv b\/ay ib b)->τ b=1\/τ b=2\/τ b=3:=λb hb=>by
  rcases hb with hb|hb|hb
  ·exact .inl (h1.tag 1 b (by rw[b1];exact hb))
  ·exact .inr (.inl (h1.tag 2 b (by rw[b2];exact hb)))
  ·exact .inr (.inr (h1.tag 3 b (by rw[b3];exact hb)))
 let M':Mem:=λj=>if j=1 then bD rp pv [atv,xw,vI came'] else if j=2 then fU 135 2 atv Wo.length (Wo.flatMap sX) else if j=3 then fU 89 10 xw ms'.length (ms'.flatMap sF)
  else if 10+2*ms.length<=j/\j<10+2*ms'.length then (if j % 2=0 then fU 35 3 nR 0 [] else fV nR []) else M j
 have m1:M' 1=bD rp pv [atv,xw,vI came']:=rfl;have m2:M' 2=fU 135 2 atv Wo.length (Wo.flatMap sX):=rfl;have m3:M' 3=fU 89 10 xw ms'.length (ms'.flatMap sF):=rfl
 have mN:∀j,j≠1->j≠2->j≠3->(10+2*ms.length<=j/\j<10+2*ms'.length)->M' j=if j % 2=0 then fU 35 3 nR 0 [] else fV nR []:=λj e1 e2 e3 e4=>by
  show(if j=1 then _ else if j=2 then _ else if j=3 then _ else if _ then _ else _)=_;rw[if_neg e1,if_neg e2,if_neg e3,if_pos e4]
 have mO:∀j,j≠1->j≠2->j≠3->¬(10+2*ms.length<=j/\j<10+2*ms'.length)->M' j=M j:=λj e1 e2 e3 e4=>by
  show(if j=1 then _ else if j=2 then _ else if j=3 then _ else if _ then _ else _)=_;rw[if_neg e1,if_neg e2,if_neg e3,if_neg e4]
 refine⟨M',λk=>if k<w.heap.size then τ k else if ay xw k then 3 else 10000,⟨λj=>?_,λj k hk=>?_⟩,⟨m1,m2,m3,λk hk=>?_,λj hj=>?_⟩,⟨f.mono (λk _ hk=>by show τ k<10000;have:=hS k hk;omega),λk hk=>if_pos hk⟩⟩
 ·by_cases e1:j=1
  ·subst e1;rw[m1];exact hc
  by_cases e2:j=2
  ·subst e2;rw[m2];exact ha
  by_cases e3:j=3
  ·subst e3;rw[m3];exact ht
  by_cases e4:10+2*ms.length<=j/\j<10+2*ms'.length
  ·rw[mN j e1 e2 e3 e4];split
   ·exact L3 _ _ _
   ·exact aI.nil _ _
  ·rw[mO j e1 e2 e3 e4];refine(M j).fr (h1.at_ j) f (λk hk gX=>?_);have:=hS k gX;rw[h1.tag j k hk] at this;omega
 ·by_cases e1:j=1
  ·subst e1;rw[m1] at hk;have hk:k=rp:=hk;have:=h1.lt 1 (k:=rp) (by rw[b1]);rw[hk];simp only[if_pos this];exact h1.tag 1 rp (by rw[b1])
  by_cases e2:j=2
  ·subst e2;rw[m2] at hk;have gX:(M 2).dh k:=by rw[b2];exact hk
   simp only[if_pos (h1.lt 2 gX)];exact h1.tag 2 k gX
  by_cases e3:j=3
  ·subst e3;rw[m3] at hk;have hk:ay xw k:=hk;rcases fZ k hk with e|e
   ·have gX:(M 3).dh k:=by rw[b3];exact e
    simp only[if_pos (h1.lt 3 gX)];exact h1.tag 3 k gX
   ·simp only[if_neg (show ¬k<w.heap.size by omega),if_pos hk]
  by_cases e4:10+2*ms.length<=j/\j<10+2*ms'.length
  ·rw[mN j e1 e2 e3 e4] at hk;split at hk
   ·exact absurd hk (ay.nil k)
   ·exact absurd hk (ay.nil k)
  ·rw[mO j e1 e2 e3 e4] at hk;simp only[if_pos (h1.lt j hk)];exact h1.tag j k hk
 ·by_cases e:k<ms.length
  ·obtain⟨g1,g2,g3,g4⟩:=aag k e;obtain⟨x1,x2⟩:=h2.x k e;rw[g1,g2,g3,g4,mO _ (by omega) (by omega) (by omega) (by omega),mO _ (by omega) (by omega) (by omega) (by omega)];exact⟨x1,x2⟩
  ·obtain⟨g1,g2,g3,g4⟩:=Vc k (by omega) hk;rw[g1,g2,g3,g4,mN _ (by omega) (by omega) (by omega) (by omega),mN _ (by omega) (by omega) (by omega) (by omega),if_pos (by omega),if_neg (by omega)];exact⟨rfl,rfl⟩
 ·rw[mO j (by omega) (by omega) (by omega) (by omega)];exact h2.z j (by omega)
theorem gN{ga c n:Nat}{sp:List Ax}(h:w.ownsRow 0 135 2 (.slice (some ⟨ga,0,none⟩) n c) sp.length (sp.flatMap sX))(hn:n=sp.length){t:Nat}(ht:t<sp.length)(j:Nat)(hj:j<2)(y:aA)(s':Ax)(e:sX s'=(sX (sp.getD t dp)).set j y):(w.setCell ⟨ga,t*2+j,none⟩ y).ownsRow 0 135 2 (.slice (some ⟨ga,0,none⟩) n c) (sp.set t s').length ((sp.set t s').flatMap sX):=by
 subst hn;have:=lM h (j:=t*2+j) (by rw[ij sX 2 fe];omega) y;rw[qV sX 2 fe dp s' j hj y sp t ht e] at this;rw[bN];exact this
theorem IF(h:jP w τ rp pv Q i r)(hi:i<=2000)(hQ:tX Q){t:Nat}(ht:t<Q.length)(b n k ee v:Int):aJ prog 101 #[pR rp,vI (i:Int),.agg #[vI (t:Int),vI b,vI n,vI k,vI ee,vI v]] w (kn w τ rp i pv Q (some (r.begin Q i ⟨t,b,n,k,ee,v⟩))):=by
 obtain⟨τ0,h0,tk,fr⟩:=h.fresh;clear h;obtain⟨M,atv,ib,ms,h1,h2,h3,h4,h5⟩:=h0;have hc:af w rp [pv,atv,ib,vI r.bK]:=by have:=h1.at_ 1;rw[h2.c] at this;exact this
 have ha:w.ownsRow 0 135 2 atv r.sp.length (r.sp.flatMap sX):=by have:=h1.at_ 2;rw[h2.a] at this;exact this
 have ru:w.ownsRow 0 89 10 ib ms.length (ms.flatMap sF):=by have:=h1.at_ 3;rw[h2.t] at this;exact this
 have Ih:t<r.sp.length:=by rw[h5.n];exact ht
 obtain⟨ga,ca,EL,zy⟩:=bT fe (by decide) ha dp Ih;obtain⟨ta,tc,wD⟩:=aF ru;obtain⟨pa,pc,AH,xY⟩:=h4;have h4:ed (λb=>10000<=τ0 b) w pv Q:=⟨pa,pc,AH,xY⟩;obtain⟨g,o,u,rfl,tg,ku,ub,uc,rfl,_⟩:=xY t ht;have Od:rp<w.heap.size:=hc.lt (by simp);have Vp:¬ay atv rp:=λe=>h1.apart (t:=2) (u:=1) (k:=rp) (by decide) (by rw[h2.a];exact e) (by rw[h2.c];rfl);have abY:¬ay ib rp:=λe=>h1.apart (t:=3) (u:=1) (k:=rp) (by decide) (by rw[h2.t];exact e) (by rw[h2.c];rfl);have k0:Calm w (w.alloc (.cells #[vI t,vI b,vI n,vI k,vI ee,vI v] 76)):=ah.alloc _;have oE:af (w.alloc (.cells #[vI t,vI b,vI n,vI k,vI ee,vI v] 76)) w.heap.size (mB t b n k ee v):=af.zT w [_,_,_,_,_,_] _ _ rfl;obtain⟨W0,gF⟩:=ao (w.alloc (.cells #[vI t,vI b,vI n,vI k,vI ee,vI v] 76));rw[gF] at k0 oE;have jT:=hc.calm k0;obtain⟨c0,c1⟩:=af.N1 jT;obtain⟨NS,sM⟩:=ao r.sp.length;rw[EL,sM] at c1;rw[AH] at c0;rw[sM] at Ih;have e0:=(oE 0 _ rfl).1;have e4:=(oE 4 _ rfl).1;replace sM:=hid sM;replace EL:=hid EL;go_in;go_wp2_with fail
 go_quiet (fail)
 have k1:Calm w (W0.drewN nq):=k0.trans (ah.drewN nq);have xg:af (W0.drewN nq) w.heap.size (mB t b n k ee v):=oE.calm (ah.drewN nq);generalize W0.drewN nq=W1 at *;clear gF oE jT c0 c1 e0 e4 k0;have dN:=hc.calm k1
 by_cases h0:ee=0
 ·subst h0;have e4:=(xg 4 _ rfl).1;obtain⟨NM,sL⟩:=ao ms.length;have x2:=(dN 2 _ rfl).1;have x3:=(dN 3 _ rfl).1;rw[wD,sL] at x2;have s1:=(zy 1 _ rfl).1;have s1':=(zy 1 _ rfl).2;have y1:=k1.cellAt s1 id;have y1':=k1.frozenAt s1 s1' id;replace sL:=hid sL;have hgb:ga<w.heap.size:=nt _ _ s1;have abz:ga≠rp:=λe=>Vp (by rw[EL.out,e];exact ay.mk.2 rfl);go_upto_region 6 with fail
  obtain⟨W2,fI⟩:=ao (W1.setCell ⟨ga,t*2+1,none⟩ (vI (NM:Int)));have F2:Fr (λk=>k=ga) W1 W2:=by rw[<-fI];exact(Fr.refl (λk=>k=ga) W1).setCell (p:=⟨ga,t*2+1,none⟩) (.inl rfl) _
  have dJ:=dN.fr F2 (λe=>abz e.symm);have xh:=xg.fr F2 (show ¬w.heap.size=ga by omega);rw[fI];replace fI:=hid fI;have kd:Calm W2 W2.drew:=ah.drew;have kS:=dJ.calm kd;have Qs:=xh.calm kd;have x2:W2.drew.cell? ⟨rp,2,none⟩=some (.slice ta NM tc):=by rw[<-sL.out,<-wD];exact(kS 2 _ rfl).1
  have x3:W2.drew.cell? ⟨rp,3,none⟩=some (vI r.bK):=(kS 3 _ rfl).1;refine aO 18 20 (λw'=>w'.cell? ⟨rp,2,none⟩=some (.slice ta NM tc)/\w'.cell? ⟨rp,3,none⟩=some (vI r.bK)/\af w' w.heap.size (mB t b n k 0 v)) (by kernel_rfl) (by kernel_rfl) ⟨x2,x3,Qs⟩ ?_;refine ae (pR rp) rfl (λw' hw'=>?_) ak ?_
  ·simp[go_sem]
  refine ae (pR rp) rfl (λw' hw'=>?_) ak ?_
  ·simp[go_sem]
  refine ae (pR rp) rfl (λw' hw'=>?_) ak ?_
  ·simp[go_sem]
  refine ae (.pointer (some ⟨rp,2,none⟩)) rfl (λw' hw'=>?_) ak ?_
  ·simp[go_sem]
  refine ae (.slice ta NM tc) rfl (λw' hw'=>?_) ak ?_
  ·simp[go_sem,hw'.1]
  refine ae (bw w.heap.size) rfl (λw' hw'=>?_) ak ?_
  ·simp[go_sem]
  refine ae (vI (t:Int)) rfl (λw' hw'=>?_) ak ?_
  ·have e:=hw'.2.2;simp only[mB] at e;obtain⟨z0,z1,z2,z3,z4,z5⟩:=af.Ry e;simp[go_sem,z0,z1,z2,z3,z4,z5]
  refine ae (.pointer (some ⟨w.heap.size,1,none⟩)) rfl (λw' hw'=>?_) ak ?_
  ·simp[go_sem]
  refine ae (vI b) rfl (λw' hw'=>?_) ak ?_
  ·have e:=hw'.2.2;simp only[mB] at e;obtain⟨z0,z1,z2,z3,z4,z5⟩:=af.Ry e;simp[go_sem,z0,z1,z2,z3,z4,z5]
  refine ae (.pointer (some ⟨w.heap.size,3,none⟩)) rfl (λw' hw'=>?_) ak ?_
  ·simp[go_sem]
  refine ae (.pointer (some ⟨w.heap.size,5,none⟩)) rfl (λw' hw'=>?_) ak ?_
  ·simp[go_sem]
  refine ae (vI v) rfl (λw' hw'=>?_) ak ?_
  ·have e:=hw'.2.2;simp only[mB] at e;obtain⟨z0,z1,z2,z3,z4,z5⟩:=af.Ry e;simp[go_sem,z0,z1,z2,z3,z4,z5]
  refine ae (pR rp) rfl (λw' hw'=>?_) ak ?_
  ·simp[go_sem]
  refine ae (pR rp) rfl (λw' hw'=>?_) ak ?_
  ·simp[go_sem]
  refine ae (.pointer (some ⟨rp,3,none⟩)) rfl (λw' hw'=>?_) ak ?_
  ·simp[go_sem]
  refine ae (vI r.bK) rfl (λw' hw'=>?_) ak ?_
  ·simp[go_sem,hw'.2.1]
  refine ae (vI (i:Int)) rfl (λw' hw'=>?_) ak ?_
  ·simp[go_sem]
  refine ae (.agg #[vI (t:Int),vI b,vI v,vI r.bK,vI (i:Int),vI (-1),.slice none 0 0,.slice none 0 0,vI 0,vI 0]) rfl (λw' hw'=>?_) ak ?_
  ·simp[go_sem]
  simp only[bG];have kA:Calm W2 (W2.drew.alloc (.cells #[vI (t:Int),vI b,vI v,vI r.bK,vI (i:Int),vI (-1),.slice none 0 0,.slice none 0 0,vI 0,vI 0] 89)):=kd.alloc _;have zw:=dJ.calm kA;have V7:=xh.calm kA;have hS:=(show _/\_/\_ from⟨(by rw[<-sL.out,<-wD];exact(zw 2 _ rfl).1:World.cell? (W2.drew.alloc (.cells #[vI (t:Int),vI b,vI v,vI r.bK,vI (i:Int),vI (-1),.slice none 0 0,.slice none 0 0,vI 0,vI 0] 89)) ⟨rp,2,none⟩=some (.slice ta NM tc)),(zw 3 _ rfl).1,V7⟩)
  have Li:∀b,ay (.slice ta NM tc) b->b<w.heap.size/\b≠ga/\b≠rp:=λb hb=>by
   rw[<-sL.out,<-wD] at hb;refine⟨(World.ownsRow.lt ru b hb).2,λe=>?_,λe=>abY (e ▸ hb)⟩;exact h1.apart (t:=3) (u:=2) (k:=b) (by decide) (by rw[h2.t];exact hb) (by rw[h2.a,EL.out,e];exact ay.mk.2 rfl)
  have aas:W1.ownsRow 0 89 10 (.slice ta NM tc) NM (ms.flatMap sF):=by rw[<-sL.out,<-wD];exact aw ru k1 (λ_ _=>id)
  have aat:=aw (aw aas F2 (λb hb e=>(Li b hb).2.1 e)) kA (λ_ _=>id);refine aQ rfl ?_;unfold Oper.wp;go_simp;refine⟨hS,?_⟩;refine aQ rfl ?_;refine Eq.mp (if_pos (show Region.wanted _ (yielded _ _)=true from rfl)) (gu (ops:=#[]) (E:=True) aa7 rfl (.tmp 43) (.tmp 57) rfl (.slice ta NM tc) NM _ aat rfl (sF ⟨⟨t,b,v,r.bK,i,-1,[],[],0,0⟩,nR,nR⟩) rfl (by simp[sF,Value.oneCell']) ⟨W2.heap.size,0,none⟩ 1 rfl (λj u hj=>by rw[dM];simp only[ia];exact xH W2.drew _ _ _ hj) (by have h6:=h5.l;rw[<-h3,List.length_map] at h6;have:=sL.out;omega) ?_);intro g1 c1 w3 fp f3 BR;have YO:=zw.fr f3 (λe=>(Li _ e).2.2 rfl);have ET:=V7.fr f3 (λe=>by have:=(Li _ e).1;omega);have x23:w3.cell? ⟨rp,2,none⟩=some (.slice ta NM tc):=by rw[<-sL.out,<-wD];exact(YO 2 _ rfl).1
  have adg:=(YO 2 _ rfl).2;have h34:=YO.set 2 (.slice (some ⟨g1,0,none⟩) (NM+1) c1) (by simp);have F4:=jR w3 (rp) 2 (.slice (some ⟨g1,0,none⟩) (NM+1) c1)
  have tA:∀b,ay (.slice (some ⟨g1,0,none⟩) (NM+1) c1) b->ay (.slice ta NM tc) b\/W2.heap.size<=b:=λb hb=>by
   obtain rfl:=ay.fJ hb;rcases BR with e|e
   ·exact .inl e
   ·right;rw[e];exact kA.size
  have ab5:w.heap.size<W2.heap.size:=xh.lt (by simp[mB])
  have nX:=aw fp F4 (λb hb e=>by
   subst e;rcases tA _ hb with e2|e2
   ·exact(Li _ e2).2.2 rfl
   ·omega)
  have RN:=aw ha k1 (λ_ _=>id)
  have Zb:W2.ownsRow 0 135 2 atv (r.sp.set t ⟨(r.sp.getD t dp).block,(NM:Int)⟩).length ((r.sp.set t ⟨(r.sp.getD t dp).block,(NM:Int)⟩).flatMap sX):=by
   rw[<-fI.out,EL.out];rw[EL.out] at RN;exact gN RN rfl (by rw[sM.out];exact Ih) 1 (by decide) _ _ rfl
  have hna:∀b,ay atv b->b≠rp/\¬ay (.slice ta NM tc) b:=λb hb=>⟨λe=>Vp (e ▸ hb),λe=>by
   rw[<-sL.out,<-wD] at e
   exact h1.apart (t:=2) (u:=3) (k:=b) (by decide) (by rw[h2.a];exact hb) (by rw[h2.t];exact e)⟩
  have ha4:=aw (aw (aw Zb kA (λ_ _=>id)) f3 (λb hb=>(hna b hb).2)) F4 (λb hb=>(hna b hb).1)
  have oX:Fr (λb=>b=rp\/ay atv b\/ay ib b) w (w3.setCell ⟨rp,2,none⟩ (.slice (some ⟨g1,0,none⟩) (NM+1) c1)):=
   ((((Calm.any k1:Fr (λb=>b=rp\/ay atv b\/ay ib b) _ _).trans (F2.mono (λb _ e=>.inr (.inl (by rw[EL.out,e];exact ay.mk.2 rfl))))).trans (Calm.any kA)).trans (f3.mono (λb _ e=>.inr (.inr (by rw[wD,sL.out];exact e))))).trans (F4.mono (λb _ e=>.inl e))
  have hP:kn w τ rp i pv Q (some (r.begin Q i ⟨t,b,n,k,0,v⟩)) (.returned (.bool true)) (w3.setCell ⟨rp,2,none⟩ (.slice (some ⟨g1,0,none⟩) (NM+1) c1)):=by
   obtain⟨M',aL,m1,m2,m3⟩:=wg.fD (ms':=ms++[⟨⟨t,b,v,r.bK,i,-1,[],[],0,0⟩,nR,nR⟩]) h1 h2 oX h34 ha4 (by
    rw[b_,List.flatMap_append];simpa[sL.out] using nX) (λb hb=>by
    rcases tA b hb with e|e
    ·exact .inl (by rw[wD,sL.out];exact e)
    ·exact .inr (by omega)) (by simp) (λk hk=>by rw[gdL hk];exact⟨rfl,rfl,rfl,rfl⟩) (λk hk gX=>by
    obtain rfl:k=ms.length:=by simp at gX;omega
    rw[gdN]
    exact⟨rfl,rfl,rfl,rfl⟩)
   have ma:r.tr.length=NM:=by rw[<-h3,List.length_map,sL.out]
   have er:r.begin Q i ⟨t,b,n,k,0,v⟩=⟨r.sp.set t ⟨(r.sp.getD t dp).block,(NM:Int)⟩,r.tr++[⟨t,b,v,r.bK,i,-1,[],[],0,0⟩],r.bK⟩:=by
    unfold Rd.begin;rw[if_neg (by simp),ma];rfl
   refine .inl ⟨_,aL,rfl,rfl,?_,m3.dE tk⟩;rw[er]
   refine⟨M',_,_,_,m1,m2,by rw[List.map_append,h3];rfl,m3.Gv h4,h5.fD (t:=t) (.inl rfl) ⟨(h5.s t (by rw[sM.out];exact Ih)).1,by show(-1:Int)<=(NM:Int);omega,by show(NM:Int)<((r.tr++[_]).length:Nat);rw[b_,ma];simp;omega⟩ ⟨by simp,by have:=h5.l;simp;omega⟩ rfl (λk hk=>by
    by_cases e:k<r.tr.length
    ·exact .inl ⟨e,gdL e _⟩
    ·obtain rfl:k=r.tr.length:=by simp at hk;omega
     right;show((r.tr++[_]).getD r.tr.length ke).cQ.length<=i+1/\_;rw[gdN]
     exact⟨bY _,bY _,Int.le_refl 0,by show(0:Int)<=2;decide⟩)⟩
  replace hP:=hid hP;refine⟨⟨x23,(YO 3 _ rfl).1,ET⟩,?_⟩;simp only[bV];clear YO ET h34 F4 tA nX RN Zb hna ha4 oX hS f3 fp BR zw V7 kA aat aas Li x2 x3 kS Qs xh dJ F2;go_wp2;go_ret;exact hP.out
 ·have YG:(ee != 0)=true:=by simp[bne,h0]
  have e4:=(xg 4 _ rfl).1;have q0:∀x:a_ W1,x.w.cell? ⟨rp,0,none⟩=some (.slice (some ⟨g,o,none⟩) Q.length pc):=λx=>by rw[<-AH];exact x.cell (dN 0 _ rfl).1
  have q1:=qk xg 0 rfl;have q2:∀x:a_ W1,x.w.cell? ⟨g,o+t,none⟩=some (.slice ub (Q.getD t []).length uc):=λx=>x.cell (k1.cellAt ku id);obtain⟨NQ,kZ⟩:=ao Q.length;obtain⟨NB,qD⟩:=ao ((Q.getD t []).length);have uO:=ht;rw[kZ] at q0 uO;rw[qD] at q2;go_wp2_with fail
  refine bB 12 (by kernel_rfl) (by kernel_rfl) ?_;simp only[List.take_succ_cons,List.take_zero,List.drop_succ_cons,List.drop_zero]
  repeat (go_big_quiet_step (fail))
  refine wpQuiet_nil ?_;intro w5 hw';have c5:=a_.out hw';clear hw' q0 q1 q2;have kw:Calm w w5:=k1.trans c5;have s1:=(zy 0 _ rfl).1;have s1':=(zy 0 _ rfl).2;rw[fM] at s1 s1';have y1:=kw.cellAt s1 id;have y1':=kw.frozenAt s1 s1' id;have RN:=aw ha kw (λ_ _=>id)
  have Zb:(w5.setCell ⟨ga,t*2,none⟩ (vI (NB:Int))).ownsRow 0 135 2 atv (r.sp.set t ⟨(NB:Int),(r.sp.getD t dp).tr⟩).length ((r.sp.set t ⟨(NB:Int),(r.sp.getD t dp).tr⟩).flatMap sX):=by
   rw[EL.out] at RN ⊢;exact gN RN rfl (by rw[sM.out];exact Ih) 0 (by decide) _ _ rfl
  have F2:Fr (λk=>k=ga) w5 (w5.setCell ⟨ga,t*2,none⟩ (vI (NB:Int))):=(Fr.refl (λk=>k=ga) w5).setCell (p:=⟨ga,t*2,none⟩) (.inl rfl) _;have T2:ay atv ga:=by rw[EL.out];exact ay.mk.2 rfl
  have oX:Fr (λb=>b=rp\/ay atv b\/ay ib b) w (w5.setCell ⟨ga,t*2,none⟩ (vI (NB:Int))):=(Calm.any kw:Fr (λb=>b=rp\/ay atv b\/ay ib b) _ _).trans (F2.mono (λb _ e=>.inr (.inl (by rw[e];exact T2))));have hct:=(hc.calm kw).fr F2 (λe=>Vp (by rw[e];exact T2));have VC:=aw (aw ru kw (λ_ _=>id)) F2 (λb hb e=>h1.apart (t:=3) (u:=2) (k:=b) (by decide) (by rw[h2.t];exact hb) (by rw[h2.a,e];exact T2))
  have hP:kn w τ rp i pv Q (some (r.begin Q i ⟨t,b,n,k,ee,v⟩)) (.returned (.bool true)) (w5.setCell ⟨ga,t*2,none⟩ (vI (NB:Int))):=by
   obtain⟨M',aL,m1,m2,m3⟩:=wg.fD (ms':=ms) h1 h2 oX hct Zb VC (λb hb=>.inl hb) (aD _) (λk hk=>⟨rfl,rfl,rfl,rfl⟩) (λk h1 h2=>by omega)
   have er:r.begin Q i ⟨t,b,n,k,ee,v⟩ = { r with sp:=r.sp.set t ⟨(NB:Int),(r.sp.getD t dp).tr⟩ }:=by
    unfold Rd.begin;rw[if_pos h0,<-qD];rfl
   refine .inl ⟨_,aL,rfl,rfl,?_,m3.dE tk⟩;rw[er];have Pu:=hQ.b t ht;have hs5:=h5.s t (by rw[sM.out];exact Ih);exact⟨M',_,_,_,m1,m2,h3,m3.Gv h4,h5.fD (t:=t) (.inl rfl) ⟨⟨by show(-9223372036854775808:Int)<=(NB:Int);omega,by show(NB:Int)<=_;omega⟩,hs5.2⟩ ⟨aD _,by have:=h5.l;show r.tr.length<=_;omega⟩ rfl (λk hk=>.inl ⟨hk,rfl⟩)⟩
  replace hP:=hid hP;clear oX hct VC RN Zb F2 xg dN e4 ku;go_wp2;go_ret;exact hP.out
end
section
variable {w:ag}{τ:Nat->Nat}{rp i:Nat}{pv:aA}{Q:Pg}{r:Rd}
theorem cI{α:Type}{ety:TypeId}{k:Nat}{f:α->List aA}(hf:∀a,(f a).length=k)(hk:0<k){g n c:Nat}{l:List α}(h:w.ownsRow 0 ety k (.slice (some ⟨g,0,none⟩) n c) l.length (l.flatMap f))(d:α){i:Nat}(hi:i<l.length)(j:Nat){u:aA}(hu:(f (l.getD i d))[j]?=some u):Own w g (i*k+j) u:=by
 obtain⟨g',c',hv,hc⟩:=bT hf hk h d hi;injection hv with e1 e2 e3
 injection e1 with e1
 injection e1 with e1 _ _
 subst e1;exact hc j u hu
theorem gP{gt c n:Nat}{ms:List ue}(h:w.ownsRow 0 89 10 (.slice (some ⟨gt,0,none⟩) n c) ms.length (ms.flatMap sF))(hn:n=ms.length){t:Nat}(ht:t<ms.length)(j:Nat)(hj:j<10)(y:aA)(s':ue)(e:sF s'=(sF (ms.getD t fo)).set j y):(w.setCell ⟨gt,t*10+j,none⟩ y).ownsRow 0 89 10 (.slice (some ⟨gt,0,none⟩) n c) (ms.set t s').length ((ms.set t s').flatMap sF):=by
 subst hn;have:=lM h (j:=t*10+j) (by rw[ij sF 10 fg];omega) y;rw[qV sF 10 fg fo s' j hj y ms t ht e] at this;rw[bN];exact this
theorem nz{ms:List ue}{j:Nat}{m':ue}(hj:j<ms.length)(h:m'.av=(ms.getD j fo).av/\m'.x.cQ=(ms.getD j fo).x.cQ/\m'.tv=(ms.getD j fo).tv/\m'.x.lS=(ms.getD j fo).x.lS):∀k,k<ms.length->((ms.set j m').getD k fo).av=(ms.getD k fo).av/\((ms.set j m').getD k fo).x.cQ=(ms.getD k fo).x.cQ/\((ms.set j m').getD k fo).tv=(ms.getD k fo).tv/\((ms.set j m').getD k fo).x.lS=(ms.getD k fo).x.lS:=λk hk=>by
 by_cases e:k=j
 ·subst e;rw[oV hk];exact h
 ·rw[wK e];exact⟨rfl,rfl,rfl,rfl⟩
structure RdJ(w:ag)(τ:Nat->Nat)(rp i:Nat)(pv:aA)(Q:Pg)(r:Rd)(t b j:Nat)(M:Mem)(ms:List ue)(ga ca gt ct gp op cp gb ob cb:Nat)(XF ud:aA)(gq oq cq:Nat):Prop where
 h:bE w τ M
 m:wg M rp pv (.slice (some ⟨ga,0,none⟩) r.sp.length ca) (.slice (some ⟨gt,0,none⟩) ms.length ct) r.sp ms r.bK
 e:ms.map (·.x)=r.tr
 p:ed (λb=>10000<=τ b) w pv Q
 k:OH Q r i
 c:af w rp [pv,.slice (some ⟨ga,0,none⟩) r.sp.length ca,.slice (some ⟨gt,0,none⟩) ms.length ct,vI r.bK]
 a:w.ownsRow 0 135 2 (.slice (some ⟨ga,0,none⟩) r.sp.length ca) r.sp.length (r.sp.flatMap sX)
 tt:w.ownsRow 0 89 10 (.slice (some ⟨gt,0,none⟩) ms.length ct) ms.length (ms.flatMap sF)
 ts:t<r.sp.length
 js:j<ms.length
 pv_:pv=.slice (some ⟨gp,op,none⟩) Q.length cp
 pb:w.cell? ⟨gp,op+t,none⟩=some XF
 ub:XF=.slice (some ⟨gb,ob,none⟩) (Q.getD t []).length cb
 pd:w.cell? ⟨gb,ob+b,none⟩=some ud
 ud_:∃ad,ud=.slice ad ((Q.getD t []).getD b []).length cq/\(0<((Q.getD t []).getD b []).length->ad=some ⟨gq,oq,none⟩)
 dd:∀n,n<((Q.getD t []).getD b []).length->∀c u,(fW (((Q.getD t []).getD b []).getD n dD))[c]?=some u->w.cell? ⟨gq,oq+n*5+c,none⟩=some u
 ne:ga≠gt/\ga≠rp/\gt≠rp
theorem jP.at_(h:jP w τ rp pv Q i r){t b j:Nat}(ht:t<Q.length)(hb:b<(Q.getD t []).length)(hj:(r.sp.getD t dp).tr=(j:Int)):∃M ms ga ca gt ct gp op cp gb ob cb XF ud gq oq cq,RdJ w τ rp i pv Q r t b j M ms ga ca gt ct gp op cp gb ob cb XF ud gq oq cq:=by
 obtain⟨M,atv,ib,ms,h1,h2,h3,h4,h5⟩:=h;have hc:af w rp [pv,atv,ib,vI r.bK]:=by have:=h1.at_ 1;rw[h2.c] at this;exact this
 have ha:w.ownsRow 0 135 2 atv r.sp.length (r.sp.flatMap sX):=by have:=h1.at_ 2;rw[h2.a] at this;exact this
 have ru:w.ownsRow 0 89 10 ib ms.length (ms.flatMap sF):=by have:=h1.at_ 3;rw[h2.t] at this;exact this
 have Ih:t<r.sp.length:=by rw[h5.n];exact ht
 have PS:j<ms.length:=by have:=(h5.s t Ih).2.2;rw[<-h3,List.length_map,hj] at this;omega
 obtain⟨ga,ca,rfl,zy⟩:=bT fe (by decide) ha dp Ih;obtain⟨gt,ct,rfl,hgt⟩:=bT fg (by decide) ru fo PS;obtain⟨pa,pc,AH,xY⟩:=h4;have h4:ed (λb=>10000<=τ b) w pv Q:=⟨pa,pc,AH,xY⟩;obtain⟨g,o,u,rfl,tg,ku,ub,uc,VD,hbg⟩:=xY t ht;obtain⟨g2,o2,u2,rfl,tg2,nW,ud,dc,Il,UJ⟩:=hbg b hb;have hne:ga≠gt/\ga≠rp/\gt≠rp:=⟨λe=>h1.apart (t:=2) (u:=3) (k:=ga) (by decide) (by rw[h2.a];exact ay.mk.2 rfl) (by rw[h2.t,e];exact ay.mk.2 rfl),λe=>h1.apart (t:=2) (u:=1) (k:=ga) (by decide) (by rw[h2.a];exact ay.mk.2 rfl) (by rw[h2.c];exact e),λe=>h1.apart (t:=3) (u:=1) (k:=gt) (by decide) (by rw[h2.t];exact ay.mk.2 rfl) (by rw[h2.c];exact e)⟩
 by_cases h0:0<((Q.getD t []).getD b []).length
 ·obtain⟨g3,o3,e3,tg3,RU⟩:=UJ 0 h0;refine⟨M,ms,ga,ca,gt,ct,g,o,pc,g2,o2,uc,u,u2,g3,o3,dc,⟨h1,h2,h3,h4,h5,hc,ha,ru,Ih,PS,AH,ku,VD,nW,⟨ud,Il,λ_=>e3⟩,λn hn c x hx=>?_,hne⟩⟩;obtain⟨g4,o4,e4,tg4,abp⟩:=UJ n hn;rw[e3] at e4;injection e4 with e4
  injection e4 with e4 e5 e6
  subst e4 e5;exact abp c x hx
 ·exact⟨M,ms,ga,ca,gt,ct,g,o,pc,g2,o2,uc,u,u2,0,0,dc,⟨h1,h2,h3,h4,h5,hc,ha,ru,Ih,PS,AH,ku,VD,nW,⟨ud,Il,λe=>absurd e h0⟩,λn hn=>by omega,hne⟩⟩
theorem Fh(h:jP w τ rp pv Q i r)(hi:i<=2000)(hQ:tX Q){t b j:Nat}(ht:t<Q.length)(hb:b<(Q.getD t []).length)(hj:(r.sp.getD t dp).tr=(j:Int))(xV:(r.sp.getD t dp).block=(b:Int))(n k ee v:Int):aJ prog 103 #[pR rp,vI (i:Int),.agg #[vI (t:Int),vI (b:Int),vI n,vI k,vI ee,vI v]] w (kn w τ rp i pv Q (r.gC Q i ⟨t,b,n,k,ee,v⟩)):=by
 obtain⟨τ0,h0,tk,fr⟩:=h.fresh;clear h;obtain⟨M,ms,ga,ca,gt,ct,gp,op,cp,gb,ob,cb,XF,ud,gq,oq,cq,hJ⟩:=h0.at_ ht hb hj;have Od:rp<w.heap.size:=hJ.c.lt (by simp);have k0:Calm w (w.alloc (.cells #[vI (t:Int),vI (b:Int),vI n,vI k,vI ee,vI v] 76)):=ah.alloc _;have oE:af (w.alloc (.cells #[vI (t:Int),vI (b:Int),vI n,vI k,vI ee,vI v] 76)) w.heap.size (mB t b n k ee v):=af.zT w [_,_,_,_,_,_] _ _ rfl;obtain⟨W0,gF⟩:=ao (w.alloc (.cells #[vI (t:Int),vI (b:Int),vI n,vI k,vI ee,vI v] 76));rw[gF] at k0 oE;obtain⟨NS,sM⟩:=ao r.sp.length;obtain⟨NM,sL⟩:=ao ms.length;obtain⟨NQ,kZ⟩:=ao Q.length;obtain⟨NB,qD⟩:=ao ((Q.getD t []).length);obtain⟨ND,Ku⟩:=ao (((Q.getD t []).getD b []).length);obtain⟨ad,Il,-⟩:=hJ.ud_;have Ij:=hJ.ts;have PS:=hJ.js;rw[sM] at Ij;rw[sL] at PS;rw[kZ] at ht;rw[qD] at hb;rw[Ku] at Il;obtain⟨m,hm⟩:=ao (ms.getD j fo)
 obtain⟨aa,ac,HF⟩:∃a c,m.av=.slice a m.x.cQ.length c:=by
  have:=hJ.h.at_ (10+2*j);rw[(hJ.m.x j hJ.js).1,hm] at this;exact aF this
 have DB:∀W,Calm w W->W.cell? ⟨rp,1,none⟩=some (.slice (some ⟨ga,0,none⟩) NS ca):=λW c=>by rw[<-sM];exact c.cellAt (hJ.c 1 _ rfl).1 id
 have VL:∀W,Calm w W->W.cell? ⟨rp,2,none⟩=some (.slice (some ⟨gt,0,none⟩) NM ct):=λW c=>by rw[<-sL];exact c.cellAt (hJ.c 2 _ rfl).1 id
 have DA:∀W,Calm w W->W.cell? ⟨rp,0,none⟩=some (.slice (some ⟨gp,op,none⟩) NQ cp):=λW c=>by rw[<-kZ,<-hJ.pv_];exact c.cellAt (hJ.c 0 _ rfl).1 id
 have VO:∀W,Calm w W->W.cell? ⟨ga,t*2+1,none⟩=some (vI (j:Int)):=λW c=>c.cellAt (cI fe (by decide) hJ.a dp hJ.ts 1 (by rw[<-hj];rfl)).1 id;have LH:∀W,Calm w W->W.cell? ⟨gt,j*10+6,none⟩=some (.slice aa m.x.cQ.length ac):=λW c=>by rw[<-HF];exact c.cellAt (cI fg (by decide) hJ.tt fo hJ.js 6 (by rw[hm];rfl)).1 id
 have Sz:∀W,Calm w W->W.cell? ⟨gp,op+t,none⟩=some (.slice (some ⟨gb,ob,none⟩) NB cb):=λW c=>by rw[<-qD,<-hJ.ub];exact c.cellAt hJ.pb id
 have SA:∀W,Calm w W->W.cell? ⟨gb,ob+b,none⟩=some (.slice ad ND cq):=λW c=>by rw[<-Il];exact c.cellAt hJ.pd id
 obtain⟨NA,xR⟩:=ao m.x.cQ.length;rw[xR] at LH;have z1:=DB W0 k0;have z0:=(oE 0 _ rfl).1;replace hJ:=hid hJ;replace sM:=hid sM;replace sL:=hid sL;replace kZ:=hid kZ;replace qD:=hid qD;replace Ku:=hid Ku;replace xR:=hid xR;replace hm:=hid hm;replace HF:=hid HF;replace Il:=hid Il;replace hj:=hid hj;replace xV:=hid xV;replace DA:=hid DA;replace DB:=hid DB;replace VL:=hid VL;replace VO:=hid VO;replace LH:=hid LH;replace Sz:=hid Sz;replace SA:=hid SA;replace hQ:=hid hQ;clear h0;go_in;go_wp2_with fail
 clear gF
 go_quiet (fail)
 have k1:Calm w (W0.drewN nq):=k0.trans (ah.drewN nq);have xg:af (W0.drewN nq) w.heap.size (mB t b n k ee v):=oE.calm (ah.drewN nq);generalize W0.drewN nq=W1 at *;clear z0 z1 oE k0;have z1:=DB.out W1 k1;have z2:=VL.out W1 k1;have z3:=VO.out W1 k1;go_wp2_with fail
 go_quiet (fail)
 have k2:Calm w (W1.drewN nq):=k1.trans (ah.drewN nq);have xh:af (W1.drewN nq) w.heap.size (mB t b n k ee v):=xg.calm (ah.drewN nq);generalize W1.drewN nq=W2 at *;clear z1 z2 z3 xg k1;have z1:=LH.out W2 k2;have z2:=(xh 2 _ rfl).1;have rm:Hid (∀W,Calm w W->r.gC Q i ⟨t,b,n,k,ee,v⟩=none->kn w τ rp i pv Q (r.gC Q i ⟨t,b,n,k,ee,v⟩) (.returned (.bool false)) W):=λW c e=>.inr ⟨e,rfl,c.any⟩
 have ru:Hid ((r.nB ⟨t,b,n,k,ee,v⟩).cQ.length=NA):=by
  have hJ:=hJ.out;unfold Rd.nB Rd.spot;show(r.tr.getD (r.sp.getD t dp).tr.toNat ke).cQ.length=NA;rw[hj.out,<-hJ.e];show((ms.map (·.x)).getD j (fo.x)).cQ.length=NA;rw[RC,hm.out,xR.out]
 have HY:Hid ((dh Q (t:Int) (b:Int)).length=ND):=Ku.out
 by_cases hn:n=(NA:Int)
 ·by_cases lU:n=(ND:Int)
  ·have oZ:(n != (NA:Int))=false:=by simp[hn]
   have Va:(n != (ND:Int))=false:=by simp[lU]
   have z3:=DA.out W2 k2;have z4:=(xh 0 _ rfl).1;have z5:=Sz.out W2 k2;have z6:=(xh 1 _ rfl).1;have z7:=SA.out W2 k2;replace hn:=hid hn;replace lU:=hid lU;go_wp2_with fail
   go_quiet (fail)
   have k3:Calm w (W2.drewN nq):=k2.trans (ah.drewN nq);have ET:af (W2.drewN nq) w.heap.size (mB t b n k ee v):=xh.calm (ah.drewN nq);generalize W2.drewN nq=W3 at *;clear z1 z2 z3 z4 z5 z6 z7 xh k2;have hJ:=hJ.out;have acG:=sL.out;have acH:=sM.out;have qi:=hm.out;obtain⟨gm,zE,rj⟩:=hJ.ne;have Ji:ay (.slice (some ⟨ga,0,none⟩) r.sp.length ca) ga:=ay.mk.2 rfl;have Bt:ay (.slice (some ⟨gt,0,none⟩) ms.length ct) gt:=ay.mk.2 rfl;have T3:=aw hJ.tt k3 (λ_ _=>id);have A3:=aw hJ.a k3 (λ_ _=>id);have C3:=hJ.c.calm k3;have gaw:ga<w.heap.size:=(World.ownsRow.lt hJ.a ga Ji).2;have gtw:gt<w.heap.size:=(World.ownsRow.lt hJ.tt gt Bt).2;have p5:=cI fg (by decide) T3 fo hJ.js 5 (u:=vI m.x.mM) (by rw[qi];rfl);have T4:=gP T3 rfl hJ.js 5 (by decide) (vI (i:Int)) { m with x:={ m.x with mM:=(i:Int) } } (by rw[qi];rfl);have F4:Fr (λk=>k=gt) W3 (W3.setCell ⟨gt,j*10+5,none⟩ (vI (i:Int))):=(Fr.refl (λk=>k=gt) W3).setCell (p:=⟨gt,j*10+5,none⟩) (.inl rfl) _;obtain⟨W4,oy⟩:=ao (W3.setCell ⟨gt,j*10+5,none⟩ (vI (i:Int)));rw[oy] at T4 F4;have A4:=aw A3 F4 (λb hb e=>gm (by obtain rfl:=ay.fJ hb;exact e));have C4:=C3.fr F4 (λe=>rj e.symm);have E4:=ET.fr F4 (show ¬w.heap.size=gt by omega);have q1:=cI fe (by decide) A4 dp hJ.ts 1 (u:=vI (j:Int)) (by rw[<-hj.out];rfl);have A5:=gN A4 rfl hJ.ts 1 (by decide) (vI (-1)) ⟨(r.sp.getD t dp).block,-1⟩ rfl;have F5:Fr (λk=>k=ga) W4 (W4.setCell ⟨ga,t*2+1,none⟩ (vI (-1))):=(Fr.refl (λk=>k=ga) W4).setCell (p:=⟨ga,t*2+1,none⟩) (.inl rfl) _;obtain⟨W5,mK⟩:=ao (W4.setCell ⟨ga,t*2+1,none⟩ (vI (-1)));rw[mK] at A5 F5;have T5:=aw T4 F5 (λb hb e=>gm (by obtain rfl:=ay.fJ hb;exact e.symm));have C5:=C4.fr F5 (λe=>zE e.symm);have E5:=E4.fr F5 (show ¬w.heap.size=ga by omega);have js5:j<(ms.set j { m with x:={ m.x with mM:=(i:Int) } }).length:=by rw[bN];exact hJ.js
   have g5:=oV hJ.js ({ m with x:={ m.x with mM:=(i:Int) } } : ue) fo;have p8:=cI fg (by decide) T5 fo js5 8 (u:=vI m.x.en) (by rw[g5];rfl);have p51:=p5.1;have p52:=p5.2;have rI:=q1.1;have qK:=q1.2;have p81:=p8.1;have p82:=p8.2;have Pc:Fr (λb=>b=rp\/ay (.slice (some ⟨ga,0,none⟩) r.sp.length ca) b\/ay (.slice (some ⟨gt,0,none⟩) ms.length ct) b) w W5:=((Calm.any k3:Fr (λb=>b=rp\/ay (.slice (some ⟨ga,0,none⟩) r.sp.length ca) b\/ay (.slice (some ⟨gt,0,none⟩) ms.length ct) b) _ _).trans (F4.mono (λb _ e=>.inr (.inr (by rw[e];exact Bt))))).trans (F5.mono (λb _ e=>.inr (.inl (by rw[e];exact Ji))));have z1:=(E5 4 _ rfl).1
   by_cases h0:ee=0
   ·subst h0;have T6:=gP (n:=ms.length) T5 (by rw[bN]) js5 8 (by decide) (vI 1) { m with x:={ m.x with mM:=(i:Int),en:=1 } } (by rw[g5];rfl);rw[List.set_set] at T6;have F6:Fr (λk=>k=gt) W5 (W5.setCell ⟨gt,j*10+8,none⟩ (vI 1)):=(Fr.refl (λk=>k=gt) W5).setCell (p:=⟨gt,j*10+8,none⟩) (.inl rfl) _;obtain⟨W6,sO⟩:=ao (W5.setCell ⟨gt,j*10+8,none⟩ (vI 1));rw[sO] at T6 F6;have A6:=aw A5 F6 (λb hb e=>gm (by obtain rfl:=ay.fJ hb;exact e));have C6:=C5.fr F6 (λe=>rj e.symm);have E6:=E5.fr F6 (show ¬w.heap.size=gt by omega);have VS:j<(ms.set j { m with x:={ m.x with mM:=(i:Int),en:=1 } }).length:=by rw[bN];exact hJ.js
    have g6:=oV hJ.js ({ m with x:={ m.x with mM:=(i:Int),en:=1 } } : ue) fo;have p9:=cI fg (by decide) T6 fo VS 9 (u:=vI m.x.dm) (by rw[g6];rfl);have p91:=p9.1;have p92:=p9.2;have T7:=gP (n:=ms.length) T6 (by rw[bN]) VS 9 (by decide) (vI v) { m with x:={ m.x with mM:=(i:Int),en:=1,dm:=v } } (by rw[g6];rfl);rw[List.set_set] at T7;have F7:Fr (λk=>k=gt) W6 (W6.setCell ⟨gt,j*10+9,none⟩ (vI v)):=(Fr.refl (λk=>k=gt) W6).setCell (p:=⟨gt,j*10+9,none⟩) (.inl rfl) _;obtain⟨W7,Up⟩:=ao (W6.setCell ⟨gt,j*10+9,none⟩ (vI v));rw[Up] at T7 F7;have A7:=aw A6 F7 (λb hb e=>gm (by obtain rfl:=ay.fJ hb;exact e));have C7:=C6.fr F7 (λe=>rj e.symm);have ts7:t<(r.sp.set t ⟨(r.sp.getD t dp).block,-1⟩).length:=by rw[bN];exact hJ.ts
    have g7:=oV hJ.ts (⟨(r.sp.getD t dp).block,-1⟩:Ax) dp;have q0:=cI fe (by decide) A7 dp ts7 0 (u:=vI (b:Int)) (by rw[g7,<-xV.out];rfl);rw[fM] at q0;have qt:=q0.1;have qw:=q0.2;have A8:=gN (n:=r.sp.length) A7 (by rw[bN]) ts7 0 (by decide) (vI ((b:Int)+1)) ⟨(b:Int)+1,-1⟩ (by rw[g7];rfl);rw[List.set_set,fM] at A8;have F8:Fr (λk=>k=ga) W7 (W7.setCell ⟨ga,t*2,none⟩ (vI ((b:Int)+1))):=(Fr.refl (λk=>k=ga) W7).setCell (p:=⟨ga,t*2,none⟩) (.inl rfl) _;obtain⟨W8,wh⟩:=ao (W7.setCell ⟨ga,t*2,none⟩ (vI ((b:Int)+1)));rw[wh] at A8 F8;have T8:=aw T7 F8 (λb hb e=>gm (by obtain rfl:=ay.fJ hb;exact e.symm));have C8:=C7.fr F8 (λe=>zE e.symm);have z6:=(E6 5 _ rfl).1;have Pu:NB<=3:=by have:=hQ.out.b t (by rw[kZ.out];exact ht);rw[qD.out] at this;exact this
    have BB:bX ((b:Int)+1):=⟨by omega,by omega⟩;have hw9:IntKind.i64.wrap ((b:Int)+1)=(b:Int)+1:=IntWalk.i64_in _ BB
    have hP:kn w τ rp i pv Q (r.gC Q i ⟨t,b,n,k,0,v⟩) (.returned (.bool true)) W8:=by
     have Br:=((Pc.trans (F6.mono (λb _ e=>.inr (.inr (by rw[e];exact Bt))))).trans (F7.mono (λb _ e=>.inr (.inr (by rw[e];exact Bt))))).trans (F8.mono (λb _ e=>.inr (.inl (by rw[e];exact Ji))));obtain⟨M',aL,m1,m2,m3⟩:=wg.fD hJ.h hJ.m Br C8 A8 T8 (λb hb=>.inl hb) (by rw[bN];exact aD _) (nz hJ.js (by rw[qi];exact⟨rfl,rfl,rfl,rfl⟩)) (λk h1 h2=>by rw[bN] at h2;omega)
     have et:r.nB ⟨t,b,n,k,0,v⟩=m.x:=by
      unfold Rd.nB Rd.spot;show r.tr.getD (r.sp.getD t dp).tr.toNat ke=m.x;rw[hj.out,<-hJ.e];show(ms.map (·.x)).getD j fo.x=m.x;rw[RC,qi]
     have er:r.gC Q i ⟨t,b,n,k,0,v⟩=some ⟨r.sp.set t ⟨(b:Int)+1,-1⟩,r.tr.set j { m.x with mM:=(i:Int),en:=1,dm:=v },r.bK⟩:=by
      unfold Rd.gC;rw[et,if_neg (by rw[HY.out,xR.out];rintro (h|h);exact h hn.out;exact h lU.out)];have e8:(r.spot ⟨t,b,n,k,0,v⟩).tr.toNat=j:=by show(r.sp.getD t dp).tr.toNat=j;rw[hj.out];rfl
      have e9:(r.spot ⟨t,b,n,k,0,v⟩).block=(b:Int):=xV.out;rw[e8,e9,if_neg (show ¬((0:Int)≠0) from λh=>h rfl),if_neg (show ¬((0:Int)≠0) from λh=>h rfl)];rfl
     refine .inl ⟨_,aL,er,rfl,⟨M',_,_,_,m1,m2,?_,m3.Gv hJ.p,?_⟩,m3.dE tk⟩
     ·rw[List.map_set,hJ.e]
     ·refine hJ.k.fD (t:=t) (.inl rfl) ⟨BB,Int.le_refl (-1),by show(-1:Int)<_;omega⟩ ⟨by simp,by have:=hJ.k.l;simp;omega⟩ rfl (λk hk=>?_);have PT:k<r.tr.length:=by simpa using hk
      clear hk
      by_cases e:k=j
      ·subst e;right;have e7:=oV PT ({ m.x with mM:=(i:Int),en:=1,dm:=v } : Tr) ke;simp only[] at e7 ⊢;rw[e7];have ha:=hJ.k.a k PT;have e9:r.tr.getD k ke=m.x:=by rw[<-hJ.e];show(ms.map (·.x)).getD k fo.x=m.x;rw[RC,qi]
       rw[e9] at ha;exact⟨by show m.x.cQ.length<=i+1;omega,by show m.x.lS.length<=i+1;omega,by show(0:Int)<=1;decide,by show(1:Int)<=2;decide⟩
      ·exact .inl ⟨PT,wK e _ _⟩
    replace hP:=hid hP;clear T3 A3 C3 T4 A4 C4 E4 A5 T5 C5 E5 T6 A6 C6 E6 T7 A7 C7 T8 A8 C8 F4 F5 F6 F7 F8 Pc p5 q1 p8 p9 q0 hJ ET;replace gm:=hid gm;go_wp2;go_ret;exact hP.out
   ·have YG:(ee != 0)=true:=by simp[bne,h0]
    have T6:=gP (n:=ms.length) T5 (by rw[bN]) js5 8 (by decide) (vI 2) { m with x:={ m.x with mM:=(i:Int),en:=2 } } (by rw[g5];rfl);rw[List.set_set] at T6;have F6:Fr (λk=>k=gt) W5 (W5.setCell ⟨gt,j*10+8,none⟩ (vI 2)):=(Fr.refl (λk=>k=gt) W5).setCell (p:=⟨gt,j*10+8,none⟩) (.inl rfl) _;obtain⟨W6,sO⟩:=ao (W5.setCell ⟨gt,j*10+8,none⟩ (vI 2));rw[sO] at T6 F6;have A6:=aw A5 F6 (λb hb e=>gm (by obtain rfl:=ay.fJ hb;exact e));have C6:=C5.fr F6 (λe=>rj e.symm)
    have hP:kn w τ rp i pv Q (r.gC Q i ⟨t,b,n,k,ee,v⟩) (.returned (.bool true)) W6:=by
     have Br:=Pc.trans (F6.mono (λb _ e=>.inr (.inr (by rw[e];exact Bt))));obtain⟨M',aL,m1,m2,m3⟩:=wg.fD hJ.h hJ.m Br C6 A6 T6 (λb hb=>.inl hb) (by rw[bN];exact aD _) (nz hJ.js (by rw[qi];exact⟨rfl,rfl,rfl,rfl⟩)) (λk h1 h2=>by rw[bN] at h2;omega)
     have et:r.nB ⟨t,b,n,k,ee,v⟩=m.x:=by
      unfold Rd.nB Rd.spot;show r.tr.getD (r.sp.getD t dp).tr.toNat ke=m.x;rw[hj.out,<-hJ.e];show(ms.map (·.x)).getD j fo.x=m.x;rw[RC,qi]
     have er:r.gC Q i ⟨t,b,n,k,ee,v⟩=some ⟨r.sp.set t ⟨(r.sp.getD t dp).block,-1⟩,r.tr.set j { m.x with mM:=(i:Int),en:=2 },r.bK⟩:=by
      unfold Rd.gC;rw[et,if_neg (by rw[HY.out,xR.out];rintro (h|h);exact h hn.out;exact h lU.out),if_pos h0];have e8:(r.spot ⟨t,b,n,k,ee,v⟩).tr.toNat=j:=by show(r.sp.getD t dp).tr.toNat=j;rw[hj.out];rfl
      rw[e8,if_pos h0];rfl
     refine .inl ⟨_,aL,er,rfl,⟨M',_,_,_,m1,m2,?_,m3.Gv hJ.p,?_⟩,m3.dE tk⟩
     ·rw[List.map_set,hJ.e]
     ·refine hJ.k.fD (t:=t) (.inl rfl) ⟨(hJ.k.s t hJ.ts).1,Int.le_refl (-1),by show(-1:Int)<_;omega⟩ ⟨by simp,by have:=hJ.k.l;simp;omega⟩ rfl (λk hk=>?_);have PT:k<r.tr.length:=by simpa using hk
      clear hk
      by_cases e:k=j
      ·subst e;right;have e7:=oV PT ({ m.x with mM:=(i:Int),en:=2 } : Tr) ke;simp only[] at e7 ⊢;rw[e7];have ha:=hJ.k.a k PT;have e9:r.tr.getD k ke=m.x:=by rw[<-hJ.e];show(ms.map (·.x)).getD k fo.x=m.x;rw[RC,qi]
       rw[e9] at ha;exact⟨by show m.x.cQ.length<=i+1;omega,by show m.x.lS.length<=i+1;omega,by show(0:Int)<=2;decide,Int.le_refl 2⟩
      ·exact .inl ⟨PT,wK e _ _⟩
    replace hP:=hid hP;clear T3 A3 C3 T4 A4 C4 E4 A5 T5 C5 E5 T6 A6 C6 F4 F5 F6 Pc p5 q1 p8 hJ ET;replace gm:=hid gm;go_wp2;go_ret;exact hP.out
  ·have oZ:(n != (NA:Int))=false:=by simp[hn]
   have Va:(n != (ND:Int))=true:=by simp[bne,lU]
   have z3:=DA.out W2 k2;have z4:=(xh 0 _ rfl).1;have z5:=Sz.out W2 k2;have z6:=(xh 1 _ rfl).1;have z7:=SA.out W2 k2;have hP:Hid (∀W,Calm w W->kn w τ rp i pv Q (r.gC Q i ⟨t,b,n,k,ee,v⟩) (.returned (.bool false)) W):=λW c=>rm.out W c (by unfold Rd.gC;rw[ru.out,HY.out];exact if_pos (.inr lU));replace hn:=hid hn;replace lU:=hid lU;go_wp2_with fail
   go_quiet (fail)
   go_wp2;go_ret;exact hP.out _ (k2.trans (ah.drewN nq))
 ·have oZ:(n != (NA:Int))=true:=by simp[bne,hn]
  have hP:Hid (∀W,Calm w W->kn w τ rp i pv Q (r.gC Q i ⟨t,b,n,k,ee,v⟩) (.returned (.bool false)) W):=λW c=>rm.out W c (by unfold Rd.gC;rw[ru.out];exact if_pos (.inl hn));replace hn:=hid hn;go_wp2_with fail
  go_quiet (fail)
  go_wp2;go_ret;exact hP.out _ (k2.trans (ah.drewN nq))
end
