import Derived.Test.YtgijglafnlbdbaaGreatTmAV
set_option linter.all false
set_option maxHeartbeats 8000000
set_option maxRecDepth 8000
namespace Go.Proofs.YtgijglafnlbdbaaGreat
open RowKit Shelf Proofs.Tryz
open Go renaming World->aj,Value->aC,Calls->aL
def fN(Q:List Dd):List Ac->Nat->List Mo × List Int->Option (List Mo × List Int)
 | [],_,x=>some x
 | a::l,i,x=>if (gj x.1 x.2 (Q.getD i dD) a.v).2.2.1=a.v/\(gj x.1 x.2 (Q.getD i dD) a.v).2.2.2=a.e then fN Q l (i+1) ((gj x.1 x.2 (Q.getD i dD) a.v).1,(gj x.1 x.2 (Q.getD i dD) a.v).2.1) else none
theorem qj{Q:List Dd}(hQ:∀d∈Q,d.Rt):∀ (l:List Ac) (i:Nat) (x:List Mo × List Int),i+l.length<=Q.length->dV Q l i (lk x.1,x.2)=(fN Q l i x).map λy=>(lk y.1,y.2)
 | [],_,_,_=>rfl
 | a::l,i,x,h=>by
   have hi:i<Q.length:=by simp at h;omega
   have e:=Rh x.1 x.2 (Q.getD i dD) a.v (hQ _ (fC Q i dD hi));unfold dV fN;simp only[e];split
   ·exact qj hQ l (i+1) ((gj x.1 x.2 (Q.getD i dD) a.v).1,(gj x.1 x.2 (Q.getD i dD) a.v).2.1) (by simp at h;omega)
   ·rfl
def lW(x:Tr):List Ac:=if x.en=2/\0<x.aJ.length/\n_ (x.aJ.getD (x.aJ.length-1) ⟨0,0,0⟩).e=true then x.aJ.dropLast else x.aJ
theorem qG.lW{Q:Pg}{M:Nat->FM}{now:Nat}{RB:List Int}{x:Tr}{i:Nat}(h:qG Q M now RB x i):∃y,dV (bU Q x.th x.bl) (lW x) 0 (M x.st.toNat,RB)=some y:=by
 have nf:(∀a∈x.aJ,n_ a.e=false)->Go.Proofs.YtgijglafnlbdbaaGreat.lW x=x.aJ:=λg=>by
  unfold Go.Proofs.YtgijglafnlbdbaaGreat.lW;rw[if_neg];rintro ⟨_,h1,h2⟩;rw[g _ (fC _ _ _ (by omega))] at h2;cases h2
 rcases h.en with e|e|e
 ·rw[nf e.2.2.2.1];exact e.2.2.2.2
 ·rcases e with e|⟨e1,_,l,a,e2,e3,e4,e5⟩
  ·rw[nf e.2.2.1];exact e.2.2.2
  ·have:Go.Proofs.YtgijglafnlbdbaaGreat.lW x=l:=by
    unfold Go.Proofs.YtgijglafnlbdbaaGreat.lW;rw[if_pos ⟨e1,by rw[e2];simp,by rw[e2];simp;exact e3⟩,e2,List.dropLast_concat]
   rw[this];exact e5
 ·rw[nf e.2.2.2.1];exact e.2.2.2.2.1
structure L5(Q:Pg)(tr:List Tr)(n:Nat)(ms:Nat->List Mo)(wr:Nat->Nat):Prop where
 m0:ms 0=[]
 w1:∀v,1<=v->v<=n->wr v<tr.length/\lh (tr.getD (wr v) aK)=true/\(tr.getD (wr v) aK).bt=(v:Nat)/\-1<(tr.getD (wr v) aK).dr/\∃R,fN (bU Q (tr.getD (wr v) aK).th (tr.getD (wr v) aK).bl) (lW (tr.getD (wr v) aK)) 0 (ms (v-1),gA Q (tr.take (wr v)) (tr.getD (wr v) aK).th.toNat)=some (ms v,R)
 w2:∀k,k<tr.length->lh (tr.getD k aK)=true->(tr.getD k aK).bt<=n/\wr (tr.getD k aK).bt.toNat=k
 w3:∀v v',1<=v->v<v'->v'<=n->(tr.getD (wr v) aK).dr<(tr.getD (wr v') aK).dr
 t1:∀k,k<tr.length->(cw tr (tr.getD k aK).fr:Int)=(tr.getD k aK).st/\(tr.getD k aK).st<=n
 t2:∀k,k<tr.length->∃y,fN (bU Q (tr.getD k aK).th (tr.getD k aK).bl) (lW (tr.getD k aK)) 0 (ms (tr.getD k aK).st.toNat,gA Q (tr.take k) (tr.getD k aK).th.toNat)=some y
 t3:∀k,k<tr.length->0<=(tr.getD k aK).th/\(tr.getD k aK).th<Q.length/\0<=(tr.getD k aK).bl/\(tr.getD k aK).bl<(Q.getD (tr.getD k aK).th.toNat []).length/\(tr.getD k aK).se=0/\(tr.getD k aK).aJ.length<=(bU Q (tr.getD k aK).th (tr.getD k aK).bl).length/\(tr.getD k aK).gF.length=(tr.getD k aK).aJ.length
theorem CI.exp{Q:Pg}{aW:Nat}{σ:PS}{M:Nat->FM}{X:List bT}{r:Rd}{i:Nat}{wr:Nat->Nat}(hQ:∀t b,∀d∈bU Q t b,d.Rt)(h:CI Q aW σ M X r i wr):∃ms,L5 Q r.tr σ.now ms wr:=by
 let pl:=λ(v:Nat) (m:List Mo)=>(fN (bU Q (r.tr.getD (wr v) aK).th (r.tr.getD (wr v) aK).bl) (lW (r.tr.getD (wr v) aK)) 0 (m,gA Q (r.tr.take (wr v)) (r.tr.getD (wr v) aK).th.toNat))
 let ms:Nat->List Mo:=λv=>Nat.rec [] (λv m=>((pl (v+1) m).getD ([],[])).1) v
 have tl:∀k,k<r.tr.length->0+(lW (r.tr.getD k aK)).length<=(bU Q (r.tr.getD k aK).th (r.tr.getD k aK).bl).length:=λk hk=>by
  have:=(h.tr k hk).al.1
  have h2:(lW (r.tr.getD k aK)).length<=(r.tr.getD k aK).aJ.length:=by
   unfold lW;split
   ·rw[List.length_dropLast];omega
   ·omega
  omega
 have wv:∀v,1<=v->v<=σ.now->(r.tr.getD (wr v) aK).en=1/\lW (r.tr.getD (wr v) aK)=(r.tr.getD (wr v) aK).aJ/\-1<(r.tr.getD (wr v) aK).dr/\∃R,dV (bU Q (r.tr.getD (wr v) aK).th (r.tr.getD (wr v) aK).bl) (lW (r.tr.getD (wr v) aK)) 0 (M (v-1),gA Q (r.tr.take (wr v)) (r.tr.getD (wr v) aK).th.toNat)=some (M v,R):=λv h1 h2=>by
  obtain⟨a1,a2,a3⟩:=h.w1 v h1 h2
  have et:lW (r.tr.getD (wr v) aK)=(r.tr.getD (wr v) aK).aJ:=by
   unfold lW;rw[if_neg];rintro ⟨e,_⟩;omega
  rcases(h.tr _ a1).en with e|e|e
  ·have:=e.1;omega
  ·rcases e with e|e <;> have:=e.1 <;> omega
  ·obtain⟨g1,g2,R,g3⟩:=e.2.2.2.2.2 (by omega);refine⟨a2,et,g2,R,?_⟩;rw[et];rw[a3,show(((v:Nat):Int)-1).toNat=v-1 by omega,Int.toNat_natCast] at g3;exact g3
 have hm:∀v,v<=σ.now->lk (ms v)=M v:=λv=>by
  induction v with
  | zero=>intro _;funext s;rw[h.m0 s];rfl
  | succ v ih=>
    intro hv;have ih:=ih (by omega);obtain⟨_,_,_,R,g⟩:=wv (v+1) (by omega) hv;rw[Nat.add_sub_cancel,<-ih] at g;have e:=qj (hQ (r.tr.getD (wr (v+1)) aK).th (r.tr.getD (wr (v+1)) aK).bl) (lW (r.tr.getD (wr (v+1)) aK)) 0 (ms v,gA Q (r.tr.take (wr (v+1))) (r.tr.getD (wr (v+1)) aK).th.toNat) (tl _ (h.w1 (v+1) (by omega) hv).1);rw[g] at e
    cases e2:pl (v+1) (ms v) with
    | none=>rw[show fN _ _ _ _=none from e2] at e;cases e
    | some y=>
      rw[show fN _ _ _ _=some y from e2] at e;injection e with e
      injection e with e3 e4
      show lk ((pl (v+1) (ms v)).getD ([],[])).1=_;rw[e2];exact e3.symm
 refine⟨ms,rfl,λv h1 h2=>?_,λk hk hw=>?_,h.w3,λk hk=>⟨h.c1 k hk,(h.tr k hk).st.2⟩,λk hk=>?_,λk hk=>?_⟩
 ·obtain⟨a1,a2,a3⟩:=h.w1 v h1 h2;obtain⟨g1,g2,g3,R,g4⟩:=wv v h1 h2;refine⟨a1,by unfold lh;rw[a2,a3];simp;omega,a3,g3,?_⟩;rw[<-hm (v-1) (by omega)] at g4;have e:=qj (hQ (r.tr.getD (wr v) aK).th (r.tr.getD (wr v) aK).bl) (lW (r.tr.getD (wr v) aK)) 0 (ms (v-1),gA Q (r.tr.take (wr v)) (r.tr.getD (wr v) aK).th.toNat) (tl _ a1);rw[g4] at e
  cases e2:pl v (ms (v-1)) with
  | none=>rw[show fN _ _ _ _=none from e2] at e;cases e
  | some y=>
    refine⟨y.2,?_⟩;rw[show fN _ _ _ _=some y from e2]
    have:ms v=y.1:=by
     obtain⟨v',rfl⟩:∃v',v=v'+1:=⟨v-1,by omega⟩;show((pl (v'+1) (ms v')).getD ([],[])).1=_;rw[Nat.add_sub_cancel] at e2;rw[e2];rfl
    rw[this]
 ·refine⟨?_,h.w2 k hk hw⟩;unfold lh at hw;have hw:(r.tr.getD k aK).en=1/\1<=(r.tr.getD k aK).bt:=by simpa using hw
  rcases(h.tr k hk).en with e|e|e
  ·have:=e.1;omega
  ·rcases e with e|e <;> have:=e.1 <;> omega
  ·exact e.2.2.1
 ·obtain⟨y,hy⟩:=(h.tr k hk).lW;have hs:=(h.tr k hk).st;rw[<-hm (r.tr.getD k aK).st.toNat (by omega)] at hy;have e:=qj (hQ (r.tr.getD k aK).th (r.tr.getD k aK).bl) (lW (r.tr.getD k aK)) 0 (ms (r.tr.getD k aK).st.toNat,gA Q (r.tr.take k) (r.tr.getD k aK).th.toNat) (tl k hk);rw[hy] at e
  cases e2:fN (bU Q (r.tr.getD k aK).th (r.tr.getD k aK).bl) (lW (r.tr.getD k aK)) 0 (ms (r.tr.getD k aK).st.toNat,gA Q (r.tr.take k) (r.tr.getD k aK).th.toNat) with
  | none=>rw[e2] at e;cases e
  | some y=>exact⟨y,rfl⟩
 ·have:=h.tr k hk;exact⟨this.th.1,this.th.2,this.bl.1,this.bl.2,this.se,this.al.1,this.al.2⟩
theorem CI.start(Q:Pg)(aW:Nat)(X:List bT)(hX:X=List.replicate Q.length ⟨0,0,[0,0,0,0,0,0],[0,0,0,0,0,0],false⟩)(σ:PS)(h1:∀a,σ.ob a=none)(h2:σ.now=0)(h3:∀t,(σ.tx t).live=false/\(σ.tx t).holds=[]/\(σ.tx t).aQ=[]/\(σ.tx t).reads=[]):CI Q aW σ (λ_ _=>none) X (Rd.start Q) 0 (λ_=>0):=by
 subst hX
 have cn:∀n,fZ σ n=0:=λn=>by
  unfold fZ;rw[List.countP_eq_zero];intro u _;rw[(h3 u).1];simp
 refine⟨⟨h1 0,λa o e=>?_,λa b o o' e=>?_,λa o e=>?_,λa o e=>?_,λt y hy=>?_,λt y hy=>?_,λt y hy=>?_,λt _=>(h3 t).2,λt e=>?_⟩,⟨λa o v e=>?_,λa o t e=>?_,λt y hy=>?_,λu _ s m e=>?_,λu u' _ _ s e=>absurd rfl e,λu _ s e=>absurd rfl e⟩,λ_=>rfl,by simp,by simp[Rd.start],rfl,by rw[cn,h2];omega,λt ht=>?_,λk hk=>?_,λv e1 e2=>?_,λk hk=>?_,λv v' e1 e2 e3=>?_,λk hk=>?_,by rw[h2];rfl⟩
 ·rw[h1] at e;cases e
 ·rw[h1] at e;cases e
 ·rw[h1] at e;cases e
 ·rw[h1] at e;cases e
 ·rw[(h3 t).2.1] at hy;cases hy
 ·rw[(h3 t).2.1] at hy;cases hy
 ·rw[(h3 t).2.2.1] at hy;cases hy
 ·rw[(h3 t).1] at e;cases e
 ·rw[h1] at e;cases e
 ·rw[h1] at e;cases e
 ·rw[(h3 t).2.1] at hy;cases hy
 ·cases e
 ·have g:(List.replicate Q.length (⟨0,0,[0,0,0,0,0,0],[0,0,0,0,0,0],false⟩:bT)).getD t d0=⟨0,0,[0,0,0,0,0,0],[0,0,0,0,0,0],false⟩:=by
   rw[aS,List.getElem?_replicate,if_pos ht];rfl
  have g2:(List.replicate Q.length cJ).getD t cJ=cJ:=by
   rw[aS,List.getElem?_replicate,if_pos ht];rfl
  have z0:σ.fh 0=0:=PS.oX (h1 0);show L7 Q σ _ t ((List.replicate Q.length _).getD t d0) ((List.replicate Q.length cJ).getD t cJ) [];rw[g,g2];refine⟨rfl,rfl,rfl,(h3 t).1.symm,Int.le_refl _,by show(0:Int)<=((Q.getD t []).length:Nat);omega,.inl ⟨rfl,by show(-1:Int)<0;omega,λp hp=>?_,by simp[z0,gA],λj hj=>by cases hj⟩⟩;left;simp at hp;exact hp
 ·cases hk
 ·omega
 ·cases hk
 ·omega
 ·cases hk
section
theorem bF.dp{w:aj}{τ:Nat->Nat}{A:Mem}(h:bF w τ A)(R:Nat->Prop)(hR:∀t k,(A t).bU k->¬R k)(m:Nat):∃aX,bF w aX A/\(∀k,R k->aX k=m)/\∀k,¬R k->aX k=τ k:=by
 classical
 exact⟨λk=>if R k then m else τ k,⟨h.at_,λt k hk=>by simp only[if_neg (hR t k hk)];exact h.tag t k hk⟩,λk hk=>if_pos hk,λk hk=>if_neg hk⟩
variable {w:aj}{τ:Nat->Nat}{s mp:Nat}{S:aY}{Q:List (List (List Dd))}{tv hv:aC}{ev:Eh}{X:List bT}
theorem Ck{op:Oper}{a:Act}{w:aj}{K:Act->aj->Prop}{Q:Exit->Act->aj->Prop}(x y:Operand)(ho:op.op=.store 31 x y)
 {g N c i:Nat} {Y:List bT} {z:bT} (hx:a.eval x=.pointer (some ⟨g,i*15,none⟩)) (hy:a.eval y=.agg (bq z).toArray) (own:w.ownsRow 0 31 15 (.slice (some ⟨g,0,none⟩) N c) N (Y.flatMap bq)) (hY:Y.length=N) (hi:i<N)
 (h:∀w',w'.ownsRow 0 31 15 (.slice (some ⟨g,0,none⟩) N c) N ((Y.set i z).flatMap bq)->Fr (λk=>k=g) w w'->K (a.put op.dst undef) w'):op.wp prog a w K Q:=by
 have hl:(Y.flatMap bq).length=N*15:=by rw[dS bq 15 iQ,hY]
 have hs:=mQ (bq z) own (i*15) (by rw[hl,iQ];omega);rw[jV bq 15 iQ z Y i (by omega)] at hs;refine wp_store_mid 31 x y ho g (i*15) (bq z).toArray hx hy (λj hj=>?_) (by kernel_rfl) (eO z) (h _ hs (Fr.setCells (S:=λk=>k=g) rfl _ _ aq));obtain⟨g2,c2,hv,hg⟩:=bz (ety:=31) (k:=15) iQ (by decide) (by rw[<-hY] at own;exact own) d0 (show i<Y.length by omega);injection hv with e1 _ _
 injection e1 with e1
 injection e1 with e1 _ _
 subst e1;have De:j<(bq (Y.getD i d0)).length:=by rw[iQ];exact hj
 have:=hg j _ (jI De);exact⟨by rw[this.1];rfl,this.2⟩
theorem Mc.dN{w':aj}(h:Mc w τ s mp S Q tv hv ev X){ev':Eh}(f:Fr (λk=>k=mp\/aB ev k) w w')(hc:ag w' mp [pV S.sp,tv,hv,.int .i32 0,.int .u32 0,ev'])(he:w'.ownsRow 0 76 6 ev' ev'.H.length (ev'.H.flatMap En.c))(hn:ev'.H.length<=2000)(iE:∀b,aB ev' b->aB ev b\/w.heap.size<=b) :
 ∃aX,Mc w' aX s mp S Q tv hv ev' X/\(∀b,b<w.heap.size->aX b=τ b)/\eQ w τ w' aX:=by
 obtain⟨EI,_⟩:=h.r.e;have JG:mp<w.heap.size:=h.r.c.lt (by simp);obtain⟨M,H1,H2,H3⟩:=h.st
 have tS:∀b,(b=mp\/aB ev b)->600<=τ b/\τ b≠601/\τ b<603:=λb hb=>by
  rcases hb with rfl|hb
  ·rw[h.r.t0];omega
  ·rw[h.r.t2 b hb];omega
 have hM:∀t k,(M t).bU k->k<w.heap.size/\τ k<500:=λt k hk=>by
  have h1:=H1.lt t hk;have h2:=H1.tag t k hk
  by_cases e:t<500
  ·exact⟨h1,by omega⟩
  ·rw[H2.z t (by omega)] at hk;exact hk.elim
 have H1':bF w' τ M:=H1.frame f (λt k hk e=>by have:=(hM t k hk).2;have:=(tS k e).1;omega);obtain⟨aX,k1,k2,k3⟩:=H1'.dp (λk=>w.heap.size<=k) (λt k hk e=>by have:=(hM t k hk).1;omega) 602;have UL:∀b,b<w.heap.size->aX b=τ b:=λb hb=>k3 b (by omega);refine⟨aX,⟨⟨M,k1,H2,H3⟩,⟨hc,az h.r.h f (λb hb e=>by have:=(tS b e).2.1;rw[h.r.t1 b hb] at this;exact this rfl),⟨he,hn⟩,?_,?_,?_,λb hb=>?_,h.r.n,h.r.ok,h.r.pk⟩⟩,UL,⟨f.mono (λk _ e=>(tS k e).2.2),λb hb _=>UL b hb⟩⟩
 ·exact((h.r.p.mono (T':=λb=>τ b=603/\b<w.heap.size) (λb hb e=>⟨e,hb⟩)).fr f (λb e e2=>by have:=(tS b e2).2.2;omega)).mono (λb _ e=>by rw[UL b e.2];exact e.1)
 ·rw[UL mp JG];exact h.r.t0
 ·exact λb hb=>(UL b (World.ownsRow.lt h.r.h b hb).2).trans (h.r.t1 b hb)
 ·rcases iE b hb with e|e
  ·exact(UL b (World.ownsRow.lt EI b e).2).trans (h.r.t2 b e)
  ·exact k2 b e
def qY(H:List En)(x:En):List En:=if H.length<2000 then H++[x] else H
def NtP(w:aj)(τ:Nat->Nat)(s mp:Nat)(S:aY)(Q:List (List (List Dd)))(tv hv:aC)(X:List bT)(H':List En)(e:Ending)(w':aj):Prop:=
 e=.returned (.tuple #[])/\∃aX ev',Mc w' aX s mp S Q tv hv ev' X/\(∀b,b<w.heap.size->aX b=τ b)/\eQ w τ w' aX/\ev'.H=H'
theorem Bx(h:Mc w τ s mp S Q tv hv ev X)(et eb en ek ee ex:Int):aL prog 22 #[.pointer (some ⟨mp,3,none⟩),.agg #[vI et,vI eb,vI en,vI ek,vI ee,vI ex]] w (NtP w τ s mp S Q tv hv X (qY ev.H ⟨et,eb,en,ek,ee,ex⟩)):=by
 obtain⟨he,hn⟩:=h.r.e;refine(Kp h.r.c he (λe=>by have h1:=h.r.t2 mp e;have h2:=h.r.t0;omega) hn et eb en ek ee ex).mono ?_;rintro e w' ⟨rfl,ev',n',MD,k1,k2,k3,k4,k5,k6⟩
 have e2:w'.ownsRow 0 76 6 ev' (qY ev.H ⟨et,eb,en,ek,ee,ex⟩).length ((qY ev.H ⟨et,eb,en,ek,ee,ex⟩).flatMap En.c)/\(qY ev.H ⟨et,eb,en,ek,ee,ex⟩).length<=2000:=by
  unfold qY;rcases k6 with ⟨hl,rfl,rfl⟩|⟨hl,rfl,rfl⟩
  ·rw[if_pos hl,cX,List.flatMap_append];exact⟨by simpa[En.c] using k2,by simp;omega⟩
  ·rw[if_neg hl];exact⟨k2,k3⟩
 obtain⟨aX,m1,m2,m3⟩:=h.dN (ev':=⟨ev',qY ev.H ⟨et,eb,en,ek,ee,ex⟩⟩) k4 k1 e2.1 e2.2 k5;exact⟨rfl,aX,_,m1,m2,m3,rfl⟩
theorem Kk(h:Mc w τ s mp S Q tv hv ev X):aL prog 20 #[.pointer (some ⟨mp,3,none⟩)] w λe w'=>e=.returned (.bool (decide ((2000:Int)<=(ev.H.length:Int))))/\∃aX,Mc w' aX s mp S Q tv hv ev X/\(∀b,b<w.heap.size->aX b=τ b)/\eQ w τ w' aX:=by
 obtain⟨he,hn⟩:=h.r.e;have hne:¬aB ev mp:=λe=>by have h1:=h.r.t2 mp e;have h2:=h.r.t0;omega
 obtain⟨ea,ec,WB⟩:=aG he;have hc:=h.r.c;rw[WB] at hc;refine(Nm hc).mono ?_;rintro e w' ⟨h1,h2,h3⟩;rw[<-WB] at h3;obtain⟨aX,m1,m2,m3⟩:=h.dN (h2.mono λ_ _ e=>.inl e) h3 (az he h2 (λb hb e=>hne (e ▸ hb))) hn (λb hb=>.inl hb);exact⟨h1,aX,m1,m2,m3⟩
theorem Mc.mono{s':Nat}(h:Mc w τ s mp S Q tv hv ev X)(hs:s<=s'):Mc w τ s' mp S Q tv hv ev X:=by
 obtain⟨⟨M,h1,h2,h3⟩,r⟩:=h;exact⟨⟨M,h1,h2,h3.mono hs⟩,r⟩
end
section
theorem LL{x:bT}(h:x.V.length=6){a:Nat}(ha:a<6)(v:Nat):(bq x).set (8+a) (vI (v:Int))=bq { x with V:=x.V.set a v }:=by
 obtain⟨b,p,R,V,live⟩:=x
 match V,h with
 | [r0,r1,r2,r3,r4,r5],_=>
   rcases(by omega:a=0\/a=1\/a=2\/a=3\/a=4\/a=5) with rfl|rfl|rfl|rfl|rfl|rfl <;> rfl
theorem FA{x:bT}{a:Nat}(ha:a<6):(bq x)[8+a]?=some (vI ((x.V.getD a 0:Nat):Int)):=by
 rcases(by omega:a=0\/a=1\/a=2\/a=3\/a=4\/a=5) with rfl|rfl|rfl|rfl|rfl|rfl <;> rfl
theorem Tz{fn:Func}{i j:Nat}{W:aj}{B5:Nat}{x:bT}{v:aC}{tmps:Array aC}(hf:fn.results = #[.cell i 31,.tmp j])(h5:tmps[i]?.getD undef = aR B5)(h6:tmps[j]?.getD undef=v)
 (t:ag W B5 (bq x)):(results fn tmps).run prog W=.ok (.tuple #[bO x,v]) W:=by
 simp only[bq,rg] at t;obtain⟨y0,y1,y2,y3,y4,y5,y6,y7,y8,y9,lN,nB,nC,ko,kp⟩:=ag.nY t;simp[results,hf,h5,h6,go_sem,bO,rg,y0,y1,y2,y3,y4,y5,y6,y7,y8,y9,lN,nB,nC,ko,kp]
def gw(f:Nat->Nat)(l:aE):Nat->aE
 | 0=>l
 | i+1=>(gw f l i).set i (f (l.getD i 0))
theorem ru(f:Nat->Nat)(l:aE):∀i,(gw f l i).length=l.length
 | 0=>rfl
 | i+1=>by rw[gw,bE,ru f l i]
theorem rk(f:Nat->Nat)(l:aE):∀i j,i<=j->(gw f l i).getD j 0=l.getD j 0
 | 0,_,_=>rfl
 | i+1,j,h=>by
   rw[gw,aS,List.getElem?_set_ne (by omega),<-aS];exact rk f l i j (by omega)
theorem xO(f:Nat->Nat){l:aE}(h:l.length=6):gw f l 6=l.map f:=by
 match l,h with
 | [a,b,c,d,e,g],_=>rfl
def bT.ser(σ:PS)(x:bT):bT:={ x with R:=x.R.map (D6 σ),V:=x.V.map (D6 σ) }
variable {w:aj}{τ:Nat->Nat}{s mp:Nat}{S:aY}{Q:List (List (List Dd))}{tv hv:aC}{ev:Eh}{X:List bT}
theorem zy(h:w.ownsRow 0 31 15 hv X.length (X.flatMap bq)){t:Nat}(ht:t<X.length):∃g c,hv=.slice (some ⟨g,0,none⟩) X.length c/\∀j u,(bq (X.getD t d0))[j]?=some u->Own w g (t*15+j) u:=bz (ety:=31) (k:=15) iQ (by decide) h d0 ht
theorem oQ(h:Mc w τ s mp S Q tv hv ev X){t:Nat}(ht:t<X.length):aL prog 8 #[pV mp,vI (t:Int)] w λe w'=>e=.returned (.tuple #[bO ((X.getD t d0).ser (vw S)),.bool true])/\Calm w w':=by
 have df:=h.r.ok t ht;obtain⟨g,c,zU,hg⟩:=zy h.r.h ht;obtain⟨N,hN⟩:=au X.length;rw[hN] at zU ht;have hN8:N<=4:=by rw[<-hN,h.r.n];exact h.r.pk.n.2
 subst hv;obtain⟨x,hx⟩:=au (X.getD t d0);rw[hx] at df hg ⊢;have os:Hid (∀ (a:Nat) W,Calm w W->a<=131072->aL prog 19 #[pV mp,vI (a:Int)] W λe w'=>e=.returned (vI (D6 (vw S) a:Nat))/\Calm W w'):=λa W cW ha=>DA (h.calm cW) ha;obtain⟨ka,o4⟩:=gL w [vI 0,vI 0,vI 0,vI 0,vI 0,vI 0,vI 0,vI 0,vI 0,vI 0,vI 0,vI 0,vI 0,vI 0,.bool false] 31;obtain⟨W1,iM⟩:=au (w.alloc (.cells #[vI 0,vI 0,vI 0,vI 0,vI 0,vI 0,vI 0,vI 0,vI 0,vI 0,vI 0,vI 0,vI 0,vI 0,.bool false] 31));have JU:W1.heap.size=w.heap.size+1:=by rw[<-iM];simp
 rw[iM] at ka o4;have y2:=ka.cellAt (h.r.c 2 _ rfl).1 id;have gY:∀j u,(bq x)[j]?=some u->W1.cell? ⟨g,t*15+j,none⟩=some u:=λj u hu=>ka.cellAt (hg j u hu).1 id;have e0:=gY 0 _ rfl;have e1:=gY 1 _ rfl;have e2:=gY 2 _ rfl;have e3:=gY 3 _ rfl;have e4:=gY 4 _ rfl;have e5:=gY 5 _ rfl;have e6:=gY 6 _ rfl;have e7:=gY 7 _ rfl;have e8:=gY 8 _ rfl;have e9:=gY 9 _ rfl;have VK:=gY 10 _ rfl;have VL:=gY 11 _ rfl;have VM:=gY 12 _ rfl;have Rj:=gY 13 _ rfl;have Rk:=gY 14 _ rfl;rw[fj] at e0;simp only[rg] at e2 e3 e4 e5 e6 e7 e8 e9 VK VL VM Rj;have kb:Calm w (W1.alloc (.cells #[vI x.b,vI x.p,rg x.R 0,rg x.R 1,rg x.R 2,rg x.R 3,rg x.R 4,rg x.R 5,rg x.V 0,rg x.V 1,rg x.V 2,rg x.V 3,rg x.V 4,rg x.V 5,.bool x.live] 31)):=ka.alloc _;have o6:ag (W1.alloc (.cells #[vI x.b,vI x.p,rg x.R 0,rg x.R 1,rg x.R 2,rg x.R 3,rg x.R 4,rg x.R 5,rg x.V 0,rg x.V 1,rg x.V 2,rg x.V 3,rg x.V 4,rg x.V 5,.bool x.live] 31)) (w.heap.size+1) (bq x):=ag.lI W1 [_,_,_,_,_,_,_,_,_,_,_,_,_,_,_] _ _ JU;replace o4:=o4.alloc (.cells #[vI x.b,vI x.p,rg x.R 0,rg x.R 1,rg x.R 2,rg x.R 3,rg x.R 4,rg x.R 5,rg x.V 0,rg x.V 1,rg x.V 2,rg x.V 3,rg x.V 4,rg x.V 5,.bool x.live] 31);simp only[rg,aS] at kb o6 o4;replace df:=af df;clear h gY hg hx ka;replace hN:=af hN;have Gu:=df.out;have Wh:=Gu.r;have Wk:=Gu.v;replace Wh:=af Wh;replace Wk:=af Wk;obtain⟨f,hf⟩:=au (D6 (vw S):Nat->Nat)
 have Bj:(x.ser (vw S)) = { x with R:=gw f x.R 6,V:=gw f x.V 6 }:=by
  rw[xO f Wh.out,xO f Wk.out,<-hf];rfl
 rw[hf] at os;rw[Bj];replace Bj:=af Bj;replace hf:=af hf;have dt0:decide ((t:Int)<0)=false:=decide_eq_false (by omega);have dt1:decide (N<=t)=false:=decide_eq_false (by omega);go_in;go_upto_region 4 with fail
 generalize hW:W1.alloc (.cells #[vI x.b,vI x.p,vI ((x.R[0]?.getD 0:Nat):Int),vI ((x.R[1]?.getD 0:Nat):Int),vI ((x.R[2]?.getD 0:Nat):Int),vI ((x.R[3]?.getD 0:Nat):Int),vI ((x.R[4]?.getD 0:Nat):Int),vI ((x.R[5]?.getD 0:Nat):Int),vI ((x.V[0]?.getD 0:Nat):Int),vI ((x.V[1]?.getD 0:Nat):Int),vI ((x.V[2]?.getD 0:Nat):Int),vI ((x.V[3]?.getD 0:Nat):Int),vI ((x.V[4]?.getD 0:Nat):Int),vI ((x.V[5]?.getD 0:Nat):Int),.bool x.live] 31)=W at *;clear hW e0 e1 e2 e3 e4 e5 e6 e7 e8 e9 VK VL VM Rj Rk y2;replace o6:=af o6;replace o4:=af o4;replace kb:=af kb;clear Gu;go_wp2_with fail
 go_loopw [27] (λz wr=>∃i:Nat,i<=6/\z=vI i/\ag wr (w.heap.size+1) (bq { x with R:=gw f x.R i,V:=gw f x.V i })/\ag wr w.heap.size [vI 0,vI 0,vI 0,vI 0,vI 0,vI 0,vI 0,vI 0,vI 0,vI 0,vI 0,vI 0,vI 0,vI 0,.bool false]/\Calm w wr) (λz _=>6-(intOf z).toNat)
 case atStart=>exact⟨0,by omega,rfl,o6.out,o4.out,kb.out⟩
 case round=>
  obtain⟨i,hi,rfl,p6,p4,hc⟩:=hrel;clear o6 o4 kb
  by_cases aZ:i<6
  ·obtain⟨y,hy⟩:=au (({ x with R:=gw f x.R i,V:=gw f x.V i } : bT):bT);have hyR:y.R.length=6:=by rw[<-hy];show(gw f x.R i).length=6;rw[ru];exact Wh.out
   have hyV:y.V.length=6:=by rw[<-hy];show(gw f x.V i).length=6;rw[ru];exact Wk.out
   have eR:y.R.getD i 0=x.R.getD i 0:=by rw[<-hy];exact rk f x.R i i (aM _)
   have eV:y.V.getD i 0=x.V.getD i 0:=by rw[<-hy];exact rk f x.V i i (aM _)
   have mR:x.R.getD i 0<=131072:=df.out.rp _ (get_mem 0 (by have:=Wh.out;omega));have mV:x.V.getD i 0<=131072:=df.out.vp _ (get_mem 0 (by have:=Wk.out;omega));have e9:({ y with R:=y.R.set i (f (x.R.getD i 0)),V:=y.V.set i (f (x.V.getD i 0)) } : bT) = { x with R:=gw f x.R (i+1),V:=gw f x.V (i+1) }:=by rw[<-hy];rfl
   rw[hy] at p6;obtain⟨a,ha⟩:=au (x.R.getD i 0);obtain⟨b,hb⟩:=au (x.V.getD i 0);rw[ha] at eR mR e9;rw[hb] at eV mV e9;have q2:=p6 (2+i) _ (b_ aZ);rw[eR] at q2;have wg:=q2.1;have xG:=q2.2;have i0:(0:Int)<=i:=by omega
   have i6:(i:Int)<6:=by omega
   have oa:=os.out a wr hc mR;replace hyR:=af hyR;replace hyV:=af hyV;replace e9:=af e9;replace eR:=af eR;replace eV:=af eV;replace hy:=af hy;replace ha:=af ha;replace hb:=af hb;clear q2;go_wp2_with fail
   refine oa.mono ?_;rintro e w4 ⟨rfl,c4⟩;clear oa;have p64:=p6.calm c4;have p44:=p4.calm c4;have wg:=c4.cellAt wg id;have xG:=(p64 (2+i) _ (b_ aZ)).2;have F5:Fr (λb=>b=w.heap.size+1) w4 (w4.setCell ⟨w.heap.size+1,2+i,none⟩ (vI ((f a:Nat):Int))):=(Fr.refl (λb=>b=w.heap.size+1) w4).setCell (p:=⟨w.heap.size+1,2+i,none⟩) (.inl rfl) _;have Yg:=p64.set (2+i) (vI ((f a:Nat):Int)) (by show 2+i<15;omega);rw[tH hyR.out aZ] at Yg;obtain⟨W5,mW⟩:=au (w4.setCell ⟨w.heap.size+1,2+i,none⟩ (vI ((f a:Nat):Int)));rw[mW] at Yg F5;have sX:=(hc.trans c4).join F5 (λj hj e=>by omega);have Yf:=p44.fr F5 (by omega);have r2:=Yg (8+i) _ (FA aZ);have UT:W5.cell? ⟨w.heap.size+1,8+i,none⟩=some (vI (b:Int)):=by have:=r2.1;rw[show({ y with R:=y.R.set i (f a) } : bT).V=y.V from rfl,eV.out] at this;exact this
   have ob:=os.out b W5 sX mV;clear p64 p44 F5 r2;go_wp2_with fail
   refine ob.mono ?_;rintro e w6 ⟨rfl,c6⟩;clear ob;have p66:=Yg.calm c6;have p46:=Yf.calm c6;have UT:=c6.cellAt UT id;have ZM:=(p66 (8+i) _ (FA aZ)).2;have F7:Fr (λb=>b=w.heap.size+1) w6 (w6.setCell ⟨w.heap.size+1,8+i,none⟩ (vI ((f b:Nat):Int))):=(Fr.refl (λb=>b=w.heap.size+1) w6).setCell (p:=⟨w.heap.size+1,8+i,none⟩) (.inl rfl) _;have p67:=p66.set (8+i) (vI ((f b:Nat):Int)) (by show 8+i<15;omega);rw[LL (x:={ y with R:=y.R.set i (f a) }) hyV.out aZ] at p67
   have dh:Hid (ag (w6.setCell ⟨w.heap.size+1,8+i,none⟩ (vI ((f b:Nat):Int))) (w.heap.size+1) (bq { x with R:=gw f x.R (i+1),V:=gw f x.V (i+1) })/\ag (w6.setCell ⟨w.heap.size+1,8+i,none⟩ (vI ((f b:Nat):Int))) w.heap.size [vI 0,vI 0,vI 0,vI 0,vI 0,vI 0,vI 0,vI 0,vI 0,vI 0,vI 0,vI 0,vI 0,vI 0,.bool false]/\Calm w (w6.setCell ⟨w.heap.size+1,8+i,none⟩ (vI ((f b:Nat):Int)))):=by
    refine⟨?_,p46.fr F7 (by omega),(sX.trans c6).join F7 (λj hj e=>by omega)⟩;rw[<-e9.out];exact p67
   clear p66 p46 F7 p67 Yg Yf mW wg xG;go_wp2_with fail
   exact⟨⟨i+1,by omega,by simp,dh.out⟩,by simp[intOf] <;> omega⟩
  ·obtain rfl:i=6:=by omega
   obtain⟨x2,dg⟩:=au (({ x with R:=gw f x.R 6,V:=gw f x.V 6 } : bT):bT);rw[dg] at p6;replace dg:=af dg;have T1:=p4.whole (us:=(bq x2)) rfl;have F1:=rG wr (w.heap.size) 0 (bq x2);have hC:=af (hc.join F1 (λj hj e=>by omega));replace T1:=af T1;simp only[bq,rg] at p6;obtain⟨d0,d1,d2,d3,d4,d5,d6,d7,d8,d9,d10,d11,d12,d13,d14⟩:=ag.nY p6;obtain⟨y0,z0,y1,z1,y2,z2,y3,z3,y4,z4,y5,z5,y6,z6,y7,z7,y8,z8,y9,z9,lN,vo,nB,xR,nC,xS,ko,zL,kp,vB⟩:=ag.jU p4;clear p4 p6 F1 hc;go_wp2;exact bodyPost_ret (v:=.tuple #[bO x2,.bool true]) (Tz (i:=4) (j:=5) rfl rfl rfl T1.out) rfl ⟨by rw[<-dg.out],hC.out⟩
end
section
open Go.RowKit Go.Shelf Go.MuLone
def U8(w:aj)(mp:Nat)(a0 a1 a2 ev:aC)(n:Nat)(xs:List aC)(e:Ending)(w':aj):Prop:=
 ∃u,e=.returned u/\w'.ownsRow 0 76 6 u n xs/\(∀b,aB u b->w.heap.size<=b)/\ag w' mp [a0,a1,a2,.int .i32 0,.int .u32 0,ev]/\w'.ownsRow 0 76 6 ev n xs/\Fr (λk=>k=mp) w w'
theorem Q3{w:aj}{mp:Nat}{a0 a1 a2 ev:aC}{n:Nat}{xs:List aC}(h:ag w mp [a0,a1,a2,.int .i32 0,.int .u32 0,ev])(hr:w.ownsRow 0 76 6 ev n xs)(hne:¬aB ev mp)(hn:n<=2000)(hx:∀u∈xs,u.oneCell'=true) :
 aL prog 29 #[.pointer (some ⟨mp,3,none⟩)] w (U8 w mp a0 a1 a2 ev n xs):=by
 obtain⟨ea,ec,rfl⟩:=aG hr;have c3:=(h 3 _ rfl).1;have f3:=(h 3 _ rfl).2;have JG:mp<w.heap.size:=h.lt (by simp);have h1:=h.set 3 (.int .i32 1) (by simp);have F1:=l_ w (mp) 3 (.int .i32 1);obtain⟨W1,iM⟩:=au (w.setCell ⟨mp,3,none⟩ (.int .i32 1));rw[iM] at h1 F1;have jF:=az hr F1 (λb hb e=>hne (e ▸ hb));have d5:W1.cell? ⟨mp,5,none⟩=some (.slice ea n ec):=(h1 5 _ rfl).1;have JU:=F1.size;replace jF:=af jF;replace hx:=af hx;replace h1:=af h1;replace F1:=af F1;replace hr:=af hr;replace hne:=af hne;clear h;go_enter_defers func29,ntmps29
 go_wp2_with (first
  | (go_at_call 41;refine(lock_free rT ⟨mp,3,none⟩ _ c3 f3).mono ?_;rintro e w' ⟨rfl,rfl⟩;rw[iM])
  | (
   at_builtin
   go_must (refine k_ giE rfl _ _ rfl (.slice none 0 0) 0 [] ⟨by simp,.inl ⟨rfl,rfl⟩⟩ rfl (.slice ea n ec) n xs jF.out rfl hx.out (by omega) ?_)
   intro v' w3 fu Ro gD;have k3:Calm W1 w3:=Ro.mono (λb _ e=>(aB.nil b e).elim);have h3:=h1.out.calm k3;have d33:=(h3 3 _ rfl).1;have g33:=(h3 3 _ rfl).2
   have hP:U8 w mp a0 a1 a2 (.slice ea n ec) n xs (.returned v') (w3.setCell ⟨mp,3,none⟩ (.int .i32 0)):=by
    have F2:=l_ w3 (mp) 3 (.int .i32 0)
    have hv:∀b,aB v' b->W1.heap.size<=b:=λb hb=>by
     rcases gD b hb with e|e
     ·exact(aB.nil b e).elim
     ·exact e
    have e9:0+n=n:=fk n;refine⟨v',rfl,?_,λb hb=>fH JU (hv b hb),h3.set 3 (.int .i32 0) (by simp),az (az jF.out k3 (λ_ _=>id)) F2 (λb hb e=>hne.out (e ▸ hb)),(F1.out.trans (Calm.any k3)).trans F2⟩;rw[e9,List.nil_append] at fu;exact az fu F2 (λb hb e=>by have:=hv b hb;omega)
   replace hP:=af hP
   clear fu Ro gD k3 h3))
 refine leaves_cons (f:=42) (args:=#[.pointer (some ⟨mp,3,none⟩)]) (by simp) (by simp[go_sem]) ?_;refine(unlock_deferred rT ⟨mp,3,none⟩ .returning _ d33 g33).mono ?_;rintro e u' w'' ⟨rfl,rfl,rfl⟩;exact⟨_,results_tmp (t:=2) rfl _ _ _,hP.out⟩
end
section
variable {w:aj}{τ:Nat->Nat}{s mp:Nat}{S:aY}{Q:List (List (List Dd))}{tv hv:aC}{ev:Eh}{X:List bT}
theorem Rl(l:List En):∀u∈l.flatMap En.c,u.oneCell'=true:=by
 intro u hu;obtain⟨x,_,hx⟩:=List.mem_flatMap.1 hu;simp[En.c,lG] at hx;rcases hx with rfl|rfl|rfl|rfl|rfl|rfl <;> rfl
def Vh(w:aj)(τ:Nat->Nat)(s mp:Nat)(S:aY)(Q:List (List (List Dd)))(tv hv:aC)(ev:Eh)(X:List bT)(e:Ending)(w':aj):Prop:=
 ∃u aX,e=.returned u/\Mc w' aX s mp S Q tv hv ev X/\w'.ownsRow 0 76 6 u ev.H.length (ev.H.flatMap En.c)/\(∀b,aB u b->w.heap.size<=b)/\(∀b,b<w.heap.size->aX b=τ b)/\eQ w τ w' aX
theorem Kl(h:Mc w τ s mp S Q tv hv ev X):aL prog 12 #[pV mp] w (Vh w τ s mp S Q tv hv ev X):=by
 obtain⟨he,hn⟩:=h.r.e;have hne:¬aB ev mp:=λe=>by have h1:=h.r.t2 mp e;have h2:=h.r.t0;omega
 have oa:=Q3 h.r.c he hne hn (Rl _);go_in;go_wp2_with fail
 refine oa.mono ?_;rintro e w' ⟨u,rfl,hu,SE,hc,WB,f⟩;obtain⟨aX,m1,m2,m3⟩:=h.dN (ev':=ev) (f.mono λ_ _ e=>.inl e) hc WB hn (λb hb=>.inl hb);have hP:Hid (Vh w τ s mp S Q tv hv ev X (.returned u) w'):=⟨u,aX,rfl,m1,hu,SE,m2,m3⟩;clear oa hu SE hc WB f m1 m2 m3;go_wp2;go_ret;exact hP.out
theorem Pa(h:St w τ s S):aL prog 23 #[pV S.sp] w λe w'=>e=.returned (vI (S.now:Nat))/\w'=w:=by
 have c2:=(h.cells 2 _ rfl).1;have on:=qL (h.YO 0 _ rfl);go_in;go_wp2_with fail
 refine on.mono ?_;rintro e w' ⟨rfl,rfl⟩;clear on;go_wp2;go_ret;exact⟨rfl,rfl⟩
theorem OE(h:Mc w τ s mp S Q tv hv ev X):aL prog 10 #[pV mp] w λe w'=>e=.returned (vI (S.now:Nat))/\w'=w:=by
 have hs:=Pa h.st;have y0:=(h.r.c 0 _ rfl).1;clear h;go_in;go_wp2_with fail
 refine hs.mono ?_;rintro e w' ⟨rfl,rfl⟩;clear hs;go_wp2;go_ret;exact⟨rfl,rfl⟩
end
theorem bF.add{w:aj}{τ:Nat->Nat}{A:Mem}(h:bF w τ A)(t:Nat)(a:si)(ha:a.at_ w)(hn:∀j k,a.bU k->¬(A j).bU k) :
 ∃aX,bF w aX (A.put t a)/\(∀k,¬a.bU k->aX k=τ k)/\∀k,a.bU k->aX k=t:=by
 classical
 refine⟨λk=>if a.bU k then t else τ k,⟨λj=>?_,λj k hk=>?_⟩,λk hk=>if_neg hk,λk hk=>if_pos hk⟩
 ·by_cases e:j=t
  ·subst e;rw[Mem.aP];exact ha
  ·rw[Mem.aA _ _ e];exact h.at_ j
 ·by_cases e:j=t
  ·subst e;rw[Mem.aP] at hk;exact if_pos hk
  ·rw[Mem.aA _ _ e] at hk;rw[if_neg (λh2=>hn j k h2 hk)];exact h.tag j k hk
theorem bF.CF{w:aj}{τ:Nat->Nat}{A:Mem}(h:bF w τ A)(t:Nat)(a:si)(ha:a.at_ w)(he:∀k,¬a.bU k):bF w τ (A.put t a):=by
 refine⟨λj=>?_,λj k hk=>?_⟩
 ·by_cases e:j=t
  ·subst e;rw[Mem.aP];exact ha
  ·rw[Mem.aA _ _ e];exact h.at_ j
 ·by_cases e:j=t
  ·subst e;rw[Mem.aP] at hk;exact absurd hk (he k)
  ·rw[Mem.aA _ _ e] at hk;exact h.tag j k hk
abbrev nS:aC:=.slice none 0 0
def D0(B:HB)(n c:Nat):HD:=⟨B,HS.start n,c⟩
def S0(B:HB)(n c ck:Nat)(m:Int)(sp:Nat):aY:=⟨D0 B n c,ck,0,m,sp,nS,[],nS,[],0,-1,0,nS,nS⟩
theorem g_(w:aj)(e:TypeId)(k:Nat):w.ownsRow 0 e k nS 0 []:=⟨by simp,.inl ⟨rfl,rfl⟩⟩
theorem El(B:HB)(n c ck:Nat)(m:Int)(sp t:Nat):(S0 B n c ck m sp).tx t=dT:=by simp[S0,aY.tx]
theorem SQ(B:HB)(n c ck:Nat)(m:Int)(sp:Nat):Inv (S0 B n c ck m sp):=
 ⟨λa o h=>(by cases h),λt z hz=>(by rw[El] at hz;cases hz),λt h=>(by rw[El] at h;cases h),rfl,λt=>(by rw[El];rfl),aM _,rfl⟩
structure Ae(S:aY):Prop where
 ob:∀a,(vw S).ob a=none
 nw:S.now=0
 tx:∀t,(S.tx t).live=false/\(S.tx t).L.holds=[]/\(S.tx t).L.aQ=[]/\(S.tx t).L.reads=[]
theorem Ti(B:HB)(n c ck:Nat)(m:Int)(sp:Nat):Ae (S0 B n c ck m sp):=⟨λa=>rfl,rfl,λt=>(by rw[El];exact⟨rfl,rfl,rfl,rfl⟩)⟩
def M0:Mem:=λ_=>lZ
theorem bF.none(w:aj):bF w (λ_=>1000) M0:=⟨λ_=>trivial,λ_ _ h=>h.elim⟩
theorem Lr{w:aj}{B:HB}{n c ck sp:Nat}{m:Int}{X:aE}(hA:dB w B (HS.start n) X)(hC:ag w c [pV B.hp,.nilFunc,nS,nS])(hK:ag w ck [vI (0:Nat),vI m])(hS:ag w sp [pV B.hp,pV c,pV ck,nS,nS,vI (0:Nat),vI (-1),vI (0:Nat),nS,nS])
 (h1:¬lX B c) (h2:¬lX B ck) (h3:¬lX B sp) (h4:c≠ck) (h5:c≠sp) (h6:ck≠sp) (m1:0<=m) (m2:m<=1099511627776) {b0:Nat} (l1:∀k,lX B k->b0<=k) (l2:b0<=c) (l3:b0<=ck) (l4:b0<=sp) :
 ∃τ,St w τ 0 (S0 B n c ck m sp)/\∀b,b<b0->τ b=1000:=by
 obtain⟨gi,k1,n1,t1⟩:=(bF.none w).add 0 (aH (D0 B n c)) ⟨X,hA⟩ (λj k _ h=>h);have b1:∀k,(aH (D0 B n c)).bU k->lX B k:=λk hk=>hk
 have g1:∀j k,((M0.put 0 (aH (D0 B n c))) j).bU k->lX B k:=λj k hk=>by
  by_cases e:j=0
  ·subst e;rw[Mem.aP] at hk;exact b1 k hk
  ·rw[Mem.aA _ _ e] at hk;exact hk.elim
 obtain⟨eY,k2,n2,t2⟩:=k1.add 2 (bD sp (pV B.hp) [pV c,pV ck,nS,nS,vI (0:Nat),vI (-1),vI (0:Nat),nS,nS]) hS (λj k hk h=>by
  have e:k=sp:=hk;subst e
  exact h3 (g1 j _ h))
 have g2:∀j k,(((M0.put 0 (aH (D0 B n c))).put 2 (bD sp (pV B.hp) [pV c,pV ck,nS,nS,vI (0:Nat),vI (-1),vI (0:Nat),nS,nS])) j).bU k->lX B k\/k=sp:=λj k hk=>by
  by_cases e:j=2
  ·subst e;rw[Mem.aP] at hk;exact .inr hk
  ·rw[Mem.aA _ _ e] at hk;exact .inl (g1 j k hk)
 obtain⟨Hs,k3,n3,t3⟩:=k2.add 3 (bD ck (vI (0:Nat)) [vI m]) hK (λj k hk h=>by
  have e:k=ck:=hk;subst e;rcases g2 j _ h with h|h
  ·exact h2 h
  ·exact h6 h)
 have k4:=k3.CF 4 (dK 110 1 nS 0 []) (g_ _ _ _) (λk=>aB.nil k);have k5:=k4.CF 5 (sq nS []) (g_ _ _ _) (λk=>aB.nil k);refine⟨Hs,⟨_,k5,⟨?_,?_,?_,?_,?_,?_,?_⟩,?_⟩,λb hb=>?_⟩
 ·simp[Mem.put,M0,S0]
 ·simp[Mem.put,M0,S0,D0]
 ·simp[Mem.put,M0,S0]
 ·simp[Mem.put,M0,S0]
 ·simp[Mem.put,M0,S0]
 ·intro t ht;exact absurd ht (Nat.not_lt_zero t)
 ·intro t ht;have e5:t≠5:=by omega
  have e4:t≠4:=by omega
  have e3:t≠3:=by omega
  have e2:t≠2:=by omega
  have e0:t≠0:=by omega
  rw[Mem.aA _ _ e5,Mem.aA _ _ e4,Mem.aA _ _ e3,Mem.aA _ _ e2,Mem.aA _ _ e0];rfl
 ·exact⟨⟨rfl,λa o h=>(by cases h),⟨aM _,aM _⟩⟩,aM _,⟨m1,m2,cK _⟩,cK _,λt ht=>absurd ht (Nat.not_lt_zero t),(show cL (-1) from⟨by decide,by decide⟩),SQ _ _ _ _ _ _⟩
 ·have q3:¬(bD ck (vI (0:Nat)) [vI m]).bU b:=λe=>by have e:b=ck:=e;omega
  have q2:¬(bD sp (pV B.hp) [pV c,pV ck,nS,nS,vI (0:Nat),vI (-1),vI (0:Nat),nS,nS]).bU b:=λe=>by have e:b=sp:=e;omega
  rw[n3 b q3,n2 b q2,n1 b (λe=>by have:=l1 b (b1 b e);omega)]
def FC(xp lp:Nat)(mr mu:Int):lD:=⟨xp,false,0,0,lp,nS,[],iB.new mr mu⟩
def aY.more(S:aY)(v:aC)(x:lD):aY:={ S with wu:=v,bB:=S.bB++[x] }
theorem tz(S:aY)(v:aC)(x:lD)(t:Nat):(t<S.bB.length/\(S.more v x).tx t=S.tx t)\/(t=S.bB.length/\(S.more v x).tx t=x)\/(S.more v x).tx t=dT:=by
 unfold aY.tx aY.more;rcases Nat.lt_trichotomy t S.bB.length with h|h|h
 ·exact .inl ⟨h,by rw[aS,aS,List.getElem?_append_left h]⟩
 ·exact .inr (.inl ⟨h,by rw[aS,Cb (by omega),h,Nat.sub_self];rfl⟩)
 ·exact .inr (.inr (by rw[aS,List.getElem?_eq_none (by simp;omega)];rfl))
theorem Inv.more{S:aY}(h:Inv S)(v:aC)(xp lp:Nat)(mr mu:Int):Inv (S.more v (FC xp lp mr mu)):=by
 refine⟨h.sn,λt z hz=>?_,λt ht=>?_,h.qu,λt=>?_,h.ve,h.nx⟩
 ·rcases tz S v (FC xp lp mr mu) t with ⟨_,e⟩|⟨_,e⟩|e
  ·rw[e] at hz;exact h.vs t z hz
  ·rw[e] at hz;cases hz
  ·rw[e] at hz;cases hz
 ·rcases tz S v (FC xp lp mr mu) t with ⟨_,e⟩|⟨_,e⟩|e
  ·rw[e] at ht ⊢;exact h.st t ht
  ·rw[e] at ht;cases ht
  ·rw[e] at ht;cases ht
 ·rcases tz S v (FC xp lp mr mu) t with ⟨_,e⟩|⟨_,e⟩|e
  ·rw[e];exact h.tk t
  ·rw[e];rfl
  ·rw[e];rfl
theorem Ae.more{S:aY}(h:Ae S)(v:aC)(xp lp:Nat)(mr mu:Int):Ae (S.more v (FC xp lp mr mu)):=⟨h.ob,h.nw,λt=>by
 rcases tz S v (FC xp lp mr mu) t with ⟨_,e⟩|⟨_,e⟩|e
 ·rw[e];exact h.tx t
 ·rw[e];exact⟨rfl,rfl,rfl,rfl⟩
 ·rw[e];exact⟨rfl,rfl,rfl,rfl⟩⟩
theorem St.more{w w':aj}{τ:Nat->Nat}{s:Nat}{S:aY}(h:St w τ s S)(hn:S.bB.length<=7){v':aC}{xp lp:Nat}{mr mu:Int}(f:Fr (λb=>b=S.sp\/aB S.wu b) w w')
 (hc:ag w' S.sp (aY.more S v' (FC xp lp mr mu)).cs) (ho:w'.ownsRow 0 110 1 v' (S.bB.length+1) ((S.bB.map λx=>pV x.xp)++[pV xp])) (iE:∀b,aB v' b->aB S.wu b\/w.heap.size<=b)
 (hx:ag w' xp (lD.cs S.bB.length (FC xp lp mr mu))) (hl:ag w' lp [vI mr,vI mu,nS,nS,nS,nS]) (x1:w.heap.size<=xp) (x2:w.heap.size<=lp) (x3:xp≠lp) (x4:¬aB v' xp) (x5:¬aB v' lp)
 (m:0<=mr/\mr<=200/\0<=mu/\mu<=200):∃aX,St w' aX s (aY.more S v' (FC xp lp mr mu))/\∀b,b<w.heap.size->aX b=τ b:=by
 obtain⟨M,h1,h2,h3⟩:=h;have vt:(M 2).bU=λk=>k=S.sp:=by rw[h2.c];rfl
 have hb4:(M 4).bU=aB S.wu:=by rw[h2.t];rfl
 obtain⟨N,hN⟩:=au S.bB.length
 obtain⟨gi,k1,kt1⟩:=h1.DT (t:=2) (u:=4) (by decide) (a:=bD S.sp (pV S.D.B.hp) [pV S.D.c,pV S.ck,v',S.qv,vI S.next,vI S.bM,vI S.bt,S.lv,S.cv]) (b:=dK 110 1 v' (S.bB.length+1) ((S.bB.map λx=>pV x.xp)++[pV xp]))
  (by rw[vt,hb4];exact f) hc ho (λk hk=>by rw[vt];exact hk) (λk hk=>by rw[hb4];exact iE k hk) (by decide) (by decide)
 generalize Cr:(M.put 2 (bD S.sp (pV S.D.B.hp) [pV S.D.c,pV S.ck,v',S.qv,vI S.next,vI S.bM,vI S.bt,S.lv,S.cv])).put 4 (dK 110 1 v' (S.bB.length+1) ((S.bB.map λx=>pV x.xp)++[pV xp]))=M1 at k1;have p4:M1 4=dK 110 1 v' (S.bB.length+1) ((S.bB.map λx=>pV x.xp)++[pV xp]):=by rw[<-Cr,Mem.aP]
 have p2:M1 2=bD S.sp (pV S.D.B.hp) [pV S.D.c,pV S.ck,v',S.qv,vI S.next,vI S.bM,vI S.bt,S.lv,S.cv]:=by rw[<-Cr,Mem.aA _ _ (by decide),Mem.aP]
 have pO:∀j,j≠2->j≠4->M1 j=M j:=λj e2 e4=>by rw[<-Cr,Mem.aA _ _ e4,Mem.aA _ _ e2]
 have jC:∀k,w.heap.size<=k->¬aB v' k->∀j,¬(M1 j).bU k:=λk hk hv j hj=>by
  by_cases e4:j=4
  ·subst e4;rw[p4] at hj;exact hv hj
  ·by_cases e2:j=2
   ·subst e2;rw[p2] at hj;have e:k=S.sp:=hj;have:=h1.lt 2 (k:=S.sp) (by rw[vt]);omega
   ·rw[pO j e2 e4] at hj;have:=h1.lt j hj;omega
 obtain⟨eY,k2,n2,t2⟩:=k1.add (10+8*N) (bD xp (vI N) [.bool false,vI 0,vI 0,pV lp,nS]) (by rw[<-hN];exact hx) (λj k hk=>by have e:k=xp:=hk;rw[e];exact jC xp x1 x4 j)
 obtain⟨Hs,k3,n3,t3⟩:=k2.add (10+8*N+1) (bD lp (vI mr) [vI mu,nS,nS,nS,nS]) hl (λj k hk h=>by
  have e:k=lp:=hk;rw[e] at h
  by_cases ej:j=10+8*N
  ·subst ej;rw[Mem.aP] at h;exact x3 (Eq.symm h)
  ·rw[Mem.aA _ _ ej] at h;exact jC lp x2 x5 j h)
 have k4:=k3.CF (10+8*N+2) (iL nS (nI [])) (bm.nil _ _) (λk=>aB.nil k);have k5:=k4.CF (10+8*N+3) (iL nS (nI [])) (bm.nil _ _) (λk=>aB.nil k);have k6:=k5.CF (10+8*N+4) (FQ nS []) (g_ _ _ _) (λk=>aB.nil k);have k7:=k6.CF (10+8*N+5) (FR nS []) (g_ _ _ _) (λk=>aB.nil k);have k8:=k7.CF (10+8*N+6) (sq nS []) (g_ _ _ _) (λk=>aB.nil k);generalize oy:(((((((M1.put (10+8*N) (bD xp (vI N) [.bool false,vI 0,vI 0,pV lp,nS])).put (10+8*N+1) (bD lp (vI mr) [vI mu,nS,nS,nS,nS])).put (10+8*N+2) (iL nS (nI []))).put (10+8*N+3) (iL nS (nI []))).put (10+8*N+4) (FQ nS [])).put (10+8*N+5) (FR nS [])).put (10+8*N+6) (sq nS []))=M8 at k8
 have o8:Mem.cM (λj=>10+8*N<=j/\j<=10+8*N+6) M1 M8:=by
  rw[<-oy];exact((((((Mem.cM.put M1 _ (by omega)).trans (Mem.cM.put _ _ (by omega))).trans (Mem.cM.put _ _ (by omega))).trans (Mem.cM.put _ _ (by omega))).trans (Mem.cM.put _ _ (by omega))).trans (Mem.cM.put _ _ (by omega))).trans (Mem.cM.put _ _ (by omega))
 have g0:M8 (10+8*N)=bD xp (vI N) [.bool false,vI 0,vI 0,pV lp,nS]:=by rw[<-oy];simp[Mem.put]
 have g1:M8 (10+8*N+1)=bD lp (vI mr) [vI mu,nS,nS,nS,nS]:=by rw[<-oy];simp[Mem.put]
 have g2:M8 (10+8*N+2)=iL nS (nI []):=by rw[<-oy];simp[Mem.put]
 have g3:M8 (10+8*N+3)=iL nS (nI []):=by rw[<-oy];simp[Mem.put]
 have g4:M8 (10+8*N+4)=FQ nS []:=by rw[<-oy];simp[Mem.put]
 have g5:M8 (10+8*N+5)=FR nS []:=by rw[<-oy];simp[Mem.put]
 have g6:M8 (10+8*N+6)=sq nS []:=by rw[<-oy];simp[Mem.put]
 have txO:∀t,t<N->(aY.more S v' (FC xp lp mr mu)).tx t=S.tx t:=λt ht=>by
  show(S.bB++[_]).getD t dT=S.bB.getD t dT;rw[aS,aS,List.getElem?_append_left (by omega)]
 have txN:(aY.more S v' (FC xp lp mr mu)).tx N=FC xp lp mr mu:=by
  show(S.bB++[_]).getD N dT=_;rw[aS,Cb (by omega),hN,Nat.sub_self];rfl
 have Zc:(aY.more S v' (FC xp lp mr mu)).bB.length=N+1:=by show(S.bB++[_]).length=_;rw[cX,hN];rfl
 refine⟨Hs,⟨M8,k8,⟨?_,?_,?_,?_,?_,?_,?_⟩,?_⟩,λb hb=>?_⟩
 ·rw[o8 0 (by omega),pO 0 (by decide) (by decide)];exact h2.h
 ·rw[o8 2 (by omega),p2];rfl
 ·rw[o8 3 (by omega),pO 3 (by decide) (by decide)];exact h2.k
 ·rw[o8 4 (by omega),p4,Zc,hN];show dK _ 1 v' (N+1) _=dK _ 1 v' (N+1) ((S.bB++[FC xp lp mr mu]).map λx=>pV x.xp);rw[List.map_append];rfl
 ·rw[o8 5 (by omega),pO 5 (by decide) (by decide)];exact h2.q
 ·intro t ht;rw[Zc] at ht
  by_cases e:t=N
  ·subst e;rw[txN];exact⟨g0,⟨g1,g2,g3,g4,g5⟩,g6⟩
  ·rw[txO t (by omega)];exact((h2.x t (by omega)).only (P:=λj=>j=2\/j=4) (λj hj=>pO j (λe=>hj (.inl e)) (λe=>hj (.inr e))) (λj h1 h2=>by omega)).only o8 (λj h1 h2=>by omega)
 ·intro t ht;rw[o8 t (by omega),pO t (by omega) (by omega)];exact h2.z t ht
 ·refine⟨h3.he,h3.se,h3.ck,by rw[Zc];omega,λt ht=>?_,h3.ho,h3.iv.more _ _ _ _ _⟩
  ·rw[Zc] at ht
   by_cases e:t=N
   ·subst e;rw[txN];exact⟨⟨λp hp=>(by cases hp),λp hp=>(by cases hp),λp hp=>(by cases hp),λp hp=>(by cases hp)⟩,⟨cK _,cK _,cK _,cK _⟩,m,⟨(show cL 0 from⟨by decide,by decide⟩),(show cL 0 from⟨by decide,by decide⟩)⟩,λi hi=>(by cases hi)⟩
   ·rw[txO t (by omega)];exact h3.x t (by omega)
 ·rw[n3 b (λe=>by have e:b=lp:=e;omega),n2 b (λe=>by have e:b=xp:=e;omega)];exact kt1.tg b hb
theorem IW(w:aj)(hp:Nat):aL prog 37 #[pV hp] w λe w'=>e=.returned (pV w.heap.size)/\ag w' w.heap.size [pV hp,.nilFunc,.slice none 0 0,.slice none 0 0]/\Calm w w':=by
 go_in;go_wp2;go_ret;exact⟨rfl,ag.new w [pV hp,.nilFunc,.slice none 0 0,.slice none 0 0] _,aq.alloc _⟩
theorem St.Q5{w:aj}{τ:Nat->Nat}{s:Nat}{S:aY}(h:St w τ s S):¬aB S.wu S.sp/\τ S.sp=2/\(∀b,aB S.wu b->τ b=4):=by
 obtain⟨M,h1,h2,h3⟩:=h;have t2:(M 2).bU S.sp:=by rw[h2.c];rfl
 have t4:∀b,aB S.wu b->(M 4).bU b:=λb hb=>by rw[h2.t];exact hb
 exact⟨λe=>h1.apart (t:=2) (u:=4) (by decide) t2 (t4 _ e),h1.tag 2 _ t2,λb hb=>h1.tag 4 _ (t4 b hb)⟩
def Z6(w:aj)(m:Int)(sp i:Nat)(wr:aj):Prop:=∃τ S,St wr τ 0 S/\S.bB.length=i/\S.sp=sp/\(∀b,b<w.heap.size->τ b=1000)/\Calm w wr/\Ae S/\S.aW=m
def Vq(w:aj)(m:Int)(k:Nat)(e:Ending)(w':aj):Prop:=∃τ S,e=.returned (.tuple #[pV S.sp,vI 0])/\St w' τ 0 S/\(∀b,b<w.heap.size->τ b=1000)/\Calm w w'/\Ae S/\S.bB.length=k/\S.aW=m
theorem LV(w:aj)(n k:Nat)(h1:16<=n)(h2:n<=16384)(k1:1<=k)(k2:k<=8)(r u aW:Int)(Za:0<=aW/\aW<=1099511627776):aL prog 18 #[vI (n:Int),vI (k:Int),vI r,vI u,vI aW] w (Vq w aW k):=by
 have Un:=af (JH w n h1 h2);clear h1 h2;go_in;go_wp2_with fail
 refine Un.out.mono ?_;rintro e w1 ⟨B,rfl,hA,c1,n1⟩;clear Un;replace hA:=af hA;replace n1:=af n1;go_wp2_with fail
 refine(IW w1 B.hp).mono ?_;rintro e w2 ⟨rfl,hy,c2⟩;replace hy:=af hy;go_wp2_with fail
 refine(Ge w2 aW).mono ?_;rintro e w3 ⟨m,rfl,m1,m2,m3,ho,c3⟩;obtain rfl:=m3 Za.1 Za.2;clear m3;replace ho:=af ho;obtain⟨ka,oS⟩:=gL w3 [jq B,pV w1.heap.size,pV w2.heap.size,.slice none 0 0,.slice none 0 0,vI 0,vI (-1),vI 0,.slice none 0 0,.slice none 0 0] 109;obtain⟨W4,zO⟩:=au (w3.alloc (.cells #[jq B,pV w1.heap.size,pV w2.heap.size,.slice none 0 0,.slice none 0 0,vI 0,vI (-1),vI 0,.slice none 0 0,.slice none 0 0] 109));rw[zO] at ka oS;have c4:=((c1.trans c2).trans c3).trans ka;obtain⟨sp,sI⟩:=au w3.heap.size
 have Y0:Z6 w m sp 0 W4:=by
  have s1:=c1.size;have s2:=c2.size;have s3:=c3.size;have vA:ag w2 w1.heap.size [pV B.hp,.nilFunc,nS,nS]:=hy.out;have l1:=vA.lt (by simp);have l2:=ho.out.lt (by simp);obtain⟨τ,g1,g2⟩:=Lr (hA.out.calm ((c2.trans c3).trans ka)) ((vA.calm c3).calm ka) (ho.out.calm ka) oS (λe=>by have:=hA.out.lt _ e;omega) (λe=>by have:=hA.out.lt _ e;omega) (λe=>by have:=hA.out.lt _ e;omega) (by omega) (by omega) (by omega) m1 m2 (b0:=w.heap.size) n1.out (by omega) (by omega) (by omega);exact⟨τ,_,g1,rfl,sI,g2,c4,Ti _ _ _ _ _ _,rfl⟩
 replace Y0:=af Y0;clear hA n1 hy ho ka oS c4 m1 m2 c1 c2 c3;go_wp2_with fail
 go_loopw [37] (λz w2=>∃i:Nat,i<=k/\z=vI i/\Z6 w m sp i w2) (λz _=>k-(intOf z).toNat)
 case atStart=>exact⟨0,by omega,rfl,Y0.out⟩
 case round=>
  obtain⟨i,hi,rfl,hI⟩:=hrel;clear Y0 zO
  by_cases aZ:i<k
  ·obtain⟨τ,S,hs,Zh,sI,ht,hc,nK,H5⟩:=hI;replace H5:=af H5;replace nK:=af nK;obtain⟨a1,a2,a3⟩:=hs.Q5;have hcs:=hs.cells;have sJ:=hs.Yz;rw[sI] at hcs a1 a2;rw[Zh] at sJ;obtain⟨va,vc,hv⟩:=aG sJ;have y3:Own wr sp 3 S.wu:=hcs 3 _ rfl;have spl:sp<wr.heap.size:=hcs.lt (by simp[aY.cs]);have spw:w.heap.size<=sp:=Nat.le_of_not_lt λe=>by have:=ht sp e;omega
   have tsw:∀b,aB S.wu b->w.heap.size<=b:=λb hb=>Nat.le_of_not_lt λe=>by have:=ht b e;have:=a3 b hb;omega
   rw[hv] at y3 sJ a1;replace tsw:=af tsw;replace ht:=af ht;replace hcs:=af hcs;replace a3:=af a3;have hs':=af hs;clear hs;go_upto_region 10 with fail
   have kd:Calm wr wr.drew:=aq.drew;refine a_ 8 13 (λw'=>w'.cell? ⟨sp,3,none⟩=some (.slice va i vc)) (by kernel_rfl) (by kernel_rfl) (kd.cellAt y3.1 id) ?_;refine ae (pV sp) rfl (λw' hw'=>?_) ai ?_
   ·simp[go_sem]
   refine ae (pV sp) rfl (λw' hw'=>?_) ai ?_
   ·simp[go_sem]
   refine ae (pV sp) rfl (λw' hw'=>?_) ai ?_
   ·simp[go_sem]
   refine ae (.pointer (some ⟨sp,3,none⟩)) rfl (λw' hw'=>?_) ai ?_
   ·simp[go_sem]
   refine ae (.slice va i vc) rfl (λw' hw'=>?_) ai ?_
   ·simp[go_sem,hw']
   refine ae (vI (i:Int)) rfl (λw' hw'=>?_) ai ?_
   ·simp[go_sem]
   refine ae (vI r) rfl (λw' hw'=>?_) ai ?_
   ·simp[go_sem]
   refine ae (vI u) rfl (λw' hw'=>?_) ai ?_
   ·simp[go_sem]
   simp only[bG];refine bH rfl ?_;unfold Oper.wp;go_simp;refine(Ox wr.drew r u).mono ?_;rintro e w5 ⟨mr,mu,rfl,ol,c5,m1,m2,m3,m4⟩;have k5:=kd.trans c5;have hdz:wr.drew.heap.size=wr.heap.size:=rfl;rw[hdz] at ol ⊢;refine⟨k5.cellAt y3.1 id,?_⟩;refine bH rfl ?_;unfold Oper.wp;go_simp;refine⟨k5.cellAt y3.1 id,?_⟩;refine bH rfl ?_;unfold Oper.wp;go_simp;have k6:Calm wr (w5.alloc (.cells #[vI (i:Int),.bool false,vI 0,vI 0,pV wr.heap.size,.slice none 0 0] 114)):=k5.alloc _;have ox:=ag.new w5 [vI (i:Int),.bool false,vI 0,vI 0,pV wr.heap.size,.slice none 0 0] 114;have ol6:=ol.alloc (.cells #[vI (i:Int),.bool false,vI 0,vI 0,pV wr.heap.size,.slice none 0 0] 114);have EV:(w5.alloc (.cells #[vI (i:Int),.bool false,vI 0,vI 0,pV wr.heap.size,.slice none 0 0] 114)).heap.size=w5.heap.size+1:=by simp
   refine⟨k6.cellAt y3.1 id,?_⟩;generalize lQ:w5.alloc (.cells #[vI (i:Int),.bool false,vI 0,vI 0,pV wr.heap.size,.slice none 0 0] 114)=W6 at *;clear lQ;refine bH rfl ?_;unfold Oper.wp;go_simp;have k7:Calm wr (W6.alloc (.cells #[pV w5.heap.size] 110)):=k6.alloc _;refine⟨k7.cellAt y3.1 id,?_⟩;have Xq:=az sJ k7 (λ_ _=>id);refine bH rfl ?_;refine Eq.mp (if_pos (show Region.wanted _ (yielded _ _)=true from rfl)) (gu (ops:=#[]) (E:=True) giP rfl (.tmp 44) (.tmp 51) rfl (.slice va i vc) i _ Xq rfl [pV w5.heap.size] rfl (by simp[Value.oneCell']) ⟨w5.heap.size+1,0,none⟩ 1 rfl (λj u hj=>by rw[cT];simp only[fk];rw[<-EV];exact gW W6 [pV w5.heap.size] _ _ hj) (by omega) ?_);intro g c w8 vO f8 xd;have k7s:=k7.size;have h78:(W6.alloc (.cells #[pV w5.heap.size] 110)).heap.size=W6.heap.size+1:=by simp
   have nsp:¬aB (.slice va i vc) sp:=a1;have RV:=(hcs.out.calm k7).fr f8 nsp;have y38:=RV 3 _ rfl;have Wu:=RV.set 3 (.slice (some ⟨g,0,none⟩) (i+1) c) (by simp[aY.cs]);have F9:=l_ w8 (sp) 3 (.slice (some ⟨g,0,none⟩) (i+1) c);have c5s:wr.heap.size<w5.heap.size:=ol.lt (by simp);have Zn:∀b,aB (.slice va i vc) b->b<wr.heap.size:=λb hb=>(World.ownsRow.lt sJ b hb).2
   have nH:∀b,aB (.slice (some ⟨g,0,none⟩) (i+1) c) b->aB (.slice va i vc) b\/W6.heap.size+1<=b:=λb hb=>by
    obtain rfl:=aB.fg hb;rcases xd with e|e
    ·exact .inl e
    ·right;rw[e];simp
   have hd1:∀b,wr.heap.size<=b->b<W6.heap.size+1->¬aB (.slice (some ⟨g,0,none⟩) (i+1) c) b:=λb h1 h2 hb=>by
    rcases nH b hb with e|e
    ·have:=Zn b e;omega
    ·omega
   have ox9:=((ox.alloc (.cells #[pV w5.heap.size] 110)).fr f8 (λe=>by have:=Zn _ e;omega)).fr F9 (by omega);have ol9:=((ol6.alloc (.cells #[pV w5.heap.size] 110)).fr f8 (λe=>by have h1:=Zn _ e;have h2:wr.heap.size=wr.heap.size:=rfl;omega)).fr F9 (by have h2:wr.heap.size=wr.heap.size:=rfl;omega)
   have Xb:=az vO F9 (λb hb e=>by
    subst e;rcases nH _ hb with e|e
    ·exact nsp e
    ·omega)
   have f09:Fr (λb=>b=sp\/aB (.slice va i vc) b) wr (w8.setCell ⟨sp,3,none⟩ (.slice (some ⟨g,0,none⟩) (i+1) c)):=(((Calm.any k7:Fr (λb=>b=sp\/aB (.slice va i vc) b) _ _).trans (f8.mono (λ_ _ e=>.inr e))).trans (F9.mono (λ_ _ e=>.inl e)))
   have hQ:Z6 w m sp (i+1) (w8.setCell ⟨sp,3,none⟩ (.slice (some ⟨g,0,none⟩) (i+1) c)):=by
    obtain⟨aX,q1,q2⟩:=St.more (v':=.slice (some ⟨g,0,none⟩) (i+1) c) (xp:=w5.heap.size) (lp:=wr.heap.size) (mr:=mr) (mu:=mu) hs'.out (by omega) (by rw[sI,hv];exact f09) (by rw[sI];exact Wu) (by rw[Zh];exact Xb) (λb hb=>by
     rw[hv];rcases nH b hb with e|e
     ·exact .inl e
     ·right;omega) (by rw[Zh];exact ox9) ol9 (by omega) (aM _) (by show w5.heap.size≠wr.heap.size;omega) (hd1 _ (by omega) (by omega)) (hd1 _ (aM _) (by show wr.heap.size<_;omega)) ⟨m1,m2,m3,m4⟩
    refine⟨aX,_,q1,by simp[aY.more,Zh],sI,λb hb=>?_,hc.join f09 (λj hj e=>?_),nK.out.more _ _ _ _ _,H5.out⟩
    ·rw[q2 b (by have:=hc.size;omega)];exact ht.out b hb
    ·rcases e with e|e
     ·omega
     ·have:=tsw.out j (by rw[hv];exact e);omega
   replace hQ:=af hQ;have y80:=y38.1;have y81:=y38.2;refine⟨by rw[<-hv];exact y80,?_⟩;clear RV Wu F9 ox9 ol9 Xb f09 vO f8 xd nH hd1 Zn Xq sJ k7 k6 k5 kd ox ol6 ol y3 a1 y38;simp only[bW];go_wp2_with fail
   exact⟨⟨i+1,by omega,by simp,hQ.out⟩,by simp[intOf] <;> omega⟩
  ·have jL:decide ((i:Int)<k)=false:=decide_eq_false (by omega)
   have dh:Hid (Vq w m k (.returned (.tuple #[pV sp,vI 0])) wr):=by
    obtain⟨τ,S,q1,q2,q3,q4,q5,q6,q7⟩:=hI;exact⟨τ,S,by rw[q3],q1,q4,q5,q6,q2.trans (by omega),q7⟩
   clear hI;go_wp2;exact bodyPost_ret (v:=.tuple #[pV sp,vI 0]) (by simp[results,Tryz.f18,go_sem]) rfl dh.out
