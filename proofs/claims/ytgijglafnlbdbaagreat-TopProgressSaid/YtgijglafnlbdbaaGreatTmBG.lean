import Derived.Test.YtgijglafnlbdbaaGreatTmBF
set_option linter.all false
set_option maxHeartbeats 16000000
set_option maxRecDepth 8000
namespace Go.Proofs.YtgijglafnlbdbaaGreat
open RowKit Shelf Proofs.Tryz
open Go renaming World->ag,Value->aA,Calls->aJ
theorem GC{n:Nat}{x:bP}(h:rk n x=0)(hx:x.live=true->0<=x.p/\x.p<=6):(n:Int)<=x.b:=by
 unfold rk at h
 by_cases e:(n:Int)<=x.b
 ·exact e
 ·rw[if_neg e] at h
  cases hl:x.live with
  | true=>rw[hl,if_pos rfl] at h;have:=hx hl;omega
  | false=>rw[hl,if_neg (by decide)] at h;omega
theorem aaJ{n:Nat}{x:bP}(h:0<=x.b)(hl:x.live=false):rk n x<=14*n:=by
 unfold rk;rw[hl]
 by_cases e:(n:Int)<=x.b
 ·rw[if_pos e];omega
 ·rw[if_neg e,if_neg (by decide)];omega
theorem MI.p6{Q:Pg}{S:aE}{X:List bP}{H:List En}(h:MI Q S X H)(hQ:tX Q){t:Nat}(ht:t<Q.length)(hx:ko (Q.getD t []).length (X.getD t d0))(hl:(X.getD t d0).live=true):0<=(X.getD t d0).p/\(X.getD t d0).p<=6:=by
 have h1:=h.p t ht hl;have h2:=hx.l hl;have h3:=hx.b.1;have h4:=(hQ.d t ht (X.getD t d0).b.toNat (by omega)).2;rw[uo] at h1;exact⟨hx.p.1,by omega⟩
def PA(t:Nat)(S:aE)(X:List bP):Prop:=∀u,u<t->(S.tx u).live=false
def Rk(w1:ag)(mp:Nat)(Q:Pg)(tv hv:aA)(B9 t i:Nat)(y:bP)(w':ag):Prop:=
 ∃τ S ev X,Mc w' τ (100+(14*t+i)) 10000 mp S Q tv hv ev X/\(∀b,b<w1.heap.size->τ b=1000)/\τ B9=1000/\w1.heap.size<=B9/\Calm w1 w'/\MI Q S X ev.H/\ev.H.length<=1400+(14*t+i)/\PA t S X/\y.live=(X.getD t d0).live/\(y.live=true->(i:Int)<=(X.getD t d0).p)/\af w' B9 (aX y)
theorem Rk.fin{w1 w':ag}{mp:Nat}{Q:Pg}{tv hv:aA}{B9 t i:Nat}{y:bP}(h:Rk w1 mp Q tv hv B9 t i y w')(hQ:tX Q)(ht:t<Q.length)(hi:i<=14)(hx:i=14\/y.live=false):y.live=false/\tY w1 mp Q tv hv (14*(t+1)) (PA (t+1)) w':=by
 obtain⟨τ,S,ev,X,hM,h1,h2,h3,h4,h5,h6,h7,h8,h9,Ub⟩:=h
 have hl:y.live=false:=by
  rcases hx with rfl|hx
  ·cases hy:y.live with
   | false=>rfl
   | true=>
     have g1:=h9 hy;rw[h8] at hy;have:=h5.p6 hQ ht (hM.r.ok t (by rw[h5.x];exact ht)) hy;omega
  ·exact hx
 refine⟨hl,τ,S,ev,X,hM.mono (by omega) (aD _),h1,h4,h5,by omega,λu hu=>?_⟩
 by_cases e:u=t
 ·subst e;rw[<-h5.lv u ht,<-h8];exact hl
 ·exact h7 u (by omega)
def PB(Q:Pg)(t:Nat)(S:aE)(X:List bP):Prop:=(∀u,(S.tx u).live=false)/\∀u,u<t->rk (Q.getD u []).length (X.getD u d0)=0
def X_(Q:Pg)(t i:Nat)(S:aE)(X:List bP):Prop:=tP S t/\(rk (Q.getD t []).length (X.getD t d0)+i<=14*(Q.getD t []).length\/rk (Q.getD t []).length (X.getD t d0)=0)/\∀u,u<t->rk (Q.getD u []).length (X.getD u d0)=0
theorem tY.mono{w1 w':ag}{mp:Nat}{Q:Pg}{tv hv:aA}{m m':Nat}{P P':aE->List bP->Prop}(h:tY w1 mp Q tv hv m P w')(hm:m<=m')(hp:∀S X (H:List En),MI Q S X H->(∀t,t<Q.length->ko (Q.getD t []).length (X.getD t d0))->P S X->P' S X):tY w1 mp Q tv hv m' P' w':=by
 obtain⟨τ,S,ev,X,hM,h1,h2,h3,h4,h5⟩:=h;exact⟨τ,S,ev,X,hM.mono (by omega) (aD _),h1,h2,h3,by omega,hp S X ev.H h3 (λt ht=>hM.r.ok t (by rw[h3.x];exact ht)) h5⟩
theorem tY.first{w1 w':ag}{mp:Nat}{Q:Pg}{tv hv:aA}{t m:Nat}(h:tY w1 mp Q tv hv m (PB Q t) w')(ht:t<Q.length):tY w1 mp Q tv hv m (X_ Q t 0) w':=
 h.mono (aD _) λS X H hI ho ⟨h1,h2⟩=>⟨⟨λu _=>h1 u,λh=>by rw[h1 t] at h;cases h⟩,.inl (aaJ (ho t ht).b.1 (by rw[hI.lv t ht];exact h1 t)),h2⟩
theorem tY.last{w1 w':ag}{mp:Nat}{Q:Pg}{tv hv:aA}{t m:Nat}(hQ:tX Q)(h:tY w1 mp Q tv hv m (X_ Q t (14*(Q.getD t []).length)) w')(ht:t<Q.length){m':Nat}(hm:m<=m'):tY w1 mp Q tv hv m' (PB Q (t+1)) w':=
 h.mono hm λS X H hI ho ⟨h1,h2,h3⟩=>by
  have hz:rk (Q.getD t []).length (X.getD t d0)=0:=by rcases h2 with h2|h2 <;> omega
  have hd:=GC hz (λhl=>hI.p6 hQ ht (ho t ht) hl)
  have hl:(X.getD t d0).live=false:=by
   cases hl:(X.getD t d0).live with
   | false=>rfl
   | true=>have:=(ho t ht).l hl;omega
  refine⟨λu=>?_,λu hu=>?_⟩
  ·by_cases e:u=t
   ·subst e;rw[<-hI.lv u ht];exact hl
   ·exact h1.1 u e
  ·by_cases e:u=t
   ·subst e;exact hz
   ·exact h3 u (by omega)
theorem tY.calm{w1 w w':ag}{mp:Nat}{Q:Pg}{tv hv:aA}{m:Nat}{P:aE->List bP->Prop}(h:tY w1 mp Q tv hv m P w)(c:Calm w w'):tY w1 mp Q tv hv m P w':=by
 obtain⟨τ,S,ev,X,hM,h1,h2,h3,h4,h5⟩:=h;exact⟨τ,S,ev,X,hM.calm c,h1,h2.trans c,h3,h4,h5⟩
theorem tY.step{w1 w w':ag}{mp:Nat}{Q:Pg}{tv hv:aA}{t i m:Nat}{τ:Nat->Nat}{S:aE}{ev:xy}{X:List bP}{e:Ending}(hQ:tX Q)(ht:t<Q.length)(hm:m<=500)(hM:Mc w τ (100+m) 10000 mp S Q tv hv ev X)(h1:∀b,b<w1.heap.size->τ b=1000)(h2:Calm w1 w)(h3:MI Q S X ev.H)(h4:ev.H.length<=1400+m)(h5:X_ Q t i S X)(hs:Tl w τ (100+m) 10000 mp S Q tv hv X ev.H t e w'):∃k ee v,e=.returned (cS k ee v)/\ee≠141/\tY w1 mp Q tv hv (m+1) (X_ Q t (i+1)) w':=by
 obtain⟨k,ee,v,rfl,aL,S',ev',x',g1,g2,g3⟩:=hs;obtain⟨k1,k2⟩:=g2.at h1 h2;have Cm:t<X.length:=by rw[h3.x];exact ht
 rcases g3 with ⟨g3,_⟩|⟨_,hf,gU,hH⟩
 ·omega
 ·have l:=gU.law hQ ht h3.n (hM.r.ok t Cm) (h3.lv t ht) (h3.p t ht);obtain⟨a1,a2,a3⟩:=h5;obtain⟨b1,b2,b3⟩:=l.a a1;refine⟨k,ee,v,rfl,b1,aL,S',ev',X.set t x',g1.mono (by omega) (aD _),k1,k2,by rw[hH];exact h3.step ht l hf.len,?_,b2,?_,λu hu=>?_⟩
  ·rw[hH];split
   ·omega
   ·rw[b_];show _+1<=_;omega
  ·rw[oV Cm];omega
  ·rw[wK (by omega)];exact a3 u hu
theorem Rk.step{w1 w w':ag}{mp:Nat}{Q:Pg}{tv hv:aA}{B9 t i:Nat}{y:bP}{τ:Nat->Nat}{S:aE}{ev:xy}{X:List bP}{e:Ending}(hQ:tX Q)(ht:t<Q.length)(hi:i<14)(hM:Mc w τ (100+(14*t+i)) 10000 mp S Q tv hv ev X)(h1:∀b,b<w1.heap.size->τ b=1000)(hB:τ B9=1000)(Ks:w1.heap.size<=B9)(h2:Calm w1 w)(h3:MI Q S X ev.H)(h4:ev.H.length<=1400+(14*t+i))(h5:PA t S X)(hl:y.live=true)(h8:y.live=(X.getD t d0).live)(h9:y.live=true->(i:Int)<=(X.getD t d0).p)(Ub:af w B9 (aX y))(hs:Tl w τ (100+(14*t+i)) 10000 mp S Q tv hv X ev.H t e w') :
 ∃k ee v,e=.returned (cS k ee v)/\∃aL S' ev' X',Mc w' aL (100+(14*t+(i+1))) 10000 mp S' Q tv hv ev' X'/\(∀b,b<w1.heap.size->aL b=1000)/\aL B9=1000/\Calm w1 w'/\MI Q S' X' ev'.H/\ev'.H.length<=1400+(14*t+(i+1))/\PA t S' X'/\af w' B9 (aX y)/\((X'.getD t d0).live=true->((i+1:Nat):Int)<=(X'.getD t d0).p):=by
 obtain⟨k,ee,v,rfl,aL,S',ev',x',g1,g2,g3⟩:=hs;obtain⟨k1,k2⟩:=g2.at h1 h2;have Cm:t<X.length:=by rw[h3.x];exact ht
 have ht4:t<4:=by have:=hQ.n.2;omega
 have hBw:B9<w.heap.size:=Ub.lt (by simp[aX]);rcases g3 with ⟨g3,_⟩|⟨_,hf,gU,hH⟩
 ·omega
 ·have l:=gU.law hQ ht h3.n (hM.r.ok t Cm) (h3.lv t ht) (h3.p t ht);refine⟨k,ee,v,rfl,aL,S',ev',X.set t x',g1.mono (by omega) (aD _),k1,(g2.tg B9 hBw (by omega)).trans hB,k2,by rw[hH];exact h3.step ht l hf.len,?_,λu hu=>?_,Ub.fr g2.fr (by omega),λhl'=>?_⟩
  ·rw[hH];split
   ·omega
   ·rw[b_];show _+1<=_;omega
  ·rw[l.o u (by omega)];exact h5 u hu
  ·rw[oV Cm] at hl' ⊢;have g4:=h9 hl;rcases l.c (by rw[<-h8];exact hl) with g5|⟨g5,_⟩
   ·rw[g5] at hl';cases hl'
   ·rw[g5];omega
theorem topProgress_walk(v1:aA)(Q0:List (List (List Dd)))(qi:Q0.length<=maxLen)(v2:aA)(l:List Int)(hl:∀x∈l,bX x)(wu:l.length<=maxLen)(w:ag)(gA:ed (λb=>b<w.heap.size) w v1 Q0)(ho:QOk Q0)(rV:Row w v2 (l.map (Value.int .i64))) :
 aJ prog 4 #[v1,v2] w λe w'=>e=.returned (.bool true)/\Below w.heap.size w w':=by
 have mE:=Wl v1 Q0 v2 l hl w gA ho rV;clear gA ho rV hl qi wu;go_in;go_wp2_with fail
 refine mE.mono ?_;rintro e w2 ⟨pv,Q,mp,u0,tv,hv,w1,rfl,mY,hQ,c1,hS⟩;clear mE;obtain⟨NQ,kZ⟩:=ao Q.length;have abc:1<=NQ/\NQ<=4:=by rw[<-kZ];exact mY.n
 have hQ':=hid hQ;obtain⟨pa,pc,Z_,xY⟩:=hQ;rw[kZ] at Z_
 have hqg:Hid (∀t,t<NQ->∃g o bu bc,pa=some ⟨g,o,none⟩/\∀W,Calm w1 W->W.cell? ⟨g,o+t,none⟩=some (.slice bu (Q.getD t []).length bc)):=λt ht=>by
  obtain⟨g,o,u,h1,_,h3,bu,bc,h4,_⟩:=xY t (by omega);exact⟨g,o,bu,bc,h1,λW c=>by rw[<-h4];exact c.cellAt h3 id⟩
 have xU:Hid (∀t,t<NQ->(Q.getD t []).length<=3):=λt ht=>mY.b t (by omega);subst Z_;replace mY:=hid mY;replace kZ:=hid kZ;replace c1:=hid c1;clear xY;have kg:Hid (tY w1 mp Q tv hv (14*0) (PA 0) w2):=hS.mono (aD _) λS X H _ _ _ u hu=>absurd hu (Nat.not_lt_zero u);clear hS;go_wp2_with fail
 go_loopw [8] (λz w'=>∃t:Nat,t<=NQ/\z=vI t/\tY w1 mp Q tv hv (14*t) (PA t) w') (λz _=>4-(intOf z).toNat)
 case atStart=>exact⟨0,by omega,rfl,kg.out⟩
 case round=>
  obtain⟨t,htn,rfl,τ,S,ev,X,hM,kV,hc,oW,hH,hP⟩:=hrel;clear kg
  by_cases Xj:t<NQ
  ·have uO:t<Q.length:=by rw[kZ.out];exact Xj
   have Cm:t<X.length:=by rw[oW.x];exact uO
   obtain⟨τ0,Pq,tk0,fr0⟩:=hM.fresh;have ot:=uZ Pq Cm;obtain⟨y,hy⟩:=ao ((X.getD t d0).ser S.D.A);rw[hy] at ot;have SB:y.live=(X.getD t d0).live:=by rw[<-hy];rfl
   have Y3:Hid (∀W B9,Calm wr W->wr.heap.size<=B9->B9<W.heap.size->af W B9 (aX y)->Rk w1 mp Q tv hv B9 t 0 y W):=λW B9 c h1 h2 o=>by
    refine⟨τ0,S,ev,X,Pq.calm c,λb hb=>(tk0 b (Nat.lt_of_lt_of_le hb hc.size)).trans (kV b hb),fr0 _ h1,gw hc.size h1,hc.trans c,oW,hH,hP,SB,λ_=>(Pq.r.ok t Cm).p.1,o⟩
   replace Cm:=hid Cm;clear hM Pq kV hc oW hH hP tk0 fr0 SB;simp only[bQ,rg] at ot;go_wp2_with fail
   refine ot.mono ?_;rintro e w4 ⟨rfl,c4⟩;clear ot;have kA:Calm w4 (w4.alloc (.cells #[vI y.b,vI y.p,rg y.R 0,rg y.R 1,rg y.R 2,rg y.R 3,rg y.R 4,rg y.R 5,rg y.V 0,rg y.V 1,rg y.V 2,rg y.V 3,rg y.V 4,rg y.V 5,.bool y.live] 31)):=ah.alloc _;have oA:af (w4.alloc (.cells #[vI y.b,vI y.p,rg y.R 0,rg y.R 1,rg y.R 2,rg y.R 3,rg y.R 4,rg y.R 5,rg y.V 0,rg y.V 1,rg y.V 2,rg y.V 3,rg y.V 4,rg y.V 5,.bool y.live] 31)) w4.heap.size (aX y):=af.kC w4 [_,_,_,_,_,_,_,_,_,_,_,_,_,_,_] _ _ rfl;have Xh:(w4.alloc (.cells #[vI y.b,vI y.p,rg y.R 0,rg y.R 1,rg y.R 2,rg y.R 3,rg y.R 4,rg y.R 5,rg y.V 0,rg y.V 1,rg y.V 2,rg y.V 3,rg y.V 4,rg y.V 5,.bool y.live] 31)).heap.size=w4.heap.size+1:=by simp
   simp only[rg,aS] at kA oA Xh;go_upto_block 2 with fail
   generalize mK:w4.alloc (.cells #[vI y.b,vI y.p,vI ((y.R[0]?.getD 0:Nat):Int),vI ((y.R[1]?.getD 0:Nat):Int),vI ((y.R[2]?.getD 0:Nat):Int),vI ((y.R[3]?.getD 0:Nat):Int),vI ((y.R[4]?.getD 0:Nat):Int),vI ((y.R[5]?.getD 0:Nat):Int),vI ((y.V[0]?.getD 0:Nat):Int),vI ((y.V[1]?.getD 0:Nat):Int),vI ((y.V[2]?.getD 0:Nat):Int),vI ((y.V[3]?.getD 0:Nat):Int),vI ((y.V[4]?.getD 0:Nat):Int),vI ((y.V[5]?.getD 0:Nat):Int),.bool y.live] 31)=W5 at *;clear mK;obtain⟨B9,hB9⟩:=ao w4.heap.size;rw[hB9] at oA Xh ⊢;have hI1:Hid (∃y,Rk w1 mp Q tv hv B9 t 0 y W5):=⟨y,Y3.out W5 B9 (c4.trans kA) (by rw[<-hB9];exact c4.size) (by omega) oA⟩;clear kA oA Xh hB9 Y3 c4 hy;go_wp2_with fail
   go_loopw [11] (λz w'=>∃i:Nat,i<=14/\z=vI i/\∃y,Rk w1 mp Q tv hv B9 t i y w') (λz _=>14-(intOf z).toNat)
   case atStart=>exact⟨0,by omega,rfl,hI1.out⟩
   case round=>
    obtain⟨i,abB,rfl,y,hT⟩:=hrel;clear hI1;have hTh:=hid hT;obtain⟨τ,S,ev,X,hM,kV,tB,Ks,hc,oW,hH,hP,SB,hyp,hO⟩:=hT;have nT:=(hO 14 _ rfl).1
    by_cases hex:i=14\/y.live=false
    ·obtain⟨g1,g2⟩:=hTh.out.fin mY.out uO abB hex;have hF:=hid g2;rw[g1] at nT;clear hM kV hc oW hH hP SB hyp hO g2 hTh;rcases(by omega:i<14\/i=14) with WM|rfl
     ·have aM:decide ((i:Int)<14)=true:=decide_eq_true (by omega);go_wp2;exact⟨⟨t+1,by omega,by simp,hF.out⟩,by simp[intOf] <;> omega⟩
     ·go_wp2;exact⟨⟨t+1,by omega,by simp,hF.out⟩,by simp[intOf] <;> omega⟩
    ·have WM:i<14:=by omega
     have du:y.live=true:=by cases h:y.live with
      | true=>rfl
      | false=>exact absurd (.inr h) hex
     have aM:decide ((i:Int)<14)=true:=decide_eq_true (by omega);have hz:=nT;rw[du] at hz;have os:=uY hM (by omega) (by omega) (t:=t) (by rw[oW.x];exact uO);have cM:=hid (λe w' hs=>Rk.step (e:=e) (w':=w') mY.out uO WM hM kV tB Ks hc oW hH hP du SB hyp hO hs);clear hM kV hc oW hH hP SB hyp hTh hex tB nT;replace du:=hid du;go_wp2_with fail
     refine os.mono ?_;rintro e w6 hs;obtain⟨k,ee,v,rfl,aL,S',ev',X',hM',P7,tB',KJ,Ug,hH',hP',Jn,Xe⟩:=cM.out e w6 hs;clear os hs cM;have aao:t<X'.length:=by rw[Ug.x];exact uO
     have ot:=uZ hM' aao;obtain⟨y',hy'⟩:=ao ((X'.getD t d0).ser S'.D.A);rw[hy'] at ot;have VN:y'.live=(X'.getD t d0).live:=by rw[<-hy'];rfl
     have hF:Hid (∀w7 W,Calm w6 w7->Fr (λk=>k=B9) w7 W->af W B9 (aX y')->Rk w1 mp Q tv hv B9 t (i+1) y' W):=λw7 W c f o=>by
      refine⟨aL,S',ev',X',(hM'.calm c).own f (λb hb=>by rw[hb,tB'];omega),P7,tB',Ks,(KJ.trans c).join f (λj hj e=>by omega),Ug,hH',hP',VN,λh=>Xe (by rw[<-VN];exact h),o⟩
     replace hO:=hid Jn;clear hM' P7 KJ Ug hH' hP' Xe Jn VN tB' hz aao;simp only[cS];simp only[bQ,rg] at ot;have xb1:=eM y'
     go_wp2_with (first
      | (go_at_call 8;refine ot.mono ?_;rintro e w7 ⟨rfl,c7⟩;have o7:=hO.out.calm c7)
      | (refine oL rfl _ _ _ rfl B9 (aX y').toArray rfl rfl o7 rfl (by kernel_rfl) xb1 ?_;intro w8 s8 f8;have hF8:=hid (hF.out w7 w8 c7 f8 s8);clear o7 s8 f8 c7))
     exact⟨⟨i+1,by omega,by simp,_,hF8.out⟩,by simp[intOf] <;> omega⟩
  ·obtain rfl:t=NQ:=by omega
   have hF0:Hid (tY w1 mp Q tv hv (56+42*0) (PB Q 0) wr):=by
    refine⟨τ,S,ev,X,hM.mono (by omega) (aD _),kV,hc,oW,by omega,λu=>?_,λu hu=>absurd hu (Nat.not_lt_zero u)⟩
    by_cases e:u<t
    ·exact hP u e
    ·cases h:(S.tx u).live with
     | false=>rfl
     | true=>have h1:=aE.pX h;rw[oW.n,kZ.out] at h1;exact absurd h1 e
   have ic:decide ((t:Int)<t)=false:=decide_eq_false (by omega);clear hM kV hc oW hH hP;go_wp2_with fail
   go_loopw [12] (λz w'=>∃b:Nat,b<=t/\z=vI b/\tY w1 mp Q tv hv (56+42*b) (PB Q b) w') (λz _=>4-(intOf z).toNat)
   case atStart=>exact⟨0,by omega,rfl,hF0.out⟩
   case round=>
    obtain⟨b,hbt,rfl,hB⟩:=hrel;clear hF0
    by_cases aM:b<t
    ·have hbQ:b<Q.length:=by rw[kZ.out];exact aM
     obtain⟨g,o,bu,bc,rfl,hcell⟩:=hqg.out b aM;obtain⟨NB,qD⟩:=ao ((Q.getD b []).length);have Pu:NB<=3:=by have:=xU.out b aM;omega
     rw[qD] at hcell;have hI2:=hid (hB.first hbQ);have ac9:IntKind.i64.wrap (14*(NB:Int))=14*(NB:Int):=IntWalk.i64_in _ ⟨by omega,by omega⟩;replace qD:=hid qD;replace hcell:=hid hcell;clear hB;go_wp2_with fail
     go_loopw [13] (λz w'=>∃i:Nat,i<=14*NB/\z=vI i/\tY w1 mp Q tv hv (56+42*b+i) (X_ Q b i) w') (λz _=>14*NB-(intOf z).toNat)
     case atStart=>exact⟨0,by omega,rfl,hI2.out⟩
     case round=>
      obtain⟨i,hi,rfl,hS⟩:=hrel;clear hI2;have Pw:=hid hS;obtain⟨τ,S,ev,X,hM,kV,hc,oW,hH,hP⟩:=hS;have y0:=hcell.out _ hc
      by_cases hx:i<14*NB
      ·have dO:decide ((i:Int)<14*(NB:Int))=true:=decide_eq_true (by omega);have os:=uY hM (by omega) (by omega) (t:=b) (by rw[oW.x];exact hbQ);have cM:=hid (λe w' hs=>tY.step (e:=e) (w':=w') mY.out hbQ (by omega) hM kV hc oW hH hP hs);clear hM kV hc oW hH hP Pw;go_wp2_with fail
       refine os.mono ?_;rintro e w6 hs;obtain⟨k,ee,v,rfl,p_,hF⟩:=cM.out e w6 hs;have hne:(ee==141)=false:=by simp[p_]
       have hF2:=hid (hF.calm (ah.alloc (.cells #[vI k,vI ee,vI v] 35):Calm w6 _));simp only[cS];clear os hs cM y0 hF;replace p_:=hid p_;go_wp2;exact⟨⟨i+1,by omega,by simp,hF2.out⟩,by simp[intOf] <;> omega⟩
      ·have WZ:i=14*NB:=by omega
       have dO:decide ((i:Int)<14*(NB:Int))=false:=decide_eq_false (by omega)
       have hL:Hid (tY w1 mp Q tv hv (56+42*(b+1)) (PB Q (b+1)) wr):=by
        have h1:=Pw.out;rw[WZ,<-qD.out] at h1;exact h1.last mY.out hbQ (by rw[qD.out];omega)
       clear hM kV hc oW hH hP Pw;replace WZ:=hid WZ;go_wp2;exact⟨⟨b+1,by omega,by simp,hL.out⟩,by simp[intOf] <;> omega⟩
    ·obtain rfl:b=t:=by omega
     obtain⟨τ,S,ev,X,hM,kV,hc,oW,hH,hP1,FX⟩:=hB;have Ep:decide ((b:Int)<b)=false:=decide_eq_false (by omega);have oh:=Cx hM;have xe:=oW.x;have PI:∀t,t<X.length->((Q.getD t []).length:Int)<=(X.getD t d0).b:=λu hu=>GC (FX u (by rw[xe,kZ.out] at hu;exact hu)) (λhl=>oW.p6 mY.out (by rw[<-xe];exact hu) (hM.r.ok u hu) hl)
     have El:cnt Q ev.H 0=0:=by
      unfold cnt
      cases ru:tries Q ev.H with
      | none=>rfl
      | some l=>
        have h1:=Fy ru (λu hu=>by rw[<-oW.h u hu,oW.lv u hu];exact hP1 u);show cn l 0=0;unfold cn;rw[List.length_eq_zero_iff,List.filter_eq_nil_iff];intro x hx;simpa using h1 x hx
     have BV:Hid (∀aL w6,cP wr τ w6 aL->Calm w1 w6):=λaL w6 k=>(k.at kV hc).2;replace PI:=hid PI;replace El:=hid El;clear hM kV hc oW hP1 FX;go_wp2_with fail
     refine oh.mono ?_;rintro e w6 ⟨u,aL,rfl,hM6,aP,VD,kK,hK⟩;clear oh;have BF:=BV.out aL w6 hK;have oc:=J_ (hQ'.out.calm BF) mY.out aP (by omega);obtain⟨ua,un,uc,rfl⟩:∃a n c,u=.slice a n c:=by obtain⟨a,c,e⟩:=aF aP;exact⟨a,_,c,e⟩
     clear aP VD kK hK;go_wp2_with fail
     refine oc.mono ?_;rintro e w7 ⟨rfl,c7⟩;clear oc;rw[El.out];obtain⟨C1,hC1⟩:=ao ((cnt Q ev.H 1:Int):Int);obtain⟨C2,hC2⟩:=ao ((cnt Q ev.H 2:Int):Int);rw[hC1,hC2];obtain⟨kB,oB⟩:=mG w7 [vI ((0:Nat):Int),vI C1,vI C2] 46;have od:=LV (hM6.calm (c7.trans kB)) PI.out;have hcF:=hid ((c1.out.trans BF).trans (c7.trans kB));replace hC1:=hid hC1;replace hC2:=hid hC2;clear hM6 BF BV;have y8:∀W,Calm (w7.alloc (.cells #[vI ((0:Nat):Int),vI C1,vI C2] 46)) W->W.cell? ⟨w7.heap.size,0,none⟩=some (vI ((0:Nat):Int)):=λW c=>c.cellAt (oB 0 _ rfl).1 id;replace y8:=hid y8;clear oB kB c7;go_wp2_with fail
     refine od.mono ?_;rintro e w9 ⟨rfl,c9⟩;have z8:=y8.out w9 c9;have hcG:=hid (hcF.out.trans c9);clear od c9 y8;go_wp2;go_ret;exact⟨rfl,hcG.out.below (aD _) (λ_ _ e=>e)⟩
