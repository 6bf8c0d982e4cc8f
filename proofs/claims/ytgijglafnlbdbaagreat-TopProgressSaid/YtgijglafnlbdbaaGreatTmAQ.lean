import Derived.Test.YtgijglafnlbdbaaGreatTmAP
set_option linter.all false
set_option maxHeartbeats 4000000
set_option maxRecDepth 8000
namespace Go.Proofs.YtgijglafnlbdbaaGreat
open RowKit Shelf Proofs.Tryz
open Go renaming World->ag,Value->aA,Calls->aJ
section
variable {w:ag}{τ:Nat->Nat}{s q:Nat}{S:aE}
theorem af.kC(w:ag)(vs:List aA)(ty:TypeId)(b:Nat)(h:w.heap.size=b):af (w.alloc (.cells vs.toArray ty)) b vs:=by
 subst h;exact af.new w vs ty
theorem Nx.outT{W w':ag}{τ0:Nat->Nat}{s' q':Nat}{R:aE->Prop}(n:Nx W τ0 s' q' S w' R)(c:Calm w W)(tk:oO w τ τ0):Nx w τ s' q' S w' R:=by
 obtain⟨gI,S1,k1,k2,k3,k4⟩:=n;exact⟨gI,S1,k1,((aC.calm τ0 c).trans k2).dE tk,k3,k4⟩
def Jd(S:aE)(t x:Int)(S':aE):Prop:=
 (x=140/\S'=S/\∀k:Nat,t=k->k<S.aW.length->(S.tx k).live=false)\/(x≠140/\¬Fatal x/\Rn S S') \/
 (Fatal x/\(x=141->∀k:Nat,t=k->¬Lone S k)/\∀k:Nat,t=k->ll k S S')
theorem nf0:¬Fatal 0:=by unfold Fatal;omega
theorem FE.dd{t:Int}{R:Int->Int->aE->Prop}{v x:Int}{S':aE}(h:FE S t (WR S t R) v x S'):Jd S t x S':=by
 rcases h with ⟨rfl,_,h1,h2⟩|⟨rfl,h⟩|⟨hx,_,v0,S1,h1,_,h3,h4⟩
 ·exact .inl ⟨rfl,h1,h2⟩
 ·exact .inr (.inl ⟨by decide,nf0,h.2.1⟩)
 ·by_cases hf:Fatal x
  ·exact .inr (.inr ⟨hf,h1.2.2.2,λk ek=>(h3 hf k ek).of h1.2.1⟩)
  ·exact .inr (.inl ⟨h1.2.2.1,hf,by rw[h4 hf];exact h1.2.1⟩)
def AP(w:ag)(τ:Nat->Nat)(s q:Nat)(S:aE)(t:Int)(e:Ending)(w':ag):Prop:=∃v x:Int,e=.returned (.tuple #[vI v,vI x])/\0<=v/\v<=131072/\bX x/\x≠100/\Nx w τ s q S w' (Jd S t x)
def DI(w:ag)(τ:Nat->Nat)(s q:Nat)(S:aE)(t:Int)(e:Ending)(w':ag):Prop:=∃v x:Int,e=.returned (.tuple #[vI v,vI x])/\bX v/\bX x/\x≠100/\Nx w τ s q S w' (Jd S t x)
def WH(w:ag)(τ:Nat->Nat)(s q:Nat)(S:aE)(t:Int)(e:Ending)(w':ag):Prop:=∃x:Int,e=.returned (vI x)/\bX x/\x≠100/\Nx w τ s q S w' (Jd S t x)
def CmD(S:aE)(t x:Int)(S':aE):Prop:=
 (x=140/\S'=S/\∀k:Nat,t=k->k<S.aW.length->(S.tx k).live=false)\/(x=0/\∀k:Nat,t=k->XS k S S')\/(x=141/\∀k:Nat,t=k->¬Lone S k/\ll k S S')
def CmP(w:ag)(τ:Nat->Nat)(s q:Nat)(S:aE)(t:Int)(e:Ending)(w':ag):Prop:=∃v x:Int,e=.returned (.tuple #[vI v,vI x])/\bX v/\bX x/\x≠100/\Nx w τ s q S w' (CmD S t x)
theorem wF.live{t v x:Int}{S':aE}(h:wF S t v x S')(hf:Fatal x)(k:Nat)(_:t=k)(hl:(S.tx k).live=true):(S'.tx k).live=true:=by
 rcases h with ⟨rfl,_⟩|⟨rfl,h,_⟩
 ·exact absurd hf nf0
 ·exact(h.lv k).trans hl
theorem fN.cm{t:Int}{e:Ending}{w':ag}(h:fN w τ s q S t (wF S t) e w'):CmP w τ s q S t e w':=by
 obtain⟨v,x,h1,h2,h3,h4⟩:=h;have h5:=h4;obtain⟨_,_,_,_,_,h6⟩:=h5;refine⟨v,x,h1,h2,h3,?_,h4.mono (aD _) (aD _) λS' h=>?_⟩
 ·rcases h6 with ⟨rfl,_⟩|⟨rfl,_⟩|⟨_,_,_,_,⟨rfl,_⟩|⟨rfl,_⟩,_⟩ <;> decide
 ·rcases h with ⟨rfl,_,h1,h2⟩|⟨rfl,h|h⟩|⟨hx,_,v0,S1,h|h,_,h3,h4⟩
  ·exact .inl ⟨rfl,h1,h2⟩
  ·exact .inr (.inl ⟨rfl,h.2⟩)
  ·cases h.1
  ·exact absurd h.1 hx
  ·obtain⟨rfl,hr,hl⟩:=h;exact .inr (.inr ⟨rfl,λk ek=>⟨hl k ek,(h3 (.inl rfl) k ek).of hr⟩⟩)
def AlR(S:aE)(n:Int)(P:Prop)(x:Int)(S':aE):Prop:=(x=0/\S'.D.A.room=S.D.A.room-ju n/\ju n<=S.D.A.room)\/(x=100/\P/\S.D.A.room<ju n/\Still (λ_=>True) S.D.A S'.D.A)\/(x≠0/\x≠100)
def WE(w:ag)(τ:Nat->Nat)(s q:Nat)(S:aE)(t n:Int)(P:Prop)(e:Ending)(w':ag):Prop:=∃v x:Int,e=.returned (.tuple #[vI v,vI x])/\0<=v/\v<=131072/\bX x/\Nx w τ s q S w' (λS'=>AlR S n P x S'/\Jd S t x S')
theorem fN.get{t:Int}{e:Ending}{w':ag}(h:fN w τ s q S t (WR S t kj) e w'):AP w τ s q S t e w':=by
 obtain⟨v,x,h1,h2,h3,h4⟩:=h;have h5:=h4;obtain⟨_,_,_,_,_,h6⟩:=h5;have hd:=h4.mono (aD _) (aD _) λS' h=>h.dd;rcases h6 with ⟨rfl,rfl,_⟩|⟨rfl,⟨g1,g2,_⟩,_⟩|⟨hx,rfl,v0,S1,⟨⟨_,_,g3⟩,_⟩,_⟩
 ·exact⟨0,140,h1,by decide,by decide,h3,by decide,hd⟩
 ·exact⟨v,0,h1,g1,g2,h3,by decide,hd⟩
 ·exact⟨0,x,h1,by decide,by decide,h3,g3,hd⟩
theorem fN.num{t:Int}{e:Ending}{w':ag}(h:fN w τ s q S t (WR S t jO) e w'):DI w τ s q S t e w':=by
 obtain⟨v,x,h1,h2,h3,h4⟩:=h;have h5:=h4;obtain⟨_,_,_,_,_,h6⟩:=h5;have hd:=h4.mono (aD _) (aD _) λS' h=>h.dd;rcases h6 with ⟨rfl,rfl,_⟩|⟨rfl,_⟩|⟨hx,rfl,v0,S1,⟨g3,_⟩,_⟩
 ·exact⟨0,140,h1,by decide,h3,by decide,hd⟩
 ·exact⟨v,0,h1,h2,h3,by decide,hd⟩
 ·exact⟨0,x,h1,by decide,h3,g3,hd⟩
theorem fN.al{t:Int}{e:Ending}{w':ag}{p d:Nat}(h:fN w τ s q S t (WR S t (wH S p d)) e w'):WE w τ s q S t ((3+p+d:Nat):Int) True e w':=by
 obtain⟨v,x,h1,h2,h3,h4⟩:=h;have h5:=h4;obtain⟨_,_,_,_,_,h6⟩:=h5
 have hv:0<=v/\v<=131072:=by
  rcases h6 with ⟨rfl,rfl,_⟩|⟨rfl,⟨_,a,rfl,h7,_⟩|⟨_,rfl,_⟩|⟨_,rfl⟩,_⟩|⟨hx,rfl,_⟩ <;> omega
 refine⟨v,x,h1,hv.1,hv.2,h3,h4.mono (aD _) (aD _) λS' h6=>⟨?_,h6.dd⟩⟩;rcases h6 with ⟨rfl,rfl,_⟩|⟨rfl,h7,_⟩|⟨hx,rfl,v0,S1,⟨h7,_⟩,cM,_⟩
 ·exact .inr (.inr ⟨by decide,by decide⟩)
 ·rcases h7 with ⟨_,a,rfl,_,g1,g2⟩|⟨e,_⟩|⟨e,_⟩
  ·exact .inl ⟨rfl,g1,g2⟩
  ·cases e
  ·cases e
 ·rcases h7 with ⟨e,_⟩|⟨e,_,g1,g2⟩|⟨e,_⟩
  ·exact absurd e hx
  ·exact .inr (.inl ⟨e,trivial,g1,by rw[<-g2];exact cM⟩)
  ·exact .inr (.inr ⟨hx,by rw[e];decide⟩)
theorem fN.wk{t:Int}{e:Ending}{w':ag}{a:Nat}(h:fN w τ s q S t (WR S t (NY S a)) e w'):WE w τ s q S t 4 (a∈dL S.D.A.cur) e w':=by
 obtain⟨v,x,h1,h2,h3,h4⟩:=h;have h5:=h4;obtain⟨_,_,_,_,_,h6⟩:=h5
 have hv:0<=v/\v<=131072:=by
  rcases h6 with ⟨rfl,rfl,_⟩|⟨rfl,⟨_,a,rfl,h7,_⟩|⟨e,_⟩|⟨e,_⟩,_⟩|⟨hx,rfl,_⟩
  ·omega
  ·omega
  ·cases e
  ·exact absurd rfl e
  ·omega
 refine⟨v,x,h1,hv.1,hv.2,h3,h4.mono (aD _) (aD _) λS' h6=>⟨?_,h6.dd⟩⟩;rcases h6 with ⟨rfl,rfl,_⟩|⟨rfl,h7,_⟩|⟨hx,rfl,v0,S1,⟨h7,_⟩,cM,_⟩
 ·exact .inr (.inr ⟨by decide,by decide⟩)
 ·rcases h7 with ⟨_,a,rfl,_,g1,g2⟩|⟨e,_⟩|⟨e,_⟩
  ·exact .inl ⟨rfl,g1,g2⟩
  ·cases e
  ·exact absurd rfl e
 ·rcases h7 with ⟨e,_⟩|⟨e,g0,g1,g2⟩|⟨_,e⟩
  ·exact absurd e hx
  ·exact .inr (.inl ⟨e,g0,g1,by rw[<-g2];exact cM⟩)
  ·exact .inr (.inr ⟨hx,e⟩)
theorem Bb(h:St w τ s q S)(hs:s<100000)(hq:q<=100000)(t:Int)(ht:bX t){p d:Nat}{fn:Bool}(bU:sV p d false fn) :
 aJ prog 72 #[pV S.sp,vI t,mz p d false fn] w (WE w τ (s+1) q S t ((3+p+d:Nat):Int) True):=by
 obtain⟨τ0,hf,tk,fr⟩:=h.fresh;have iQ:=hid dP;obtain⟨W2,fI,k2,eY,aaC⟩:=Gn w [pV S.sp] 56 [vI p,vI d,.bool false,.bool fn] 179;have Ak:500<=τ0 (w.heap.size):=by rw[fr _ (by omega)];omega
 have adf:500<=τ0 (w.heap.size+1):=by rw[fr _ (by omega)];omega
 have hd:=i_ (s':=s+1) (q':=q) (hf.calm k2) hq (Nat.le_succ _) (aD _) t ht 129 #[.pointer (some ⟨w.heap.size+1,0,none⟩),bw w.heap.size] (WR S t (wH S p d)) (enters_of func129 (by kernel_rfl) rfl) (λ_ _ _ h=>h.live)
  (λk jg hk du W td cW tW hW=>by
   subst jg;have tg:∀b,b<W2.heap.size->w.heap.size<=b->500<=td b:=λb h1 h2=>by rw[tW b h1,fr b h2];omega
   have zM:=eY.lt (by simp);have ada:=aaC.lt (by simp)
   exact G0 hW hs hk du bU (aaC.calm cW) ((eY.calm cW) 0 _ rfl))
 have c0:=(eY 0 _ rfl).1;have zC:=iQ.out;go_in;go_wp2_with fail
 clear fI;refine hd.mono ?_;rintro e w5 hp;obtain⟨v,x,rfl,hv,hx,n5⟩:=hp;have hP:WE w τ (s+1) q S t ((3+p+d:Nat):Int) True (.returned (.tuple #[vI v,vI x])) w5:=(show fN w τ (s+1) q S t (WR S t (wH S p d)) (.returned (.tuple #[vI v,vI x])) w5 from⟨v,x,rfl,hv,hx,n5.outT k2 tk⟩).al;replace hP:=hid hP;clear hd n5;go_wp2
 go_ret2
 exact hP.out
theorem Q4(h:St w τ s q S)(hs:s<100000)(hq:q<=100000)(t:Int)(ht:bX t){a:Nat}(ha:a<=131072) :
 aJ prog 73 #[pV S.sp,vI t,vI (a:Int)] w (WE w τ (s+1) q S t 4 (a∈dL S.D.A.cur)):=by
 obtain⟨τ0,hf,tk,fr⟩:=h.fresh;have iQ:=hid dP;obtain⟨W2,fI,k2,eY,yu⟩:=Gn w [pV S.sp] 56 [vI (a:Int)] 3;have Ak:500<=τ0 (w.heap.size):=by rw[fr _ (by omega)];omega
 have XE:500<=τ0 (w.heap.size+1):=by rw[fr _ (by omega)];omega
 have hd:=i_ (s':=s+1) (q':=q) (hf.calm k2) hq (Nat.le_succ _) (aD _) t ht 132 #[.pointer (some ⟨w.heap.size+1,0,none⟩),bw w.heap.size] (WR S t (NY S a)) (enters_of func132 (by kernel_rfl) rfl) (λ_ _ _ h=>h.live)
  (λk jg hk du W td cW tW hW=>by
   subst jg;have tg:∀b,b<W2.heap.size->w.heap.size<=b->500<=td b:=λb h1 h2=>by rw[tW b h1,fr b h2];omega
   have zM:=eY.lt (by simp);have Xs:=yu.lt (by simp)
   exact NN hW hs hk du ha ((yu.calm cW) 0 _ rfl) ((eY.calm cW) 0 _ rfl) (tg _ (by omega) (by omega)) (tg _ (by omega) (by omega)))
 have c0:=(eY 0 _ rfl).1;have zC:=iQ.out;go_in;go_wp2_with fail
 clear fI;refine hd.mono ?_;rintro e w5 hp;obtain⟨v,x,rfl,hv,hx,n5⟩:=hp;have hP:WE w τ (s+1) q S t 4 (a∈dL S.D.A.cur) (.returned (.tuple #[vI v,vI x])) w5:=(show fN w τ (s+1) q S t (WR S t (NY S a)) (.returned (.tuple #[vI v,vI x])) w5 from⟨v,x,rfl,hv,hx,n5.outT k2 tk⟩).wk;replace hP:=hid hP;clear hd n5;go_wp2
 go_ret2
 exact hP.out
theorem Qd(h:St w τ s q S)(hq:q<=100000)(t:Int)(ht:bX t){a:Nat}(ha:a<=131072) :
 aJ prog 75 #[pV S.sp,vI t,vI (a:Int)] w (AP w τ s q S t):=by
 obtain⟨τ0,hf,tk,fr⟩:=h.fresh;have iQ:=hid dP;obtain⟨W2,fI,k2,eY,yu⟩:=Gn w [pV S.sp] 56 [vI (a:Int)] 3;have Ak:500<=τ0 (w.heap.size):=by rw[fr _ (by omega)];omega
 have XE:500<=τ0 (w.heap.size+1):=by rw[fr _ (by omega)];omega
 have hd:=i_ (s':=s) (q':=q) (hf.calm k2) hq (aD _) (aD _) t ht 136 #[bw w.heap.size,.pointer (some ⟨w.heap.size+1,0,none⟩)] (WR S t (kj)) (enters_of func136 (by kernel_rfl) rfl) (λ_ _ _ h=>h.live)
  (λk jg hk du W td cW tW hW=>by
   subst jg;have tg:∀b,b<W2.heap.size->w.heap.size<=b->500<=td b:=λb h1 h2=>by rw[tW b h1,fr b h2];omega
   have zM:=eY.lt (by simp);have Xs:=yu.lt (by simp)
   exact LK hW hk ha ((eY.calm cW) 0 _ rfl) ((yu.calm cW) 0 _ rfl) (tg _ (by omega) (by omega)) (tg _ (by omega) (by omega)))
 have c0:=(eY 0 _ rfl).1;have zC:=iQ.out;go_in;go_wp2_with fail
 clear fI;refine hd.mono ?_;rintro e w5 hp;obtain⟨v,x,rfl,hv,hx,n5⟩:=hp;have hP:AP w τ s q S t (.returned (.tuple #[vI v,vI x])) w5:=(show fN w τ s q S t (WR S t (kj)) (.returned (.tuple #[vI v,vI x])) w5 from⟨v,x,rfl,hv,hx,n5.outT k2 tk⟩).get;replace hP:=hid hP;clear hd n5;go_wp2
 go_ret2
 exact hP.out
theorem QT(h:St w τ s q S)(hq:q<=100000)(t:Int)(ht:bX t) :
 aJ prog 76 #[pV S.sp,vI t] w (AP w τ s q S t):=by
 obtain⟨τ0,hf,tk,fr⟩:=h.fresh;have iQ:=hid dP;obtain⟨W2,fI,k2,eY,-⟩:=lJ w [pV S.sp] 56;have Ak:500<=τ0 (w.heap.size):=by rw[fr _ (by omega)];omega
 have hd:=i_ (s':=s) (q':=q) (hf.calm k2) hq (aD _) (aD _) t ht 139 #[bw w.heap.size] (WR S t (kj)) (enters_of func139 (by kernel_rfl) rfl) (λ_ _ _ h=>h.live)
  (λk jg hk du W td cW tW hW=>by
   subst jg;have tg:∀b,b<W2.heap.size->w.heap.size<=b->500<=td b:=λb h1 h2=>by rw[tW b h1,fr b h2];omega
   have zM:=eY.lt (by simp)
   exact MZ hW hq hk du ((eY.calm cW) 0 _ rfl) (tg _ (by omega) (by omega)))
 have c0:=(eY 0 _ rfl).1;have zC:=iQ.out;go_in;go_wp2_with fail
 clear fI;refine hd.mono ?_;rintro e w5 hp;obtain⟨v,x,rfl,hv,hx,n5⟩:=hp;have hP:AP w τ s q S t (.returned (.tuple #[vI v,vI x])) w5:=(show fN w τ s q S t (WR S t (kj)) (.returned (.tuple #[vI v,vI x])) w5 from⟨v,x,rfl,hv,hx,n5.outT k2 tk⟩).get;replace hP:=hid hP;clear hd n5;go_wp2
 go_ret2
 exact hP.out
theorem Hi(h:St w τ s q S)(hq:q<=100000)(t:Int)(ht:bX t) :
 aJ prog 66 #[pV S.sp,vI t] w (CmP w τ s q S t):=by
 obtain⟨τ0,hf,tk,fr⟩:=h.fresh;have iQ:=hid dP;obtain⟨W2,fI,k2,eY,-⟩:=lJ w [pV S.sp] 56;have Ak:500<=τ0 (w.heap.size):=by rw[fr _ (by omega)];omega
 have hd:=i_ (s':=s) (q':=q) (hf.calm k2) hq (aD _) (aD _) t ht 122 #[bw w.heap.size] (wF S t) (enters_of func122 (by kernel_rfl) rfl) (λ_ _ _ h=>h.live)
  (λk jg hk du W td cW tW hW=>by
   subst jg;have tg:∀b,b<W2.heap.size->w.heap.size<=b->500<=td b:=λb h1 h2=>by rw[tW b h1,fr b h2];omega
   have zM:=eY.lt (by simp)
   exact DX hW hq hk du ((eY.calm cW) 0 _ rfl) (tg _ (by omega) (by omega)))
 have c0:=(eY 0 _ rfl).1;have zC:=iQ.out;go_in;go_wp2_with fail
 clear fI;refine hd.mono ?_;rintro e w5 hp;obtain⟨v,x,rfl,hv,hx,n5⟩:=hp;have hP:CmP w τ s q S t (.returned (.tuple #[vI v,vI x])) w5:=(show fN w τ s q S t (wF S t) (.returned (.tuple #[vI v,vI x])) w5 from⟨v,x,rfl,hv,hx,n5.outT k2 tk⟩).cm;replace hP:=hid hP;clear hd n5;go_wp2
 go_ret2
 exact hP.out
theorem Pd(h:St w τ s q S)(hq:q<=100000)(t:Int)(ht:bX t){a:Nat}(ha:a<=131072) :
 aJ prog 80 #[pV S.sp,vI t,vI (a:Int)] w (WH w τ s q S t):=by
 obtain⟨τ0,hf,tk,fr⟩:=h.fresh;have iQ:=hid dP;obtain⟨W2,fI,k2,eY,yu⟩:=Gn w [pV S.sp] 56 [vI (a:Int)] 3;have Ak:500<=τ0 (w.heap.size):=by rw[fr _ (by omega)];omega
 have XE:500<=τ0 (w.heap.size+1):=by rw[fr _ (by omega)];omega
 have hd:=i_ (s':=s) (q':=q) (hf.calm k2) hq (aD _) (aD _) t ht 146 #[bw w.heap.size,.pointer (some ⟨w.heap.size+1,0,none⟩)] (WR S t (jO)) (enters_of func146 (by kernel_rfl) rfl) (λ_ _ _ h=>h.live)
  (λk jg hk du W td cW tW hW=>by
   subst jg;have tg:∀b,b<W2.heap.size->w.heap.size<=b->500<=td b:=λb h1 h2=>by rw[tW b h1,fr b h2];omega
   have zM:=eY.lt (by simp);have Xs:=yu.lt (by simp)
   exact Ko hW hk du ha ((eY.calm cW) 0 _ rfl) ((yu.calm cW) 0 _ rfl) (tg _ (by omega) (by omega)) (tg _ (by omega) (by omega)))
 have c0:=(eY 0 _ rfl).1;have zC:=iQ.out;go_in;go_wp2_with fail
 clear fI;refine hd.mono ?_;rintro e w5 hp;obtain⟨v,x,rfl,hv,hx,n5⟩:=hp;have hP:DI w τ s q S t (.returned (.tuple #[vI v,vI x])) w5:=(show fN w τ s q S t (WR S t (jO)) (.returned (.tuple #[vI v,vI x])) w5 from⟨v,x,rfl,hv,hx,n5.outT k2 tk⟩).num
 have FX:WH w τ s q S t (.returned (vI x)) w5:=by
  obtain⟨v1,x1,e1,_,g1,g2,g3⟩:=hP;injection e1 with e1;injection e1 with e1;simp at e1;obtain⟨rfl,rfl⟩:=e1
  exact⟨_,rfl,g1,g2,g3⟩
 replace FX:=hid FX;clear hd n5 hP;go_wp2;go_ret;exact FX.out
theorem We(h:St w τ s q S)(hq:q<=100000)(t:Int)(ht:bX t){a:Nat}(ha:a<=131072){k:Int}(wR:bX k){b:Nat}(hb:b<=131072) :
 aJ prog 77 #[pV S.sp,vI t,vI (a:Int),vI k,vI (b:Int)] w (WH w τ s q S t):=by
 obtain⟨τ0,hf,tk,fr⟩:=h.fresh;have iQ:=hid dP;obtain⟨W2,fI,k2,eY,yu,L6,o_b⟩:=Gp w [pV S.sp] 56 [vI (a:Int)] 3 [vI k] 3 [vI (b:Int)] 3;have Ak:500<=τ0 (w.heap.size):=by rw[fr _ (by omega)];omega
 have XE:500<=τ0 (w.heap.size+1):=by rw[fr _ (by omega)];omega
 have t_k:500<=τ0 (w.heap.size+1+1):=by rw[fr _ (by omega)];omega
 have t_b:500<=τ0 (w.heap.size+1+1+1):=by rw[fr _ (by omega)];omega
 have hd:=i_ (s':=s) (q':=q) (hf.calm k2) hq (aD _) (aD _) t ht 141 #[.pointer (some ⟨w.heap.size+1+1+1,0,none⟩),bw w.heap.size,.pointer (some ⟨w.heap.size+1,0,none⟩),.pointer (some ⟨w.heap.size+1+1,0,none⟩)] (WR S t (jO)) (enters_of func141 (by kernel_rfl) rfl) (λ_ _ _ h=>h.live)
  (λk jg hk du W td cW tW hW=>by
   subst jg;have tg:∀b,b<W2.heap.size->w.heap.size<=b->500<=td b:=λb h1 h2=>by rw[tW b h1,fr b h2];omega
   have zM:=eY.lt (by simp);have Xs:=yu.lt (by simp);have l_k:=L6.lt (by simp);have l_b:=o_b.lt (by simp)
   exact Qz hW hk du ha wR hb ((eY.calm cW) 0 _ rfl) ((yu.calm cW) 0 _ rfl) ((L6.calm cW) 0 _ rfl) ((o_b.calm cW) 0 _ rfl))
 have c0:=(eY 0 _ rfl).1;have zC:=iQ.out;go_in;go_wp2_with fail
 clear fI;refine hd.mono ?_;rintro e w5 hp;obtain⟨v,x,rfl,hv,hx,n5⟩:=hp;have hP:DI w τ s q S t (.returned (.tuple #[vI v,vI x])) w5:=(show fN w τ s q S t (WR S t (jO)) (.returned (.tuple #[vI v,vI x])) w5 from⟨v,x,rfl,hv,hx,n5.outT k2 tk⟩).num
 have FX:WH w τ s q S t (.returned (vI x)) w5:=by
  obtain⟨v1,x1,e1,_,g1,g2,g3⟩:=hP;injection e1 with e1;injection e1 with e1;simp at e1;obtain⟨rfl,rfl⟩:=e1
  exact⟨_,rfl,g1,g2,g3⟩
 replace FX:=hid FX;clear hd n5 hP;go_wp2;go_ret;exact FX.out
theorem NV(h:St w τ s q S)(hq:q<=100000)(t:Int)(ht:bX t){a:Nat}(ha:a<=131072){k:Int}(wR:bX k){b:Int}(hb:bX b) :
 aJ prog 79 #[pV S.sp,vI t,vI (a:Int),vI k,vI b] w (WH w τ s q S t):=by
 obtain⟨τ0,hf,tk,fr⟩:=h.fresh;have iQ:=hid dP;obtain⟨W2,fI,k2,eY,yu,L6,o_b⟩:=Gp w [pV S.sp] 56 [vI (a:Int)] 3 [vI k] 3 [vI b] 3;have Ak:500<=τ0 (w.heap.size):=by rw[fr _ (by omega)];omega
 have XE:500<=τ0 (w.heap.size+1):=by rw[fr _ (by omega)];omega
 have t_k:500<=τ0 (w.heap.size+1+1):=by rw[fr _ (by omega)];omega
 have t_b:500<=τ0 (w.heap.size+1+1+1):=by rw[fr _ (by omega)];omega
 have hd:=i_ (s':=s) (q':=q) (hf.calm k2) hq (aD _) (aD _) t ht 144 #[.pointer (some ⟨w.heap.size+1,0,none⟩),.pointer (some ⟨w.heap.size+1+1,0,none⟩),bw w.heap.size,.pointer (some ⟨w.heap.size+1+1+1,0,none⟩)] (WR S t (jO)) (enters_of func144 (by kernel_rfl) rfl) (λ_ _ _ h=>h.live)
  (λk jg hk du W td cW tW hW=>by
   subst jg;have tg:∀b,b<W2.heap.size->w.heap.size<=b->500<=td b:=λb h1 h2=>by rw[tW b h1,fr b h2];omega
   have zM:=eY.lt (by simp);have Xs:=yu.lt (by simp);have l_k:=L6.lt (by simp);have l_b:=o_b.lt (by simp)
   exact Jb hW hk du ha wR hb ((eY.calm cW) 0 _ rfl) ((yu.calm cW) 0 _ rfl) ((L6.calm cW) 0 _ rfl) ((o_b.calm cW) 0 _ rfl))
 have c0:=(eY 0 _ rfl).1;have zC:=iQ.out;go_in;go_wp2_with fail
 clear fI;refine hd.mono ?_;rintro e w5 hp;obtain⟨v,x,rfl,hv,hx,n5⟩:=hp;have hP:DI w τ s q S t (.returned (.tuple #[vI v,vI x])) w5:=(show fN w τ s q S t (WR S t (jO)) (.returned (.tuple #[vI v,vI x])) w5 from⟨v,x,rfl,hv,hx,n5.outT k2 tk⟩).num
 have FX:WH w τ s q S t (.returned (vI x)) w5:=by
  obtain⟨v1,x1,e1,_,g1,g2,g3⟩:=hP;injection e1 with e1;injection e1 with e1;simp at e1;obtain⟨rfl,rfl⟩:=e1
  exact⟨_,rfl,g1,g2,g3⟩
 replace FX:=hid FX;clear hd n5 hP;go_wp2;go_ret;exact FX.out
theorem O9(h:St w τ s q S)(hq:q<=100000)(t:Int)(ht:bX t){a:Nat}(ha:a<=131072){k:Int}(wR:bX k) :
 aJ prog 134 #[pV S.sp,vI t,vI (a:Int),vI k,.func (.func 135) #[] #[]] w (AP w τ s q S t):=by
 obtain⟨τ0,hf,tk,fr⟩:=h.fresh;have iQ:=hid dP;obtain⟨W2,fI,k2,eY,yu,L6,o_f⟩:=Gp w [pV S.sp] 56 [vI (a:Int)] 3 [vI k] 3 [.func (.func 135) #[] #[]] 226;have Ak:500<=τ0 (w.heap.size):=by rw[fr _ (by omega)];omega
 have XE:500<=τ0 (w.heap.size+1):=by rw[fr _ (by omega)];omega
 have t_k:500<=τ0 (w.heap.size+1+1):=by rw[fr _ (by omega)];omega
 have t_f:500<=τ0 (w.heap.size+1+1+1):=by rw[fr _ (by omega)];omega
 have hd:=i_ (s':=s) (q':=q) (hf.calm k2) hq (aD _) (aD _) t ht 187 #[bw w.heap.size,.pointer (some ⟨w.heap.size+1,0,none⟩),.pointer (some ⟨w.heap.size+1+1+1,0,none⟩),.pointer (some ⟨w.heap.size+1+1,0,none⟩)] (WR S t (kj)) (enters_of func187 (by kernel_rfl) rfl) (λ_ _ _ h=>h.live)
  (λk jg hk du W td cW tW hW=>by
   subst jg;have tg:∀b,b<W2.heap.size->w.heap.size<=b->500<=td b:=λb h1 h2=>by rw[tW b h1,fr b h2];omega
   have zM:=eY.lt (by simp);have Xs:=yu.lt (by simp);have l_k:=L6.lt (by simp);have l_f:=o_f.lt (by simp)
   exact Kg hW hk ha ((eY.calm cW) 0 _ rfl) ((yu.calm cW) 0 _ rfl) ((o_f.calm cW) 0 _ rfl) ((L6.calm cW) 0 _ rfl) (tg _ (by omega) (by omega)) (tg _ (by omega) (by omega)) (tg _ (by omega) (by omega)) (tg _ (by omega) (by omega)))
 have c0:=(eY 0 _ rfl).1;have zC:=iQ.out;go_in;go_wp2_with fail
 clear fI;refine hd.mono ?_;rintro e w5 hp;obtain⟨v,x,rfl,hv,hx,n5⟩:=hp;have hP:AP w τ s q S t (.returned (.tuple #[vI v,vI x])) w5:=(show fN w τ s q S t (WR S t (kj)) (.returned (.tuple #[vI v,vI x])) w5 from⟨v,x,rfl,hv,hx,n5.outT k2 tk⟩).get;replace hP:=hid hP;clear hd n5;go_wp2
 go_ret2
 exact hP.out
theorem TZ(h:St w τ s q S)(hq:q<=100000)(t:Int)(ht:bX t){a:Nat}(ha:a<=131072){k:Int}(wR:bX k) :
 aJ prog 74 #[pV S.sp,vI t,vI (a:Int),vI k] w (AP w τ s q S t):=by
 have hd:=O9 h hq t ht ha wR;go_in;go_wp2_with fail
 refine hd.mono ?_;rintro e w5 hp;have Dw:=hid hp;obtain⟨v,x,rfl,-⟩:=hp;clear hd;go_wp2
 go_ret2
 exact Dw.out
theorem O_(h:St w τ s q S)(hq:q<=100000)(t:Int)(ht:bX t){a:Nat}(ha:a<=131072){k:Int}(wR:bX k) :
 aJ prog 134 #[pV S.sp,vI t,vI (a:Int),vI k,.func (.func 143) #[] #[]] w (DI w τ s q S t):=by
 obtain⟨τ0,hf,tk,fr⟩:=h.fresh;have iQ:=hid dP;obtain⟨W2,fI,k2,eY,yu,L6,o_f⟩:=Gp w [pV S.sp] 56 [vI (a:Int)] 3 [vI k] 3 [.func (.func 143) #[] #[]] 226;have Ak:500<=τ0 (w.heap.size):=by rw[fr _ (by omega)];omega
 have XE:500<=τ0 (w.heap.size+1):=by rw[fr _ (by omega)];omega
 have t_k:500<=τ0 (w.heap.size+1+1):=by rw[fr _ (by omega)];omega
 have t_f:500<=τ0 (w.heap.size+1+1+1):=by rw[fr _ (by omega)];omega
 have hd:=i_ (s':=s) (q':=q) (hf.calm k2) hq (aD _) (aD _) t ht 187 #[bw w.heap.size,.pointer (some ⟨w.heap.size+1,0,none⟩),.pointer (some ⟨w.heap.size+1+1+1,0,none⟩),.pointer (some ⟨w.heap.size+1+1,0,none⟩)] (WR S t (jO)) (enters_of func187 (by kernel_rfl) rfl) (λ_ _ _ h=>h.live)
  (λk jg hk du W td cW tW hW=>by
   subst jg;have tg:∀b,b<W2.heap.size->w.heap.size<=b->500<=td b:=λb h1 h2=>by rw[tW b h1,fr b h2];omega
   have zM:=eY.lt (by simp);have Xs:=yu.lt (by simp);have l_k:=L6.lt (by simp);have l_f:=o_f.lt (by simp)
   exact Kh hW hk ha ((eY.calm cW) 0 _ rfl) ((yu.calm cW) 0 _ rfl) ((o_f.calm cW) 0 _ rfl) ((L6.calm cW) 0 _ rfl) (tg _ (by omega) (by omega)) (tg _ (by omega) (by omega)) (tg _ (by omega) (by omega)) (tg _ (by omega) (by omega)))
 have c0:=(eY 0 _ rfl).1;have zC:=iQ.out;go_in;go_wp2_with fail
 clear fI;refine hd.mono ?_;rintro e w5 hp;obtain⟨v,x,rfl,hv,hx,n5⟩:=hp;have hP:DI w τ s q S t (.returned (.tuple #[vI v,vI x])) w5:=(show fN w τ s q S t (WR S t (jO)) (.returned (.tuple #[vI v,vI x])) w5 from⟨v,x,rfl,hv,hx,n5.outT k2 tk⟩).num;replace hP:=hid hP;clear hd n5;go_wp2
 go_ret2
 exact hP.out
theorem QE(h:St w τ s q S)(hq:q<=100000)(t:Int)(ht:bX t){a:Nat}(ha:a<=131072){k:Int}(wR:bX k) :
 aJ prog 78 #[pV S.sp,vI t,vI (a:Int),vI k] w (DI w τ s q S t):=by
 have hd:=O_ h hq t ht ha wR;go_in;go_wp2_with fail
 refine hd.mono ?_;rintro e w5 hp;have Dw:=hid hp;obtain⟨v,x,rfl,-⟩:=hp;clear hd;go_wp2
 go_ret2
 exact Dw.out
end
section
variable {w:ag}{τ:Nat->Nat}{s q:Nat}{S:aE}
def AbD(S:aE)(t x:Int)(S':aE):Prop:=(x=140/\S'=S/\∀k:Nat,t=k->k<S.aW.length->(S.tx k).live=false)\/(x=0/\∀k:Nat,t=k->ll k S S')
def ChA(w:ag)(τ:Nat->Nat)(s q:Nat)(S:aE)(t:Int)(e:Ending)(w':ag):Prop:=∃x:Int,e=.returned (vI x)/\bX x/\x≠100/\Nx w τ s q S w' (AbD S t x)
theorem IY(h:St w τ s q S)(hq:q<=100000)(t:Int)(ht:bX t):aJ prog 81 #[pV S.sp,vI t] w (ChA w τ s q S t):=by
 have hr:=pw h t ht;go_in;go_wp2_with fail
 refine hr.mono ?_;rintro e w' ⟨⟨k,rfl,hk,du,rfl⟩|⟨hn,rfl⟩,rfl⟩
 ·have ha:=Ba h hq hk du;go_wp2_with fail
  refine ha.mono ?_;rintro e w1 ⟨rfl,n1⟩;have hP:ChA w' τ s q S (k:Nat) (.returned (vI 0)) w1:=⟨0,rfl,by decide,by decide,n1.mono (aD _) (aD _) λS' e=>.inr ⟨rfl,λk' ek=>by rw[show k'=k by omega];exact e.2⟩⟩;replace hP:=hid hP;clear n1 ha hr;go_wp2;go_ret;exact hP.out
 ·have hP:ChA w' τ s q S t (.returned (vI 140)) w':=⟨140,rfl,by decide,by decide,Nx.calm h ah (.inl ⟨rfl,rfl,hn⟩)⟩;replace hP:=hid hP;clear hr;go_wp2;go_ret;exact hP.out
theorem Np(h:St w τ s q S)(t:Int)(ht:bX t):aJ prog 65 #[pV S.sp,vI t] w λe w'=>(∃ (v:Int) (b:Bool),e=.returned (.tuple #[vI v,.bool b])/\bX v)/\w'=w:=by
 have hr:=pw h t ht;go_in;go_wp2_with fail
 refine hr.mono ?_;rintro e w' ⟨⟨k,rfl,hk,du,rfl⟩|⟨hn,rfl⟩,rfl⟩
 ·have c2:=(h.lW hk 2 _ rfl).1;have hi:=(h.ok.x k hk).i.1;clear hr;go_wp2
  go_ret2
  exact⟨⟨_,_,rfl,hi⟩,rfl⟩
 ·clear hr;go_wp2
  go_ret2
  exact⟨⟨_,_,rfl,by decide⟩,rfl⟩
theorem vP(h:St w τ s q S){a:Nat}(ha:a<=131072):aJ prog 40 #[pV S.sp,vI (a:Int)] w λe w'=>(∃x:Int,e=.returned (.tuple #[vI (sr S.D.A a:Nat),vI x]))/\Calm w w':=by
 have c0:=(h.cells 0 _ rfl).1;obtain⟨X,hh⟩:=h.iW;have hs:=rY hh h.ok.hw ha;go_in;go_wp2_with fail
 refine hs.mono ?_;rintro e w' ⟨⟨x,rfl⟩,c⟩;clear hs;go_wp2
 go_ret2
 exact⟨⟨_,rfl⟩,c⟩
def Rh(w:ag)(τ:Nat->Nat)(s q:Nat)(S:aE)(e:Ending)(w':ag):Prop:=
 e=.returned S.lv/\aI w' 0 S.lv (nI S.lost)/\Fr (λb=>b=S.sp) w w'/\∃aL,St w' aL s q { S with lv:=.slice none 0 0,lost:=[] } /\ (∀b,ay S.lv b->aL b=1000)/\∀b,500<=τ b->aL b=τ b
theorem aaF(h:St w τ s q S):aJ prog 55 #[pV S.sp] w (Rh w τ s q S):=by
 have hc:=h.cells;have y0:=(hc 8 _ rfl).1;have f0:=(hc 8 _ rfl).2;obtain⟨M,h1,h2,h3⟩:=h;have hr:aI w 0 S.lv (nI S.lost):=by have:=h1.at_ 6;rw[h2.l] at this;exact this
 have hne:∀b,ay S.lv b->b≠S.sp:=by
  rintro b hb rfl;exact h1.apart (t:=6) (u:=2) (by omega) (by rw[h2.l];exact hb) (by rw[h2.c];rfl)
 have F:=jR w (S.sp) 8 (.slice none 0 0);have Jp:=hc.set 8 (.slice none 0 0) (by simp[aE.cs])
 have hP:Rh w τ s q S (.returned S.lv) (w.setCell ⟨S.sp,8,none⟩ (.slice none 0 0)):=by
  classical
  refine⟨rfl,hr.dw F (λb hb=>hne b hb),F,λk=>if ay S.lv k then 1000 else τ k,?_,λb hb=>if_pos hb,λb hb=>?_⟩
  ·have tz:(M 2).dh=λk=>k=S.sp:=by rw[h2.c];rfl
   have k1:=h1.put' (t:=2) (a:=bD S.sp (pV S.D.B.hp) [pV S.D.c,pV S.ck,S.mj,S.qv,vI S.next,vI S.aK,vI S.dm,.slice none 0 0,S.cv]) (F.mono (λk _ e=>by rw[tz];exact e)) Jp (λk hk=>by rw[tz];exact hk);have o:=(Mem.cf.put M (P:=λj=>j=2\/j=6) (bD S.sp (pV S.D.B.hp) [pV S.D.c,pV S.ck,S.mj,S.qv,vI S.next,vI S.aK,vI S.dm,.slice none 0 0,S.cv]) (.inl rfl)).trans (Mem.cf.put _ (fV (.slice none 0 0) (nI [])) (.inr rfl))
   refine⟨_,(?_:bE _ _ ((M.put 2 (bD S.sp (pV S.D.B.hp) [pV S.D.c,pV S.ck,S.mj,S.qv,vI S.next,vI S.aK,vI S.dm,.slice none 0 0,S.cv])).put 6 (fV (.slice none 0 0) (nI [])))),⟨(o 0 (by omega)).trans h2.h,?_,(o 3 (by omega)).trans h2.k,(o 4 (by omega)).trans h2.t,(o 5 (by omega)).trans h2.q,?_,?_,λt ht=>(h2.x t ht).only o (λj h1 h2=>by omega),λu hu=>(o u (by omega)).trans (h2.z u hu)⟩,
    ⟨h3.hw,h3.ph,h3.p2,h3.se,h3.rd,h3.ls,h3.ck,h3.n,h3.x,h3.qu,h3.tt,h3.nx,h3.ho,h3.ve,bY _,h3.ca,⟨h3.iv.hv,h3.iv.ve,h3.iv.st,h3.iv.vs,h3.iv.ho⟩⟩⟩
   ·refine⟨λt=>?_,λt k hk=>?_⟩
    ·by_cases e:t=6
     ·subst e;rw[Mem.aG];exact aI.nil _ _
     ·rw[Mem.aB _ _ e];exact k1.at_ t
    ·by_cases e:t=6
     ·subst e;rw[Mem.aG] at hk;exact(ay.nil k hk).elim
     ·rw[Mem.aB _ _ e] at hk;have h9:=k1.tag t k hk
      have:¬ay S.lv k:=λe2=>by
       have h8:=h1.tag 6 k (by rw[h2.l];exact e2);omega
      simp only[if_neg this];exact h9
   ·rw[Mem.aB _ _ (by omega),Mem.aG]
   ·rw[Mem.aG]
   ·exact(o 7 (by omega)).trans h2.m
  ·have:¬ay S.lv b:=λe2=>by
    have h8:=h1.tag 6 b (by rw[h2.l];exact e2);omega
   exact if_neg this
 replace hP:=hid hP;obtain⟨sa,sn,sc,hv⟩:=hr.letters;rw[hv] at hP y0;clear hr hne h1 h2 h3 F Jp hv;go_in;go_wp2;go_ret;exact hP.out
def Ri(w:ag)(τ:Nat->Nat)(s q:Nat)(S:aE)(e:Ending)(w':ag):Prop:=
 e=.returned S.cv/\aI w' 0 S.cv (nI S.bK)/\Fr (λb=>b=S.sp) w w'/\∃aL,St w' aL s q { S with cv:=.slice none 0 0,bK:=[] } /\ (∀b,ay S.cv b->aL b=1000)/\∀b,500<=τ b->aL b=τ b
theorem aaG(h:St w τ s q S):aJ prog 54 #[pV S.sp] w (Ri w τ s q S):=by
 have hc:=h.cells;have y0:=(hc 9 _ rfl).1;have f0:=(hc 9 _ rfl).2;obtain⟨M,h1,h2,h3⟩:=h;have hr:aI w 0 S.cv (nI S.bK):=by have:=h1.at_ 7;rw[h2.m] at this;exact this
 have hne:∀b,ay S.cv b->b≠S.sp:=by
  rintro b hb rfl;exact h1.apart (t:=7) (u:=2) (by omega) (by rw[h2.m];exact hb) (by rw[h2.c];rfl)
 have F:=jR w (S.sp) 9 (.slice none 0 0);have Jp:=hc.set 9 (.slice none 0 0) (by simp[aE.cs])
 have hP:Ri w τ s q S (.returned S.cv) (w.setCell ⟨S.sp,9,none⟩ (.slice none 0 0)):=by
  classical
  refine⟨rfl,hr.dw F (λb hb=>hne b hb),F,λk=>if ay S.cv k then 1000 else τ k,?_,λb hb=>if_pos hb,λb hb=>?_⟩
  ·have tz:(M 2).dh=λk=>k=S.sp:=by rw[h2.c];rfl
   have k1:=h1.put' (t:=2) (a:=bD S.sp (pV S.D.B.hp) [pV S.D.c,pV S.ck,S.mj,S.qv,vI S.next,vI S.aK,vI S.dm,S.lv,.slice none 0 0]) (F.mono (λk _ e=>by rw[tz];exact e)) Jp (λk hk=>by rw[tz];exact hk);have o:=(Mem.cf.put M (P:=λj=>j=2\/j=7) (bD S.sp (pV S.D.B.hp) [pV S.D.c,pV S.ck,S.mj,S.qv,vI S.next,vI S.aK,vI S.dm,S.lv,.slice none 0 0]) (.inl rfl)).trans (Mem.cf.put _ (fV (.slice none 0 0) (nI [])) (.inr rfl))
   refine⟨_,(?_:bE _ _ ((M.put 2 (bD S.sp (pV S.D.B.hp) [pV S.D.c,pV S.ck,S.mj,S.qv,vI S.next,vI S.aK,vI S.dm,S.lv,.slice none 0 0])).put 7 (fV (.slice none 0 0) (nI [])))),⟨(o 0 (by omega)).trans h2.h,?_,(o 3 (by omega)).trans h2.k,(o 4 (by omega)).trans h2.t,(o 5 (by omega)).trans h2.q,?_,?_,λt ht=>(h2.x t ht).only o (λj h1 h2=>by omega),λu hu=>(o u (by omega)).trans (h2.z u hu)⟩,
    ⟨h3.hw,h3.ph,h3.p2,h3.se,h3.rd,h3.ls,h3.ck,h3.n,h3.x,h3.qu,h3.tt,h3.nx,h3.ho,h3.ve,h3.lo,bY _,⟨h3.iv.hv,h3.iv.ve,h3.iv.st,h3.iv.vs,h3.iv.ho⟩⟩⟩
   ·refine⟨λt=>?_,λt k hk=>?_⟩
    ·by_cases e:t=7
     ·subst e;rw[Mem.aG];exact aI.nil _ _
     ·rw[Mem.aB _ _ e];exact k1.at_ t
    ·by_cases e:t=7
     ·subst e;rw[Mem.aG] at hk;exact(ay.nil k hk).elim
     ·rw[Mem.aB _ _ e] at hk;have h9:=k1.tag t k hk
      have:¬ay S.cv k:=λe2=>by
       have h8:=h1.tag 7 k (by rw[h2.m];exact e2);omega
      simp only[if_neg this];exact h9
   ·rw[Mem.aB _ _ (by omega),Mem.aG]
   ·exact(o 6 (by omega)).trans h2.l
   ·rw[Mem.aG]
  ·have:¬ay S.cv b:=λe2=>by
    have h8:=h1.tag 7 b (by rw[h2.m];exact e2);omega
   exact if_neg this
 replace hP:=hid hP;obtain⟨sa,sn,sc,hv⟩:=hr.letters;rw[hv] at hP y0;clear hr hne h1 h2 h3 F Jp hv;go_in;go_wp2;go_ret;exact hP.out
end
section
variable {w:ag}{τ:Nat->Nat}{s q:Nat}{S:aE}
theorem St.acu(h:St w τ s q S){t:Nat}(ht:t<S.aW.length):S.sp≠(S.tx t).xp:=by
 obtain⟨M,h1,h2,h3⟩:=h;have:=h3.n;intro e;exact h1.apart (t:=10+8*t) (u:=2) (k:=S.sp) (by omega) (by rw[(h2.x t ht).c];exact e) (by rw[h2.c];rfl)
def Ou(t:Nat)(S S':aE):Prop:=(∀u,u≠t->(S'.tx u).live=(S.tx u).live/\(S'.tx u).start=(S.tx u).start)/\(S'.tx t).live=true/\(S'.tx t).start=S.now/\S'.now=S.now
def BgD(S:aE)(t x:Int)(S':aE):Prop:=(x=140/\S'=S/\∀k:Nat,t=k->k<S.aW.length->(S.tx k).live=true)\/(x=120/\S'=S/\S.eI<(S.now:Int)+9)\/(x=0/\∀k:Nat,t=k->Ou k S S')
def ChB(w:ag)(τ:Nat->Nat)(s q:Nat)(S:aE)(t:Int)(e:Ending)(w':ag):Prop:=∃x:Int,e=.returned (vI x)/\bX x/\x≠100/\Nx w τ s q S w' (BgD S t x)
theorem Ou.aU{t:Nat}{S:aE}{x':gl}(ht:t<S.aW.length)(hl:x'.live=true)(hs:x'.start=S.now):Ou t S (S.aU t x'):=by
 refine⟨λu hu=>?_,?_,?_,rfl⟩
 ·rw[show(S.aU t x').tx u=S.tx u from aE.eJ hu x'];exact⟨rfl,rfl⟩
 ·rw[show(S.aU t x').tx t=x' from aE.dS ht x'];exact hl
 ·rw[show(S.aU t x').tx t=x' from aE.dS ht x'];exact hs
theorem JY(h:St w τ s q S)(hq:q<=100000)(t:Int)(ht:bX t):aJ prog 64 #[pV S.sp,vI t] w (ChB w τ s q S t):=by
 have hr:=yK h t ht;have R9:=h.ok.n;have hcs:=h.cells;have c3:w.cell? ⟨S.sp,3,none⟩=some S.mj:=(hcs 3 _ rfl).1;have c2:=(hcs 2 _ rfl).1;have c5:=(hcs 5 _ rfl).1;obtain⟨N,hN⟩:=ao S.aW.length;have aP:=h.QW;obtain⟨sa,sc,AG⟩:=aF aP;rw[hN] at AG;rw[AG] at c3
 have gG:Hid (∀i,i<N->∃g,sa=some ⟨g,0,none⟩/\w.cell? ⟨g,i,none⟩=some (pV (S.tx i).xp)/\w.cell? ⟨(S.tx i).xp,1,none⟩=some (.bool (S.tx i).live)):=λi hi=>by
  obtain⟨g,c,hv,ho⟩:=ji aP (by decide) (show i<S.aW.length by omega);have h1:=(ho 0 (by decide)).1;rw[show i*1+0=i by omega] at h1;have nK:i<S.aW.length:=by omega
  have e1:(S.aW.map λx=>pV x.xp).getD i .nilFunc=pV (S.tx i).xp:=by simp[aE.tx,aS,nK]
  rw[e1] at h1;rw[AG] at hv;injection hv with e2 e3 e4
  exact⟨g,e2,h1,(h.lW nK 1 _ rfl).1⟩
 have bad:Hid (∀ (x:Int) W,Calm w W->bX x->x≠100->BgD S t x S->ChB w τ s q S t (.returned (vI x)) W):=λx W c h1 h2 h3=>⟨x,rfl,h1,h2,Nx.calm h c h3⟩;clear aP AG;go_in;go_wp2_with fail
 refine hr.mono ?_;rintro e w' ⟨⟨k,rfl,hk,rfl⟩|⟨hn,rfl⟩,rfl⟩
 ·clear hr;have x1:=(h.lW hk 1 _ rfl).1
  cases hl:(S.tx k).live with
  | true=>
    rw[hl] at x1;go_wp2;go_ret;exact bad.out 140 _ ah (by decide) (by decide) (.inl ⟨rfl,rfl,λk' ek _=>by rw[show k'=k by omega];exact hl⟩)
  | false=>
    rw[hl] at x1;have tq:=hid hN;clear hN;go_wp2_with fail
    go_loopw [6,25] (λn z wr=>∃i c:Nat,i<=N/\c<=i/\n=vI c/\z=vI i/\wr=w') (λ_ z _=>N-(intOf z).toNat)
    case atStart=>exact⟨0,0,by omega,by omega,rfl,rfl,rfl⟩
    case round=>
     obtain⟨i,c,hi,hc,rfl,rfl,hw⟩:=hrel;subst wr;have hN8:N<=8:=by have:=tq.out;omega
     by_cases aM:i<N
     ·obtain⟨g,rfl,e1,e2⟩:=gG.out i aM;clear x1
      cases kT:(S.tx i).live with
      | true=>
        rw[kT] at e2;go_wp2;exact⟨⟨i+1,c+1,by omega,by omega,by simp,by simp,trivial⟩,by simp[intOf] <;> omega⟩
      | false=>
        rw[kT] at e2;go_wp2;exact⟨⟨i+1,c,by omega,by omega,rfl,by simp,trivial⟩,by simp[intOf] <;> omega⟩
     ·obtain rfl:i=N:=by omega
      have om:=Hg h.clk h.ok.ck (c+1) (by omega);rw[show(((c+1:Nat):Int))=(c:Int)+1 by omega] at om;go_wp2_with fail
      refine om.mono ?_;rintro e w2 ⟨⟨b,rfl,abN⟩,k2⟩;clear om
      cases b with
      | false=>
        have abM:S.eI<(S.now:Int)+9:=by have hm:=abN rfl;omega
        go_wp2;go_ret;exact bad.out 120 _ k2 (by decide) (by decide) (.inr (.inl ⟨rfl,rfl,abM⟩))
      | true=>
        have h2:=h.calm k2;have d2:=k2.cellAt c2 id;have d5:=k2.cellAt c5 id;have kd:Calm w2 w2.drew:=ah.drew;have uB:=(h2.calm kd).clk;have aaE:=xI (uB 0 _ rfl);have hxd:=(h2.calm kd).lW hk;have gg:=h.ok.x k hk;have dy:=h2.lW hk;have u1:=(dy 1 _ rfl).1;have u2:=(dy 2 _ rfl).1;have u3:=(dy 3 _ rfl).1;have v1:=(dy 1 _ rfl).2;have v2:=(dy 2 _ rfl).2;have v3:=(dy 3 _ rfl).2;clear dy;have yh:=h.acu hk;have abo:=h.ok.ck;have tC:=h.ok.nx;clear x1 c3 c2 c5 hcs gG bad;go_wp2_with fail
        refine wp_region_any (by kernel_rfl) (df [0,1,2,3,4,5,6,8,9,10,11] [7,12,13,14,15,16,17,18,19,20] (λw'=>w'.cell? ⟨S.sp,2,none⟩=some (pV S.ck)/\w'.cell? ⟨S.sp,5,none⟩=some (vI (S.next:Int))) (by kernel_rfl) ⟨d2,d5⟩ ?_);refine ai (pV (S.tx k).xp) rfl rfl (λw' hw'=>?_) ak ?_
        ·simp[go_sem]
        refine ai (pV (S.tx k).xp) rfl rfl (λw' hw'=>?_) ak ?_
        ·simp[go_sem]
        refine ai (pV (S.tx k).xp) rfl rfl (λw' hw'=>?_) ak ?_
        ·simp[go_sem]
        refine ai (pV S.sp) rfl rfl (λw' hw'=>?_) ak ?_
        ·simp[go_sem]
        refine ai (pV S.sp) rfl rfl (λw' hw'=>?_) ak ?_
        ·simp[go_sem]
        refine ai (.pointer (some ⟨S.sp,2,none⟩)) rfl rfl (λw' hw'=>?_) ak ?_
        ·simp[go_sem]
        refine ai (pV S.ck) rfl rfl (λw' hw'=>?_) ak ?_
        ·have e1:=hw'.1;simp[go_sem,e1]
        refine ai (pV S.sp) rfl rfl (λw' hw'=>?_) ak ?_
        ·simp[go_sem]
        refine ai (pV S.sp) rfl rfl (λw' hw'=>?_) ak ?_
        ·simp[go_sem]
        refine ai (.pointer (some ⟨S.sp,5,none⟩)) rfl rfl (λw' hw'=>?_) ak ?_
        ·simp[go_sem]
        refine ai (vI (S.next:Int)) rfl rfl (λw' hw'=>?_) ak ?_
        ·have e1:=hw'.2;simp[go_sem,e1]
        simp only[bq];have m1:=hxd.set 1 (.bool true) (by simp[gl.cs]);have m2:=m1.set 2 (vI (S.now:Int)) (by simp[gl.cs]);have m3:=m2.set 3 (vI (S.next:Int)) (by simp[gl.cs]);have y1:=(hxd 1 _ rfl).1;have g1:=(hxd 1 _ rfl).2;have y2:=(m1 2 _ rfl).1;have g2:=(m1 2 _ rfl).2;have y3:=(m2 3 _ rfl).1;have g3:=(m2 3 _ rfl).2;have F1:Fr (λb=>b=(S.tx k).xp) w2.drew (w2.drew.setCell ⟨(S.tx k).xp,1,none⟩ (.bool true)):=(Fr.refl (λb=>b=(S.tx k).xp) w2.drew).setCell (p:=⟨(S.tx k).xp,1,none⟩) (.inl rfl) _;have F2:Fr (λb=>b=(S.tx k).xp) w2.drew ((w2.drew.setCell ⟨(S.tx k).xp,1,none⟩ (.bool true)).setCell ⟨(S.tx k).xp,2,none⟩ (vI (S.now:Int))):=F1.setCell (p:=⟨(S.tx k).xp,2,none⟩) (.inl rfl) _;have F3:Fr (λb=>b=(S.tx k).xp) w2.drew (((w2.drew.setCell ⟨(S.tx k).xp,1,none⟩ (.bool true)).setCell ⟨(S.tx k).xp,2,none⟩ (vI (S.now:Int))).setCell ⟨(S.tx k).xp,3,none⟩ (vI (S.next:Int))):=F2.setCell (p:=⟨(S.tx k).xp,3,none⟩) (.inl rfl) _;have Kc:=kd.cellAt d2 id;have Kd:=kd.cellAt d5 id;have a1:(w2.drew.setCell ⟨(S.tx k).xp,1,none⟩ (.bool true)).cell? ⟨S.sp,2,none⟩=some (pV S.ck)/\(w2.drew.setCell ⟨(S.tx k).xp,1,none⟩ (.bool true)).cell? ⟨S.sp,5,none⟩=some (vI (S.next:Int)):=⟨F1.cellAt Kc yh,F1.cellAt Kd yh⟩;have a2:((w2.drew.setCell ⟨(S.tx k).xp,1,none⟩ (.bool true)).setCell ⟨(S.tx k).xp,2,none⟩ (vI (S.now:Int))).cell? ⟨S.sp,2,none⟩=some (pV S.ck)/\((w2.drew.setCell ⟨(S.tx k).xp,1,none⟩ (.bool true)).setCell ⟨(S.tx k).xp,2,none⟩ (vI (S.now:Int))).cell? ⟨S.sp,5,none⟩=some (vI (S.next:Int)):=⟨F2.cellAt Kc yh,F2.cellAt Kd yh⟩;have a3:(((w2.drew.setCell ⟨(S.tx k).xp,1,none⟩ (.bool true)).setCell ⟨(S.tx k).xp,2,none⟩ (vI (S.now:Int))).setCell ⟨(S.tx k).xp,3,none⟩ (vI (S.next:Int))).cell? ⟨S.sp,2,none⟩=some (pV S.ck)/\(((w2.drew.setCell ⟨(S.tx k).xp,1,none⟩ (.bool true)).setCell ⟨(S.tx k).xp,2,none⟩ (vI (S.now:Int))).setCell ⟨(S.tx k).xp,3,none⟩ (vI (S.next:Int))).cell? ⟨S.sp,5,none⟩=some (vI (S.next:Int)):=⟨F3.cellAt Kc yh,F3.cellAt Kd yh⟩;obtain⟨M,H1,H2,H3⟩:=h2.calm kd;have bM:=gR.ack (x':={ S.tx k with live:=true,start:=S.now,seen:=S.next }) H1 H2 H3 hk F3 m3 rfl rfl rfl rfl rfl ⟨gg.l,gg.f,gg.m,⟨by show bX (S.now:Int);exact⟨by omega,by have:=abo.2.2;omega⟩,by show bX (S.next:Int);exact⟨by omega,by omega⟩⟩,gg.k⟩ (H3.iv.yG hk (H3.iv.gL hl) (λ_=>Int.le_refl _) (λ_=>rfl) (H3.iv.vs k));have hP:ChB w' τ s q S (k:Nat) (.returned (vI 0)) (((w2.drew.setCell ⟨(S.tx k).xp,1,none⟩ (.bool true)).setCell ⟨(S.tx k).xp,2,none⟩ (vI (S.now:Int))).setCell ⟨(S.tx k).xp,3,none⟩ (vI (S.next:Int))):=⟨0,rfl,by decide,by decide,τ,_,bM.1,(aC.calm τ (k2.trans kd)).trans bM.2,Fix.aU hk rfl rfl,.inr (.inr ⟨rfl,λk' ek=>by rw[show k'=k by omega];exact Ou.aU hk rfl rfl⟩)⟩;replace hP:=hid hP;clear bM m1 m2 m3 hxd F1 F2 F3 H1 H2 H3 uB;refine aq rfl rfl ?_;go_wp2_with fail
        refine aaE.mono ?_;rintro e w4 ⟨rfl,rfl⟩;refine⟨⟨Kc,Kd⟩,?_⟩;refine aq rfl rfl ?_;unfold Oper.wp;go_simp
        try refine⟨⟨Kc,Kd⟩,?_⟩
        refine aq rfl rfl ?_;unfold Oper.wp;go_simp
        try refine⟨⟨Kc,Kd⟩,?_⟩
        refine aq rfl rfl ?_;unfold Oper.wp;go_simp
        try refine⟨a1,?_⟩
        refine aq rfl rfl ?_;unfold Oper.wp;go_simp
        try refine⟨a1,?_⟩
        refine aq rfl rfl ?_;unfold Oper.wp;go_simp
        try refine⟨a1,?_⟩
        refine aq rfl rfl ?_;unfold Oper.wp;go_simp
        try refine⟨a2,?_⟩
        refine aq rfl rfl ?_;unfold Oper.wp;go_simp
        try refine⟨a2,?_⟩
        refine aq rfl rfl ?_;unfold Oper.wp;go_simp
        try refine⟨a2,?_⟩
        refine aq rfl rfl ?_;unfold Oper.wp;go_simp
        try refine⟨a3,?_⟩
        try simp only[bJ]
        clear a1 a2 a3 y1 g1 y2 g2 y3 g3 Kc Kd d2 d5 aaE;go_wp2;go_ret;exact hP.out
 ·clear hr gG;go_wp2;go_ret;exact bad.out 140 _ ah (by decide) (by decide) (.inl ⟨rfl,rfl,λk' ek zB=>by omega⟩)
end
