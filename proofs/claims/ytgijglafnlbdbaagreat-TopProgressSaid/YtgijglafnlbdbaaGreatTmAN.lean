import Derived.Test.YtgijglafnlbdbaaGreatTmAM
set_option linter.all false
set_option maxHeartbeats 4000000
set_option maxRecDepth 8000
namespace Go.Proofs.YtgijglafnlbdbaaGreat
open RowKit Shelf Proofs.Tryz
open Go renaming World->ag,Value->aA,Calls->aJ
section
variable {w:ag}{τ:Nat->Nat}{s q:Nat}{S:aE}
structure AW where
 qv:aA
 qu:List It
 next:Nat
 aK:Int
 dm:Nat
def aE.cD(S:aE)(c:AW):aE:={ S with qv:=c.qv,qu:=c.qu,next:=c.next,aK:=c.aK,dm:=c.dm }
theorem Fix.cD(S:aE)(c:AW):Fix S (S.cD c):=⟨rfl,rfl,rfl,rfl,rfl,rfl,λ_=>rfl,λ_=>rfl,aD _,aD _,rfl,rfl⟩
theorem Inv.cD{S:aE}(h:Inv S)(c:AW)(hv:c.dm<=S.now)(hh:c.aK = -1\/∃t:Nat,c.aK=t/\(S.tx t).live=true):Inv (S.cD c):=⟨h.hv,hv,h.st,h.vs,hh⟩
theorem gR.cD{I:aE->Prop}{w':ag}{q':Nat}(h:gR I w τ s q S)(c:AW)(f:Fr (λb=>b=S.sp\/ay S.qv b) w w')(hc:af w' S.sp (S.cD c).cs)
 (ho:w'.ownsRow 0 123 2 c.qv c.qu.length (c.qu.flatMap iH)) (fZ:∀b,ay c.qv b->ay S.qv b\/w.heap.size<=b)
 (hqu:∀i∈c.qu,i.at_<=131072/\bX i.seq) (hk:(S.cD c).tM<=q') (tC:c.next<=q') (hh:bX c.aK) (hv:c.dm<=1099511627776) (hq:q<=q') (hi:I (S.cD c)) :
 ∃aL,gR I w' aL s q' (S.cD c)/\aC w τ w' aL:=by
 obtain⟨M,h1,h2,h3⟩:=h;have hb:(M 2).dh=λk=>k=S.sp:=by rw[h2.c];rfl
 have kG:(M 5).dh=ay S.qv:=by rw[h2.q];rfl
 obtain⟨aL,k1,k2⟩:=h1.xm (t:=2) (u:=5) (by omega) (a:=bD S.sp (pV S.D.B.hp) [pV S.D.c,pV S.ck,S.mj,c.qv,vI c.next,vI c.aK,vI c.dm,S.lv,S.cv]) (b:=pP c.qv c.qu)
  (by rw[hb,kG];exact f) hc ho (λk hk=>by rw[hb];exact hk) (λk hk=>by rw[kG];exact fZ k hk) (by omega) (by omega)
 have o:=(Mem.cf.put M (P:=λj=>j=2\/j=5) (bD S.sp (pV S.D.B.hp) [pV S.D.c,pV S.ck,S.mj,c.qv,vI c.next,vI c.aK,vI c.dm,S.lv,S.cv]) (.inl rfl)).trans (Mem.cf.put _ (pP c.qv c.qu) (.inr rfl));have m:=h3.mono (aD s) hq
 refine⟨aL,⟨_,k1,⟨(o 0 (by omega)).trans h2.h,?_,(o 3 (by omega)).trans h2.k,(o 4 (by omega)).trans h2.t,?_,(o 6 (by omega)).trans h2.l,(o 7 (by omega)).trans h2.m,λt ht=>(h2.x t ht).only o (λj h1 h2=>by omega),λu hu=>(o u (by omega)).trans (h2.z u hu)⟩,
  ⟨m.hw,m.ph,m.p2,m.se,m.rd,m.ls,m.ck,m.n,m.x,hqu,hk,tC,hh,hv,m.lo,m.ca,hi⟩⟩,k2⟩
 ·rw[Mem.aB _ _ (by omega),Mem.aG];rfl
 ·rw[Mem.aG];rfl
theorem gR.GF{I:aE->Prop}{w':ag}{q':Nat}(h:gR I w τ s q S)(c:AW)(f:Fr (λb=>b=S.sp) w w')(hc:af w' S.sp (S.cD c).cs)(hcv:c.qv=S.qv)(ku:c.qu=S.qu)(tC:c.next<=q')(hh:bX c.aK)(hv:c.dm<=1099511627776)(hq:q<=q')(hi:I (S.cD c)) :
 gR I w' τ s q' (S.cD c)/\aC w τ w' τ:=by
 obtain⟨M,h1,h2,h3⟩:=h;have hb:(M 2).dh=λk=>k=S.sp:=by rw[h2.c];rfl
 have f':Fr (M 2).dh w w':=f.mono (λk _ e=>by rw[hb];exact e);have k1:=h1.put' (t:=2) (a:=bD S.sp (pV S.D.B.hp) [pV S.D.c,pV S.ck,S.mj,c.qv,vI c.next,vI c.aK,vI c.dm,S.lv,S.cv]) f' hc (λk hk=>by rw[hb];exact hk);have o:=Mem.cf.put M (P:=λj=>j=2) (bD S.sp (pV S.D.B.hp) [pV S.D.c,pV S.ck,S.mj,c.qv,vI c.next,vI c.aK,vI c.dm,S.lv,S.cv]) rfl;have m:=h3.mono (aD s) hq
 refine⟨⟨_,k1,⟨(o 0 (by omega)).trans h2.h,?_,(o 3 (by omega)).trans h2.k,(o 4 (by omega)).trans h2.t,?_,(o 6 (by omega)).trans h2.l,(o 7 (by omega)).trans h2.m,λt ht=>(h2.x t ht).only o (λj h1 h2 (e:j=2)=>by omega),λu hu=>(o u (by omega)).trans (h2.z u hu)⟩,
  ⟨m.hw,m.ph,m.p2,m.se,m.rd,m.ls,m.ck,m.n,m.x,?_,?_,tC,hh,hv,m.lo,m.ca,hi⟩⟩,aC.piece h1 f' (by omega)⟩
 ·rw[Mem.aG];rfl
 ·rw[o 5 (by omega),h2.q];show pP S.qv S.qu=pP c.qv c.qu;rw[hcv,ku]
 ·show ∀i∈c.qu,_;rw[ku];exact m.qu
 ·show c.qu.length+_<=_;rw[ku];exact m.tt
theorem St.shrink{q2:Nat}(h:St w τ s q2 S)(h1:S.tM<=q)(h2:S.next<=q)(h3:S.lost.length<=q)(h4:S.bK.length<=q):St w τ s q S:=by
 obtain⟨M,a,b,m⟩:=h;exact⟨M,a,b,⟨m.hw,m.ph,m.p2,m.se,m.rd,m.ls,m.ck,m.n,m.x,m.qu,h1,h2,m.ho,m.ve,h3,h4,m.iv⟩⟩
theorem ie.refl(S:aE):ie S S:=⟨Still.refl _ _,rfl,rfl,rfl,rfl,rfl,rfl⟩
theorem ie.trans{A B C:aE}(h:ie A B)(k:ie B C):ie A C:=⟨(h.1.trans k.1),k.2.1.trans h.2.1,k.2.2.1.trans h.2.2.1,k.2.2.2.1.trans h.2.2.2.1,k.2.2.2.2.1.trans h.2.2.2.2.1,k.2.2.2.2.2.1.trans h.2.2.2.2.2.1,k.2.2.2.2.2.2.trans h.2.2.2.2.2.2⟩
def Rest(S:aE)(t:Nat)(l:List Hd):Prop:=iJ S.D.A (λu z=>S.K u z/\(u=t->∃x∈l,nr Ob.ser S.D.A x.at_=z)) S.now
theorem Rest.all{S:aE}(h:Inv S)(t:Nat):Rest S t (S.tx t).L.holds:=h.hv.mono (λu z hk=>⟨hk,λe=>e ▸ hk.2.2⟩) (aD _)
theorem Rest.done{S:aE}{t:Nat}(h:Rest S t []):iJ S.D.A (λu z=>S.K u z/\u≠t) S.now:=h.mono (λu z ⟨hk,h1⟩=>⟨hk,λe=>by obtain⟨x,hx,_⟩:=h1 e;cases hx⟩) (aD _)
theorem aE.FF{S S':aE}(h:ie S S'){u z:Nat}(hk:S.K u z):S'.K u z:=by
 obtain⟨h1,h2,x,h3,h4⟩:=hk;unfold aE.K aE.tx;rw[h.2.1];exact⟨h1,h2,x,h3,(h.1.sr _).trans h4⟩
theorem Rest.still{S S':aE}{t:Nat}{l:List Hd}(h:Rest S t l)(k:yU S S'):Rest S' t l:=by
 unfold Rest;rw[k.1.2.2.2.2.2.1];refine iJ.mono (iJ.lv h k.2) (λu z ⟨hk,h1⟩=>⟨aE.FF k.1 hk,λe=>?_⟩) (aD _);obtain⟨x,hx,e2⟩:=h1 e;exact⟨x,hx,(k.1.1.sr _).trans e2⟩
theorem OI.still{S S':aE}{a n:Nat}(h:OI S a n S'):ie S S':=by
 obtain⟨h1,⟨B',A',rfl⟩,_⟩:=h;exact⟨h1.mono (λ_ _=>trivial),rfl,rfl,rfl,rfl,rfl,rfl⟩
theorem Rest.rel{S S':aE}{t n:Nat}{x:Hd}{l:List Hd}(h:Rest S t (x::l))(k:OI S x.at_ n S')(hn:n<=S.now):Rest S' t l:=by
 have ks:=k.still;have h2:=iJ.free h (λp o hl=>(k.2.2.1 p o hl).imp id (λ⟨a,b,_⟩=>⟨a,b⟩)) k.2.2.2 hn;unfold Rest;rw[ks.2.2.2.2.2.1];refine iJ.mono h2 (λu z ⟨⟨hk,h1⟩,hz⟩=>⟨aE.FF ks hk,λe=>?_⟩) (aD _);obtain⟨y,hy,e2⟩:=h1 e;rcases eH.1 hy with rfl|hy
 ·exact absurd e2.symm hz
 ·exact⟨y,hy,(ks.1.sr _).trans e2⟩
end
section
variable {w:ag}{τ:Nat->Nat}{s q:Nat}{S:aE}
def XK(w:ag)(v:aA)(e:Ending)(w':ag):Prop:=e=.returned (.func (.func 236) #[] #[bw w.heap.size])/\w'=w.alloc (.cells #[v] 166)
theorem Bd(w:ag)(v:aA)(hv:v.oneCell'=true)(hs:∃a n c,v=.slice a n c):aJ prog 197 #[v] w (XK w v):=by
 obtain⟨a,n,c,rfl⟩:=hs;go_in;go_wp2;go_ret;exact⟨rfl,rfl⟩
theorem aC.vU{w w':ag}{τ aL fj:Nat->Nat}(h:aC w τ w' aL)(t:oO w' aL fj):aC w τ w' fj:=⟨h.fr,λk hk=>(t k (by have:=h.size;omega)).trans (h.tg k hk)⟩
def BI(w0:ag)(τ0:Nat->Nat)(s q:Nat)(S:aE)(R:aE->Prop)(D:Nat)(X:Nat->Prop)(W:ag):Prop:=
 ∃pF Sk,St W pF s q Sk/\aC w0 τ0 W pF/\Fix S Sk/\R Sk/\∀b,X b\/b=D\/b=D+1->500<=pF b
theorem BI.loops{w0:ag}{τ0:Nat->Nat}{R:aE->Prop}{D:Nat}{X:Nat->Prop}{A B:ag}(h:BI w0 τ0 s q S R D X A)(hD:w0.heap.size<=D)(f:Fr (λb=>b=D\/b=D+1) A B):BI w0 τ0 s q S R D X B:=by
 obtain⟨pF,Sk,h1,h2,h3,h4,h5⟩:=h;refine⟨pF,Sk,h1.gL f (λb hb=>h5 b (.inr hb)),⟨h2.fr.join f (λj hj e=>by omega),h2.tg⟩,h3,h4,h5⟩
theorem BI.grow{w0:ag}{τ0:Nat->Nat}{R:aE->Prop}{D:Nat}{X:Nat->Prop}{A:ag}{o:Obj}(h:BI w0 τ0 s q S R D X A)(hX:∀b,X b->b<A.heap.size):BI w0 τ0 s q S R D (λb=>X b\/b=A.heap.size) (A.alloc o):=by
 obtain⟨pF,Sk,h1,h2,h3,h4,h5⟩:=h;obtain⟨gI,k1,k2,k3⟩:=h1.fresh;have hs:=h2.size;refine⟨gI,Sk,k1.calm (ah.alloc _),⟨h2.fr.trans (Calm.any ((Fr.refl (λ_=>False) A).alloc o)),λk hk=>(k2 k (by omega)).trans (h2.tg k hk)⟩,h3,h4,λb hb=>?_⟩;rcases fB b A.heap.size with aM|ic
 ·rw[k2 b aM];exact h5 b (by rcases hb with (hb|hb)|hb;exact .inl hb;omega;exact .inr hb)
 ·rw[k3 b ic];omega
def abA(S:aE)(xp lp b0 b5 bc:Nat)(va:Option Addr)(n vc:Nat)(u:Ud)(k:Nat):Act:={ tmps:=#[pV S.sp,pV xp,bw b0,undef,undef,bw b5,undef,undef,pV xp,pV xp,.pointer (some ⟨xp,4,none⟩),pV lp,.slice va n vc,.func (.func 236) #[] #[bw bc],vI ((n:Int)-1-k),udV u,undef,undef,undef,undef,undef,undef,undef,undef,undef,undef,undef,undef,undef,undef,undef,undef,undef,undef,undef,undef,undef,undef,undef,undef,undef,undef,undef,undef,undef,undef,undef,undef,undef,undef,undef,undef,undef,undef,undef,undef,undef,undef,undef,undef,undef,undef,undef,undef,undef,undef,undef,undef,undef,undef,undef,undef,undef,undef,undef,undef,undef,undef,undef,undef,undef,undef,undef,undef,undef,undef,undef,undef,undef,undef,undef,undef,undef,undef,undef,undef,undef,undef,undef,undef,undef,undef,undef,undef,undef,undef,undef,undef,undef,undef,undef],defers:=[] }
def OM(S S':aE):Prop:=ie S S'
def XI(w0:ag)(τ0:Nat->Nat)(s q:Nat)(S:aE)(D xp lp b0 bc:Nat)(va:Option Addr)(n vc:Nat)(l:List Ud)(X:Nat->Prop)(k:Nat)(a:Act)(W:ag):Prop:=
 ∃b5,BI w0 τ0 s q S (OM S) D (λb=>X b\/b=b5) W/\af W b5 (qL (l.getD (n-1-k) dU))/\w0.heap.size<=b5/\b5≠D/\b5≠D+1/\b5<W.heap.size/\a=abA S xp lp b0 b5 bc va n vc (l.getD (n-1-k) dU) k
def ll(t:Nat)(S S':aE):Prop:=(∀u,u≠t->(S'.tx u).live=(S.tx u).live/\(S'.tx u).start=(S.tx u).start)/\(S'.tx t).live=false/\S'.now=S.now
theorem ll.of{t:Nat}{A B C:aE}(h:ll t B C)(r:Rn A B):ll t A C:=⟨λu hu=>⟨(h.1 u hu).1.trans (r.lv u),(h.1 u hu).2.trans (r.st u)⟩,h.2.1,h.2.2.trans r.nw⟩
theorem ll.aU{t:Nat}{S S0:aE}{x':gl}(h0:S0.aW=S.aW)(hn:S0.now=S.now)(ht:t<S0.aW.length)(hx:x'.live=false):ll t S (S0.aU t x'):=by
 refine⟨λu hu=>?_,?_,hn⟩
 ·rw[show(S0.aU t x').tx u=S0.tx u from aE.eJ hu x'];unfold aE.tx;rw[h0];exact⟨rfl,rfl⟩
 ·rw[show(S0.aU t x').tx t=x' from aE.dS ht x'];exact hx
def AbR(t:Nat)(S S':aE):Prop:=Still (λ_=>True) S.D.A S'.D.A/\ll t S S'
def Tg(w:ag)(τ:Nat->Nat)(s q:Nat)(S:aE)(t:Nat)(e:Ending)(w':ag):Prop:=e=.returned (.tuple #[])/\Nx w τ s q S w' (AbR t S)
theorem Ba(h:St w τ s q S)(P3:q<=100000){t:Nat}(ht:t<S.aW.length)(N_:(S.tx t).live=true):aJ prog 150 #[pV S.sp,pV (S.tx t).xp] w (Tg w τ s q S t):=by
 obtain⟨τ0,hf,tk,fr⟩:=h.fresh;have hx:=h.lW ht;have gg:=h.ok.x t ht;have R9:=h.ok.n;have hvs:=h.ok.iv.vs t;have c4:=(hx 4 _ rfl).1;have k1:Calm w (w.alloc (.cells #[pV S.sp] 56)):=ah.alloc _;have b0:Own (w.alloc (.cells #[pV S.sp] 56)) w.heap.size 0 (pV S.sp):=Own.new w #[pV S.sp] 56 0 rfl;obtain⟨W1,gO⟩:=ao (w.alloc (.cells #[pV S.sp] 56));rw[gO] at k1 b0;have h1:=hf.calm k1;have d4:=k1.cellAt c4 id;obtain⟨M,H1,H2,H3⟩:=h1;have hl:=(H2.x t ht).l;refine(callsIn_wide (n:=9)).1 ?_;refine callsIn_of_wp_marks func150 rfl trivial ?_ rfl;simp only[ntmps150,List.size_toArray,List.length_cons,List.length_nil,Nat.reduceAdd,Nat.reduceSub,Array.replicate_succ,Array.replicate_zero,List.push_toArray,List.append_toArray,List.nil_append,List.cons_append]
 gi_wp2_with (refine⟨trivial,?_⟩;gi_at_call 198;refine(callsIn_wide.2 (Iv H1 hl (by have:=gg.f;omega))).mono ?_;rintro e w2 ⟨v,rfl,u1,u2,u3⟩;obtain⟨va,vc,rfl⟩:=aF u1)
 gi_wp2_with (refine⟨trivial,?_⟩;gi_at_call 197;refine(callsIn_wide.2 (Bd w2 _ rfl ⟨_,_,_,rfl⟩)).mono ?_;rintro e w3 ⟨rfl,yf⟩)
 have hD:w3.heap.size=w2.heap.size+1:=by rw[yf];simp
 rw[<-yf];generalize hL:(S.tx t).L.az=l at *;generalize hN:l.length=n at *;have k3:Calm w2 w3:=by rw[yf];exact ah.alloc _
 have kk:Calm w w3:=k1.trans (u3.trans k3);have qE:Own w3 w.heap.size 0 (pV S.sp):=(b0.calm (u3.trans k3));have Dz:w3.ownsRow 0 231 4 (.slice va n vc) n (l.flatMap qL):=aw u1 k3 (λ_ _=>id)
 have Jj:BkQ w2.heap.size (.slice va n vc) l w3:=by
  refine⟨by rw[yf];exact(Own.new w2 #[_] _ 0 rfl).1,?_,⟨va,vc,by rw[hN]⟩⟩
  by_cases hz:Value.slice va n vc=.slice none 0 0
  ·refine⟨0,λj hj=>?_⟩;injection hz with _ e _
   omega
  ·obtain⟨g,c,e1,e2⟩:=iX Dz hz;refine⟨g,λj hj=>⟨⟨c,by rw[e1,hN]⟩,λi u hu=>?_⟩⟩;have h4:i<4:=by have:=(List.getElem?_eq_some_iff.1 hu).1;simpa[qL] using this
   exact e2 _ u ((FR qL 4 ml dU l j hj i h4).trans hu)
 have hbt:∀b,ay (.slice va n vc) b->w.heap.size<=b/\b<w3.heap.size:=λb hb=>⟨by have:=u2 b hb;have:=k1.size;omega,(World.ownsRow.lt Dz b hb).2⟩;have hbc:w.heap.size<=w2.heap.size:=by have:=k1.size;have:=u3.size;omega
 have ZL:l.length<=100000:=by have:=gg.f.2.2.2;rw[hL] at this;omega
 have cM:St w3 τ0 s q S:=hf.calm kk;generalize hc:w2.heap.size=bc at *;generalize P_:(S.tx t).xp=xp at *;generalize U3:(S.tx t).lp=lp at *;generalize hw9:w.heap.size=JW at *;clear yf u1 u3 k3 k1 d4 H1 H2 H3 hl gO b0 u2
 refine kP (Qp:=BkQ bc (.slice va n vc) l) (g:=.tmp 13) rfl (by decide) (gf:=236) (lb:=#[bw bc]) rfl trivial (enters_of func236 (by kernel_rfl) rfl)
  (JX 8 (by decide) w3 bc (.slice va n vc) l ZL) (aD _) (λ_=>rfl)
  (λX _ W=>BI w3 τ0 s q S (OM S) w3.heap.size X W) (XI w3 τ0 s q S w3.heap.size xp lp JW bc va n vc l) (λc W=>False)
  ?hI ?hI1 ?hG ?hQ ?hIx ?hN ?h0 ?assign ?body ?done ?stop
 case hI=>exact λX k A B a f=>a.loops (aD _) f
 case hI1=>
  rintro X k a' A B ⟨b5,h1,h2,h3,h4,h5,h6,rfl⟩ f;have:=f.size;exact⟨b5,h1.loops (aD _) f,h2.fr f (by omega),h3,h4,h5,by omega,rfl⟩
 case hG=>exact λX k A o a hX=>a.grow hX
 case hQ=>
  rintro X k A ⟨pF,Sk,_,g2,_⟩;have hT:∀b,JW<=b->¬τ0 b<500:=λb hb=>by rw[fr b hb];omega
  obtain⟨a1,⟨g,a2⟩,a3⟩:=Jj;refine⟨g2.fr.cellAt a1 (hT _ hbc),⟨g,λj hj=>⟨(a2 j hj).1,λi u hu=>g2.fr.cellAt ((a2 j hj).2 i u hu) ?_⟩⟩,a3⟩;obtain⟨c,e⟩:=(a2 j hj).1;exact hT _ (hbt g (by rw[e];rfl)).1
 case hIx=>
  rintro c A A' h _;exact h
 case hN=>
  rintro h;cases h
 case h0=>exact⟨τ0,S,cM,aC.refl _ _,Fix.refl _,ie.refl _,λb hb=>by rw[fr b (by have:=kk.size;rcases hb with hb|hb|hb;exact hb.elim;omega;omega)];omega⟩
 case assign=>
  rintro y X k W hk ha hX hs;clear qE Dz Jj;have e1:J0 l k = #[vI ((n:Int)-1-k),.agg #[vI (l.getD (n-1-k) dU).kind,vI (l.getD (n-1-k) dU).at_,vI (l.getD (n-1-k) dU).i,vI (l.getD (n-1-k) dU).aV]]:=by unfold J0;rw[hN];rfl
  rw[e1];have hg:=ha.grow (o:=.cells (qL (l.getD (n-1-k) dU)).toArray 231) hX;have bS:=af.new W (qL (l.getD (n-1-k) dU)) 231;have bM:∀a,a=abA S xp lp JW W.heap.size bc va n vc (l.getD (n-1-k) dU) k->XI w3 τ0 s q S w3.heap.size xp lp JW bc va n vc l X k a (W.alloc (.cells (qL (l.getD (n-1-k) dU)).toArray 231)):=λa e=>⟨W.heap.size,hg,bS,by omega,by omega,by omega,by simp,e⟩;have hke:cE (λb=>X b\/b=w3.heap.size\/b=w3.heap.size+1) W (W.alloc (.cells (qL (l.getD (n-1-k) dU)).toArray 231)):=cE.yv ((Fr.refl (λ_=>False) W).alloc _) (λb hb=>⟨by rcases hb with hb|hb|hb;exact hX b hb;omega;omega,id⟩);generalize l.getD (n-1-k) dU=U at *;replace bM:=hid bM;replace hke:=hid hke;clear hg bS e1 ha
  gi_wp2
  simp[Oper.semAt,go_sem,Act.eval]
  gi_wp2
  simp[Oper.semAt,go_sem,Act.eval]
  gi_wp2
  exact⟨hke.out,bM.out _ rfl⟩
 case body=>
  rintro y X k a W hk ⟨b5,h1,h2,h3,h4,h5,h6,rfl⟩ hX hs;obtain⟨U,hU⟩:=ao (l.getD (n-1-k) dU);rw[hU] at h2 ⊢;unfold abA;have hUm:U∈l:=by rw[<-hU];exact get_mem dU (by omega)
  obtain⟨⟨u1,u2,u3⟩,u4,u5⟩:=gg.l.u U (by rw[hL];exact hUm);obtain⟨y0,y1,y2,y3⟩:=af.Bh h2;obtain⟨pF,Sk,g1,g2,g3,g4,g5⟩:=h1;have p0:W.cell? ⟨JW,0,none⟩=some (pV S.sp):=g2.cell qE.1 (by rw[fr _ (aD _)];omega);have p1:=(g1.cells 0 _ rfl).1;rw[g3.sp,g3.hp] at p1
  have lD:Hid (∀B,Nx W pF s q Sk B (OM S)->cE (λb=>X b\/b=w3.heap.size\/b=w3.heap.size+1) W B/\BI w3 τ0 s q S (OM S) w3.heap.size X B):=by
   rintro B ⟨gI,S1,e1,e2,e3,e4⟩;refine⟨cE.yv e2.fr (λb hb=>?_),gI,S1,e1,g2.trans e2,g3.trans e3,e4,λb hb=>?_⟩
   ·have h7:=g5 b (hb.imp .inl id);exact⟨by rcases hb with hb|hb|hb;exact hX b hb;omega;omega,by omega⟩
   ·rw[e2.tg b (by rcases hb with hb|hb|hb;exact hX b hb;omega;omega)];exact g5 b (hb.imp .inl id)
  clear qE Dz Jj
  by_cases jg:U.kind=1
  ·obtain⟨o1,ho1⟩:∃o1:Nat,U.aV=(o1:Int):=⟨U.aV.toNat,by have:=u3 jg;omega⟩;have ho2:o1<=131072:=by have:=u3 jg;omega
   rw[ho1] at y3;have ek:(U.kind==1)=true:=by simp[jg]
   gi_wp2
   repeat (simp[Oper.semAt,go_sem,Act.eval,y0,ek];gi_wp2)
   refine gx 10 10 (λw'=>Calm W w') (by kernel_rfl) (by rintro ⟨_,_,h⟩;exact h) (by kernel_rfl) (by kernel_rfl) (ah.drew) ?_;refine ae (pV S.sp) rfl (λw' hw'=>?_) ak ?_
   ·have e1:=hw'.cellAt p0 id;simp[go_sem,e1]
   refine ae (pV S.sp) rfl (λw' hw'=>?_) ak ?_
   ·simp[go_sem]
   refine ae (bw S.sp) rfl (λw' hw'=>?_) ak ?_
   ·simp[go_sem]
   refine ae (pV S.D.B.hp) rfl (λw' hw'=>?_) ak ?_
   ·have e1:=hw'.cellAt p1 id;simp[go_sem,e1]
   refine ae (.pointer (some ⟨b5,1,none⟩)) rfl (λw' hw'=>?_) ak ?_
   ·simp[go_sem]
   refine ae (vI U.at_) rfl (λw' hw'=>?_) ak ?_
   ·have e1:=hw'.cellAt y1 id;simp[go_sem,e1]
   refine ae (.pointer (some ⟨b5,2,none⟩)) rfl (λw' hw'=>?_) ak ?_
   ·simp[go_sem]
   refine ae (vI U.i) rfl (λw' hw'=>?_) ak ?_
   ·have e1:=hw'.cellAt y2 id;simp[go_sem,e1]
   refine ae (.pointer (some ⟨b5,3,none⟩)) rfl (λw' hw'=>?_) ak ?_
   ·simp[go_sem]
   refine ae (vI (o1:Int)) rfl (λw' hw'=>?_) ak ?_
   ·have e1:=hw'.cellAt y3 id;simp[go_sem,e1]
   simp only[bG,Nat.sub_self,bV];have kw:Calm W W.drew:=ah.drew;have o:=pC (g1.calm kw) u1 ho2 U.i;rw[g3.hp] at o;go_wp2_with fail
   refine o.mono ?_;rintro e W4 ⟨x,rfl,_,n4⟩;have n5:=hid (n4.lA kw);clear o n4 kw p0 p1 y0 y1 y2 y3 h2;go_wp2;refine lD.out W4 (n5.out.mono (aD _) (aD _) λS' e=>g4.trans e.1)
  ·have ek:(U.kind==1)=false:=by simpa using jg
   by_cases gX:U.kind=2
   ·have ek2:(U.kind==2)=true:=by simp[gX]
    gi_wp2
    repeat (simp[Oper.semAt,go_sem,Act.eval,y0,ek,ek2];gi_wp2)
    refine gx 10 10 (λw'=>Calm W w') (by kernel_rfl) (by rintro ⟨_,_,h⟩;exact h) (by kernel_rfl) (by kernel_rfl) (ah.drew) ?_;refine ae (pV S.sp) rfl (λw' hw'=>?_) ak ?_
    ·have e1:=hw'.cellAt p0 id;simp[go_sem,e1]
    refine ae (pV S.sp) rfl (λw' hw'=>?_) ak ?_
    ·simp[go_sem]
    refine ae (bw S.sp) rfl (λw' hw'=>?_) ak ?_
    ·simp[go_sem]
    refine ae (pV S.D.B.hp) rfl (λw' hw'=>?_) ak ?_
    ·have e1:=hw'.cellAt p1 id;simp[go_sem,e1]
    refine ae (.pointer (some ⟨b5,1,none⟩)) rfl (λw' hw'=>?_) ak ?_
    ·simp[go_sem]
    refine ae (vI U.at_) rfl (λw' hw'=>?_) ak ?_
    ·have e1:=hw'.cellAt y1 id;simp[go_sem,e1]
    refine ae (.pointer (some ⟨b5,2,none⟩)) rfl (λw' hw'=>?_) ak ?_
    ·simp[go_sem]
    refine ae (vI U.i) rfl (λw' hw'=>?_) ak ?_
    ·have e1:=hw'.cellAt y2 id;simp[go_sem,e1]
    refine ae (.pointer (some ⟨b5,3,none⟩)) rfl (λw' hw'=>?_) ak ?_
    ·simp[go_sem]
    refine ae (vI U.aV) rfl (λw' hw'=>?_) ak ?_
    ·have e1:=hw'.cellAt y3 id;simp[go_sem,e1]
    simp only[bG,Nat.sub_self,bV];have kw:Calm W W.drew:=ah.drew;have o:=vQ (g1.calm kw) u1 U.i U.aV u2;rw[g3.hp] at o;go_wp2_with fail
    refine o.mono ?_;rintro e W4 ⟨x,rfl,_,n4⟩;have n5:=hid (n4.lA kw);clear o n4 kw p0 p1 y0 y1 y2 y3 h2;go_wp2;refine lD.out W4 (n5.out.mono (aD _) (aD _) λS' e=>g4.trans e.1)
   ·have ek2:(U.kind==2)=false:=by simpa using gX
    by_cases mL:U.kind=3
    ·have ek3:(U.kind==3)=true:=by simp[mL]
     gi_wp2
     repeat (simp[Oper.semAt,go_sem,Act.eval,y0,ek,ek2,ek3];gi_wp2)
     refine gx 9 9 (λw'=>Calm W w') (by kernel_rfl) (by rintro ⟨_,_,h⟩;exact h) (by kernel_rfl) (by kernel_rfl) (ah.drew) ?_;refine ae (pV S.sp) rfl (λw' hw'=>?_) ak ?_
     ·have e1:=hw'.cellAt p0 id;simp[go_sem,e1]
     refine ae (pV S.sp) rfl (λw' hw'=>?_) ak ?_
     ·simp[go_sem]
     refine ae (bw S.sp) rfl (λw' hw'=>?_) ak ?_
     ·simp[go_sem]
     refine ae (pV S.D.B.hp) rfl (λw' hw'=>?_) ak ?_
     ·have e1:=hw'.cellAt p1 id;simp[go_sem,e1]
     refine ae (.pointer (some ⟨b5,1,none⟩)) rfl (λw' hw'=>?_) ak ?_
     ·simp[go_sem]
     refine ae (vI U.at_) rfl (λw' hw'=>?_) ak ?_
     ·have e1:=hw'.cellAt y1 id;simp[go_sem,e1]
     refine ae (.pointer (some ⟨b5,3,none⟩)) rfl (λw' hw'=>?_) ak ?_
     ·simp[go_sem]
     refine ae (vI U.aV) rfl (λw' hw'=>?_) ak ?_
     ·have e1:=hw'.cellAt y3 id;simp[go_sem,e1]
     refine ae (.bool (U.aV != 0)) rfl (λw' hw'=>?_) ak ?_
     ·simp[go_sem]
     simp only[bG,Nat.sub_self,bV];have kw:Calm W W.drew:=ah.drew;have o:=jF (g1.calm kw) u1 (U.aV != 0);rw[g3.hp] at o;go_wp2_with fail
     refine o.mono ?_;rintro e W4 ⟨x,rfl,_,n4⟩;have n5:=hid (n4.lA kw);clear o n4 kw p0 p1 y0 y1 y2 y3 h2;go_wp2;refine lD.out W4 (n5.out.mono (aD _) (aD _) λS' e=>g4.trans e.1)
    ·have ek3:(U.kind==3)=false:=by simpa using mL
     gi_wp2
     repeat (simp[Oper.semAt,go_sem,Act.eval,y0,ek,ek2,ek3];gi_wp2)
     exact lD.out W (Nx.calm g1 ah g4)
 case done=>
  rintro X W Eo hB WQ;obtain⟨pF,Sk,g1,g2,g3,g4,g5⟩:=hB;obtain⟨gI,f1,DE,fr1⟩:=g1.fresh;have iG:=g2.size;have K1:aC w3 τ0 W gI:=⟨g2.fr,λk hk=>(DE k (by omega)).trans (g2.tg k hk)⟩;have O8:Sk.tx t=S.tx t:=by unfold aE.tx;rw[g4.2.1]
  have kK:t<Sk.aW.length:=by rw[g4.2.1];exact ht
  have Sy:=f1.lW kK;rw[O8,P_] at Sy;have d4:=(Sy 4 _ rfl).1;rw[U3] at d4;have f1':=f1;obtain⟨M,H1,H2,H3⟩:=f1;have BW:=(H2.x t kK).l;rw[O8,U3] at BW
  gi_wp2_with (refine⟨trivial,?_⟩;gi_at_call 123;refine(callsIn_wide.2 (yj H1 BW (by have:=gg.f;omega))).mono ?_;rintro e w4 ⟨hv,rfl,v1,v2,v3⟩;obtain⟨ha,KJ,rfl⟩:=aF v1)
  refine wpIn_wide.2 ?_;have k4:aC w3 τ0 w4 gI:=K1.trans (aC.calm gI v3);have UT:=gg.l.h;have D_:=Rest.all f1'.ok.iv t;rw[O8] at D_;have hhf:=gg.f.2.2.1;generalize (S.tx t).L.holds=hs at *;generalize hm:hs.length=m at *;have aP:=hid v1;have AF:∀b,ay (.slice ha m KJ) b->500<=gI b:=λb hb=>by rw[fr1 b (v2 b hb)];omega
  have tz:Own w4 JW 0 (pV S.sp):=k4.own qE (by rw[fr _ (aD _)];omega);have tb2:500<=gI JW:=by rw[K1.tg JW (by omega),fr _ (aD _)];omega
  have WS:w4.heap[bc+1]?=some (.deferred (some [])):=(v3.gT (by rw[<-hD];exact WQ) id);have tD:500<=gI (bc+1):=by rw[DE _ (sY.1 (by rw[<-hD];exact WQ)).1];exact g5 _ (.inr (.inl hD.symm))
  have aak:=f1'.calm v3;have hinv:Hid (∃iF Si,St w4 iF s q Si/\aC w4 gI w4 iF/\Fix S Si/\OM S Si/\Rest Si t (hs.drop 0)):=⟨gI,Sk,aak,aC.refl _ _,g3,g4,D_⟩;clear v1 v2 d4 Sy BW H1 H2 H3 f1' D_ qE hbt Dz Jj WQ;go_loopw [62] (λz wr=>∃i:Nat,i<=m/\z=vI i/\Hid (∃iF Si,St wr iF s q Si/\aC w4 gI wr iF/\Fix S Si/\OM S Si/\Rest Si t (hs.drop i))) (λz _=>m-(intOf z).toNat)
  case atStart=>exact⟨0,by omega,rfl,hinv⟩
  case round=>
   obtain⟨i,hi,rfl,hw⟩:=hrel;clear hinv aak;obtain⟨iF,Si,m1,m2,m3,m4,mR⟩:=hw.out
   by_cases aM:i<m
   ·obtain⟨g,c,hv,hco⟩:=bT kH (by decide) (show w4.ownsRow 0 219 2 (.slice ha m KJ) hs.length (hs.flatMap wM) by rw[hm];exact aP.out) ⟨0,0⟩ (i:=i) (by omega);injection hv with e1 e2 e3
    subst e1;clear e2 e3;obtain⟨x,jb⟩:=ao (hs.getD i ⟨0,0⟩);have Of:x∈hs:=by rw[<-jb];exact get_mem _ (by omega)
    rw[jb] at hco;obtain⟨xa,xv⟩:=UT x Of;obtain⟨v0,ev0⟩:∃v0:Nat,x.dm=(v0:Int):=⟨x.dm.toNat,by have:=(hvs x Of).1;omega⟩;have LD:v0<=Si.now:=by have:=(hvs x Of).2;have:=m4.2.2.2.2.2.1;omega
    have hdr:hs.drop i=x::hs.drop (i+1):=by rw[List.drop_eq_getElem_cons (by omega),<-jb];simp[aS,show i<hs.length by omega]
    rw[hdr] at mR;replace mR:=hid mR;replace LD:=hid LD;replace ev0:=hid ev0;clear hdr;have r0:=(m2.own (hco 0 _ rfl) (AF g rfl)).1;have r1:=(m2.own (hco 1 _ rfl) (AF g rfl)).1;rw[fM] at r0;have b2:=(m2.own tz tb2).1;obtain⟨τj,j1,j2,j3⟩:=m1.fresh;have M2:aC w4 gI wr τj:=m2.vU j2;have k5:Calm wr (wr.alloc (.cells #[vI x.at_,vI x.dm] 219)):=ah.alloc _;have o7:=af.new wr (wM x) 219;have hl7:wr.heap.size<(wr.alloc (.cells #[vI x.at_,vI x.dm] 219)).heap.size:=by simp
    have t7:500<=τj wr.heap.size:=by rw[j3 _ (aD _)];omega
    have b3:=k5.cellAt b2 id;obtain⟨W5,mK⟩:=ao (wr.alloc (.cells #[vI x.at_,vI x.dm] 219));rw[mK] at k5 hl7 b3;replace o7:af W5 wr.heap.size [vI x.at_,vI x.dm]:=by rw[<-mK];exact o7
    obtain⟨s0,s1⟩:=af.N1 o7;have Jw:=po (j1.calm k5) xa LD.out;rw[<-ev0.out] at Jw;rw[m3.sp] at Jw;go_wp2_with fail
    refine Jw.mono ?_;rintro e w6 ⟨rfl,gj,S6,p1,p2,p3,p4⟩;have o8:=p2.bH o7 t7;obtain⟨z0,z1⟩:=af.N1 o8;have b4:=p2.cell b3 (by rw[j2 _ (Nat.lt_of_lt_of_le (nt _ _ tz.1) m2.size),m2.tg _ (nt _ _ tz.1)];exact tb2);have a0:=(p1.cells 0 _ rfl).1;rw[p3.sp,p3.hp,m3.sp,m3.hp] at a0;have m6:OM S S6:=ie.trans m4 p4.still;have R6:=mR.out.rel p4 LD.out;replace R6:=hid R6;clear p4 mR LD ev0;have K6:aC w4 gI w6 gj:=M2.trans ((aC.calm τj k5).trans p2);have X6:=m3.trans p3;clear mK o7 s0 s1 Jw r0 r1 b2 b3 hco
    by_cases ye:x.dm=0
    ·have ev:(x.dm==0)=true:=by simp[ye]
     go_wp2_with fail
     refine wp_region_noPanic ?_;refine aO 6 6 (λw'=>Calm w6 w') (by kernel_rfl) (by kernel_rfl) (ah.drew) ?_;refine ae (pV S.sp) rfl (λw' hw'=>?_) ak ?_
     ·have e1:=hw'.cellAt b4 id;simp[go_sem,e1]
     refine ae (pV S.sp) rfl (λw' hw'=>?_) ak ?_
     ·simp[go_sem]
     refine ae (bw S.sp) rfl (λw' hw'=>?_) ak ?_
     ·simp[go_sem]
     refine ae (pV S.D.B.hp) rfl (λw' hw'=>?_) ak ?_
     ·have e1:=hw'.cellAt a0 id;simp[go_sem,e1]
     refine ae (bw wr.heap.size) rfl (λw' hw'=>?_) ak ?_
     ·simp[go_sem]
     refine ae (vI x.at_) rfl (λw' hw'=>?_) ak ?_
     ·have e1:=hw'.cellAt z0 id;simp[go_sem,e1]
     simp only[bG,Nat.sub_self,bV];have kw:Calm w6 w6.drew:=ah.drew;have o9:=jF (p1.calm kw) xa true;rw[p3.hp,m3.hp] at o9;go_wp2_with fail
     refine o9.mono ?_;rintro e w7 ⟨y,rfl,_,n7⟩
     have h7:Hid (∃iF Si,St w7 iF s q Si/\aC w4 gI w7 iF/\Fix S Si/\OM S Si/\Rest Si t (hs.drop (i+1))):=by
      obtain⟨vZ,S7,c1,c2,c3,c4⟩:=n7.lA kw;exact⟨vZ,S7,c1,K6.trans c2,X6.trans c3,m6.trans c4.1,R6.out.still c4⟩
     clear n7 o9 kw z0 z1 b4 a0 K6 M2 m2 m1 hw p1 p2 o8;go_wp2_with fail
     refine NoPanic.normal ?_;go_wp2;exact⟨⟨i+1,by omega,rfl,h7⟩,by simp[intOf];omega⟩
    ·have ev:(x.dm==0)=false:=by simpa using ye
     have h7:Hid (∃iF Si,St w6 iF s q Si/\aC w4 gI w6 iF/\Fix S Si/\OM S Si/\Rest Si t (hs.drop (i+1))):=⟨gj,S6,p1,K6,X6,m6,R6.out⟩;clear K6 M2 m2 m1 hw p1 p2 o8;go_wp2;exact⟨⟨i+1,by omega,rfl,h7⟩,by simp[intOf];omega⟩
   ·obtain rfl:i=m:=by omega
    rw[List.drop_eq_nil_of_le (by omega)] at mR;have hK:=hid mR.done;clear mR;go_wp2_with fail
    refine wpIn_wide.2 ?_;have b2:=(m2.own tz tb2).1;have Cn:t<Si.aW.length:=by rw[m4.2.1];exact ht
    have Hq:Si.tx t=S.tx t:=by unfold aE.tx;rw[m4.2.1]
    have Sy:=m1.lW Cn;have uB:=m1.cells;rw[Hq,P_] at Sy;rw[m3.sp] at uB;have c6:wr.cell? ⟨S.sp,6,none⟩=some (vI Si.aK):=(uB 6 _ rfl).1;have x0:wr.cell? ⟨xp,0,none⟩=some (vI t):=(Sy 0 _ rfl).1;go_wp2_with fail
    go_quiet (fail)
    have hsh:Si.aK=S.aK:=m4.2.2.1
    by_cases UU:Si.aK=(t:Int)
    ·have eh:(Si.aK==(t:Int))=true:=by simp[UU]
     have rq:=m1.QB;have rt:=m1.tok Cn;rw[Hq] at rt;obtain⟨qa,qc,eq⟩:=aF rq;obtain⟨ta,tc,et⟩:=aF rt;rw[eq] at rq;rw[et] at rt;have c4:wr.cell? ⟨S.sp,4,none⟩=some (.slice qa Si.qu.length qc):=by rw[<-eq];exact(uB 4 _ rfl).1
     have x5:wr.cell? ⟨xp,5,none⟩=some (.slice ta (S.tx t).took.length tc):=by rw[<-et];exact(Sy 5 _ rfl).1
     have VC:=m1.ok.tt
     have yd:(S.tx t).took.length+Si.qu.length<=q:=by
      have h1:=Ai (λx:gl=>x.took.length) dT dT Si.aW t Cn;have h2:(Si.aW.getD t dT).took.length=(S.tx t).took.length:=by rw[<-Hq];rfl
      have h3:Si.qu.length+(Si.aW.map λx=>x.took.length).sum<=q:=VC;have h4:dT.took.length=0:=rfl;omega
     have Zm:=hid (λ(W:ag) (cw:Calm wr W) (hs:W.heap.size=wr.heap.size)=>Hj (w:=W.alloc (.cells #[.slice ta (S.tx t).took.length tc,.slice qa Si.qu.length qc] 79)) (B:=wr.heap.size) (by rw[<-hs];exact af.new W [_,_] _) (aw rt (cw.alloc _) (λ_ _=>id)) (aw rq (cw.alloc _) (λ_ _=>id)) (by have:=P3;omega));clear Sy;go_wp2_with fail
     refine wp_region_noPanic ?_;refine aO 9 11 (λw'=>Calm wr w') (by kernel_rfl) (by kernel_rfl) ((ah.drewN _).drew) ?_;refine ae (pV S.sp) rfl (λw' hw'=>?_) ak ?_
     ·have e1:=hw'.cellAt b2 id;simp[go_sem,e1]
     refine ae (pV xp) rfl (λw' hw'=>?_) ak ?_
     ·simp[go_sem]
     refine ae (pV xp) rfl (λw' hw'=>?_) ak ?_
     ·simp[go_sem]
     refine ae (.pointer (some ⟨xp,5,none⟩)) rfl (λw' hw'=>?_) ak ?_
     ·simp[go_sem]
     refine ae (.slice ta (S.tx t).took.length tc) rfl (λw' hw'=>?_) ak ?_
     ·have e1:=hw'.cellAt x5 id;simp[go_sem,e1]
     refine ae (pV S.sp) rfl (λw' hw'=>?_) ak ?_
     ·have e1:=hw'.cellAt b2 id;simp[go_sem,e1]
     refine ae (pV S.sp) rfl (λw' hw'=>?_) ak ?_
     ·simp[go_sem]
     refine ae (.pointer (some ⟨S.sp,4,none⟩)) rfl (λw' hw'=>?_) ak ?_
     ·simp[go_sem]
     refine ae (.slice qa Si.qu.length qc) rfl (λw' hw'=>?_) ak ?_
     ·have e1:=hw'.cellAt c4 id;simp[go_sem,e1]
     simp only[bG];refine aQ rfl ?_;unfold Oper.wp;go_simp;refine⟨((ah.drewN _).drew).alloc _,?_⟩;refine aQ rfl ?_;go_wp2_with fail
     refine(Zm.out _ ((ah.drewN _).drew) rfl).mono ?_;rintro e w5 ⟨v,rfl,i1,i2,i3⟩;obtain⟨On,Oo,rfl⟩:=aF i1;have cc:Calm wr w5:=(((ah.drewN _).drew).alloc _).trans i3;refine⟨cc,?_⟩;simp only[bV];have n0:Own w5 JW 0 (pV S.sp):=(m2.own tz tb2).calm cc;have n4:af w5 S.sp (aE.cs Si):=uB.calm cc;have y0:=n0.1;have y4:=(n4 4 _ rfl).1;have f4:=(n4 4 _ rfl).2;have y6:=(n4 6 _ rfl).1;have f6:=(n4 6 _ rfl).2;clear b2 c4 x5 Zm;go_wp2_with fail
     refine NoPanic.normal ?_;have f4':Fr (λb=>b=S.sp) w5 (w5.setCell ⟨S.sp,4,none⟩ (.slice On ((S.tx t).took.length+Si.qu.length) Oo)):=(Fr.refl (λb=>b=S.sp) w5).setCell (p:=⟨S.sp,4,none⟩) (.inl rfl) _;have g4:=n4.set 4 (.slice On ((S.tx t).took.length+Si.qu.length) Oo) (by simp[aE.cs])
     have ZM:JW≠S.sp:=by
      intro e;have:=(hf.cells).lt (by simp[aE.cs]);omega
     have z0:=f4'.cellAt y0 ZM;generalize sO:w5.setCell ⟨S.sp,4,none⟩ (.slice On ((S.tx t).took.length+Si.qu.length) Oo)=W6 at *;have z6:=(g4 6 _ rfl).1;have zf:=(g4 6 _ rfl).2;have f6':Fr (λb=>b=S.sp) W6 (W6.setCell ⟨S.sp,6,none⟩ (vI (-1))):=(Fr.refl (λb=>b=S.sp) W6).setCell (p:=⟨S.sp,6,none⟩) (.inl rfl) _;have g6:=g4.set 6 (vI (-1)) (by simp[aE.cs]);have s6:=f6'.cellAt z0 ZM;obtain⟨W7,Up⟩:=ao (W6.setCell ⟨S.sp,6,none⟩ (vI (-1)));rw[Up] at f6' g6 s6;have f7:Fr (λb=>b=S.sp) w5 W7:=f4'.trans f6';have hnq:∀b,ay (.slice On ((S.tx t).took++Si.qu).length Oo) b->wr.heap.size<=b:=λb hb=>by have:=i2 b hb;simp at this;omega
     have ac2:S.sp<wr.heap.size:=uB.lt (by simp[aE.cs]);have TL:((S.tx t).took++Si.qu).length=(S.tx t).took.length+Si.qu.length:=by simp
     obtain⟨dW,q1,q2⟩:=gR.cD (q':=q+q) m1 ⟨.slice On ((S.tx t).took++Si.qu).length Oo,(S.tx t).took++Si.qu,Si.next,-1,Si.dm⟩
      (by rw[m3.sp];exact(Calm.any cc).trans (f7.mono (λb _ e=>.inl e))) (by rw[m3.sp,TL];exact g6) (aw i1 f7 (λb hb e=>by have:=hnq b hb;omega)) (λb hb=>.inr (hnq b hb))
      (λx hx=>by
       rcases cJ.1 hx with hx|hx
       ·exact gg.k x hx
       ·exact m1.ok.qu x hx)
      (by
       show((S.tx t).took++Si.qu).length+(Si.aW.map λx=>x.took.length).sum<=q+q;have h3:Si.qu.length+(Si.aW.map λx=>x.took.length).sum<=q:=VC
       rw[TL];omega)
      (by show Si.next<=q+q;have:=m1.ok.nx;omega) (by show bX (-1);decide) m1.ok.ve (by omega) (m1.ok.iv.cD _ m1.ok.iv.ve (.inl rfl))
     have VB:t<(Si.cD ⟨.slice On ((S.tx t).took++Si.qu).length Oo,(S.tx t).took++Si.qu,Si.next,-1,Si.dm⟩).aW.length:=Cn;have e9:(Si.cD ⟨.slice On ((S.tx t).took++Si.qu).length Oo,(S.tx t).took++Si.qu,Si.next,-1,Si.dm⟩).tx t=S.tx t:=Hq;have oe:=oU q1 VB hK.out (by rw[e9];exact N_) (by show(-1:Int)≠(t:Int);omega);rw[e9,P_,show(Si.cD ⟨.slice On ((S.tx t).took++Si.qu).length Oo,(S.tx t).took++Si.qu,Si.next,-1,Si.dm⟩).sp=S.sp from m3.sp] at oe;clear y4 f4 y6 f6 n4 n0 y0 i1 i2 i3 cc f4' g4 f6' g6 sO f7;go_wp2_with fail
     refine oe.mono ?_;rintro e w8 ⟨rfl,yR,S8,p1,p2,p3,p4⟩
     have R9:Nx wr iF s q Si w8 (AbR t Si):=by
      refine⟨yR,S8,p1.shrink ?_ ?_ ?_ ?_,q2.trans p2,(Fix.cD Si _).trans p3,?_⟩
      ·have h1:=aE.kN (S:=Si.cD ⟨.slice On ((S.tx t).took++Si.qu).length Oo,(S.tx t).took++Si.qu,Si.next,-1,Si.dm⟩) (x':=(S.tx t).ended) VB;rw[p4];have h2:(Si.cD ⟨.slice On ((S.tx t).took++Si.qu).length Oo,(S.tx t).took++Si.qu,Si.next,-1,Si.dm⟩).tM=((S.tx t).took.length+Si.qu.length)+(Si.aW.map λx=>x.took.length).sum:=by unfold aE.tM aE.cD;rw[TL]
       have h3:Si.qu.length+(Si.aW.map λx=>x.took.length).sum<=q:=VC;have h4:(S.tx t).ended.took.length=0:=rfl;rw[e9] at h1;omega
      ·rw[p4];exact m1.ok.nx
      ·rw[p4];exact m1.ok.lo
      ·rw[p4];exact m1.ok.ca
      ·rw[p4];exact⟨Still.refl _ _,ll.aU rfl rfl VB rfl⟩
     clear p1 p2 p3 p4 q1 q2 oe
     have hd8:w8.heap[bc+1]?=some (.deferred (some [])):=by
      obtain⟨yR,S8,p1,p2,p3,p4⟩:=R9;have U4:bc+1<w4.heap.size:=(sY.1 WS).1;have h1:=m2.fr.gT WS (show ¬gI (bc+1)<500 by omega);exact p2.fr.gT h1 (by show ¬iF (bc+1)<500;rw[m2.tg _ U4];omega)
     clear h;go_wp2;refine⟨by simp,.inl ⟨_,_,rfl,run_takeDeferred hd8,?_⟩⟩;refine⟨.tuple #[],by simp[results,Tryz.f150,go_sem],rfl,?_⟩;obtain⟨yR,S8,p1,p2,p3,p4⟩:=R9;have Zy:Fr (λb=>b=bc+1) w8 (w8.putObj (bc+1) (.deferred none)):=(Fr.refl (λb=>b=bc+1) w8).putObj (.inl rfl) _;have U4:bc+1<w4.heap.size:=(sY.1 WS).1;have tD8:yR (bc+1)=gI (bc+1):=by rw[p2.tg _ (by have:=m2.size;omega),m2.tg _ U4]
     have K9:aC w τ0 w8 yR:=((aC.calm τ0 kk).trans k4).trans (m2.trans p2);refine⟨yR,S8,p1.gL Zy (λb hb=>by rw[hb,tD8];exact tD),aC.dE ⟨K9.fr.join Zy (λj hj e=>by have:=kk.size;omega),K9.tg⟩ tk,m3.trans p3,?_⟩;exact⟨m4.1.trans p4.1,p4.2.of m4.rn⟩
    ·have eh:(Si.aK==(t:Int))=false:=by simpa using UU
     have oe:=oU (m1.calm (ah.drewN nq)) Cn hK.out (by rw[Hq];exact N_) UU;rw[Hq,P_,m3.sp] at oe;have b3:(wr.drewN nq).cell? ⟨JW,0,none⟩=some (pV S.sp):=b2;go_wp2_with fail
     refine oe.mono ?_;rintro e w8 ⟨rfl,n8⟩;have R9:Nx wr iF s q Si w8 (AbR t Si):=(n8.lA (ah.drewN nq)).mono (aD _) (aD _) (λS' e=>by rw[e];exact⟨Still.refl _ _,ll.aU rfl rfl Cn rfl⟩);clear n8 oe b3
     have hd8:w8.heap[bc+1]?=some (.deferred (some [])):=by
      obtain⟨yR,S8,p1,p2,p3,p4⟩:=R9;have U4:bc+1<w4.heap.size:=(sY.1 WS).1;have h1:=m2.fr.gT WS (show ¬gI (bc+1)<500 by omega);exact p2.fr.gT h1 (by show ¬iF (bc+1)<500;rw[m2.tg _ U4];omega)
     clear h;go_wp2;refine⟨by simp,.inl ⟨_,_,rfl,run_takeDeferred hd8,?_⟩⟩;refine⟨.tuple #[],by simp[results,Tryz.f150,go_sem],rfl,?_⟩;obtain⟨yR,S8,p1,p2,p3,p4⟩:=R9;have Zy:Fr (λb=>b=bc+1) w8 (w8.putObj (bc+1) (.deferred none)):=(Fr.refl (λb=>b=bc+1) w8).putObj (.inl rfl) _;have U4:bc+1<w4.heap.size:=(sY.1 WS).1;have tD8:yR (bc+1)=gI (bc+1):=by rw[p2.tg _ (by have:=m2.size;omega),m2.tg _ U4]
     have K9:aC w τ0 w8 yR:=((aC.calm τ0 kk).trans k4).trans (m2.trans p2);refine⟨yR,S8,p1.gL Zy (λb hb=>by rw[hb,tD8];exact tD),aC.dE ⟨K9.fr.join Zy (λj hj e=>by have:=kk.size;omega),K9.tg⟩ tk,m3.trans p3,?_⟩;exact⟨m4.1.trans p4.1,p4.2.of m4.rn⟩
 case stop=>
  rintro c W h;exact h.elim
end
section
section
variable {P:Program}{ops:Array Oper}{Q:Exit->Act->ag->Prop}{md:Region.Mode}{S:ag->Prop}
def xF(md:Region.Mode)(ops:Array Oper)(n:Nat):Prop:=∀done,HeadInv md ops n done->∀i,i<n->done.getD i true=false->∀t,n<=t->t∉Region.ready md ops done
def Bs(md:Region.Mode)(ops:Array Oper)(n:Nat):Bool:=
 decide (n<=ops.size) && ((List.range (n-1)).all λi=>(List.range n).any λj=>decide (i<j) && Region.waitsFor md ops j i) && ((List.range ops.size).all λt=>decide (t<n) || Region.waitsFor md ops t (n-1))
theorem D4{n:Nat}(h:Bs md ops n=true):xF md ops n:=by
 simp only[Bs,Bool.and_eq_true,decide_eq_true_eq] at h;obtain⟨⟨hn,hs⟩,hc⟩:=h;intro done inv
 suffices hh:∀ (d i:Nat),n-i=d->i<n->done.getD i true=false->∀t,n<=t->t∉Region.ready md ops done from λi hi oH=>hh _ i rfl hi oH
 intro d
 induction d using Nat.strongRecOn with
 | _ d ih=>
   intro i hd hi oH t ht hr;obtain⟨_,ot,hot,Ee⟩:=mem_ready.1 hr;have ab9:t<ops.size:=(Array.getElem?_eq_some_iff.1 hot).1
   by_cases gi:i=n-1
   ·have h1:=List.all_eq_true.1 hc t (List.mem_range.2 ab9);simp only[Bool.or_eq_true,decide_eq_true_eq] at h1;rcases h1 with h1|h1
    ·omega
    ·obtain⟨o',H9,e,he,hb,hon⟩:=Region.waitsFor_spec h1;have:o'=ot:=Option.some.inj (H9.symm.trans hot);subst this;have h2:=Ee e he hb;rw[hon,<-gi,getD_both oH] at h2;cases h2
   ·have h1:=List.all_eq_true.1 hs i (List.mem_range.2 (by omega));obtain⟨j,hj,pK⟩:=List.any_eq_true.1 h1;simp only[Bool.and_eq_true,decide_eq_true_eq] at pK;obtain⟨oj,H_,e,he,hb,hon⟩:=Region.waitsFor_spec pK.2;have qh:=List.mem_range.1 hj
    cases hl:done.getD j false with
    | true=>
      have h2:=inv.closed j oj H_ hl e he hb;rw[hon,getD_both oH] at h2;cases h2
    | false=>
      have PS:j<done.size:=by rw[inv.size];omega
      exact ih (n-j) (by omega) j rfl qh (getD_in PS hl) t ht hr
theorem pz:xF md ops ops.size:=by
 intro done inv i hi oH t ht hr;obtain⟨_,ot,hot,_⟩:=mem_ready.1 hr;have:=(Array.getElem?_eq_some_iff.1 hot).1;omega
theorem pj{n i:Nat}{oi:Oper}{v:aA}{L:Array Bool->Act->ag->Prop}(hi:ops[i]?=some oi)(f_:∀ (j:Nat) (o:Oper) cs b,ops[j]?=some o->o.op≠.select cs b)
 (tw:xF md ops n) (gi:i<n) (hQ:∀c a w,Q (.panic c) (a.put oi.dst v) w->Q (.panic c) a w)
 (jy:∀done a w,L done a w->∀j∈Region.ready md ops done,n<=j) :
 ∀ (f:Nat) (done:Array Bool) (a:Act) (w:ag),HeadInv md ops n done ->
   (∀j oj,ops[j]?=some oj->j≠i->done.getD j true=false->(∀e∈oj.after,Region.binds md e=true->e.on≠i)->oi.apart ops oj=true) ->
   i∈Region.ready md ops done->YieldsIf P ops S oi v a->S w ->
   fu P md ops Q S n L f (done.setIfInBounds i true) (a.put oi.dst v) w->fu P md ops Q S n L (f+1) done a w:=by
 intro f
 induction f with
 | zero=>
   intro done a w inv _ hr hy hS H;have oH:=(mem_ready.1 hr).1;refine⟨λh=>(by rw[h] at hr;cases hr),λj hj=>?_⟩
   have qh:j<n:=by
    rcases Nat.lt_or_ge j n with h|h
    ·exact h
    ·exact absurd hj (tw done inv i gi oH j h)
   refine⟨qh,?_⟩
   by_cases rT:j=i
   ·subst rT;exact hy.wpOp hi hS ⟨hS,H⟩
   ·have:=jy _ _ _ H j (ready_mono hj rT);omega
 | succ f ih=>
   intro done a w inv rS hr hy hS H;have oH:=(mem_ready.1 hr).1;refine⟨λh=>(by rw[h] at hr;cases hr),λj hj=>?_⟩
   have qh:j<n:=by
    rcases Nat.lt_or_ge j n with h|h
    ·exact h
    ·exact absurd hj (tw done inv i gi oH j h)
   refine⟨qh,?_⟩
   by_cases rT:j=i
   ·subst rT;exact hy.wpOp hi hS ⟨hS,H⟩
   ·have h1:=(H.2 j (ready_mono hj rT)).2;obtain⟨BU,oj,H_,Ee⟩:=mem_ready.1 hj
    have Lg:∀e∈oj.after,Region.binds md e=true->e.on≠i:=λe he hb heq=>by
     have h1:=Ee e he hb;rw[heq,getD_both oH] at h1;cases h1
    have h2:=wpOp_putIf H_ (rS j oj H_ rT BU Lg) (λcs b=>f_ i oi cs b hi) (λcs b=>f_ j oj cs b H_) hQ hy h1
    have uG:∀k ok,ops[k]?=some ok->k≠i->(done.setIfInBounds j true).getD k true=false ->
     (∀e∈ok.after,Region.binds md e=true->e.on≠i)->oi.apart ops ok=true:=λk ok hk ZI oH rm=>by
     refine rS k ok hk ZI ?_ rm
     by_cases RY:j=k
     ·subst RY;exact BU
     ·rw[Go.getD_set_ne true RY] at oH;exact oH
    refine wpOp_mono (λa' w' h3=>⟨h3.2.1,ih (done.setIfInBounds j true) a' w' (inv.set hj qh) uG (ready_mono hr (Ne.symm rT)) h3.1 h3.2.1 ?_⟩) h2;rw[Array.setIfInBounds_comm _ _ rT];exact h3.2.2
def bJ(P:Program)(ops:Array Oper)(Q:Exit->Act->ag->Prop)(S:ag->Prop)(R:Act->ag->Prop):List Nat->Act->ag->Prop
 | [],a,w=>R a w
 | j::js,a,w=>∃o,ops[j]?=some o/\Region.wanted o (yielded ops a.tmps)=true/\o.wp P a w (λa' w'=>S w'/\bJ P ops Q S R js a' w') Q
def bq(P:Program)(ops:Array Oper)(Q:Exit->Act->ag->Prop)(S:ag->Prop)(R:Act->ag->Prop):List Nat->Act->ag->Prop
 | [],a,w=>R a w
 | i::ix,a,w=>∃o v,ops[i]?=some o/\YieldsIf P ops S o v a/\(∀c a w,Q (.panic c) (a.put o.dst v) w->Q (.panic c) a w)/\bq P ops Q S R ix (a.put o.dst v) w
def sy(ix:List Nat)(done:Array Bool):Array Bool:=ix.foldl (λd i=>d.setIfInBounds i true) done
def C_(md:Region.Mode)(ops:Array Oper)(n:Nat):List Nat->Array Bool->Bool
 | j::js,done=>decide (Region.ready md ops done=[j]) && decide (j<n) && C_ md ops n js (done.setIfInBounds j true)
 | [],done=>(Region.ready md ops done).all λj=>decide (n<=j)
def sq(md:Region.Mode)(ops:Array Oper)(n:Nat)(js:List Nat):List Nat->Array Bool->Bool
 | i::ix,done=>(Region.ready md ops done).contains i && Region.free md ops done i && decide (i<n) && sq md ops n js ix (done.setIfInBounds i true)
 | [],done=>C_ md ops n js done
def Left(md:Region.Mode)(ops:Array Oper)(n:Nat)(R:Act->ag->Prop)(d0 done:Array Bool)(a:Act)(w:ag):Prop:=done=d0/\((Region.ready md ops done).all λj=>decide (n<=j))=true/\R a w
theorem Left.done{n:Nat}{R:Act->ag->Prop}{d0 done:Array Bool}{a:Act}{w:ag}(h:Left md ops n R d0 done a w):∀j∈Region.ready md ops done,n<=j:=λj hj=>by
 have:=List.all_eq_true.1 h.2.1 j hj;simpa using this
theorem CR{R:Act->ag->Prop}{n:Nat} : ∀ (js:List Nat) (done:Array Bool) (a:Act) (w:ag),C_ md ops n js done=true ->
 bJ P ops Q S R js a w->fu P md ops Q S n (Left md ops n R (sy js done)) js.length done a w
 | [],done,a,w,hB,h=>⟨rfl,by simpa[C_] using hB,h⟩
 | j::js,done,a,w,hB,h=>by
   simp only[C_,Bool.and_eq_true,decide_eq_true_eq] at hB;obtain⟨⟨hr,hj⟩,D8⟩:=hB;obtain⟨o,ho,hw,h⟩:=h;refine⟨λh1=>(by rw[hr] at h1;cases h1),λi hi=>?_⟩;rw[hr] at hi;have RX:i=j:=by simpa using hi
   subst RX;refine⟨hj,?_⟩;unfold wpOp;simp only[ho,hw,if_true];exact .inl (Oper.wp_mono (λa' w' h'=>⟨h'.1,CR js _ a' w' D8 h'.2⟩) h)
theorem rG{R:Act->ag->Prop}{n:Nat}(f_:Region.noSelect ops=true)(tw:xF md ops n)(js:List Nat) :
 ∀ (ix:List Nat) (done:Array Bool) (a:Act) (w:ag),HeadInv md ops n done->sq md ops n js ix done=true->S w ->
 bq P ops Q S (λa w=>bJ P ops Q S R js a w) ix a w->fu P md ops Q S n (Left md ops n R (sy js (sy ix done))) (ix.length+js.length) done a w
 | [],done,a,w,_,hB,_,h=>by
   have:=CR (P:=P) (Q:=Q) (S:=S) (R:=R) js done a w (by simpa[sq] using hB) h;simpa[sy] using this
 | i::ix,done,a,w,inv,hB,hS,h=>by
   obtain⟨o,v,ho,hy,hQ,h⟩:=h;simp only[sq,Bool.and_eq_true,decide_eq_true_eq] at hB;obtain⟨⟨⟨hr,hf⟩,gi⟩,D8⟩:=hB;have AE:i∈Region.ready md ops done:=by simpa using hr
   rw[show(i::ix).length+js.length=(ix.length+js.length)+1 by simp;omega];refine pj ho (Region.noSelect_spec f_) tw gi hQ (λxN a' w' hL=>hL.done) _ done a w inv (Region.free_spec ho hf) AE hy hS ?_;exact rG f_ tw js ix _ _ w (inv.set AE gi) D8 hS h
theorem Dl{a:Act}{w:ag}(ix js:List Nat)(n:Nat)(S:ag->Prop)(hB:(Region.noSelect ops && decide (ix.length+js.length=n) && Bs md ops n && sq md ops n js ix (Array.replicate ops.size false))=true)(hS:S w)
 (h:bq P ops Q S (λa w=>bJ P ops Q S (λa' w'=>wpAny P md ops Q (ops.size-n) (sy js (sy ix (Array.replicate ops.size false))) a' w') js a w) ix a w) :
 wpAny P md ops Q ops.size (Array.replicate ops.size false) a w:=by
 simp only[Bool.and_eq_true,decide_eq_true_eq] at hB;obtain⟨⟨⟨f_,hlen⟩,hg⟩,hp⟩:=hB;have hn:n<=ops.size:=by simp only[Bs,Bool.and_eq_true,decide_eq_true_eq] at hg;exact hg.1.1
 have uR:HeadInv md ops n (Array.replicate ops.size false):=
  ⟨by simp,λj oj _ hl=>(by rw[getD_replicate_false] at hl;cases hl),λt _ ht=>getD_in (by simpa using ht) (getD_replicate_false _ _)⟩
 have H:=rG (P:=P) (Q:=Q) (S:=S) f_ (D4 hg) js ix _ a w uR hp hS h;rw[hlen] at H;have:=dY (Q:=Q) (g:=ops.size-n) (λdone a' w' hL=>by obtain⟨e,_,h⟩:=hL;rw[e];exact h) _ _ _ _ H
 rwa [show n+(ops.size-n)=ops.size by omega] at this
def zd(md:Region.Mode)(ops:Array Oper)(done:Array Bool):Bool:=
 decide (done.size=ops.size) && (List.range ops.size).all λj=>!done.getD j false || (match ops[j]? with|some o=>o.after.all λe=>!Region.binds md e || done.getD e.on false|none=>true)
theorem df{a:Act}{w:ag}{d0:Array Bool}{f:Nat}(ix js:List Nat)(S:ag->Prop)(hB:(Region.noSelect ops && decide (ix.length+js.length=f) && zd md ops d0 && sq md ops ops.size js ix d0)=true)(hS:S w)
 (h:bq P ops Q S (λa w=>bJ P ops Q S (λa' w'=>Q .normal a' w') js a w) ix a w):wpAny P md ops Q f d0 a w:=by
 simp only[Bool.and_eq_true,decide_eq_true_eq] at hB;obtain⟨⟨⟨f_,hlen⟩,hc⟩,hp⟩:=hB;simp only[zd,Bool.and_eq_true,decide_eq_true_eq] at hc
 have uR:HeadInv md ops ops.size d0:=by
  refine⟨hc.1,λj oj hj hl e he hb=>?_,λt h1 h2=>by omega⟩;have h1:=List.all_eq_true.1 hc.2 j (List.mem_range.2 (Array.getElem?_eq_some_iff.1 hj).1);simp only[hl,Bool.not_true,Bool.false_or,hj] at h1;have h2:=Array.all_eq_true_iff_forall_mem.1 h1 e he;simpa[hb] using h2
 have H:=rG (P:=P) (Q:=Q) (S:=S) (R:=λa' w'=>Q .normal a' w') f_ pz js ix d0 a w uR hp hS h;rw[hlen] at H
 exact dY (Q:=Q) (g:=0) (λdone a' w' hL=>by
  obtain⟨_,h1,h⟩:=hL;refine⟨List.eq_nil_iff_forall_not_mem.2 λi hi=>?_,h⟩;have h2:=List.all_eq_true.1 h1 i hi;obtain⟨o,ho,_⟩:=(mem_ready.1 hi).2;have:=(Array.getElem?_eq_some_iff.1 ho).1
  simp at h2;omega) f d0 a w H
end
theorem dF{P:Program}{id:Nat}{Q:Exit->Act->ag->Prop}{a:Act}{w:ag}{l:List Oper}(ix js:List Nat)(n:Nat)(S:ag->Prop)(hm:P.follows .mixedOrders=true)
 (hB:(Region.noSelect l.toArray && decide (ix.length+js.length=n) && Bs .any l.toArray n && sq .any l.toArray n js ix (Array.replicate l.toArray.size false))=true) (hS:S w.drew)
 (h:bq P l.toArray Q S (λa w=>bJ P l.toArray Q S (λa' w'=>wpAny P .any l.toArray Q (l.toArray.size-n) (sy js (sy ix (Array.replicate l.toArray.size false))) a' w') js a w) ix a w.drew):(Code.region id l.toArray true).wp P Q a w:=
 wp_region_any hm (Dl ix js n S hB hS h)
theorem ai{P:Program}{ops:Array Oper}{Q:Exit->Act->ag->Prop}{S:ag->Prop}{R:Act->ag->Prop}{i:Nat}{ix:List Nat}{a:Act}{w:ag}{o:Oper}(v:aA)(ho:ops[i]?=some o)(hw:Region.wanted o (yielded ops a.tmps)=true)(hy:∀w,S w->(execOp a.eval o).run P w=.ok (.value v) w)(hQ:∀c a w,Q (.panic c) (a.put o.dst v) w->Q (.panic c) a w)
 (h:bq P ops Q S R ix (a.put o.dst v) w):bq P ops Q S R (i::ix) a w:=⟨o,v,ho,.inl ⟨hw,hy⟩,hQ,h⟩
theorem aT{P:Program}{ops:Array Oper}{Q:Exit->Act->ag->Prop}{S:ag->Prop}{R:Act->ag->Prop}{i:Nat}{ix:List Nat}{a:Act}{w:ag}{o:Oper}(ho:ops[i]?=some o)(hw:Region.wanted o (yielded ops a.tmps)=false)(hQ:∀c a w,Q (.panic c) (a.put o.dst undef) w->Q (.panic c) a w)
 (h:bq P ops Q S R ix (a.put o.dst undef) w):bq P ops Q S R (i::ix) a w:=⟨o,undef,ho,.inr ⟨hw,rfl⟩,hQ,h⟩
theorem aq{P:Program}{ops:Array Oper}{Q:Exit->Act->ag->Prop}{S:ag->Prop}{R:Act->ag->Prop}{j:Nat}{js:List Nat}{a:Act}{w:ag}{o:Oper}(ho:ops[j]?=some o)(hw:Region.wanted o (yielded ops a.tmps)=true)(h:o.wp P a w (λa' w'=>S w'/\bJ P ops Q S R js a' w') Q):bJ P ops Q S R (j::js) a w:=⟨o,ho,hw,h⟩
end
section
variable {w:ag}{τ:Nat->Nat}{s q:Nat}{S:aE}
def Fatal(x:Int):Prop:=x=141\/x=130\/x=100
def DG(w:ag)(τ:Nat->Nat)(s q:Nat)(S:aE)(t b6:Nat)(x:Int)(e:Ending)(w':ag):Prop:=
 e=.returned (.tuple #[])/\∃w1,Nx w τ s q S w1 (λS'=>(¬Fatal x->S'=S)/\Still (λ_=>True) S.D.A S'.D.A/\(Fatal x->ll t S S'))/\((x=0/\w'=w1)\/(x≠0/\w'=w1.setCell ⟨b6,0,none⟩ (vI 0)))
theorem Bm(h:St w τ s q S)(hq:q<=100000){t:Nat}(ht:t<S.aW.length){e7 b3 b8 b6:Nat}{v x:Int}(h7:Own w e7 0 (vI x))(h3:Own w b3 0 (pV S.sp))(h8:Own w b8 0 (pV (S.tx t).xp))(h6:Own w b6 0 (vI v))
 (t7:500<=τ e7) (t6:500<=τ b6) (hl:Fatal x->(S.tx t).live=true) (u:FrameMode) :
 CallsD prog 175 #[bw e7,bw b3,bw b8,bw b6] u w λe u' w'=>u'=u/\DG w τ s q S t b6 x e w':=by
 have c7:=h7.1;have c3:=h3.1;have c8:=h8.1;have c6:=h6.1;have f6:=h6.2
 by_cases h0:x=0
 ·subst h0;have hP:DG w τ s q S t b6 0 (.returned (.tuple #[])) w:=⟨rfl,w,Nx.calm h ah ⟨λ_=>rfl,Still.refl _ _,λe=>absurd e (by unfold Fatal;omega)⟩,.inl ⟨rfl,rfl⟩⟩;replace hP:=hid hP
  go_enter_d func175,ntmps175
  go_wp2
  go_end0
  exact hP.out
 ·have e0:(x==0)=false:=by simpa using h0
  have en:(x != 0)=true:=by simp[bne,e0]
  by_cases hx:x=141\/x=130\/x=100
  ·have uz:=hid (Ba h hq ht (hl hx));clear hl;rcases hx with rfl|rfl|rfl
   all_goals
    clear h0
    go_enter_d func175,ntmps175
    go_wp2_with fail
    refine uz.out.mono ?_;rintro e w1 ⟨rfl,n1⟩;have n2:=hid n1;obtain⟨gI,S1,k1,k2,k3,k4⟩:=n1;have o7:=k2.own h7 t7;have o6:=k2.own h6 t6;have d7:=o7.1;have d6:=o6.1;have g6:=o6.2;clear uz;go_wp2
    go_end0
    refine⟨rfl,w1,n2.out.mono (aD _) (aD _) ?_,.inr ⟨by decide,rfl⟩⟩;intro S' hS;exact⟨λh9=>absurd (show Fatal _ by unfold Fatal;omega) h9,hS.1,λ_=>hS.2⟩
  ·have e1:(x==141)=false:=by simp;omega
   have e2:(x==130)=false:=by simp;omega
   have e3:(x==100)=false:=by simp;omega
   have hP:DG w τ s q S t b6 x (.returned (.tuple #[])) (w.setCell ⟨b6,0,none⟩ (vI 0)):=⟨rfl,w,Nx.calm h ah ⟨λ_=>rfl,Still.refl _ _,λe=>absurd e hx⟩,.inr ⟨h0,rfl⟩⟩;replace hP:=hid hP
   go_enter_d func175,ntmps175
   go_wp2
   go_end0
   exact hP.out
def WR(S:aE)(t:Int)(R:Int->Int->aE->Prop)(v x:Int)(S':aE):Prop:=R v x S'/\Rn S S'/\x≠140/\(x=141->∀k:Nat,t=k->¬Lone S k)
theorem WR.of{t:Int}{R:Int->Int->aE->Prop}{v x:Int}{S':aE}(h:R v x S')(rn:Rn S S')(hx:x≠140/\x≠141):WR S t R v x S':=⟨h,rn,hx.1,λe=>absurd e hx.2⟩
theorem WR.ec{t:Nat}{R:Int->Int->aE->Prop}{v x:Int}{S':aE}(h:R v x S')(rn:Rn S S')(hx:Ec S t x):WR S t R v x S':=⟨h,rn,hx.2.1,λe k ek=>by rw[show k=t by omega];exact hx.2.2 e⟩
theorem WR.live{t:Int}{R:Int->Int->aE->Prop}{v x:Int}{S':aE}(h:WR S t R v x S')(_:Fatal x)(k:Nat)(_:t=k)(hl:(S.tx k).live=true):(S'.tx k).live=true:=(h.2.1.lv k).trans hl
def jB(W:ag)(td:Nat->Nat)(s q:Nat)(S:aE)(R:Int->Int->aE->Prop)(e:Ending)(w':ag):Prop:=
 ∃v x:Int,e=.returned (.tuple #[vI v,vI x])/\bX v/\bX x/\Nx W td s q S w' (R v x)
def FE(S:aE)(t:Int)(R:Int->Int->aE->Prop)(v x:Int)(S':aE):Prop:=
 (x=140/\v=0/\S'=S/\∀k:Nat,t=k->k<S.aW.length->(S.tx k).live=false)\/(x=0/\R v 0 S') \/
 (x≠0/\v=0/\∃v0 S1,R v0 x S1/\Still (λ_=>True) S1.D.A S'.D.A/\(Fatal x->∀k:Nat,t=k->ll k S1 S')/\(¬Fatal x->S'=S1))
def fN(w:ag)(τ:Nat->Nat)(s q:Nat)(S:aE)(t:Int)(R:Int->Int->aE->Prop)(e:Ending)(w':ag):Prop:=
 ∃v x:Int,e=.returned (.tuple #[vI v,vI x])/\bX v/\bX x/\Nx w τ s q S w' (FE S t R v x)
theorem i_(h:St w τ s q S){s' q':Nat}(hq:q'<=100000)(mq:s<=s')(hq1:q<=q')(t:Int)(ht:bX t)(g:Nat)(cs:Array aA)(R:Int->Int->aE->Prop)(he:∀args w,(callFunc g args).run prog w=.ok (.enter g args) w)
 (hR:∀v x S',R v x S'->Fatal x->∀k:Nat,t=k->(S.tx k).live=true->(S'.tx k).live=true) (k_:∀k:Nat,t=k->k<S.aW.length->(S.tx k).live=true->∀W td,Calm w W->oO w τ td->St W td s q S->aJ prog g (#[pV (S.tx k).xp]++cs) W (jB W td s' q' S R)) :
 aJ prog 121 #[pV S.sp,vI t,.func (.func g) #[] cs] w (fN w τ s' q' S t R):=by
 obtain⟨τ0,hf,tk,fr⟩:=h.fresh;have k3:Calm w (((w.alloc (.cells #[pV S.sp] 56)).alloc (.cells #[vI 0] 3)).alloc (.cells #[vI 0] 26)):=((ah.alloc _).alloc _).alloc _;have i3:Own (((w.alloc (.cells #[pV S.sp] 56)).alloc (.cells #[vI 0] 3)).alloc (.cells #[vI 0] 26)) w.heap.size 0 (pV S.sp):=((Own.new w _ _ 0 rfl).alloc _).alloc _;have i6:Own (((w.alloc (.cells #[pV S.sp] 56)).alloc (.cells #[vI 0] 3)).alloc (.cells #[vI 0] 26)) (w.heap.size+1) 0 (vI 0):=(Own.at (w.alloc _) _ _ _ 0 (by simp) rfl).alloc _;have i7:Own (((w.alloc (.cells #[pV S.sp] 56)).alloc (.cells #[vI 0] 3)).alloc (.cells #[vI 0] 26)) (w.heap.size+1+1) 0 (vI 0):=Own.at ((w.alloc _).alloc _) _ _ _ 0 (by simp) rfl;have z3:(((w.alloc (.cells #[pV S.sp] 56)).alloc (.cells #[vI 0] 3)).alloc (.cells #[vI 0] 26)).heap.size=w.heap.size+1+1+1:=by simp
 have iQ:∀ (fn:Fn) (first cap:Array aA) (w:ag),(Instr.makeFunc fn first cap).run prog w=.ok (.func fn first cap) w:=λ_ _ _ _=>rfl;obtain⟨W3,xS⟩:=ao ((((w.alloc (.cells #[pV S.sp] 56)).alloc (.cells #[vI 0] 3)).alloc (.cells #[vI 0] 26)));rw[xS] at k3 i3 i6 i7 z3;have c3:=i3.1;have P6:=hf.calm k3;go_enter_defers func121,ntmps121;go_wp2_with fail
 clear xS;refine(pw P6 t ht).mono ?_;rintro e w' ⟨⟨k,rfl,hk,du,rfl⟩|⟨hn,rfl⟩,rfl⟩
 ·have hx:=P6.lW hk;have k4:Calm w' (w'.alloc (.cells #[pV (S.tx k).xp] 110)):=ah.alloc _;have i8:Own (w'.alloc (.cells #[pV (S.tx k).xp] 110)) w'.heap.size 0 (pV (S.tx k).xp):=Own.new w' #[_] _ 0 rfl;obtain⟨W4,oy⟩:=ao (w'.alloc (.cells #[pV (S.tx k).xp] 110));rw[oy] at k4 i8;rw[z3] at i8;have hx4:=P6.calm k4;have i34:=i3.calm k4;have i64:=i6.calm k4;have i74:=i7.calm k4;have c34:=i34.1;have c8:=i8.1;have hc:=k_ k rfl hk du W4 τ0 (k3.trans k4) tk hx4;clear k_ c3;go_wp2_with fail
  refine hc.mono ?_;rintro e w5 ⟨v,x,rfl,hv,yg,dW,S5,p1,p2,p3,p4⟩;have aM:=i8.lt;have tg:∀b,w.heap.size<=b->b<W4.heap.size->500<=dW b:=λb h1 h2=>by rw[p2.tg b h2,fr b h1];omega
  have tg0:∀b,w.heap.size<=b->500<=τ0 b:=λb h1=>by rw[fr b h1];omega
  have m3:=p2.own i34 (tg0 _ (aD _));have m6:=p2.own i64 (tg0 _ (by omega));have m7:=p2.own i74 (tg0 _ (by omega));have m8:=p2.own i8 (tg0 _ (by omega));have c6:=m6.1;have f6:=m6.2;have f66:=jR w5 (w.heap.size+1) 0 (vI v);have m65:=m6.set (vI v);have m75:=m7.fr f66 (by omega);obtain⟨W6,sO⟩:=ao (w5.setCell ⟨w.heap.size+1,0,none⟩ (vI v));rw[sO] at f66 m65 m75;have c7:=m75.1;have f7:=m75.2;have f77:=jR W6 (w.heap.size+1+1) 0 (vI x);have l7:=m75.set (vI x);have l6:=m65.fr f77 (by omega);obtain⟨W7,Up⟩:=ao (W6.setCell ⟨w.heap.size+1+1,0,none⟩ (vI x));rw[Up] at f77 l7 l6;have F7:Fr (λb=>b=w.heap.size+1\/b=w.heap.size+1+1) w5 W7:=(f66.mono (λb _ e=>.inl e)).trans (f77.mono (λb _ e=>.inr e));have l3:=m3.fr F7 (by omega);have l8:=m8.fr F7 (by omega);have ab3:=p1.gL F7 (λb hb=>tg b (by omega) (by omega));have RZ:k<S5.aW.length:=p3.len ▸ hk;rw[<-p3.xp] at l8;rw[<-p3.sp] at l3;have hd:=Bm ab3 hq RZ l7 l3 l8 l6 (tg _ (by omega) (by omega)) (tg _ (by omega) (by omega)) (λe=>hR _ _ _ p4 e k rfl du) .returning;clear hc i34 i64 i74 i8 i3 i6 i7 hx4 hx P6;go_wp2;refine leaves_cons (f:=175) (args:=#[.pointer (some ⟨w.heap.size+1+1,0,none⟩),bw w.heap.size,.pointer (some ⟨w.heap.size+1+1+1,0,none⟩),.pointer (some ⟨w.heap.size+1,0,none⟩)]) (by simp) (by simp[go_sem]) ?_;refine hd.mono ?_;rintro e u' w8 ⟨rfl,rfl,w1,⟨GP,S9,n1,n2,n3,n4,n5,n6⟩,hw8⟩;have hs7:w.heap.size+1+1+1<W7.heap.size:=l8.lt;have tg9:∀b,w.heap.size<=b->b<W4.heap.size->500<=GP b:=λb h1 h2=>by rw[n2.tg b (by have:=F7.size;have:=p2.size;omega)];exact tg b h1 h2
  have r7:=n2.own l7 (tg _ (by omega) (by omega));have r6:=n2.own l6 (tg _ (by omega) (by omega))
  have KK:aC w τ w1 GP:=by
   have h1:aC w τ0 w5 dW:=(aC.calm τ0 (k3.trans k4)).trans p2;have h2:aC w τ0 W7 dW:=⟨h1.fr.join F7 (λj hj e=>by omega),h1.tg⟩;exact(h2.trans n2).dE tk
  rcases hw8 with ⟨rfl,rfl⟩|⟨jb,rfl⟩
  ·have y6:=r6.1;have y7:=r7.1;have hP:fN w τ s' q' S (k:Nat) R (.returned (.tuple #[vI v,vI 0])) w8:=⟨v,0,rfl,hv,yg,GP,S9,n1,KK,p3.trans n3,.inr (.inl ⟨rfl,by rw[n4 (by unfold Fatal;omega)];exact p4⟩)⟩;simp[Leaves,settle,results,Tryz.f121,go_sem,y6,y7];exact hP
  ·have f9:=jR w1 (w.heap.size+1) 0 (vI 0);have y6:=(r6.set (vI 0)).1;have y7:=(r7.fr f9 (by omega)).1
   have hP:fN w τ s' q' S (k:Nat) R (.returned (.tuple #[vI 0,vI x])) (w1.setCell ⟨w.heap.size+1,0,none⟩ (vI 0)):=
    ⟨0,x,rfl,by decide,yg,GP,S9,n1.gL f9 (λb hb=>tg9 b (by omega) (by omega)),⟨KK.fr.join f9 (λj hj e=>by omega),KK.tg⟩,p3.trans n3,.inr (.inr ⟨jb,rfl,v,S5,p4,n5,(λe k' ek=>by rw[show k'=k by omega];exact n6 e),n4⟩)⟩
   simp[Leaves,settle,results,Tryz.f121,go_sem,y6,y7];exact hP
 ·have k4:Calm w' (w'.alloc (.cells #[.pointer none] 110)):=ah.alloc _;have i8:Own (w'.alloc (.cells #[.pointer none] 110)) w'.heap.size 0 (.pointer none):=Own.new w' #[_] _ 0 rfl;obtain⟨W4,oy⟩:=ao (w'.alloc (.cells #[.pointer none] 110));rw[oy] at k4 i8;rw[z3] at i8;have c8:=i8.1;have f8:=i8.2;have f88:=jR W4 (w.heap.size+1+1+1) 0 (.pointer none);have i88:=i8.set (.pointer none);obtain⟨W5,mK⟩:=ao (W4.setCell ⟨w.heap.size+1+1+1,0,none⟩ (.pointer none));rw[mK] at f88 i88;have c88:=i88.1;have i64:=(i6.calm k4).fr f88 (by omega);have i74:=(i7.calm k4).fr f88 (by omega);have c6:=i64.1;have f6:=i64.2;have f66:=jR W5 (w.heap.size+1) 0 (vI 0);have i75:=i74.fr f66 (by omega);have i65:=i64.set (vI 0);obtain⟨W6,sO⟩:=ao (W5.setCell ⟨w.heap.size+1,0,none⟩ (vI 0));rw[sO] at f66 i75 i65;have c7:=i75.1;have f7:=i75.2;have f77:=jR W6 (w.heap.size+1+1) 0 (vI 140);have j7:=i75.set (vI 140);have j6:=i65.fr f77 (by omega);have K:Calm w (W6.setCell ⟨w.heap.size+1+1,0,none⟩ (vI 140)):=(((k3.trans k4).join f88 (λj hj e=>by omega)).join f66 (λj hj e=>by omega)).join f77 (λj hj e=>by omega);have y6:=j6.1;have y7:=j7.1;have hP:fN w τ s' q' S t R (.returned (.tuple #[vI 0,vI 140])) (W6.setCell ⟨w.heap.size+1+1,0,none⟩ (vI 140)):=⟨0,140,rfl,by decide,by decide,(Nx.calm h K (R:=FE S t R 0 140) (.inl ⟨rfl,rfl,rfl,λk ek hk=>hn k ek hk⟩)).mono mq hq1 (λS' e=>e)⟩;clear k_;go_wp2;simp[bodyPostD,Leaves,settle,results,Tryz.f121,go_sem,y6,y7];exact hP
end
