import Derived.Test.YtgijglafnlbdbaaGreatTmAG
set_option linter.all false
set_option maxHeartbeats 8000000
set_option maxRecDepth 8000
namespace Go.Proofs.YtgijglafnlbdbaaGreat
open RowKit Shelf Proofs.Tryz
open Go renaming World->ag,Value->aA,Calls->aJ
inductive ug (s:HS) (q:Nat):HS->aj->Prop
 | stay {i:Nat} {o:Ob} (c:aY s i q o) (h:o.ps.getD 0 0∉jL s.aV):ug s q s []
 | gone {i j t:Nat} {o u:Ob} (c:aY s i q o) (d:dB s j (o.ps.getD 0 0) u (some t)):ug s q (s.cV i (o.e_ true 0 t)) []
 | lost {i j:Nat} {o u:Ob} (c:aY s i q o) (d:dB s j (o.ps.getD 0 0) u none):ug s q (s.cV i (o.e_ true 0 0)) [o.ser]
inductive kD (s:HS):aj->HS->aj->Prop
 | nil:kD s [] s []
 | snoc {l ls m:aj} {s1 s2:HS} {q:Nat} (h:kD s l s1 ls) (g:ug s1 q s2 m):kD s (l++[q]) s2 (ls++m)
theorem aY.cV{s:HS}{i a j b:Nat}{o u u':Ob}(c:aY s i a o)(d:aY s j b u):aY (s.cV j u') i a (if i=j then u' else o):=by
 have e:(s.cV j u').cur=s.cur.set j (b,u'):=by
  unfold HS.cV;have:=d.get;simp only[eF] at this;rw[this]
 refine⟨by rw[e,bN];exact c.lt,?_⟩;rw[e]
 by_cases h:i=j
 ·subst h;rw[if_pos rfl];have h1:=c.get;rw[d.get] at h1;have hl:=c.lt;cases h1;simp[List.getD,hl]
 ·rw[if_neg h];have h1:=c.get;simp only[List.getD,List.getElem?_set,if_neg (Ne.symm h)] at h1 ⊢;exact h1
def mU(s:HS)(q:Nat):Prop:=∃i o,aY s i q o/\o.wk=true/\Place s (o.ps.getD 0 0)
theorem yN{s:HS}{i:Nat}{o:Ob}{x:Nat}(h:Place s x):Place (s.cV i o) x:=by
 refine h.imp id (λh=>h.imp (λh=>?_) id);rw[mi];exact h
theorem Ob.Ap{o:Ob}(h:o.Ok)(hw:o.wk=true):o.p=1:=(h.sh.2.2 hw).1
theorem dB.uw{s:HS}{X:aj}(h:aR s X){j a t:Nat}{u:Ob}(d:dB s j a u (some t)):t∈dL s.cur:=by
 obtain⟨k,h1,h2,_⟩:=h.half.gone _ d.lt _ (by rw[d.get]);refine List.mem_map.2 ⟨s.cur.getD k eF,eO eF h1,?_⟩;rw[(h.place h1).1];exact h2
theorem mU.set{s:HS}{i a v:Nat}{o:Ob}(c:aY s i a o)(hw:o.wk=true)(hv:Place s v)(oC:o.ps.length=1){x:Nat}(h:mU s x):mU (s.cV i (o.e_ true 0 v)) x:=by
 obtain⟨k,u,d,h1,h2⟩:=h;refine⟨k,_,d.cV (u':=o.e_ true 0 v) c,?_,?_⟩
 ·split
  ·exact hw
  ·exact h1
 ·split
  ·have:(o.e_ true 0 v).ps.getD 0 0=v:=by
    simp[Ob.e_,List.getD,oC]
   rw[this];exact yN hv
  ·exact yN h2
theorem xO(s:HS):s.drop.hZ=s.base (!s.u):=rfl
theorem cz.Hn{w w':ag}{B:HB}{s:HS}{X:aj}(h:cz w B s X)(hu:s.u=false)(f:Fr (λk=>k=B.hp) w w')
 (H:af w' B.hp [eL B.ap,vI 1,vI s.n,vI (s.top:Nat),vI (1+s.n),vI s.n,vI (1+s.n),B.v0,.slice none 0 0,vI 0,.bool false,vI 0,vI s.scan,vI s.ser,B.vw,B.vf]) :
 cz w' (B.flip s.u) s.drop X/\bz w B w' (B.flip s.u):=by
 have mD:=h.rep.drop;have nn:=h.none_;have cT:=h.apart;have gi:=ay.nil;simp only[HB.vs,eH,eS,or_false,forall_eq_or_imp,forall_eq] at nn;simp only[HB.vs,List.pairwise_cons,eH,eS,or_false,forall_eq_or_imp,forall_eq] at cT;have sU:s.drop.u=false:=hu;have b0:s.base false=1:=rfl;have b1:s.base true=1+s.n:=rfl;rw[hu];refine⟨⟨?_,?_,?_,?_,?_,?_,mD,h.cT,h.kF,?_,?_⟩,⟨f.mono (λk _ e=>.inl e),?_,rfl⟩⟩
 ·have:aN (B.flip false) s.drop=[eL B.ap,vI 1,vI s.n,vI (s.top:Nat),vI (1+s.n),vI s.n,vI (1+s.n),B.v0,.slice none 0 0,vI 0,.bool false,vI 0,vI s.scan,vI s.ser,B.vw,B.vf]:=by
   have e1:((s.drop.hZ:Nat):Int)=1+s.n:=by rw[xO,hu];simp only[Bool.not_false,Bool.not_true,b0,b1];try push_cast;try rfl
   have e2:s.drop.top=s.top:=rfl;have e3:eQ s.drop.aV=0:=rfl;simp only[aN,sU,cond_true,cond_false,e1,e2,e3,HB.flip];rfl
  rw[this];exact H
 ·exact h.ar.fr f (by simpa using Ne.symm h.cT) (by simpa using Ne.symm h.kF)
 ·have:=h.r0.dw f (λk hk e=>nn.1.1 (e ▸ hk));simp only[l0,hu,cond_false,cond_true] at this;simp only[l0,sU,cond_true,cond_false,HB.flip];exact this
 ·simp only[l1,sU,cond_true,cond_false,HB.flip];exact World.ownsRow_nil _ _ _ _
 ·exact h.rw.dw f (λk hk e=>nn.2.2.1.1 (e ▸ hk))
 ·exact h.rf.dw f (λk hk e=>nn.2.2.2.1 (e ▸ hk))
 ·simp only[HB.vs,HB.flip,cond_true,cond_false,List.pairwise_cons,eH,eS,or_false,forall_eq_or_imp,forall_eq];exact⟨⟨λk _ h2=>gi k h2,cT.1.2.1,cT.1.2.2⟩,⟨λk h1 _=>gi k h1,λk h1 _=>gi k h1⟩,cT.2.2.1,by simp,List.Pairwise.nil⟩
 ·intro v hv;simp only[HB.vs,HB.flip,cond_false,cond_true,eH,eS,or_false] at hv;rcases hv with rfl|rfl|rfl|rfl
  ·exact nn.1
  ·exact⟨gi _,gi _,gi _⟩
  ·exact nn.2.2.1
  ·exact nn.2.2.2
 ·rintro k (hk|hk|hk|⟨v,hv,hk⟩)
  ·exact .inl (.inl hk)
  ·exact .inl (.inr (.inl hk))
  ·exact .inl (.inr (.inr (.inl hk)))
  ·simp only[HB.vs,HB.flip,cond_false,cond_true,eH,eS,or_false] at hv;rcases hv with rfl|rfl|rfl|rfl
   ·first|exact absurd hk (gi _)|exact .inl (.inr (.inr (.inr ⟨_,by simp[HB.vs],hk⟩)))
   ·first|exact absurd hk (gi _)|exact .inl (.inr (.inr (.inr ⟨_,by simp[HB.vs],hk⟩)))
   ·exact .inl (.inr (.inr (.inr ⟨_,by simp[HB.vs],hk⟩)))
   ·exact .inl (.inr (.inr (.inr ⟨_,by simp[HB.vs],hk⟩)))
theorem cz.Ho{w w':ag}{B:HB}{s:HS}{X:aj}(h:cz w B s X)(hu:s.u=true)(f:Fr (λk=>k=B.hp) w w')
 (H:af w' B.hp [eL B.ap,vI 1,vI s.n,vI 1,vI (1+s.n),vI s.n,vI (s.top:Nat),.slice none 0 0,B.v1,vI 1,.bool false,vI 0,vI s.scan,vI s.ser,B.vw,B.vf]) :
 cz w' (B.flip s.u) s.drop X/\bz w B w' (B.flip s.u):=by
 have mD:=h.rep.drop;have nn:=h.none_;have cT:=h.apart;have gi:=ay.nil;simp only[HB.vs,eH,eS,or_false,forall_eq_or_imp,forall_eq] at nn;simp only[HB.vs,List.pairwise_cons,eH,eS,or_false,forall_eq_or_imp,forall_eq] at cT;have sU:s.drop.u=true:=hu;have b0:s.base false=1:=rfl;have b1:s.base true=1+s.n:=rfl;rw[hu];refine⟨⟨?_,?_,?_,?_,?_,?_,mD,h.cT,h.kF,?_,?_⟩,⟨f.mono (λk _ e=>.inl e),?_,rfl⟩⟩
 ·have:aN (B.flip true) s.drop=[eL B.ap,vI 1,vI s.n,vI 1,vI (1+s.n),vI s.n,vI (s.top:Nat),.slice none 0 0,B.v1,vI 1,.bool false,vI 0,vI s.scan,vI s.ser,B.vw,B.vf]:=by
   have e1:((s.drop.hZ:Nat):Int)=1:=by rw[xO,hu];simp only[Bool.not_false,Bool.not_true,b0,b1];try push_cast;try rfl
   have e2:s.drop.top=s.top:=rfl;have e3:eQ s.drop.aV=0:=rfl;simp only[aN,sU,cond_true,cond_false,e1,e2,e3,HB.flip];rfl
  rw[this];exact H
 ·exact h.ar.fr f (by simpa using Ne.symm h.cT) (by simpa using Ne.symm h.kF)
 ·simp only[l0,sU,cond_true,cond_false,HB.flip];exact World.ownsRow_nil _ _ _ _
 ·have:=h.r1.dw f (λk hk e=>nn.2.1.1 (e ▸ hk));simp only[l1,hu,cond_false,cond_true] at this;simp only[l1,sU,cond_true,cond_false,HB.flip];exact this
 ·exact h.rw.dw f (λk hk e=>nn.2.2.1.1 (e ▸ hk))
 ·exact h.rf.dw f (λk hk e=>nn.2.2.2.1 (e ▸ hk))
 ·simp only[HB.vs,HB.flip,cond_true,cond_false,List.pairwise_cons,eH,eS,or_false,forall_eq_or_imp,forall_eq];exact⟨⟨λk h1 _=>gi k h1,λk h1 _=>gi k h1,λk h1 _=>gi k h1⟩,cT.2.1,cT.2.2.1,by simp,List.Pairwise.nil⟩
 ·intro v hv;simp only[HB.vs,HB.flip,cond_false,cond_true,eH,eS,or_false] at hv;rcases hv with rfl|rfl|rfl|rfl
  ·exact⟨gi _,gi _,gi _⟩
  ·exact nn.2.1
  ·exact nn.2.2.1
  ·exact nn.2.2.2
 ·rintro k (hk|hk|hk|⟨v,hv,hk⟩)
  ·exact .inl (.inl hk)
  ·exact .inl (.inr (.inl hk))
  ·exact .inl (.inr (.inr (.inl hk)))
  ·simp only[HB.vs,HB.flip,cond_false,cond_true,eH,eS,or_false] at hv;rcases hv with rfl|rfl|rfl|rfl
   ·first|exact absurd hk (gi _)|exact .inl (.inr (.inr (.inr ⟨_,by simp[HB.vs],hk⟩)))
   ·first|exact absurd hk (gi _)|exact .inl (.inr (.inr (.inr ⟨_,by simp[HB.vs],hk⟩)))
   ·exact .inl (.inr (.inr (.inr ⟨_,by simp[HB.vs],hk⟩)))
   ·exact .inl (.inr (.inr (.inr ⟨_,by simp[HB.vs],hk⟩)))
theorem bL.congr{s s':HS}(he:s.aV=s'.aV){l st lf:aj}(h:bL s l st lf):bL s' l st lf:=by
 induction h with
 | nil=>exact .nil
 | stay h hp ih=>exact .stay ih (he ▸ hp)
 | gone h c ih=>exact .gone ih ⟨he ▸ c.lt,he ▸ c.get⟩
 | left h c ih=>exact .left ih ⟨he ▸ c.lt,he ▸ c.get⟩
def Ra(w:ag)(B B2:HB)(s:HS)(l:aj)(v:aA)(k:Nat)(wr:ag):Prop:=
 ∃s' ls X',kD s (l.take k) s' ls/\cz wr B2 s' X'/\bz w B wr B2/\aI wr w.heap.size v (nI ls)/\(∀b,ay v b->¬dz B2 b)/\ls.length<=k/\(∀q∈l,mU s' q)/\s'.aV=s.aV/\s'.bI=s.bI/\s'.fin=s.fin/\s'.u=s.u/\s'.mv=s.mv/\s'.scan=s.scan
def JG(w:ag)(B:HB)(s:HS)(e:Ending)(w':ag):Prop:=
 ∃jd sD l1 l2 s' ls v,bL s s.bI jd l1/\bL s s.fin sD l2/\kD { s with bI:=jd,fin:=sD } jd s' ls/\e=.returned (.tuple #[v,.bool true])/\aI w' w.heap.size v (nI ls)/\∃B' X',cz w' B' s'.drop X'/\bz w B w' B'
theorem Zu{w:ag}{B:HB}{s:HS}{X:aj}(h:cz w B s X)(hm:s.mv=true)(hs:s.scan=s.top)(hpw:∀p∈s.bI,p<=131072)(hpf:∀p∈s.fin,p<=131072)(bU:∀jd lf,bL s s.bI jd lf->∀q∈jd,mU s q) :
 aJ prog 242 #[eU B] w (JG w B s):=by
 have kU:=jK h;rw[hm] at kU;replace kU:=hid kU;have hsc:=hid (px h (S:=true) (by rw[hs];simp));have iM:=(h.own (i:=14) (v:=B.vw) rfl).1;have H:=hid h;replace hpw:=hid hpw;replace hpf:=hid hpf;replace bU:=hid bU;replace hs:=hid hs;clear h;go_in;go_wp2_with fail
 refine(kU.out).mono ?_;rintro e w1 ⟨rfl,rfl⟩;go_wp2_with fail
 refine(hsc.out).mono ?_;rintro e w1 ⟨rfl,c1⟩;replace iM:=c1.cellAt iM id;go_wp2_with fail
 have H1:=H.out.calm c1;refine(rK H1 H1.rw H.out.rep.mJ.1 hpw.out).mono ?_;rintro e w2 ⟨va,vb,jd,lf,rfl,hS,ha,hb,uz,c2⟩;have Vy:jd.length<=100000:=by have:=hS.len;have:=H.out.rep.mJ.1;omega
 replace c2:=c1.trans c2;obtain⟨N,hN⟩:=ao jd.length;obtain⟨aa,ac,rfl⟩:=ha.iy (n:=N) (by simp[hN]);have WB:=(H.out.own (i:=14) (v:=B.vw) rfl).calm c2;have y1:=WB.1;have y2:=WB.2;have FA:=((H.out.own (i:=15) (v:=B.vf) rfl).calm c2).1;have aM:=H.out.jW;have Eb:∀b,ay (.slice aa N ac) b->w.heap.size<=b:=λb hb=>by have:=(ha.lt hb).1;have:=c1.size;omega
 have oX:Fr (λk=>k=B.hp\/ay B.vw k) w (w2.setCell ⟨B.hp,14,none⟩ (.slice aa N ac)):=(Calm.any c2).setCell (p:=⟨B.hp,14,none⟩) (.inl (.inl rfl)) _;have Eo:=jR w2 (B.hp) 14 (.slice aa N ac);obtain⟨Az,Jk⟩:=H.out.Fj (v:=.slice aa N ac) (l:=jd) oX ((H.out.cs.calm c2).set 14 _ (by simp[aN])) ((ha.mono (bY _)).dw Eo (λb h1 (h2:b=B.hp)=>by have:=Eb b h1;omega)) (λk hk=>.inr (Eb k hk)) Vy;have Z4:=hid (bU.out _ _ hS);have Jl:N<=100000:=by rw[<-hN];exact Vy
 replace hN:=hid hN;clear Vy;replace hS:=hid hS;replace Az:=hid Az;replace Jk:=hid Jk;clear iM WB ha hb uz Eb oX c1 c2 H1 aM kU hsc bU;go_wp2_with fail
 clear y1 y2 FA Eo;generalize World.setCell w2 _ _=w3 at *;refine(rK Az.out Az.out.rf H.out.rep.mJ.2 hpf.out).mono ?_;rintro e w4 ⟨va,vd,sD,lf2,rfl,jo,ha,hb,uz,c4⟩;have ab4:sD.length<=100000:=by have h3:sD.length+lf2.length=s.fin.length:=jo.len;have:=H.out.rep.mJ.2;omega
 obtain⟨fa,fn,fc,rfl⟩:=ha.letters;have FB:=(Az.out.own (i:=15) (v:=B.vf) rfl).calm c4;have y1:=FB.1;have y2:=FB.2;have aM:B.hp<w3.heap.size:=Az.out.jW;have Eb:∀b,ay (.slice fa fn fc) b->w3.heap.size<=b:=λb hb=>(ha.lt hb).1;have oX:Fr (λk=>k=B.hp\/ay B.vf k) w3 (w4.setCell ⟨B.hp,15,none⟩ (.slice fa fn fc)):=(Calm.any c4).setCell (p:=⟨B.hp,15,none⟩) (.inl (.inl rfl)) _;have Eo:=jR w4 (B.hp) 15 (.slice fa fn fc);obtain⟨hA5,hK5⟩:=Az.out.Gz (v:=.slice fa fn fc) (l:=sD) oX ((Az.out.cs.calm c4).set 15 _ (by simp[aN])) ((ha.mono (bY _)).dw Eo (λb h1 (h2:b=B.hp)=>by have:=Eb b h1;omega)) (λk hk=>.inr (Eb k hk)) ab4;have Py:=hid (bL.congr (s:={ s with bI:=jd }) (s':=s) (l:=s.fin) rfl jo);have YU:=hid (Jk.out.trans hK5);obtain⟨B2,Hv⟩:∃B2,B2=({ B with vw:=.slice aa N ac,vf:=.slice fa fn fc } : HB):=⟨_,rfl⟩;have Dw:B2.hp=B.hp:=by rw[Hv]
 have P9:B2.vw=.slice aa N ac:=by rw[Hv]
 have hA6:cz (w4.setCell ⟨B.hp,15,none⟩ (.slice fa fn fc)) B2 { s with bI:=jd,fin:=sD } X:=by rw[Hv];exact hA5
 have hK6:bz w B (w4.setCell ⟨B.hp,15,none⟩ (.slice fa fn fc)) B2:=by rw[Hv];exact YU.out
 have iM:=(Az.out.own (i:=14) (v:=.slice aa N ac) rfl).calm c4 |>.1;replace hA6:=hid hA6;replace hK6:=hid hK6;replace Dw:=hid Dw;clear Az Jk jo ha hb uz FB aM Eb oX c4 hA5 hK5 YU Hv;go_wp2_with fail
 clear y1 y2 Eo iM;generalize World.setCell w4 _ _=w5 at *
 have kg:Ra w B B2 { s with bI:=jd,fin:=sD } jd (.slice none 0 0) 0 w5:=
  ⟨_,[],X,by rw[List.take_zero];exact .nil,hA6.out,hK6.out,aI.nil _ _,(λb h=>(ay.nil b h).elim),bY _,(λq hq=>let ⟨i,o,c,h1,h2⟩:=Z4.out q hq;⟨i,o,⟨c.lt,c.get⟩,h1,h2⟩),rfl,rfl,rfl,rfl,rfl,rfl⟩
 replace kg:=hid kg;replace P9:=hid P9;clear hA6 Z4 hK6;go_loopw [4,51] (λv i wr=>∃k:Nat,k<=N/\i=vI k/\Ra w B B2 { s with bI:=jd,fin:=sD } jd v k wr) (λ_ i _=>N-(intOf i).toNat)
 case atStart=>exact⟨0,by omega,rfl,kg.out⟩
 case round=>
  clear kg;obtain⟨k,hk,rfl,s',ls,X',hW,hA,hK,hv,hn,PU,jD,eo,ew,ef,eu,em,es⟩:=hrel;have ew:s'.bI=jd:=ew;obtain⟨va,vn,vc,rfl⟩:=hv.letters;rcases fB k N with aM|ic
  ·have ki:k<jd.length:=by rw[hN.out];exact aM
   have Ib:=hA.rw;rw[ew,P9.out] at Ib;obtain⟨g,gc,wC,_,qg,_⟩:=Ib.get (k:=k) (by simpa using ki);injection wC with rz dK rZ
   subst rz;rw[show(nI jd).getD k 0=((jd.getD k 0:Nat):Int) by simp[List.getD,ki]] at qg;have iK:jd.getD k 0∈jd:=by simp[List.getD,ki]
   obtain⟨i,o,c,Sv,kI⟩:=jD _ iK;have kK:=dR jd ki;clear Ib dK rZ ki iK;generalize jd.getD k 0=q at *;have iW:=c.at_ hA.rep;have Ia:=Ob.Ap iW.ok Sv;have oC:o.ps.length=1:=by rw[iW.ok.lp,Ia]
   have ac0:=kI.le hA.rep;have y0:=(hA.own (i:=0) (v:=eL B2.ap) rfl).1;rw[Dw.out] at y0;have cT:=hid (λW (cw:Calm wr W)=>(kR (hA.ar.calm cw) iW (i:=0) (by omega):aJ prog 189 #[eL B2.ap,vI q,vI 0] W _));have mb:=λW (cw:Calm wr W)=>iB (hA.calm cw) (o.ps.getD 0 0:Nat) ⟨by omega,by omega⟩;have aa8:eU B2=eU B:=by unfold eU;rw[Dw.out]
   rw[aa8] at mb;have abJ:Hid ((nI ls).length<=1000000):=by show(nI ls).length<=1000000;simp;omega
   have iG:=hid (hK.fr.size)
   by_cases hm:o.ps.getD 0 0∈jL s'.aV
   ·rw[decide_eq_true (gV.2 hm)] at mb;obtain⟨j,u,m,d⟩:=dB.im hm
    cases m with
    | some t=>
      have ZE:mP X' (o.ps.getD 0 0) t:=by
       have:=(hA.rep.half.ol.at j d.lt).2.2.2;rw[d.get] at this;exact this
      have htc:=d.uw hA.rep;have Cl:=hA.rep.mh htc;have U9:=hid (λW (cw:Calm wr W)=>uU W B2.ap B2.ac X' (hA.ar.calm cw) (o.ps.getD 0 0) t ZE);have mF:=hid (λW (cw:Calm wr W)=>(lq (hA.ar.calm cw) iW (i:=0) (v:=t) (by omega) Cl:aJ prog 186 #[eL B2.ap,vI q,vI 0,vI t] W _));have fI:kD { s with bI:=jd,fin:=sD } (jd.take (k+1)) (s'.cV i (o.e_ true 0 t)) (ls++[]):=by rw[kK];exact .snoc hW (.gone c d)
      rw[List.append_nil] at fI;have uP:=λW (cw:Calm wr W) W' (ar:Ar W' B2.ap B2.ac (X'.set (q+3+0) t)) (f:Fr (λk=>k=B2.ac) W W')=>(hA.calm cw).fD c ar f (o':=o.e_ true 0 t) (by simp) (Has.kR iW (Has.lt (n:=o.p) (k:=0) (by omega) (by omega)) Cl) (o.cZ true 0 t) (λj hj=>by simp only[Ob.size] at hj;rw[dr,if_neg (by omega)]);have o_:∀q∈jd,mU (s'.cV i (o.e_ true 0 t)) q:=λx hx=>(jD x hx).set c Sv (.inr (.inl htc)) oC;replace uP:=hid uP;replace o_:=hid o_;replace fI:=hid fI;replace mb:=hid mb;replace hA:=hid hA;replace hK:=hid hK;replace hv:=hid hv;replace hn:=hid hn;replace ew:=hid ew;replace ef:=hid ef;replace eu:=hid eu;replace em:=hid em;replace es:=hid es;replace eo:=hid eo;clear hW jD hm d ZE htc c iW kI kK Ia oC;generalize o.ps.getD 0 0=p at *;go_wp2_with fail
      refine(cT.out _ ah).mono ?_;rintro e w6 ⟨rfl,c6⟩;go_wp2_with fail
      refine(mb.out _ c6).mono ?_;rintro e w7 ⟨rfl,c7⟩;replace c7:=c6.trans c7;replace y0:=c7.cellAt y0 id;clear c6;go_wp2_with fail
      refine(U9.out _ c7).mono ?_;rintro e w8 ⟨rfl,rfl⟩;go_wp2_with fail
      refine(mF.out _ c7).mono ?_;rintro e w9 ⟨rfl,Yi,f9⟩;have ht:=hid (uP.out _ c7 _ Yi f9);clear Yi;go_wp2
      go_roundw
      case rel=>
       refine⟨k+1,by omega,by go_num,_,ls,_,fI.out,ht.out.1,(hK.out.trans (bz.calm B2 c7)).trans ht.out.2,(hv.out.calm c7).dw f9 (λb hb e=>hn.out b hb (.inr (.inr (.inl e)))),hn.out,by omega,o_.out,eo.out,ew.out,ef.out,eu.out,em.out,es.out⟩
      case measure=>simp[intOf];omega
    | none=>
      have HC:At X' (o.ps.getD 0 0) u:=by
       have:=(hA.rep.half.ol.at j d.lt).2.2.2;rw[d.get] at this;exact this
      have U9:=hid (λW (cw:Calm wr W)=>uV W B2.ap B2.ac X' (hA.ar.calm cw) (o.ps.getD 0 0) u HC);have mF:=hid (λW (cw:Calm wr W)=>(lq (hA.ar.calm cw) iW (i:=0) (v:=0) (by omega) (by omega):aJ prog 186 #[eL B2.ap,vI q,vI 0,vI 0] W _));have fI:kD { s with bI:=jd,fin:=sD } (jd.take (k+1)) (s'.cV i (o.e_ true 0 0)) (ls++[o.ser]):=by rw[kK];exact .snoc hW (.lost c d)
      have uP:=λW (cw:Calm wr W) W' (ar:Ar W' B2.ap B2.ac (X'.set (q+3+0) 0)) (f:Fr (λk=>k=B2.ac) W W')=>(hA.calm cw).fD c ar f (o':=o.e_ true 0 0) (by simp) (Has.kR iW (Has.lt (n:=o.p) (k:=0) (by omega) (by omega)) (by omega)) (o.cZ true 0 0) (λj hj=>by simp only[Ob.size] at hj;rw[dr,if_neg (by omega)]);have o_:∀q∈jd,mU (s'.cV i (o.e_ true 0 0)) q:=λx hx=>(jD x hx).set c Sv (.inl rfl) oC;have ku:aY (s'.cV i (o.e_ true 0 0)) i q (o.e_ true 0 0):=by have:=c.cV (u':=o.e_ true 0 0) c;rwa [if_pos rfl] at this
      replace uP:=hid uP;replace o_:=hid o_;replace fI:=hid fI;replace mb:=hid mb;replace hA:=hid hA;replace hK:=hid hK;replace hv:=hid hv;replace hn:=hid hn;replace ku:=hid ku;replace ew:=hid ew;replace ef:=hid ef;replace eu:=hid eu;replace em:=hid em;replace es:=hid es;replace eo:=hid eo;clear hW jD hm d HC c iW kI kK Ia oC;generalize o.ps.getD 0 0=p at *;have e2:Hid (nI (ls++[o.ser])=nI ls++[(o.ser:Int)]):=by show nI (ls++[o.ser])=_;simp
      generalize nI ls=L at *;go_wp2_with fail
      refine(cT.out _ ah).mono ?_;rintro e w6 ⟨rfl,c6⟩;go_wp2_with fail
      refine(mb.out _ c6).mono ?_;rintro e w7 ⟨rfl,c7⟩;replace c7:=c6.trans c7;replace y0:=c7.cellAt y0 id;clear c6;go_wp2_with fail
      refine(U9.out _ c7).mono ?_;rintro e w8 ⟨rfl,rfl⟩;go_wp2_with fail
      refine(mF.out _ c7).mono ?_;rintro e w9 ⟨rfl,Yi,f9⟩;have ht:=uP.out _ c7 _ Yi f9;have hv9:=(hv.out.calm c7).dw f9 (λb hb e=>hn.out b hb (.inr (.inr (.inl e))));have rr:=hid (xG ht.1.ar (ku.out.at_ ht.1.rep));have y0b:=(ht.1.own (i:=0) (v:=eL B2.ap) rfl).1;rw[Dw.out] at y0b;have aan:=gw iG.out (gw c7.size f9.size);replace ht:=hid ht;replace hv9:=hid hv9;clear Yi y0;go_wp2_with fail
      refine(rr.out).mono ?_;rintro e Wv ⟨rfl,Dr⟩;have aal:=hid (gw aan Dr.size);replace hv9:=hid (hv9.out.calm Dr);clear aan;go_wp2_with (at_builtin;go_must (refine cU rfl _ _ rfl _ _ L hv9.out rfl (o.ser:Int) rfl abJ.out aal.out ?_);intro g4 c4 w4 AB zp wN;replace AB:=hid AB;replace zp:=hid zp;replace wN:=hid wN)
      go_roundw
      case rel=>
       refine⟨k+1,by omega,by go_num,_,_,_,fI.out,(ht.out.1.calm Dr).fr zp.out (λb h1 h2=>hn.out b h2 h1),(((hK.out.trans (bz.calm B2 c7)).trans ht.out.2).trans (bz.calm B2 Dr)).gL zp.out (λb h1 h2=>by have:=(hv.out.lt h2).1;omega),by rw[e2.out];exact AB.out,λb h1 h2=>?_,by simp;omega,o_.out,eo.out,ew.out,ef.out,eu.out,em.out,es.out⟩;have:=ay.fJ h1;subst this;exact wN.out.elim (λh=>hn.out _ h h2) (λh=>by have:=(ht.out.1.calm Dr).lt _ h2;omega)
      case measure=>simp[intOf];omega
   ·rw[decide_eq_false (λe=>hm (gV.1 e))] at mb;have fI:kD { s with bI:=jd,fin:=sD } (jd.take (k+1)) s' (ls++[]):=by rw[kK];exact .snoc hW (.stay c hm)
    rw[List.append_nil] at fI;replace fI:=hid fI;replace mb:=hid mb;replace hA:=hid hA;replace hK:=hid hK;replace hv:=hid hv;replace hn:=hid hn;replace jD:=hid jD;replace ew:=hid ew;replace ef:=hid ef;replace eu:=hid eu;replace em:=hid em;replace es:=hid es;replace eo:=hid eo;clear hW hm c iW kI kK Ia oC;generalize o.ps.getD 0 0=p at *;go_wp2_with fail
    refine(cT.out _ ah).mono ?_;rintro e w6 ⟨rfl,c6⟩;go_wp2_with fail
    refine(mb.out _ c6).mono ?_;rintro e w7 ⟨rfl,c7⟩;replace c7:=c6.trans c7;go_wp2
    go_roundw
    case rel=>
     refine⟨k+1,by omega,by go_num,_,ls,_,fI.out,hA.out.calm c7,hK.out.trans (bz.calm B2 c7),hv.out.calm c7,hn.out,by omega,jD.out,eo.out,ew.out,ef.out,eu.out,em.out,es.out⟩
    case measure=>simp[intOf];omega
  ·obtain rfl:k=N:=by omega
   rw[List.take_of_length_le (by rw[hN.out];exact aD _)] at hW;have bU:=Gs hA.rep;have rU:=Dw.out;have hc:=hA.cs;rw[rU] at hc;have bs:=jQ s';replace hA:=hid hA;replace hK:=hid hK;replace hv:=hid hv;replace hn:=hid hn;replace hW:=hid hW;clear jD eo ew ef eu em es P9;cases hu:s'.u
   ·have eb:((s'.base (!s'.u):Nat):Int)=1+s'.n:=by rw[(bs.2 hu).2];push_cast;rfl
    rw[eb] at bU;have HJ:=hid (λW=>nF (1+s'.n) s'.n (s'.hZ:Nat) W bU);simp only[aN,hu,cond_true,cond_false] at hc;clear bU bs eb;generalize hT:((s'.top:Nat):Int)=T at hc;generalize hO:((s'.hZ:Nat):Int)=OT at hc HJ;generalize hD:((eQ s'.aV:Nat):Int)=OW at hc;generalize Ul:((s'.scan:Nat):Int)=SC at hc;generalize Um:((s'.ser:Nat):Int)=SE at hc;replace hT:=hid hT;replace Ul:=hid Ul;replace Um:=hid Um;clear hD hO;have y9:=(hc 9 _ rfl).1;replace hc:=hid hc;go_wp2_with fail
    have q1:=qk hc.out 4 rfl;have q2:=qk hc.out 5 rfl;have q3:=qk hc.out 6 rfl;refine bB 12 (by kernel_rfl) (by kernel_rfl) ?_;simp only[List.take_succ_cons,List.take_zero,List.drop_succ_cons,List.drop_zero]
    repeat (go_big_quiet_step ((go_at_call 205;exact Calls.dC (HJ.out _))))
    refine wpQuiet_nil ?_;intro W2 hw';have c2:=a_.out hw';clear hw' q1 q2 q3 HJ y9;have H1:=hc.out.calm c2;have u1:=(H1 4 _ rfl).1;have u2:=(H1 5 _ rfl).1;have u3:=(H1 6 _ rfl).1;have v1:=(H1 4 _ rfl).2;have v2:=(H1 5 _ rfl).2;have v3:=(H1 6 _ rfl).2;have u4:=(H1 8 _ rfl).1;have v4:=(H1 8 _ rfl).2;have u5:=(H1 10 _ rfl).1;have v5:=(H1 10 _ rfl).2;have u6:=(H1 11 _ rfl).1;have v6:=(H1 11 _ rfl).2;replace H1:=hid H1;clear hc;go_wp2
    go_ret2
    have f2:Fr (λk=>k=B.hp) wr W2:=Calm.any c2;have f3:=(((((f2.setCell (p:=⟨B.hp,4,none⟩) (.inl rfl) (vI (1+s'.n))).setCell (p:=⟨B.hp,5,none⟩) (.inl rfl) (vI s'.n)).setCell (p:=⟨B.hp,6,none⟩) (.inl rfl) (vI (1+s'.n))).setCell (p:=⟨B.hp,8,none⟩) (.inl rfl) (.slice none 0 0)).setCell (p:=⟨B.hp,10,none⟩) (.inl rfl) (.bool false)).setCell (p:=⟨B.hp,11,none⟩) (.inl rfl) (vI 0);have H3:=(((((H1.out.set 4 (vI (1+s'.n)) (by simp)).set 5 (vI s'.n) (by simp)).set 6 (vI (1+s'.n)) (by simp)).set 8 (.slice none 0 0) (by simp)).set 10 (.bool false) (by simp)).set 11 (vI 0) (by simp);simp only[iz,jk] at H3;generalize World.setCell _ _ _=W3 at *;have hD:=hA.out.Hn hu (by rw[rU];exact f3) (by rw[rU,hT.out,Ul.out,Um.out];exact H3);have AD:=hn.out;refine⟨jd,sD,lf,lf2,s',ls,_,hS.out,Py.out,hW.out,rfl,hv.out.dw f3 (λb h1 (h2:b=B.hp)=>AD b h1 (.inl (h2.trans rU.symm))),_,X',hD.1,hK.out.trans hD.2⟩
   ·have eb:((s'.base (!s'.u):Nat):Int)=1:=by rw[(bs.1 hu).2];rfl
    rw[eb] at bU;have HJ:=hid (λW=>nF (1) s'.n (s'.hZ:Nat) W bU);simp only[aN,hu,cond_true,cond_false] at hc;clear bU bs eb;generalize hT:((s'.top:Nat):Int)=T at hc;generalize hO:((s'.hZ:Nat):Int)=OT at hc HJ;generalize hD:((eQ s'.aV:Nat):Int)=OW at hc;generalize Ul:((s'.scan:Nat):Int)=SC at hc;generalize Um:((s'.ser:Nat):Int)=SE at hc;replace hT:=hid hT;replace Ul:=hid Ul;replace Um:=hid Um;clear hD hO;have y9:=(hc 9 _ rfl).1;replace hc:=hid hc;go_wp2_with fail
    have q1:=qk hc.out 1 rfl;have q2:=qk hc.out 2 rfl;have q3:=qk hc.out 3 rfl;refine bB 12 (by kernel_rfl) (by kernel_rfl) ?_;simp only[List.take_succ_cons,List.take_zero,List.drop_succ_cons,List.drop_zero]
    repeat (go_big_quiet_step ((go_at_call 205;exact Calls.dC (HJ.out _))))
    refine wpQuiet_nil ?_;intro W2 hw';have c2:=a_.out hw';clear hw' q1 q2 q3 HJ y9;have H1:=hc.out.calm c2;have u1:=(H1 1 _ rfl).1;have u2:=(H1 2 _ rfl).1;have u3:=(H1 3 _ rfl).1;have v1:=(H1 1 _ rfl).2;have v2:=(H1 2 _ rfl).2;have v3:=(H1 3 _ rfl).2;have u4:=(H1 7 _ rfl).1;have v4:=(H1 7 _ rfl).2;have u5:=(H1 10 _ rfl).1;have v5:=(H1 10 _ rfl).2;have u6:=(H1 11 _ rfl).1;have v6:=(H1 11 _ rfl).2;replace H1:=hid H1;clear hc;go_wp2
    go_ret2
    have f2:Fr (λk=>k=B.hp) wr W2:=Calm.any c2;have f3:=(((((f2.setCell (p:=⟨B.hp,1,none⟩) (.inl rfl) (vI 1)).setCell (p:=⟨B.hp,2,none⟩) (.inl rfl) (vI s'.n)).setCell (p:=⟨B.hp,3,none⟩) (.inl rfl) (vI 1)).setCell (p:=⟨B.hp,7,none⟩) (.inl rfl) (.slice none 0 0)).setCell (p:=⟨B.hp,10,none⟩) (.inl rfl) (.bool false)).setCell (p:=⟨B.hp,11,none⟩) (.inl rfl) (vI 0);have H3:=(((((H1.out.set 1 (vI 1) (by simp)).set 2 (vI s'.n) (by simp)).set 3 (vI 1) (by simp)).set 7 (.slice none 0 0) (by simp)).set 10 (.bool false) (by simp)).set 11 (vI 0) (by simp);simp only[iz,jk] at H3;generalize World.setCell _ _ _=W3 at *;have hD:=hA.out.Ho hu (by rw[rU];exact f3) (by rw[rU,hT.out,Ul.out,Um.out];exact H3);have AD:=hn.out;refine⟨jd,sD,lf,lf2,s',ls,_,hS.out,Py.out,hW.out,rfl,hv.out.dw f3 (λb h1 (h2:b=B.hp)=>AD b h1 (.inl (h2.trans rU.symm))),_,X',hD.1,hK.out.trans hD.2⟩
def Entry(s:HS)(p:Nat)(o:Ob):Prop:=(p,o)∈s.cur\/∃m,(p,o,m)∈s.aV
theorem Entry.ok{s:HS}{X:aj}(h:aR s X){p:Nat}{o:Ob}(hp:Entry s p o):o.Ok/\1<=p/\4<=o.took:=by
 have sS:=h.sep;rcases hp with hp|⟨m,hp⟩
 ·obtain⟨a0,a1,a2,_⟩:=h.ig hp;obtain⟨_,_,q,_⟩:=Ob.bF a0;exact⟨a0,by simp only at a1;omega,q⟩
 ·obtain⟨a0,a1,a2⟩:=h.rE hp;obtain⟨_,_,q,_⟩:=Ob.bF a0;exact⟨a0,by simp only at a1;omega,q⟩
theorem Entry.unique{s:HS}{X:aj}(h:aR s X){p:Nat}{o u:Ob}(hp:(p,o)∈s.cur):¬∃m,(p,u,m)∈s.aV:=by
 rintro ⟨m,hq⟩;have cT:=h.apart;have mf:=h.gh;obtain⟨a0,a1,a2,_⟩:=h.ig hp;obtain⟨b0,b1,b2⟩:=h.rE hq;obtain⟨_,_,q1,_⟩:=Ob.bF a0;obtain⟨_,_,q2,_⟩:=Ob.bF b0;simp only at a1 a2 b1 b2 q1 q2;omega
def gQ(s:HS)(q t:Nat):Prop:=∃i o,dB s i q o (some t)
theorem dB.eP{s:HS}{i a:Nat}{o:Ob}{m:Option Nat}(c:dB s i a o m):(a,o,m)∈s.aV:=by rw[<-c.get];exact eO _ c.lt
theorem ni{s:HS}{X:aj}(h:aR s X){x y:Nat × Ob × Option Nat}(hx:x∈s.aV)(hy:y∈s.aV)(e:x.1=y.1):x=y:=by
 obtain⟨i,hi,rfl⟩:=cX oo hx;obtain⟨j,hj,rfl⟩:=cX oo hy;obtain⟨_,_,k1,_⟩:=h.half.ol.at i hi;obtain⟨_,_,k2,_⟩:=h.half.ol.at j hj;obtain⟨_,_,q1,_⟩:=Ob.bF k1;obtain⟨_,_,q2,_⟩:=Ob.bF k2;rcases Nat.lt_trichotomy i j with hl|rfl|hl
 ·have:=h.half.ol.apart i j hl hj;omega
 ·rfl
 ·have:=h.half.ol.apart j i hl hi;omega
theorem gQ.cur{s:HS}{X:aj}(h:aR s X){q t:Nat}(g:gQ s q t):t∈dL s.cur:=by
 obtain⟨i,o,c⟩:=g;exact c.uw h
theorem r_{s:HS}{X:aj}(hr:aR s X){p:Nat}{o u:Ob}(h1:Live s p o)(h2:Live s p u):u=o:=by
 rcases h1 with h1|h1 <;> rcases h2 with h2|h2
 ·obtain⟨i,hi,e1⟩:=cX eF h1;obtain⟨j,hj,e2⟩:=cX eF h2;obtain⟨_,_,q1⟩:=Entry.ok hr (show Entry s p o from .inl h1);obtain⟨_,_,q2⟩:=Entry.ok hr (show Entry s p u from .inl h2)
  by_cases Et:i=j
  ·subst Et;rw[e1] at e2;cases e2;rfl
  ·exfalso;rcases Nat.lt_or_gt_of_ne Et with aM|aM
   ·have:=hr.mX aM hj;rw[e1,e2] at this;simp only at this;omega
   ·have:=hr.mX aM hi;rw[e1,e2] at this;simp only at this;omega
 ·exact absurd ⟨none,h2⟩ (Entry.unique hr h1)
 ·exact absurd ⟨none,h1⟩ (Entry.unique hr h2)
 ·have:=ni hr h1 h2 rfl;cases this;rfl
theorem lY{s:HS}{X:aj}(hr:aR s X){q:Nat}(h:q∈dL s.cur):q∉jL s.aV:=λe=>by
 obtain⟨x,hx,rfl⟩:=List.mem_map.1 h;obtain⟨i,o,m,c⟩:=dB.im e;exact Entry.unique hr (o:=x.2) (u:=o) (by exact hx) ⟨m,c.eP⟩
structure gJ(s:HS):Prop where
 scan:s.mv=true->∃k,k<=s.cur.length/\s.scan=cO (s.base s.u) s.cur k/\∀i,i<k->∀q∈(s.cur.getD i eF).2.aZ,cH s q
 bI:∀p o,Live s p o->o.wk=true->p∈s.bI\/∃a,gQ s a p/\a∈s.bI
 wk:∀q∈s.bI,(∃o,(q,o)∈s.cur/\o.wk=true)\/∃o m,(q,o,m)∈s.aV/\o.wk=true
 fn:∀q∈s.fin,q∈dL s.cur\/q∈jL s.aV
 mJ:s.bI.length<=s.ser/\s.fin.length<=s.ser
theorem uk(b:Nat)(l:List (Nat × Ob))(i:Nat)(x:Nat × Ob)(h:x.2.took=(l.getD i eF).2.took):∀k,cO b (l.set i x) k=cO b l k
 | 0=>rfl
 | k+1=>by
   show cO b (l.set i x) k+((l.set i x).getD k eF).2.took=cO b l k+(l.getD k eF).2.took;rw[uk b l i x h k]
   by_cases e:i=k
   ·subst e
    by_cases hl:i<l.length
    ·rw[dQ l x eF hl,h]
    ·have:l.set i x=l:=List.set_eq_of_length_le (by omega);rw[this]
   ·rw[getD_set_ne l x eF e]
theorem aY.iE{s:HS}{i a:Nat}{o o':Ob}(d:aY s i a o):(s.cV i o').cur=s.cur.set i (a,o'):=by
 unfold HS.cV;have:=d.get;simp only[eF] at this;rw[this]
theorem j8{s:HS}{i:Nat}{o:Ob}{q:Nat} : cH (s.cV i o) q↔cH s q:=by
 unfold cH;rw[mi]
theorem NK{s:HS}{i:Nat}{o:Ob}{a t:Nat} : gQ (s.cV i o) a t↔gQ s a t:=
 ⟨λ⟨j,u,c⟩=>⟨j,u,c.lt,c.get⟩,λ⟨j,u,c⟩=>⟨j,u,c.lt,c.get⟩⟩
theorem aY.Dk{s:HS}{i a:Nat}{o o':Ob}(d:aY s i a o)(h:dV o o'):iP s i a o o':=⟨d.lt,d.get,h⟩
theorem aY.eP{s:HS}{i a:Nat}{o:Ob}(d:aY s i a o):(a,o)∈s.cur:=by rw[<-d.get];exact eO _ d.lt
theorem gJ.cV{s:HS}{X:aj}(h:aR s X)(c:gJ s){i a:Nat}{o o':Ob}(d:aY s i a o)(hs:dV o o')(hp:∀q∈o'.aZ,q∈o.aZ\/cH s q):gJ (s.cV i o'):=by
 have m:=d.Dk hs;refine⟨λhm=>?_,λp u hl hw=>?_,λq hq=>?_,λq hq=>?_,c.mJ⟩
 ·obtain⟨k,h1,h2,h3⟩:=c.scan hm;refine⟨k,by rw[d.iE,bN];exact h1,?_,λj hj q hq=>?_⟩
  ·rw[d.iE];rw[uk _ _ _ _ (by rw[d.get];exact hs.took)];exact h2
  ·rw[j8];rw[d.iE] at hq
   by_cases e:i=j
   ·subst e;rw[dQ _ _ _ d.lt] at hq;rcases hp q hq with h4|h4
    ·refine h3 i hj q ?_;rw[d.get];exact h4
    ·exact h4
   ·rw[getD_set_ne _ _ _ e] at hq;exact h3 j hj q hq
 ·have key:p∈s.bI\/∃a,gQ s a p/\a∈s.bI:=by
   rcases m.live h hl with (⟨h1,_⟩|⟨h1,_⟩)|⟨rfl,rfl⟩
   ·exact c.bI p u h1 hw
   ·exact c.bI p u h1 hw
   ·exact c.bI p o (.inl m.mem) (by rw[<-hs.2.2.1];exact hw)
  exact key.imp id (λ⟨a,h1,h2⟩=>⟨a,NK.2 h1,h2⟩)
 ·rcases c.wk q hq with ⟨u,h1,h2⟩|h1
  ·left
   by_cases e:q=a
   ·subst e;refine⟨o',m.there,?_⟩;have:=r_ h (.inl h1:Live s q u) (.inl m.mem);rw[hs.2.2.1,this];exact h2
   ·exact⟨u,m.L7 h1 e,h2⟩
  ·exact .inr h1
 ·rw[mi];exact c.fn q hq
theorem yq(s:HS)(i:Nat):dL (s.move i).cur=dL s.cur++[s.top]:=by
 show(s.cur++[(s.top,(s.aV.getD i oo).2.1)]).map (·.1)=_;simp[dL]
theorem dB.uX{s:HS}{i a:Nat}{o:Ob}(c:dB s i a o none):eN s i a o:=⟨c.lt,c.get⟩
theorem gQ.keep{s s':HS}{p q:Nat}(g:Goes s p s' q){a t:Nat}(h:gQ s a t):gQ s' a t:=by
 cases g with
 | stay _=>exact h
 | gone _=>exact h
 | @move j u d=>
   obtain⟨i,o,c⟩:=h;have e:(s.move j).aV=s.aV.set j (p,u,some s.top):=by unfold HS.move;rw[d.get]
   have hne:i≠j:=λe2=>by
    subst e2;have h1:=c.get;rw[d.get] at h1;cases h1
   refine⟨i,o,by rw[e,bN];exact c.lt,?_⟩;rw[e];have h1:=c.get;simp only[List.getD,List.getElem?_set,if_neg (Ne.symm hne)] at h1 ⊢;exact h1
theorem gJ.goes{s s':HS}{X:aj}(h:aR s X)(c:gJ s){p q:Nat}(g:Goes s p s' q):gJ s':=by
 cases g with
 | stay _=>exact c
 | gone _=>exact c
 | @move j u d=>
   have m:=d.uX;have ec:=m.cur;refine⟨λhm=>?_,λz v hl hw=>?_,λz hz=>?_,λz hz=>?_,c.mJ⟩
   ·obtain⟨k,h1,h2,h3⟩:=c.scan hm;refine⟨k,by rw[ec.1,b_];omega,?_,λi hi z hz=>?_⟩
    ·rw[ec.1,jI _ _ _ h1];exact h2
    ·rw[ec.1,fH _ _ _ (by omega)] at hz;exact(Goes.move d:Goes s p (s.move j) s.top).zY (h3 i hi z hz)
   ·rcases m.live h hl with h1|⟨rfl,rfl⟩
    ·exact(c.bI z v h1 hw).imp id (λ⟨a,h2,h3⟩=>⟨a,h2.keep (Goes.move d),h3⟩)
    ·rcases c.bI p v (.inr m.mem) hw with h2|⟨a,h2,_⟩
     ·exact .inr ⟨p,⟨j,v,by rw[ec.2,bN];exact d.lt,by rw[ec.2];exact dQ _ _ _ d.lt⟩,h2⟩
     ·exfalso;exact lY h (h2.cur h) d.mem
   ·rcases c.wk z hz with ⟨o,h1,h2⟩|⟨o,k,h1,h2⟩
    ·exact .inl ⟨o,by rw[ec.1];simp[h1],h2⟩
    ·right
     by_cases e:z=p
     ·subst e;have:=ni h h1 m.mem rfl;cases this;exact⟨u,_,m.there,h2⟩
     ·exact⟨o,k,m.L8 h1 e,h2⟩
   ·rw[yq,m_ d];rcases c.fn z hz with h1|h1
    ·exact .inl (by simp[h1])
    ·exact .inr h1
theorem gJ.jx{s s':HS}{l l':aj}(c:gJ s)(g:cK s l s' l'):∀ {X:aj},aR s X->(∀ {s1:HS} {l1 Xr:aj},cK s l1 s1 Xr->∃X1,aR s1 X1)->gJ s':=by
 intro X h hx
 induction g with
 | nil=>exact c
 | snoc g1 g2 ih=>
   obtain⟨X1,h1⟩:=hx g1;exact ih.goes h1 g2
theorem Goes.rep{s s':HS}{X:aj}(h:aR s X){p q:Nat}(g:Goes s p s' q):∃X',aR s' X':=by
 cases g with
 | stay _=>exact⟨X,h⟩
 | gone _=>exact⟨X,h⟩
 | move d=>exact⟨_,(h.move d.lt d.get).1⟩
theorem cK.rep{s s':HS}{X:aj}(h:aR s X){l l':aj}(g:cK s l s' l'):∃X',aR s' X':=by
 induction g with
 | nil=>exact⟨X,h⟩
 | snoc g1 g2 ih=>
   obtain⟨X1,h1⟩:=ih;exact g2.rep h1
theorem gJ.T_{s s':HS}{X:aj}(h:aR s X){l l':aj}(c:gJ s)(g:cK s l s' l'):gJ s':=c.jx g h (λg1=>g1.rep h)
theorem gJ.alloc{s:HS}(c:gJ s){p d:Nat}{wk fn:Bool} : gJ (s.alloc p d wk fn):=by
 have e:(s.alloc p d wk fn).cur=s.cur++[(s.top,Ob.new p d wk fn (s.ser+1))]:=rfl;have ep:dL (s.alloc p d wk fn).cur=dL s.cur++[s.top]:=by rw[e];simp[dL]
 have ew:∀z,z∈s.bI->z∈(s.alloc p d wk fn).bI:=λz hz=>by
  show z∈(bif wk then s.bI++[s.top] else s.bI);cases wk <;> simp[hz]
 refine⟨λhm=>?_,λz v hl hw=>?_,λz hz=>?_,λz hz=>?_,?_⟩
 ·obtain⟨k,h1,h2,h3⟩:=c.scan hm;refine⟨k,by rw[e,b_];omega,?_,λi hi z hz=>?_⟩
  ·rw[e,jI _ _ _ h1];exact h2
  ·rw[e,fH _ _ _ (by omega)] at hz;unfold cH;rw[ep];rcases h3 i hi z hz with h4|h4
   ·exact .inl h4
   ·exact .inr (by simp[h4])
 ·rcases oR hl with h1|⟨rfl,rfl⟩
  ·exact(c.bI z v h1 hw).imp (ew z) (λ⟨a,⟨i,u,h2⟩,h3⟩=>⟨a,⟨i,u,h2.lt,h2.get⟩,ew a h3⟩)
  ·left;have hw:wk=true:=hw;subst hw;show s.top∈s.bI++[s.top];simp
 ·have hz:z∈(bif wk then s.bI++[s.top] else s.bI):=hz
  have aV:z∈s.bI->(∃o,(z,o)∈(s.alloc p d wk fn).cur/\o.wk=true)\/∃o m,(z,o,m)∈(s.alloc p d wk fn).aV/\o.wk=true:=λhz=>by
   rcases c.wk z hz with ⟨o,h1,h2⟩|h1
   ·exact .inl ⟨o,by rw[e];simp[h1],h2⟩
   ·exact .inr h1
  cases wk
  ·exact aV hz
  ·simp only[cond_true] at hz;rcases cJ.1 hz with hz|hz
   ·exact aV hz
   ·have:=gH.1 hz;subst this;exact .inl ⟨_,DO,rfl⟩
 ·have hz:z∈(bif fn then s.fin++[s.top] else s.fin):=hz
  have aV:z∈s.fin->z∈dL (s.alloc p d wk fn).cur\/z∈jL (s.alloc p d wk fn).aV:=λhz=>by
   rw[ep];rcases c.fn z hz with h1|h1
   ·exact .inl (by simp[h1])
   ·exact .inr h1
  cases fn
  ·exact aV hz
  ·simp only[cond_true] at hz;rcases cJ.1 hz with hz|hz
   ·exact aV hz
   ·have:=gH.1 hz;subst this;rw[ep];exact .inl (by simp)
 ·have hf:=c.mJ;show(bif wk then s.bI++[s.top] else s.bI).length<=s.ser+1/\(bif fn then s.fin++[s.top] else s.fin).length<=s.ser+1;cases wk <;> cases fn <;> simp <;> omega
theorem gJ.flip{s:HS}(c:gJ s)(ho:s.aV=[]):gJ s.flip:=by
 have ng:∀a p,¬gQ s a p:=λa p ⟨i,o,c⟩=>by have:=c.lt;rw[ho] at this;simp at this
 refine⟨λ_=>⟨0,bY _,rfl,λi hi=>by omega⟩,λp u hl hw=>?_,λq hq=>?_,λq hq=>?_,c.mJ⟩
 ·rcases c.bI p u ((qW ho).1 hl) hw with h|⟨a,h,_⟩
  ·exact .inl h
  ·exact absurd h (ng a p)
 ·rcases c.wk q hq with ⟨o,h1,h2⟩|⟨o,m,h1,h2⟩
  ·exact .inr ⟨o,none,List.mem_map.2 ⟨_,h1,rfl⟩,h2⟩
  ·rw[ho] at h1;cases h1
 ·rcases c.fn q hq with h1|h1
  ·right;rw[Bo];exact h1
  ·rw[ho] at h1;cases h1
theorem gJ.start(n:Nat):gJ (HS.start n):=
 ⟨(λh=>by cases h),(λp o h=>by rcases h with h|h <;> cases h),(λq h=>by cases h),(λq h=>by cases h),⟨aD _,aD _⟩⟩
theorem bL.MX{s:HS}{l st lf:aj}(h:bL s l st lf){p:Nat}(hp:p∈l)(hn:p∉jL s.aV):p∈st:=by
 induction h with
 | nil=>cases hp
 | stay h hq ih=>
   rcases cJ.1 hp with hp|hp
   ·exact cJ.2 (.inl (ih hp))
   ·exact cJ.2 (.inr hp)
 | gone h c ih=>
   rcases cJ.1 hp with hp|hp
   ·exact cJ.2 (.inl (ih hp))
   ·have:=gH.1 hp;subst this;exact absurd c.mem hn
 | left h c ih=>
   rcases cJ.1 hp with hp|hp
   ·exact ih hp
   ·have:=gH.1 hp;subst this;exact absurd c.mem hn
theorem bL.Kq{s:HS}{X:aj}(hr:aR s X){l st lf:aj}(h:bL s l st lf){a t:Nat}(ha:a∈l)(hg:gQ s a t):t∈st:=by
 obtain⟨i,o,d⟩:=hg
 induction h with
 | nil=>cases ha
 | stay h hq ih=>
   rcases cJ.1 ha with hp|hp
   ·exact cJ.2 (.inl (ih hp))
   ·have:=gH.1 hp;subst this;exact absurd d.mem hq
 | gone h c ih=>
   rcases cJ.1 ha with hp|hp
   ·exact cJ.2 (.inl (ih hp))
   ·have:=gH.1 hp;subst this;have:=ni hr c.eP d.eP rfl;cases this;exact cJ.2 (.inr (gH.2 rfl))
 | left h c ih=>
   rcases cJ.1 ha with hp|hp
   ·exact ih hp
   ·have:=gH.1 hp;subst this;have:=ni hr c.eP d.eP rfl;cases this
theorem bL.Ah{s:HS}{l st lf:aj}(h:bL s l st lf){q:Nat}(hq:q∈st):(q∈l/\q∉jL s.aV)\/∃a,a∈l/\gQ s a q:=by
 induction h with
 | nil=>cases hq
 | stay h hp ih=>
   rcases cJ.1 hq with h1|h1
   ·exact(ih h1).imp (λ⟨a,b⟩=>⟨cJ.2 (.inl a),b⟩) (λ⟨a,b,c⟩=>⟨a,cJ.2 (.inl b),c⟩)
   ·have:=gH.1 h1;subst this;exact .inl ⟨cJ.2 (.inr h1),hp⟩
 | gone h c ih=>
   rcases cJ.1 hq with h1|h1
   ·exact(ih h1).imp (λ⟨a,b⟩=>⟨cJ.2 (.inl a),b⟩) (λ⟨a,b,c⟩=>⟨a,cJ.2 (.inl b),c⟩)
   ·have:=gH.1 h1;subst this;exact .inr ⟨_,cJ.2 (.inr (gH.2 rfl)),⟨_,_,c⟩⟩
 | left h c ih=>
   exact(ih hq).imp (λ⟨a,b⟩=>⟨cJ.2 (.inl a),b⟩) (λ⟨a,b,c⟩=>⟨a,cJ.2 (.inl b),c⟩)
theorem gJ.Ae{s:HS}{X:aj}(h:aR s X)(c:gJ s){st lf:aj}(hs:bL s s.fin st lf):gJ { s with fin:=st }:=by
 refine⟨λhm=>c.scan hm,λp u hl hw=>(c.bI p u hl hw).imp id (λ⟨a,⟨i,o,d⟩,h2⟩=>⟨a,⟨i,o,d.lt,d.get⟩,h2⟩),c.wk,λq hq=>?_,⟨c.mJ.1,?_⟩⟩
 ·rcases hs.Ah hq with ⟨h1,h2⟩|⟨a,h1,h2⟩
  ·exact c.fn q h1
  ·exact .inl (h2.cur h)
 ·have:=hs.len;have:=c.mJ.2;show st.length<=s.ser;omega
theorem gJ.QL{s s':HS}{X X':aj}(h:aR s X)(c:gJ s){k a:Nat}{o:Ob}(d:aY s k a o)(hs:s.scan=a){l':aj}(g:cK s o.aZ s' l')(hq:∀q∈l',cH s' q)(h':aR s' X')(hk:s.mv=true)
 : gJ { s'.cV k (o.cD l') with scan:=s.scan+o.took }:=by
 have c':=c.T_ h g;have d':=g.cur d;have bU:=(d.at_ h).ok;have hlen:=g.len
 have cM:∀q∈(o.cD l').aZ,q∈l':=λq hq=>by
  unfold Ob.aZ at hq;split at hq
  ·cases hq
  ·rename_i hw
   have nL:o.wk=false:=by
    have:(o.cD l').wk=o.wk:=rfl;rw[this] at hw;cases ho:o.wk
    ·rfl
    ·exact absurd ho hw
   have Ig:o.aZ=o.ps:=by unfold Ob.aZ;rw[if_neg (by rw[nL];decide)]
   have e:(o.cD l').ps=l':=by
    unfold Ob.cD Ob.vL;simp only[List.take_length];rw[List.drop_of_length_le (by rw[hlen,Ig];exact aD _),List.append_nil]
   rw[e] at hq;exact hq
 have cu:=c'.cV h' d' (o':=o.cD l') (o.jN l') (λq Lo=>.inr (hq q (cM q Lo)));obtain⟨k0,h1,h2,h3⟩:=c'.scan (by rw[g.same.2.2.1];exact hk);have kI:=h'.place d'.lt;rw[d'.get] at kI;have hsc:s'.scan=a:=by rw[g.same.2.2.2.1];exact hs
 have ZJ:k0=k:=by
  have e1:cO (s'.base s'.u) s'.cur k0=cO (s'.base s'.u) s'.cur k:=by rw[<-h2,hsc];exact kI.1
  have aM:=d'.lt;rcases Nat.lt_trichotomy k0 k with hl|he|hl
  ·have:=lx (s'.base s'.u) s'.cur (show k0+1<=k from hl);have h5:cO (s'.base s'.u) s'.cur (k0+1)=cO (s'.base s'.u) s'.cur k0+(s'.cur.getD k0 eF).2.took:=rfl;have h6:=(Ob.bF (h'.at_ (show k0<s'.cur.length by omega)).ok).2.2.1;have h6:4<=(s'.cur.getD k0 eF).2.took:=h6;omega
  ·exact he
  ·have:=lx (s'.base s'.u) s'.cur (show k+1<=k0 from hl);have h5:cO (s'.base s'.u) s'.cur (k+1)=cO (s'.base s'.u) s'.cur k+(s'.cur.getD k eF).2.took:=rfl;have h6:=(Ob.bF (h'.at_ aM).ok).2.2.1;have h6:4<=(s'.cur.getD k eF).2.took:=h6;omega
 subst ZJ;refine⟨λ_=>⟨k0+1,?_,?_,λi hi q Lo=>?_⟩,λp u hl hw=>(cu.bI p u hl hw).imp id (λ⟨b,⟨i,v,c⟩,h2⟩=>⟨b,⟨i,v,c.lt,c.get⟩,h2⟩),cu.wk,cu.fn,cu.mJ⟩
 ·show k0+1<=(s'.cV k0 (o.cD l')).cur.length;rw[d'.iE,bN];have:=d'.lt;omega
 ·show s.scan+o.took=cO (s'.base s'.u) (s'.cV k0 (o.cD l')).cur (k0+1);rw[d'.iE,uk _ _ _ _ (by rw[d'.get];rfl)];show _=cO (s'.base s'.u) s'.cur k0+(s'.cur.getD k0 eF).2.took;rw[d'.get,<-h2,hsc,hs]
 ·have Lo:q∈((s'.cV k0 (o.cD l')).cur.getD i eF).2.aZ:=Lo;show cH (s'.cV k0 (o.cD l')) q;rw[j8];rw[d'.iE] at Lo
  by_cases e:k0=i
  ·subst e;rw[dQ _ _ _ d'.lt] at Lo;exact hq q (cM q Lo)
  ·rw[getD_set_ne _ _ _ e] at Lo;exact h3 i (by omega) q Lo
theorem Goes.Fi{s s':HS}(w:WF s){p q:Nat}(g:Goes s p s' q):GV s s':=λx n h=>by
 cases g with
 | stay _=>exact h
 | gone _=>exact h
 | move d=>exact d.uX.ref w h
theorem Goes.ref{s s':HS}{X:aj}(hr:aR s X)(w:WF s){p q n:Nat}(g:Goes s p s' q)(h:Ref s p n):Ref s' q n:=by
 cases g with
 | stay _=>exact h
 | @gone i t o c=>
   have hp:Ref s p o.ser:=.inr (.inr ⟨o,_,c.eP,rfl⟩);have:=Ref.unique w h hp;subst this;obtain⟨o',h1,h2⟩:=w.gone p o _ c.eP;exact .inr (.inl ⟨o',h1,h2.2.2.2.2⟩)
 | @move i o c=>
   have hp:Ref s p o.ser:=.inr (.inr ⟨o,_,c.eP,rfl⟩);have:=Ref.unique w h hp;subst this;exact c.uX.ach
theorem Tw.goes{σ:Nat->Nat}{A A' B:HS}{X:aj}(t:Tw σ A B)(h:aR A X){p q:Nat}(g:Goes A p A' q):Tw σ A' B:=by
 cases g with
 | stay _=>exact t
 | gone _=>exact t
 | move d=>exact t.move h d.uX
theorem Ref.place{s:HS}{p n:Nat}(h:Ref s p n):Place s p:=by
 rcases h with ⟨h,_⟩|⟨o,h,_⟩|⟨o,m,h,_⟩
 ·exact .inl h
 ·exact .inr (.inl (List.mem_map.2 ⟨_,h,rfl⟩))
 ·exact .inr (.inr (List.mem_map.2 ⟨_,h,rfl⟩))
structure FJ(σ:Nat->Nat)(A B:HS)(R S:aj)(m:Nat):Prop where
 lr:R.length=4
 ls:S.length=4
 here:∀j,j<m->cH A (R.getD j 0)
 ref:∀j,j<4->∃n,n<=B.ser/\Ref A (R.getD j 0) (σ n)/\Ref B (S.getD j 0) n
structure gK(σ:Nat->Nat)(A B:HS)(R S:aj)(m:Nat):Prop where
 tw:Tw σ A B
 ca:gJ A
 bm:B.mv=false
 bn:B.n=16000
 bt:bZ B.cur<=24*B.ser
 bf:B.bI.length<=B.ser/\B.fin.length<=B.ser
 rg:FJ σ A B R S m
theorem D6{R:aj}{i j q:Nat}(hi:i<R.length):(R.set i q).getD j 0=if i=j then q else R.getD j 0:=by
 simp only[List.getD,List.getElem?_set]
 by_cases h:i=j
 ·subst h;simp[hi]
 ·simp[h]
theorem FJ.left{σ:Nat->Nat}{A A' B:HS}{R S:aj}{m:Nat}(h:FJ σ A B R S m)(hp:∀q,cH A q->cH A' q)(hr:GV A A'):FJ σ A' B R S m:=
 ⟨h.lr,h.ls,λj hj=>hp _ (h.here j hj),λj hj=>let ⟨n,h1,h2,h3⟩:=h.ref j hj;⟨n,h1,hr _ _ h2,h3⟩⟩
theorem gK.left{σ:Nat->Nat}{A A' B:HS}{R S:aj}{m:Nat}(h:gK σ A B R S m)(t:Tw σ A' B)(c:gJ A')(hp:∀q,cH A q->cH A' q)(hr:GV A A'):gK σ A' B R S m:=
 ⟨t,c,h.bm,h.bn,h.bt,h.bf,h.rg.left hp hr⟩
theorem gK.goes{σ:Nat->Nat}{A A' B:HS}{R S:aj}{m:Nat}{X:aj}(h:gK σ A B R S m)(hA:aR A X){p q:Nat}(g:Goes A p A' q):gK σ A' B R S m:=
 h.left (h.tw.goes hA g) (h.ca.goes hA g) (λ_ h=>g.zY h) (g.Fi h.tw.wa)
theorem gK.jx{σ:Nat->Nat}{A A' B:HS}{R S:aj}{m:Nat}{X:aj}(h:gK σ A B R S m)(hA:aR A X){l l':aj}(g:cK A l A' l'):gK σ A' B R S m:=by
 induction g with
 | nil=>exact h
 | snoc g1 g2 ih=>
   obtain⟨X1,h1⟩:=g1.rep hA;exact ih.goes h1 g2
theorem cK.Fi{s s':HS}{X:aj}(hr:aR s X)(w:WF s){l l':aj}(g:cK s l s' l'):GV s s'/\WF s':=by
 induction g with
 | nil=>exact⟨λ_ _ h=>h,w⟩
 | snoc g1 g2 ih=>
   obtain⟨X1,h1⟩:=g1.rep hr;obtain⟨X2,h2⟩:=g2.rep h1;refine⟨λp n h=>g2.Fi ih.2 p n (ih.1 p n h),?_⟩
   cases g2 with
   | stay _=>exact ih.2
   | gone _=>exact ih.2
   | move d=>exact WF.of h2 (d.uX.sem h1 ih.2)
theorem cK.get{s s':HS}{X:aj}(hr:aR s X)(w:WF s){l l':aj}(g:cK s l s' l'){j n:Nat}(hj:j<l.length)(h:Ref s (l.getD j 0) n):Ref s' (l'.getD j 0) n:=by
 induction g with
 | nil=>simp at hj
 | @snoc l l' s1 s2 p q g1 g2 ih=>
   obtain⟨X1,h1⟩:=g1.rep hr;have hk:=g1.Fi hr w;have hlen:=g1.len;rcases fB j l.length with hl|hl
   ·rw[fH _ _ _ hl] at h;rw[fH _ _ _ (by omega)];exact g2.Fi hk.2 _ _ (ih hl h)
   ·obtain rfl:j=l.length:=by simp at hj;omega
    rw[jS] at h;rw[<-hlen,jS];exact g2.ref h1 hk.2 (hk.1 _ _ h)
theorem rR{s:HS}(ho:s.aV=[]):GV s s.flip:=λp n h=>(uu ho).2 h
theorem gK.flip{σ:Nat->Nat}{A B:HS}{R S X:aj}(h:gK σ A B R S 4)(hA:aR A X)(hm:A.mv=false):gK σ A.flip B R S 0:=by
 have ho:=hA.still hm;exact⟨h.tw.flip hA hm,h.ca.flip ho,h.bm,h.bn,h.bt,h.bf,⟨h.rg.lr,h.rg.ls,λj hj=>by omega,λj hj=>let ⟨n,h1,h2,h3⟩:=h.rg.ref j hj;⟨n,h1,rR ho _ _ h2,h3⟩⟩⟩
theorem WF.vG{s:HS}(w:WF s)(m:Nat):WF { s with scan:=m }:=⟨w.py,w.sW,w.JB,w.Om,w.NJ,w.Xx,w.plO,w.plM,w.Mr,w.Ms,w.ptr,w.gone⟩
theorem Tw.vG{σ:Nat->Nat}{A B:HS}(t:Tw σ A B)(m:Nat):Tw σ { A with scan:=m } B:=⟨t.wa.vG m,t.wb,t.still,t.z,t.rng,t.inj,t.obj⟩
theorem Tw.Wh{σ:Nat->Nat}{A B:HS}(t:Tw σ A B)(k l:aj):Tw σ { A with bI:=k,fin:=l } B:=
 ⟨⟨t.wa.py,t.wa.sW,t.wa.JB,t.wa.Om,t.wa.NJ,t.wa.Xx,t.wa.plO,t.wa.plM,t.wa.Mr,t.wa.Ms,t.wa.ptr,t.wa.gone⟩,t.wb,t.still,t.z,t.rng,t.inj,t.obj⟩
theorem gK.scan{σ:Nat->Nat}{A s' B:HS}{R S:aj}{m:Nat}{X X':aj}(h:gK σ A B R S m)(hA:aR A X){k a:Nat}{o:Ob}(d:aY A k a o)(hs:A.scan=a)(hm:A.mv=true){l':aj}(g:cK A o.aZ s' l')(hq:∀q∈l',cH s' q)
 (h':aR { s'.cV k (o.cD l') with scan:=A.scan+o.took } X'):gK σ { s'.cV k (o.cD l') with scan:=A.scan+o.took } B R S m:=by
 obtain⟨X1,h1⟩:=g.rep hA;have p1:=h.jx hA g;have d':=g.cur d;have bU:=(d.at_ hA).ok;have hu:aR (s'.cV k (o.cD l')) X':=⟨h'.n1,h'.n2,h'.len,h'.zero,h'.half,h'.lL,h'.room,h'.still,h'.ser,h'.mJ⟩;have hlen:=g.len;have Ig:=Ob.jc bU
 have BW:tO o (o.cD l'):=⟨rfl,rfl,rfl,rfl,rfl,rfl,bU.lp,by
  show((l'.take l'.length)++o.ps.drop l'.length).length=o.p;rw[List.take_length,b_,List.length_drop,hlen,Ig,bU.lp]
  split <;> omega⟩
 have tE:∀j,j<o.p->∀n,Ref s' (o.ps.getD j 0) n->Ref s' ((o.cD l').ps.getD j 0) n:=λj hj n hn=>by
  by_cases hw:o.wk=true
  ·have e0:l'=[]:=List.eq_nil_of_length_eq_zero (by rw[hlen,Ig,if_pos hw]);subst e0;exact hn
  ·have P4:o.aZ=o.ps:=by unfold Ob.aZ;rw[if_neg hw]
   have e:(o.cD l').ps=l':=by
    unfold Ob.cD Ob.vL;simp only[List.take_length];rw[List.drop_of_length_le (by rw[hlen,P4];exact aD _),List.append_nil]
   rw[e];obtain⟨n',sP⟩:=h.tw.wa.ptr a o (.inl d.eP) (o.ps.getD j 0) (eO 0 (by rw[bU.lp];exact hj));have h3:=(g.Fi hA h.tw.wa).1 _ _ sP;have:=Ref.unique p1.tw.wa h3 hn;subst this;rw[P4] at g;exact g.get hA h.tw.wa (by rw[bU.lp];exact hj) sP
 have t2:=p1.tw.aaV h1 (d'.Dk (o.jN l')) hu BW tE;refine p1.left (t2.vG _) (h.ca.QL hA d hs g hq h1 hm) (λq hq=>?_) (λp n hp=>(d'.Dk (o.jN l')).ref p1.tw.wa hp);exact j8.2 hq
theorem MQ{o:Ob}(h:o.Ok){k q:Nat}(hk:k<o.p):tO o (o.e_ true k q):=⟨rfl,rfl,rfl,rfl,rfl,rfl,h.lp,by show(o.ps.set k q).length=o.p;rw[bN];exact h.lp⟩
theorem vN{o:Ob}(h:o.Ok){k q j:Nat}(hk:k<o.p):(o.e_ true k q).ps.getD j 0=if k=j then q else o.ps.getD j 0:=by
 show(o.ps.set ((k:Int).toNat) q).getD j 0=_;rw[Int.toNat_natCast];exact D6 (by rw[h.lp];exact hk)
theorem Db{o:Ob}{k q:Nat} : ∀z∈(o.e_ true k q).aZ,z∈o.aZ\/z=q:=λz hz=>by
 unfold Ob.aZ at hz ⊢;have hw:(o.e_ true (k:Int) q).wk=o.wk:=rfl;rw[hw] at hz;split at hz
 ·cases hz
 ·rename_i h;rw[if_neg h];have hz:z∈o.ps.set ((k:Int).toNat) q:=hz;rcases List.mem_or_eq_of_mem_set hz with h|h
  ·exact .inl h
  ·exact .inr h
theorem gK.ptr{σ:Nat->Nat}{A s' B:HS}{R S X X':aj}(h:gK σ A B R S 4)(hA:aR A X){i a k q:Nat}{o:Ob}(d:aY A i a o)(hk:k<o.p)(g:Goes A (o.ps.getD k 0) s' q)(h':aR (s'.cV i (o.e_ true k q)) X') :
 gK σ (s'.cV i (o.e_ true k q)) B R S 4/\cH (s'.cV i (o.e_ true k q)) q/\∀n,Ref A (o.ps.getD k 0) n->Ref (s'.cV i (o.e_ true k q)) q n:=by
 obtain⟨X1,h1⟩:=g.rep hA;have p1:=h.goes hA g;have d':=g.cur d;have bU:=(d.at_ hA).ok;obtain⟨n0,wU⟩:=h.tw.wa.ptr a o (.inl d.eP) (o.ps.getD k 0) (eO 0 (by rw[bU.lp];exact hk));have hq:=g.here hA wU.place;have wA:∀n,Ref A (o.ps.getD k 0) n->Ref s' q n:=λn hn=>g.ref hA h.tw.wa hn;have m:=d'.Dk (o.cZ true k q)
 have t2:=p1.tw.aaV h1 m h' (MQ bU hk) (λj hj n hn=>by
  rw[vN bU hk];split
  ·rename_i e;subst e;have:=Ref.unique p1.tw.wa (g.Fi h.tw.wa _ _ wU) hn;subst this;exact wA _ wU
  ·exact hn)
 refine⟨p1.left t2 (p1.ca.cV h1 d' (o.cZ true k q) (λz hz=>(Db z hz).imp id (λe=>by rw[e];exact hq))) (λz hz=>j8.2 hz) (λp n hp=>m.ref p1.tw.wa hp),j8.2 hq,λn hn=>m.ref p1.tw.wa (wA n hn)⟩
theorem I6{s:HS}{i a:Nat}{o o':Ob}(d:aY s i a o)(h:dV o o'):bZ (s.cV i o').cur=bZ s.cur:=by
 rw[d.iE];exact nP _ _ _ d.lt (by rw[show s.cur.getD i (0,Ob.new 0 0 false false 0)=(a,o) from d.get];exact h.took)
theorem gK.DN{σ:Nat->Nat}{A B:HS}{R S X X':aj}(h:gK σ A B R S 4)(hA:aR A X){p d:Nat}{wk fn:Bool}(WO:aR (A.alloc p d wk fn) X'):gK σ (A.alloc p d wk fn) B R S 4:=by
 have kI:dL (A.alloc p d wk fn).cur=dL A.cur++[A.top]:=by
  show(A.cur++[(A.top,Ob.new p d wk fn (A.ser+1))]).map (·.1)=_;simp[dL]
 refine h.left (h.tw.DN hA WO) h.ca.alloc (λq hq=>?_) qO;unfold cH;rw[kI];exact hq.imp id (λh=>cJ.2 (.inl h))
theorem gK.Ae{σ:Nat->Nat}{A B:HS}{R S X:aj}{m:Nat}(h:gK σ A B R S m)(hA:aR A X){st lf:aj}(hs:bL A A.fin st lf):gK σ { A with fin:=st } B R S m:=
 h.left (h.tw.Wh A.bI st) (h.ca.Ae hA hs) (λq hq=>hq) (λp n hp=>hp)
theorem gK.TT{σ:Nat->Nat}{A s' B:HS}{R S X:aj}{m:Nat}(h:gK σ A B R S m)(hA:aR A X){st lf l':aj}(hs:bL A A.fin st lf)(cM:st.length<=100000)(g:cK { A with fin:=st } lf s' l'):gK σ s' B R S m:=
 (h.Ae hA hs).jx (X:=X) ⟨hA.n1,hA.n2,hA.len,hA.zero,hA.half,hA.lL,hA.room,hA.still,hA.ser,⟨hA.mJ.1,cM⟩⟩ g
theorem WF.start(n:Nat):WF (HS.start n):=
 ⟨(λx h=>by cases h),(λx h=>by cases h),(λx h=>by cases h),(λx h=>by cases h),(λx h=>by cases h),(λx h=>by cases h),(λx h=>by cases h),(λx h=>by cases h),(λx h=>by cases h),(λx h=>by cases h),(λp o h=>by rcases h with h|h <;> cases h),(λa o t h=>by cases h)⟩
def JU(A:HS)(done:Prop)(o o':Ob):Prop:=
 (o'=o/\(done->o.ps.getD 0 0∉jL A.aV))\/∃q,o'=o.e_ true 0 q/\o.wk=true/\(gQ A (o.ps.getD 0 0) q\/((∃j u,dB A j (o.ps.getD 0 0) u none)/\q=0))
structure NX(A:HS)(l:aj)(s:HS):Prop where
 n:s.n=A.n
 u:s.u=A.u
 mv:s.mv=A.mv
 aV:s.aV=A.aV
 ser:s.ser=A.ser
 bI:s.bI=A.bI
 fin:s.fin=A.fin
 len:s.cur.length=A.cur.length
 obj:∀i,i<A.cur.length->(s.cur.getD i eF).1=(A.cur.getD i eF).1/\JU A ((A.cur.getD i eF).1∈l) (A.cur.getD i eF).2 (s.cur.getD i eF).2
theorem NX.start(A:HS):NX A [] A:=⟨rfl,rfl,rfl,rfl,rfl,rfl,rfl,rfl,λi hi=>⟨rfl,.inl ⟨rfl,λh=>by cases h⟩⟩⟩
theorem aR.nN{s:HS}{X:aj}(h:aR s X){i j:Nat}(hi:i<s.cur.length)(hj:j<s.cur.length)(e:(s.cur.getD i eF).1=(s.cur.getD j eF).1):i=j:=by
 obtain⟨_,_,q1,_⟩:=Ob.bF (h.at_ hi).ok;obtain⟨_,_,q2,_⟩:=Ob.bF (h.at_ hj).ok;have q1:4<=(s.cur.getD i eF).2.took:=q1;have q2:4<=(s.cur.getD j eF).2.took:=q2;rcases Nat.lt_trichotomy i j with hl|he|hl
 ·have:=h.mX hl hj;omega
 ·exact he
 ·have:=h.mX hl hi;omega
theorem JU.mono{A:HS}{P Q:Prop}{o o':Ob}(h:JU A P o o')(hq:Q->P\/o.ps.getD 0 0∉jL A.aV):JU A Q o o':=
 h.imp (λ⟨h1,h2⟩=>⟨h1,λq=>(hq q).elim h2 id⟩) id
theorem JU.fresh{A:HS}{X:aj}(h:aR A X){P:Prop}{o o':Ob}(bU:o.Ok)(w:JU A P o o')(hne:o'≠o):o'.ps.getD 0 0∉jL A.aV:=by
 rcases w with ⟨h1,_⟩|⟨q,h1,h2,h3⟩
 ·exact absurd h1 hne
 ·have hp:=Ob.Ap bU h2;have e:o'.ps.getD 0 0=q:=by rw[h1];exact(vN (k:=0) (j:=0) bU (by omega)).trans (if_pos rfl)
  rw[e];rcases h3 with h3|⟨_,h3⟩
  ·exact lY h (h3.cur h)
  ·rw[h3];intro hm;obtain⟨i,u,m,c⟩:=dB.im hm;have:=(Entry.ok h (show Entry A 0 u from .inr ⟨m,c.eP⟩)).2.1;omega
theorem NX.step{A s s2:HS}{X:aj}(h:aR A X){l m:aj}{q:Nat}(w:NX A l s)(hq:∃o,(q,o)∈A.cur/\o.wk=true)(g:ug s q s2 m):NX A (l++[q]) s2:=by
 have key:∀ {i:Nat} {o1:Ob},aY s i q o1->i<A.cur.length/\(A.cur.getD i eF).1=q/\JU A (q∈l) (A.cur.getD i eF).2 o1/\(A.cur.getD i eF).2.wk=true/\(A.cur.getD i eF).2.Ok:=λ{i o1} c=>by
  have hi:i<A.cur.length:=by rw[<-w.len];exact c.lt
  obtain⟨h1,h2⟩:=w.obj i hi;rw[c.get] at h1 h2;have h1:q=(A.cur.getD i eF).1:=h1;obtain⟨o,ho,hw⟩:=hq;obtain⟨j,hj,e⟩:=cX eF ho;have Et:j=i:=h.nN hj hi (by rw[e,<-h1]);subst Et;refine⟨hi,h1.symm,by rw[<-h1] at h2;exact h2,by rw[e];exact hw,(h.at_ hi).ok⟩
 cases g with
 | @stay i o1 c hn=>
   refine⟨w.n,w.u,w.mv,w.aV,w.ser,w.bI,w.fin,w.len,λj hj=>⟨(w.obj j hj).1,?_⟩⟩;rcases(w.obj j hj).2 with ⟨e2,f⟩|k
   ·refine .inl ⟨e2,λhm=>?_⟩;rcases cJ.1 hm with hm|hm
    ·exact f hm
    ·obtain⟨k1,k2,k3,k4,k5⟩:=key c;have Et:j=i:=h.nN hj k1 (by rw[k2];exact gH.1 hm);subst Et;rw[c.get] at e2;have e2:o1=(A.cur.getD j eF).2:=e2;rw[<-e2,<-w.aV];exact hn
   ·exact .inr k
 | @gone i j t o1 u c d=>
   obtain⟨k1,k2,k3,k4,k5⟩:=key c
   have e1:o1=(A.cur.getD i eF).2:=by
    rcases Classical.em (o1=(A.cur.getD i eF).2) with e|e
    ·exact e
    ·exact absurd (w.aV ▸ d.mem) (k3.fresh h k5 e)
   refine⟨w.n,w.u,w.mv,w.aV,w.ser,w.bI,w.fin,by rw[c.iE,bN];exact w.len,λk hk=>?_⟩;rw[c.iE]
   by_cases e:i=k
   ·subst e;rw[dQ _ _ _ c.lt];refine⟨k2.symm,.inr ⟨t,by rw[<-e1],k4,.inl ?_⟩⟩;rw[<-e1];exact⟨j,u,w.aV ▸ d.lt,w.aV ▸ d.get⟩
   ·rw[getD_set_ne _ _ _ e];refine⟨(w.obj k hk).1,(w.obj k hk).2.mono (λhm=>?_)⟩;rcases cJ.1 hm with hm|hm
    ·exact .inl hm
    ·exact absurd (h.nN k1 hk (by rw[k2];exact(gH.1 hm).symm)) e
 | @lost i j o1 u c d=>
   obtain⟨k1,k2,k3,k4,k5⟩:=key c
   have e1:o1=(A.cur.getD i eF).2:=by
    rcases Classical.em (o1=(A.cur.getD i eF).2) with e|e
    ·exact e
    ·exact absurd (w.aV ▸ d.mem) (k3.fresh h k5 e)
   refine⟨w.n,w.u,w.mv,w.aV,w.ser,w.bI,w.fin,by rw[c.iE,bN];exact w.len,λk hk=>?_⟩;rw[c.iE]
   by_cases e:i=k
   ·subst e;rw[dQ _ _ _ c.lt];refine⟨k2.symm,.inr ⟨0,by rw[<-e1],k4,.inr ⟨?_,rfl⟩⟩⟩;rw[<-e1];exact⟨j,u,w.aV ▸ d.lt,w.aV ▸ d.get⟩
   ·rw[getD_set_ne _ _ _ e];refine⟨(w.obj k hk).1,(w.obj k hk).2.mono (λhm=>?_)⟩;rcases cJ.1 hm with hm|hm
    ·exact .inl hm
    ·exact absurd (h.nN k1 hk (by rw[k2];exact(gH.1 hm).symm)) e
theorem NX.of{A s:HS}{X:aj}(h:aR A X){l ls:aj}(g:kD A l s ls)(hq:∀q∈l,∃o,(q,o)∈A.cur/\o.wk=true):NX A l s:=by
 induction g with
 | nil=>exact NX.start A
 | snoc g1 g2 ih=>exact(ih (λq Lo=>hq q (cJ.2 (.inl Lo)))).step h (hq _ (cJ.2 (.inr (gH.2 rfl)))) g2
theorem JU.same{A:HS}{P:Prop}{o o':Ob}(h:JU A P o o'):dV o o':=by
 rcases h with ⟨h,_⟩|⟨q,h,_⟩
 ·rw[h];exact dV.refl _
 ·rw[h];exact o.cZ true 0 q
theorem gQ.ref{s:HS}(w:WF s){a t n:Nat}(g:gQ s a t)(h:Ref s a n):Ref s t n:=by
 obtain⟨i,o,c⟩:=g;have hp:Ref s a o.ser:=.inr (.inr ⟨o,_,c.eP,rfl⟩);have:=Ref.unique w h hp;subst this;obtain⟨o',h1,h2⟩:=w.gone a o _ c.eP;exact .inr (.inl ⟨o',h1,h2.2.2.2.2⟩)
theorem gK.drop{σ:Nat->Nat}{A s' B:HS}{R S X X':aj}(h:gK σ A B R S 4)(hA:aR A X)(hm:A.mv=true)(hs:A.scan=A.top){jd sD l1 l2 ls:aj}(h1:bL A A.bI jd l1)(h2:bL A A.fin sD l2)
 (g:kD { A with bI:=jd,fin:=sD } jd s' ls) (h':aR s'.drop X') (jq:jd.length<=100000/\sD.length<=100000):gK σ s'.drop B R S 4:=by
 have Ht:aR { A with bI:=jd,fin:=sD } X:=⟨hA.n1,hA.n2,hA.len,hA.zero,hA.half,hA.lL,hA.room,hA.still,hA.ser,jq⟩
 have cM:∀q∈jd,∃o,(q,o)∈A.cur/\o.wk=true:=λq hq=>by
  rcases h1.Ah hq with ⟨k1,k2⟩|⟨a,k1,k2⟩
  ·rcases h.ca.wk q k1 with k3|⟨o,m,k3,_⟩
   ·exact k3
   ·exact absurd (List.mem_map.2 ⟨_,k3,rfl⟩) k2
  ·rcases h.ca.wk a k1 with ⟨o,k3,_⟩|⟨o,m,k3,k4⟩
   ·exfalso;obtain⟨i,u,c⟩:=k2;exact Entry.unique hA k3 ⟨_,c.eP⟩
   ·obtain⟨i,u,c⟩:=k2;have:=ni hA k3 c.eP rfl;cases this;obtain⟨o',k5,k6⟩:=h.tw.wa.gone a o q c.eP;exact⟨o',k5,by rw[k6.2.2.1];exact k4⟩
 have W:=NX.of Ht g cM;obtain⟨k,kl,ks,kp⟩:=h.ca.scan hm
 have hk:k=A.cur.length:=by
  have e:cO (A.base A.u) A.cur A.cur.length=A.top:=hA.half.cl.lie.end;rcases Nat.lt_or_eq_of_le kl with aM|he
  ·have:=lx (A.base A.u) A.cur (show k+1<=A.cur.length from aM);have h5:cO (A.base A.u) A.cur (k+1)=cO (A.base A.u) A.cur k+(A.cur.getD k eF).2.took:=rfl;have h6:=(Ob.bF (hA.at_ aM).ok).2.2.1;have h6:4<=(A.cur.getD k eF).2.took:=h6;omega
  ·exact he
 subst hk
 have kI:dL s'.drop.cur=dL A.cur:=by
  show s'.cur.map (·.1)=A.cur.map (·.1);refine List.ext_getElem (by simpa using W.len) (λi a b=>?_);have hi:i<A.cur.length:=by simpa using b
  have nK:i<s'.cur.length:=by rw[W.len];exact hi
  have:=(W.obj i hi).1;simpa[List.getD,hi,nK] using this
 have Sv:∀p o,(p,o)∈A.cur->o.wk=true->p∈jd:=λp o ho hw=>by
  rcases h.ca.bI p o (.inl ho) hw with k1|⟨a,k1,k2⟩
  ·exact h1.MX k1 (lY hA (List.mem_map.2 ⟨_,ho,rfl⟩))
  ·exact h1.Kq hA k2 k1
 have back:∀p o,(p,o)∈s'.cur->∃o0,(p,o0)∈A.cur/\JU A (p∈jd) o0 o:=λp o ho=>by
  obtain⟨i,hi,e⟩:=cX eF ho;have nK:i<A.cur.length:=by rw[<-W.len];exact hi
  obtain⟨e1,e2⟩:=W.obj i nK;rw[e] at e1 e2;have e1:p=(A.cur.getD i eF).1:=e1;refine⟨(A.cur.getD i eF).2,by rw[e1];exact eO eF nK,?_⟩;rw[<-e1] at e2;rcases e2 with ⟨f1,f2⟩|⟨q,f1,f2,f3⟩
  ·exact .inl ⟨f1,f2⟩
  ·refine .inr ⟨q,f1,f2,f3.imp (λ⟨j,u,c⟩=>⟨j,u,c.lt,c.get⟩) (λ⟨⟨j,u,c⟩,e⟩=>⟨⟨j,u,c.lt,c.get⟩,e⟩)⟩
 have RB:∀p o0,(p,o0)∈A.cur->∃o,(p,o)∈s'.cur/\dV o0 o:=λp o0 ho=>by
  obtain⟨i,hi,e⟩:=cX eF ho;have nK:i<s'.cur.length:=by rw[W.len];exact hi
  obtain⟨e1,e2⟩:=W.obj i hi;rw[e] at e1 e2;refine⟨(s'.cur.getD i eF).2,?_,e2.same⟩;have e1:(s'.cur.getD i eF).1=p:=e1;rw[<-e1];exact eO eF nK
 have QF:∀p n,cH A p->Ref A p n->Ref s'.drop p n:=λp n hp hr=>by
  rcases hp with hp|hp
  ·exact .inl ⟨hp,(hr.pos h.tw.wa).1 hp⟩
  ·obtain⟨x,hx,rfl⟩:=List.mem_map.1 hp;obtain⟨o,ho,hs⟩:=RB x.1 x.2 hx;have:x.2.ser=n:=Ref.unique h.tw.wa (.inr (.inl ⟨x.2,hx,rfl⟩)) hr;exact .inr (.inl ⟨o,ho,hs.2.2.2.2.trans this⟩)
 have QR:∀p o,(p,o)∈A.cur->∀q∈o.aZ,cH A q:=λp o ho q hq=>by
  obtain⟨i,hi,e⟩:=cX eF ho;exact kp i hi q (by rw[e];exact hq)
 have aaH:∀p o0 o,(p,o0)∈A.cur->JU A (p∈jd) o0 o->∀m,m<o.p->(∀n,Ref A (o0.ps.getD m 0) n->Ref s'.drop (o.ps.getD m 0) n\/(o.wk=true/\o.ps.getD m 0=0/\∀x u,Live s'.drop x u->u.ser≠n))/\(o0.wk=true->o0.ps.getD m 0=0->o.ps.getD m 0=0):=λp o0 o ho hw m hm=>by
  have bU:o0.Ok:=(hA.ig ho).1;have oC:=bU.lp;have Ew:m<o0.p:=by rw[<-hw.same.1];exact hm
  by_cases Im:o0.wk=true
  ·have Ia:=Ob.Ap bU Im;obtain rfl:m=0:=by omega
   rcases hw with ⟨e,f⟩|⟨q,e,_,f⟩
   ·subst e;have rm:=f (Sv p _ ho Im);refine⟨λn hn=>.inl (QF _ n ?_ hn),λ_ e0=>e0⟩;rcases hn.place with k1|k1|k1
    ·exact .inl k1
    ·exact .inr k1
    ·exact absurd k1 rm
   ·have eq:o.ps.getD 0 0=q:=by rw[e];exact(vN (k:=0) (j:=0) bU (by omega)).trans (if_pos rfl)
    rw[eq];rcases f with f|⟨⟨j,u,c⟩,f⟩
    ·refine⟨λn hn=>.inl (QF _ n (.inr (f.cur hA)) (f.ref h.tw.wa hn)),λ_ e0=>?_⟩;exfalso;obtain⟨j,u,c⟩:=f;have:=(Entry.ok hA (show Entry A _ u from .inr ⟨_,c.eP⟩)).2.1;omega
    ·refine⟨λn hn=>.inr ⟨by rw[e];exact Im,f,λx v hv=>?_⟩,λ_ _=>f⟩;have lU:u.ser=n:=Ref.unique h.tw.wa (.inr (.inr ⟨u,_,c.eP,rfl⟩)) hn;rcases hv with hv|hv
     ·obtain⟨v0,ye,zJ⟩:=back x v hv;have:=h.tw.wa.NJ _ ye _ _ c.eP;rw[zJ.same.2.2.2.2,<-lU];exact this
     ·cases hv
  ·have e:o=o0:=by
    rcases hw with ⟨e,_⟩|⟨q,_,f,_⟩
    ·exact e
    ·exact absurd f Im
   subst e;refine⟨λn hn=>.inl (QF _ n (QR p _ ho _ ?_) hn),λh0=>absurd h0 Im⟩;unfold Ob.aZ;rw[if_neg Im];exact eO 0 (by rw[oC];exact hm)
 have hS:Sem s'.drop:=by
  refine⟨λx hx=>?_,(λx hx=>by cases hx),λx hx y hy e=>?_,(λx hx=>by cases hx),(λx hx p o ho=>by cases ho),λp o ho q hq=>?_⟩
  ·obtain⟨o0,k1,k2⟩:=back x.1 x.2 hx;have:=h.tw.wa.py _ k1;rw[k2.same.2.2.2.2];show 1<=o0.ser/\o0.ser<=s'.ser;rw[W.ser];exact this
  ·obtain⟨o0,k1,k2⟩:=back x.1 x.2 hx;obtain⟨u0,k3,k4⟩:=back y.1 y.2 hy;have:=h.tw.wa.JB _ k1 _ k3 (by show o0.ser=u0.ser;rw[<-k2.same.2.2.2.2,<-k4.same.2.2.2.2];exact e);have e1:x.1=y.1:=(Prod.mk.inj this).1;have l1:Live s'.drop x.1 x.2:=.inl hx;have l2:Live s'.drop x.1 y.2:=.inl (by rw[e1];exact hy);exact Prod.ext e1 (r_ h' l2 l1)
  ·rcases ho with ho|ho
   ·obtain⟨o0,k1,k2⟩:=back p o ho;have bU:o0.Ok:=(hA.ig k1).1;obtain⟨m,hm,rfl⟩:=cX 0 hq;have Lb:o.ps.length=o.p:=(show o.Ok from(h'.ig (x:=(p,o)) ho).1).lp;have Ew:m<o.p:=by rw[<-Lb];exact hm
    obtain⟨n,hn⟩:=h.tw.wa.ptr p o0 (.inl k1) (o0.ps.getD m 0) (eO 0 (by rw[bU.lp,<-k2.same.1];exact Ew));rcases(aaH p o0 o k1 k2 m Ew).1 n hn with k3|⟨_,k3,_⟩
    ·exact⟨n,k3⟩
    ·exact⟨0,.inl ⟨k3,rfl⟩⟩
   ·cases ho
 have w':=WF.of h' hS
 have tw':Tw σ s'.drop B:=by
  refine h.tw.left w' (by show A.ser<=s'.ser;rw[W.ser];exact aD _) (λx u hu=>?_) (λp o ho _=>?_)
  ·rcases hu with hu|hu
   ·obtain⟨o0,k1,k2⟩:=back x u hu;exact .inl ⟨x,o0,.inl k1,k2.same.2.2.2.2.symm⟩
   ·cases hu
  ·rcases ho with ho|ho
   ·obtain⟨o0,k1,k2⟩:=back p o ho;have bU:o0.Ok:=(hA.ig k1).1;have Lb:o.ps.length=o.p:=(show o.Ok from(h'.ig (x:=(p,o)) ho).1).lp
    have BW:tO o0 o:=by
     rcases k2 with ⟨e,_⟩|⟨q,e,_,_⟩
     ·rw[e];exact tO.refl bU
     ·subst e;exact⟨rfl,rfl,rfl,rfl,rfl,rfl,bU.lp,Lb⟩
    exact⟨p,o0,.inl k1,BW,k2.same.2.2.2.2.symm,aaH p o0 o k1 k2⟩
   ·cases ho
 have cl:gJ s'.drop:=by
  refine⟨(λhm=>by cases hm),λp o ho hw=>.inl ?_,λq hq=>.inl ?_,λq hq=>.inl ?_,?_⟩
  ·rcases ho with ho|ho
   ·obtain⟨o0,k1,k2⟩:=back p o ho;show p∈s'.bI;rw[W.bI];exact Sv p o0 k1 (by rw[<-k2.same.2.2.1];exact hw)
   ·cases ho
  ·have hq:q∈s'.bI:=hq;rw[W.bI] at hq;obtain⟨o,k1,k2⟩:=cM q hq;obtain⟨o',k3,k4⟩:=RB q o k1;exact⟨o',k3,by rw[k4.2.2.1];exact k2⟩
  ·have hq:q∈s'.fin:=hq;rw[W.fin] at hq;rw[kI];rcases h2.Ah hq with ⟨k1,k2⟩|⟨a,k1,k2⟩
   ·rcases h.ca.fn q k1 with k3|k3
    ·exact k3
    ·exact absurd k3 k2
   ·exact k2.cur hA
  ·show s'.bI.length<=s'.ser/\s'.fin.length<=s'.ser;have e1:=h1.len;have e2:=h2.len;have e3:=h.ca.mJ;have e4:s'.bI=jd:=W.bI;have e5:s'.fin=sD:=W.fin;have e6:s'.ser=A.ser:=W.ser;rw[e4,e5,e6];omega
 refine⟨tw',cl,h.bm,h.bn,h.bt,h.bf,⟨h.rg.lr,h.rg.ls,λj hj=>?_,λj hj=>?_⟩⟩
 ·unfold cH;rw[kI];exact h.rg.here j hj
 ·obtain⟨n,n1,n2,n3⟩:=h.rg.ref j hj;exact⟨n,n1,QF _ _ (h.rg.here j hj) n2,n3⟩
