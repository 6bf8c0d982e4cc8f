import Derived.Deep.DrawnRows
import Derived.Test.YtgijglafnlbdbaaGreatTmAE
set_option linter.all false
set_option maxHeartbeats 4000000
set_option maxRecDepth 8000
namespace Go.Proofs.YtgijglafnlbdbaaGreat
open RowKit Shelf Proofs.Tryz
open Go renaming World->aj,Value->aC,Calls->aL
attribute [local go_sem ↓] Go.wp_at_zero Go.wp_at_succ
theorem xK{ops:Array Oper}{o:Oper}{a:Act}{w:aj}{K:Act->aj->Prop}{Q:Exit->Act->aj->Prop}{E:Prop}(oJ:o.guard=none)(s x:Operand)
 (ho:o.op=.call { callee:=.builtin .append,args:=#[s,x],argTypes:=#[43,43] })
 (v:aC) (l:List Int) (cH:bm w 0 v l) (hs:a.eval s=v) (y:Int) (ad:Addr) (c:Nat) (hx:a.eval x=.slice (some ad) 1 c) (hc:w.cell? ad=some (vI y)) (hl:l.length<=1000000)
 (h:∀g c w',bm w' 0 (.slice (some ⟨g,0,none⟩) (l.length+1) c) (l++[y])->Fr (aB v) w w'->(aB v g\/g=w.heap.size)->K (a.put o.dst (.slice (some ⟨g,0,none⟩) (l.length+1) c)) w') :
 if Region.wanted o (yielded ops a.tmps)=true then Oper.wp prog o a w K Q else E:=by
 obtain⟨i0,hi,ie,gU,iw⟩:=info_parts qe;refine step_append_lies w oJ s x 43 ho 0 3 i0 (vI 0) 1 8 Tryz.underlying43 hi ie gU iw rfl (by decide) v l.length (lu l) hs cH ad 1 c [vI y] hx rfl (λj u hj=>?_) (by simp[Value.oneCell']) (by omega) (by unfold maxLen;omega) (by omega) (cK _) _ rfl ?_
 ·match j with
  | 0=>simp at hj;subst hj;simpa[Addr.add] using hc
  | j+1=>simp at hj
 intro g cap w' ju eU m_ _;refine h g cap w' ?_ (Fr.grown aq eU (λk hk=>.inl hk)) ?_
 ·show World.ownsRow _ _ _ _ _ _ _;rw[cX,lu,List.map_append];exact ju
 ·exact m_
theorem Pj{w:aj}{hp:Nat}{c0 c1 c2 c3 c4 c5 c6 c7 c8 VA VB VC IM Hw VD:aC}(h:ag w hp [c0,c1,c2,c3,c4,c5,c6,c7,c8,vI 0,VA,VB,VC,IM,Hw,VD])
 {l:List Int} (hr:bm w 0 c7 l) (hn:¬aB c7 hp) (hl:l.length<=100000) (b s t a:Int) :
 aL prog 225 #[aR hp,G_ b s t,vI a] w λe w'=>e=.returned (.tuple #[])/\∃v',
  ag w' hp ((([c0,c1,c2,c3,c4,c5,c6,c7,c8,vI 0,VA,VB,VC,IM,Hw,VD].set 1 (vI b)).set 2 (vI s)).set 3 (vI t) |>.set 7 v') /\
  bm w' 0 v' (l++[a])/\Fr (λk=>k=hp\/aB c7 k) w w'/\∀k,aB v' k->aB c7 k\/w.heap.size<=k:=by
 have aZ:=h.lt (by simp);obtain⟨sa,sn,sc,rfl⟩:=hr.letters;have H:=af h;have y0:=(h 1 _ rfl).1;have y1:=(h 2 _ rfl).1;have y2:=(h 3 _ rfl).1;have z0:=(h 1 _ rfl).2;have z1:=(h 2 _ rfl).2;have z2:=(h 3 _ rfl).2;have y9:=(h 9 _ rfl).1;replace hn:=af hn;have Gw:=af hr;clear h hr;have OH:hp≠w.heap.size:=by omega
 have Qy:w.heap.size≠hp:=by omega
 go_in;go_wp2_with fail
 go_region
 generalize iM:World.drew _=W1
 have f1:Fr (λk=>k=hp) w W1:=by
  rw[<-iM];exact((((Fr.refl (λk=>k=hp) w).setCell (p:=⟨hp,1,none⟩) (.inl rfl) _).setCell (p:=⟨hp,2,none⟩) (.inl rfl) _).setCell (p:=⟨hp,3,none⟩) (.inl rfl) _).alloc _ |>.drew
 have H1:=H.out;replace H1:=(((H1.set 1 (vI b) (by simp)).set 2 (vI s) (by simp)).set 3 (vI t) (by simp)).alloc (.cells #[vI b,vI s,vI t] 150);replace H1:ag W1 hp _:=λi v hv=>by rw[<-iM];exact(H1 i v hv).drew
 have jF:=af (Gw.out.iI f1 (λk hk e=>hn.out (e ▸ hk)));replace f1:=af f1;have aaI:hp<W1.heap.size:=H1.lt (by simp);simp only[qq,rj] at H1;clear iM y0 y1 y2 z0 z1 z2 y9 H;go_wp2_with fail
 have u9:=(H1 9 _ rfl).1;have u7:=(H1 7 _ rfl).1;have v7:=(H1 7 _ rfl).2;replace H1:=af H1;have ne3:hp≠W1.heap.size:=by omega
 have ne4:W1.heap.size≠hp:=by omega
 clear OH Qy
 go_region_law
  ((refine xK rfl _ _ rfl (.slice sa sn sc) l (jF.out.calm (by first|exact aq.alloc _|exact(aq.drew).alloc _|exact(aq.alloc _).drew)) rfl a ⟨W1.heap.size,0,none⟩ 1 rfl (by simp) (by omega) ?_;intro g gc W3 fu f3 hg;have ka:Fr (aB (.slice sa sn sc)) W1 W3:=Fr.trans (by first|exact aq.alloc _|exact(aq.drew).alloc _|exact(aq.alloc _).drew) f3;have q9:=ka.cellAt u9 hn.out;have q7:=ka.cellAt u7 hn.out;have p7:=ka.frozenAt u7 v7 hn.out;replace fu:=af fu;replace hg:=af hg;replace f3:=af f3;replace ka:=af ka))
 all_goals
  have hs3:=f1.out.size;have H3:=(H1.out.fr ka.out hn.out).set 7 (.slice (some ⟨g,0,none⟩) (l.length+1) gc) (by simp);have k3:=((f1.out.mono (T:=λk=>k=hp\/aB (.slice sa sn sc) k) (λk _ e=>.inl e)).trans (ka.out.mono (λk _ e=>.inr e))).setCell (p:=⟨hp,7,none⟩) (.inl (.inl rfl)) (.slice (some ⟨g,0,none⟩) (l.length+1) gc);have qQ:=hg.out;simp only[World.drew,World.alloc,Array.size_push] at qQ
  have R9:g≠hp:=by
   rintro rfl;rcases qQ with qQ|qQ
   ·exact hn.out qQ
   ·omega
  have r3:=fu.out.iI ((Fr.refl (λb=>b=hp) W3).setCell (p:=⟨hp,7,none⟩) (.inl rfl) (.slice (some ⟨g,0,none⟩) (l.length+1) gc)) (λk hk e=>R9 ((aB.fg hk).symm.trans e))
  have gD:∀k,aB (.slice (some ⟨g,0,none⟩) (l.length+1) gc) k->aB (.slice sa sn sc) k\/w.heap.size<=k:=λk hk=>by
   rw[aB.fg hk];rcases qQ with qQ|qQ
   ·exact .inl qQ
   ·right;omega
  replace H3:=af H3;replace k3:=af k3;replace r3:=af r3;replace gD:=af gD;clear qQ R9 hg fu f3 ka H1 f1 jF Gw;refine bodyPost_end (by simp[results,Tryz.f225,go_sem]) rfl ⟨rfl,.slice (some ⟨g,0,none⟩) (l.length+1) gc,H3.out,r3.out,k3.out,gD.out⟩
theorem Pk{w:aj}{hp:Nat}{c0 c1 c2 c3 c4 c5 c6 c7 c8 VA VB VC IM Hw VD:aC}(h:ag w hp [c0,c1,c2,c3,c4,c5,c6,c7,c8,vI 1,VA,VB,VC,IM,Hw,VD])
 {l:List Int} (hr:bm w 0 c8 l) (hn:¬aB c8 hp) (hl:l.length<=100000) (b s t a:Int) :
 aL prog 225 #[aR hp,G_ b s t,vI a] w λe w'=>e=.returned (.tuple #[])/\∃v',
  ag w' hp ((([c0,c1,c2,c3,c4,c5,c6,c7,c8,vI 1,VA,VB,VC,IM,Hw,VD].set 4 (vI b)).set 5 (vI s)).set 6 (vI t) |>.set 8 v') /\
  bm w' 0 v' (l++[a])/\Fr (λk=>k=hp\/aB c8 k) w w'/\∀k,aB v' k->aB c8 k\/w.heap.size<=k:=by
 have aZ:=h.lt (by simp);obtain⟨sa,sn,sc,rfl⟩:=hr.letters;have H:=af h;have y0:=(h 4 _ rfl).1;have y1:=(h 5 _ rfl).1;have y2:=(h 6 _ rfl).1;have z0:=(h 4 _ rfl).2;have z1:=(h 5 _ rfl).2;have z2:=(h 6 _ rfl).2;have y9:=(h 9 _ rfl).1;replace hn:=af hn;have Gw:=af hr;clear h hr;have OH:hp≠w.heap.size:=by omega
 have Qy:w.heap.size≠hp:=by omega
 go_in;go_wp2_with fail
 go_region
 generalize iM:World.drew _=W1
 have f1:Fr (λk=>k=hp) w W1:=by
  rw[<-iM];exact((((Fr.refl (λk=>k=hp) w).setCell (p:=⟨hp,4,none⟩) (.inl rfl) _).setCell (p:=⟨hp,5,none⟩) (.inl rfl) _).setCell (p:=⟨hp,6,none⟩) (.inl rfl) _).alloc _ |>.drew
 have H1:=H.out;replace H1:=(((H1.set 4 (vI b) (by simp)).set 5 (vI s) (by simp)).set 6 (vI t) (by simp)).alloc (.cells #[vI b,vI s,vI t] 150);replace H1:ag W1 hp _:=λi v hv=>by rw[<-iM];exact(H1 i v hv).drew
 have jF:=af (Gw.out.iI f1 (λk hk e=>hn.out (e ▸ hk)));replace f1:=af f1;have aaI:hp<W1.heap.size:=H1.lt (by simp);simp only[qq,rj] at H1;clear iM y0 y1 y2 z0 z1 z2 y9 H;go_wp2_with fail
 have u9:=(H1 9 _ rfl).1;have u7:=(H1 8 _ rfl).1;have v7:=(H1 8 _ rfl).2;replace H1:=af H1;have ne3:hp≠W1.heap.size:=by omega
 have ne4:W1.heap.size≠hp:=by omega
 clear OH Qy
 go_region_law
  ((refine xK rfl _ _ rfl (.slice sa sn sc) l (jF.out.calm (by first|exact aq.alloc _|exact(aq.drew).alloc _|exact(aq.alloc _).drew)) rfl a ⟨W1.heap.size,0,none⟩ 1 rfl (by simp) (by omega) ?_;intro g gc W3 fu f3 hg;have ka:Fr (aB (.slice sa sn sc)) W1 W3:=Fr.trans (by first|exact aq.alloc _|exact(aq.drew).alloc _|exact(aq.alloc _).drew) f3;have q9:=ka.cellAt u9 hn.out;have q7:=ka.cellAt u7 hn.out;have p7:=ka.frozenAt u7 v7 hn.out;replace fu:=af fu;replace hg:=af hg;replace f3:=af f3;replace ka:=af ka))
 all_goals
  have hs3:=f1.out.size;have H3:=(H1.out.fr ka.out hn.out).set 8 (.slice (some ⟨g,0,none⟩) (l.length+1) gc) (by simp);have k3:=((f1.out.mono (T:=λk=>k=hp\/aB (.slice sa sn sc) k) (λk _ e=>.inl e)).trans (ka.out.mono (λk _ e=>.inr e))).setCell (p:=⟨hp,8,none⟩) (.inl (.inl rfl)) (.slice (some ⟨g,0,none⟩) (l.length+1) gc);have qQ:=hg.out;simp only[World.drew,World.alloc,Array.size_push] at qQ
  have R9:g≠hp:=by
   rintro rfl;rcases qQ with qQ|qQ
   ·exact hn.out qQ
   ·omega
  have r3:=fu.out.iI ((Fr.refl (λb=>b=hp) W3).setCell (p:=⟨hp,8,none⟩) (.inl rfl) (.slice (some ⟨g,0,none⟩) (l.length+1) gc)) (λk hk e=>R9 ((aB.fg hk).symm.trans e))
  have gD:∀k,aB (.slice (some ⟨g,0,none⟩) (l.length+1) gc) k->aB (.slice sa sn sc) k\/w.heap.size<=k:=λk hk=>by
   rw[aB.fg hk];rcases qQ with qQ|qQ
   ·exact .inl qQ
   ·right;omega
  replace H3:=af H3;replace k3:=af k3;replace r3:=af r3;replace gD:=af gD;clear qQ R9 hg fu f3 ka H1 f1 jF Gw;refine bodyPost_end (by simp[results,Tryz.f225,go_sem]) rfl ⟨rfl,.slice (some ⟨g,0,none⟩) (l.length+1) gc,H3.out,r3.out,k3.out,gD.out⟩
def HS.start(n:Nat):HS:=⟨n,false,false,[],[],0,0,[],[]⟩
theorem dF.start{n:Nat}(h1:16<=n)(h2:n<=16384):dF (HS.start n) (List.replicate (2*n+1) 0):=
 ⟨h1,h2,by simp[HS.start],by simp[List.getD,List.getElem?_replicate],⟨rfl,rfl,λi hi=>by simp[HS.start] at hi,λi j t hi=>by simp[HS.start] at hi⟩,cK _,cK _,λ_=>rfl,cK _,⟨cK _,cK _⟩⟩
theorem JH(w:aj)(n:Nat)(h1:16<=n)(h2:n<=16384) :
 aL prog 36 #[vI n] w λe w'=>∃B,e=.returned (.tuple #[jq B,vI 0])/\dB w' B (HS.start n) (List.replicate (2*n+1) 0)/\Calm w w'/\∀k,lX B k->w.heap.size<=k:=by
 go_in;go_wp2_with fail
 have e1:(2:Int)*n+1=((2*n+1:Nat):Int):=by push_cast;rfl
 rw[e1];clear e1;refine(OI _ (2*n+1) (by omega) (by omega)).mono ?_;rintro e w1 ⟨p,c,rfl,ar,k1,hp,hc⟩;replace ar:=af ar;go_wp2_with fail
 refine(Bw 1 n _ (by omega) (by omega) (by omega) (by omega)).mono ?_;rintro e w2 ⟨rfl,k2⟩;go_wp2_with fail
 obtain⟨k3,s1⟩:=gL w2 [vI 1,vI n,vI 1] 150;refine(Bw (1+n) n _ (by omega) (by omega) (by omega) (by omega)).mono ?_;rintro e w4 ⟨rfl,k4⟩;replace s1:=s1.calm k4;replace k4:=k3.trans k4;generalize w2.heap.size=S1 at *;obtain⟨x0,x1,x2⟩:=ag.sP s1;have lt4:=s1.lt (by simp);have OH:S1≠w4.heap.size:=by omega
 have Qy:w4.heap.size≠S1:=by omega
 clear s1 k3;go_wp2;have k5:Calm w w4:=(k1.trans k2).trans k4;have fL:=k1.size
 have gC:c<w4.heap.size:=by
  have h24:=(k2.trans k4).size;obtain⟨_,⟨t,ht⟩,_⟩:=ar.out;have:=(wh.1 ht).1;omega
 have hp1:p<w4.heap.size:=by have:=ar.out.lt;have h24:=(k2.trans k4).size;omega
 have ar4:=ar.out.calm (k2.trans k4);clear x0 x1 x2
 refine bodyPost_ret (v:=.tuple #[.pointer (some ⟨w4.heap.size+1,0,none⟩),vI 0]) (by simp[results,Tryz.f36,go_sem]) rfl
  ⟨⟨w4.heap.size+1,p,c,.slice none 0 0,.slice none 0 0,.slice none 0 0,.slice none 0 0⟩,rfl,⟨?_,?_,?_,?_,?_,?_,dF.start h1 h2,?_,?_,?_,?_⟩,(k5.alloc _).alloc _,?_⟩
 ·exact ag.at _ [_,_,_,_,_,_,_,_,_,_,_,_,_,_,_,_] _ _ (by simp)
 ·exact(ar4.calm (aq.alloc _)).calm (aq.alloc _)
 ·exact World.ownsRow_nil _ _ _ _
 ·exact World.ownsRow_nil _ _ _ _
 ·exact World.ownsRow_nil _ _ _ _
 ·exact World.ownsRow_nil _ _ _ _
 ·show w4.heap.size+1≠p;omega
 ·show w4.heap.size+1≠c;omega
 ·simp[HB.vs,U9,aB.nil]
 ·intro v hv;simp[HB.vs] at hv;subst hv;exact⟨aB.nil _,aB.nil _,aB.nil _⟩
 ·rintro k (rfl|rfl|rfl|⟨v,hv,hk⟩)
  ·have:=k5.size;show w.heap.size<=w4.heap.size+1;omega
  ·exact hp
  ·exact hc
  ·simp[HB.vs] at hv;subst hv;exact absurd hk (aB.nil _)
theorem dB.Lc{w w':aj}{B:HB}{s:HS}{X:aE}(h:dB w B s X){v:aC}{l:aE}(f:Fr (λk=>k=B.hp\/aB B.vw k) w w')(hc:ag w' B.hp ((bI B s).set 14 v))(hr:bm w' 0 v (nI l))
 (iE:∀k,aB v k->aB B.vw k\/w.heap.size<=k) (hl:l.length<=100000):dB w' { B with vw:=v } { s with gh:=l } X/\dO w B w' { B with vw:=v }:=by
 have aZ:=h.lt;have nn:=h.none_;have fD:=h.apart;simp only[HB.vs,f_,gB,or_false,forall_eq_or_imp,forall_eq] at nn;simp only[HB.vs,List.pairwise_cons,f_,gB,or_false,forall_eq_or_imp,forall_eq] at fD;have hB:∀k,k<w.heap.size->aB v k->aB B.vw k:=λk hk hv=>(iE k hv).resolve_right (by omega);have l0':=λk hk=>aZ k (.inr (.inr (.inr ⟨B.v0,by simp[HB.vs],hk⟩)));have l1':=λk hk=>aZ k (.inr (.inr (.inr ⟨B.v1,by simp[HB.vs],hk⟩)));have lf':=λk hk=>aZ k (.inr (.inr (.inr ⟨B.vf,by simp[HB.vs],hk⟩)));refine⟨⟨hc,h.ar.fr f ?_ ?_,h.r0.iI f ?_,h.r1.iI f ?_,hr,h.rf.iI f ?_,?_,h.fD,h.iD,?_,?_⟩,⟨f.mono (λk _ e=>?_),?_,rfl⟩⟩
 ·rintro (e|e);exact h.fD e.symm;exact nn.2.2.1.2.1 e
 ·rintro (e|e);exact h.iD e.symm;exact nn.2.2.1.2.2 e
 ·rintro k hk (e|e);exact nn.1.1 (e ▸ hk);exact fD.1.2.1 k hk e
 ·rintro k hk (e|e);exact nn.2.1.1 (e ▸ hk);exact fD.2.1.1 k hk e
 ·rintro k hk (e|e);exact nn.2.2.2.1 (e ▸ hk);exact fD.2.2.1 k e hk
 ·exact⟨h.rep.n1,h.rep.n2,h.rep.len,h.rep.zero,h.rep.half,h.rep.uL,h.rep.room,h.rep.still,h.rep.ser,⟨hl,h.rep.YT.2⟩⟩
 ·simp only[HB.vs,List.pairwise_cons,f_,gB,or_false,forall_eq_or_imp,forall_eq];exact⟨⟨fD.1.1,λk h1 h2=>fD.1.2.1 k h1 (hB k (l0' k h1) h2),fD.1.2.2⟩,⟨λk h1 h2=>fD.2.1.1 k h1 (hB k (l1' k h1) h2),fD.2.1.2⟩,λk h1 h2=>fD.2.2.1 k (hB k (lf' k h2) h1) h2,by simp,List.Pairwise.nil⟩
 ·simp only[HB.vs,f_,gB,or_false,forall_eq_or_imp,forall_eq];exact⟨nn.1,nn.2.1,⟨λh1=>nn.2.2.1.1 (hB _ (aZ _ (.inl rfl)) h1),λh1=>nn.2.2.1.2.1 (hB _ (aZ _ (.inr (.inl rfl))) h1),λh1=>nn.2.2.1.2.2 (hB _ (aZ _ (.inr (.inr (.inl rfl)))) h1)⟩,nn.2.2.2⟩
 ·rcases e with e|e;exact .inl e;exact .inr (.inr (.inr ⟨B.vw,by simp[HB.vs],e⟩))
 ·rintro k (hk|hk|hk|⟨u,hv,hk⟩)
  ·exact .inl (.inl hk)
  ·exact .inl (.inr (.inl hk))
  ·exact .inl (.inr (.inr (.inl hk)))
  ·simp only[HB.vs,f_,gB,or_false] at hv;rcases hv with rfl|rfl|rfl|rfl
   ·exact .inl (.inr (.inr (.inr ⟨_,by simp[HB.vs],hk⟩)))
   ·exact .inl (.inr (.inr (.inr ⟨_,by simp[HB.vs],hk⟩)))
   ·exact(iE k hk).imp (λh=>.inr (.inr (.inr ⟨B.vw,by simp[HB.vs],h⟩))) id
   ·exact .inl (.inr (.inr (.inr ⟨_,by simp[HB.vs],hk⟩)))
theorem dB.QI{w w':aj}{B:HB}{s:HS}{X:aE}(h:dB w B s X){v:aC}{l:aE}(f:Fr (λk=>k=B.hp\/aB B.vf k) w w')(hc:ag w' B.hp ((bI B s).set 15 v))(hr:bm w' 0 v (nI l))
 (iE:∀k,aB v k->aB B.vf k\/w.heap.size<=k) (hl:l.length<=100000):dB w' { B with vf:=v } { s with fin:=l } X/\dO w B w' { B with vf:=v }:=by
 have aZ:=h.lt;have nn:=h.none_;have fD:=h.apart;simp only[HB.vs,f_,gB,or_false,forall_eq_or_imp,forall_eq] at nn;simp only[HB.vs,List.pairwise_cons,f_,gB,or_false,forall_eq_or_imp,forall_eq] at fD;have hB:∀k,k<w.heap.size->aB v k->aB B.vf k:=λk hk hv=>(iE k hv).resolve_right (by omega);have l0':=λk hk=>aZ k (.inr (.inr (.inr ⟨B.v0,by simp[HB.vs],hk⟩)));have l1':=λk hk=>aZ k (.inr (.inr (.inr ⟨B.v1,by simp[HB.vs],hk⟩)));have lw':=λk hk=>aZ k (.inr (.inr (.inr ⟨B.vw,by simp[HB.vs],hk⟩)));refine⟨⟨hc,h.ar.fr f ?_ ?_,h.r0.iI f ?_,h.r1.iI f ?_,h.rw.iI f ?_,hr,?_,h.fD,h.iD,?_,?_⟩,⟨f.mono (λk _ e=>?_),?_,rfl⟩⟩
 ·rintro (e|e);exact h.fD e.symm;exact nn.2.2.2.2.1 e
 ·rintro (e|e);exact h.iD e.symm;exact nn.2.2.2.2.2 e
 ·rintro k hk (e|e);exact nn.1.1 (e ▸ hk);exact fD.1.2.2 k hk e
 ·rintro k hk (e|e);exact nn.2.1.1 (e ▸ hk);exact fD.2.1.2 k hk e
 ·rintro k hk (e|e);exact nn.2.2.1.1 (e ▸ hk);exact fD.2.2.1 k hk e
 ·exact⟨h.rep.n1,h.rep.n2,h.rep.len,h.rep.zero,h.rep.half,h.rep.uL,h.rep.room,h.rep.still,h.rep.ser,⟨h.rep.YT.1,hl⟩⟩
 ·simp only[HB.vs,List.pairwise_cons,f_,gB,or_false,forall_eq_or_imp,forall_eq];exact⟨⟨fD.1.1,fD.1.2.1,λk h1 h2=>fD.1.2.2 k h1 (hB k (l0' k h1) h2)⟩,⟨fD.2.1.1,λk h1 h2=>fD.2.1.2 k h1 (hB k (l1' k h1) h2)⟩,λk h1 h2=>fD.2.2.1 k h1 (hB k (lw' k h1) h2),by simp,List.Pairwise.nil⟩
 ·simp only[HB.vs,f_,gB,or_false,forall_eq_or_imp,forall_eq];exact⟨nn.1,nn.2.1,nn.2.2.1,⟨λh1=>nn.2.2.2.1 (hB _ (aZ _ (.inl rfl)) h1),λh1=>nn.2.2.2.2.1 (hB _ (aZ _ (.inr (.inl rfl))) h1),λh1=>nn.2.2.2.2.2 (hB _ (aZ _ (.inr (.inr (.inl rfl)))) h1)⟩⟩
 ·rcases e with e|e;exact .inl e;exact .inr (.inr (.inr ⟨B.vf,by simp[HB.vs],e⟩))
 ·rintro k (hk|hk|hk|⟨u,hv,hk⟩)
  ·exact .inl (.inl hk)
  ·exact .inl (.inr (.inl hk))
  ·exact .inl (.inr (.inr (.inl hk)))
  ·simp only[HB.vs,f_,gB,or_false] at hv;rcases hv with rfl|rfl|rfl|rfl
   ·exact .inl (.inr (.inr (.inr ⟨_,by simp[HB.vs],hk⟩)))
   ·exact .inl (.inr (.inr (.inr ⟨_,by simp[HB.vs],hk⟩)))
   ·exact .inl (.inr (.inr (.inr ⟨_,by simp[HB.vs],hk⟩)))
   ·exact(iE k hk).imp (λh=>.inr (.inr (.inr ⟨B.vf,by simp[HB.vs],h⟩))) id
theorem dB.O4{w w':aj}{B:HB}{s s':HS}{X X':aE}(h:dB w B s X)(hu:s.u=false){v:aC}(f:Fr (λk=>k=B.hp\/k=B.ac\/aB B.v0 k) w w')
 (hc:ag w' B.hp (bI { B with v0:=v } s')) (ar:Ar w' B.ap B.ac X') (hr:bm w' 0 v (nI (gV s'.cur))) (Oh:s'.u=false) (ho:tF s'.cC=tF s.cC) (hw:s'.gh=s.gh) (hf:s'.fin=s.fin) (rep:dF s' X')
 (iE:∀k,aB v k->aB B.v0 k\/w.heap.size<=k):dB w' { B with v0:=v } s' X'/\dO w B w' { B with v0:=v }:=by
 have aZ:=h.lt;have nn:=h.none_;have fD:=h.apart;simp only[HB.vs,f_,gB,or_false,forall_eq_or_imp,forall_eq] at nn;simp only[HB.vs,List.pairwise_cons,f_,gB,or_false,forall_eq_or_imp,forall_eq] at fD;have hB:∀k,k<w.heap.size->aB v k->aB B.v0 k:=λk hk hv=>(iE k hv).resolve_right (by omega);have la:=λk hk=>aZ k (.inr (.inr (.inr ⟨B.v1,by simp[HB.vs],hk⟩)));have lw:=λk hk=>aZ k (.inr (.inr (.inr ⟨B.vw,by simp[HB.vs],hk⟩)));have lf:=λk hk=>aZ k (.inr (.inr (.inr ⟨B.vf,by simp[HB.vs],hk⟩)))
 have rO:bm w' 0 B.v1 (nI (tF s'.cC)):=by
  rw[ho];have h1:=h.r1;simp only[l1,hu,cond_true,cond_false] at h1;refine h1.iI f ?_;rintro k hk (e|e|e)
  ·exact nn.2.1.1 (e ▸ hk)
  ·exact nn.2.1.2.2 (e ▸ hk)
  ·exact fD.1.1 k e hk
 refine⟨⟨hc,ar,?_,?_,?_,?_,rep,h.fD,h.iD,?_,?_⟩,⟨f.mono (λk _ e=>?_),?_,rfl⟩⟩
 ·simp only[l0,Oh,cond_true,cond_false];exact hr
 ·simp only[l1,Oh,cond_true,cond_false];exact rO
 ·rw[hw];refine h.rw.iI f ?_;rintro k hk (e|e|e);exact nn.2.2.1.1 (e ▸ hk);exact nn.2.2.1.2.2 (e ▸ hk);exact fD.1.2.1 k e hk
 ·rw[hf];refine h.rf.iI f ?_;rintro k hk (e|e|e);exact nn.2.2.2.1 (e ▸ hk);exact nn.2.2.2.2.2 (e ▸ hk);exact fD.1.2.2 k e hk
 ·simp only[HB.vs,List.pairwise_cons,f_,gB,or_false,forall_eq_or_imp,forall_eq];exact⟨⟨λk h1 h2=>fD.1.1 k (hB k (la k h2) h1) h2,λk h1 h2=>fD.1.2.1 k (hB k (lw k h2) h1) h2,λk h1 h2=>fD.1.2.2 k (hB k (lf k h2) h1) h2⟩,fD.2.1,fD.2.2.1,by simp,List.Pairwise.nil⟩
 ·simp only[HB.vs,f_,gB,or_false,forall_eq_or_imp,forall_eq];have q:¬aB v B.hp/\¬aB v B.ap/\¬aB v B.ac:=⟨λh1=>nn.1.1 (hB _ (aZ _ (.inl rfl)) h1),λh1=>nn.1.2.1 (hB _ (aZ _ (.inr (.inl rfl))) h1),λh1=>nn.1.2.2 (hB _ (aZ _ (.inr (.inr (.inl rfl)))) h1)⟩;exact⟨q,nn.2⟩
 ·rcases e with e|e|e;exact .inl e;exact .inr (.inr (.inl e));exact .inr (.inr (.inr ⟨B.v0,by simp[HB.vs],e⟩))
 ·rintro k (hk|hk|hk|⟨u,hv,hk⟩)
  ·exact .inl (.inl hk)
  ·exact .inl (.inr (.inl hk))
  ·exact .inl (.inr (.inr (.inl hk)))
  ·simp only[HB.vs,f_,gB,or_false] at hv;have tk:aB v k->lX B k\/w.heap.size<=k:=λhk=>(iE k hk).imp (λh=>.inr (.inr (.inr ⟨B.v0,by simp[HB.vs],h⟩))) id;rcases hv with rfl|rfl|rfl|rfl
   ·first|exact tk hk|exact .inl (.inr (.inr (.inr ⟨_,by simp[HB.vs],hk⟩)))
   ·first|exact tk hk|exact .inl (.inr (.inr (.inr ⟨_,by simp[HB.vs],hk⟩)))
   ·exact .inl (.inr (.inr (.inr ⟨_,by simp[HB.vs],hk⟩)))
   ·exact .inl (.inr (.inr (.inr ⟨_,by simp[HB.vs],hk⟩)))
theorem dB.O5{w w':aj}{B:HB}{s s':HS}{X X':aE}(h:dB w B s X)(hu:s.u=true){v:aC}(f:Fr (λk=>k=B.hp\/k=B.ac\/aB B.v1 k) w w')
 (hc:ag w' B.hp (bI { B with v1:=v } s')) (ar:Ar w' B.ap B.ac X') (hr:bm w' 0 v (nI (gV s'.cur))) (Oh:s'.u=true) (ho:tF s'.cC=tF s.cC) (hw:s'.gh=s.gh) (hf:s'.fin=s.fin) (rep:dF s' X')
 (iE:∀k,aB v k->aB B.v1 k\/w.heap.size<=k):dB w' { B with v1:=v } s' X'/\dO w B w' { B with v1:=v }:=by
 have aZ:=h.lt;have nn:=h.none_;have fD:=h.apart;simp only[HB.vs,f_,gB,or_false,forall_eq_or_imp,forall_eq] at nn;simp only[HB.vs,List.pairwise_cons,f_,gB,or_false,forall_eq_or_imp,forall_eq] at fD;have hB:∀k,k<w.heap.size->aB v k->aB B.v1 k:=λk hk hv=>(iE k hv).resolve_right (by omega);have la:=λk hk=>aZ k (.inr (.inr (.inr ⟨B.v0,by simp[HB.vs],hk⟩)));have lw:=λk hk=>aZ k (.inr (.inr (.inr ⟨B.vw,by simp[HB.vs],hk⟩)));have lf:=λk hk=>aZ k (.inr (.inr (.inr ⟨B.vf,by simp[HB.vs],hk⟩)))
 have rO:bm w' 0 B.v0 (nI (tF s'.cC)):=by
  rw[ho];have h1:=h.r0;simp only[l0,hu,cond_true,cond_false] at h1;refine h1.iI f ?_;rintro k hk (e|e|e)
  ·exact nn.1.1 (e ▸ hk)
  ·exact nn.1.2.2 (e ▸ hk)
  ·exact fD.1.1 k hk e
 refine⟨⟨hc,ar,?_,?_,?_,?_,rep,h.fD,h.iD,?_,?_⟩,⟨f.mono (λk _ e=>?_),?_,rfl⟩⟩
 ·simp only[l0,Oh,cond_true,cond_false];exact rO
 ·simp only[l1,Oh,cond_true,cond_false];exact hr
 ·rw[hw];refine h.rw.iI f ?_;rintro k hk (e|e|e);exact nn.2.2.1.1 (e ▸ hk);exact nn.2.2.1.2.2 (e ▸ hk);exact fD.2.1.1 k e hk
 ·rw[hf];refine h.rf.iI f ?_;rintro k hk (e|e|e);exact nn.2.2.2.1 (e ▸ hk);exact nn.2.2.2.2.2 (e ▸ hk);exact fD.2.1.2 k e hk
 ·simp only[HB.vs,List.pairwise_cons,f_,gB,or_false,forall_eq_or_imp,forall_eq];exact⟨⟨λk h1 h2=>fD.1.1 k h1 (hB k (la k h1) h2),fD.1.2⟩,⟨λk h1 h2=>fD.2.1.1 k (hB k (lw k h2) h1) h2,λk h1 h2=>fD.2.1.2 k (hB k (lf k h2) h1) h2⟩,fD.2.2.1,by simp,List.Pairwise.nil⟩
 ·simp only[HB.vs,f_,gB,or_false,forall_eq_or_imp,forall_eq];have q:¬aB v B.hp/\¬aB v B.ap/\¬aB v B.ac:=⟨λh1=>nn.2.1.1 (hB _ (aZ _ (.inl rfl)) h1),λh1=>nn.2.1.2.1 (hB _ (aZ _ (.inr (.inl rfl))) h1),λh1=>nn.2.1.2.2 (hB _ (aZ _ (.inr (.inr (.inl rfl)))) h1)⟩;exact⟨nn.1,q,nn.2.2⟩
 ·rcases e with e|e|e;exact .inl e;exact .inr (.inr (.inl e));exact .inr (.inr (.inr ⟨B.v1,by simp[HB.vs],e⟩))
 ·rintro k (hk|hk|hk|⟨u,hv,hk⟩)
  ·exact .inl (.inl hk)
  ·exact .inl (.inr (.inl hk))
  ·exact .inl (.inr (.inr (.inl hk)))
  ·simp only[HB.vs,f_,gB,or_false] at hv;have tk:aB v k->lX B k\/w.heap.size<=k:=λhk=>(iE k hk).imp (λh=>.inr (.inr (.inr ⟨B.v1,by simp[HB.vs],h⟩))) id;rcases hv with rfl|rfl|rfl|rfl
   ·first|exact tk hk|exact .inl (.inr (.inr (.inr ⟨_,by simp[HB.vs],hk⟩)))
   ·first|exact tk hk|exact .inl (.inr (.inr (.inr ⟨_,by simp[HB.vs],hk⟩)))
   ·exact .inl (.inr (.inr (.inr ⟨_,by simp[HB.vs],hk⟩)))
   ·exact .inl (.inr (.inr (.inr ⟨_,by simp[HB.vs],hk⟩)))
def HS.fX(s:HS)(p d:Nat)(wk fn:Bool):HS:={ s with cur:=s.cur++[(s.top,Ob.new p d wk fn (s.ser+1))],ser:=s.ser+1 }
theorem dF.fX{s:HS}{X X':aE}(h:dF s X){p d:Nat}{wk fn:Bool}(r:dF (s.alloc p d wk fn) X'):dF (s.fX p d wk fn) X':=
 ⟨r.n1,r.n2,r.len,r.zero,r.half,r.uL,r.room,r.still,r.ser,h.YT⟩
theorem tY(s:HS){p d:Nat}{wk fn:Bool}(df:sK p d wk fn)(hs:s.ser+1<=1099511627776){n R:Nat}(hn:3+p+d=n)(hR:qp (n:Int)=R):((s.fX p d wk fn).top:Int)=s.top+R:=by
 have e:(s.fX p d wk fn).top=s.top+(Ob.new p d wk fn (s.ser+1)).took:=by
  show s.base s.u+dC (s.cur++[(s.top,Ob.new p d wk fn (s.ser+1))])=_;rw[ph];show s.base s.u+(dC s.cur+(Ob.new p d wk fn (s.ser+1)).took)=s.base s.u+dC s.cur+(Ob.new p d wk fn (s.ser+1)).took;omega
 obtain⟨q1,_,_,_⟩:=Ob.ik (Ob.DB df hs);have nL:(Ob.new p d wk fn (s.ser+1)).size=n:=hn;rw[nL,hR] at q1;rw[e];push_cast;omega
theorem tX(s:HS)(p d:Nat)(wk fn:Bool):nI (gV (s.fX p d wk fn).cur)=nI (gV s.cur)++[((s.top:Nat):Int)]:=by
 show nI ((s.cur++[(s.top,Ob.new p d wk fn (s.ser+1))]).map (·.1))=_;simp[gV]
set_option maxRecDepth 100000 in
theorem Jn{w:aj}{B:HB}{s:HS}{X:aE}(h:dB w B s X)(hu:s.u=false){p d:Nat}{wk fn:Bool}(df:sK p d wk fn)
 (hr:qp ((3+p+d:Nat):Int)<=s.room) (hs:s.ser<1099511627776) (hf:s.gh.length<100000/\s.fin.length<100000) :
 aL prog 183 #[jq B,lV p d wk fn] w λe w'=>e=.returned (.tuple #[vI (s.top:Nat),vI 0])/\∃B' X',dB w' B' (s.alloc p d wk fn) X'/\dO w B w' B':=by
 have vP:=af (h.rep.alloc df hr hs hf);have ic:=tE h.rep;have vT:=h.rep.mE;have nJ:=h.rep.n2;have p8:=df.1;have d8:=df.2.1;obtain⟨n,hn⟩:=au (3+p+d);have jb:(3:Int)+p+d=(n:Int):=by rw[<-hn];push_cast;rfl
 have A0:n<=19:=by omega
 have gD:3<=n:=by omega
 obtain⟨R,hR⟩:∃R:Nat,qp (n:Int)=(R:Int):=⟨(qp (n:Int)).toNat,by have:=jg (n:=(n:Int)) (by omega);omega⟩;have jl:=jg (n:=(n:Int)) (by omega);rw[hn,hR] at hr;rw[hR] at jl;obtain⟨UY,UZ,U1⟩:=jl;have Bf:=af (λW (c:Calm w W)=>zx (h.calm c));obtain⟨SV,Nw⟩:=au ((s.ser:Int):Int);have Su:¬(1099511627776<=SV):=by omega
 have Bj:Hid (SV+1<=1099511627776):=by show SV+1<=_;omega
 have fL:IntKind.i64.wrap (SV+1)=SV+1:=IntWalk.i64_in _ (by omega);have JU:Hid (s.ser+1<=1099511627776):=by show s.ser+1<=_;omega
 obtain⟨RM,EF⟩:=au s.room
 have zR:R<=s.n-((s.top:Nat)-(s.base s.u:Nat):Int):=by
  have:=h.rep.room;rw[<-EF] at *;unfold HS.room at hr;unfold HS.top;push_cast;omega
 rw[EF] at hr Bf;have JT:RM<=16384:=by rw[<-EF];unfold HS.room;omega
 replace EF:=af EF;have bs:=pS s;have eb:((s.base s.u:Nat):Int)=1:=by rw[(bs.2 hu).1];rfl
 rw[eb] at zR ic;have hc:=h.cs;simp only[bI,hu,cond_false,cond_true] at hc;rw[Nw] at hc;replace Nw:=af Nw;have aZ:=h.uD;have OH:B.hp≠w.heap.size:=by omega
 have Qy:w.heap.size≠B.hp:=by omega
 have H:=af h;replace df:=af df;replace ic:=af ic;replace zR:=af zR;replace hc:=af hc;obtain⟨T,hT⟩:=au s.top;have hT0:T<=65536:=by omega
 rw[hT] at hc ic zR vP ⊢;replace hT:=af hT;replace hf:=af hf;clear h bs eb vT hs;go_in;go_wp2_with fail
 have k1:Calm w (w.alloc (.cells #[vI p,vI d,.bool wk,.bool fn] 179)):=aq.alloc _;have o1:=ag.new w [vI p,vI d,.bool wk,.bool fn] 179;refine(mC p d wk fn df.out _).mono ?_;rintro e w2 ⟨rfl,k2⟩;rw[jb];clear jb;replace hn:=af hn;replace hR:=af hR;replace o1:=af (o1.calm k2);replace k2:=k1.trans k2;clear k1;go_wp2_with fail
 refine(mS n (by omega) (by omega) _).mono ?_;rintro e w3 ⟨rfl,k3⟩;rw[hR.out];replace o1:=af (o1.out.calm k3);replace k3:=k2.trans k3;clear k2;go_wp2_with fail
 refine(Bf.out _ k3).mono ?_;rintro e w4 ⟨rfl,k4⟩;replace o1:=o1.out.calm k4;replace k4:=k3.trans k4;have gN:=hc.out.calm k4;have ko:=(gN 13 _ rfl).1;have y9:=(gN 9 _ rfl).1;have y1:=(gN 1 _ rfl).1;have y2:=(gN 2 _ rfl).1;have y3:=(gN 3 _ rfl).1;replace gN:=af gN;replace o1:=af o1;clear k3 hc Bf;have oK:=k4.size;have hdr:¬RM<(R:Int):=by omega
 replace hr:=af hr;replace UY:=af UY;replace UZ:=af UZ;replace U1:=af U1;replace JT:=af JT;replace oK:=af oK;replace fL:=af fL;replace p8:=af p8;replace d8:=af d8;replace A0:=af A0;replace gD:=af gD;replace nJ:=af nJ;go_wp2_with fail
 have ne3:B.hp≠w4.heap.size:=by have:=oK.out;omega
 have ne4:w4.heap.size≠B.hp:=by have:=oK.out;omega
 have Dw:=af (λW=>Cc (1) s.n T n W ic.out (by have:=gD.out;omega) (by have:=A0.out;omega) (by rw[hR.out];exact zR.out));rw[hR.out] at Dw
 go_cut [10,11,7] (λYp s11 s7 wx=>∃g,Yp = aR g/\s11=vI T/\s7=.bool true/\ag wx g [vI 1,vI s.n,vI (T+R)]/\Calm w4 wx/\w4.heap.size<=g)
 case first=>
  go_region_held3 (λw'=>w'.cell? ⟨B.hp,9,none⟩=some (vI 0)/\w'.cell? ⟨B.hp,1,none⟩=some (vI 1)/\w'.cell? ⟨B.hp,2,none⟩=some (vI s.n)/\w'.cell? ⟨B.hp,3,none⟩=some (vI T)) (go_keep)
   (first|(go_at_call 223;refine(Dw.out _).mono ?_;rintro e w5 ⟨rfl,c5⟩;have ka:Calm w4 w5:=Fr.trans (by first|exact aq|exact aq.drew|exact(aq.drew).alloc _|exact(aq.alloc _).drew) c5;have q9:=ka.cellAt y9 id;have q1:=ka.cellAt y1 id;have q2:=ka.cellAt y2 id;have q3:=ka.cellAt y3 id;try (have ow:ag w5 w4.heap.size [vI 0,vI 0,vI 0]:=(by first|exact(ag.at _ [vI 0,vI 0,vI 0] 150 w4.heap.size rfl).calm c5|exact((ag.at _ [vI 0,vI 0,vI 0] 150 w4.heap.size rfl).calm (aq.drew)).calm c5);have m0:=(ow 0 _ rfl).1;have m1:=(ow 1 _ rfl).1;have m2:=(ow 2 _ rfl).1;have n0:=(ow 0 _ rfl).2;have n1:=(ow 1 _ rfl).2;have n2:=(ow 2 _ rfl).2)))
  ·go_wp2_with fail
   go_meet;exact⟨w5.heap.size,rfl,rfl,rfl,ag.new w5 [vI 1,vI s.n,vI (T+R)] _,ka.alloc _,ka.size⟩
  ·go_wp2_with fail
   go_meet;have o4:=ow.O8 (vI 1) (vI s.n) (vI (T+R));exact⟨w4.heap.size,rfl,rfl,rfl,o4.1,ka.join o4.2 (λj hj (e:j=w4.heap.size)=>absurd hj (by omega)),aM _⟩
 case rest=>
  obtain⟨g,rfl,rfl,rfl,og,cx,hg⟩:=hcut;replace gN:=gN.out.calm cx;replace o1:=o1.out.calm cx;replace k4:=k4.trans cx;have q0:=GH gN 0 rfl;have Mu:=GH gN 13 rfl;have s0:=GH o1 0 rfl;have s1:=GH o1 1 rfl;have s2:=GH o1 2 rfl;have s3:=GH o1 3 rfl;replace gN:=af gN;replace o1:=af o1;replace og:=af og;replace fL:=fL.out;clear ko y9 y1 y2 y3 cx Dw;go_wp2_with fail
  refine fM 11 (by kernel_rfl) (by kernel_rfl) ?_;simp only[List.take_succ_cons,List.take_zero,List.drop_succ_cons,List.drop_zero]
  repeat (go_big_quiet_step (fail))
  refine wpQuiet_nil ?_;intro w5 hw';have c5:=bS.out hw';clear hw' q0 Mu s0 s1 s2 s3;replace gN:=af (gN.out.calm c5);replace o1:=af (o1.out.calm c5);replace og:=af (og.out.calm c5);replace k4:=k4.trans c5;go_wp2_with fail
  have e1:SV+1=((s.ser+1:Nat):Int):=by have:=Nw.out;push_cast;omega
  have hX:=vP.out.2;have iD:=H.out.iD;have Gk:=H.out.lt _ (.inr (.inr (.inl rfl)));rw[e1];replace e1:=af e1;refine(xB _ B.ap B.ac X (H.out.ar.calm k4) T p d wk fn (s.ser+1) df.out (by rw[hn.out] at hX ⊢;exact hX) JU.out).mono ?_;rintro e w6 ⟨rfl,MU,f6⟩;have gY:g≠B.ac:=by have:=oK.out;omega
  have hoc:w.heap.size≠B.ac:=by omega
  have R7:g≠B.hp:=by have:=oK.out;omega
  have aaF:B.hp≠g:=Ne.symm R7;replace gN:=gN.out.fr f6 iD;replace o1:=o1.out.fr f6 hoc;replace og:=og.out.fr f6 gY;have ko:=(gN 13 _ rfl).1;have v13:=(gN 13 _ rfl).2;obtain⟨g0,g1,g2⟩:=ag.sP og;replace gN:=af gN;replace o1:=af o1;replace MU:=af MU;replace f6:=af f6;replace iD:=af iD;clear og;go_wp2_with fail
  have EV:=(Calm.any (S:=λk=>k=B.hp\/k=B.ac) k4).trans (f6.out.mono (T:=λk=>k=B.hp\/k=B.ac) (λk _ e=>.inr e));have H7:=(gN.out.set 13 (vI (SV+1)) (by simp));have f7:=EV.setCell (p:=⟨B.hp,13,none⟩) (.inl (.inl rfl)) (vI (SV+1));have o7:=o1.out.jC ⟨B.hp,13,none⟩ (vI (SV+1)) OH;have Vu:=MU.out.fr ((Fr.refl (λk=>k=B.hp) w6).setCell (p:=⟨B.hp,13,none⟩) (.inl rfl) (vI (SV+1))) (Ne.symm H.out.fD) (Ne.symm iD.out);clear EV gN o1 MU f6 ko v13 g0 g1 g2;generalize World.setCell w6 _ _=w7 at *;simp only[qq,rj] at H7;have GS:=(H.out.none_ B.v0 (by simp[HB.vs]));have r7:=H.out.r0.iI f7 (by rintro k hk (e|e);exact GS.1 (e ▸ hk);exact GS.2.2 (e ▸ hk));simp only[l0,hu,cond_false,cond_true] at r7;have mZ:=H.out.rep.sT.1;have jk:=λk hk=>H.out.lt k (.inr (.inr (.inr ⟨B.v0,by simp[HB.vs],hk⟩)));refine(Pj H7 r7 GS.1 (by simp;omega) _ _ _ _).mono ?_;rintro e w8 ⟨rfl,v',H8,r8,f8,n8⟩;simp only[qq,rj] at H8;replace o7:=o7.fr f8 (by rintro (e|e);exact Qy e;exact absurd (jk _ e) (by omega));have et:=tY s df.out JU.out hn.out hR.out;have ep:=tX s p d wk fn;rw[hT.out] at et ep
  have Jt:bI { B with v0:=v' } (s.fX p d wk fn)=[gP B.ap,vI 1,vI s.n,vI (T+R),vI (1+s.n),vI s.n,vI s.zu,v',B.v1,vI 0,.bool s.mv,vI (nj s.cC:Nat),vI s.scan,vI (SV+1),B.vw,B.vf]:=by
   have u1:(s.fX p d wk fn).u=false:=hu;have e2:(((s.fX p d wk fn).ser:Nat):Int)=SV+1:=e1.out.symm;simp only[bI,u1,cond_false,cond_true,et,e2];rfl
  obtain⟨hA,hK⟩:=H.out.O4 hu (s':=s.fX p d wk fn) (X':=made X T p d wk fn (s.ser+1)) ((f7.mono (T:=λk=>k=B.hp\/k=B.ac\/aB B.v0 k) (λk _ e=>e.elim .inl (λe=>.inr (.inl e)))).trans (f8.mono (λk _ e=>e.elim .inl (λe=>.inr (.inr e)))))
   (by rw[Jt];exact H8) (Vu.fr f8 (by rintro (e|e);exact H.out.fD e.symm;exact GS.2.1 e) (by rintro (e|e);exact H.out.iD e.symm;exact GS.2.2 e)) (by rw[ep];exact r8) hu rfl rfl rfl (H.out.rep.fX vP.out.1)
   (λk hk=>(n8 k hk).imp id (λe=>by have:=f7.size;omega))
  have o2:=(o7 2 _ rfl).1;have o3:=(o7 3 _ rfl).1;have kp:=(hA.own (i:=14) (v:=B.vw) rfl);have TV:=(hA.own (i:=15) (v:=B.vf) rfl);have Oc:=hA.rw;have N_:=hA.rf;obtain⟨xa,xn,xc,Br⟩:=Oc.letters;obtain⟨za,zn,zc,Bq⟩:=N_.letters;have Br:B.vw=.slice xa xn xc:=Br;have Bq:B.vf=.slice za zn zc:=Bq;replace hA:=af hA;replace hK:=af hK;replace Oc:=af Oc;replace N_:=af N_;clear o7 H8 r8 f8 n8 H7 f7 Vu r7 et ep Jt jk GS mZ hn hR;cases wk
  ·cases fn
   ·go_wp2
    go_ret2
    exact⟨rfl,_,_,hA.out,hK.out⟩
   ·skip
    have jo:=(hA.out.none_ B.vf (by simp[HB.vs])).1;have sH:bm w8 0 (.slice za zn zc) (nI s.fin):=by rw[<-Bq];exact N_.out
    rw[Bq] at TV;have y1:=TV.1;have y2:=TV.2;have sF:(nI s.fin).length<=1000000:=by have:=hf.out;simp;omega
    have Ib:¬aB B.vf w.heap.size:=λe=>absurd (H.out.lt _ (.inr (.inr (.inr ⟨B.vf,by simp[HB.vs],e⟩)))) (by omega);obtain⟨L,hL⟩:=au (nI s.fin);rw[hL] at sH sF;replace hL:=af hL;replace sH:=af sH;replace sF:=af sF;go_wp2_with (at_builtin;refine gx rfl _ _ rfl 0 _ _ sH.out rfl T rfl sF.out (cK _) ?_;intro g9 c9 w9 r9 f9 nH;have y3:=f9.cellAt y1 (by rw[<-Bq];exact jo);have y4:=f9.frozenAt y1 y2 (by rw[<-Bq];exact jo);have y5:=f9.cellAt o3 (by rw[<-Bq];exact Ib);replace r9:=af r9;replace f9:=af f9;replace nH:=af nH)
    go_ret2
    rw[<-Bq] at f9 nH
    have yI:g9≠B.hp:=by
     rintro rfl;rcases nH.out with h9|h9
     ·exact jo h9
     ·have:=hA.out.uD;have e:B.hp<w8.heap.size:=this;omega
    obtain⟨AG,CU⟩:=hA.out.QI (v:=.slice (some ⟨g9,0,none⟩) (L.length+1) c9) (l:=s.fin++[s.top]) ((f9.out.mono (T:=λk=>k=B.hp\/aB B.vf k) (λk _ e=>.inr e)).setCell (p:=⟨B.hp,15,none⟩) (.inl (.inl rfl)) _)
     ((hA.out.cs.fr f9.out jo).set 15 _ (by simp[bI]))
     (by rw[show nI (s.fin++[s.top])=L++[(T:Int)] by rw[<-hL.out];simp[hT.out]];have Tw:bm w9 0 _ _:=r9.out;have:=Tw.iI ((Fr.refl (λb=>b=B.hp) w9).setCell (p:=⟨B.hp,15,none⟩) (.inl rfl) (.slice (some ⟨g9,0,none⟩) (L.length+1) c9)) (λk hk e=>yI ((aB.fg hk).symm.trans e));exact this)
     (λk hk=>by rw[aB.fg hk];exact nH.out) (by have:=hf.out;simp;omega)
    refine⟨rfl,_,_,AG,hK.out.trans CU⟩
  ·cases fn
   ·skip
    have jo:=(hA.out.none_ B.vw (by simp[HB.vs])).1;have sH:bm w8 0 (.slice xa xn xc) (nI s.gh):=by rw[<-Br];exact Oc.out
    rw[Br] at kp;have y1:=kp.1;have y2:=kp.2;have sF:(nI s.gh).length<=1000000:=by have:=hf.out;simp;omega
    have Ib:¬aB B.vw w.heap.size:=λe=>absurd (H.out.lt _ (.inr (.inr (.inr ⟨B.vw,by simp[HB.vs],e⟩)))) (by omega);obtain⟨L,hL⟩:=au (nI s.gh);rw[hL] at sH sF;replace hL:=af hL;replace sH:=af sH;replace sF:=af sF;go_wp2_with (at_builtin;refine gx rfl _ _ rfl 0 _ _ sH.out rfl T rfl sF.out (cK _) ?_;intro g9 c9 w9 r9 f9 nH;have y3:=f9.cellAt y1 (by rw[<-Br];exact jo);have y4:=f9.frozenAt y1 y2 (by rw[<-Br];exact jo);have y5:=f9.cellAt o3 (by rw[<-Br];exact Ib);replace r9:=af r9;replace f9:=af f9;replace nH:=af nH)
    go_ret2
    rw[<-Br] at f9 nH
    have yI:g9≠B.hp:=by
     rintro rfl;rcases nH.out with h9|h9
     ·exact jo h9
     ·have:=hA.out.uD;have e:B.hp<w8.heap.size:=this;omega
    obtain⟨AG,CU⟩:=hA.out.Lc (v:=.slice (some ⟨g9,0,none⟩) (L.length+1) c9) (l:=s.gh++[s.top]) ((f9.out.mono (T:=λk=>k=B.hp\/aB B.vw k) (λk _ e=>.inr e)).setCell (p:=⟨B.hp,14,none⟩) (.inl (.inl rfl)) _)
     ((hA.out.cs.fr f9.out jo).set 14 _ (by simp[bI]))
     (by rw[show nI (s.gh++[s.top])=L++[(T:Int)] by rw[<-hL.out];simp[hT.out]];have Tw:bm w9 0 _ _:=r9.out;have:=Tw.iI ((Fr.refl (λb=>b=B.hp) w9).setCell (p:=⟨B.hp,14,none⟩) (.inl rfl) (.slice (some ⟨g9,0,none⟩) (L.length+1) c9)) (λk hk e=>yI ((aB.fg hk).symm.trans e));exact this)
     (λk hk=>by rw[aB.fg hk];exact nH.out) (by have:=hf.out;simp;omega)
    refine⟨rfl,_,_,AG,hK.out.trans CU⟩
   ·exact absurd (df.out.2.2 rfl).2.2 (by decide)
set_option maxRecDepth 100000 in
theorem Jo{w:aj}{B:HB}{s:HS}{X:aE}(h:dB w B s X)(hu:s.u=true){p d:Nat}{wk fn:Bool}(df:sK p d wk fn)
 (hr:qp ((3+p+d:Nat):Int)<=s.room) (hs:s.ser<1099511627776) (hf:s.gh.length<100000/\s.fin.length<100000) :
 aL prog 183 #[jq B,lV p d wk fn] w λe w'=>e=.returned (.tuple #[vI (s.top:Nat),vI 0])/\∃B' X',dB w' B' (s.alloc p d wk fn) X'/\dO w B w' B':=by
 have vP:=af (h.rep.alloc df hr hs hf);have ic:=tE h.rep;have vT:=h.rep.mE;have nJ:=h.rep.n2;have p8:=df.1;have d8:=df.2.1;obtain⟨n,hn⟩:=au (3+p+d);have jb:(3:Int)+p+d=(n:Int):=by rw[<-hn];push_cast;rfl
 have A0:n<=19:=by omega
 have gD:3<=n:=by omega
 obtain⟨R,hR⟩:∃R:Nat,qp (n:Int)=(R:Int):=⟨(qp (n:Int)).toNat,by have:=jg (n:=(n:Int)) (by omega);omega⟩;have jl:=jg (n:=(n:Int)) (by omega);rw[hn,hR] at hr;rw[hR] at jl;obtain⟨UY,UZ,U1⟩:=jl;have Bf:=af (λW (c:Calm w W)=>zx (h.calm c));obtain⟨SV,Nw⟩:=au ((s.ser:Int):Int);have Su:¬(1099511627776<=SV):=by omega
 have Bj:Hid (SV+1<=1099511627776):=by show SV+1<=_;omega
 have fL:IntKind.i64.wrap (SV+1)=SV+1:=IntWalk.i64_in _ (by omega);have JU:Hid (s.ser+1<=1099511627776):=by show s.ser+1<=_;omega
 obtain⟨RM,EF⟩:=au s.room
 have zR:R<=s.n-((s.top:Nat)-(s.base s.u:Nat):Int):=by
  have:=h.rep.room;rw[<-EF] at *;unfold HS.room at hr;unfold HS.top;push_cast;omega
 rw[EF] at hr Bf;have JT:RM<=16384:=by rw[<-EF];unfold HS.room;omega
 replace EF:=af EF;have bs:=pS s;have eb:((s.base s.u:Nat):Int)=1+s.n:=by rw[(bs.1 hu).1];push_cast;rfl
 rw[eb] at zR ic;have hc:=h.cs;simp only[bI,hu,cond_false,cond_true] at hc;rw[Nw] at hc;replace Nw:=af Nw;have aZ:=h.uD;have OH:B.hp≠w.heap.size:=by omega
 have Qy:w.heap.size≠B.hp:=by omega
 have H:=af h;replace df:=af df;replace ic:=af ic;replace zR:=af zR;replace hc:=af hc;obtain⟨T,hT⟩:=au s.top;have hT0:T<=65536:=by omega
 rw[hT] at hc ic zR vP ⊢;replace hT:=af hT;replace hf:=af hf;clear h bs eb vT hs;go_in;go_wp2_with fail
 have k1:Calm w (w.alloc (.cells #[vI p,vI d,.bool wk,.bool fn] 179)):=aq.alloc _;have o1:=ag.new w [vI p,vI d,.bool wk,.bool fn] 179;refine(mC p d wk fn df.out _).mono ?_;rintro e w2 ⟨rfl,k2⟩;rw[jb];clear jb;replace hn:=af hn;replace hR:=af hR;replace o1:=af (o1.calm k2);replace k2:=k1.trans k2;clear k1;go_wp2_with fail
 refine(mS n (by omega) (by omega) _).mono ?_;rintro e w3 ⟨rfl,k3⟩;rw[hR.out];replace o1:=af (o1.out.calm k3);replace k3:=k2.trans k3;clear k2;go_wp2_with fail
 refine(Bf.out _ k3).mono ?_;rintro e w4 ⟨rfl,k4⟩;replace o1:=o1.out.calm k4;replace k4:=k3.trans k4;have gN:=hc.out.calm k4;have ko:=(gN 13 _ rfl).1;have y9:=(gN 9 _ rfl).1;have y1:=(gN 4 _ rfl).1;have y2:=(gN 5 _ rfl).1;have y3:=(gN 6 _ rfl).1;replace gN:=af gN;replace o1:=af o1;clear k3 hc Bf;have oK:=k4.size;have hdr:¬RM<(R:Int):=by omega
 replace hr:=af hr;replace UY:=af UY;replace UZ:=af UZ;replace U1:=af U1;replace JT:=af JT;replace oK:=af oK;replace fL:=af fL;replace p8:=af p8;replace d8:=af d8;replace A0:=af A0;replace gD:=af gD;replace nJ:=af nJ;go_wp2_with fail
 have ne3:B.hp≠w4.heap.size:=by have:=oK.out;omega
 have ne4:w4.heap.size≠B.hp:=by have:=oK.out;omega
 have Dw:=af (λW=>Cc (1+s.n) s.n T n W ic.out (by have:=gD.out;omega) (by have:=A0.out;omega) (by rw[hR.out];exact zR.out));rw[hR.out] at Dw
 go_cut [10,11,7] (λYp s11 s7 wx=>∃g,Yp = aR g/\s11=vI T/\s7=.bool true/\ag wx g [vI (1+s.n),vI s.n,vI (T+R)]/\Calm w4 wx/\w4.heap.size<=g)
 case first=>
  go_region_held3 (λw'=>w'.cell? ⟨B.hp,9,none⟩=some (vI 1)/\w'.cell? ⟨B.hp,4,none⟩=some (vI (1+s.n))/\w'.cell? ⟨B.hp,5,none⟩=some (vI s.n)/\w'.cell? ⟨B.hp,6,none⟩=some (vI T)) (go_keep)
   (first|(go_at_call 223;refine(Dw.out _).mono ?_;rintro e w5 ⟨rfl,c5⟩;have ka:Calm w4 w5:=Fr.trans (by first|exact aq|exact aq.drew|exact(aq.drew).alloc _|exact(aq.alloc _).drew) c5;have q9:=ka.cellAt y9 id;have q1:=ka.cellAt y1 id;have q2:=ka.cellAt y2 id;have q3:=ka.cellAt y3 id;try (have ow:ag w5 w4.heap.size [vI 0,vI 0,vI 0]:=(by first|exact(ag.at _ [vI 0,vI 0,vI 0] 150 w4.heap.size rfl).calm c5|exact((ag.at _ [vI 0,vI 0,vI 0] 150 w4.heap.size rfl).calm (aq.drew)).calm c5);have m0:=(ow 0 _ rfl).1;have m1:=(ow 1 _ rfl).1;have m2:=(ow 2 _ rfl).1;have n0:=(ow 0 _ rfl).2;have n1:=(ow 1 _ rfl).2;have n2:=(ow 2 _ rfl).2)))
  ·go_wp2_with fail
   go_meet;exact⟨w5.heap.size,rfl,rfl,rfl,ag.new w5 [vI (1+s.n),vI s.n,vI (T+R)] _,ka.alloc _,ka.size⟩
  ·go_wp2_with fail
   go_meet;have o4:=ow.O8 (vI (1+s.n)) (vI s.n) (vI (T+R));exact⟨w4.heap.size,rfl,rfl,rfl,o4.1,ka.join o4.2 (λj hj (e:j=w4.heap.size)=>absurd hj (by omega)),aM _⟩
 case rest=>
  obtain⟨g,rfl,rfl,rfl,og,cx,hg⟩:=hcut;replace gN:=gN.out.calm cx;replace o1:=o1.out.calm cx;replace k4:=k4.trans cx;have q0:=GH gN 0 rfl;have Mu:=GH gN 13 rfl;have s0:=GH o1 0 rfl;have s1:=GH o1 1 rfl;have s2:=GH o1 2 rfl;have s3:=GH o1 3 rfl;replace gN:=af gN;replace o1:=af o1;replace og:=af og;replace fL:=fL.out;clear ko y9 y1 y2 y3 cx Dw;go_wp2_with fail
  refine fM 11 (by kernel_rfl) (by kernel_rfl) ?_;simp only[List.take_succ_cons,List.take_zero,List.drop_succ_cons,List.drop_zero]
  repeat (go_big_quiet_step (fail))
  refine wpQuiet_nil ?_;intro w5 hw';have c5:=bS.out hw';clear hw' q0 Mu s0 s1 s2 s3;replace gN:=af (gN.out.calm c5);replace o1:=af (o1.out.calm c5);replace og:=af (og.out.calm c5);replace k4:=k4.trans c5;go_wp2_with fail
  have e1:SV+1=((s.ser+1:Nat):Int):=by have:=Nw.out;push_cast;omega
  have hX:=vP.out.2;have iD:=H.out.iD;have Gk:=H.out.lt _ (.inr (.inr (.inl rfl)));rw[e1];replace e1:=af e1;refine(xB _ B.ap B.ac X (H.out.ar.calm k4) T p d wk fn (s.ser+1) df.out (by rw[hn.out] at hX ⊢;exact hX) JU.out).mono ?_;rintro e w6 ⟨rfl,MU,f6⟩;have gY:g≠B.ac:=by have:=oK.out;omega
  have hoc:w.heap.size≠B.ac:=by omega
  have R7:g≠B.hp:=by have:=oK.out;omega
  have aaF:B.hp≠g:=Ne.symm R7;replace gN:=gN.out.fr f6 iD;replace o1:=o1.out.fr f6 hoc;replace og:=og.out.fr f6 gY;have ko:=(gN 13 _ rfl).1;have v13:=(gN 13 _ rfl).2;obtain⟨g0,g1,g2⟩:=ag.sP og;replace gN:=af gN;replace o1:=af o1;replace MU:=af MU;replace f6:=af f6;replace iD:=af iD;clear og;go_wp2_with fail
  have EV:=(Calm.any (S:=λk=>k=B.hp\/k=B.ac) k4).trans (f6.out.mono (T:=λk=>k=B.hp\/k=B.ac) (λk _ e=>.inr e));have H7:=(gN.out.set 13 (vI (SV+1)) (by simp));have f7:=EV.setCell (p:=⟨B.hp,13,none⟩) (.inl (.inl rfl)) (vI (SV+1));have o7:=o1.out.jC ⟨B.hp,13,none⟩ (vI (SV+1)) OH;have Vu:=MU.out.fr ((Fr.refl (λk=>k=B.hp) w6).setCell (p:=⟨B.hp,13,none⟩) (.inl rfl) (vI (SV+1))) (Ne.symm H.out.fD) (Ne.symm iD.out);clear EV gN o1 MU f6 ko v13 g0 g1 g2;generalize World.setCell w6 _ _=w7 at *;simp only[qq,rj] at H7;have GS:=(H.out.none_ B.v1 (by simp[HB.vs]));have r7:=H.out.r1.iI f7 (by rintro k hk (e|e);exact GS.1 (e ▸ hk);exact GS.2.2 (e ▸ hk));simp only[l1,hu,cond_false,cond_true] at r7;have mZ:=H.out.rep.sT.1;have jk:=λk hk=>H.out.lt k (.inr (.inr (.inr ⟨B.v1,by simp[HB.vs],hk⟩)));refine(Pk H7 r7 GS.1 (by simp;omega) _ _ _ _).mono ?_;rintro e w8 ⟨rfl,v',H8,r8,f8,n8⟩;simp only[qq,rj] at H8;replace o7:=o7.fr f8 (by rintro (e|e);exact Qy e;exact absurd (jk _ e) (by omega));have et:=tY s df.out JU.out hn.out hR.out;have ep:=tX s p d wk fn;rw[hT.out] at et ep
  have Jt:bI { B with v1:=v' } (s.fX p d wk fn)=[gP B.ap,vI 1,vI s.n,vI s.zu,vI (1+s.n),vI s.n,vI (T+R),B.v0,v',vI 1,.bool s.mv,vI (nj s.cC:Nat),vI s.scan,vI (SV+1),B.vw,B.vf]:=by
   have u1:(s.fX p d wk fn).u=true:=hu;have e2:(((s.fX p d wk fn).ser:Nat):Int)=SV+1:=e1.out.symm;simp only[bI,u1,cond_false,cond_true,et,e2];rfl
  obtain⟨hA,hK⟩:=H.out.O5 hu (s':=s.fX p d wk fn) (X':=made X T p d wk fn (s.ser+1)) ((f7.mono (T:=λk=>k=B.hp\/k=B.ac\/aB B.v1 k) (λk _ e=>e.elim .inl (λe=>.inr (.inl e)))).trans (f8.mono (λk _ e=>e.elim .inl (λe=>.inr (.inr e)))))
   (by rw[Jt];exact H8) (Vu.fr f8 (by rintro (e|e);exact H.out.fD e.symm;exact GS.2.1 e) (by rintro (e|e);exact H.out.iD e.symm;exact GS.2.2 e)) (by rw[ep];exact r8) hu rfl rfl rfl (H.out.rep.fX vP.out.1)
   (λk hk=>(n8 k hk).imp id (λe=>by have:=f7.size;omega))
  have o2:=(o7 2 _ rfl).1;have o3:=(o7 3 _ rfl).1;have kp:=(hA.own (i:=14) (v:=B.vw) rfl);have TV:=(hA.own (i:=15) (v:=B.vf) rfl);have Oc:=hA.rw;have N_:=hA.rf;obtain⟨xa,xn,xc,Br⟩:=Oc.letters;obtain⟨za,zn,zc,Bq⟩:=N_.letters;have Br:B.vw=.slice xa xn xc:=Br;have Bq:B.vf=.slice za zn zc:=Bq;replace hA:=af hA;replace hK:=af hK;replace Oc:=af Oc;replace N_:=af N_;clear o7 H8 r8 f8 n8 H7 f7 Vu r7 et ep Jt jk GS mZ hn hR;cases wk
  ·cases fn
   ·go_wp2
    go_ret2
    exact⟨rfl,_,_,hA.out,hK.out⟩
   ·skip
    have jo:=(hA.out.none_ B.vf (by simp[HB.vs])).1;have sH:bm w8 0 (.slice za zn zc) (nI s.fin):=by rw[<-Bq];exact N_.out
    rw[Bq] at TV;have y1:=TV.1;have y2:=TV.2;have sF:(nI s.fin).length<=1000000:=by have:=hf.out;simp;omega
    have Ib:¬aB B.vf w.heap.size:=λe=>absurd (H.out.lt _ (.inr (.inr (.inr ⟨B.vf,by simp[HB.vs],e⟩)))) (by omega);obtain⟨L,hL⟩:=au (nI s.fin);rw[hL] at sH sF;replace hL:=af hL;replace sH:=af sH;replace sF:=af sF;go_wp2_with (at_builtin;refine gx rfl _ _ rfl 0 _ _ sH.out rfl T rfl sF.out (cK _) ?_;intro g9 c9 w9 r9 f9 nH;have y3:=f9.cellAt y1 (by rw[<-Bq];exact jo);have y4:=f9.frozenAt y1 y2 (by rw[<-Bq];exact jo);have y5:=f9.cellAt o3 (by rw[<-Bq];exact Ib);replace r9:=af r9;replace f9:=af f9;replace nH:=af nH)
    go_ret2
    rw[<-Bq] at f9 nH
    have yI:g9≠B.hp:=by
     rintro rfl;rcases nH.out with h9|h9
     ·exact jo h9
     ·have:=hA.out.uD;have e:B.hp<w8.heap.size:=this;omega
    obtain⟨AG,CU⟩:=hA.out.QI (v:=.slice (some ⟨g9,0,none⟩) (L.length+1) c9) (l:=s.fin++[s.top]) ((f9.out.mono (T:=λk=>k=B.hp\/aB B.vf k) (λk _ e=>.inr e)).setCell (p:=⟨B.hp,15,none⟩) (.inl (.inl rfl)) _)
     ((hA.out.cs.fr f9.out jo).set 15 _ (by simp[bI]))
     (by rw[show nI (s.fin++[s.top])=L++[(T:Int)] by rw[<-hL.out];simp[hT.out]];have Tw:bm w9 0 _ _:=r9.out;have:=Tw.iI ((Fr.refl (λb=>b=B.hp) w9).setCell (p:=⟨B.hp,15,none⟩) (.inl rfl) (.slice (some ⟨g9,0,none⟩) (L.length+1) c9)) (λk hk e=>yI ((aB.fg hk).symm.trans e));exact this)
     (λk hk=>by rw[aB.fg hk];exact nH.out) (by have:=hf.out;simp;omega)
    refine⟨rfl,_,_,AG,hK.out.trans CU⟩
  ·cases fn
   ·skip
    have jo:=(hA.out.none_ B.vw (by simp[HB.vs])).1;have sH:bm w8 0 (.slice xa xn xc) (nI s.gh):=by rw[<-Br];exact Oc.out
    rw[Br] at kp;have y1:=kp.1;have y2:=kp.2;have sF:(nI s.gh).length<=1000000:=by have:=hf.out;simp;omega
    have Ib:¬aB B.vw w.heap.size:=λe=>absurd (H.out.lt _ (.inr (.inr (.inr ⟨B.vw,by simp[HB.vs],e⟩)))) (by omega);obtain⟨L,hL⟩:=au (nI s.gh);rw[hL] at sH sF;replace hL:=af hL;replace sH:=af sH;replace sF:=af sF;go_wp2_with (at_builtin;refine gx rfl _ _ rfl 0 _ _ sH.out rfl T rfl sF.out (cK _) ?_;intro g9 c9 w9 r9 f9 nH;have y3:=f9.cellAt y1 (by rw[<-Br];exact jo);have y4:=f9.frozenAt y1 y2 (by rw[<-Br];exact jo);have y5:=f9.cellAt o3 (by rw[<-Br];exact Ib);replace r9:=af r9;replace f9:=af f9;replace nH:=af nH)
    go_ret2
    rw[<-Br] at f9 nH
    have yI:g9≠B.hp:=by
     rintro rfl;rcases nH.out with h9|h9
     ·exact jo h9
     ·have:=hA.out.uD;have e:B.hp<w8.heap.size:=this;omega
    obtain⟨AG,CU⟩:=hA.out.Lc (v:=.slice (some ⟨g9,0,none⟩) (L.length+1) c9) (l:=s.gh++[s.top]) ((f9.out.mono (T:=λk=>k=B.hp\/aB B.vw k) (λk _ e=>.inr e)).setCell (p:=⟨B.hp,14,none⟩) (.inl (.inl rfl)) _)
     ((hA.out.cs.fr f9.out jo).set 14 _ (by simp[bI]))
     (by rw[show nI (s.gh++[s.top])=L++[(T:Int)] by rw[<-hL.out];simp[hT.out]];have Tw:bm w9 0 _ _:=r9.out;have:=Tw.iI ((Fr.refl (λb=>b=B.hp) w9).setCell (p:=⟨B.hp,14,none⟩) (.inl rfl) (.slice (some ⟨g9,0,none⟩) (L.length+1) c9)) (λk hk e=>yI ((aB.fg hk).symm.trans e));exact this)
     (λk hk=>by rw[aB.fg hk];exact nH.out) (by have:=hf.out;simp;omega)
    refine⟨rfl,_,_,AG,hK.out.trans CU⟩
   ·exact absurd (df.out.2.2 rfl).2.2 (by decide)
section
theorem C0{w:aj}{B:HB}{s:HS}{X:aE}(h:dB w B s X){p d:Nat}{wk fn:Bool}(df:sK p d wk fn)
 (hr:qp ((3+p+d:Nat):Int)<=s.room) (hs:s.ser<1099511627776) (hf:s.gh.length<100000/\s.fin.length<100000) :
 aL prog 183 #[jq B,lV p d wk fn] w λe w'=>e=.returned (.tuple #[vI (s.top:Nat),vI 0])/\∃B' X',dB w' B' (s.alloc p d wk fn) X'/\dO w B w' B':=by
 cases hu:s.u
 ·exact Jn h hu df hr hs hf
 ·exact Jo h hu df hr hs hf
set_option maxRecDepth 100000 in
theorem Gl{w:aj}{B:HB}{s:HS}{X:aE}(h:dB w B s X){p d:Nat}{wk fn:Bool}(df:sK p d wk fn)(hr:s.room<qp ((3+p+d:Nat):Int)) :
 aL prog 183 #[jq B,lV p d wk fn] w λe w'=>e=.returned (.tuple #[vI 0,vI 100])/\Calm w w':=by
 have p8:=df.1;have d8:=df.2.1;obtain⟨n,hn⟩:=au (3+p+d);have jb:(3:Int)+p+d=(n:Int):=by rw[<-hn];push_cast;rfl
 have A0:n<=19:=by omega
 have gD:3<=n:=by omega
 obtain⟨R,hR⟩:∃R:Nat,qp (n:Int)=(R:Int):=⟨(qp (n:Int)).toNat,by have:=jg (n:=(n:Int)) (by omega);omega⟩;rw[hn,hR] at hr;have Bf:=af (λW (c:Calm w W)=>zx (h.calm c));obtain⟨RM,EF⟩:=au s.room;rw[EF] at hr Bf;replace df:=af df;clear h EF;go_in;go_wp2_with fail
 have k1:Calm w (w.alloc (.cells #[vI p,vI d,.bool wk,.bool fn] 179)):=aq.alloc _;refine(mC p d wk fn df.out _).mono ?_;rintro e w2 ⟨rfl,k2⟩;rw[jb];clear jb;replace hn:=af hn;replace hR:=af hR;replace k2:=k1.trans k2;clear k1;go_wp2_with fail
 refine(mS n (by omega) (by omega) _).mono ?_;rintro e w3 ⟨rfl,k3⟩;rw[hR.out];replace k3:=k2.trans k3;clear k2;go_wp2_with fail
 refine(Bf.out _ k3).mono ?_;rintro e w4 ⟨rfl,k4⟩;replace k4:=k3.trans k4;go_wp2
 go_ret2
 exact⟨rfl,k4⟩
section
variable {w:aj}{B:HB}{s:HS}{X:aE}
theorem Gy(h:dB w B s X){a:Int}(ha:cL a)(hm:a∉nI (gV s.cur)) :
 aL prog 99 #[jq B,vI a] w λe w'=>e=.returned (.tuple #[lV 0 0 false false,.bool false,vI 70])/\Calm w w':=by
 have hh:=af (λW (c:Calm w W)=>gG (h.calm c) ha hm);clear h hm;go_in;go_wp2_with fail
 have k1:Calm w (w.alloc (.cells #[vI 0,vI 0,.bool false,.bool false] 179)):=aq.alloc _;have o1:=ag.new w [vI 0,vI 0,.bool false,.bool false] 179;refine(hh.out _ k1).mono ?_;rintro e w1 ⟨rfl,c1⟩;replace o1:=o1.calm c1;replace k1:=k1.trans c1;obtain⟨m0,n0⟩:=o1 0 _ rfl;obtain⟨m1,n1⟩:=o1 1 _ rfl;obtain⟨m2,n2⟩:=o1 2 _ rfl;obtain⟨m3,n3⟩:=o1 3 _ rfl;go_wp2;have o2:=o1.zB (vI 0) (vI 0) (.bool false) (.bool false);have c3:Calm w _:=k1.join o2.2 (by intros;omega);have z:=o2.1;generalize World.setCell _ _ _=w3 at *;obtain⟨z0,z1,z2,z3⟩:=ag.sQ z;exact bodyPost_ret (v:=.tuple #[lV 0 0 false false,.bool false,vI 70]) (by simp[results,Tryz.f99,go_sem,z0,z1,z2,z3]) rfl ⟨rfl,c3⟩
theorem Dv(h:dB w B s X){i a:Nat}{o:Ob}(c:dz s i a o) :
 aL prog 99 #[jq B,vI a] w λe w'=>e=.returned (.tuple #[lV o.p o.d o.wk o.fn,.bool o.fr,vI 0])/\Calm w w':=by
 have hh:=af (λW (k:Calm w W)=>dY (h.calm k) c.mem (c.le h.rep));have y0:=(h.own (i:=0) (v:=gP B.ap) rfl).1;have ha:=af (c.at_ h.rep);have aZ:=h.uD;have H:=af h;clear h;go_in;go_wp2_with fail
 have k1:Calm w (w.alloc (.cells #[vI 0,vI 0,.bool false,.bool false] 179)):=aq.alloc _;have o1:=ag.new w [vI 0,vI 0,.bool false,.bool false] 179;refine(hh.out _ k1).mono ?_;rintro e w1 ⟨rfl,c1⟩;replace o1:=o1.calm c1;replace k1:=k1.trans c1;replace y0:=k1.cellAt y0 id;have arx:=af (H.out.ar.calm k1);clear c1;go_wp2_with fail
 refine(IG arx.out ha.out).mono ?_;rintro e w2 ⟨rfl,c2⟩;replace o1:=o1.calm c2;replace k1:=k1.trans c2;obtain⟨m0,n0⟩:=o1 0 _ rfl;obtain⟨m1,n1⟩:=o1 1 _ rfl;obtain⟨m2,n2⟩:=o1 2 _ rfl;obtain⟨m3,n3⟩:=o1 3 _ rfl;go_wp2;have o2:=o1.zB (vI o.p) (vI o.d) (.bool o.wk) (.bool o.fn);have c3:Calm w _:=k1.join o2.2 (by intros;omega);have z:=o2.1;generalize World.setCell _ _ _=w3 at *;obtain⟨z0,z1,z2,z3⟩:=ag.sQ z;exact bodyPost_ret (v:=.tuple #[lV o.p o.d o.wk o.fn,.bool o.fr,vI 0]) (by simp[results,Tryz.f99,go_sem,z0,z1,z2,z3]) rfl ⟨rfl,c3⟩
theorem Ds(h:dB w B s X){i a:Nat}{o:Ob}(c:dz s i a o){bp:Bool}{k:Int}{v:Nat}(hk:Has bp k o.p)(hv:v=0\/v∈gV s.cur)(eC:v<=131072) :
 aL prog 133 #[jq B,vI a,vI k,vI v] w λe w'=>e=.returned (vI (bif bp then 0 else 71))/\∃X',dB w' B (s.nT i (o.np bp k v)) X'/\dO w B w' B:=by
 replace hk:=af hk;replace eC:=af eC;have hh:=af (dY h c.mem (c.le h.rep));have ha:=af (c.at_ h.rep);have y0:=(h.own (i:=0) (v:=gP B.ap) rfl).1;have H:=af h;clear h
 by_cases hz:v=0
 ·subst hz;go_in;go_wp2_with fail
  refine(hh.out).mono ?_;rintro e w1 ⟨rfl,c1⟩;replace y0:=c1.cellAt y0 id;replace H:=af (H.out.calm c1);go_wp2_with fail
  refine(pQ (v:=0) H.out.ar ha.out hk.out eC.out).mono ?_;rintro e w2 ⟨rfl,MT,f2⟩;have ht:=af (H.out.dN c MT f2 (o':=o.np bp k 0) (by cases bp <;> simp) (Has.x_ ha.out hk.out eC.out) (o.xJ bp k 0) (λj hj=>by have hk:=hk.out;simp only[Ob.size] at hj;rcases hk with ⟨rfl,h1,h2⟩|⟨rfl,h1⟩ <;> simp only[cond_true,cond_false];rw[eT,if_neg (by omega)]));have ic:=dO.calm B c1;go_wp2;go_ret;exact⟨rfl,_,ht.out.1,ic.trans ht.out.2⟩
 ·have hvm:=hv.resolve_left hz;have R_:=af (λW (c:Calm w W)=>dY (H.out.calm c) hvm eC.out);have gU:¬((v:Int)=0):=by omega
  replace hvm:=af hvm;go_in;go_wp2_with fail
  refine(hh.out).mono ?_;rintro e w1 ⟨rfl,c1⟩;replace y0:=c1.cellAt y0 id;replace H:=af (H.out.calm c1);go_wp2_with fail
  refine(R_.out _ c1).mono ?_;rintro e w2 ⟨rfl,c2⟩;replace y0:=c2.cellAt y0 id;replace H:=af (H.out.calm c2);go_wp2_with fail
  refine(pQ H.out.ar ha.out hk.out eC.out).mono ?_;rintro e w3 ⟨rfl,MT,f2⟩;have ht:=af (H.out.dN c MT f2 (o':=o.np bp k v) (by cases bp <;> simp) (Has.x_ ha.out hk.out eC.out) (o.xJ bp k v) (λj hj=>by have hk:=hk.out;simp only[Ob.size] at hj;rcases hk with ⟨rfl,h1,h2⟩|⟨rfl,h1⟩ <;> simp only[cond_true,cond_false];rw[eT,if_neg (by omega)]));have ic:=(dO.calm B c1).trans (dO.calm B c2);go_wp2;go_ret;exact⟨rfl,_,ht.out.1,ic.trans ht.out.2⟩
theorem Dj(h:dB w B s X){i a:Nat}{o:Ob}(c:dz s i a o){k:Int}(hk:k<0\/(o.p:Int)<=k) :
 aL prog 135 #[jq B,vI a,vI k] w λe w'=>e=.returned (.tuple #[vI 0,vI 71])/\Calm w w':=by
 replace hk:=af hk;have hh:=af (dY h c.mem (c.le h.rep));have y0:=(h.own (i:=0) (v:=gP B.ap) rfl).1;have ha:=af (c.at_ h.rep);have H:=af h;clear h;go_in;go_wp2_with fail
 refine(hh.out).mono ?_;rintro e w1 ⟨rfl,c1⟩;replace y0:=c1.cellAt y0 id;replace H:=af (H.out.calm c1);go_wp2_with fail
 refine(FW H.out.ar ha.out hk.out).mono ?_;rintro e w2 ⟨rfl,c2⟩;go_wp2
 go_ret2
 exact⟨rfl,c1.trans c2⟩
theorem AD{α:Type}{l:List α}{i:Nat}(d:α)(h:i<l.length):l.getD i d∈l:=by simp[List.getD,h]
theorem dF.Ts{s:HS}{X:aE}(h:dF s X){q:Nat}(hq:q∈gV s.cur):q<=131072:=by
 obtain⟨i,o,c⟩:=dz.zm hq;exact c.le h
end
end
section
end
section
end
section
section
variable {w:aj}{B:HB}{s:HS}{X:aE}
end
end
section
end
section
end
