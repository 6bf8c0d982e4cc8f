import Derived.Deep.AppendLies
import Derived.Deep.DrawnRows
import Derived.Test.YtgijglafnlbdbaaGreatTmAD
set_option linter.all false
set_option maxHeartbeats 1000000
set_option maxRecDepth 8000
namespace Go.Proofs.YtgijglafnlbdbaaGreat
open RowKit Shelf Proofs.Tryz
open Go renaming World->ag,Value->aA,Calls->aJ
attribute [local go_sem ↓] Go.wp_at_zero Go.wp_at_succ
theorem yH{ops:Array Oper}{o:Oper}{a:Act}{w:ag}{K:Act->ag->Prop}{Q:Exit->Act->ag->Prop}{E:Prop}(pH:o.guard=none)(s x:Operand)
 (ho:o.op=.call { callee:=.builtin .append,args:=#[s,x],argTypes:=#[43,43] })
 (v:aA) (l:List Int) (bS:aI w 0 v l) (hs:a.eval s=v) (y:Int) (ad:Addr) (c:Nat) (hx:a.eval x=.slice (some ad) 1 c) (hc:w.cell? ad=some (vI y)) (hl:l.length<=1000000)
 (h:∀g c w',aI w' 0 (.slice (some ⟨g,0,none⟩) (l.length+1) c) (l++[y])->Fr (ay v) w w'->(ay v g\/g=w.heap.size)->K (a.put o.dst (.slice (some ⟨g,0,none⟩) (l.length+1) c)) w') :
 if Region.wanted o (yielded ops a.tmps)=true then Oper.wp prog o a w K Q else E:=by
 obtain⟨i0,hi,iR,iT,jm⟩:=info_parts jV;refine step_append_lies w pH s x 43 ho 0 3 i0 (vI 0) 1 8 Tryz.underlying43 hi iR iT jm rfl (by decide) v l.length (lj l) hs bS ad 1 c [vI y] hx rfl (λj u hj=>?_) (by simp[Value.oneCell']) (by omega) (by unfold maxLen;omega) (by omega) (bY _) _ rfl ?_
 ·match j with
  | 0=>simp at hj;subst hj;simpa[Addr.add] using hc
  | j+1=>simp at hj
 intro g cap w' fO eK jr _;refine h g cap w' ?_ (Fr.grown ah eK (λk hk=>.inl hk)) ?_
 ·show World.ownsRow _ _ _ _ _ _ _;rw[b_,lj,List.map_append];exact fO
 ·exact jr
theorem GL{w:ag}{hp:Nat}{c0 c1 c2 c3 c4 c5 c6 c7 c8 Dr J1 J2 Bg Ay J3:aA}(h:af w hp [c0,c1,c2,c3,c4,c5,c6,c7,c8,vI 0,Dr,J1,J2,Bg,Ay,J3])
 {l:List Int} (hr:aI w 0 c7 l) (hn:¬ay c7 hp) (hl:l.length<=100000) (b s t a:Int) :
 aJ prog 225 #[bw hp,wE b s t,vI a] w λe w'=>e=.returned (.tuple #[])/\∃v',
  af w' hp ((([c0,c1,c2,c3,c4,c5,c6,c7,c8,vI 0,Dr,J1,J2,Bg,Ay,J3].set 1 (vI b)).set 2 (vI s)).set 3 (vI t) |>.set 7 v') /\
  aI w' 0 v' (l++[a])/\Fr (λk=>k=hp\/ay c7 k) w w'/\∀k,ay v' k->ay c7 k\/w.heap.size<=k:=by
 have aM:=h.lt (by simp);obtain⟨sa,sn,sc,rfl⟩:=hr.letters;have H:=hid h;have y0:=(h 1 _ rfl).1;have y1:=(h 2 _ rfl).1;have y2:=(h 3 _ rfl).1;have z0:=(h 1 _ rfl).2;have z1:=(h 2 _ rfl).2;have z2:=(h 3 _ rfl).2;have y9:=(h 9 _ rfl).1;replace hn:=hid hn;have uI:=hid hr;clear h hr;have EO:hp≠w.heap.size:=by omega
 have Gm:w.heap.size≠hp:=by omega
 go_in;go_wp2_with fail
 go_region
 generalize gO:World.drew _=W1
 have f1:Fr (λk=>k=hp) w W1:=by
  rw[<-gO];exact((((Fr.refl (λk=>k=hp) w).setCell (p:=⟨hp,1,none⟩) (.inl rfl) _).setCell (p:=⟨hp,2,none⟩) (.inl rfl) _).setCell (p:=⟨hp,3,none⟩) (.inl rfl) _).alloc _ |>.drew
 have H1:=H.out;replace H1:=(((H1.set 1 (vI b) (by simp)).set 2 (vI s) (by simp)).set 3 (vI t) (by simp)).alloc (.cells #[vI b,vI s,vI t] 150);replace H1:af W1 hp _:=λi v hv=>by rw[<-gO];exact(H1 i v hv).drew
 have gA:=hid (uI.out.dw f1 (λk hk e=>hn.out (e ▸ hk)));replace f1:=hid f1;have U7:hp<W1.heap.size:=H1.lt (by simp);simp only[iz,jk] at H1;clear gO y0 y1 y2 z0 z1 z2 y9 H;go_wp2_with fail
 have u9:=(H1 9 _ rfl).1;have u7:=(H1 7 _ rfl).1;have v7:=(H1 7 _ rfl).2;replace H1:=hid H1;have Oi:hp≠W1.heap.size:=by omega
 have SK:W1.heap.size≠hp:=by omega
 clear EO Gm
 go_region_law
  ((refine yH rfl _ _ rfl (.slice sa sn sc) l (gA.out.calm (by first|exact ah.alloc _|exact(ah.drew).alloc _|exact(ah.alloc _).drew)) rfl a ⟨W1.heap.size,0,none⟩ 1 rfl (by simp) (by omega) ?_;intro g gc W3 fp f3 hg;have ka:Fr (ay (.slice sa sn sc)) W1 W3:=Fr.trans (by first|exact ah.alloc _|exact(ah.drew).alloc _|exact(ah.alloc _).drew) f3;have q9:=ka.cellAt u9 hn.out;have q7:=ka.cellAt u7 hn.out;have p7:=ka.frozenAt u7 v7 hn.out;replace fp:=hid fp;replace hg:=hid hg;replace f3:=hid f3;replace ka:=hid ka))
 all_goals
  have P5:=f1.out.size;have H3:=(H1.out.fr ka.out hn.out).set 7 (.slice (some ⟨g,0,none⟩) (l.length+1) gc) (by simp);have k3:=((f1.out.mono (T:=λk=>k=hp\/ay (.slice sa sn sc) k) (λk _ e=>.inl e)).trans (ka.out.mono (λk _ e=>.inr e))).setCell (p:=⟨hp,7,none⟩) (.inl (.inl rfl)) (.slice (some ⟨g,0,none⟩) (l.length+1) gc);have qZ:=hg.out;simp only[World.drew,World.alloc,Array.size_push] at qZ
  have US:g≠hp:=by
   rintro rfl;rcases qZ with qZ|qZ
   ·exact hn.out qZ
   ·omega
  have r3:=fp.out.dw ((Fr.refl (λb=>b=hp) W3).setCell (p:=⟨hp,7,none⟩) (.inl rfl) (.slice (some ⟨g,0,none⟩) (l.length+1) gc)) (λk hk e=>US ((ay.fJ hk).symm.trans e))
  have ld:∀k,ay (.slice (some ⟨g,0,none⟩) (l.length+1) gc) k->ay (.slice sa sn sc) k\/w.heap.size<=k:=λk hk=>by
   rw[ay.fJ hk];rcases qZ with qZ|qZ
   ·exact .inl qZ
   ·right;omega
  replace H3:=hid H3;replace k3:=hid k3;replace r3:=hid r3;replace ld:=hid ld;clear qZ US hg fp f3 ka H1 f1 gA uI;refine bodyPost_end (by simp[results,Tryz.f225,go_sem]) rfl ⟨rfl,.slice (some ⟨g,0,none⟩) (l.length+1) gc,H3.out,r3.out,k3.out,ld.out⟩
theorem GM{w:ag}{hp:Nat}{c0 c1 c2 c3 c4 c5 c6 c7 c8 Dr J1 J2 Bg Ay J3:aA}(h:af w hp [c0,c1,c2,c3,c4,c5,c6,c7,c8,vI 1,Dr,J1,J2,Bg,Ay,J3])
 {l:List Int} (hr:aI w 0 c8 l) (hn:¬ay c8 hp) (hl:l.length<=100000) (b s t a:Int) :
 aJ prog 225 #[bw hp,wE b s t,vI a] w λe w'=>e=.returned (.tuple #[])/\∃v',
  af w' hp ((([c0,c1,c2,c3,c4,c5,c6,c7,c8,vI 1,Dr,J1,J2,Bg,Ay,J3].set 4 (vI b)).set 5 (vI s)).set 6 (vI t) |>.set 8 v') /\
  aI w' 0 v' (l++[a])/\Fr (λk=>k=hp\/ay c8 k) w w'/\∀k,ay v' k->ay c8 k\/w.heap.size<=k:=by
 have aM:=h.lt (by simp);obtain⟨sa,sn,sc,rfl⟩:=hr.letters;have H:=hid h;have y0:=(h 4 _ rfl).1;have y1:=(h 5 _ rfl).1;have y2:=(h 6 _ rfl).1;have z0:=(h 4 _ rfl).2;have z1:=(h 5 _ rfl).2;have z2:=(h 6 _ rfl).2;have y9:=(h 9 _ rfl).1;replace hn:=hid hn;have uI:=hid hr;clear h hr;have EO:hp≠w.heap.size:=by omega
 have Gm:w.heap.size≠hp:=by omega
 go_in;go_wp2_with fail
 go_region
 generalize gO:World.drew _=W1
 have f1:Fr (λk=>k=hp) w W1:=by
  rw[<-gO];exact((((Fr.refl (λk=>k=hp) w).setCell (p:=⟨hp,4,none⟩) (.inl rfl) _).setCell (p:=⟨hp,5,none⟩) (.inl rfl) _).setCell (p:=⟨hp,6,none⟩) (.inl rfl) _).alloc _ |>.drew
 have H1:=H.out;replace H1:=(((H1.set 4 (vI b) (by simp)).set 5 (vI s) (by simp)).set 6 (vI t) (by simp)).alloc (.cells #[vI b,vI s,vI t] 150);replace H1:af W1 hp _:=λi v hv=>by rw[<-gO];exact(H1 i v hv).drew
 have gA:=hid (uI.out.dw f1 (λk hk e=>hn.out (e ▸ hk)));replace f1:=hid f1;have U7:hp<W1.heap.size:=H1.lt (by simp);simp only[iz,jk] at H1;clear gO y0 y1 y2 z0 z1 z2 y9 H;go_wp2_with fail
 have u9:=(H1 9 _ rfl).1;have u7:=(H1 8 _ rfl).1;have v7:=(H1 8 _ rfl).2;replace H1:=hid H1;have Oi:hp≠W1.heap.size:=by omega
 have SK:W1.heap.size≠hp:=by omega
 clear EO Gm
 go_region_law
  ((refine yH rfl _ _ rfl (.slice sa sn sc) l (gA.out.calm (by first|exact ah.alloc _|exact(ah.drew).alloc _|exact(ah.alloc _).drew)) rfl a ⟨W1.heap.size,0,none⟩ 1 rfl (by simp) (by omega) ?_;intro g gc W3 fp f3 hg;have ka:Fr (ay (.slice sa sn sc)) W1 W3:=Fr.trans (by first|exact ah.alloc _|exact(ah.drew).alloc _|exact(ah.alloc _).drew) f3;have q9:=ka.cellAt u9 hn.out;have q7:=ka.cellAt u7 hn.out;have p7:=ka.frozenAt u7 v7 hn.out;replace fp:=hid fp;replace hg:=hid hg;replace f3:=hid f3;replace ka:=hid ka))
 all_goals
  have P5:=f1.out.size;have H3:=(H1.out.fr ka.out hn.out).set 8 (.slice (some ⟨g,0,none⟩) (l.length+1) gc) (by simp);have k3:=((f1.out.mono (T:=λk=>k=hp\/ay (.slice sa sn sc) k) (λk _ e=>.inl e)).trans (ka.out.mono (λk _ e=>.inr e))).setCell (p:=⟨hp,8,none⟩) (.inl (.inl rfl)) (.slice (some ⟨g,0,none⟩) (l.length+1) gc);have qZ:=hg.out;simp only[World.drew,World.alloc,Array.size_push] at qZ
  have US:g≠hp:=by
   rintro rfl;rcases qZ with qZ|qZ
   ·exact hn.out qZ
   ·omega
  have r3:=fp.out.dw ((Fr.refl (λb=>b=hp) W3).setCell (p:=⟨hp,8,none⟩) (.inl rfl) (.slice (some ⟨g,0,none⟩) (l.length+1) gc)) (λk hk e=>US ((ay.fJ hk).symm.trans e))
  have ld:∀k,ay (.slice (some ⟨g,0,none⟩) (l.length+1) gc) k->ay (.slice sa sn sc) k\/w.heap.size<=k:=λk hk=>by
   rw[ay.fJ hk];rcases qZ with qZ|qZ
   ·exact .inl qZ
   ·right;omega
  replace H3:=hid H3;replace k3:=hid k3;replace r3:=hid r3;replace ld:=hid ld;clear qZ US hg fp f3 ka H1 f1 gA uI;refine bodyPost_end (by simp[results,Tryz.f225,go_sem]) rfl ⟨rfl,.slice (some ⟨g,0,none⟩) (l.length+1) gc,H3.out,r3.out,k3.out,ld.out⟩
theorem af.drew{w:ag}{B:Nat}{vs:List aA}(h:af w B vs):af w.drew B vs:=λi v hv=>(h i v hv).drew
def HS.start(n:Nat):HS:=⟨n,false,false,[],[],0,0,[],[]⟩
theorem aR.start{n:Nat}(h1:16<=n)(h2:n<=16384):aR (HS.start n) (List.replicate (2*n+1) 0):=
 ⟨h1,h2,by simp[HS.start],by simp[List.getD,List.getElem?_replicate],⟨rfl,rfl,λi hi=>by simp[HS.start] at hi,λi j t hi=>by simp[HS.start] at hi⟩,bY _,bY _,λ_=>rfl,bY _,⟨bY _,bY _⟩⟩
theorem Lf(w:ag)(n:Nat)(h1:16<=n)(h2:n<=16384) :
 aJ prog 36 #[vI n] w λe w'=>∃B,e=.returned (.tuple #[eU B,vI 0])/\cz w' B (HS.start n) (List.replicate (2*n+1) 0)/\Calm w w'/\∀k,dz B k->w.heap.size<=k:=by
 go_in;go_wp2_with fail
 have e1:(2:Int)*n+1=((2*n+1:Nat):Int):=by push_cast;rfl
 rw[e1];clear e1;refine(Qn _ (2*n+1) (by omega) (by omega)).mono ?_;rintro e w1 ⟨p,c,rfl,ar,k1,hp,hc⟩;replace ar:=hid ar;go_wp2_with fail
 refine(Cu 1 n _ (by omega) (by omega) (by omega) (by omega)).mono ?_;rintro e w2 ⟨rfl,k2⟩;go_wp2_with fail
 obtain⟨k3,s1⟩:=mG w2 [vI 1,vI n,vI 1] 150;refine(Cu (1+n) n _ (by omega) (by omega) (by omega) (by omega)).mono ?_;rintro e w4 ⟨rfl,k4⟩;replace s1:=s1.calm k4;replace k4:=k3.trans k4;generalize w2.heap.size=S1 at *;obtain⟨x0,x1,x2⟩:=af.mI s1;have lt4:=s1.lt (by simp);have EO:S1≠w4.heap.size:=by omega
 have Gm:w4.heap.size≠S1:=by omega
 clear s1 k3;go_wp2;have k5:Calm w w4:=(k1.trans k2).trans k4;have fA:=k1.size
 have dN:c<w4.heap.size:=by
  have h24:=(k2.trans k4).size;obtain⟨_,⟨t,ht⟩,_⟩:=ar.out;have:=(sY.1 ht).1;omega
 have Ia:p<w4.heap.size:=by have:=ar.out.lt;have h24:=(k2.trans k4).size;omega
 have ar4:=ar.out.calm (k2.trans k4);clear x0 x1 x2
 refine bodyPost_ret (v:=.tuple #[.pointer (some ⟨w4.heap.size+1,0,none⟩),vI 0]) (by simp[results,Tryz.f36,go_sem]) rfl
  ⟨⟨w4.heap.size+1,p,c,.slice none 0 0,.slice none 0 0,.slice none 0 0,.slice none 0 0⟩,rfl,⟨?_,?_,?_,?_,?_,?_,aR.start h1 h2,?_,?_,?_,?_⟩,(k5.alloc _).alloc _,?_⟩
 ·exact af.at _ [_,_,_,_,_,_,_,_,_,_,_,_,_,_,_,_] _ _ (by simp)
 ·exact(ar4.calm (ah.alloc _)).calm (ah.alloc _)
 ·exact World.ownsRow_nil _ _ _ _
 ·exact World.ownsRow_nil _ _ _ _
 ·exact World.ownsRow_nil _ _ _ _
 ·exact World.ownsRow_nil _ _ _ _
 ·show w4.heap.size+1≠p;omega
 ·show w4.heap.size+1≠c;omega
 ·simp[HB.vs,Ot,ay.nil]
 ·intro v hv;simp[HB.vs] at hv;subst hv;exact⟨ay.nil _,ay.nil _,ay.nil _⟩
 ·rintro k (rfl|rfl|rfl|⟨v,hv,hk⟩)
  ·have:=k5.size;show w.heap.size<=w4.heap.size+1;omega
  ·exact hp
  ·exact hc
  ·simp[HB.vs] at hv;subst hv;exact absurd hk (ay.nil _)
theorem TV{w:ag}{hp:Nat}{b0 s0 t0 b1 s1 t1:Int}{c0 c7 c8 J1 J2 Bg Ay J3:aA}(h:af w hp [c0,vI b0,vI s0,vI t0,vI b1,vI s1,vI t1,c7,c8,vI 0,.bool false,J1,J2,Bg,Ay,J3])
 (h0:zU b0 s0 t0) (h1:zU b1 s1 t1) :
 aJ prog 160 #[bw hp] w λe w'=>e=.returned (.bool true) /\
  af w' hp (((((([c0,vI b0,vI s0,vI t0,vI b1,vI s1,vI t1,c7,c8,vI 1,.bool true,J1,J2,Bg,Ay,J3].set 6 (vI b1)).set 8 (.slice none 0 0))).set 11 (vI (t0-b0))).set 12 (vI b1))) /\
  Fr (λk=>k=hp) w w':=by
 have aM:=h.lt (by simp);have H:=hid h;have y0:=(h 0 _ rfl).1;have z0:=(h 0 _ rfl).2;have y1:=(h 1 _ rfl).1;have z1:=(h 1 _ rfl).2;have y2:=(h 2 _ rfl).1;have z2:=(h 2 _ rfl).2;have y3:=(h 3 _ rfl).1;have z3:=(h 3 _ rfl).2;have y4:=(h 4 _ rfl).1;have z4:=(h 4 _ rfl).2;have y5:=(h 5 _ rfl).1;have z5:=(h 5 _ rfl).2;have y6:=(h 6 _ rfl).1;have z6:=(h 6 _ rfl).2;have y7:=(h 7 _ rfl).1;have z7:=(h 7 _ rfl).2;have y8:=(h 8 _ rfl).1;have z8:=(h 8 _ rfl).2;have y9:=(h 9 _ rfl).1;have z9:=(h 9 _ rfl).2;have j_:=(h 10 _ rfl).1;have qB:=(h 10 _ rfl).2;have kY:=(h 11 _ rfl).1;have sI:=(h 11 _ rfl).2;have iL:=(h 12 _ rfl).1;have z12:=(h 12 _ rfl).2;have jv:=(h 13 _ rfl).1;have qM:=(h 13 _ rfl).2;have iM:=(h 14 _ rfl).1;have nT:=(h 14 _ rfl).2;have FA:=(h 15 _ rfl).1;have z15:=(h 15 _ rfl).2;clear h;go_in;go_wp2_with fail
 generalize gO:World.setCell _ _ _=W1;have f1:Fr (λk=>k=hp) w W1:=by rw[<-gO];exact(Fr.refl (λk=>k=hp) w).setCell (p:=⟨hp,9,none⟩) (.inl rfl) _
 have H1:=H.out.set 9 (vI 1) (by simp);rw[gO] at H1;simp only[iz,jk] at H1;clear gO H y0 y1 y2 y3 y4 y5 y6 y7 y8 y9 j_ kY iL jv iM FA z0 z1 z2 z3 z4 z5 z6 z7 z8 z9 qB sI z12 qM nT z15;have q9:=qk H1 9 rfl;have q1:=qk H1 4 rfl;have q2:=qk H1 5 rfl;have q3:=qk H1 6 rfl;replace H1:=hid H1;have HJ:=hid (λW=>nF b1 s1 t1 W h1);refine bB 18 (by kernel_rfl) (by kernel_rfl) ?_;simp only[List.take_succ_cons,List.take_zero,List.drop_succ_cons,List.drop_zero]
 repeat (go_big_quiet_step ((go_at_call 205;exact Calls.dC (HJ.out _))))
 refine wpQuiet_nil ?_;intro W2 hw';have c2:=a_.out hw';clear hw' q9 q1 q2 q3 HJ;replace H1:=H1.out.calm c2;have u1:=(H1 4 _ rfl).1;have u2:=(H1 5 _ rfl).1;have u3:=(H1 6 _ rfl).1;have v1:=(H1 4 _ rfl).2;have v2:=(H1 5 _ rfl).2;have v3:=(H1 6 _ rfl).2;replace H1:=hid H1;replace f1:=f1.trans (Calm.any c2);go_wp2_with fail
 generalize xS:World.setCell _ _ _=W3;have H3:=((H1.out.set 4 (vI b1) (by simp)).set 5 (vI s1) (by simp)).set 6 (vI b1) (by simp);have f3:=((f1.setCell (p:=⟨hp,4,none⟩) (.inl rfl) (vI b1)).setCell (p:=⟨hp,5,none⟩) (.inl rfl) (vI s1)).setCell (p:=⟨hp,6,none⟩) (.inl rfl) (vI b1);rw[xS] at H3 f3;simp only[iz,jk] at H3;clear xS u1 u2 u3 v1 v2 v3 H1 f1 c2;have u1:=(H3 9 _ rfl).1;have u2:=(H3 8 _ rfl).1;have v2:=(H3 8 _ rfl).2;have u3:=(H3 10 _ rfl).1;have v3:=(H3 10 _ rfl).2;have u4:=(H3 1 _ rfl).1;have u5:=(H3 2 _ rfl).1;have u6:=(H3 3 _ rfl).1;replace H3:=hid H3;go_wp2_with fail
 go_region
 go_wp2_with fail
 generalize oy:World.drew _=W4;have H4:=((H3.out.set 8 (.slice none 0 0) (by simp)).set 10 (.bool true) (by simp)).drew;have f4:=((f3.setCell (p:=⟨hp,8,none⟩) (.inl rfl) (.slice none 0 0)).setCell (p:=⟨hp,10,none⟩) (.inl rfl) (.bool true)).drew;rw[oy] at H4 f4;simp only[iz,jk] at H4;clear oy u1 u2 u3 v2 v3 u4 u5 u6 H3 f3;replace H4:=hid H4;refine(j9 b0 s0 t0 W4 h0).mono ?_;rintro e W5 ⟨rfl,c5⟩;have H5:=H4.out.calm c5;have f5:=f4.trans (Calm.any c5);have u1:=(H5 9 _ rfl).1;have u2:=(H5 11 _ rfl).1;have v2:=(H5 11 _ rfl).2;have u3:=(H5 12 _ rfl).1;have v3:=(H5 12 _ rfl).2;have u4:=(H5 4 _ rfl).1;replace H5:=hid H5;clear H4 f4 c5;go_wp2_with fail
 go_region
 go_wp2;go_ret;refine⟨rfl,?_,?_⟩
 ·have H6:=((H5.out.set 11 (vI (t0-b0)) (by simp)).set 12 (vI b1) (by simp));exact H6.drew
 ·exact((f5.setCell (p:=⟨hp,11,none⟩) (.inl rfl) _).setCell (p:=⟨hp,12,none⟩) (.inl rfl) _).drew
theorem TW{w:ag}{hp:Nat}{b0 s0 t0 b1 s1 t1:Int}{c0 c7 c8 J1 J2 Bg Ay J3:aA}(h:af w hp [c0,vI b0,vI s0,vI t0,vI b1,vI s1,vI t1,c7,c8,vI 1,.bool false,J1,J2,Bg,Ay,J3])
 (h0:zU b0 s0 t0) (h1:zU b1 s1 t1) :
 aJ prog 160 #[bw hp] w λe w'=>e=.returned (.bool true) /\
  af w' hp (((((([c0,vI b0,vI s0,vI t0,vI b1,vI s1,vI t1,c7,c8,vI 0,.bool true,J1,J2,Bg,Ay,J3].set 3 (vI b0)).set 7 (.slice none 0 0))).set 11 (vI (t1-b1))).set 12 (vI b0))) /\
  Fr (λk=>k=hp) w w':=by
 have aM:=h.lt (by simp);have H:=hid h;have y0:=(h 0 _ rfl).1;have z0:=(h 0 _ rfl).2;have y1:=(h 1 _ rfl).1;have z1:=(h 1 _ rfl).2;have y2:=(h 2 _ rfl).1;have z2:=(h 2 _ rfl).2;have y3:=(h 3 _ rfl).1;have z3:=(h 3 _ rfl).2;have y4:=(h 4 _ rfl).1;have z4:=(h 4 _ rfl).2;have y5:=(h 5 _ rfl).1;have z5:=(h 5 _ rfl).2;have y6:=(h 6 _ rfl).1;have z6:=(h 6 _ rfl).2;have y7:=(h 7 _ rfl).1;have z7:=(h 7 _ rfl).2;have y8:=(h 8 _ rfl).1;have z8:=(h 8 _ rfl).2;have y9:=(h 9 _ rfl).1;have z9:=(h 9 _ rfl).2;have j_:=(h 10 _ rfl).1;have qB:=(h 10 _ rfl).2;have kY:=(h 11 _ rfl).1;have sI:=(h 11 _ rfl).2;have iL:=(h 12 _ rfl).1;have z12:=(h 12 _ rfl).2;have jv:=(h 13 _ rfl).1;have qM:=(h 13 _ rfl).2;have iM:=(h 14 _ rfl).1;have nT:=(h 14 _ rfl).2;have FA:=(h 15 _ rfl).1;have z15:=(h 15 _ rfl).2;clear h;go_in;go_wp2_with fail
 generalize gO:World.setCell _ _ _=W1;have f1:Fr (λk=>k=hp) w W1:=by rw[<-gO];exact(Fr.refl (λk=>k=hp) w).setCell (p:=⟨hp,9,none⟩) (.inl rfl) _
 have H1:=H.out.set 9 (vI 0) (by simp);rw[gO] at H1;simp only[iz,jk] at H1;clear gO H y0 y1 y2 y3 y4 y5 y6 y7 y8 y9 j_ kY iL jv iM FA z0 z1 z2 z3 z4 z5 z6 z7 z8 z9 qB sI z12 qM nT z15;have q9:=qk H1 9 rfl;have q1:=qk H1 1 rfl;have q2:=qk H1 2 rfl;have q3:=qk H1 3 rfl;replace H1:=hid H1;have HJ:=hid (λW=>nF b0 s0 t0 W h0);refine bB 18 (by kernel_rfl) (by kernel_rfl) ?_;simp only[List.take_succ_cons,List.take_zero,List.drop_succ_cons,List.drop_zero]
 repeat (go_big_quiet_step ((go_at_call 205;exact Calls.dC (HJ.out _))))
 refine wpQuiet_nil ?_;intro W2 hw';have c2:=a_.out hw';clear hw' q9 q1 q2 q3 HJ;replace H1:=H1.out.calm c2;have u1:=(H1 1 _ rfl).1;have u2:=(H1 2 _ rfl).1;have u3:=(H1 3 _ rfl).1;have v1:=(H1 1 _ rfl).2;have v2:=(H1 2 _ rfl).2;have v3:=(H1 3 _ rfl).2;replace H1:=hid H1;replace f1:=f1.trans (Calm.any c2);go_wp2_with fail
 generalize xS:World.setCell _ _ _=W3;have H3:=((H1.out.set 1 (vI b0) (by simp)).set 2 (vI s0) (by simp)).set 3 (vI b0) (by simp);have f3:=((f1.setCell (p:=⟨hp,1,none⟩) (.inl rfl) (vI b0)).setCell (p:=⟨hp,2,none⟩) (.inl rfl) (vI s0)).setCell (p:=⟨hp,3,none⟩) (.inl rfl) (vI b0);rw[xS] at H3 f3;simp only[iz,jk] at H3;clear xS u1 u2 u3 v1 v2 v3 H1 f1 c2;have u1:=(H3 9 _ rfl).1;have u2:=(H3 7 _ rfl).1;have v2:=(H3 7 _ rfl).2;have u3:=(H3 10 _ rfl).1;have v3:=(H3 10 _ rfl).2;have u4:=(H3 4 _ rfl).1;have u5:=(H3 5 _ rfl).1;have u6:=(H3 6 _ rfl).1;replace H3:=hid H3;go_wp2_with fail
 go_region
 go_wp2_with fail
 generalize oy:World.drew _=W4;have H4:=((H3.out.set 7 (.slice none 0 0) (by simp)).set 10 (.bool true) (by simp)).drew;have f4:=((f3.setCell (p:=⟨hp,7,none⟩) (.inl rfl) (.slice none 0 0)).setCell (p:=⟨hp,10,none⟩) (.inl rfl) (.bool true)).drew;rw[oy] at H4 f4;simp only[iz,jk] at H4;clear oy u1 u2 u3 v2 v3 u4 u5 u6 H3 f3;replace H4:=hid H4;refine(j9 b1 s1 t1 W4 h1).mono ?_;rintro e W5 ⟨rfl,c5⟩;have H5:=H4.out.calm c5;have f5:=f4.trans (Calm.any c5);have u1:=(H5 9 _ rfl).1;have u2:=(H5 11 _ rfl).1;have v2:=(H5 11 _ rfl).2;have u3:=(H5 12 _ rfl).1;have v3:=(H5 12 _ rfl).2;have u4:=(H5 1 _ rfl).1;replace H5:=hid H5;clear H4 f4 c5;go_wp2_with fail
 go_region
 go_wp2;go_ret;refine⟨rfl,?_,?_⟩
 ·have H6:=((H5.out.set 11 (vI (t1-b1)) (by simp)).set 12 (vI b0) (by simp));exact H6.drew
 ·exact((f5.setCell (p:=⟨hp,11,none⟩) (.inl rfl) _).setCell (p:=⟨hp,12,none⟩) (.inl rfl) _).drew
theorem Hr(s:HS):s.flip.hZ=s.top:=by
 show s.flip.base (!s.flip.u)+jA (s.cur.map λx=>(x.1,x.2,none))=_;have hb:s.flip.base (!s.flip.u)=s.base s.u:=by show s.base (!!s.u)=_;rw[Bool.not_not]
 rw[hb,nu];rfl
theorem Km(s:HS):s.flip.top=s.base (!s.u):=rfl
theorem Hs(s:HS):eQ s.flip.aV=bZ s.cur:=vy s.cur
theorem Bo(s:HS):jL s.flip.aV=dL s.cur:=by
 show(s.cur.map λx=>(x.1,x.2,(none:Option Nat))).map (·.1)=s.cur.map (·.1);rw[List.map_map];rfl
def HB.flip(B:HB)(u:Bool):HB:=bif u then { B with v0:=.slice none 0 0 } else { B with v1:=.slice none 0 0 }
theorem HK{w:ag}{B:HB}{s:HS}{X:aj}(h:cz w B s X)(hm:s.mv=false) :
 aJ prog 160 #[eU B] w λe w'=>e=.returned (.bool true)/\cz w' (B.flip s.u) s.flip X/\bz w B w' (B.flip s.u):=by
 have k0:=nM h.rep;have k1:=Gs h.rep;have mD:=h.rep.flip hm;have hc:=h.cs;have nn:=h.none_;have cT:=h.apart;have e1:=Hr s;have e2:=Km s;have e3:=Hs s;have e4:=Bo s;have gi:=ay.nil;simp only[HB.vs,eH,eS,or_false,forall_eq_or_imp,forall_eq] at nn;simp only[HB.vs,List.pairwise_cons,eH,eS,or_false,forall_eq_or_imp,forall_eq] at cT;cases hu:s.u
 ·have sU:s.flip.u=true:=by show(!s.u)=true;rw[hu];rfl
  have b0:s.base false=1:=rfl;have b1:s.base true=1+s.n:=rfl;rw[hu] at k0 k1;simp only[Bool.not_false,b0,b1] at k0 k1;simp only[aN,hu,hm,cond_false] at hc;refine(TV (b0:=1) (b1:=1+s.n) hc (by simpa using k0) (by simpa using k1)).mono ?_;rintro e w' ⟨rfl,H,f⟩;refine⟨rfl,⟨?_,?_,?_,?_,?_,?_,mD,h.cT,h.kF,?_,?_⟩,⟨f.mono (λk _ e=>.inl e),?_,rfl⟩⟩
  ·have:aN (B.flip false) s.flip=[eL B.ap,vI 1,vI s.n,vI (s.top:Nat),vI (1+s.n),vI s.n,vI (1+s.n),B.v0,.slice none 0 0,vI 1,.bool true,vI ((s.top:Nat)-1),vI (1+s.n),vI s.ser,B.vw,B.vf]:=by
    have e5:((bZ s.cur:Nat):Int)=(s.top:Nat)-1:=by unfold HS.top;rw[hu,b0];push_cast;omega
    have e6:((s.base true:Nat):Int)=1+s.n:=by rw[b1];push_cast;rfl
    have e7:s.flip.scan=s.base true:=by show s.base (!s.u)=_;rw[hu];rfl
    rw[hu] at e2;simp only[Bool.not_false] at e2;simp only[aN,sU,cond_true,e1,e2,e3,e5,e6,e7,HB.flip,cond_false];rfl
   rw[this];exact H
  ·exact h.ar.fr f (by simpa using Ne.symm h.cT) (by simpa using Ne.symm h.kF)
  ·have:=h.r0.dw f (λk hk e=>nn.1.1 (e ▸ hk));simp only[l0,hu,cond_false] at this;simp only[l0,sU,cond_true,e4,HB.flip,cond_false];exact this
  ·simp only[l1,sU,cond_true,HB.flip,cond_false];exact World.ownsRow_nil _ _ _ _
  ·exact h.rw.dw f (λk hk e=>nn.2.2.1.1 (e ▸ hk))
  ·exact h.rf.dw f (λk hk e=>nn.2.2.2.1 (e ▸ hk))
  ·simp only[HB.vs,HB.flip,cond_false,List.pairwise_cons,eH,eS,or_false,forall_eq_or_imp,forall_eq];exact⟨⟨λk _ h2=>gi k h2,cT.1.2.1,cT.1.2.2⟩,⟨λk h1 _=>gi k h1,λk h1 _=>gi k h1⟩,cT.2.2.1,by simp,List.Pairwise.nil⟩
  ·intro v hv;simp only[HB.vs,HB.flip,cond_false,eH,eS,or_false] at hv;rcases hv with rfl|rfl|rfl|rfl
   ·exact nn.1
   ·exact⟨gi _,gi _,gi _⟩
   ·exact nn.2.2.1
   ·exact nn.2.2.2
  ·rintro k (hk|hk|hk|⟨v,hv,hk⟩)
   ·exact .inl (.inl hk)
   ·exact .inl (.inr (.inl hk))
   ·exact .inl (.inr (.inr (.inl hk)))
   ·simp only[HB.vs,HB.flip,cond_false,eH,eS,or_false] at hv;rcases hv with rfl|rfl|rfl|rfl
    ·exact .inl (.inr (.inr (.inr ⟨_,by simp[HB.vs],hk⟩)))
    ·exact absurd hk (gi _)
    ·exact .inl (.inr (.inr (.inr ⟨_,by simp[HB.vs],hk⟩)))
    ·exact .inl (.inr (.inr (.inr ⟨_,by simp[HB.vs],hk⟩)))
 ·have sU:s.flip.u=false:=by show(!s.u)=false;rw[hu];rfl
  have b0:s.base false=1:=rfl;have b1:s.base true=1+s.n:=rfl;rw[hu] at k0 k1;simp only[Bool.not_true,b0,b1] at k0 k1;simp only[aN,hu,hm,cond_true] at hc;refine(TW (b0:=1) (b1:=1+s.n) hc (by simpa using k1) (by simpa using k0)).mono ?_;rintro e w' ⟨rfl,H,f⟩;refine⟨rfl,⟨?_,?_,?_,?_,?_,?_,mD,h.cT,h.kF,?_,?_⟩,⟨f.mono (λk _ e=>.inl e),?_,rfl⟩⟩
  ·have:aN (B.flip true) s.flip=[eL B.ap,vI 1,vI s.n,vI 1,vI (1+s.n),vI s.n,vI (s.top:Nat),.slice none 0 0,B.v1,vI 0,.bool true,vI ((s.top:Nat)-(1+s.n)),vI 1,vI s.ser,B.vw,B.vf]:=by
    have e5:((bZ s.cur:Nat):Int)=(s.top:Nat)-(1+s.n):=by unfold HS.top;rw[hu,b1];push_cast;omega
    have e7:s.flip.scan=s.base false:=by show s.base (!s.u)=_;rw[hu];rfl
    rw[hu] at e2;simp only[Bool.not_true] at e2;simp only[aN,sU,cond_true,cond_false,e1,e2,e3,e5,e7,b0,HB.flip];rfl
   rw[this];exact H
  ·exact h.ar.fr f (by simpa using Ne.symm h.cT) (by simpa using Ne.symm h.kF)
  ·simp only[l0,sU,cond_false,HB.flip,cond_true];exact World.ownsRow_nil _ _ _ _
  ·have:=h.r1.dw f (λk hk e=>nn.2.1.1 (e ▸ hk));simp only[l1,hu,cond_true] at this;simp only[l1,sU,cond_false,cond_true,e4,HB.flip];exact this
  ·exact h.rw.dw f (λk hk e=>nn.2.2.1.1 (e ▸ hk))
  ·exact h.rf.dw f (λk hk e=>nn.2.2.2.1 (e ▸ hk))
  ·simp only[HB.vs,HB.flip,cond_true,List.pairwise_cons,eH,eS,or_false,forall_eq_or_imp,forall_eq];exact⟨⟨λk h1 _=>gi k h1,λk h1 _=>gi k h1,λk h1 _=>gi k h1⟩,cT.2.1,cT.2.2.1,by simp,List.Pairwise.nil⟩
  ·intro v hv;simp only[HB.vs,HB.flip,cond_true,eH,eS,or_false] at hv;rcases hv with rfl|rfl|rfl|rfl
   ·exact⟨gi _,gi _,gi _⟩
   ·exact nn.2.1
   ·exact nn.2.2.1
   ·exact nn.2.2.2
  ·rintro k (hk|hk|hk|⟨v,hv,hk⟩)
   ·exact .inl (.inl hk)
   ·exact .inl (.inr (.inl hk))
   ·exact .inl (.inr (.inr (.inl hk)))
   ·simp only[HB.vs,HB.flip,cond_true,eH,eS,or_false] at hv;rcases hv with rfl|rfl|rfl|rfl
    ·exact absurd hk (gi _)
    ·exact .inl (.inr (.inr (.inr ⟨_,by simp[HB.vs],hk⟩)))
    ·exact .inl (.inr (.inr (.inr ⟨_,by simp[HB.vs],hk⟩)))
    ·exact .inl (.inr (.inr (.inr ⟨_,by simp[HB.vs],hk⟩)))
theorem cz.Fj{w w':ag}{B:HB}{s:HS}{X:aj}(h:cz w B s X){v:aA}{l:aj}(f:Fr (λk=>k=B.hp\/ay B.vw k) w w')(hc:af w' B.hp ((aN B s).set 14 v))(hr:aI w' 0 v (nI l))
 (fZ:∀k,ay v k->ay B.vw k\/w.heap.size<=k) (hl:l.length<=100000):cz w' { B with vw:=v } { s with bI:=l } X/\bz w B w' { B with vw:=v }:=by
 have aM:=h.lt;have nn:=h.none_;have cT:=h.apart;simp only[HB.vs,eH,eS,or_false,forall_eq_or_imp,forall_eq] at nn;simp only[HB.vs,List.pairwise_cons,eH,eS,or_false,forall_eq_or_imp,forall_eq] at cT;have hB:∀k,k<w.heap.size->ay v k->ay B.vw k:=λk hk hv=>(fZ k hv).resolve_right (by omega);have l0':=λk hk=>aM k (.inr (.inr (.inr ⟨B.v0,by simp[HB.vs],hk⟩)));have Xr:=λk hk=>aM k (.inr (.inr (.inr ⟨B.v1,by simp[HB.vs],hk⟩)));have lf':=λk hk=>aM k (.inr (.inr (.inr ⟨B.vf,by simp[HB.vs],hk⟩)));refine⟨⟨hc,h.ar.fr f ?_ ?_,h.r0.dw f ?_,h.r1.dw f ?_,hr,h.rf.dw f ?_,?_,h.cT,h.kF,?_,?_⟩,⟨f.mono (λk _ e=>?_),?_,rfl⟩⟩
 ·rintro (e|e);exact h.cT e.symm;exact nn.2.2.1.2.1 e
 ·rintro (e|e);exact h.kF e.symm;exact nn.2.2.1.2.2 e
 ·rintro k hk (e|e);exact nn.1.1 (e ▸ hk);exact cT.1.2.1 k hk e
 ·rintro k hk (e|e);exact nn.2.1.1 (e ▸ hk);exact cT.2.1.1 k hk e
 ·rintro k hk (e|e);exact nn.2.2.2.1 (e ▸ hk);exact cT.2.2.1 k e hk
 ·exact⟨h.rep.n1,h.rep.n2,h.rep.len,h.rep.zero,h.rep.half,h.rep.lL,h.rep.room,h.rep.still,h.rep.ser,⟨hl,h.rep.mJ.2⟩⟩
 ·simp only[HB.vs,List.pairwise_cons,eH,eS,or_false,forall_eq_or_imp,forall_eq];exact⟨⟨cT.1.1,λk h1 h2=>cT.1.2.1 k h1 (hB k (l0' k h1) h2),cT.1.2.2⟩,⟨λk h1 h2=>cT.2.1.1 k h1 (hB k (Xr k h1) h2),cT.2.1.2⟩,λk h1 h2=>cT.2.2.1 k (hB k (lf' k h2) h1) h2,by simp,List.Pairwise.nil⟩
 ·simp only[HB.vs,eH,eS,or_false,forall_eq_or_imp,forall_eq];exact⟨nn.1,nn.2.1,⟨λh1=>nn.2.2.1.1 (hB _ (aM _ (.inl rfl)) h1),λh1=>nn.2.2.1.2.1 (hB _ (aM _ (.inr (.inl rfl))) h1),λh1=>nn.2.2.1.2.2 (hB _ (aM _ (.inr (.inr (.inl rfl)))) h1)⟩,nn.2.2.2⟩
 ·rcases e with e|e;exact .inl e;exact .inr (.inr (.inr ⟨B.vw,by simp[HB.vs],e⟩))
 ·rintro k (hk|hk|hk|⟨u,hv,hk⟩)
  ·exact .inl (.inl hk)
  ·exact .inl (.inr (.inl hk))
  ·exact .inl (.inr (.inr (.inl hk)))
  ·simp only[HB.vs,eH,eS,or_false] at hv;rcases hv with rfl|rfl|rfl|rfl
   ·exact .inl (.inr (.inr (.inr ⟨_,by simp[HB.vs],hk⟩)))
   ·exact .inl (.inr (.inr (.inr ⟨_,by simp[HB.vs],hk⟩)))
   ·exact(fZ k hk).imp (λh=>.inr (.inr (.inr ⟨B.vw,by simp[HB.vs],h⟩))) id
   ·exact .inl (.inr (.inr (.inr ⟨_,by simp[HB.vs],hk⟩)))
theorem cz.Gz{w w':ag}{B:HB}{s:HS}{X:aj}(h:cz w B s X){v:aA}{l:aj}(f:Fr (λk=>k=B.hp\/ay B.vf k) w w')(hc:af w' B.hp ((aN B s).set 15 v))(hr:aI w' 0 v (nI l))
 (fZ:∀k,ay v k->ay B.vf k\/w.heap.size<=k) (hl:l.length<=100000):cz w' { B with vf:=v } { s with fin:=l } X/\bz w B w' { B with vf:=v }:=by
 have aM:=h.lt;have nn:=h.none_;have cT:=h.apart;simp only[HB.vs,eH,eS,or_false,forall_eq_or_imp,forall_eq] at nn;simp only[HB.vs,List.pairwise_cons,eH,eS,or_false,forall_eq_or_imp,forall_eq] at cT;have hB:∀k,k<w.heap.size->ay v k->ay B.vf k:=λk hk hv=>(fZ k hv).resolve_right (by omega);have l0':=λk hk=>aM k (.inr (.inr (.inr ⟨B.v0,by simp[HB.vs],hk⟩)));have Xr:=λk hk=>aM k (.inr (.inr (.inr ⟨B.v1,by simp[HB.vs],hk⟩)));have lw':=λk hk=>aM k (.inr (.inr (.inr ⟨B.vw,by simp[HB.vs],hk⟩)));refine⟨⟨hc,h.ar.fr f ?_ ?_,h.r0.dw f ?_,h.r1.dw f ?_,h.rw.dw f ?_,hr,?_,h.cT,h.kF,?_,?_⟩,⟨f.mono (λk _ e=>?_),?_,rfl⟩⟩
 ·rintro (e|e);exact h.cT e.symm;exact nn.2.2.2.2.1 e
 ·rintro (e|e);exact h.kF e.symm;exact nn.2.2.2.2.2 e
 ·rintro k hk (e|e);exact nn.1.1 (e ▸ hk);exact cT.1.2.2 k hk e
 ·rintro k hk (e|e);exact nn.2.1.1 (e ▸ hk);exact cT.2.1.2 k hk e
 ·rintro k hk (e|e);exact nn.2.2.1.1 (e ▸ hk);exact cT.2.2.1 k hk e
 ·exact⟨h.rep.n1,h.rep.n2,h.rep.len,h.rep.zero,h.rep.half,h.rep.lL,h.rep.room,h.rep.still,h.rep.ser,⟨h.rep.mJ.1,hl⟩⟩
 ·simp only[HB.vs,List.pairwise_cons,eH,eS,or_false,forall_eq_or_imp,forall_eq];exact⟨⟨cT.1.1,cT.1.2.1,λk h1 h2=>cT.1.2.2 k h1 (hB k (l0' k h1) h2)⟩,⟨cT.2.1.1,λk h1 h2=>cT.2.1.2 k h1 (hB k (Xr k h1) h2)⟩,λk h1 h2=>cT.2.2.1 k h1 (hB k (lw' k h1) h2),by simp,List.Pairwise.nil⟩
 ·simp only[HB.vs,eH,eS,or_false,forall_eq_or_imp,forall_eq];exact⟨nn.1,nn.2.1,nn.2.2.1,⟨λh1=>nn.2.2.2.1 (hB _ (aM _ (.inl rfl)) h1),λh1=>nn.2.2.2.2.1 (hB _ (aM _ (.inr (.inl rfl))) h1),λh1=>nn.2.2.2.2.2 (hB _ (aM _ (.inr (.inr (.inl rfl)))) h1)⟩⟩
 ·rcases e with e|e;exact .inl e;exact .inr (.inr (.inr ⟨B.vf,by simp[HB.vs],e⟩))
 ·rintro k (hk|hk|hk|⟨u,hv,hk⟩)
  ·exact .inl (.inl hk)
  ·exact .inl (.inr (.inl hk))
  ·exact .inl (.inr (.inr (.inl hk)))
  ·simp only[HB.vs,eH,eS,or_false] at hv;rcases hv with rfl|rfl|rfl|rfl
   ·exact .inl (.inr (.inr (.inr ⟨_,by simp[HB.vs],hk⟩)))
   ·exact .inl (.inr (.inr (.inr ⟨_,by simp[HB.vs],hk⟩)))
   ·exact .inl (.inr (.inr (.inr ⟨_,by simp[HB.vs],hk⟩)))
   ·exact(fZ k hk).imp (λh=>.inr (.inr (.inr ⟨B.vf,by simp[HB.vs],h⟩))) id
theorem cz.GA{w w':ag}{B:HB}{s s':HS}{X X':aj}(h:cz w B s X)(hu:s.u=false){v:aA}(f:Fr (λk=>k=B.hp\/k=B.ac\/ay B.v0 k) w w')
 (hc:af w' B.hp (aN { B with v0:=v } s')) (ar:Ar w' B.ap B.ac X') (hr:aI w' 0 v (nI (dL s'.cur))) (Ik:s'.u=false) (ho:jL s'.aV=jL s.aV) (hw:s'.bI=s.bI) (hf:s'.fin=s.fin) (rep:aR s' X')
 (fZ:∀k,ay v k->ay B.v0 k\/w.heap.size<=k):cz w' { B with v0:=v } s' X'/\bz w B w' { B with v0:=v }:=by
 have aM:=h.lt;have nn:=h.none_;have cT:=h.apart;simp only[HB.vs,eH,eS,or_false,forall_eq_or_imp,forall_eq] at nn;simp only[HB.vs,List.pairwise_cons,eH,eS,or_false,forall_eq_or_imp,forall_eq] at cT;have hB:∀k,k<w.heap.size->ay v k->ay B.v0 k:=λk hk hv=>(fZ k hv).resolve_right (by omega);have la:=λk hk=>aM k (.inr (.inr (.inr ⟨B.v1,by simp[HB.vs],hk⟩)));have lw:=λk hk=>aM k (.inr (.inr (.inr ⟨B.vw,by simp[HB.vs],hk⟩)));have lf:=λk hk=>aM k (.inr (.inr (.inr ⟨B.vf,by simp[HB.vs],hk⟩)))
 have rO:aI w' 0 B.v1 (nI (jL s'.aV)):=by
  rw[ho];have h1:=h.r1;simp only[l1,hu,cond_true,cond_false] at h1;refine h1.dw f ?_;rintro k hk (e|e|e)
  ·exact nn.2.1.1 (e ▸ hk)
  ·exact nn.2.1.2.2 (e ▸ hk)
  ·exact cT.1.1 k e hk
 refine⟨⟨hc,ar,?_,?_,?_,?_,rep,h.cT,h.kF,?_,?_⟩,⟨f.mono (λk _ e=>?_),?_,rfl⟩⟩
 ·simp only[l0,Ik,cond_true,cond_false];exact hr
 ·simp only[l1,Ik,cond_true,cond_false];exact rO
 ·rw[hw];refine h.rw.dw f ?_;rintro k hk (e|e|e);exact nn.2.2.1.1 (e ▸ hk);exact nn.2.2.1.2.2 (e ▸ hk);exact cT.1.2.1 k e hk
 ·rw[hf];refine h.rf.dw f ?_;rintro k hk (e|e|e);exact nn.2.2.2.1 (e ▸ hk);exact nn.2.2.2.2.2 (e ▸ hk);exact cT.1.2.2 k e hk
 ·simp only[HB.vs,List.pairwise_cons,eH,eS,or_false,forall_eq_or_imp,forall_eq];exact⟨⟨λk h1 h2=>cT.1.1 k (hB k (la k h2) h1) h2,λk h1 h2=>cT.1.2.1 k (hB k (lw k h2) h1) h2,λk h1 h2=>cT.1.2.2 k (hB k (lf k h2) h1) h2⟩,cT.2.1,cT.2.2.1,by simp,List.Pairwise.nil⟩
 ·simp only[HB.vs,eH,eS,or_false,forall_eq_or_imp,forall_eq];have q:¬ay v B.hp/\¬ay v B.ap/\¬ay v B.ac:=⟨λh1=>nn.1.1 (hB _ (aM _ (.inl rfl)) h1),λh1=>nn.1.2.1 (hB _ (aM _ (.inr (.inl rfl))) h1),λh1=>nn.1.2.2 (hB _ (aM _ (.inr (.inr (.inl rfl)))) h1)⟩;exact⟨q,nn.2⟩
 ·rcases e with e|e|e;exact .inl e;exact .inr (.inr (.inl e));exact .inr (.inr (.inr ⟨B.v0,by simp[HB.vs],e⟩))
 ·rintro k (hk|hk|hk|⟨u,hv,hk⟩)
  ·exact .inl (.inl hk)
  ·exact .inl (.inr (.inl hk))
  ·exact .inl (.inr (.inr (.inl hk)))
  ·simp only[HB.vs,eH,eS,or_false] at hv;have tk:ay v k->dz B k\/w.heap.size<=k:=λhk=>(fZ k hk).imp (λh=>.inr (.inr (.inr ⟨B.v0,by simp[HB.vs],h⟩))) id;rcases hv with rfl|rfl|rfl|rfl
   ·first|exact tk hk|exact .inl (.inr (.inr (.inr ⟨_,by simp[HB.vs],hk⟩)))
   ·first|exact tk hk|exact .inl (.inr (.inr (.inr ⟨_,by simp[HB.vs],hk⟩)))
   ·exact .inl (.inr (.inr (.inr ⟨_,by simp[HB.vs],hk⟩)))
   ·exact .inl (.inr (.inr (.inr ⟨_,by simp[HB.vs],hk⟩)))
theorem cz.GB{w w':ag}{B:HB}{s s':HS}{X X':aj}(h:cz w B s X)(hu:s.u=true){v:aA}(f:Fr (λk=>k=B.hp\/k=B.ac\/ay B.v1 k) w w')
 (hc:af w' B.hp (aN { B with v1:=v } s')) (ar:Ar w' B.ap B.ac X') (hr:aI w' 0 v (nI (dL s'.cur))) (Ik:s'.u=true) (ho:jL s'.aV=jL s.aV) (hw:s'.bI=s.bI) (hf:s'.fin=s.fin) (rep:aR s' X')
 (fZ:∀k,ay v k->ay B.v1 k\/w.heap.size<=k):cz w' { B with v1:=v } s' X'/\bz w B w' { B with v1:=v }:=by
 have aM:=h.lt;have nn:=h.none_;have cT:=h.apart;simp only[HB.vs,eH,eS,or_false,forall_eq_or_imp,forall_eq] at nn;simp only[HB.vs,List.pairwise_cons,eH,eS,or_false,forall_eq_or_imp,forall_eq] at cT;have hB:∀k,k<w.heap.size->ay v k->ay B.v1 k:=λk hk hv=>(fZ k hv).resolve_right (by omega);have la:=λk hk=>aM k (.inr (.inr (.inr ⟨B.v0,by simp[HB.vs],hk⟩)));have lw:=λk hk=>aM k (.inr (.inr (.inr ⟨B.vw,by simp[HB.vs],hk⟩)));have lf:=λk hk=>aM k (.inr (.inr (.inr ⟨B.vf,by simp[HB.vs],hk⟩)))
 have rO:aI w' 0 B.v0 (nI (jL s'.aV)):=by
  rw[ho];have h1:=h.r0;simp only[l0,hu,cond_true,cond_false] at h1;refine h1.dw f ?_;rintro k hk (e|e|e)
  ·exact nn.1.1 (e ▸ hk)
  ·exact nn.1.2.2 (e ▸ hk)
  ·exact cT.1.1 k hk e
 refine⟨⟨hc,ar,?_,?_,?_,?_,rep,h.cT,h.kF,?_,?_⟩,⟨f.mono (λk _ e=>?_),?_,rfl⟩⟩
 ·simp only[l0,Ik,cond_true,cond_false];exact rO
 ·simp only[l1,Ik,cond_true,cond_false];exact hr
 ·rw[hw];refine h.rw.dw f ?_;rintro k hk (e|e|e);exact nn.2.2.1.1 (e ▸ hk);exact nn.2.2.1.2.2 (e ▸ hk);exact cT.2.1.1 k e hk
 ·rw[hf];refine h.rf.dw f ?_;rintro k hk (e|e|e);exact nn.2.2.2.1 (e ▸ hk);exact nn.2.2.2.2.2 (e ▸ hk);exact cT.2.1.2 k e hk
 ·simp only[HB.vs,List.pairwise_cons,eH,eS,or_false,forall_eq_or_imp,forall_eq];exact⟨⟨λk h1 h2=>cT.1.1 k h1 (hB k (la k h1) h2),cT.1.2⟩,⟨λk h1 h2=>cT.2.1.1 k (hB k (lw k h2) h1) h2,λk h1 h2=>cT.2.1.2 k (hB k (lf k h2) h1) h2⟩,cT.2.2.1,by simp,List.Pairwise.nil⟩
 ·simp only[HB.vs,eH,eS,or_false,forall_eq_or_imp,forall_eq];have q:¬ay v B.hp/\¬ay v B.ap/\¬ay v B.ac:=⟨λh1=>nn.2.1.1 (hB _ (aM _ (.inl rfl)) h1),λh1=>nn.2.1.2.1 (hB _ (aM _ (.inr (.inl rfl))) h1),λh1=>nn.2.1.2.2 (hB _ (aM _ (.inr (.inr (.inl rfl)))) h1)⟩;exact⟨nn.1,q,nn.2.2⟩
 ·rcases e with e|e|e;exact .inl e;exact .inr (.inr (.inl e));exact .inr (.inr (.inr ⟨B.v1,by simp[HB.vs],e⟩))
 ·rintro k (hk|hk|hk|⟨u,hv,hk⟩)
  ·exact .inl (.inl hk)
  ·exact .inl (.inr (.inl hk))
  ·exact .inl (.inr (.inr (.inl hk)))
  ·simp only[HB.vs,eH,eS,or_false] at hv;have tk:ay v k->dz B k\/w.heap.size<=k:=λhk=>(fZ k hk).imp (λh=>.inr (.inr (.inr ⟨B.v1,by simp[HB.vs],h⟩))) id;rcases hv with rfl|rfl|rfl|rfl
   ·first|exact tk hk|exact .inl (.inr (.inr (.inr ⟨_,by simp[HB.vs],hk⟩)))
   ·first|exact tk hk|exact .inl (.inr (.inr (.inr ⟨_,by simp[HB.vs],hk⟩)))
   ·exact .inl (.inr (.inr (.inr ⟨_,by simp[HB.vs],hk⟩)))
   ·exact .inl (.inr (.inr (.inr ⟨_,by simp[HB.vs],hk⟩)))
