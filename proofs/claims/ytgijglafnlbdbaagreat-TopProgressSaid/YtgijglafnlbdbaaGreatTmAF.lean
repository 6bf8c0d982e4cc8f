import Derived.Test.YtgijglafnlbdbaaGreatTmAE
set_option linter.all false
set_option maxHeartbeats 4000000
set_option maxRecDepth 8000
namespace Go.Proofs.YtgijglafnlbdbaaGreat
open RowKit Shelf Proofs.Tryz
open Go renaming World->ag,Value->aA,Calls->aJ
def HS.gS(s:HS)(p d:Nat)(wk fn:Bool):HS:={ s with cur:=s.cur++[(s.top,Ob.new p d wk fn (s.ser+1))],ser:=s.ser+1 }
theorem aR.gS{s:HS}{X X':aj}(h:aR s X){p d:Nat}{wk fn:Bool}(r:aR (s.alloc p d wk fn) X'):aR (s.gS p d wk fn) X':=
 ⟨r.n1,r.n2,r.len,r.zero,r.half,r.lL,r.room,r.still,r.ser,h.mJ⟩
theorem ui(s:HS){p d:Nat}{wk fn:Bool}(bU:sV p d wk fn)(hs:s.ser+1<=1099511627776){n R:Nat}(hn:3+p+d=n)(hR:ju (n:Int)=R):((s.gS p d wk fn).top:Int)=s.top+R:=by
 have e:(s.gS p d wk fn).top=s.top+(Ob.new p d wk fn (s.ser+1)).took:=by
  show s.base s.u+bZ (s.cur++[(s.top,Ob.new p d wk fn (s.ser+1))])=_;rw[gW];show s.base s.u+(bZ s.cur+(Ob.new p d wk fn (s.ser+1)).took)=s.base s.u+bZ s.cur+(Ob.new p d wk fn (s.ser+1)).took;omega
 obtain⟨q1,_,_,_⟩:=Ob.bF (Ob.EP bU hs);have iG:(Ob.new p d wk fn (s.ser+1)).size=n:=hn;rw[iG,hR] at q1;rw[e];push_cast;omega
theorem uh(s:HS)(p d:Nat)(wk fn:Bool):nI (dL (s.gS p d wk fn).cur)=nI (dL s.cur)++[((s.top:Nat):Int)]:=by
 show nI ((s.cur++[(s.top,Ob.new p d wk fn (s.ser+1))]).map (·.1))=_;simp[dL]
set_option maxRecDepth 100000 in
theorem Kz{w:ag}{B:HB}{s:HS}{X:aj}(h:cz w B s X)(hu:s.u=false){p d:Nat}{wk fn:Bool}(bU:sV p d wk fn)
 (hr:ju ((3+p+d:Nat):Int)<=s.room) (hs:s.ser<1099511627776) (hf:s.bI.length<100000/\s.fin.length<100000) :
 aJ prog 183 #[eU B,mz p d wk fn] w λe w'=>e=.returned (.tuple #[vI (s.top:Nat),vI 0])/\∃B' X',cz w' B' (s.alloc p d wk fn) X'/\bz w B w' B':=by
 have mD:=hid (h.rep.alloc bU hr hs hf);have fR:=nM h.rep;have mf:=h.rep.gh;have lU:=h.rep.n2;have p8:=bU.1;have d8:=bU.2.1;obtain⟨n,hn⟩:=ao (3+p+d);have mo:(3:Int)+p+d=(n:Int):=by rw[<-hn];push_cast;rfl
 have B0:n<=19:=by omega
 have ld:3<=n:=by omega
 obtain⟨R,hR⟩:∃R:Nat,ju (n:Int)=(R:Int):=⟨(ju (n:Int)).toNat,by have:=iw (n:=(n:Int)) (by omega);omega⟩;have Oc:=iw (n:=(n:Int)) (by omega);rw[hn,hR] at hr;rw[hR] at Oc;obtain⟨Xz,XB,XC⟩:=Oc;have zG:=hid (λW (c:Calm w W)=>z_ (h.calm c));obtain⟨SV,Pz⟩:=ao ((s.ser:Int):Int);have Vt:¬(1099511627776<=SV):=by omega
 have rr:Hid (SV+1<=1099511627776):=by show SV+1<=_;omega
 have fA:IntKind.i64.wrap (SV+1)=SV+1:=IntWalk.i64_in _ (by omega);have mq:Hid (s.ser+1<=1099511627776):=by show s.ser+1<=_;omega
 obtain⟨RM,FY⟩:=ao s.room
 have ma:R<=s.n-((s.top:Nat)-(s.base s.u:Nat):Int):=by
  have:=h.rep.room;rw[<-FY] at *;unfold HS.room at hr;unfold HS.top;push_cast;omega
 rw[FY] at hr zG;have Lp:RM<=16384:=by rw[<-FY];unfold HS.room;omega
 replace FY:=hid FY;have bs:=jQ s;have eb:((s.base s.u:Nat):Int)=1:=by rw[(bs.2 hu).1];rfl
 rw[eb] at ma fR;have hc:=h.cs;simp only[aN,hu,cond_false,cond_true] at hc;rw[Pz] at hc;replace Pz:=hid Pz;have aM:=h.jW;have EO:B.hp≠w.heap.size:=by omega
 have Gm:w.heap.size≠B.hp:=by omega
 have H:=hid h;replace bU:=hid bU;replace fR:=hid fR;replace ma:=hid ma;replace hc:=hid hc;obtain⟨T,hT⟩:=ao s.top;have Y3:T<=65536:=by omega
 rw[hT] at hc fR ma mD ⊢;replace hT:=hid hT;replace hf:=hid hf;clear h bs eb mf hs;go_in;go_wp2_with fail
 have k1:Calm w (w.alloc (.cells #[vI p,vI d,.bool wk,.bool fn] 179)):=ah.alloc _;have o1:=af.new w [vI p,vI d,.bool wk,.bool fn] 179;refine(jY p d wk fn bU.out _).mono ?_;rintro e w2 ⟨rfl,k2⟩;rw[mo];clear mo;replace hn:=hid hn;replace hR:=hid hR;replace o1:=hid (o1.calm k2);replace k2:=k1.trans k2;clear k1;go_wp2_with fail
 refine(lN n (by omega) (by omega) _).mono ?_;rintro e w3 ⟨rfl,k3⟩;rw[hR.out];replace o1:=hid (o1.out.calm k3);replace k3:=k2.trans k3;clear k2;go_wp2_with fail
 refine(zG.out _ k3).mono ?_;rintro e w4 ⟨rfl,k4⟩;replace o1:=o1.out.calm k4;replace k4:=k3.trans k4;have jC:=hc.out.calm k4;have jv:=(jC 13 _ rfl).1;have y9:=(jC 9 _ rfl).1;have y1:=(jC 1 _ rfl).1;have y2:=(jC 2 _ rfl).1;have y3:=(jC 3 _ rfl).1;replace jC:=hid jC;replace o1:=hid o1;clear k3 hc zG;have lF:=k4.size;have hdr:¬RM<(R:Int):=by omega
 replace hr:=hid hr;replace Xz:=hid Xz;replace XB:=hid XB;replace XC:=hid XC;replace Lp:=hid Lp;replace lF:=hid lF;replace fA:=hid fA;replace p8:=hid p8;replace d8:=hid d8;replace B0:=hid B0;replace ld:=hid ld;replace lU:=hid lU;go_wp2_with fail
 have Oi:B.hp≠w4.heap.size:=by have:=lF.out;omega
 have SK:w4.heap.size≠B.hp:=by have:=lF.out;omega
 have kK:=hid (λW=>vS (1) s.n T n W fR.out (by have:=ld.out;omega) (by have:=B0.out;omega) (by rw[hR.out];exact ma.out));rw[hR.out] at kK
 go_cut [10,11,7] (λs10 s11 s7 wx=>∃g,s10 = bw g/\s11=vI T/\s7=.bool true/\af wx g [vI 1,vI s.n,vI (T+R)]/\Calm w4 wx/\w4.heap.size<=g)
 case first=>
  go_region_held3 (λw'=>w'.cell? ⟨B.hp,9,none⟩=some (vI 0)/\w'.cell? ⟨B.hp,1,none⟩=some (vI 1)/\w'.cell? ⟨B.hp,2,none⟩=some (vI s.n)/\w'.cell? ⟨B.hp,3,none⟩=some (vI T)) (go_keep)
   (first|(go_at_call 223;refine(kK.out _).mono ?_;rintro e w5 ⟨rfl,c5⟩;have ka:Calm w4 w5:=Fr.trans (by first|exact ah|exact ah.drew|exact(ah.drew).alloc _|exact(ah.alloc _).drew) c5;have q9:=ka.cellAt y9 id;have q1:=ka.cellAt y1 id;have q2:=ka.cellAt y2 id;have q3:=ka.cellAt y3 id;try (have ow:af w5 w4.heap.size [vI 0,vI 0,vI 0]:=(by first|exact(af.at _ [vI 0,vI 0,vI 0] 150 w4.heap.size rfl).calm c5|exact((af.at _ [vI 0,vI 0,vI 0] 150 w4.heap.size rfl).calm (ah.drew)).calm c5);have m0:=(ow 0 _ rfl).1;have m1:=(ow 1 _ rfl).1;have m2:=(ow 2 _ rfl).1;have n0:=(ow 0 _ rfl).2;have n1:=(ow 1 _ rfl).2;have n2:=(ow 2 _ rfl).2)))
  ·go_wp2_with fail
   go_meet;exact⟨w5.heap.size,rfl,rfl,rfl,af.new w5 [vI 1,vI s.n,vI (T+R)] _,ka.alloc _,ka.size⟩
  ·go_wp2_with fail
   go_meet;have o4:=ow.xr (vI 1) (vI s.n) (vI (T+R));exact⟨w4.heap.size,rfl,rfl,rfl,o4.1,ka.join o4.2 (λj hj (e:j=w4.heap.size)=>absurd hj (by omega)),aD _⟩
 case rest=>
  obtain⟨g,rfl,rfl,rfl,og,cx,hg⟩:=hcut;replace jC:=jC.out.calm cx;replace o1:=o1.out.calm cx;replace k4:=k4.trans cx;have q0:=qk jC 0 rfl;have q13:=qk jC 13 rfl;have s0:=qk o1 0 rfl;have s1:=qk o1 1 rfl;have s2:=qk o1 2 rfl;have s3:=qk o1 3 rfl;replace jC:=hid jC;replace o1:=hid o1;replace og:=hid og;replace fA:=fA.out;clear jv y9 y1 y2 y3 cx kK;go_wp2_with fail
  refine bB 11 (by kernel_rfl) (by kernel_rfl) ?_;simp only[List.take_succ_cons,List.take_zero,List.drop_succ_cons,List.drop_zero]
  repeat (go_big_quiet_step (fail))
  refine wpQuiet_nil ?_;intro w5 hw';have c5:=a_.out hw';clear hw' q0 q13 s0 s1 s2 s3;replace jC:=hid (jC.out.calm c5);replace o1:=hid (o1.out.calm c5);replace og:=hid (og.out.calm c5);replace k4:=k4.trans c5;go_wp2_with fail
  have e1:SV+1=((s.ser+1:Nat):Int):=by have:=Pz.out;push_cast;omega
  have hX:=mD.out.2;have kF:=H.out.kF;have By:=H.out.lt _ (.inr (.inr (.inl rfl)));rw[e1];replace e1:=hid e1;refine(yw _ B.ap B.ac X (H.out.ar.calm k4) T p d wk fn (s.ser+1) bU.out (by rw[hn.out] at hX ⊢;exact hX) mq.out).mono ?_;rintro e w6 ⟨rfl,JV,f6⟩;have eC:g≠B.ac:=by have:=lF.out;omega
  have hoc:w.heap.size≠B.ac:=by omega
  have KR:g≠B.hp:=by have:=lF.out;omega
  have UW:B.hp≠g:=Ne.symm KR;replace jC:=jC.out.fr f6 kF;replace o1:=o1.out.fr f6 hoc;replace og:=og.out.fr f6 eC;have jv:=(jC 13 _ rfl).1;have v13:=(jC 13 _ rfl).2;obtain⟨g0,g1,g2⟩:=af.mI og;replace jC:=hid jC;replace o1:=hid o1;replace JV:=hid JV;replace f6:=hid f6;replace kF:=hid kF;clear og;go_wp2_with fail
  have Vu:=(Calm.any (S:=λk=>k=B.hp\/k=B.ac) k4).trans (f6.out.mono (T:=λk=>k=B.hp\/k=B.ac) (λk _ e=>.inr e));have H7:=(jC.out.set 13 (vI (SV+1)) (by simp));have f7:=Vu.setCell (p:=⟨B.hp,13,none⟩) (.inl (.inl rfl)) (vI (SV+1));have o7:=o1.out.gL ⟨B.hp,13,none⟩ (vI (SV+1)) EO;have G8:=JV.out.fr ((Fr.refl (λk=>k=B.hp) w6).setCell (p:=⟨B.hp,13,none⟩) (.inl rfl) (vI (SV+1))) (Ne.symm H.out.cT) (Ne.symm kF.out);clear Vu jC o1 JV f6 jv v13 g0 g1 g2;generalize World.setCell w6 _ _=w7 at *;simp only[iz,jk] at H7;have rD:=(H.out.none_ B.v0 (by simp[HB.vs]));have r7:=H.out.r0.dw f7 (by rintro k hk (e|e);exact rD.1 (e ▸ hk);exact rD.2.2 (e ▸ hk));simp only[l0,hu,cond_false,cond_true] at r7;have jq:=H.out.rep.nG.1;have il:=λk hk=>H.out.lt k (.inr (.inr (.inr ⟨B.v0,by simp[HB.vs],hk⟩)));refine(GL H7 r7 rD.1 (by simp;omega) _ _ _ _).mono ?_;rintro e w8 ⟨rfl,v',H8,r8,f8,n8⟩;simp only[iz,jk] at H8;replace o7:=o7.fr f8 (by rintro (e|e);exact Gm e;exact absurd (il _ e) (by omega));have et:=ui s bU.out mq.out hn.out hR.out;have ep:=uh s p d wk fn;rw[hT.out] at et ep
  have uA:aN { B with v0:=v' } (s.gS p d wk fn)=[eL B.ap,vI 1,vI s.n,vI (T+R),vI (1+s.n),vI s.n,vI s.hZ,v',B.v1,vI 0,.bool s.mv,vI (eQ s.aV:Nat),vI s.scan,vI (SV+1),B.vw,B.vf]:=by
   have u1:(s.gS p d wk fn).u=false:=hu;have e2:(((s.gS p d wk fn).ser:Nat):Int)=SV+1:=e1.out.symm;simp only[aN,u1,cond_false,cond_true,et,e2];rfl
  obtain⟨hA,hK⟩:=H.out.GA hu (s':=s.gS p d wk fn) (X':=made X T p d wk fn (s.ser+1)) ((f7.mono (T:=λk=>k=B.hp\/k=B.ac\/ay B.v0 k) (λk _ e=>e.elim .inl (λe=>.inr (.inl e)))).trans (f8.mono (λk _ e=>e.elim .inl (λe=>.inr (.inr e)))))
   (by rw[uA];exact H8) (G8.fr f8 (by rintro (e|e);exact H.out.cT e.symm;exact rD.2.1 e) (by rintro (e|e);exact H.out.kF e.symm;exact rD.2.2 e)) (by rw[ep];exact r8) hu rfl rfl rfl (H.out.rep.gS mD.out.1)
   (λk hk=>(n8 k hk).imp id (λe=>by have:=f7.size;omega))
  have o2:=(o7 2 _ rfl).1;have o3:=(o7 3 _ rfl).1;have iM:=(hA.own (i:=14) (v:=B.vw) rfl);have FA:=(hA.own (i:=15) (v:=B.vf) rfl);have Ib:=hA.rw;have tE:=hA.rf;obtain⟨xa,xn,xc,zJ⟩:=Ib.letters;obtain⟨za,zn,zc,Co⟩:=tE.letters;have zJ:B.vw=.slice xa xn xc:=zJ;have Co:B.vf=.slice za zn zc:=Co;replace hA:=hid hA;replace hK:=hid hK;replace Ib:=hid Ib;replace tE:=hid tE;clear o7 H8 r8 f8 n8 H7 f7 G8 r7 et ep uA il rD jq hn hR;cases wk
  ·cases fn
   ·go_wp2
    go_ret2
    exact⟨rfl,_,_,hA.out,hK.out⟩
   ·skip
    have oG:=(hA.out.none_ B.vf (by simp[HB.vs])).1;have sR:aI w8 0 (.slice za zn zc) (nI s.fin):=by rw[<-Co];exact tE.out
    rw[Co] at FA;have y1:=FA.1;have y2:=FA.2;have qG:(nI s.fin).length<=1000000:=by have:=hf.out;simp;omega
    have VF:¬ay B.vf w.heap.size:=λe=>absurd (H.out.lt _ (.inr (.inr (.inr ⟨B.vf,by simp[HB.vs],e⟩)))) (by omega);obtain⟨L,hL⟩:=ao (nI s.fin);rw[hL] at sR qG;replace hL:=hid hL;replace sR:=hid sR;replace qG:=hid qG;go_wp2_with (at_builtin;refine cU rfl _ _ rfl 0 _ _ sR.out rfl T rfl qG.out (bY _) ?_;intro g9 c9 w9 r9 f9 qH;have y3:=f9.cellAt y1 (by rw[<-Co];exact oG);have y4:=f9.frozenAt y1 y2 (by rw[<-Co];exact oG);have y5:=f9.cellAt o3 (by rw[<-Co];exact VF);replace r9:=hid r9;replace f9:=hid f9;replace qH:=hid qH)
    go_ret2
    rw[<-Co] at f9 qH
    have UR:g9≠B.hp:=by
     rintro rfl;rcases qH.out with h9|h9
     ·exact oG h9
     ·have:=hA.out.jW;have e:B.hp<w8.heap.size:=this;omega
    obtain⟨Ks,Hv⟩:=hA.out.Gz (v:=.slice (some ⟨g9,0,none⟩) (L.length+1) c9) (l:=s.fin++[s.top]) ((f9.out.mono (T:=λk=>k=B.hp\/ay B.vf k) (λk _ e=>.inr e)).setCell (p:=⟨B.hp,15,none⟩) (.inl (.inl rfl)) _)
     ((hA.out.cs.fr f9.out oG).set 15 _ (by simp[aN]))
     (by rw[show nI (s.fin++[s.top])=L++[(T:Int)] by rw[<-hL.out];simp[hT.out]];have Wg:aI w9 0 _ _:=r9.out;have:=Wg.dw ((Fr.refl (λb=>b=B.hp) w9).setCell (p:=⟨B.hp,15,none⟩) (.inl rfl) (.slice (some ⟨g9,0,none⟩) (L.length+1) c9)) (λk hk e=>UR ((ay.fJ hk).symm.trans e));exact this)
     (λk hk=>by rw[ay.fJ hk];exact qH.out) (by have:=hf.out;simp;omega)
    refine⟨rfl,_,_,Ks,hK.out.trans Hv⟩
  ·cases fn
   ·skip
    have oG:=(hA.out.none_ B.vw (by simp[HB.vs])).1;have sR:aI w8 0 (.slice xa xn xc) (nI s.bI):=by rw[<-zJ];exact Ib.out
    rw[zJ] at iM;have y1:=iM.1;have y2:=iM.2;have qG:(nI s.bI).length<=1000000:=by have:=hf.out;simp;omega
    have VF:¬ay B.vw w.heap.size:=λe=>absurd (H.out.lt _ (.inr (.inr (.inr ⟨B.vw,by simp[HB.vs],e⟩)))) (by omega);obtain⟨L,hL⟩:=ao (nI s.bI);rw[hL] at sR qG;replace hL:=hid hL;replace sR:=hid sR;replace qG:=hid qG;go_wp2_with (at_builtin;refine cU rfl _ _ rfl 0 _ _ sR.out rfl T rfl qG.out (bY _) ?_;intro g9 c9 w9 r9 f9 qH;have y3:=f9.cellAt y1 (by rw[<-zJ];exact oG);have y4:=f9.frozenAt y1 y2 (by rw[<-zJ];exact oG);have y5:=f9.cellAt o3 (by rw[<-zJ];exact VF);replace r9:=hid r9;replace f9:=hid f9;replace qH:=hid qH)
    go_ret2
    rw[<-zJ] at f9 qH
    have UR:g9≠B.hp:=by
     rintro rfl;rcases qH.out with h9|h9
     ·exact oG h9
     ·have:=hA.out.jW;have e:B.hp<w8.heap.size:=this;omega
    obtain⟨Ks,Hv⟩:=hA.out.Fj (v:=.slice (some ⟨g9,0,none⟩) (L.length+1) c9) (l:=s.bI++[s.top]) ((f9.out.mono (T:=λk=>k=B.hp\/ay B.vw k) (λk _ e=>.inr e)).setCell (p:=⟨B.hp,14,none⟩) (.inl (.inl rfl)) _)
     ((hA.out.cs.fr f9.out oG).set 14 _ (by simp[aN]))
     (by rw[show nI (s.bI++[s.top])=L++[(T:Int)] by rw[<-hL.out];simp[hT.out]];have Wg:aI w9 0 _ _:=r9.out;have:=Wg.dw ((Fr.refl (λb=>b=B.hp) w9).setCell (p:=⟨B.hp,14,none⟩) (.inl rfl) (.slice (some ⟨g9,0,none⟩) (L.length+1) c9)) (λk hk e=>UR ((ay.fJ hk).symm.trans e));exact this)
     (λk hk=>by rw[ay.fJ hk];exact qH.out) (by have:=hf.out;simp;omega)
    refine⟨rfl,_,_,Ks,hK.out.trans Hv⟩
   ·exact absurd (bU.out.2.2 rfl).2.2 (by decide)
set_option maxRecDepth 100000 in
theorem KC{w:ag}{B:HB}{s:HS}{X:aj}(h:cz w B s X)(hu:s.u=true){p d:Nat}{wk fn:Bool}(bU:sV p d wk fn)
 (hr:ju ((3+p+d:Nat):Int)<=s.room) (hs:s.ser<1099511627776) (hf:s.bI.length<100000/\s.fin.length<100000) :
 aJ prog 183 #[eU B,mz p d wk fn] w λe w'=>e=.returned (.tuple #[vI (s.top:Nat),vI 0])/\∃B' X',cz w' B' (s.alloc p d wk fn) X'/\bz w B w' B':=by
 have mD:=hid (h.rep.alloc bU hr hs hf);have fR:=nM h.rep;have mf:=h.rep.gh;have lU:=h.rep.n2;have p8:=bU.1;have d8:=bU.2.1;obtain⟨n,hn⟩:=ao (3+p+d);have mo:(3:Int)+p+d=(n:Int):=by rw[<-hn];push_cast;rfl
 have B0:n<=19:=by omega
 have ld:3<=n:=by omega
 obtain⟨R,hR⟩:∃R:Nat,ju (n:Int)=(R:Int):=⟨(ju (n:Int)).toNat,by have:=iw (n:=(n:Int)) (by omega);omega⟩;have Oc:=iw (n:=(n:Int)) (by omega);rw[hn,hR] at hr;rw[hR] at Oc;obtain⟨Xz,XB,XC⟩:=Oc;have zG:=hid (λW (c:Calm w W)=>z_ (h.calm c));obtain⟨SV,Pz⟩:=ao ((s.ser:Int):Int);have Vt:¬(1099511627776<=SV):=by omega
 have rr:Hid (SV+1<=1099511627776):=by show SV+1<=_;omega
 have fA:IntKind.i64.wrap (SV+1)=SV+1:=IntWalk.i64_in _ (by omega);have mq:Hid (s.ser+1<=1099511627776):=by show s.ser+1<=_;omega
 obtain⟨RM,FY⟩:=ao s.room
 have ma:R<=s.n-((s.top:Nat)-(s.base s.u:Nat):Int):=by
  have:=h.rep.room;rw[<-FY] at *;unfold HS.room at hr;unfold HS.top;push_cast;omega
 rw[FY] at hr zG;have Lp:RM<=16384:=by rw[<-FY];unfold HS.room;omega
 replace FY:=hid FY;have bs:=jQ s;have eb:((s.base s.u:Nat):Int)=1+s.n:=by rw[(bs.1 hu).1];push_cast;rfl
 rw[eb] at ma fR;have hc:=h.cs;simp only[aN,hu,cond_false,cond_true] at hc;rw[Pz] at hc;replace Pz:=hid Pz;have aM:=h.jW;have EO:B.hp≠w.heap.size:=by omega
 have Gm:w.heap.size≠B.hp:=by omega
 have H:=hid h;replace bU:=hid bU;replace fR:=hid fR;replace ma:=hid ma;replace hc:=hid hc;obtain⟨T,hT⟩:=ao s.top;have Y3:T<=65536:=by omega
 rw[hT] at hc fR ma mD ⊢;replace hT:=hid hT;replace hf:=hid hf;clear h bs eb mf hs;go_in;go_wp2_with fail
 have k1:Calm w (w.alloc (.cells #[vI p,vI d,.bool wk,.bool fn] 179)):=ah.alloc _;have o1:=af.new w [vI p,vI d,.bool wk,.bool fn] 179;refine(jY p d wk fn bU.out _).mono ?_;rintro e w2 ⟨rfl,k2⟩;rw[mo];clear mo;replace hn:=hid hn;replace hR:=hid hR;replace o1:=hid (o1.calm k2);replace k2:=k1.trans k2;clear k1;go_wp2_with fail
 refine(lN n (by omega) (by omega) _).mono ?_;rintro e w3 ⟨rfl,k3⟩;rw[hR.out];replace o1:=hid (o1.out.calm k3);replace k3:=k2.trans k3;clear k2;go_wp2_with fail
 refine(zG.out _ k3).mono ?_;rintro e w4 ⟨rfl,k4⟩;replace o1:=o1.out.calm k4;replace k4:=k3.trans k4;have jC:=hc.out.calm k4;have jv:=(jC 13 _ rfl).1;have y9:=(jC 9 _ rfl).1;have y1:=(jC 4 _ rfl).1;have y2:=(jC 5 _ rfl).1;have y3:=(jC 6 _ rfl).1;replace jC:=hid jC;replace o1:=hid o1;clear k3 hc zG;have lF:=k4.size;have hdr:¬RM<(R:Int):=by omega
 replace hr:=hid hr;replace Xz:=hid Xz;replace XB:=hid XB;replace XC:=hid XC;replace Lp:=hid Lp;replace lF:=hid lF;replace fA:=hid fA;replace p8:=hid p8;replace d8:=hid d8;replace B0:=hid B0;replace ld:=hid ld;replace lU:=hid lU;go_wp2_with fail
 have Oi:B.hp≠w4.heap.size:=by have:=lF.out;omega
 have SK:w4.heap.size≠B.hp:=by have:=lF.out;omega
 have kK:=hid (λW=>vS (1+s.n) s.n T n W fR.out (by have:=ld.out;omega) (by have:=B0.out;omega) (by rw[hR.out];exact ma.out));rw[hR.out] at kK
 go_cut [10,11,7] (λs10 s11 s7 wx=>∃g,s10 = bw g/\s11=vI T/\s7=.bool true/\af wx g [vI (1+s.n),vI s.n,vI (T+R)]/\Calm w4 wx/\w4.heap.size<=g)
 case first=>
  go_region_held3 (λw'=>w'.cell? ⟨B.hp,9,none⟩=some (vI 1)/\w'.cell? ⟨B.hp,4,none⟩=some (vI (1+s.n))/\w'.cell? ⟨B.hp,5,none⟩=some (vI s.n)/\w'.cell? ⟨B.hp,6,none⟩=some (vI T)) (go_keep)
   (first|(go_at_call 223;refine(kK.out _).mono ?_;rintro e w5 ⟨rfl,c5⟩;have ka:Calm w4 w5:=Fr.trans (by first|exact ah|exact ah.drew|exact(ah.drew).alloc _|exact(ah.alloc _).drew) c5;have q9:=ka.cellAt y9 id;have q1:=ka.cellAt y1 id;have q2:=ka.cellAt y2 id;have q3:=ka.cellAt y3 id;try (have ow:af w5 w4.heap.size [vI 0,vI 0,vI 0]:=(by first|exact(af.at _ [vI 0,vI 0,vI 0] 150 w4.heap.size rfl).calm c5|exact((af.at _ [vI 0,vI 0,vI 0] 150 w4.heap.size rfl).calm (ah.drew)).calm c5);have m0:=(ow 0 _ rfl).1;have m1:=(ow 1 _ rfl).1;have m2:=(ow 2 _ rfl).1;have n0:=(ow 0 _ rfl).2;have n1:=(ow 1 _ rfl).2;have n2:=(ow 2 _ rfl).2)))
  ·go_wp2_with fail
   go_meet;exact⟨w5.heap.size,rfl,rfl,rfl,af.new w5 [vI (1+s.n),vI s.n,vI (T+R)] _,ka.alloc _,ka.size⟩
  ·go_wp2_with fail
   go_meet;have o4:=ow.xr (vI (1+s.n)) (vI s.n) (vI (T+R));exact⟨w4.heap.size,rfl,rfl,rfl,o4.1,ka.join o4.2 (λj hj (e:j=w4.heap.size)=>absurd hj (by omega)),aD _⟩
 case rest=>
  obtain⟨g,rfl,rfl,rfl,og,cx,hg⟩:=hcut;replace jC:=jC.out.calm cx;replace o1:=o1.out.calm cx;replace k4:=k4.trans cx;have q0:=qk jC 0 rfl;have q13:=qk jC 13 rfl;have s0:=qk o1 0 rfl;have s1:=qk o1 1 rfl;have s2:=qk o1 2 rfl;have s3:=qk o1 3 rfl;replace jC:=hid jC;replace o1:=hid o1;replace og:=hid og;replace fA:=fA.out;clear jv y9 y1 y2 y3 cx kK;go_wp2_with fail
  refine bB 11 (by kernel_rfl) (by kernel_rfl) ?_;simp only[List.take_succ_cons,List.take_zero,List.drop_succ_cons,List.drop_zero]
  repeat (go_big_quiet_step (fail))
  refine wpQuiet_nil ?_;intro w5 hw';have c5:=a_.out hw';clear hw' q0 q13 s0 s1 s2 s3;replace jC:=hid (jC.out.calm c5);replace o1:=hid (o1.out.calm c5);replace og:=hid (og.out.calm c5);replace k4:=k4.trans c5;go_wp2_with fail
  have e1:SV+1=((s.ser+1:Nat):Int):=by have:=Pz.out;push_cast;omega
  have hX:=mD.out.2;have kF:=H.out.kF;have By:=H.out.lt _ (.inr (.inr (.inl rfl)));rw[e1];replace e1:=hid e1;refine(yw _ B.ap B.ac X (H.out.ar.calm k4) T p d wk fn (s.ser+1) bU.out (by rw[hn.out] at hX ⊢;exact hX) mq.out).mono ?_;rintro e w6 ⟨rfl,JV,f6⟩;have eC:g≠B.ac:=by have:=lF.out;omega
  have hoc:w.heap.size≠B.ac:=by omega
  have KR:g≠B.hp:=by have:=lF.out;omega
  have UW:B.hp≠g:=Ne.symm KR;replace jC:=jC.out.fr f6 kF;replace o1:=o1.out.fr f6 hoc;replace og:=og.out.fr f6 eC;have jv:=(jC 13 _ rfl).1;have v13:=(jC 13 _ rfl).2;obtain⟨g0,g1,g2⟩:=af.mI og;replace jC:=hid jC;replace o1:=hid o1;replace JV:=hid JV;replace f6:=hid f6;replace kF:=hid kF;clear og;go_wp2_with fail
  have Vu:=(Calm.any (S:=λk=>k=B.hp\/k=B.ac) k4).trans (f6.out.mono (T:=λk=>k=B.hp\/k=B.ac) (λk _ e=>.inr e));have H7:=(jC.out.set 13 (vI (SV+1)) (by simp));have f7:=Vu.setCell (p:=⟨B.hp,13,none⟩) (.inl (.inl rfl)) (vI (SV+1));have o7:=o1.out.gL ⟨B.hp,13,none⟩ (vI (SV+1)) EO;have G8:=JV.out.fr ((Fr.refl (λk=>k=B.hp) w6).setCell (p:=⟨B.hp,13,none⟩) (.inl rfl) (vI (SV+1))) (Ne.symm H.out.cT) (Ne.symm kF.out);clear Vu jC o1 JV f6 jv v13 g0 g1 g2;generalize World.setCell w6 _ _=w7 at *;simp only[iz,jk] at H7;have rD:=(H.out.none_ B.v1 (by simp[HB.vs]));have r7:=H.out.r1.dw f7 (by rintro k hk (e|e);exact rD.1 (e ▸ hk);exact rD.2.2 (e ▸ hk));simp only[l1,hu,cond_false,cond_true] at r7;have jq:=H.out.rep.nG.1;have il:=λk hk=>H.out.lt k (.inr (.inr (.inr ⟨B.v1,by simp[HB.vs],hk⟩)));refine(GM H7 r7 rD.1 (by simp;omega) _ _ _ _).mono ?_;rintro e w8 ⟨rfl,v',H8,r8,f8,n8⟩;simp only[iz,jk] at H8;replace o7:=o7.fr f8 (by rintro (e|e);exact Gm e;exact absurd (il _ e) (by omega));have et:=ui s bU.out mq.out hn.out hR.out;have ep:=uh s p d wk fn;rw[hT.out] at et ep
  have uA:aN { B with v1:=v' } (s.gS p d wk fn)=[eL B.ap,vI 1,vI s.n,vI s.hZ,vI (1+s.n),vI s.n,vI (T+R),B.v0,v',vI 1,.bool s.mv,vI (eQ s.aV:Nat),vI s.scan,vI (SV+1),B.vw,B.vf]:=by
   have u1:(s.gS p d wk fn).u=true:=hu;have e2:(((s.gS p d wk fn).ser:Nat):Int)=SV+1:=e1.out.symm;simp only[aN,u1,cond_false,cond_true,et,e2];rfl
  obtain⟨hA,hK⟩:=H.out.GB hu (s':=s.gS p d wk fn) (X':=made X T p d wk fn (s.ser+1)) ((f7.mono (T:=λk=>k=B.hp\/k=B.ac\/ay B.v1 k) (λk _ e=>e.elim .inl (λe=>.inr (.inl e)))).trans (f8.mono (λk _ e=>e.elim .inl (λe=>.inr (.inr e)))))
   (by rw[uA];exact H8) (G8.fr f8 (by rintro (e|e);exact H.out.cT e.symm;exact rD.2.1 e) (by rintro (e|e);exact H.out.kF e.symm;exact rD.2.2 e)) (by rw[ep];exact r8) hu rfl rfl rfl (H.out.rep.gS mD.out.1)
   (λk hk=>(n8 k hk).imp id (λe=>by have:=f7.size;omega))
  have o2:=(o7 2 _ rfl).1;have o3:=(o7 3 _ rfl).1;have iM:=(hA.own (i:=14) (v:=B.vw) rfl);have FA:=(hA.own (i:=15) (v:=B.vf) rfl);have Ib:=hA.rw;have tE:=hA.rf;obtain⟨xa,xn,xc,zJ⟩:=Ib.letters;obtain⟨za,zn,zc,Co⟩:=tE.letters;have zJ:B.vw=.slice xa xn xc:=zJ;have Co:B.vf=.slice za zn zc:=Co;replace hA:=hid hA;replace hK:=hid hK;replace Ib:=hid Ib;replace tE:=hid tE;clear o7 H8 r8 f8 n8 H7 f7 G8 r7 et ep uA il rD jq hn hR;cases wk
  ·cases fn
   ·go_wp2
    go_ret2
    exact⟨rfl,_,_,hA.out,hK.out⟩
   ·skip
    have oG:=(hA.out.none_ B.vf (by simp[HB.vs])).1;have sR:aI w8 0 (.slice za zn zc) (nI s.fin):=by rw[<-Co];exact tE.out
    rw[Co] at FA;have y1:=FA.1;have y2:=FA.2;have qG:(nI s.fin).length<=1000000:=by have:=hf.out;simp;omega
    have VF:¬ay B.vf w.heap.size:=λe=>absurd (H.out.lt _ (.inr (.inr (.inr ⟨B.vf,by simp[HB.vs],e⟩)))) (by omega);obtain⟨L,hL⟩:=ao (nI s.fin);rw[hL] at sR qG;replace hL:=hid hL;replace sR:=hid sR;replace qG:=hid qG;go_wp2_with (at_builtin;refine cU rfl _ _ rfl 0 _ _ sR.out rfl T rfl qG.out (bY _) ?_;intro g9 c9 w9 r9 f9 qH;have y3:=f9.cellAt y1 (by rw[<-Co];exact oG);have y4:=f9.frozenAt y1 y2 (by rw[<-Co];exact oG);have y5:=f9.cellAt o3 (by rw[<-Co];exact VF);replace r9:=hid r9;replace f9:=hid f9;replace qH:=hid qH)
    go_ret2
    rw[<-Co] at f9 qH
    have UR:g9≠B.hp:=by
     rintro rfl;rcases qH.out with h9|h9
     ·exact oG h9
     ·have:=hA.out.jW;have e:B.hp<w8.heap.size:=this;omega
    obtain⟨Ks,Hv⟩:=hA.out.Gz (v:=.slice (some ⟨g9,0,none⟩) (L.length+1) c9) (l:=s.fin++[s.top]) ((f9.out.mono (T:=λk=>k=B.hp\/ay B.vf k) (λk _ e=>.inr e)).setCell (p:=⟨B.hp,15,none⟩) (.inl (.inl rfl)) _)
     ((hA.out.cs.fr f9.out oG).set 15 _ (by simp[aN]))
     (by rw[show nI (s.fin++[s.top])=L++[(T:Int)] by rw[<-hL.out];simp[hT.out]];have Wg:aI w9 0 _ _:=r9.out;have:=Wg.dw ((Fr.refl (λb=>b=B.hp) w9).setCell (p:=⟨B.hp,15,none⟩) (.inl rfl) (.slice (some ⟨g9,0,none⟩) (L.length+1) c9)) (λk hk e=>UR ((ay.fJ hk).symm.trans e));exact this)
     (λk hk=>by rw[ay.fJ hk];exact qH.out) (by have:=hf.out;simp;omega)
    refine⟨rfl,_,_,Ks,hK.out.trans Hv⟩
  ·cases fn
   ·skip
    have oG:=(hA.out.none_ B.vw (by simp[HB.vs])).1;have sR:aI w8 0 (.slice xa xn xc) (nI s.bI):=by rw[<-zJ];exact Ib.out
    rw[zJ] at iM;have y1:=iM.1;have y2:=iM.2;have qG:(nI s.bI).length<=1000000:=by have:=hf.out;simp;omega
    have VF:¬ay B.vw w.heap.size:=λe=>absurd (H.out.lt _ (.inr (.inr (.inr ⟨B.vw,by simp[HB.vs],e⟩)))) (by omega);obtain⟨L,hL⟩:=ao (nI s.bI);rw[hL] at sR qG;replace hL:=hid hL;replace sR:=hid sR;replace qG:=hid qG;go_wp2_with (at_builtin;refine cU rfl _ _ rfl 0 _ _ sR.out rfl T rfl qG.out (bY _) ?_;intro g9 c9 w9 r9 f9 qH;have y3:=f9.cellAt y1 (by rw[<-zJ];exact oG);have y4:=f9.frozenAt y1 y2 (by rw[<-zJ];exact oG);have y5:=f9.cellAt o3 (by rw[<-zJ];exact VF);replace r9:=hid r9;replace f9:=hid f9;replace qH:=hid qH)
    go_ret2
    rw[<-zJ] at f9 qH
    have UR:g9≠B.hp:=by
     rintro rfl;rcases qH.out with h9|h9
     ·exact oG h9
     ·have:=hA.out.jW;have e:B.hp<w8.heap.size:=this;omega
    obtain⟨Ks,Hv⟩:=hA.out.Fj (v:=.slice (some ⟨g9,0,none⟩) (L.length+1) c9) (l:=s.bI++[s.top]) ((f9.out.mono (T:=λk=>k=B.hp\/ay B.vw k) (λk _ e=>.inr e)).setCell (p:=⟨B.hp,14,none⟩) (.inl (.inl rfl)) _)
     ((hA.out.cs.fr f9.out oG).set 14 _ (by simp[aN]))
     (by rw[show nI (s.bI++[s.top])=L++[(T:Int)] by rw[<-hL.out];simp[hT.out]];have Wg:aI w9 0 _ _:=r9.out;have:=Wg.dw ((Fr.refl (λb=>b=B.hp) w9).setCell (p:=⟨B.hp,14,none⟩) (.inl rfl) (.slice (some ⟨g9,0,none⟩) (L.length+1) c9)) (λk hk e=>UR ((ay.fJ hk).symm.trans e));exact this)
     (λk hk=>by rw[ay.fJ hk];exact qH.out) (by have:=hf.out;simp;omega)
    refine⟨rfl,_,_,Ks,hK.out.trans Hv⟩
   ·exact absurd (bU.out.2.2 rfl).2.2 (by decide)
theorem Ev{w:ag}{B:HB}{s:HS}{X:aj}(h:cz w B s X){a:Int}(ha:bX a)(hm:a∉nI (jL s.aV)) :
 aJ prog 191 #[eU B,vI a] w λe w'=>e=.returned (vI a)/\Calm w w':=by
 have hh:=iB h a ha;rw[decide_eq_false hm] at hh;replace hh:=hid hh;clear h hm;go_in;go_wp2_with fail
 refine(hh.out).mono ?_;rintro e w1 ⟨rfl,c1⟩;go_wp2;go_ret;exact⟨rfl,c1⟩
structure dB(s:HS)(i a:Nat)(o:Ob)(m:Option Nat):Prop where
 lt:i<s.aV.length
 get:s.aV.getD i oo=(a,o,m)
theorem dB.mem{s:HS}{i a:Nat}{o:Ob}{m:Option Nat}(c:dB s i a o m):a∈jL s.aV:=by
 have h1:s.aV[i]'c.lt=(a,o,m):=by have:=c.get;simpa[List.getD,c.lt] using this
 exact List.mem_map.2 ⟨(a,o,m),h1 ▸ List.getElem_mem _,rfl⟩
theorem PO{w:ag}{B:HB}{s:HS}{X:aj}(h:cz w B s X)(hu:s.u=false){i a t:Nat}{o:Ob}(c:dB s i a o (some t))(ha:a<=131072)(hg:mP X a t) :
 aJ prog 191 #[eU B,vI a] w λe w'=>e=.returned (vI (t:Nat))/\Calm w w':=by
 have hh:=iB h a ⟨by omega,by omega⟩;rw[decide_eq_true (gV.2 c.mem)] at hh;replace hh:=hid hh;have hc:=h.cs;simp only[aN,hu,cond_false,cond_true] at hc;replace hc:=hid hc;have H:=hid h;have aM:=h.jW;clear h;obtain⟨T,hT⟩:=ao ((s.top:Nat):Int);rw[hT] at hc;clear hT;go_in;go_wp2_with fail
 refine(hh.out).mono ?_;rintro e w1 ⟨rfl,c1⟩;have dN:=hc.out.calm c1;have G6:=hid (H.out.ar.calm c1);have y0:=(dN 0 _ rfl).1;have y9:=(dN 9 _ rfl).1;have y1:=(dN 1 _ rfl).1;have y2:=(dN 2 _ rfl).1;have y3:=(dN 3 _ rfl).1;have mq:=c1.size;have EO:B.hp≠w1.heap.size:=by omega
 have Gm:w1.heap.size≠B.hp:=by omega
 have dJ:=dN.alloc (.cells #[vI 0,vI 0,vI 0] 150);have x9:=(dJ 9 _ rfl).1;have x1:=(dJ 1 _ rfl).1;have x2:=(dJ 2 _ rfl).1;have x3:=(dJ 3 _ rfl).1;replace mq:=hid mq;clear hc hh dN dJ;go_wp2_with fail
 go_region
 generalize fI:World.drew _=w2;have c2:Calm w1 w2:=by rw[<-fI];exact(ah.alloc _).drew
 have o2:af w2 w1.heap.size [vI 1,vI s.n,vI T]:=by rw[<-fI];exact(af.new w1 _ _).drew
 have lt2:=o2.lt (by simp);generalize w1.heap.size=g1 at *;have z0:=c2.cellAt y0 id;obtain⟨a0,a1,a2⟩:=af.mI o2;have cp:=hid (λW (cw:Calm w2 W)=>xK W B.ap B.ac X ((G6.out.calm c2).calm cw) a t hg (1) s.n T);replace o2:=hid o2;clear fI y0 y9 y1 y2 y3 EO Gm x9 x1 x2 x3;have Oi:g1≠w2.heap.size:=by omega
 have SK:w2.heap.size≠g1:=by omega
 have hhp:B.hp<w2.heap.size:=by have:=mq.out;have:=c2.size;omega
 have ne5:B.hp≠w2.heap.size:=by omega
 have ne6:w2.heap.size≠B.hp:=by omega
 go_upto_region 4 with fail
 go_cut [6,7,8] (λs6 s7 s8 wx=>∃g,s6 = bw g/\s7=vI t/\s8=vI 0/\af wx g [vI 1,vI s.n,vI T]/\Calm w2 wx/\w2.heap.size<=g)
 case first=>
  go_region_held3 (λw'=>w'.cell? ⟨B.hp,0,none⟩=some (eL B.ap)/\w'.cell? ⟨g1,0,none⟩=some (vI 1)/\w'.cell? ⟨g1,1,none⟩=some (vI s.n)/\w'.cell? ⟨g1,2,none⟩=some (vI T)) (go_keep)
   (first|(go_at_call 230;refine(cp.out _ (by first|exact ah|exact ah.drew|exact(ah.drew).alloc _|exact(ah.alloc _).drew)).mono ?_;rintro e w5 ⟨rfl,c5⟩;have ka:Calm w2 w5:=Fr.trans (by first|exact ah|exact ah.drew|exact(ah.drew).alloc _|exact(ah.alloc _).drew) c5;have q0:=ka.cellAt z0 id;have q1:=ka.cellAt a0 id;have q2:=ka.cellAt a1 id;have q3:=ka.cellAt a2 id;try (have ow:af w5 w2.heap.size [vI 0,vI 0,vI 0]:=(by first|exact(af.at _ [vI 0,vI 0,vI 0] 150 w2.heap.size rfl).calm c5|exact((af.at _ [vI 0,vI 0,vI 0] 150 w2.heap.size rfl).calm (ah.drew)).calm c5);have m0:=(ow 0 _ rfl).1;have m1:=(ow 1 _ rfl).1;have m2:=(ow 2 _ rfl).1;have n0:=(ow 0 _ rfl).2;have n1:=(ow 1 _ rfl).2;have n2:=(ow 2 _ rfl).2)))
  ·go_wp2_with fail
   go_meet;exact⟨w5.heap.size,rfl,rfl,rfl,af.new w5 [vI 1,vI s.n,vI T] _,ka.alloc _,ka.size⟩
  ·go_wp2_with fail
   go_meet;have o4:=ow.xr (vI 1) (vI s.n) (vI T);exact⟨w2.heap.size,rfl,rfl,rfl,o4.1,ka.join o4.2 (λj hj (e:j=w2.heap.size)=>absurd hj (by omega)),aD _⟩
 case rest=>
  obtain⟨g,rfl,rfl,rfl,og,cx,hg⟩:=hcut;have b0:=(o2.out.calm cx 0 _ rfl).1;have b1:=(o2.out.calm cx 1 _ rfl).1;have b2:=(o2.out.calm cx 2 _ rfl).1;obtain⟨d0,d1,d2⟩:=af.mI og;go_wp2;go_ret;exact⟨rfl,(c1.trans c2).trans cx⟩
theorem PR{w:ag}{B:HB}{s:HS}{X:aj}(h:cz w B s X)(hu:s.u=true){i a t:Nat}{o:Ob}(c:dB s i a o (some t))(ha:a<=131072)(hg:mP X a t) :
 aJ prog 191 #[eU B,vI a] w λe w'=>e=.returned (vI (t:Nat))/\Calm w w':=by
 have hh:=iB h a ⟨by omega,by omega⟩;rw[decide_eq_true (gV.2 c.mem)] at hh;replace hh:=hid hh;have hc:=h.cs;simp only[aN,hu,cond_false,cond_true] at hc;replace hc:=hid hc;have H:=hid h;have aM:=h.jW;clear h;obtain⟨T,hT⟩:=ao ((s.top:Nat):Int);rw[hT] at hc;clear hT;go_in;go_wp2_with fail
 refine(hh.out).mono ?_;rintro e w1 ⟨rfl,c1⟩;have dN:=hc.out.calm c1;have G6:=hid (H.out.ar.calm c1);have y0:=(dN 0 _ rfl).1;have y9:=(dN 9 _ rfl).1;have y1:=(dN 4 _ rfl).1;have y2:=(dN 5 _ rfl).1;have y3:=(dN 6 _ rfl).1;have mq:=c1.size;have EO:B.hp≠w1.heap.size:=by omega
 have Gm:w1.heap.size≠B.hp:=by omega
 have dJ:=dN.alloc (.cells #[vI 0,vI 0,vI 0] 150);have x9:=(dJ 9 _ rfl).1;have x1:=(dJ 4 _ rfl).1;have x2:=(dJ 5 _ rfl).1;have x3:=(dJ 6 _ rfl).1;replace mq:=hid mq;clear hc hh dN dJ;go_wp2_with fail
 go_region
 generalize fI:World.drew _=w2;have c2:Calm w1 w2:=by rw[<-fI];exact(ah.alloc _).drew
 have o2:af w2 w1.heap.size [vI (1+s.n),vI s.n,vI T]:=by rw[<-fI];exact(af.new w1 _ _).drew
 have lt2:=o2.lt (by simp);generalize w1.heap.size=g1 at *;have z0:=c2.cellAt y0 id;obtain⟨a0,a1,a2⟩:=af.mI o2;have cp:=hid (λW (cw:Calm w2 W)=>xK W B.ap B.ac X ((G6.out.calm c2).calm cw) a t hg (1+s.n) s.n T);replace o2:=hid o2;clear fI y0 y9 y1 y2 y3 EO Gm x9 x1 x2 x3;have Oi:g1≠w2.heap.size:=by omega
 have SK:w2.heap.size≠g1:=by omega
 have hhp:B.hp<w2.heap.size:=by have:=mq.out;have:=c2.size;omega
 have ne5:B.hp≠w2.heap.size:=by omega
 have ne6:w2.heap.size≠B.hp:=by omega
 go_upto_region 4 with fail
 go_cut [6,7,8] (λs6 s7 s8 wx=>∃g,s6 = bw g/\s7=vI t/\s8=vI 0/\af wx g [vI (1+s.n),vI s.n,vI T]/\Calm w2 wx/\w2.heap.size<=g)
 case first=>
  go_region_held3 (λw'=>w'.cell? ⟨B.hp,0,none⟩=some (eL B.ap)/\w'.cell? ⟨g1,0,none⟩=some (vI (1+s.n))/\w'.cell? ⟨g1,1,none⟩=some (vI s.n)/\w'.cell? ⟨g1,2,none⟩=some (vI T)) (go_keep)
   (first|(go_at_call 230;refine(cp.out _ (by first|exact ah|exact ah.drew|exact(ah.drew).alloc _|exact(ah.alloc _).drew)).mono ?_;rintro e w5 ⟨rfl,c5⟩;have ka:Calm w2 w5:=Fr.trans (by first|exact ah|exact ah.drew|exact(ah.drew).alloc _|exact(ah.alloc _).drew) c5;have q0:=ka.cellAt z0 id;have q1:=ka.cellAt a0 id;have q2:=ka.cellAt a1 id;have q3:=ka.cellAt a2 id;try (have ow:af w5 w2.heap.size [vI 0,vI 0,vI 0]:=(by first|exact(af.at _ [vI 0,vI 0,vI 0] 150 w2.heap.size rfl).calm c5|exact((af.at _ [vI 0,vI 0,vI 0] 150 w2.heap.size rfl).calm (ah.drew)).calm c5);have m0:=(ow 0 _ rfl).1;have m1:=(ow 1 _ rfl).1;have m2:=(ow 2 _ rfl).1;have n0:=(ow 0 _ rfl).2;have n1:=(ow 1 _ rfl).2;have n2:=(ow 2 _ rfl).2)))
  ·go_wp2_with fail
   go_meet;exact⟨w5.heap.size,rfl,rfl,rfl,af.new w5 [vI (1+s.n),vI s.n,vI T] _,ka.alloc _,ka.size⟩
  ·go_wp2_with fail
   go_meet;have o4:=ow.xr (vI (1+s.n)) (vI s.n) (vI T);exact⟨w2.heap.size,rfl,rfl,rfl,o4.1,ka.join o4.2 (λj hj (e:j=w2.heap.size)=>absurd hj (by omega)),aD _⟩
 case rest=>
  obtain⟨g,rfl,rfl,rfl,og,cx,hg⟩:=hcut;have b0:=(o2.out.calm cx 0 _ rfl).1;have b1:=(o2.out.calm cx 1 _ rfl).1;have b2:=(o2.out.calm cx 2 _ rfl).1;obtain⟨d0,d1,d2⟩:=af.mI og;go_wp2;go_ret;exact⟨rfl,(c1.trans c2).trans cx⟩
theorem Cz{s:HS}{i a:Nat}{o:Ob}(c:dB s i a o none):(s.move i).top=s.top+o.took:=by
 show s.base s.u+bZ (s.cur++[(s.top,(s.aV.getD i oo).2.1)])=_;rw[gW,c.get];show s.base s.u+(bZ s.cur+o.took)=s.base s.u+bZ s.cur+o.took;omega
theorem yp{s:HS}{i a:Nat}{o:Ob}(c:dB s i a o none):(s.move i).hZ=s.hZ:=by
 show s.base (!s.u)+jA (s.aV.set i _)=_;rw[nQ _ _ _ c.lt (by rw[c.get])];rfl
theorem m_{s:HS}{i a:Nat}{o:Ob}(c:dB s i a o none):jL (s.move i).aV=jL s.aV:=by
 show(s.aV.set i ((s.aV.getD i oo).1,_)).map (·.1)=s.aV.map (·.1);rw[List.map_set];apply List.ext_getElem (by simp);intro j h1 h2;rw[List.getElem_set];split
 ·rename_i e;subst e;simp[List.getD,c.lt]
 ·rfl
theorem Cy{s:HS}{i a:Nat}{o:Ob}(c:dB s i a o none):nI (dL (s.move i).cur)=nI (dL s.cur)++[((s.top:Nat):Int)]:=by
 show nI ((s.cur++[(s.top,(s.aV.getD i oo).2.1)]).map (·.1))=_;simp[dL]
theorem PV{w:ag}{B:HB}{s:HS}{X:aj}(h:cz w B s X)(hu:s.u=false){i a:Nat}{o:Ob}(c:dB s i a o none)(ha:a<=131072) :
 aJ prog 191 #[eU B,vI a] w λe w'=>e=.returned (vI (s.top:Nat))/\∃B' X',cz w' B' (s.move i) X'/\bz w B w' B':=by
 have hh:=iB h a ⟨by omega,by omega⟩;rw[decide_eq_true (gV.2 c.mem)] at hh;replace hh:=hid hh;obtain⟨zR,mat,LZ,CA⟩:=h.rep.move c.lt c.get;have fR:=nM h.rep;have lU:=h.rep.n2;have Vo:=h.rep.room;have mf:=h.rep.gh;have sS:=h.rep.sep;obtain⟨DE,Tb,QX,Wt⟩:=Ob.bF mat.ok;have bs:=jQ s;have eb:((s.base s.u:Nat):Int)=1:=by rw[(bs.2 hu).1];rfl
 have lG:ju (o.size:Int)<=s.n-((s.top:Nat)-(s.base s.u:Nat):Int):=by rw[<-DE];omega
 rw[eb] at lG fR;have et:=Cz c;have eo:=yp c;have ep:=Cy c;have hc:=h.cs;simp only[aN,hu,cond_false,cond_true] at hc;have H:=hid h;have aM:=h.jW;have hX:s.top+o.size<=X.length:=by omega
 have Y4:1<=s.top:=by have:=sS;unfold HS.top;omega
 have Y5:s.top<=65536:=by omega
 obtain⟨T,hT⟩:=ao s.top;obtain⟨R,hR⟩:=ao o.took;obtain⟨O,hO⟩:=ao (eQ s.aV);obtain⟨O',Jn⟩:=ao (eQ (s.move i).aV);rw[hR,hO,Jn] at CA;rw[hT,hR] at et;rw[hT] at hc fR lG zR ep hX Y4 Y5 ⊢;rw[hO] at hc;rw[hR] at DE QX Wt;have Ka:=λW (q:Ar W B.ap B.ac X)=>Bl W B.ap B.ac X q a o mat (1) s.n T fR lG Y4 hX;rw[<-DE] at Ka;replace Ka:=hid Ka;have LC:=hid (λW=>j9 (1) s.n T W fR);have L_:zU (1) s.n (T+R:Int):=by obtain⟨k1,k2,k3,k4,k5,k6⟩:=fR;exact⟨k1,k2,k3,k4,by omega,by omega⟩
 have EK:=hid (λW=>j9 (1) s.n (T+R) W L_)
 have fA:IntKind.i64.wrap (((T:Int)+R-1)-(T-1))=(R:Int):=by
  rw[show((T:Int)+R-1)-(T-1)=R by omega];exact IntWalk.i64_in _ (by omega)
 have hOb:O<=16384:=by omega
 have nL:IntKind.i64.wrap ((O:Int)-R)=(O':Int):=by
  rw[show(O:Int)-R=O' by omega];exact IntWalk.i64_in _ (by omega)
 have Kv:(((T:Int)+R)==(T:Int))=false:=by simp;omega
 obtain⟨U1,Y6⟩:=ao ((T:Int)-1);obtain⟨U2,Y7⟩:=ao ((T:Int)+R-1);rw[Y6] at LC fA;rw[Y7] at EK fA;replace fA:=hid fA;replace nL:=hid nL;have hR4:Hid (4<=R):=QX;replace Kv:=hid Kv;replace hc:=hid hc;replace hT:=hid hT;replace Jn:=hid Jn;replace et:=hid et;replace zR:=hid zR;clear h Y6 Y7 bs eb lG Vo mf sS DE Tb QX Wt LZ CA fR L_ lU hOb;go_in;go_wp2_with fail
 refine(hh.out).mono ?_;rintro e w1 ⟨rfl,c1⟩;have dN:=hc.out.calm c1;have G6:=hid (H.out.ar.calm c1);have y0:=(dN 0 _ rfl).1;have y9:=(dN 9 _ rfl).1;have y1:=(dN 1 _ rfl).1;have y2:=(dN 2 _ rfl).1;have y3:=(dN 3 _ rfl).1;have mq:=c1.size;have EO:B.hp≠w1.heap.size:=by omega
 have Gm:w1.heap.size≠B.hp:=by omega
 have dJ:=dN.alloc (.cells #[vI 0,vI 0,vI 0] 150);have x9:=(dJ 9 _ rfl).1;have x1:=(dJ 1 _ rfl).1;have x2:=(dJ 2 _ rfl).1;have x3:=(dJ 3 _ rfl).1;replace mq:=hid mq;clear hh dN dJ;go_wp2_with fail
 go_region
 generalize fI:World.drew _=w2;have c2:Calm w1 w2:=by rw[<-fI];exact(ah.alloc _).drew
 have o2:af w2 w1.heap.size [vI 1,vI s.n,vI T]:=by rw[<-fI];exact(af.new w1 _ _).drew
 have lt2:=o2.lt (by simp);generalize w1.heap.size=g1 at *;have z0:=c2.cellAt y0 id;obtain⟨a0,a1,a2⟩:=af.mI o2;have cp:=hid (λW (cw:Calm w2 W)=>Ka.out W ((G6.out.calm c2).calm cw));have By:=H.out.lt _ (.inr (.inr (.inl rfl)));have Vb:=H.out.kF;have zy:g1≠B.ac:=by have:=mq.out;omega
 have hca:B.ac<w2.heap.size:=by have:=mq.out;have:=c2.size;omega
 replace o2:=hid o2;clear fI y0 y9 y1 y2 y3 x9 x1 x2 x3;have Oi:g1≠w2.heap.size:=by omega
 have SK:w2.heap.size≠g1:=by omega
 have hhp:B.hp<w2.heap.size:=by have:=mq.out;have:=c2.size;omega
 have ne5:B.hp≠w2.heap.size:=by omega
 have ne6:w2.heap.size≠B.hp:=by omega
 have k2:=hid (c1.trans c2);go_upto_region 4 with fail
 go_cut [6,7,8] (λs6 s7 s8 wx=>∃g,s6 = bw g/\s7=vI T/\s8=vI 0/\af wx g [vI 1,vI s.n,vI (T+R)]/\Ar wx B.ap B.ac (Hk X a T o.size)/\Fr (λk=>k=B.ac) w2 wx/\w2.heap.size<=g)
 case first=>
  go_region_held3 (λw'=>w'.cell? ⟨B.hp,0,none⟩=some (eL B.ap)/\w'.cell? ⟨g1,0,none⟩=some (vI 1)/\w'.cell? ⟨g1,1,none⟩=some (vI s.n)/\w'.cell? ⟨g1,2,none⟩=some (vI T)) (go_keep)
   (first|(go_at_call 230;refine(cp.out _ (by first|exact ah|exact ah.drew|exact(ah.drew).alloc _|exact(ah.alloc _).drew)).mono ?_;rintro e w5 ⟨rfl,G7,c5⟩;have ka:Fr (λk=>k=B.ac) w2 w5:=Fr.trans (by first|exact ah|exact ah.drew|exact(ah.drew).alloc _|exact(ah.alloc _).drew) c5;have q0:=ka.cellAt z0 Vb;have q1:=ka.cellAt a0 zy;have q2:=ka.cellAt a1 zy;have q3:=ka.cellAt a2 zy;try (have ow:af w5 w2.heap.size [vI 0,vI 0,vI 0]:=(by first|exact(af.at _ [vI 0,vI 0,vI 0] 150 w2.heap.size rfl).fr c5 (by omega)|exact((af.at _ [vI 0,vI 0,vI 0] 150 w2.heap.size rfl).calm (ah.drew)).fr c5 (by omega));have m0:=(ow 0 _ rfl).1;have m1:=(ow 1 _ rfl).1;have m2:=(ow 2 _ rfl).1;have n0:=(ow 0 _ rfl).2;have n1:=(ow 1 _ rfl).2;have n2:=(ow 2 _ rfl).2)))
  ·go_wp2_with fail
   go_meet;exact⟨w5.heap.size,rfl,rfl,rfl,af.new w5 [vI 1,vI s.n,vI (T+R)] _,G7.calm (ah.alloc _),ka.alloc _,ka.size⟩
  ·go_wp2_with fail
   go_meet;have o4:=ow.xr (vI 1) (vI s.n) (vI (T+R));have kI:=H.out.lt _ (.inr (.inl rfl));exact⟨w2.heap.size,rfl,rfl,rfl,o4.1,G7.fr o4.2 (by have:=mq.out;have:=c2.size;omega) (by omega),ka.join o4.2 (λj hj (e:j=w2.heap.size)=>absurd hj (by omega)),aD _⟩
 case rest=>
  obtain⟨g,rfl,rfl,rfl,og,DP,fx,hg⟩:=hcut;have ox:=o2.out.fr fx zy;obtain⟨b0,b1,b2⟩:=af.mI ox;obtain⟨d0,d1,d2⟩:=af.mI og;clear z0 a0 a1 a2;replace Kv:=Kv.out;go_wp2_with fail
  have hwx:=fx.size;have qY:=((hc.out.calm k2.out).fr fx H.out.kF);have rI:=qk qY 11 rfl;have qb0:∀x:a_ wc,x.w.cell? ⟨g1,0,none⟩=some (vI 1):=λx=>x.cell b0;have qb1:∀x:a_ wc,x.w.cell? ⟨g1,1,none⟩=some (vI s.n):=λx=>x.cell b1;have QA:∀x:a_ wc,x.w.cell? ⟨g1,2,none⟩=some (vI T):=λx=>x.cell b2;have qd0:∀x:a_ wc,x.w.cell? ⟨g,0,none⟩=some (vI 1):=λx=>x.cell d0;have qd1:∀x:a_ wc,x.w.cell? ⟨g,1,none⟩=some (vI s.n):=λx=>x.cell d1;have qd2:∀x:a_ wc,x.w.cell? ⟨g,2,none⟩=some (vI (T+R)):=λx=>x.cell d2;replace fA:=fA.out;replace nL:=nL.out;replace qY:=hid qY;replace DP:=hid DP;clear b0 b1 b2 d0 d1 ox;obtain⟨TR,zr⟩:=ao ((T:Int)+R:Int);simp only[zr] at qd2 og EK d2 ⊢;replace zr:=hid zr;clear Kv cp Ka d2;replace og:=hid og;refine bB 12 (by kernel_rfl) (by kernel_rfl) ?_;simp only[List.take_succ_cons,List.take_zero,List.drop_succ_cons,List.drop_zero]
  iterate 5 (go_big_quiet_step (fail))
  go_big_quiet_step ((go_at_call 206;exact Calls.dC (EK.out _)))
  go_big_quiet_step (fail)
  go_big_quiet_step ((go_at_call 206;exact Calls.dC (LC.out _)))
  repeat (go_big_quiet_step (fail))
  refine wpQuiet_nil ?_;intro w5 hw';have c5:=a_.out hw';clear hw' rI qb0 qb1 QA qd0 qd1 qd2;replace qY:=qY.out.calm c5;have u1:=(qY 11 _ rfl).1;have v1:=(qY 11 _ rfl).2;replace og:=og.out.calm c5;obtain⟨d0,d1,d2⟩:=af.mI og;have KR:g≠B.hp:=by omega
  have UW:B.hp≠g:=by omega
  replace qY:=hid qY;replace DP:=hid (DP.out.calm c5);go_wp2_with fail
  have f5:Fr (λk=>k=B.hp\/k=B.ac) w w5:=((Calm.any k2.out).trans (fx.mono (λk _ e=>.inr e))).trans (Calm.any c5);have H7:=qY.out.set 11 (vI O') (by simp);have f7:=f5.setCell (p:=⟨B.hp,11,none⟩) (.inl (.inl rfl)) (vI O');have G8:=DP.out.fr ((Fr.refl (λk=>k=B.hp) w5).setCell (p:=⟨B.hp,11,none⟩) (.inl rfl) (vI O')) (Ne.symm H.out.cT) (Ne.symm H.out.kF);clear qY DP f5 u1 v1 d0 d1 d2 og;generalize World.setCell w5 _ _=w7 at *;simp only[iz,jk] at H7;have rD:=(H.out.none_ B.v0 (by simp[HB.vs]));have r7:=H.out.r0.dw f7 (by rintro k hk (e|e);exact rD.1 (e ▸ hk);exact rD.2.2 (e ▸ hk));simp only[l0,hu,cond_false,cond_true] at r7;have jq:=H.out.rep.nG.1;refine(GL H7 r7 rD.1 (by simp;omega) _ _ _ _).mono ?_;rintro e w8 ⟨rfl,v',H8,r8,f8,n8⟩;simp only[iz,jk] at H8
  have uA:aN { B with v0:=v' } (s.move i)=[eL B.ap,vI 1,vI s.n,vI TR,vI (1+s.n),vI s.n,vI s.hZ,v',B.v1,vI 0,.bool s.mv,vI O',vI s.scan,vI s.ser,B.vw,B.vf]:=by
   have u1:(s.move i).u=false:=hu;have e2:(((s.move i).top:Nat):Int)=TR:=by rw[et.out];push_cast;exact zr.out
   have e3:eQ (s.move i).aV=O':=Jn.out;simp only[aN,u1,cond_false,cond_true,e2,e3,eo];rfl
  obtain⟨hA,hK⟩:=H.out.GA hu (s':=s.move i) (X':=Hk X a T o.size) ((f7.mono (T:=λk=>k=B.hp\/k=B.ac\/ay B.v0 k) (λk _ e=>e.elim .inl (λe=>.inr (.inl e)))).trans (f8.mono (λk _ e=>e.elim .inl (λe=>.inr (.inr e)))))
   (by rw[uA];exact H8) (G8.fr f8 (by rintro (e|e);exact H.out.cT e.symm;exact rD.2.1 e) (by rintro (e|e);exact H.out.kF e.symm;exact rD.2.2 e)) (by rw[ep];exact r8) hu (m_ c) rfl rfl zR.out
   (λk hk=>(n8 k hk).imp id (λe=>by have:=f7.size;omega))
  replace hA:=hid hA;replace hK:=hid hK;clear H8 r8 f8 n8 H7 f7 G8 r7 uA rD jq;go_wp2;go_ret;exact⟨rfl,_,_,hA.out,hK.out⟩
theorem PW{w:ag}{B:HB}{s:HS}{X:aj}(h:cz w B s X)(hu:s.u=true){i a:Nat}{o:Ob}(c:dB s i a o none)(ha:a<=131072) :
 aJ prog 191 #[eU B,vI a] w λe w'=>e=.returned (vI (s.top:Nat))/\∃B' X',cz w' B' (s.move i) X'/\bz w B w' B':=by
 have hh:=iB h a ⟨by omega,by omega⟩;rw[decide_eq_true (gV.2 c.mem)] at hh;replace hh:=hid hh;obtain⟨zR,mat,LZ,CA⟩:=h.rep.move c.lt c.get;have fR:=nM h.rep;have lU:=h.rep.n2;have Vo:=h.rep.room;have mf:=h.rep.gh;have sS:=h.rep.sep;obtain⟨DE,Tb,QX,Wt⟩:=Ob.bF mat.ok;have bs:=jQ s;have eb:((s.base s.u:Nat):Int)=1+s.n:=by rw[(bs.1 hu).1];push_cast;rfl
 have lG:ju (o.size:Int)<=s.n-((s.top:Nat)-(s.base s.u:Nat):Int):=by rw[<-DE];omega
 rw[eb] at lG fR;have et:=Cz c;have eo:=yp c;have ep:=Cy c;have hc:=h.cs;simp only[aN,hu,cond_false,cond_true] at hc;have H:=hid h;have aM:=h.jW;have hX:s.top+o.size<=X.length:=by omega
 have Y4:1<=s.top:=by have:=sS;unfold HS.top;omega
 have Y5:s.top<=65536:=by omega
 obtain⟨T,hT⟩:=ao s.top;obtain⟨R,hR⟩:=ao o.took;obtain⟨O,hO⟩:=ao (eQ s.aV);obtain⟨O',Jn⟩:=ao (eQ (s.move i).aV);rw[hR,hO,Jn] at CA;rw[hT,hR] at et;rw[hT] at hc fR lG zR ep hX Y4 Y5 ⊢;rw[hO] at hc;rw[hR] at DE QX Wt;have Ka:=λW (q:Ar W B.ap B.ac X)=>Bl W B.ap B.ac X q a o mat (1+s.n) s.n T fR lG Y4 hX;rw[<-DE] at Ka;replace Ka:=hid Ka;have LC:=hid (λW=>j9 (1+s.n) s.n T W fR);have L_:zU (1+s.n) s.n (T+R:Int):=by obtain⟨k1,k2,k3,k4,k5,k6⟩:=fR;exact⟨k1,k2,k3,k4,by omega,by omega⟩
 have EK:=hid (λW=>j9 (1+s.n) s.n (T+R) W L_)
 have fA:IntKind.i64.wrap (((T:Int)+R-(1+s.n))-(T-(1+s.n)))=(R:Int):=by
  rw[show((T:Int)+R-(1+s.n))-(T-(1+s.n))=R by omega];exact IntWalk.i64_in _ (by omega)
 have hOb:O<=16384:=by omega
 have nL:IntKind.i64.wrap ((O:Int)-R)=(O':Int):=by
  rw[show(O:Int)-R=O' by omega];exact IntWalk.i64_in _ (by omega)
 have Kv:(((T:Int)+R)==(T:Int))=false:=by simp;omega
 obtain⟨U1,Y6⟩:=ao ((T:Int)-(1+s.n));obtain⟨U2,Y7⟩:=ao ((T:Int)+R-(1+s.n));rw[Y6] at LC fA;rw[Y7] at EK fA;replace fA:=hid fA;replace nL:=hid nL;have hR4:Hid (4<=R):=QX;replace Kv:=hid Kv;replace hc:=hid hc;replace hT:=hid hT;replace Jn:=hid Jn;replace et:=hid et;replace zR:=hid zR;clear h Y6 Y7 bs eb lG Vo mf sS DE Tb QX Wt LZ CA fR L_ lU hOb;go_in;go_wp2_with fail
 refine(hh.out).mono ?_;rintro e w1 ⟨rfl,c1⟩;have dN:=hc.out.calm c1;have G6:=hid (H.out.ar.calm c1);have y0:=(dN 0 _ rfl).1;have y9:=(dN 9 _ rfl).1;have y1:=(dN 4 _ rfl).1;have y2:=(dN 5 _ rfl).1;have y3:=(dN 6 _ rfl).1;have mq:=c1.size;have EO:B.hp≠w1.heap.size:=by omega
 have Gm:w1.heap.size≠B.hp:=by omega
 have dJ:=dN.alloc (.cells #[vI 0,vI 0,vI 0] 150);have x9:=(dJ 9 _ rfl).1;have x1:=(dJ 4 _ rfl).1;have x2:=(dJ 5 _ rfl).1;have x3:=(dJ 6 _ rfl).1;replace mq:=hid mq;clear hh dN dJ;go_wp2_with fail
 go_region
 generalize fI:World.drew _=w2;have c2:Calm w1 w2:=by rw[<-fI];exact(ah.alloc _).drew
 have o2:af w2 w1.heap.size [vI (1+s.n),vI s.n,vI T]:=by rw[<-fI];exact(af.new w1 _ _).drew
 have lt2:=o2.lt (by simp);generalize w1.heap.size=g1 at *;have z0:=c2.cellAt y0 id;obtain⟨a0,a1,a2⟩:=af.mI o2;have cp:=hid (λW (cw:Calm w2 W)=>Ka.out W ((G6.out.calm c2).calm cw));have By:=H.out.lt _ (.inr (.inr (.inl rfl)));have Vb:=H.out.kF;have zy:g1≠B.ac:=by have:=mq.out;omega
 have hca:B.ac<w2.heap.size:=by have:=mq.out;have:=c2.size;omega
 replace o2:=hid o2;clear fI y0 y9 y1 y2 y3 x9 x1 x2 x3;have Oi:g1≠w2.heap.size:=by omega
 have SK:w2.heap.size≠g1:=by omega
 have hhp:B.hp<w2.heap.size:=by have:=mq.out;have:=c2.size;omega
 have ne5:B.hp≠w2.heap.size:=by omega
 have ne6:w2.heap.size≠B.hp:=by omega
 have k2:=hid (c1.trans c2);go_upto_region 4 with fail
 go_cut [6,7,8] (λs6 s7 s8 wx=>∃g,s6 = bw g/\s7=vI T/\s8=vI 0/\af wx g [vI (1+s.n),vI s.n,vI (T+R)]/\Ar wx B.ap B.ac (Hk X a T o.size)/\Fr (λk=>k=B.ac) w2 wx/\w2.heap.size<=g)
 case first=>
  go_region_held3 (λw'=>w'.cell? ⟨B.hp,0,none⟩=some (eL B.ap)/\w'.cell? ⟨g1,0,none⟩=some (vI (1+s.n))/\w'.cell? ⟨g1,1,none⟩=some (vI s.n)/\w'.cell? ⟨g1,2,none⟩=some (vI T)) (go_keep)
   (first|(go_at_call 230;refine(cp.out _ (by first|exact ah|exact ah.drew|exact(ah.drew).alloc _|exact(ah.alloc _).drew)).mono ?_;rintro e w5 ⟨rfl,G7,c5⟩;have ka:Fr (λk=>k=B.ac) w2 w5:=Fr.trans (by first|exact ah|exact ah.drew|exact(ah.drew).alloc _|exact(ah.alloc _).drew) c5;have q0:=ka.cellAt z0 Vb;have q1:=ka.cellAt a0 zy;have q2:=ka.cellAt a1 zy;have q3:=ka.cellAt a2 zy;try (have ow:af w5 w2.heap.size [vI 0,vI 0,vI 0]:=(by first|exact(af.at _ [vI 0,vI 0,vI 0] 150 w2.heap.size rfl).fr c5 (by omega)|exact((af.at _ [vI 0,vI 0,vI 0] 150 w2.heap.size rfl).calm (ah.drew)).fr c5 (by omega));have m0:=(ow 0 _ rfl).1;have m1:=(ow 1 _ rfl).1;have m2:=(ow 2 _ rfl).1;have n0:=(ow 0 _ rfl).2;have n1:=(ow 1 _ rfl).2;have n2:=(ow 2 _ rfl).2)))
  ·go_wp2_with fail
   go_meet;exact⟨w5.heap.size,rfl,rfl,rfl,af.new w5 [vI (1+s.n),vI s.n,vI (T+R)] _,G7.calm (ah.alloc _),ka.alloc _,ka.size⟩
  ·go_wp2_with fail
   go_meet;have o4:=ow.xr (vI (1+s.n)) (vI s.n) (vI (T+R));have kI:=H.out.lt _ (.inr (.inl rfl));exact⟨w2.heap.size,rfl,rfl,rfl,o4.1,G7.fr o4.2 (by have:=mq.out;have:=c2.size;omega) (by omega),ka.join o4.2 (λj hj (e:j=w2.heap.size)=>absurd hj (by omega)),aD _⟩
 case rest=>
  obtain⟨g,rfl,rfl,rfl,og,DP,fx,hg⟩:=hcut;have ox:=o2.out.fr fx zy;obtain⟨b0,b1,b2⟩:=af.mI ox;obtain⟨d0,d1,d2⟩:=af.mI og;clear z0 a0 a1 a2;replace Kv:=Kv.out;go_wp2_with fail
  have hwx:=fx.size;have qY:=((hc.out.calm k2.out).fr fx H.out.kF);have rI:=qk qY 11 rfl;have qb0:∀x:a_ wc,x.w.cell? ⟨g1,0,none⟩=some (vI (1+s.n)):=λx=>x.cell b0;have qb1:∀x:a_ wc,x.w.cell? ⟨g1,1,none⟩=some (vI s.n):=λx=>x.cell b1;have QA:∀x:a_ wc,x.w.cell? ⟨g1,2,none⟩=some (vI T):=λx=>x.cell b2;have qd0:∀x:a_ wc,x.w.cell? ⟨g,0,none⟩=some (vI (1+s.n)):=λx=>x.cell d0;have qd1:∀x:a_ wc,x.w.cell? ⟨g,1,none⟩=some (vI s.n):=λx=>x.cell d1;have qd2:∀x:a_ wc,x.w.cell? ⟨g,2,none⟩=some (vI (T+R)):=λx=>x.cell d2;replace fA:=fA.out;replace nL:=nL.out;replace qY:=hid qY;replace DP:=hid DP;clear b0 b1 b2 d0 d1 ox;obtain⟨TR,zr⟩:=ao ((T:Int)+R:Int);simp only[zr] at qd2 og EK d2 ⊢;replace zr:=hid zr;clear Kv cp Ka d2;replace og:=hid og;refine bB 12 (by kernel_rfl) (by kernel_rfl) ?_;simp only[List.take_succ_cons,List.take_zero,List.drop_succ_cons,List.drop_zero]
  iterate 5 (go_big_quiet_step (fail))
  go_big_quiet_step ((go_at_call 206;exact Calls.dC (EK.out _)))
  go_big_quiet_step (fail)
  go_big_quiet_step ((go_at_call 206;exact Calls.dC (LC.out _)))
  repeat (go_big_quiet_step (fail))
  refine wpQuiet_nil ?_;intro w5 hw';have c5:=a_.out hw';clear hw' rI qb0 qb1 QA qd0 qd1 qd2;replace qY:=qY.out.calm c5;have u1:=(qY 11 _ rfl).1;have v1:=(qY 11 _ rfl).2;replace og:=og.out.calm c5;obtain⟨d0,d1,d2⟩:=af.mI og;have KR:g≠B.hp:=by omega
  have UW:B.hp≠g:=by omega
  replace qY:=hid qY;replace DP:=hid (DP.out.calm c5);go_wp2_with fail
  have f5:Fr (λk=>k=B.hp\/k=B.ac) w w5:=((Calm.any k2.out).trans (fx.mono (λk _ e=>.inr e))).trans (Calm.any c5);have H7:=qY.out.set 11 (vI O') (by simp);have f7:=f5.setCell (p:=⟨B.hp,11,none⟩) (.inl (.inl rfl)) (vI O');have G8:=DP.out.fr ((Fr.refl (λk=>k=B.hp) w5).setCell (p:=⟨B.hp,11,none⟩) (.inl rfl) (vI O')) (Ne.symm H.out.cT) (Ne.symm H.out.kF);clear qY DP f5 u1 v1 d0 d1 d2 og;generalize World.setCell w5 _ _=w7 at *;simp only[iz,jk] at H7;have rD:=(H.out.none_ B.v1 (by simp[HB.vs]));have r7:=H.out.r1.dw f7 (by rintro k hk (e|e);exact rD.1 (e ▸ hk);exact rD.2.2 (e ▸ hk));simp only[l1,hu,cond_false,cond_true] at r7;have jq:=H.out.rep.nG.1;refine(GM H7 r7 rD.1 (by simp;omega) _ _ _ _).mono ?_;rintro e w8 ⟨rfl,v',H8,r8,f8,n8⟩;simp only[iz,jk] at H8
  have uA:aN { B with v1:=v' } (s.move i)=[eL B.ap,vI 1,vI s.n,vI s.hZ,vI (1+s.n),vI s.n,vI TR,B.v0,v',vI 1,.bool s.mv,vI O',vI s.scan,vI s.ser,B.vw,B.vf]:=by
   have u1:(s.move i).u=true:=hu;have e2:(((s.move i).top:Nat):Int)=TR:=by rw[et.out];push_cast;exact zr.out
   have e3:eQ (s.move i).aV=O':=Jn.out;simp only[aN,u1,cond_false,cond_true,e2,e3,eo];rfl
  obtain⟨hA,hK⟩:=H.out.GB hu (s':=s.move i) (X':=Hk X a T o.size) ((f7.mono (T:=λk=>k=B.hp\/k=B.ac\/ay B.v1 k) (λk _ e=>e.elim .inl (λe=>.inr (.inl e)))).trans (f8.mono (λk _ e=>e.elim .inl (λe=>.inr (.inr e)))))
   (by rw[uA];exact H8) (G8.fr f8 (by rintro (e|e);exact H.out.cT e.symm;exact rD.2.1 e) (by rintro (e|e);exact H.out.kF e.symm;exact rD.2.2 e)) (by rw[ep];exact r8) hu (m_ c) rfl rfl zR.out
   (λk hk=>(n8 k hk).imp id (λe=>by have:=f7.size;omega))
  replace hA:=hid hA;replace hK:=hid hK;clear H8 r8 f8 n8 H7 f7 G8 r7 uA rD jq;go_wp2;go_ret;exact⟨rfl,_,_,hA.out,hK.out⟩
