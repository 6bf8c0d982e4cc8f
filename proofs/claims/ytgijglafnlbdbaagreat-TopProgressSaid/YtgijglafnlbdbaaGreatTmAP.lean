import Derived.Test.YtgijglafnlbdbaaGreatTmAO
set_option linter.all false
set_option maxHeartbeats 4000000
set_option maxRecDepth 8000
namespace Go.Proofs.YtgijglafnlbdbaaGreat
open RowKit Shelf Proofs.Tryz
open Go renaming World->ag,Value->aA,Calls->aJ
section
variable {w:ag}{τ:Nat->Nat}{s q:Nat}{S:aE}
theorem St.Wf(h:St w τ s q S){b:Nat}(hb:ay S.qv b):b≠S.sp:=by
 obtain⟨M,h1,h2,h3⟩:=h;rintro rfl;exact h1.apart (t:=5) (u:=2) (by omega) (by rw[h2.q];exact hb) (by rw[h2.c];rfl)
theorem St.aaP(h:St w τ s q S){t:Nat}(ht:t<S.aW.length){b:Nat}(hb:ay (S.tx t).tv b):b≠(S.tx t).xp:=by
 obtain⟨M,h1,h2,h3⟩:=h;rintro rfl;exact h1.apart (t:=10+8*t+6) (u:=10+8*t) (by omega) (by rw[(h2.x t ht).k];exact hb) (by rw[(h2.x t ht).c];rfl)
theorem Rn.aU{S:aE}{t:Nat}{x':gl}(ht:t<S.aW.length)(h1:x'.live=(S.tx t).live)(h2:x'.start=(S.tx t).start):Rn S (S.aU t x'):=by
 refine⟨λu=>?_,λu=>?_,rfl,rfl⟩
 ·by_cases e:u=t
  ·subst e;rw[show(S.aU u x').tx u=x' from aE.dS ht x'];exact h1
  ·rw[show(S.aU t x').tx u=S.tx u from aE.eJ e x']
 ·by_cases e:u=t
  ·subst e;rw[show(S.aU u x').tx u=x' from aE.dS ht x'];exact h2
  ·rw[show(S.aU t x').tx u=S.tx u from aE.eJ e x']
theorem jB.dE{τ0:Nat->Nat}{R:Int->Int->aE->Prop}{e:Ending}{w':ag}(h:jB w τ0 s q S R e w')(tk:oO w τ τ0):jB w τ s q S R e w':=by
 obtain⟨v,x,h1,h2,h3,gI,S1,k1,k2,k3,k4⟩:=h;exact⟨v,x,h1,h2,h3,gI,S1,k1,k2.dE tk,k3,k4⟩
theorem St.Ta(h:St w τ s q S){w':ag}{g c:Nat}{x:It}{l:List It}(hq:S.qu=x::l)(hv:S.qv=.slice (some ⟨g,0,none⟩) (l.length+1) c)(hr:w'.ownsRow 0 123 2 (.slice (some ⟨g,0,none⟩) l.length c) l.length (l.flatMap iH))(f:Fr (λb=>b=g) w w') :
 ∃aL S',St (w'.setCell ⟨S.sp,4,none⟩ (.slice (some ⟨g,0,none⟩) l.length c)) aL s q S'/\aC w τ (w'.setCell ⟨S.sp,4,none⟩ (.slice (some ⟨g,0,none⟩) l.length c)) aL/\Fix S S'/\S'.tM+1<=q/\(∀k,S'.tx k=S.tx k)/\Rn S S':=by
 have hng:g≠S.sp:=h.Wf (by rw[hv];rfl);have hc:=h.cells;have f2:Fr (λb=>b=S.sp) w' (w'.setCell ⟨S.sp,4,none⟩ (.slice (some ⟨g,0,none⟩) l.length c)):=(Fr.refl (λb=>b=S.sp) w').setCell (p:=⟨S.sp,4,none⟩) (.inl rfl) _;have VC:=h.ok.tt;have e1:S.tM=(l.length+1)+(S.aW.map λx=>x.took.length).sum:=by unfold aE.tM;rw[hq];rfl
 obtain⟨aL,k1,k2⟩:=gR.cD (q':=q) h ⟨.slice (some ⟨g,0,none⟩) l.length c,l,S.next,S.aK,S.dm⟩ ((f.mono (λb _ e=>.inr (by rw[e,hv];rfl))).trans (f2.mono (λb _ e=>.inl e)))
  ((hc.fr f (λe=>hng e.symm)).set 4 _ (by simp[aE.cs])) (aw hr f2 (λb hb e=>by rw[<-e] at hng;exact hng (ay.fJ hb).symm)) (λb hb=>.inl (by rw[ay.fJ hb,hv];rfl))
  (λi hi=>h.ok.qu i (by rw[hq];exact List.mem_cons_of_mem _ hi)) (by show l.length+(S.aW.map λx=>x.took.length).sum<=q;omega) h.ok.nx h.ok.ho h.ok.ve (aD _) (h.ok.iv.cD _ h.ok.iv.ve h.ok.iv.ho)
 exact⟨aL,_,k1,k2,Fix.cD S _,by show(l.length+(S.aW.map λx=>x.took.length).sum)+1<=q;omega,λk=>rfl,⟨λ_=>rfl,λ_=>rfl,rfl,rfl⟩⟩
theorem IZ(h:St w τ s q S)(P3:q<=100000)(fr:∀k,w.heap.size<=k->τ k=1000){t:Nat}(ht:t<S.aW.length)(hl:(S.tx t).live=true){b3:Nat}(o3:Own w b3 0 (pV S.sp))(t3:500<=τ b3) :
 aJ prog 139 #[pV (S.tx t).xp,bw b3] w (jB w τ s q S (WR S (t:Nat) kj)):=by
 have y3:=o3.1;have hx:=h.lW ht;have hc:=h.cells;have c6:=(hc 6 _ rfl).1;have c7:=(hc 7 _ rfl).1;have x0:w.cell? ⟨(S.tx t).xp,0,none⟩=some (vI (t:Int)):=(hx 0 _ rfl).1;have x2:=(hx 2 _ rfl).1;have bad:Hid (¬Lone S t->Hid (∀n,jB w τ s q S (WR S (t:Nat) kj) (.returned (.tuple #[vI 0,vI 141])) (w.drewN n))):=λhb n=>⟨0,141,rfl,by decide,by decide,Nx.calm h (ah.drewN n) ⟨⟨by decide,by decide,by decide⟩,.refl S,by decide,λ_ k ek=>by rw[show k=t by omega];exact hb⟩⟩;have late:Hid ((S.dm:Int)>(S.tx t).start->¬Lone S t):=λhv hl=>by have:=hl.2;have:=h.ok.iv.ve;omega
 by_cases hA:S.aK = -1
 ·have eA:(S.aK != -1)=false:=by simp[hA]
  by_cases hV:(S.dm:Int)>(S.tx t).start
  ·replace bad:=bad.out (late.out hV);go_in;go_wp2_with fail
   go_quiet (fail)
   go_wp2
   go_ret2
   exact bad.out _
  ·go_in;go_wp2_with fail
   go_quiet (fail)
   have kw:Calm w (w.drewN nq):=ah.drewN nq;have h1:=h.calm kw;generalize w.drewN nq=W at *;have hcs:=h1.cells;have yh:=h1.lW ht;have d0:W.cell? ⟨(S.tx t).xp,0,none⟩=some (vI (t:Int)):=(yh 0 _ rfl).1;have d6:=(hcs 6 _ rfl).1;have f6:=(hcs 6 _ rfl).2;have z3:=kw.cellAt y3 id;go_wp2_with fail
   refine aO 5 5 (λw'=>Calm W w') (by kernel_rfl) (by kernel_rfl) (ah.drew) ?_;refine ae (pV S.sp) rfl (λw' hw'=>?_) ak ?_
   ·have e1:=hw'.cellAt z3 id;simp[go_sem,e1]
   refine ae (pV (S.tx t).xp) rfl (λw' hw'=>?_) ak ?_
   ·simp[go_sem]
   refine ae (pV (S.tx t).xp) rfl (λw' hw'=>?_) ak ?_
   ·simp[go_sem]
   refine ae (.pointer (some ⟨(S.tx t).xp,0,none⟩)) rfl (λw' hw'=>?_) ak ?_
   ·simp[go_sem]
   refine ae (vI (t:Int)) rfl (λw' hw'=>?_) ak ?_
   ·have e1:=hw'.cellAt d0 id;simp[go_sem,e1]
   simp only[bG,Nat.sub_self,bV];have kd:Calm W W.drew:=ah.drew;have hd:=h1.calm kd;have d6d:=kd.cellAt d6 id;have f6d:=kd.frozenAt d6 f6 id;have F:Fr (λb=>b=S.sp) W.drew (W.drew.setCell ⟨S.sp,6,none⟩ (vI (t:Int))):=(Fr.refl (λb=>b=S.sp) W.drew).setCell (p:=⟨S.sp,6,none⟩) (.inl rfl) _;have dN:af (W.drew.setCell ⟨S.sp,6,none⟩ (vI (t:Int))) S.sp (aE.cs (S.cD ⟨S.qv,S.qu,S.next,t,S.dm⟩)):=(hcs.calm kd).set 6 (vI (t:Int)) (by simp[aE.cs]);have n8:=h.ok.n;obtain⟨h2,k2⟩:=gR.GF hd ⟨S.qv,S.qu,S.next,t,S.dm⟩ F dN rfl rfl h.ok.nx (by show bX (t:Int);exact⟨by omega,by omega⟩) h.ok.ve (aD _) (h.ok.iv.cD _ h.ok.iv.ve (.inr ⟨t,rfl,hl⟩));have K2:aC w τ (W.drew.setCell ⟨S.sp,6,none⟩ (vI (t:Int))) τ:=(aC.calm τ (kw.trans kd)).trans k2;have X2:Fix S (S.cD ⟨S.qv,S.qu,S.next,t,S.dm⟩):=Fix.cD S _;have r2:Rn S (S.cD ⟨S.qv,S.qu,S.next,t,S.dm⟩):=⟨λ_=>rfl,λ_=>rfl,rfl,rfl⟩;have TF:(S.cD ⟨S.qv,S.qu,S.next,t,S.dm⟩).tx t=S.tx t:=rfl;obtain⟨W2,fI⟩:=ao (W.drew.setCell ⟨S.sp,6,none⟩ (vI (t:Int)));obtain⟨S2,jo⟩:=ao (S.cD ⟨S.qv,S.qu,S.next,t,S.dm⟩);rw[fI,jo] at h2;rw[fI] at K2;rw[jo] at X2 TF r2;have V5:=K2.own o3 t3;have Q6:=V5.1;have rq:=h2.QB;have Cl:t<S2.aW.length:=by rw[X2.len];exact ht
   have x3:W2.cell? ⟨(S.tx t).xp,3,none⟩=some (vI (S.tx t).seen):=by have:=(h2.lW Cl 3 _ rfl).1;rw[TF] at this;exact this
   have Py:=hid jo;have vq:Hid (∀n,jB w τ s q S (WR S (t:Nat) kj) (.returned (.tuple #[vI 0,vI 0])) (W2.drewN n)):=λn=>⟨0,0,rfl,by decide,by decide,τ,S2,h2.calm (ah.drewN _),K2.trans (aC.calm τ (ah.drewN _)),X2,.of ⟨by decide,by decide,by decide⟩ r2 (by decide)⟩;clear d0 f6 hcs yh z3 hd dN F k2 jo d6
   by_cases hq0:S2.qu=[]
   ·obtain⟨qa,qc,eqv⟩:=aF rq;have N_:S2.qu.length=0:=by rw[hq0];rfl
    have q4:W2.cell? ⟨S.sp,4,none⟩=some (.slice qa 0 qc):=by have:=(h2.cells 4 _ rfl).1;rw[X2.sp,eqv,N_] at this;exact this
    clear eqv N_;go_wp2_with fail
    go_quiet (fail)
    go_wp2
    go_ret2
    exact vq.out _
   ·obtain⟨x,l,xe⟩:=List.exists_cons_of_ne_nil hq0;rw[xe] at rq;obtain⟨g,c,hv,ho⟩:=bT kL (by decide) rq dI (i:=0) (by simp);have y0:=(ho 0 _ rfl).1;have y1:=(ho 1 _ rfl).1;rw[show 0*2+0=0 by rfl] at y0;rw[show 0*2+1=1 by rfl] at y1;have KS:g≠S.sp:=by rw[<-X2.sp];exact St.Wf h2 (by rw[hv];rfl)
    rw[hv] at rq;have q4:W2.cell? ⟨S.sp,4,none⟩=some (.slice (some ⟨g,0,none⟩) (l.length+1) c):=by have:=(h2.cells 4 _ rfl).1;rw[X2.sp,hv] at this;exact this
    have f4:W2.frozen? ⟨S.sp,4,none⟩=false:=by have:=(h2.cells 4 _ rfl).2;rw[X2.sp] at this;exact this
    obtain⟨LF,yh⟩:=h2.ok.qu x (by rw[xe];exact List.mem_cons_self ..);have hle:((List.cons x l).getD 0 dI)=x:=rfl;rw[hle] at y0 y1;have qI:((l.length:Int)+1==0)=false:=by simp;omega
    by_cases Xi:x.seq>=(S.tx t).seen
    ·go_wp2_with fail
     go_quiet (fail)
     go_wp2
     go_ret2
     exact vq.out _
    ·go_wp2_with fail
     go_quiet (fail)
     have kq:Calm W2 (W2.drewN nq):=ah.drewN nq;have h3:=h2.calm kq;have K3:=K2.trans (aC.calm τ kq);replace Q6:=kq.cellAt Q6 id;replace y0:=kq.cellAt y0 id;replace y1:=kq.cellAt y1 id;replace q4:=kq.cellAt q4 id;replace f4:(W2.drewN nq).frozen? ⟨S.sp,4,none⟩=false:=f4;replace V5:=V5.calm kq;replace rq:(W2.drewN nq).ownsRow 0 123 2 (.slice (some ⟨g,0,none⟩) (l.length+1) c) (l.length+1) ((x::l).flatMap iH):=rq;clear vq ho;generalize W2.drewN nq=W3 at *;obtain⟨k4,og⟩:=mG W3 [vI x.at_,vI x.seq] 123;obtain⟨W4,oy⟩:=ao (W3.alloc (.cells #[vI x.at_,vI x.seq] 123));rw[oy] at k4 og;have P5:=K3.size;have z34:=k4.cellAt Q6 id;have q44:=k4.cellAt q4 id;have Cp:Calm W4 W4.drew:=ah.drew;have h4:=(h3.calm k4).calm Cp;have odl:=xM (w:=W4.drew) (aw rq (k4.trans Cp) (λ_ _=>id)) (by have:=h2.ok.tt;have:S2.qu.length<=q:=by { have:=h2.ok.tt;unfold aE.tM at this;omega };rw[xe] at this;simp at this;omega);replace oy:=hid oy;go_wp2_with fail
     rw[oy.out];clear y0 y1;refine aO 5 6 (λw'=>w'.cell? ⟨b3,0,none⟩=some (pV S.sp)/\w'.cell? ⟨S.sp,4,none⟩=some (.slice (some ⟨g,0,none⟩) (l.length+1) c)) (by kernel_rfl) (by kernel_rfl) ⟨z34,q44⟩ ?_;refine ae (pV S.sp) rfl (λw' hw'=>?_) ak ?_
     ·have e1:=hw'.1;simp[go_sem,e1]
     refine ae (pV S.sp) rfl (λw' hw'=>?_) ak ?_
     ·have e1:=hw'.1;simp[go_sem,e1]
     refine ae (pV S.sp) rfl (λw' hw'=>?_) ak ?_
     ·simp[go_sem]
     refine ae (.pointer (some ⟨S.sp,4,none⟩)) rfl (λw' hw'=>?_) ak ?_
     ·simp[go_sem]
     refine ae (.slice (some ⟨g,0,none⟩) (l.length+1) c) rfl (λw' hw'=>?_) ak ?_
     ·have e1:=hw'.2;simp[go_sem,e1]
     simp only[bG];refine aQ rfl ?_;have K4:aC w τ W4.drew τ:=K3.trans (aC.calm τ (k4.trans Cp));have q4d:=Cp.cellAt q44 id;have f4d:W4.drew.frozen? ⟨S.sp,4,none⟩=false:=(k4.trans Cp).frozenAt q4 f4 id;go_wp2_with fail
     refine odl.mono ?_;rintro e w5 ⟨rfl,r5,f5⟩;have q5:=f5.cellAt q4d (λe=>KS e.symm);have f55:=f5.frozenAt q4d f4d (λe=>KS e.symm)
     have UP:b3≠g:=λe=>by
      obtain⟨M,H1,H2,H3⟩:=h4;have e1:=H1.tag 5 g (by rw[H2.q,hv];rfl);rw[<-e] at e1;omega
     have z35:=f5.cellAt (Cp.cellAt z34 id) UP;refine⟨⟨z35,q5⟩,?_⟩;simp only[bV];obtain⟨gj,S6,h6,k6,X6,sT,e6,r6⟩:=St.Ta h4 xe hv r5 f5;rw[X2.sp] at h6 k6;obtain⟨W6,sO⟩:=ao (w5.setCell ⟨S.sp,4,none⟩ (.slice (some ⟨g,0,none⟩) l.length c));rw[sO] at h6 k6;have K6:=K4.trans k6;have XX:=X2.trans X6;have jt:t<S6.aW.length:=by rw[XX.len];exact ht
     have lC:S6.tx t=S.tx t:=(e6 t).trans TF;have tgb:500<=τ W3.heap.size:=by rw[fr _ P5];omega
     have o6:af W6 W3.heap.size [vI x.at_,vI x.seq]:=k6.bH (og.calm Cp) tgb;obtain⟨g0,g1⟩:=af.N1 o6;have rt:=h6.tok jt;have EM:=h6.lW jt;have tC:∀b,ay (S6.tx t).tv b->b≠(S6.tx t).xp:=λb hb=>h6.aaP jt hb;rw[lC] at rt EM tC;obtain⟨ta,tc,et⟩:=aF rt;obtain⟨n,hn⟩:=ao ((S.tx t).took.length);rw[hn] at et;rw[et,hn] at rt;have x5:W6.cell? ⟨(S.tx t).xp,5,none⟩=some (.slice ta n tc):=by rw[<-et];exact(EM 5 _ rfl).1
     have fx5:=(EM 5 _ rfl).2;rw[et] at tC
     have hn6:n<=100000:=by
      have h1:=aE.kN (S:=S6) (x':=dT) jt;rw[lC,hn] at h1;have h2:dT.took.length=0:=rfl;have h3:(S6.aU t dT).tM+n=S6.tM+dT.took.length:=h1;have:=h6.ok.tt;omega
     have Cq:Calm W6 (W6.drew.alloc (.cells #[vI x.at_,vI x.seq] 123)):=(ah.drew).alloc _;have rt6:=hid (aw rt Cq (λ_ _=>id));have Wy:=Cq.cellAt x5 id;have fx6:=Cq.frozenAt x5 fx5 id;have xlt:(S.tx t).xp<W6.heap.size:=EM.lt (by simp[gl.cs]);have mg:¬ay (.slice ta n tc) (S.tx t).xp:=λe=>tC _ e rfl;have H6:=h6;obtain⟨M,H1,H2,H3⟩:=h6;have t6b:gj W3.heap.size=1000:=by rw[k6.tg _ (by have:=(og.calm Cp).lt (by simp);exact this),fr _ P5]
     have F_:¬ay (.slice ta n tc) W3.heap.size:=λe=>by
      have:=H1.tag (10+8*t+6) W3.heap.size (by rw[(H2.x t jt).k,lC,et];exact e);have:=H3.n;omega
     have Uw:W3.heap.size≠(S.tx t).xp:=λe=>by
      have:=H1.tag (10+8*t) W3.heap.size (by rw[(H2.x t jt).c,lC];exact e);have:=H3.n;omega
     have TX:=Cq.cellAt g0 id;have g16:=Cq.cellAt g1 id;clear odl Q6 q4 f4;have sP:=hid hn;have YH:=hid et;have abR:=hid tC;clear hn et tC;go_wp2_with fail
     refine aO 6 8 (λw'=>w'.cell? ⟨(S.tx t).xp,5,none⟩=some (.slice ta n tc)/\w'.cell? ⟨W3.heap.size,0,none⟩=some (vI (x.at_:Int))/\w'.cell? ⟨W3.heap.size,1,none⟩=some (vI x.seq)) (by kernel_rfl) (by kernel_rfl) ⟨x5,g0,g1⟩ ?_;refine ae (pV (S.tx t).xp) rfl (λw' hw'=>?_) ak ?_
     ·simp[go_sem]
     refine ae (pV (S.tx t).xp) rfl (λw' hw'=>?_) ak ?_
     ·simp[go_sem]
     refine ae (pV (S.tx t).xp) rfl (λw' hw'=>?_) ak ?_
     ·simp[go_sem]
     refine ae (.pointer (some ⟨(S.tx t).xp,5,none⟩)) rfl (λw' hw'=>?_) ak ?_
     ·simp[go_sem]
     refine ae (.slice ta n tc) rfl (λw' hw'=>?_) ak ?_
     ·have e1:=hw'.1;simp[go_sem,e1]
     refine ae (.agg #[vI (x.at_:Int),vI x.seq]) rfl (λw' hw'=>?_) ak ?_
     ·obtain⟨-,e0,e1⟩:=hw';simp[go_sem,e0,e1]
     simp only[bG];refine aQ rfl ?_;unfold Oper.wp;go_simp
     first|refine⟨⟨Wy,TX,g16⟩,?_⟩|refine⟨⟨TX,g16⟩,?_⟩
     first|refine aQ rfl ?_|refine .inl ?_
     refine Eq.mp (if_pos (show Region.wanted _ (yielded _ _)=true from rfl)) (gu (ops:=#[]) (E:=True) Pf rfl (.tmp 78) (.tmp 80) rfl (.slice ta n tc) n ((S.tx t).took.flatMap iH) rt6.out rfl (iH x) rfl (by simp[iH,Value.oneCell']) ⟨W6.heap.size,0,none⟩ 1 rfl (λj u hj=>by rw[dM];simp only[ia];exact iV W6.drew _ _ _ hj) (by omega) ?_);intro g2 c2 w7 lZ f7 wO;have XG:=f7.cellAt Wy mg;have fx7:=f7.frozenAt Wy fx6 mg;have YJ:=f7.cellAt TX F_;have g17:=f7.cellAt g16 F_;have F9:Fr (λb=>b=(S.tx t).xp) w7 (w7.setCell ⟨(S.tx t).xp,5,none⟩ (.slice (some ⟨g2,0,none⟩) (n+1) c2)):=(Fr.refl (λb=>b=(S.tx t).xp) w7).setCell (p:=⟨(S.tx t).xp,5,none⟩) (.inl rfl) _;have g09:=F9.cellAt YJ Uw;replace F9:=hid F9;replace lZ:=hid lZ;replace wO:=hid wO;replace f7:=hid f7;refine⟨⟨XG,YJ,g17⟩,?_⟩;simp only[bV];clear g17 g16;go_wp2
     go_ret2
     have Jp:af (w7.setCell ⟨(S.tx t).xp,5,none⟩ (.slice (some ⟨g2,0,none⟩) (n+1) c2)) (S.tx t).xp (gl.cs t { S.tx t with tv:=.slice (some ⟨g2,0,none⟩) (n+1) c2,took:=(S.tx t).took++[x] }):=((EM.calm Cq).fr f7.out mg).set 5 _ (by simp[gl.cs])
     have ZC:∀b,ay (.slice (some ⟨g2,0,none⟩) (n+1) c2) b->ay (.slice ta n tc) b\/W6.heap.size<=b:=λb hb=>by
      rw[ay.fJ hb];rcases wO.out with e|e
      ·exact .inl e
      ·exact .inr (by have:=Cq.size;rw[e];exact this)
     have UO:∀b,ay (.slice (some ⟨g2,0,none⟩) (n+1) c2) b->b≠(S.tx t).xp:=λb hb e=>by
      rcases ZC b hb with h1|h1
      ·exact mg (e ▸ h1)
      ·omega
     have hlen:((S.tx t).took++[x]).length=n+1:=by rw[b_,sP.out];rfl
     have gg:=H3.x t jt;rw[lC] at gg
     obtain⟨GP,h9,k9⟩:=gR.QN (x':={ S.tx t with tv:=.slice (some ⟨g2,0,none⟩) (n+1) c2,took:=(S.tx t).took++[x] }) H1 H2 H3 jt
      (by rw[lC,YH.out];exact((Calm.any Cq:Fr (λb=>b=(S.tx t).xp\/ay (.slice ta n tc) b) _ _).trans (f7.out.mono (λb _ e=>.inr e))).trans (F9.out.mono (λb _ e=>.inl e)))
      (by rw[lC];exact Jp) (by
       show World.ownsRow _ 0 _ 2 (.slice (some ⟨g2,0,none⟩) (n+1) c2) ((S.tx t).took++[x]).length (((S.tx t).took++[x]).flatMap iH);rw[hlen,List.flatMap_append];have e1:[x].flatMap iH=iH x:=by simp
       rw[e1]
       exact aw lZ.out F9.out (λb hb e=>UO b hb e)) (by rw[lC,YH.out];exact ZC) (by rw[lC]) (by rw[lC]) (by rw[lC])
      ⟨gg.l,gg.f,gg.m,gg.i,λi hi=>by
       rcases cJ.1 hi with hi|hi
       ·exact gg.k i hi
       ·rw[gH.1 hi];exact⟨LF,yh⟩⟩ (by
       have h1:=aE.kN (S:=S6) (x':={ S.tx t with tv:=.slice (some ⟨g2,0,none⟩) (n+1) c2,took:=(S.tx t).took++[x] }) jt;rw[lC,sP.out] at h1;have h2:({ S.tx t with tv:=.slice (some ⟨g2,0,none⟩) (n+1) c2,took:=(S.tx t).took++[x] } : gl).took.length=n+1:=hlen
       omega) (H3.iv.aU jt (by rw[lC]) (by rw[lC]) (λz hz=>by rw[lC] at hz;exact hz) (by have:=H3.iv.vs t;rw[lC] at this;exact this))
     exact⟨x.at_,0,rfl,⟨by omega,by omega⟩,by decide,GP,_,h9,K6.trans k9,XX.trans (Fix.aU jt (by rw[lC]) (by rw[lC])),.of ⟨by omega,by omega,by decide⟩ ((r2.trans r6).trans (Rn.aU jt (by rw[lC]) (by rw[lC]))) (by decide)⟩
 ·have eA:(S.aK != -1)=true:=by simp[bne,hA]
  by_cases hB:S.aK=(t:Int)
  ·have eB:(S.aK != (t:Int))=false:=by simp[hB]
   by_cases hV:(S.dm:Int)>(S.tx t).start
   ·replace bad:=bad.out (late.out hV);go_in;go_wp2_with fail
    go_quiet (fail)
    go_wp2
    go_ret2
    exact bad.out _
   ·go_in;go_wp2_with fail
    go_quiet (fail)
    have kw:Calm w (w.drewN nq):=ah.drewN nq;have h1:=h.calm kw;generalize w.drewN nq=W at *;have hcs:=h1.cells;have yh:=h1.lW ht;have d0:W.cell? ⟨(S.tx t).xp,0,none⟩=some (vI (t:Int)):=(yh 0 _ rfl).1;have d6:=(hcs 6 _ rfl).1;have f6:=(hcs 6 _ rfl).2;have z3:=kw.cellAt y3 id;go_wp2_with fail
    refine aO 5 5 (λw'=>Calm W w') (by kernel_rfl) (by kernel_rfl) (ah.drew) ?_;refine ae (pV S.sp) rfl (λw' hw'=>?_) ak ?_
    ·have e1:=hw'.cellAt z3 id;simp[go_sem,e1]
    refine ae (pV (S.tx t).xp) rfl (λw' hw'=>?_) ak ?_
    ·simp[go_sem]
    refine ae (pV (S.tx t).xp) rfl (λw' hw'=>?_) ak ?_
    ·simp[go_sem]
    refine ae (.pointer (some ⟨(S.tx t).xp,0,none⟩)) rfl (λw' hw'=>?_) ak ?_
    ·simp[go_sem]
    refine ae (vI (t:Int)) rfl (λw' hw'=>?_) ak ?_
    ·have e1:=hw'.cellAt d0 id;simp[go_sem,e1]
    simp only[bG,Nat.sub_self,bV];have kd:Calm W W.drew:=ah.drew;have hd:=h1.calm kd;have d6d:=kd.cellAt d6 id;have f6d:=kd.frozenAt d6 f6 id;have F:Fr (λb=>b=S.sp) W.drew (W.drew.setCell ⟨S.sp,6,none⟩ (vI (t:Int))):=(Fr.refl (λb=>b=S.sp) W.drew).setCell (p:=⟨S.sp,6,none⟩) (.inl rfl) _;have dN:af (W.drew.setCell ⟨S.sp,6,none⟩ (vI (t:Int))) S.sp (aE.cs (S.cD ⟨S.qv,S.qu,S.next,t,S.dm⟩)):=(hcs.calm kd).set 6 (vI (t:Int)) (by simp[aE.cs]);have n8:=h.ok.n;obtain⟨h2,k2⟩:=gR.GF hd ⟨S.qv,S.qu,S.next,t,S.dm⟩ F dN rfl rfl h.ok.nx (by show bX (t:Int);exact⟨by omega,by omega⟩) h.ok.ve (aD _) (h.ok.iv.cD _ h.ok.iv.ve (.inr ⟨t,rfl,hl⟩));have K2:aC w τ (W.drew.setCell ⟨S.sp,6,none⟩ (vI (t:Int))) τ:=(aC.calm τ (kw.trans kd)).trans k2;have X2:Fix S (S.cD ⟨S.qv,S.qu,S.next,t,S.dm⟩):=Fix.cD S _;have r2:Rn S (S.cD ⟨S.qv,S.qu,S.next,t,S.dm⟩):=⟨λ_=>rfl,λ_=>rfl,rfl,rfl⟩;have TF:(S.cD ⟨S.qv,S.qu,S.next,t,S.dm⟩).tx t=S.tx t:=rfl;obtain⟨W2,fI⟩:=ao (W.drew.setCell ⟨S.sp,6,none⟩ (vI (t:Int)));obtain⟨S2,jo⟩:=ao (S.cD ⟨S.qv,S.qu,S.next,t,S.dm⟩);rw[fI,jo] at h2;rw[fI] at K2;rw[jo] at X2 TF r2;have V5:=K2.own o3 t3;have Q6:=V5.1;have rq:=h2.QB;have Cl:t<S2.aW.length:=by rw[X2.len];exact ht
    have x3:W2.cell? ⟨(S.tx t).xp,3,none⟩=some (vI (S.tx t).seen):=by have:=(h2.lW Cl 3 _ rfl).1;rw[TF] at this;exact this
    have Py:=hid jo;have vq:Hid (∀n,jB w τ s q S (WR S (t:Nat) kj) (.returned (.tuple #[vI 0,vI 0])) (W2.drewN n)):=λn=>⟨0,0,rfl,by decide,by decide,τ,S2,h2.calm (ah.drewN _),K2.trans (aC.calm τ (ah.drewN _)),X2,.of ⟨by decide,by decide,by decide⟩ r2 (by decide)⟩;clear d0 f6 hcs yh z3 hd dN F k2 jo d6
    by_cases hq0:S2.qu=[]
    ·obtain⟨qa,qc,eqv⟩:=aF rq;have N_:S2.qu.length=0:=by rw[hq0];rfl
     have q4:W2.cell? ⟨S.sp,4,none⟩=some (.slice qa 0 qc):=by have:=(h2.cells 4 _ rfl).1;rw[X2.sp,eqv,N_] at this;exact this
     clear eqv N_;go_wp2_with fail
     go_quiet (fail)
     go_wp2
     go_ret2
     exact vq.out _
    ·obtain⟨x,l,xe⟩:=List.exists_cons_of_ne_nil hq0;rw[xe] at rq;obtain⟨g,c,hv,ho⟩:=bT kL (by decide) rq dI (i:=0) (by simp);have y0:=(ho 0 _ rfl).1;have y1:=(ho 1 _ rfl).1;rw[show 0*2+0=0 by rfl] at y0;rw[show 0*2+1=1 by rfl] at y1;have KS:g≠S.sp:=by rw[<-X2.sp];exact St.Wf h2 (by rw[hv];rfl)
     rw[hv] at rq;have q4:W2.cell? ⟨S.sp,4,none⟩=some (.slice (some ⟨g,0,none⟩) (l.length+1) c):=by have:=(h2.cells 4 _ rfl).1;rw[X2.sp,hv] at this;exact this
     have f4:W2.frozen? ⟨S.sp,4,none⟩=false:=by have:=(h2.cells 4 _ rfl).2;rw[X2.sp] at this;exact this
     obtain⟨LF,yh⟩:=h2.ok.qu x (by rw[xe];exact List.mem_cons_self ..);have hle:((List.cons x l).getD 0 dI)=x:=rfl;rw[hle] at y0 y1;have qI:((l.length:Int)+1==0)=false:=by simp;omega
     by_cases Xi:x.seq>=(S.tx t).seen
     ·go_wp2_with fail
      go_quiet (fail)
      go_wp2
      go_ret2
      exact vq.out _
     ·go_wp2_with fail
      go_quiet (fail)
      have kq:Calm W2 (W2.drewN nq):=ah.drewN nq;have h3:=h2.calm kq;have K3:=K2.trans (aC.calm τ kq);replace Q6:=kq.cellAt Q6 id;replace y0:=kq.cellAt y0 id;replace y1:=kq.cellAt y1 id;replace q4:=kq.cellAt q4 id;replace f4:(W2.drewN nq).frozen? ⟨S.sp,4,none⟩=false:=f4;replace V5:=V5.calm kq;replace rq:(W2.drewN nq).ownsRow 0 123 2 (.slice (some ⟨g,0,none⟩) (l.length+1) c) (l.length+1) ((x::l).flatMap iH):=rq;clear vq ho;generalize W2.drewN nq=W3 at *;obtain⟨k4,og⟩:=mG W3 [vI x.at_,vI x.seq] 123;obtain⟨W4,oy⟩:=ao (W3.alloc (.cells #[vI x.at_,vI x.seq] 123));rw[oy] at k4 og;have P5:=K3.size;have z34:=k4.cellAt Q6 id;have q44:=k4.cellAt q4 id;have Cp:Calm W4 W4.drew:=ah.drew;have h4:=(h3.calm k4).calm Cp;have odl:=xM (w:=W4.drew) (aw rq (k4.trans Cp) (λ_ _=>id)) (by have:=h2.ok.tt;have:S2.qu.length<=q:=by { have:=h2.ok.tt;unfold aE.tM at this;omega };rw[xe] at this;simp at this;omega);replace oy:=hid oy;go_wp2_with fail
      rw[oy.out];clear y0 y1;refine aO 5 6 (λw'=>w'.cell? ⟨b3,0,none⟩=some (pV S.sp)/\w'.cell? ⟨S.sp,4,none⟩=some (.slice (some ⟨g,0,none⟩) (l.length+1) c)) (by kernel_rfl) (by kernel_rfl) ⟨z34,q44⟩ ?_;refine ae (pV S.sp) rfl (λw' hw'=>?_) ak ?_
      ·have e1:=hw'.1;simp[go_sem,e1]
      refine ae (pV S.sp) rfl (λw' hw'=>?_) ak ?_
      ·have e1:=hw'.1;simp[go_sem,e1]
      refine ae (pV S.sp) rfl (λw' hw'=>?_) ak ?_
      ·simp[go_sem]
      refine ae (.pointer (some ⟨S.sp,4,none⟩)) rfl (λw' hw'=>?_) ak ?_
      ·simp[go_sem]
      refine ae (.slice (some ⟨g,0,none⟩) (l.length+1) c) rfl (λw' hw'=>?_) ak ?_
      ·have e1:=hw'.2;simp[go_sem,e1]
      simp only[bG];refine aQ rfl ?_;have K4:aC w τ W4.drew τ:=K3.trans (aC.calm τ (k4.trans Cp));have q4d:=Cp.cellAt q44 id;have f4d:W4.drew.frozen? ⟨S.sp,4,none⟩=false:=(k4.trans Cp).frozenAt q4 f4 id;go_wp2_with fail
      refine odl.mono ?_;rintro e w5 ⟨rfl,r5,f5⟩;have q5:=f5.cellAt q4d (λe=>KS e.symm);have f55:=f5.frozenAt q4d f4d (λe=>KS e.symm)
      have UP:b3≠g:=λe=>by
       obtain⟨M,H1,H2,H3⟩:=h4;have e1:=H1.tag 5 g (by rw[H2.q,hv];rfl);rw[<-e] at e1;omega
      have z35:=f5.cellAt (Cp.cellAt z34 id) UP;refine⟨⟨z35,q5⟩,?_⟩;simp only[bV];obtain⟨gj,S6,h6,k6,X6,sT,e6,r6⟩:=St.Ta h4 xe hv r5 f5;rw[X2.sp] at h6 k6;obtain⟨W6,sO⟩:=ao (w5.setCell ⟨S.sp,4,none⟩ (.slice (some ⟨g,0,none⟩) l.length c));rw[sO] at h6 k6;have K6:=K4.trans k6;have XX:=X2.trans X6;have jt:t<S6.aW.length:=by rw[XX.len];exact ht
      have lC:S6.tx t=S.tx t:=(e6 t).trans TF;have tgb:500<=τ W3.heap.size:=by rw[fr _ P5];omega
      have o6:af W6 W3.heap.size [vI x.at_,vI x.seq]:=k6.bH (og.calm Cp) tgb;obtain⟨g0,g1⟩:=af.N1 o6;have rt:=h6.tok jt;have EM:=h6.lW jt;have tC:∀b,ay (S6.tx t).tv b->b≠(S6.tx t).xp:=λb hb=>h6.aaP jt hb;rw[lC] at rt EM tC;obtain⟨ta,tc,et⟩:=aF rt;obtain⟨n,hn⟩:=ao ((S.tx t).took.length);rw[hn] at et;rw[et,hn] at rt;have x5:W6.cell? ⟨(S.tx t).xp,5,none⟩=some (.slice ta n tc):=by rw[<-et];exact(EM 5 _ rfl).1
      have fx5:=(EM 5 _ rfl).2;rw[et] at tC
      have hn6:n<=100000:=by
       have h1:=aE.kN (S:=S6) (x':=dT) jt;rw[lC,hn] at h1;have h2:dT.took.length=0:=rfl;have h3:(S6.aU t dT).tM+n=S6.tM+dT.took.length:=h1;have:=h6.ok.tt;omega
      have Cq:Calm W6 (W6.drew.alloc (.cells #[vI x.at_,vI x.seq] 123)):=(ah.drew).alloc _;have rt6:=hid (aw rt Cq (λ_ _=>id));have Wy:=Cq.cellAt x5 id;have fx6:=Cq.frozenAt x5 fx5 id;have xlt:(S.tx t).xp<W6.heap.size:=EM.lt (by simp[gl.cs]);have mg:¬ay (.slice ta n tc) (S.tx t).xp:=λe=>tC _ e rfl;have H6:=h6;obtain⟨M,H1,H2,H3⟩:=h6;have t6b:gj W3.heap.size=1000:=by rw[k6.tg _ (by have:=(og.calm Cp).lt (by simp);exact this),fr _ P5]
      have F_:¬ay (.slice ta n tc) W3.heap.size:=λe=>by
       have:=H1.tag (10+8*t+6) W3.heap.size (by rw[(H2.x t jt).k,lC,et];exact e);have:=H3.n;omega
      have Uw:W3.heap.size≠(S.tx t).xp:=λe=>by
       have:=H1.tag (10+8*t) W3.heap.size (by rw[(H2.x t jt).c,lC];exact e);have:=H3.n;omega
      have TX:=Cq.cellAt g0 id;have g16:=Cq.cellAt g1 id;clear odl Q6 q4 f4;have sP:=hid hn;have YH:=hid et;have abR:=hid tC;clear hn et tC;go_wp2_with fail
      refine aO 6 8 (λw'=>w'.cell? ⟨(S.tx t).xp,5,none⟩=some (.slice ta n tc)/\w'.cell? ⟨W3.heap.size,0,none⟩=some (vI (x.at_:Int))/\w'.cell? ⟨W3.heap.size,1,none⟩=some (vI x.seq)) (by kernel_rfl) (by kernel_rfl) ⟨x5,g0,g1⟩ ?_;refine ae (pV (S.tx t).xp) rfl (λw' hw'=>?_) ak ?_
      ·simp[go_sem]
      refine ae (pV (S.tx t).xp) rfl (λw' hw'=>?_) ak ?_
      ·simp[go_sem]
      refine ae (pV (S.tx t).xp) rfl (λw' hw'=>?_) ak ?_
      ·simp[go_sem]
      refine ae (.pointer (some ⟨(S.tx t).xp,5,none⟩)) rfl (λw' hw'=>?_) ak ?_
      ·simp[go_sem]
      refine ae (.slice ta n tc) rfl (λw' hw'=>?_) ak ?_
      ·have e1:=hw'.1;simp[go_sem,e1]
      refine ae (.agg #[vI (x.at_:Int),vI x.seq]) rfl (λw' hw'=>?_) ak ?_
      ·obtain⟨-,e0,e1⟩:=hw';simp[go_sem,e0,e1]
      simp only[bG];refine aQ rfl ?_;unfold Oper.wp;go_simp
      first|refine⟨⟨Wy,TX,g16⟩,?_⟩|refine⟨⟨TX,g16⟩,?_⟩
      first|refine aQ rfl ?_|refine .inl ?_
      refine Eq.mp (if_pos (show Region.wanted _ (yielded _ _)=true from rfl)) (gu (ops:=#[]) (E:=True) Pf rfl (.tmp 78) (.tmp 80) rfl (.slice ta n tc) n ((S.tx t).took.flatMap iH) rt6.out rfl (iH x) rfl (by simp[iH,Value.oneCell']) ⟨W6.heap.size,0,none⟩ 1 rfl (λj u hj=>by rw[dM];simp only[ia];exact iV W6.drew _ _ _ hj) (by omega) ?_);intro g2 c2 w7 lZ f7 wO;have XG:=f7.cellAt Wy mg;have fx7:=f7.frozenAt Wy fx6 mg;have YJ:=f7.cellAt TX F_;have g17:=f7.cellAt g16 F_;have F9:Fr (λb=>b=(S.tx t).xp) w7 (w7.setCell ⟨(S.tx t).xp,5,none⟩ (.slice (some ⟨g2,0,none⟩) (n+1) c2)):=(Fr.refl (λb=>b=(S.tx t).xp) w7).setCell (p:=⟨(S.tx t).xp,5,none⟩) (.inl rfl) _;have g09:=F9.cellAt YJ Uw;replace F9:=hid F9;replace lZ:=hid lZ;replace wO:=hid wO;replace f7:=hid f7;refine⟨⟨XG,YJ,g17⟩,?_⟩;simp only[bV];clear g17 g16;go_wp2
      go_ret2
      have Jp:af (w7.setCell ⟨(S.tx t).xp,5,none⟩ (.slice (some ⟨g2,0,none⟩) (n+1) c2)) (S.tx t).xp (gl.cs t { S.tx t with tv:=.slice (some ⟨g2,0,none⟩) (n+1) c2,took:=(S.tx t).took++[x] }):=((EM.calm Cq).fr f7.out mg).set 5 _ (by simp[gl.cs])
      have ZC:∀b,ay (.slice (some ⟨g2,0,none⟩) (n+1) c2) b->ay (.slice ta n tc) b\/W6.heap.size<=b:=λb hb=>by
       rw[ay.fJ hb];rcases wO.out with e|e
       ·exact .inl e
       ·exact .inr (by have:=Cq.size;rw[e];exact this)
      have UO:∀b,ay (.slice (some ⟨g2,0,none⟩) (n+1) c2) b->b≠(S.tx t).xp:=λb hb e=>by
       rcases ZC b hb with h1|h1
       ·exact mg (e ▸ h1)
       ·omega
      have hlen:((S.tx t).took++[x]).length=n+1:=by rw[b_,sP.out];rfl
      have gg:=H3.x t jt;rw[lC] at gg
      obtain⟨GP,h9,k9⟩:=gR.QN (x':={ S.tx t with tv:=.slice (some ⟨g2,0,none⟩) (n+1) c2,took:=(S.tx t).took++[x] }) H1 H2 H3 jt
       (by rw[lC,YH.out];exact((Calm.any Cq:Fr (λb=>b=(S.tx t).xp\/ay (.slice ta n tc) b) _ _).trans (f7.out.mono (λb _ e=>.inr e))).trans (F9.out.mono (λb _ e=>.inl e)))
       (by rw[lC];exact Jp) (by
        show World.ownsRow _ 0 _ 2 (.slice (some ⟨g2,0,none⟩) (n+1) c2) ((S.tx t).took++[x]).length (((S.tx t).took++[x]).flatMap iH);rw[hlen,List.flatMap_append];have e1:[x].flatMap iH=iH x:=by simp
        rw[e1]
        exact aw lZ.out F9.out (λb hb e=>UO b hb e)) (by rw[lC,YH.out];exact ZC) (by rw[lC]) (by rw[lC]) (by rw[lC])
       ⟨gg.l,gg.f,gg.m,gg.i,λi hi=>by
        rcases cJ.1 hi with hi|hi
        ·exact gg.k i hi
        ·rw[gH.1 hi];exact⟨LF,yh⟩⟩ (by
        have h1:=aE.kN (S:=S6) (x':={ S.tx t with tv:=.slice (some ⟨g2,0,none⟩) (n+1) c2,took:=(S.tx t).took++[x] }) jt;rw[lC,sP.out] at h1;have h2:({ S.tx t with tv:=.slice (some ⟨g2,0,none⟩) (n+1) c2,took:=(S.tx t).took++[x] } : gl).took.length=n+1:=hlen
        omega) (H3.iv.aU jt (by rw[lC]) (by rw[lC]) (λz hz=>by rw[lC] at hz;exact hz) (by have:=H3.iv.vs t;rw[lC] at this;exact this))
      exact⟨x.at_,0,rfl,⟨by omega,by omega⟩,by decide,GP,_,h9,K6.trans k9,XX.trans (Fix.aU jt (by rw[lC]) (by rw[lC])),.of ⟨by omega,by omega,by decide⟩ ((r2.trans r6).trans (Rn.aU jt (by rw[lC]) (by rw[lC]))) (by decide)⟩
  ·have eB:(S.aK != (t:Int))=true:=by simp[bne,hB]
   replace bad:=bad.out (λLb=>by
    rcases h.ok.iv.ho with e|⟨u,e,hu⟩
    ·exact hA e
    ·have:=Lb.1 u (λe2=>hB (by rw[e,e2]))
     rw[this] at hu;cases hu)
   go_in;go_wp2_with fail
   go_quiet (fail)
   go_wp2
   go_ret2
   exact bad.out _
theorem MZ(h:St w τ s q S)(P3:q<=100000){t:Nat}(ht:t<S.aW.length)(hl:(S.tx t).live=true){b3:Nat}(o3:Own w b3 0 (pV S.sp))(t3:500<=τ b3) :
 aJ prog 139 #[pV (S.tx t).xp,bw b3] w (jB w τ s q S (WR S (t:Nat) kj)):=by
 obtain⟨τ0,hf,tk,fr⟩:=h.fresh;exact(IZ hf P3 fr ht hl o3 (by rw[tk _ o3.lt];exact t3)).mono λe w' hp=>hp.dE tk
end
section
variable {w:ag}{τ:Nat->Nat}{s q:Nat}{S:aE}
theorem St.acm(h:St w τ s q S){w':ag}{g_:Nat}(f:Fr (λb=>b=S.ck) w w')(hc:af w' S.ck [vI (g_:Int),vI S.eI])(ho:GR g_ S.eI)(hle:S.now<=g_):St w' τ s q { S with now:=g_ } /\ aC w τ w' τ:=by
 obtain⟨M,h1,h2,h3⟩:=h;have hb:(M 3).dh=λk=>k=S.ck:=by rw[h2.k];rfl
 have f':Fr (M 3).dh w w':=f.mono (λk _ e=>by rw[hb];exact e);have k1:=h1.put' (t:=3) (a:=bD S.ck (vI (g_:Int)) [vI S.eI]) f' hc (λk hk=>by rw[hb];exact hk);have o:=Mem.cf.put M (P:=λj=>j=3) (bD S.ck (vI (g_:Int)) [vI S.eI]) rfl
 refine⟨⟨_,k1,⟨(o 0 (by omega)).trans h2.h,(o 2 (by omega)).trans h2.c,?_,(o 4 (by omega)).trans h2.t,(o 5 (by omega)).trans h2.q,(o 6 (by omega)).trans h2.l,(o 7 (by omega)).trans h2.m,λt ht=>(h2.x t ht).only o (λj h1 h2 (e:j=3)=>by omega),λu hu=>(o u (by omega)).trans (h2.z u hu)⟩,
  ⟨h3.hw,h3.ph,h3.p2,h3.se,h3.rd,h3.ls,ho,h3.n,h3.x,h3.qu,h3.tt,h3.nx,h3.ho,h3.ve,h3.lo,h3.ca,⟨h3.iv.hv.mono (λ_ _ h=>h) hle,by have:=h3.iv.ve;show S.dm<=g_;omega,λt hl=>by have:=h3.iv.st t hl;show(S.tx t).start<=(g_:Int);omega,λt z hz=>by have:=h3.iv.vs t z hz;show 0<=z.dm/\z.dm<=(g_:Int);omega,h3.iv.ho⟩⟩⟩,aC.piece h1 f' (by omega)⟩
 rw[Mem.aG]
theorem De(h:St w τ s q S):aJ prog 127 #[pV S.ck] w λe w'=>∃ (v:Nat) (b:Bool),e=.returned (.tuple #[vI (v:Int),.bool b])/\v<=1099511627776/\Nx w τ s q S w' (λS'=>∃g_,S' = { S with now:=g_ } /\ v<=g_/\S.now<=g_/\g_<=S.now+1):=by
 refine(DU h.clk h.ok.ck).mono ?_;rintro e w' ⟨v,g_,b,rfl,h1,h2,h3,h4⟩;obtain⟨h3,h5,h6,h7⟩:=h3;obtain⟨k1,k2⟩:=h.acm h4 h1 h2 h6;exact⟨v,b,rfl,h3,τ,_,k1,k2,⟨rfl,rfl,rfl,rfl,rfl,rfl,λ_=>rfl,λ_=>rfl,aD _,h6,rfl,rfl⟩,g_,rfl,h5,h6,h7⟩
def XS(t:Nat)(S S':aE):Prop:=(∀u,u≠t->(S'.tx u).live=(S.tx u).live/\(S'.tx u).start=(S.tx u).start)/\(S'.tx t).live=false/\S'.now<=S.now+1
def wF(S:aE)(t v x:Int)(S':aE):Prop:=(x=0/\∀k:Nat,t=k->XS k S S')\/(x=141/\Rn S S'/\∀k:Nat,t=k->¬Lone S k)
theorem wF.mk{S S0 S':aE}{t:Nat}{v:Int}(ht:S0.aW=S.aW)(hn:S0.now<=S.now+1)(h:ll t S0 S'):wF S (t:Nat) v 0 S':=.inl ⟨rfl,λk ek=>by
 rw[show k=t by omega];refine⟨λu hu=>?_,h.2.1,by rw[h.2.2];exact hn⟩;have:=h.1 u hu;unfold aE.tx at this ⊢
 rw[ht] at this;exact this⟩
theorem Bk(h:St w τ s q S)(P3:q<=100000)(fr:∀k,w.heap.size<=k->τ k=1000){t:Nat}(ht:t<S.aW.length)(hl:(S.tx t).live=true){b3:Nat}(o3:Own w b3 0 (pV S.sp))(t3:500<=τ b3) :
 aJ prog 122 #[pV (S.tx t).xp,bw b3] w (jB w τ s q S (wF S (t:Nat))):=by
 have hx:=h.lW ht;have gg:=h.ok.x t ht;have c40:=(hx 4 _ rfl).1;obtain⟨M,H1,H2,H3⟩:=h;have W_:=(H2.x t ht).l;have h:St w τ s q S:=⟨M,H1,H2,H3⟩;go_in;go_wp2_with fail
 refine(yj H1 W_ (by have:=gg.f;omega)).mono ?_;rintro e w1 ⟨hv,rfl,v1,v2,k1⟩;obtain⟨ha,KJ,rfl⟩:=aF v1;obtain⟨hn,Dv⟩:=ao ((S.tx t).L.holds.length);rw[Dv] at v1 v2 ⊢;have lU:hn<=200:=by have:=gg.f;omega
 replace Dv:=hid Dv;have aP:=hid v1;have wD:=hid v2;have z3:=k1.cellAt o3.1 id;have c4:=k1.cellAt c40 id;have h1:=h.calm k1;have s6:w1.cell? ⟨S.sp,6,none⟩=some (vI S.aK):=(h1.cells 6 _ rfl).1;have x0:w1.cell? ⟨(S.tx t).xp,0,none⟩=some (vI (t:Int)):=(h1.lW ht 0 _ rfl).1;clear v1 v2 c40 H1 H2 H3 W_
 by_cases wU:hn=0
 ·have e0:((hn:Int)==0)=true:=by simp[wU]
  replace wU:=hid wU
  by_cases UT:S.aK=(t:Int)
  ·have eh:(S.aK != (t:Int))=false:=by simp[UT]
   go_wp2_with fail
   go_quiet (fail)
   have kq:Calm w1 (w1.drewN nq):=ah.drewN nq;generalize w1.drewN nq=wq at *;clear wU e0;have Uv:wq.cell? ⟨b3,0,none⟩=some (pV S.sp):=kq.cellAt z3 id;have W_:wq.cell? ⟨(S.tx t).xp,4,none⟩=some (pV (S.tx t).lp):=kq.cellAt c4 id;obtain⟨M2,G1,G2,G3⟩:=h1.calm kq;go_wp2_with fail
   refine(yk G1 (G2.x t ht).l (by have:=gg.f;omega)).mono ?_;rintro e w4 ⟨rv,rfl,r1,r2,r3⟩;obtain⟨ra,rc,rfl⟩:=aF r1;have K4:Calm w w4:=k1.trans (kq.trans r3);have z4:=kq.trans r3 |>.cellAt z3 id;have h4:=h1.calm (kq.trans r3);obtain⟨m,hm⟩:=ao ((S.tx t).L.reads.length);have Vm:=gg.l.r;have wu:m<=200:=by have:=gg.f;omega
   have gA:Hid (∀i,i<m->∃g,ra=some ⟨g,0,none⟩/\w4.cell? ⟨g,i,none⟩=some (vI ((S.tx t).L.reads.getD i 0:Nat))):=λi hi=>by
    obtain⟨g,c,hv,ho⟩:=ji r1 (by decide) (show i<(S.tx t).L.reads.length by omega);have h0:=(ho 0 (by decide)).1;rw[show i*1+0=i by omega] at h0;injection hv with e1 e2 e3
    refine⟨g,e1,h0.trans ?_⟩;have nK:i<(S.tx t).L.reads.length:=by omega
    simp[aS,nK]
   rw[hm];rw[hm] at r1 r2;have qj:=hid (aw aP.out (kq.trans r3) (λ_ _=>id));clear Uv W_ r1 r2 G1 G2 G3;replace hm:=hid hm;go_wp2_with fail
   go_loopw [40] (λz wr=>∃i:Nat,i<=m/\z=vI i/\Hid (Calm w4 wr)) (λz _=>m-(intOf z).toNat)
   case atStart=>exact⟨0,by omega,rfl,ah⟩
   case round=>
    obtain⟨i,hi,rfl,hw⟩:=hrel;have z5:=hw.out.cellAt z4 id
    by_cases aM:i<m
    ·obtain⟨g,rfl,hcell⟩:=gA.out i aM;have e5:=hw.out.cellAt hcell id;obtain⟨a,PD⟩:=ao ((S.tx t).L.reads.getD i 0);have ha:a<=131072:=by rw[<-PD];exact Vm _ (get_mem 0 (by have:=hm.out;omega))
     rw[PD] at e5;have Oj:=uq (h4.calm hw.out) ht ha;go_wp2_with fail
     refine Oj.mono ?_;rintro e w5 ⟨⟨b,rfl,B8⟩,c5⟩;have cw:=hid (hw.out.trans c5)
     cases b with
     | true=>
       have hP:jB w τ s q S (wF S (t:Nat)) (.returned (.tuple #[vI 0,vI 141])) w5:=⟨0,141,rfl,by decide,by decide,Nx.calm h (K4.trans cw.out) (.inr ⟨rfl,.refl S,λk ek=>by rw[show k=t by omega];exact B8 rfl⟩)⟩;replace hP:=hid hP;clear Oj c5 e5 hcell PD;go_wp2
       go_ret2
       exact hP.out
     | false=>
       clear Oj c5 e5 hcell PD;go_wp2;exact⟨⟨i+1,by omega,rfl,cw⟩,by simp[intOf];omega⟩
    ·obtain rfl:i=m:=by omega
     have h5:=h4.calm hw.out;have kc:=(h5.cells 2 _ rfl).1;have otk:=De h5;go_wp2_with fail
     refine otk.mono ?_;rintro e w6 ⟨v,bk,rfl,hv,gj,S6,p1,p2,p3,g_,p4,pv,pn,pn1⟩;clear otk kc gA z4;have z6:=(p2.own ((o3.calm K4).calm hw.out) (by rw[show τ b3=τ b3 from rfl];exact t3)).1;have K6:aC w τ w6 gj:=(aC.calm τ (K4.trans hw.out)).trans p2;have hinv:Hid (∃iF Si,St w6 iF s q Si/\aC w6 gj w6 iF/\Fix S Si/\Si.aW=S.aW/\Si.aK=S.aK/\Si.qv=S.qv/\Si.qu=S.qu/\Si.now=g_/\Rest Si t ((S.tx t).L.holds.drop 0)):=⟨gj,S6,p1,aC.refl _ _,p3,by rw[p4],by rw[p4],by rw[p4],by rw[p4],by rw[p4],by have:=Rest.all p1.ok.iv t;rw[show(S6.tx t)=S.tx t by rw[p4];rfl] at this;exact this⟩
     have kJ:Hid (∀j,j<hn->∃g,ha=some ⟨g,0,none⟩/\500<=gj g/\Own w6 g (j*2) (vI ((S.tx t).L.holds.getD j ⟨0,0⟩).at_)/\Own w6 g (j*2+1) (vI ((S.tx t).L.holds.getD j ⟨0,0⟩).dm)):=λj hj=>by
      obtain⟨g,c,dK,ho⟩:=bT kH (by decide) (show w4.ownsRow 0 219 2 (.slice ha hn KJ) (S.tx t).L.holds.length ((S.tx t).L.holds.flatMap wM) by rw[Dv.out];exact qj.out) ⟨0,0⟩ (i:=j) (by have:=Dv.out;omega);injection dK with e1 e2 e3
      have tg:500<=τ g:=by rw[fr g (wD.out g (by rw[e1];rfl))];omega
      have lt4:g<w4.heap.size:=(ho 0 _ rfl).lt;refine⟨g,e1,by rw[p2.tg g (by have:=hw.out.size;omega)];exact tg,?_⟩;have h0:=p2.own ((ho 0 _ rfl).calm hw.out) tg;have h1:=p2.own ((ho 1 _ rfl).calm hw.out) tg;rw[fM] at h0;exact⟨h0,h1⟩
     have t36:500<=gj b3:=by rw[p2.tg b3 (by have:=K4.size;have:=hw.out.size;have:=o3.lt;omega)];exact t3
     have Qr:Own w6 b3 0 (pV S.sp):=p2.own ((o3.calm K4).calm hw.out) t3;clear p1 p2 p3 p4 h5 hw z5 z6 qj;go_wp2_with fail
     go_loopw [59] (λz wr=>∃j:Nat,j<=hn/\z=vI j/\Hid (∃iF Si,St wr iF s q Si/\aC w6 gj wr iF/\Fix S Si/\Si.aW=S.aW/\Si.aK=S.aK/\Si.qv=S.qv/\Si.qu=S.qu/\Si.now=g_/\Rest Si t ((S.tx t).L.holds.drop j))) (λz _=>hn-(intOf z).toNat)
     case atStart=>exact⟨0,by omega,rfl,hinv⟩
     case round=>
      obtain⟨j,hj,rfl,nL⟩:=hrel;clear hinv;obtain⟨iF,Si,m1,m2,m3,m4,m5,m6,m7,m8,mR⟩:=nL.out
      by_cases dO:j<hn
      ·obtain⟨g,rfl,tg,og,SM⟩:=kJ.out j dO;obtain⟨xx,mg⟩:=ao ((S.tx t).L.holds.getD j ⟨0,0⟩);have Of:xx∈(S.tx t).L.holds:=by rw[<-mg];exact get_mem _ (by have:=Dv.out;omega)
       obtain⟨xa,xv⟩:=gg.l.h xx Of;have hdr:(S.tx t).L.holds.drop j=xx::(S.tx t).L.holds.drop (j+1):=by rw[List.drop_eq_getElem_cons (by have:=Dv.out;omega),<-mg];simp[aS,show j<(S.tx t).L.holds.length by have:=Dv.out;omega]
       rw[hdr] at mR;replace mR:=hid mR;have pL:Hid (v<=Si.now):=by show v<=Si.now;rw[m8];exact pv
       clear hdr;rw[mg] at og SM;have u0:=(m2.own og tg).1;have u1:=(m2.own SM tg).1;have u3:=(m2.own Qr t36).1;obtain⟨ka,L9⟩:=mG wr [vI xx.at_,vI xx.dm] 219;obtain⟨W5,mK⟩:=ao (wr.alloc (.cells #[vI xx.at_,vI xx.dm] 219));rw[mK] at ka L9;have u35:=ka.cellAt u3 id;have u8:=(L9 0 _ rfl).1;have Jw:=po (m1.calm ka) xa pL.out;rw[m3.sp] at Jw;go_wp2_with fail
       clear mK;refine Jw.mono ?_;rintro e w7 ⟨rfl,vZ,S7,n1,n2,n3,n4⟩;have n5:=n4.still;have hw7:Hid (∃iF Si,St w7 iF s q Si/\aC w6 gj w7 iF/\Fix S Si/\Si.aW=S.aW/\Si.aK=S.aK/\Si.qv=S.qv/\Si.qu=S.qu/\Si.now=g_/\Rest Si t ((S.tx t).L.holds.drop (j+1))):=⟨vZ,S7,n1,m2.trans ((aC.calm iF ka).trans n2),m3.trans n3,n5.2.1.trans m4,n5.2.2.1.trans m5,n5.2.2.2.2.1.trans m6,n5.2.2.2.1.trans m7,n5.2.2.2.2.2.1.trans m8,mR.out.rel n4 pL.out⟩;clear Jw n1 n2 n3 n4 n5 mR pL m1 m2 nL u0 u1 u3 mg;go_wp2
       first|exact⟨⟨j+1,by omega,rfl,hw7⟩,by simp[intOf];omega⟩|exact⟨⟨j+1,by omega,rfl,hw7⟩,by simp[intOf]⟩
      ·obtain rfl:j=hn:=by omega
       clear m5 m6 m7;rw[List.drop_eq_nil_of_le (by have:=Dv.out;omega)] at mR;have hK:=hid mR.done;clear mR;have Lh:=hid (show Si.now<=S.now+1 by rw[m8];exact pn1);have u3:=(m2.own Qr t36).1;have Lz:t<Si.aW.length:=by rw[m3.len];exact ht
       have O6:Si.tx t=S.tx t:=by unfold aE.tx;rw[m4]
       have BH:=m1.cells;rw[m3.sp] at BH;have d6:wr.cell? ⟨S.sp,6,none⟩=some (vI Si.aK):=(BH 6 _ rfl).1;have d0:wr.cell? ⟨(S.tx t).xp,0,none⟩=some (vI (t:Int)):=by have:=(m1.lW Lz 0 _ rfl).1;rw[O6] at this;exact this
       have KK:=K6.trans m2;clear kJ nL;go_wp2_with fail
       go_quiet (fail)
       have kz:Calm wr (wr.drewN nq):=ah.drewN nq
       by_cases HQ:Si.aK=(t:Int)
       ·have eh2:(Si.aK==(t:Int))=true:=by simp[HQ]
        have f6:=(BH 6 _ rfl).2;have f7:=(BH 7 _ rfl).2;have d7:=(BH 7 _ rfl).1;have kS:=BH.calm kz;have F1:Fr (λb=>b=S.sp) (wr.drewN nq) ((wr.drewN nq).setCell ⟨S.sp,6,none⟩ (vI (-1))):=(Fr.refl (λb=>b=S.sp) _).setCell (p:=⟨S.sp,6,none⟩) (.inl rfl) _;have BF:=kS.set 6 (vI (-1)) (by simp[aE.cs]);have F2:Fr (λb=>b=S.sp) (wr.drewN nq) (((wr.drewN nq).setCell ⟨S.sp,6,none⟩ (vI (-1))).setCell ⟨S.sp,7,none⟩ (vI (v:Int))):=F1.setCell (p:=⟨S.sp,7,none⟩) (.inl rfl) _;have Zk:=BF.set 7 (vI (v:Int)) (by simp[aE.cs]);have y6:=(kS 6 _ rfl).1;have g6:=(kS 6 _ rfl).2;have y7:=(BF 7 _ rfl).1;have g7:=(BF 7 _ rfl).2;obtain⟨hz,VW⟩:=gR.GF (q':=q) (m1.calm kz) ⟨Si.qv,Si.qu,Si.next,-1,v⟩ (by rw[m3.sp];exact F2) (by rw[m3.sp];exact Zk) rfl rfl m1.ok.nx (by show bX (-1);decide) hv (aD _) (m1.ok.iv.cD _ (by show v<=Si.now;rw[m8];exact pv) (.inl rfl));have Wu:=(VW.own ((m2.own Qr t36).calm kz) (by rw[m2.tg _ Qr.lt];exact t36)).1;have ez:(Si.cD ⟨Si.qv,Si.qu,Si.next,-1,v⟩).tx t=S.tx t:=O6;have AI:=oU hz (t:=t) Lz hK.out (by rw[ez];exact hl) (by show(-1:Int)≠(t:Int);omega);rw[ez,show(Si.cD ⟨Si.qv,Si.qu,Si.next,-1,v⟩).sp=S.sp from m3.sp] at AI;clear BH kS BF Zk F1 F2 f6 f7 d7 d6 d0;go_wp2_with fail
        refine AI.mono ?_;rintro e w9 ⟨rfl,n9⟩;have hP:jB w τ s q S (wF S (t:Nat)) (.returned (.tuple #[vI (v:Int),vI 0])) w9:=⟨v,0,rfl,⟨by omega,by omega⟩,by decide,((n9.step ((KK.trans (aC.calm iF kz)).trans VW) (m3.trans (Fix.cD Si _)))).mono (aD _) (aD _) (λ_ e=>wF.mk m4 Lh.out (by rw[e];exact ll.aU rfl rfl Lz rfl))⟩;replace hP:=hid hP;clear AI n9 hz VW Wu y6 g6 y7 g7;go_wp2
        go_ret2
        exact hP.out
       ·have eh2:(Si.aK==(t:Int))=false:=by simpa using HQ
        have AI:=oU (m1.calm kz) Lz hK.out (by rw[O6];exact hl) HQ;rw[O6,m3.sp] at AI;have Wu:=kz.cellAt u3 id;clear BH;go_wp2_with fail
        refine AI.mono ?_;rintro e w9 ⟨rfl,n9⟩;have hP:jB w τ s q S (wF S (t:Nat)) (.returned (.tuple #[vI (v:Int),vI 0])) w9:=⟨v,0,rfl,⟨by omega,by omega⟩,by decide,(n9.step (KK.trans (aC.calm iF kz)) m3).mono (aD _) (aD _) (λ_ e=>wF.mk m4 Lh.out (by rw[e];exact ll.aU rfl rfl Lz rfl))⟩;replace hP:=hid hP;clear AI n9 Wu d6 d0;go_wp2
        go_ret2
        exact hP.out
  ·have eh:(S.aK != (t:Int))=true:=by simp[bne,UT]
   go_wp2_with fail
   go_quiet (fail)
   have kq:Calm w1 (w1.drewN nq):=ah.drewN nq;have z4:=kq.cellAt z3 id;have hRe:=Rest.all h.ok.iv t;have Vc:(S.tx t).L.holds=[]:=List.length_eq_zero_iff.1 (by have:=Dv.out;have:=wU.out;omega);rw[Vc] at hRe;have AI:=oU (h1.calm kq) ht hRe.done hl UT;go_wp2_with fail
   refine AI.mono ?_;rintro e w9 ⟨rfl,n9⟩;have hP:jB w τ s q S (wF S (t:Nat)) (.returned (.tuple #[vI 0,vI 0])) w9:=⟨0,0,rfl,by decide,by decide,(n9.step (aC.calm τ (k1.trans kq)) (Fix.refl S)).mono (aD _) (aD _) (λ_ e=>wF.mk rfl (by omega) (by rw[e];exact ll.aU rfl rfl ht rfl))⟩;replace hP:=hid hP;clear AI n9 z4;go_wp2
   go_ret2
   exact hP.out
 ·have e0:((hn:Int)==0)=false:=by simp;omega
  go_wp2_with fail
  go_quiet (fail)
  have kq:Calm w1 (w1.drewN nq):=ah.drewN nq;generalize w1.drewN nq=wq at *;clear wU e0;have Uv:wq.cell? ⟨b3,0,none⟩=some (pV S.sp):=kq.cellAt z3 id;have W_:wq.cell? ⟨(S.tx t).xp,4,none⟩=some (pV (S.tx t).lp):=kq.cellAt c4 id;obtain⟨M2,G1,G2,G3⟩:=h1.calm kq;go_wp2_with fail
  refine(yk G1 (G2.x t ht).l (by have:=gg.f;omega)).mono ?_;rintro e w4 ⟨rv,rfl,r1,r2,r3⟩;obtain⟨ra,rc,rfl⟩:=aF r1;have K4:Calm w w4:=k1.trans (kq.trans r3);have z4:=kq.trans r3 |>.cellAt z3 id;have h4:=h1.calm (kq.trans r3);obtain⟨m,hm⟩:=ao ((S.tx t).L.reads.length);have Vm:=gg.l.r;have wu:m<=200:=by have:=gg.f;omega
  have gA:Hid (∀i,i<m->∃g,ra=some ⟨g,0,none⟩/\w4.cell? ⟨g,i,none⟩=some (vI ((S.tx t).L.reads.getD i 0:Nat))):=λi hi=>by
   obtain⟨g,c,hv,ho⟩:=ji r1 (by decide) (show i<(S.tx t).L.reads.length by omega);have h0:=(ho 0 (by decide)).1;rw[show i*1+0=i by omega] at h0;injection hv with e1 e2 e3
   refine⟨g,e1,h0.trans ?_⟩;have nK:i<(S.tx t).L.reads.length:=by omega
   simp[aS,nK]
  rw[hm];rw[hm] at r1 r2;have qj:=hid (aw aP.out (kq.trans r3) (λ_ _=>id));clear Uv W_ r1 r2 G1 G2 G3;replace hm:=hid hm;go_wp2_with fail
  go_loopw [40] (λz wr=>∃i:Nat,i<=m/\z=vI i/\Hid (Calm w4 wr)) (λz _=>m-(intOf z).toNat)
  case atStart=>exact⟨0,by omega,rfl,ah⟩
  case round=>
   obtain⟨i,hi,rfl,hw⟩:=hrel;have z5:=hw.out.cellAt z4 id
   by_cases aM:i<m
   ·obtain⟨g,rfl,hcell⟩:=gA.out i aM;have e5:=hw.out.cellAt hcell id;obtain⟨a,PD⟩:=ao ((S.tx t).L.reads.getD i 0);have ha:a<=131072:=by rw[<-PD];exact Vm _ (get_mem 0 (by have:=hm.out;omega))
    rw[PD] at e5;have Oj:=uq (h4.calm hw.out) ht ha;go_wp2_with fail
    refine Oj.mono ?_;rintro e w5 ⟨⟨b,rfl,B8⟩,c5⟩;have cw:=hid (hw.out.trans c5)
    cases b with
    | true=>
      have hP:jB w τ s q S (wF S (t:Nat)) (.returned (.tuple #[vI 0,vI 141])) w5:=⟨0,141,rfl,by decide,by decide,Nx.calm h (K4.trans cw.out) (.inr ⟨rfl,.refl S,λk ek=>by rw[show k=t by omega];exact B8 rfl⟩)⟩;replace hP:=hid hP;clear Oj c5 e5 hcell PD;go_wp2
      go_ret2
      exact hP.out
    | false=>
      clear Oj c5 e5 hcell PD;go_wp2;exact⟨⟨i+1,by omega,rfl,cw⟩,by simp[intOf];omega⟩
   ·obtain rfl:i=m:=by omega
    have h5:=h4.calm hw.out;have kc:=(h5.cells 2 _ rfl).1;have otk:=De h5;go_wp2_with fail
    refine otk.mono ?_;rintro e w6 ⟨v,bk,rfl,hv,gj,S6,p1,p2,p3,g_,p4,pv,pn,pn1⟩;clear otk kc gA z4;have z6:=(p2.own ((o3.calm K4).calm hw.out) (by rw[show τ b3=τ b3 from rfl];exact t3)).1;have K6:aC w τ w6 gj:=(aC.calm τ (K4.trans hw.out)).trans p2;have hinv:Hid (∃iF Si,St w6 iF s q Si/\aC w6 gj w6 iF/\Fix S Si/\Si.aW=S.aW/\Si.aK=S.aK/\Si.qv=S.qv/\Si.qu=S.qu/\Si.now=g_/\Rest Si t ((S.tx t).L.holds.drop 0)):=⟨gj,S6,p1,aC.refl _ _,p3,by rw[p4],by rw[p4],by rw[p4],by rw[p4],by rw[p4],by have:=Rest.all p1.ok.iv t;rw[show(S6.tx t)=S.tx t by rw[p4];rfl] at this;exact this⟩
    have kJ:Hid (∀j,j<hn->∃g,ha=some ⟨g,0,none⟩/\500<=gj g/\Own w6 g (j*2) (vI ((S.tx t).L.holds.getD j ⟨0,0⟩).at_)/\Own w6 g (j*2+1) (vI ((S.tx t).L.holds.getD j ⟨0,0⟩).dm)):=λj hj=>by
     obtain⟨g,c,dK,ho⟩:=bT kH (by decide) (show w4.ownsRow 0 219 2 (.slice ha hn KJ) (S.tx t).L.holds.length ((S.tx t).L.holds.flatMap wM) by rw[Dv.out];exact qj.out) ⟨0,0⟩ (i:=j) (by have:=Dv.out;omega);injection dK with e1 e2 e3
     have tg:500<=τ g:=by rw[fr g (wD.out g (by rw[e1];rfl))];omega
     have lt4:g<w4.heap.size:=(ho 0 _ rfl).lt;refine⟨g,e1,by rw[p2.tg g (by have:=hw.out.size;omega)];exact tg,?_⟩;have h0:=p2.own ((ho 0 _ rfl).calm hw.out) tg;have h1:=p2.own ((ho 1 _ rfl).calm hw.out) tg;rw[fM] at h0;exact⟨h0,h1⟩
    have t36:500<=gj b3:=by rw[p2.tg b3 (by have:=K4.size;have:=hw.out.size;have:=o3.lt;omega)];exact t3
    have Qr:Own w6 b3 0 (pV S.sp):=p2.own ((o3.calm K4).calm hw.out) t3;clear p1 p2 p3 p4 h5 hw z5 z6 qj;go_wp2_with fail
    go_loopw [59] (λz wr=>∃j:Nat,j<=hn/\z=vI j/\Hid (∃iF Si,St wr iF s q Si/\aC w6 gj wr iF/\Fix S Si/\Si.aW=S.aW/\Si.aK=S.aK/\Si.qv=S.qv/\Si.qu=S.qu/\Si.now=g_/\Rest Si t ((S.tx t).L.holds.drop j))) (λz _=>hn-(intOf z).toNat)
    case atStart=>exact⟨0,by omega,rfl,hinv⟩
    case round=>
     obtain⟨j,hj,rfl,nL⟩:=hrel;clear hinv;obtain⟨iF,Si,m1,m2,m3,m4,m5,m6,m7,m8,mR⟩:=nL.out
     by_cases dO:j<hn
     ·obtain⟨g,rfl,tg,og,SM⟩:=kJ.out j dO;obtain⟨xx,mg⟩:=ao ((S.tx t).L.holds.getD j ⟨0,0⟩);have Of:xx∈(S.tx t).L.holds:=by rw[<-mg];exact get_mem _ (by have:=Dv.out;omega)
      obtain⟨xa,xv⟩:=gg.l.h xx Of;have hdr:(S.tx t).L.holds.drop j=xx::(S.tx t).L.holds.drop (j+1):=by rw[List.drop_eq_getElem_cons (by have:=Dv.out;omega),<-mg];simp[aS,show j<(S.tx t).L.holds.length by have:=Dv.out;omega]
      rw[hdr] at mR;replace mR:=hid mR;have pL:Hid (v<=Si.now):=by show v<=Si.now;rw[m8];exact pv
      clear hdr;rw[mg] at og SM;have u0:=(m2.own og tg).1;have u1:=(m2.own SM tg).1;have u3:=(m2.own Qr t36).1;obtain⟨ka,L9⟩:=mG wr [vI xx.at_,vI xx.dm] 219;obtain⟨W5,mK⟩:=ao (wr.alloc (.cells #[vI xx.at_,vI xx.dm] 219));rw[mK] at ka L9;have u35:=ka.cellAt u3 id;have u8:=(L9 0 _ rfl).1;have Jw:=po (m1.calm ka) xa pL.out;rw[m3.sp] at Jw;go_wp2_with fail
      clear mK;refine Jw.mono ?_;rintro e w7 ⟨rfl,vZ,S7,n1,n2,n3,n4⟩;have n5:=n4.still;have hw7:Hid (∃iF Si,St w7 iF s q Si/\aC w6 gj w7 iF/\Fix S Si/\Si.aW=S.aW/\Si.aK=S.aK/\Si.qv=S.qv/\Si.qu=S.qu/\Si.now=g_/\Rest Si t ((S.tx t).L.holds.drop (j+1))):=⟨vZ,S7,n1,m2.trans ((aC.calm iF ka).trans n2),m3.trans n3,n5.2.1.trans m4,n5.2.2.1.trans m5,n5.2.2.2.2.1.trans m6,n5.2.2.2.1.trans m7,n5.2.2.2.2.2.1.trans m8,mR.out.rel n4 pL.out⟩;clear Jw n1 n2 n3 n4 n5 mR pL m1 m2 nL u0 u1 u3 mg;go_wp2
      first|exact⟨⟨j+1,by omega,rfl,hw7⟩,by simp[intOf];omega⟩|exact⟨⟨j+1,by omega,rfl,hw7⟩,by simp[intOf]⟩
     ·obtain rfl:j=hn:=by omega
      clear m5 m6 m7;rw[List.drop_eq_nil_of_le (by have:=Dv.out;omega)] at mR;have hK:=hid mR.done;clear mR;have Lh:=hid (show Si.now<=S.now+1 by rw[m8];exact pn1);have u3:=(m2.own Qr t36).1;have Lz:t<Si.aW.length:=by rw[m3.len];exact ht
      have O6:Si.tx t=S.tx t:=by unfold aE.tx;rw[m4]
      have BH:=m1.cells;rw[m3.sp] at BH;have d6:wr.cell? ⟨S.sp,6,none⟩=some (vI Si.aK):=(BH 6 _ rfl).1;have d0:wr.cell? ⟨(S.tx t).xp,0,none⟩=some (vI (t:Int)):=by have:=(m1.lW Lz 0 _ rfl).1;rw[O6] at this;exact this
      have KK:=K6.trans m2;clear kJ nL;go_wp2_with fail
      go_quiet (fail)
      have kz:Calm wr (wr.drewN nq):=ah.drewN nq
      by_cases HQ:Si.aK=(t:Int)
      ·have eh2:(Si.aK==(t:Int))=true:=by simp[HQ]
       have f6:=(BH 6 _ rfl).2;have f7:=(BH 7 _ rfl).2;have d7:=(BH 7 _ rfl).1;have kS:=BH.calm kz;have F1:Fr (λb=>b=S.sp) (wr.drewN nq) ((wr.drewN nq).setCell ⟨S.sp,6,none⟩ (vI (-1))):=(Fr.refl (λb=>b=S.sp) _).setCell (p:=⟨S.sp,6,none⟩) (.inl rfl) _;have BF:=kS.set 6 (vI (-1)) (by simp[aE.cs]);have F2:Fr (λb=>b=S.sp) (wr.drewN nq) (((wr.drewN nq).setCell ⟨S.sp,6,none⟩ (vI (-1))).setCell ⟨S.sp,7,none⟩ (vI (v:Int))):=F1.setCell (p:=⟨S.sp,7,none⟩) (.inl rfl) _;have Zk:=BF.set 7 (vI (v:Int)) (by simp[aE.cs]);have y6:=(kS 6 _ rfl).1;have g6:=(kS 6 _ rfl).2;have y7:=(BF 7 _ rfl).1;have g7:=(BF 7 _ rfl).2;obtain⟨hz,VW⟩:=gR.GF (q':=q) (m1.calm kz) ⟨Si.qv,Si.qu,Si.next,-1,v⟩ (by rw[m3.sp];exact F2) (by rw[m3.sp];exact Zk) rfl rfl m1.ok.nx (by show bX (-1);decide) hv (aD _) (m1.ok.iv.cD _ (by show v<=Si.now;rw[m8];exact pv) (.inl rfl));have Wu:=(VW.own ((m2.own Qr t36).calm kz) (by rw[m2.tg _ Qr.lt];exact t36)).1;have ez:(Si.cD ⟨Si.qv,Si.qu,Si.next,-1,v⟩).tx t=S.tx t:=O6;have AI:=oU hz (t:=t) Lz hK.out (by rw[ez];exact hl) (by show(-1:Int)≠(t:Int);omega);rw[ez,show(Si.cD ⟨Si.qv,Si.qu,Si.next,-1,v⟩).sp=S.sp from m3.sp] at AI;clear BH kS BF Zk F1 F2 f6 f7 d7 d6 d0;go_wp2_with fail
       refine AI.mono ?_;rintro e w9 ⟨rfl,n9⟩;have hP:jB w τ s q S (wF S (t:Nat)) (.returned (.tuple #[vI (v:Int),vI 0])) w9:=⟨v,0,rfl,⟨by omega,by omega⟩,by decide,((n9.step ((KK.trans (aC.calm iF kz)).trans VW) (m3.trans (Fix.cD Si _)))).mono (aD _) (aD _) (λ_ e=>wF.mk m4 Lh.out (by rw[e];exact ll.aU rfl rfl Lz rfl))⟩;replace hP:=hid hP;clear AI n9 hz VW Wu y6 g6 y7 g7;go_wp2
       go_ret2
       exact hP.out
      ·have eh2:(Si.aK==(t:Int))=false:=by simpa using HQ
       have AI:=oU (m1.calm kz) Lz hK.out (by rw[O6];exact hl) HQ;rw[O6,m3.sp] at AI;have Wu:=kz.cellAt u3 id;clear BH;go_wp2_with fail
       refine AI.mono ?_;rintro e w9 ⟨rfl,n9⟩;have hP:jB w τ s q S (wF S (t:Nat)) (.returned (.tuple #[vI (v:Int),vI 0])) w9:=⟨v,0,rfl,⟨by omega,by omega⟩,by decide,(n9.step (KK.trans (aC.calm iF kz)) m3).mono (aD _) (aD _) (λ_ e=>wF.mk m4 Lh.out (by rw[e];exact ll.aU rfl rfl Lz rfl))⟩;replace hP:=hid hP;clear AI n9 Wu d6 d0;go_wp2
       go_ret2
       exact hP.out
theorem DX(h:St w τ s q S)(P3:q<=100000){t:Nat}(ht:t<S.aW.length)(hl:(S.tx t).live=true){b3:Nat}(o3:Own w b3 0 (pV S.sp))(t3:500<=τ b3) :
 aJ prog 122 #[pV (S.tx t).xp,bw b3] w (jB w τ s q S (wF S (t:Nat))):=by
 obtain⟨τ0,hf,tk,fr⟩:=h.fresh;exact(Bk hf P3 fr ht hl o3 (by rw[tk _ o3.lt];exact t3)).mono λe w' hp=>hp.dE tk
end
