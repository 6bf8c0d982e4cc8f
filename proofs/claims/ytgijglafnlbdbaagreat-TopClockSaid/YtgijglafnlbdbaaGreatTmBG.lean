import Derived.Test.YtgijglafnlbdbaaGreatTmBF
set_option linter.all false
set_option maxHeartbeats 8000000
set_option maxRecDepth 8000
namespace Go.Proofs.YtgijglafnlbdbaaGreat
open RowKit Shelf Proofs.Tryz
open Go renaming World->aj,Value->aC,Calls->aL
section
attribute [local irreducible] Oper.wp
theorem TB{fn:Func}{W:aj}{B:Nat}{a b c d e f y:aC}{i j:Nat}{tmps:Array aC}(hf:fn.results = #[.cell i 81,.tmp j])(h1:tmps[i]?.getD undef = aR B)(h4:tmps[j]?.getD undef=y)(o:ag W B [a,b,c,d,e,f]):(results fn tmps).run prog W=.ok (.tuple #[.agg #[a,b,c,d,e,f],y]) W:=by
 obtain⟨m0,m1,m2,m3,m4,m5⟩:=ag.t_ o;simp[results,hf,h1,h4,go_sem,m0,m1,m2,m3,m4,m5]
def ReP(w:aj)(Q:Pg)(tr:List Tr)(v:aC)(e:Ending)(w':aj):Prop:=
 ∃cz wv rv T,e=.returned (.tuple #[UR v cz wv rv,.bool true])/\Calm w w'/\iC T w' Q tr v cz wv rv/\tr.length<=1000
theorem L1{T0:Nat->Prop}{w:aj}{v hv:aC}{Q:Pg}{H:List En}{tr:List Tr}(hr:dJ T0 w v Q)(hp:tL Q)(he:w.ownsRow 0 76 6 hv H.length (H.flatMap En.c))(hH:H.length<=1000)(ng:tries Q H=some tr)(hk:∀x∈H,x.k≠4/\x.k≠5)
 (h3:∀k,k<tr.length->0<=(tr.getD k aK).th/\(tr.getD k aK).th<Q.length/\0<=(tr.getD k aK).bl/\(tr.getD k aK).bl<(Q.getD (tr.getD k aK).th.toNat []).length/\(tr.getD k aK).aJ.length<=(bU Q (tr.getD k aK).th (tr.getD k aK).bl).length) :
 aL prog 24 #[v,hv] w (ReP w Q tr v):=by
 obtain⟨i0,hi,ie,gU,iw⟩:=info_parts (show(prog.info? 29).map (λi=>(i.zero,i.size,i.bytes))=some (some (.agg #[vI 0,vI 0,vI 0,vI 0,vI 0,vI 0]),6,48) by kernel_rfl);obtain⟨W1,e1,k1,o4,s1⟩:=dy w [.slice none 0 0,.slice none 0 0,.slice none 0 0,.slice none 0 0,.slice none 0 0,.slice none 0 0] 81;have ot:=LP (hr.calm k1) hp (az he k1 (λ_ _=>id)) (by omega);obtain⟨va,vc,zU⟩:∃a c,v=.slice a Q.length c:=by obtain⟨a,c,e,_⟩:=hr;exact⟨a,c,e⟩
 obtain⟨N,hN⟩:=au Q.length;have hN4:1<=N/\N<=4:=by rw[<-hN];exact hp.n
 have Di:=af hp;have ux:=af hr;have Ji:=af hN;rw[hN] at zU;subst zU;obtain⟨ha,hc,Sa⟩:=aG he;obtain⟨NH,CW⟩:=au H.length
 have dQ:Hid (∀i,i<NH->∃g e,ha=some ⟨g,0,none⟩/\H.getD i ⟨0,0,0,0,0,0⟩=e/\e.k≠4/\e.k≠5/\∀W,Calm w W->∀j u,(En.c e)[j]?=some u->W.cell? ⟨g,i*6+j,none⟩=some u):=λi hi=>by
  obtain⟨g,c,e1,e2⟩:=bz (f:=En.c) (λ_=>rfl) (by decide) he ⟨0,0,0,0,0,0⟩ (i:=i) (by omega);rw[Sa] at e1;injection e1 with e1 _ _
  have:=hk _ (get_mem ⟨0,0,0,0,0,0⟩ (show i<H.length by omega));exact⟨g,_,e1,rfl,this.1,this.2,λW c j u hu=>c.cellAt (e2 j u hu).1 id⟩
 rw[CW] at Sa hH;subst Sa;replace CW:=af CW;replace h3:=af h3;replace ng:=af ng;clear he hk hr hp hN;go_in;go_wp2_with fail
 refine ot.mono ?_;rintro e w5 (⟨hn,rfl,c5⟩|⟨aX,M',rp,atv,cz,ms,r,hs,rfl,c5,jG,h1,h2,Um,h5⟩)
 ·rw[ng.out] at hn;cases hn
 have oP:r.tr=tr:=by rw[ng.out] at hs;injection hs with hs;exact hs.symm
 have lq:tr.length<=1000:=by have:=h5.l;rw[oP,CW.out] at this;omega
 have Xv:lj (λb=>b≠w.heap.size) w5 cz tr:=by
  have:=tP.trs (T:=λb=>b≠w.heap.size) h1 h2 (by have:=congrArg List.length Um;rw[List.length_map,oP] at this;omega) (λb hb e=>hb (jG b (by omega)));rw[Um,oP] at this;exact this
 have k5:=k1.trans c5;have o45:=o4.calm c5;have hb4:=o45.lt (by simp);clear ot e1 o4 h1 h2 Um h5 hs oP jG c5 k1;obtain⟨n,hn⟩:=au tr.length;have Qn:=af Xv;obtain⟨ta,tc,qx,jG⟩:=Xv.get;rw[hn] at qx lq;replace jG:=af jG;subst qx;obtain⟨kA,o8⟩:=gL w5 [.slice va N vc,.slice ta n tc,.slice none 0 0,.slice none 0 0,.slice none 0 0,.slice none 0 0] 81;go_upto_region 5 with fail
 obtain⟨W6,lQ⟩:=au (w5.alloc (.cells #[.slice va N vc,.slice ta n tc,.slice none 0 0,.slice none 0 0,.slice none 0 0,.slice none 0 0] 81));rw[lQ] at kA o8 ⊢;have z6:W6.heap.size=w5.heap.size+1:=by rw[<-lQ];simp
 clear lQ
 go_upto_block 0 with (
  at_make
  go_must (refine wpList_make_full _ rfl _ _ 78 rfl W6.heap.size 29 i0 (.agg #[vI 0,vI 0,vI 0,vI 0,vI 0,vI 0]) 6 Tryz.underlying78 hi ie gU .i64 .i64 N N N rfl rfl rfl rfl (by rw[iw];omega) (by unfold maxLen;omega) (aM _) ?_)
  intro w7 cH eU;rw[Oz N hN4.2] at cH;have c7:Calm W6 w7:=Fr.grown aq eU (λk hk=>by cases hk);replace cH:=af cH
  clear eU)
 obtain⟨B8,hB8⟩:=au w5.heap.size;rw[z6] at cH;rw[hB8] at o8 cH ⊢;have um:Hid (L8 w5 B8 (.slice va N vc) (.slice ta n tc) (.slice (some ⟨B8+1,0,none⟩) N N) Q tr N 0 w7):=L8.start (o8.calm c7) (xD cH.out) (by omega) (λb hb=>by obtain rfl:=aB.fg hb;omega) (kA.trans c7);clear o8 cH c7 kA z6;go_wp2_with fail
 go_loopw [31] (λz wr=>∃i:Nat,i<=n/\z=vI i/\L8 w5 B8 (.slice va N vc) (.slice ta n tc) (.slice (some ⟨B8+1,0,none⟩) N N) Q tr N i wr) (λz _=>n-(intOf z).toNat)
 case atStart=>exact⟨0,by omega,rfl,um.out⟩
 case round=>
  obtain⟨i,hi,rfl,hI⟩:=hrel;clear um
  by_cases aZ:i<n
  ·obtain⟨τ,M,wv,rv,H1,H2,ht9,hc⟩:=hI;obtain⟨g,o,av,tv,rfl,hcell,iD,kE⟩:=jG.out i (by omega);obtain⟨q1,q2,q3,q4,q5⟩:=h3.out i (by omega);obtain⟨x,hx⟩:=au (tr.getD i aK);have yU:=af hx;rw[hx] at hcell iD kE q1 q2 q3 q4 q5;obtain⟨th,bl,st,se,fr,dr,aJ,gF,en,bt⟩:=x;simp only[] at iD kE q1 q2 q3 q4 q5;obtain⟨t,rfl⟩:∃t:Nat,th=t:=⟨th.toNat,by omega⟩;obtain⟨b,rfl⟩:∃b:Nat,bl=b:=⟨bl.toNat,by omega⟩;obtain⟨na,ER⟩:=au aJ.length;obtain⟨nt,Bb⟩:=au gF.length;obtain⟨Al,Am,rfl⟩:∃a c,av=.slice a na c:=by obtain⟨a,c,e,_⟩:=iD;exact⟨a,c,by rw[<-ER];exact e⟩
   obtain⟨Ec,Ed,rfl⟩:∃a c,tv=.slice a nt c:=by obtain⟨a,c,e,_⟩:=kE;exact⟨a,c,by rw[<-Bb];exact e⟩
   have abO:=af ER;have zS:t<N:=by rw[<-Ji.out];omega
   have x0:=hcell wr hc 0 _ rfl;have x1:=hcell wr hc 1 _ rfl;have x2:=hcell wr hc 2 _ rfl;have x3:=hcell wr hc 3 _ rfl;have x4:=hcell wr hc 4 _ rfl;have x5:=hcell wr hc 5 _ rfl;have x6:=hcell wr hc 6 _ rfl;have x7:=hcell wr hc 7 _ rfl;have x8:=hcell wr hc 8 _ rfl;have x9:=hcell wr hc 9 _ rfl;rw[fj] at x0;simp only[] at x0 x1 x2 x3 x4 x5 x6 x7 x8 x9;obtain⟨kA,oA⟩:=gL wr [vI (t:Int),vI (b:Int),vI st,vI se,vI fr,vI dr,.slice Al na Am,.slice Ec nt Ed,vI en,vI bt] 89;have Sc:decide ((i:Int)<n)=true:=decide_eq_true (by omega);clear hcell kE Bb;have iD:=af iD;go_upto_region 9 with fail
   obtain⟨W7,sU⟩:=au (wr.alloc (.cells #[vI (t:Int),vI (b:Int),vI st,vI se,vI fr,vI dr,.slice Al na Am,.slice Ec nt Ed,vI en,vI bt] 89));rw[sU] at kA oA ⊢;have z7:W7.heap.size=wr.heap.size+1:=by rw[<-sU];simp
   clear sU x0 x1 x2 x3 x4 x5 x6 x7 x8 x9;obtain⟨Cn,V6⟩:=au wr.heap.size;rw[V6] at oA z7 ⊢;have or0:=H2.or H1;have XQ:¬aB wv Cn:=λe=>by have:=((H2.ow H1).lt e).2;omega
   have aao:=(H2.b8 H1).lt (by simp);rw[V6] at aao;have H1:=H1.calm kA;have hc:=hc.trans kA;obtain⟨g8,g2',VV,g4'⟩:=H2.tg H1;have or3:=H2.or H1;rw[Fp] at or3;have o8:=H2.b8 H1;have abu:=o8.lt (by simp);obtain⟨g5,c5,N5,p_⟩:=bz fU (by decide) (H2.ox H1) [] (i:=t) (by rw[kU];exact zS)
   have Mh:B8+1=g5:=by
    injection N5 with e1 _ _
    injection e1 with e1
    injection e1
   subst Mh;clear N5;rw[Kr Q tr zS] at p_;have Dm:=Ft Q t (tr.take i);obtain⟨r,hr⟩:=au (gA Q (tr.take i) t);have UG:=af hr;rw[hr] at p_ Dm;obtain⟨s0,s1,s2,s3,s4,s5,rfl⟩:=oV Dm;clear hr Dm hx;have w0:=(p_ 0 _ rfl).1;have w1:=(p_ 1 _ rfl).1;have w2:=(p_ 2 _ rfl).1;have w3:=(p_ 3 _ rfl).1;have w4:=(p_ 4 _ rfl).1;have w5':=(p_ 5 _ rfl).1;rw[fj (t*6)] at w0;simp only[List.getD_cons_zero,List.getD_cons_succ] at w0 w1 w2 w3 w4 w5';have nB8:¬aB rv B8:=λe=>by have:=VV _ e;omega
   have Tg:¬aB rv Cn:=λe=>by have:=(World.ownsRow.lt or0 _ e).2;omega
   have Th:¬aB rv (B8+1):=λe=>by have h1:=VV _ e;have h2:=g4' _ (aB.mk.2 rfl);omega
   clear p_ ER;have y83:=(o8 3 _ rfl).1;have ya0:=(oA 0 _ rfl).1;have t0:(0:Int)<=(t:Int):=by omega
   have t1:(t:Int)<N:=by omega
   go_upto_region 9 with fail
   have kd:Calm W7 W7.drew:=aq.drew;refine iG (Way.reads [0,1,2,3,4,5,6] (.step 7 (.step 8 .fin))) 9 (λw'=>Fr (aB rv) W7 w') (by kernel_rfl) (by kernel_rfl) kd.any ?_;refine ay (.pointer (some ⟨B8,3,none⟩)) rfl rfl (λw' hw'=>?_) ai ?_
   ·simp[go_sem]
   refine ay (rv) rfl rfl (λw' hw'=>?_) ai ?_
   ·have f1:=hw'.cellAt y83 nB8;simp[go_sem,f1]
   refine ay (.slice (some ⟨B8+1,0,none⟩) N N) rfl rfl (λw' hw'=>?_) ai ?_
   ·simp[go_sem]
   refine ay (aR Cn) rfl rfl (λw' hw'=>?_) ai ?_
   ·simp[go_sem]
   refine ay (vI (t:Int)) rfl rfl (λw' hw'=>?_) ai ?_
   ·have f1:=hw'.cellAt ya0 Tg;simp[go_sem,f1]
   refine ay (.pointer (some ⟨B8+1,t*6,none⟩)) rfl rfl (λw' hw'=>?_) ai ?_
   ·simp[go_sem,zS]
   refine ay (.agg #[vI s0,vI s1,vI s2,vI s3,vI s4,vI s5]) rfl rfl (λw' hw'=>?_) ai ?_
   ·have f0:=hw'.cellAt w0 Th;have f1:=hw'.cellAt w1 Th;have f2:=hw'.cellAt w2 Th;have f3:=hw'.cellAt w3 Th;have f4:=hw'.cellAt w4 Th;have f5:=hw'.cellAt w5' Th;simp[go_sem,f0,f1,f2,f3,f4,f5]
   have kB:Calm W7 (W7.drew.alloc (.cells #[vI s0,vI s1,vI s2,vI s3,vI s4,vI s5] 29)):=kd.alloc _;refine aI rfl rfl ?_;unfold Oper.wp;go_simp
   first|refine⟨kB.any,?_⟩|skip
   have lJ:=az or3 kB (λ_ _=>id);refine aI rfl rfl ?_;refine Eq.mp (if_pos (show Region.wanted _ (yielded _ _)=true from rfl)) (gu (ops:=#[]) (E:=True) aai rfl (.tmp 37) (.tmp 43) rfl rv i _ lJ (by kernel_rfl) (iy [s0,s1,s2,s3,s4,s5]) rfl (Fq _) ⟨Cn+1,0,none⟩ 1 (by kernel_rfl) (λj u hj=>by rw[cT];simp only[fk];have h9:=gW W7.drew (iy [s0,s1,s2,s3,s4,s5]) 29 j hj;rwa [show W7.drew.heap.size=Cn+1 from z7] at h9) (by omega) ?_);intro g9 c9 w8 vO f8 xd;refine⟨kB.any.trans f8,cg ?_⟩;have Y1:=hc.trans kB
   obtain⟨eY,M2,Hz,Ma,kk2⟩:=H2.regs (H1.calm kB) (rv':=.slice (some ⟨g9,0,none⟩) (i+1) c9) (r:=[s0,s1,s2,s3,s4,s5]) (by rw[Fp];exact vO) f8 (λb hb=>by
    obtain rfl:=aB.fg hb;rcases xd with e|e
    ·exact .inl e
    ·exact .inr (Nat.le_of_eq e.symm))
   rw[show Ld Q tr i++[[s0,s1,s2,s3,s4,s5]]=Ld Q tr (i+1) by rw[Le,yU.out];show _=_++[gA Q (tr.take i) t];rw[UG.out]] at Ma;obtain⟨yS,dW⟩:=kk2.at ht9 Y1;have o88:=(o8.calm kB).fr f8 nB8;have y30:=(o88 3 _ rfl).1;have y31:=(o88 3 _ rfl).2;have f9:=l_ w8 (B8) 3 (.slice (some ⟨g9,0,none⟩) (i+1) c9);have uH:=((oA.calm kB).fr f8 Tg).fr f9 (by omega);clear oA o8 o88 f9 f8 xd vO lJ kB kd H1 H2 kk2 Y1 or3 or0 g2' VV g4' nB8 Tg Th w0 w1 w2 w3 w4 w5' y83 ya0 ht9 g8 kA;go_upto_region 10 with fail
   obtain⟨W9,vq⟩:=au (w8.setCell ⟨B8,3,none⟩ (.slice (some ⟨g9,0,none⟩) (i+1) c9));rw[vq] at Hz dW uH ⊢;clear vq y30 y31;have a0:=(uH 0 _ rfl).1;have a1:=(uH 1 _ rfl).1;have a2:=(uH 2 _ rfl).1;have a3:=(uH 3 _ rfl).1;have a4:=(uH 4 _ rfl).1;have a5:=(uH 5 _ rfl).1;have a6:=(uH 6 _ rfl).1;have a7:=(uH 7 _ rfl).1;have a8:=(uH 8 _ rfl).1;have a9:=(uH 9 _ rfl).1;have ow:=xQ W9 (t:Int) (b:Int) st se fr dr en bt (.slice Al na Am) (.slice Ec nt Ed);go_wp2_with fail
   refine ow.mono ?_;rintro e uZ ⟨rfl,E0⟩;clear ow a0 a1 a2 a3 a4 a5 a6 a7 a8 a9;have Hz:=Hz.calm E0;have dW:=dW.trans E0;have uH:=uH.calm E0;have J3:Hid (lh (tr.getD i aK)=(en==1 && decide (1<=bt))):=by show _=_;rw[yU.out];rfl
   go_upto_if 47 with fail
   go_cut [] (λwx=>∃τ M wv rv,bF wx τ M/\tT M B8 (.slice va N vc) (.slice (some ⟨g,o,none⟩) n tc) wv rv (.slice (some ⟨B8+1,0,none⟩) N N) (qy (iz tr (i+1))) (Ld Q tr (i+1)) (tB Q tr N i)/\(∀b,b<w5.heap.size->τ b=10000)/\Calm w5 wx/\ag wx Cn [vI (t:Int),vI (b:Int),vI st,vI se,vI fr,vI dr,.slice Al na Am,.slice Ec nt Ed,vI en,vI bt])
   case first=>
    cases hbw:(en==1 && decide (1<=bt)) with
    | false=>
      have hF:Hid (∃τ M wv rv,bF uZ τ M/\tT M B8 (.slice va N vc) (.slice (some ⟨g,o,none⟩) n tc) wv rv (.slice (some ⟨B8+1,0,none⟩) N N) (qy (iz tr (i+1))) (Ld Q tr (i+1)) (tB Q tr N i)/\(∀b,b<w5.heap.size->τ b=10000)/\Calm w5 uZ/\ag uZ Cn [vI (t:Int),vI (b:Int),vI st,vI se,vI fr,vI dr,.slice Al na Am,.slice Ec nt Ed,vI en,vI bt]):=by
       refine⟨eY,M2,wv,.slice (some ⟨g9,0,none⟩) (i+1) c9,Hz,?_,yS,dW,uH⟩;rw[rD,J3.out,hbw,if_neg (by decide),List.append_nil];exact Ma
      clear Hz Ma yS dW uH J3;go_wp2;go_meet;exact hF.out
    | true=>
      have o8:=Ma.b8 Hz;have Lj:=Ma.ow Hz;obtain⟨wa,wc,vy⟩:=Lj.slice;obtain⟨nw,nK⟩:=au ((qy (iz tr i)).length);have abR:nw<=1000:=by rw[<-nK];unfold qy;rw[List.length_map];have:=vg tr i;omega
      unfold bm at Lj;rw[nK] at vy Lj;subst vy;have nJ:¬aB (.slice wa nw wc) B8:=λe=>by have h1:=(Ma.tg Hz).1;have h2:=(Ma.tg Hz).2.1 _ e;omega
      have y20:=(o8 2 _ rfl).1;have kI:Calm uZ (uZ.alloc (.cells #[vI (i:Int)] 3)):=aq.alloc _;have lJ:=af (az Lj kI (λ_ _=>id));have abQ:=af nK
      have cy:Hid (∀gg c w7,w7.ownsRow 0 3 1 (.slice (some ⟨gg,0,none⟩) (nw+1) c) (nw+1) (lu (qy (iz tr i))++[vI (i:Int)])->Fr (aB (.slice wa nw wc)) (uZ.alloc (.cells #[vI (i:Int)] 3)) w7->(aB (.slice wa nw wc) gg\/gg=(uZ.alloc (.cells #[vI (i:Int)] 3)).heap.size)->Own w7 B8 2 (.slice wa nw wc)/\∃τ M wv rv,bF (w7.setCell ⟨B8,2,none⟩ (.slice (some ⟨gg,0,none⟩) (nw+1) c)) τ M/\tT M B8 (.slice va N vc) (.slice (some ⟨g,o,none⟩) n tc) wv rv (.slice (some ⟨B8+1,0,none⟩) N N) (qy (iz tr (i+1))) (Ld Q tr (i+1)) (tB Q tr N i)/\(∀b,b<w5.heap.size->τ b=10000)/\Calm w5 (w7.setCell ⟨B8,2,none⟩ (.slice (some ⟨gg,0,none⟩) (nw+1) c))/\ag (w7.setCell ⟨B8,2,none⟩ (.slice (some ⟨gg,0,none⟩) (nw+1) c)) Cn [vI (t:Int),vI (b:Int),vI st,vI se,vI fr,vI dr,.slice Al na Am,.slice Ec nt Ed,vI en,vI bt]):=λg7 c7 w7 Cu f7 Db=>by
       obtain⟨Hs,M3,Un,VZ,k3⟩:=Ma.abg (Hz.calm kI) (wv':=.slice (some ⟨g7,0,none⟩) (nw+1) c7) (r:=(i:Int)) (by rw[nK];exact Cu) f7 (λb hb=>by
        obtain rfl:=aB.fg hb;rcases Db with e|e
        ·exact .inl e
        ·exact .inr (Nat.le_of_eq e.symm))
       obtain⟨Xo,wZ⟩:=k3.at yS (dW.trans kI);have o87:=(o8.calm kI).fr f7 nJ;refine⟨o87 2 _ rfl,Hs,M3,.slice (some ⟨g7,0,none⟩) (nw+1) c7,.slice (some ⟨g9,0,none⟩) (i+1) c9,Un,?_,Xo,wZ,((uH.calm kI).fr f7 XQ).fr ((Fr.refl (λk=>k=B8) w7).setCell (p:=⟨B8,2,none⟩) (.inl rfl) _) (by omega)⟩;rw[rD,J3.out,hbw,if_pos rfl];unfold qy at VZ ⊢;rw[List.map_append];exact VZ
      clear Hz Ma yS dW uH J3 Lj o8 nK nJ XQ kI
      go_wp2_with (
       at_builtin
       go_must (refine gy VW rfl _ _ rfl (.slice wa nw wc) nw _ lJ.out rfl [vI (i:Int)] rfl (by simp[Value.oneCell']) ⟨uZ.heap.size,0,none⟩ 1 rfl (cell_one_new _ _ _) (by omega) ?_)
       intro g7 c7 w7 Cu f7 Db;obtain⟨hz,hF⟩:=cy.out g7 c7 w7 Cu f7 Db;have ie:=hz.1;have gU:=hz.2;replace hF:=af hF
       clear cy Cu f7 Db hz lJ)
      go_meet;exact hF.out
   case rest=>
    clear Hz Ma yS dW uH J3;obtain⟨τ,M,wv,rv,H1,H2,ht,hc,oA⟩:=hcut;have a0:=(oA 0 _ rfl).1;have a1:=(oA 1 _ rfl).1;have a2:=(oA 2 _ rfl).1;have a3:=(oA 3 _ rfl).1;have a4:=(oA 4 _ rfl).1;have a5:=(oA 5 _ rfl).1;have a6:=(oA 6 _ rfl).1;have a7:=(oA 7 _ rfl).1;have a8:=(oA 8 _ rfl).1;have a9:=(oA 9 _ rfl).1
    by_cases HT:en=1
    ·have e1:(en==1)=true:=by simp[HT]
     obtain⟨pa,pc,py,xf⟩:=ux.out;have epa:va=pa:=by injection py
     subst epa;clear py;obtain⟨gp,op,uv,rfl,-,H9,P8⟩:=xf t (by omega);obtain⟨ba,bc,rfl,Ny⟩:=P8;obtain⟨NB,oH⟩:=au ((Q.getD t []).length);have Gn:b<NB:=by rw[<-oH];have:(Q.getD (t:Int).toNat []).length=(Q.getD t []).length:=rfl;omega
     rw[oH] at H9 Ny;obtain⟨gb,ob,dv,rfl,-,RT,hdd⟩:=Ny b Gn;have kw:=k5.trans hc;have p1:∀w',Calm wc w'->w'.cell? ⟨gp,op+t,none⟩=some (.slice (some ⟨gb,ob,none⟩) NB bc):=λw' c=>(kw.trans c).cellAt H9 id;have p2:∀w',Calm wc w'->w'.cell? ⟨gb,ob+b,none⟩=some dv:=λw' c=>(kw.trans c).cellAt RT id;have p3:∀w',Calm wc w'->w'.cell? ⟨Cn,0,none⟩=some (vI (t:Int)):=λw' c=>c.cellAt a0 id;have p4:∀w',Calm wc w'->w'.cell? ⟨Cn,1,none⟩=some (vI (b:Int)):=λw' c=>c.cellAt a1 id;have p5:∀w',Calm wc w'->w'.cell? ⟨Cn,6,none⟩=some (.slice Al na Am):=λw' c=>c.cellAt a6 id;obtain⟨g5,c5,N5,p_⟩:=bz fU (by decide) (H2.ox H1) [] (i:=t) (by rw[kU];exact zS)
     have Mh:B8+1=g5:=by
      injection N5 with e1 _ _
      injection e1 with e1
      injection e1
     subst Mh;clear N5;rw[Kr Q tr zS,UG.out] at p_;have q6:∀w',Calm wc w'->w'.cell? ⟨B8+1,t*6,none⟩=some (vI s0)/\w'.cell? ⟨B8+1,t*6+1,none⟩=some (vI s1)/\w'.cell? ⟨B8+1,t*6+2,none⟩=some (vI s2)/\w'.cell? ⟨B8+1,t*6+3,none⟩=some (vI s3)/\w'.cell? ⟨B8+1,t*6+4,none⟩=some (vI s4)/\w'.cell? ⟨B8+1,t*6+5,none⟩=some (vI s5):=λw' c=>⟨c.cellAt (p_ 0 _ rfl).1 id,c.cellAt (p_ 1 _ rfl).1 id,c.cellAt (p_ 2 _ rfl).1 id,c.cellAt (p_ 3 _ rfl).1 id,c.cellAt (p_ 4 _ rfl).1 id,c.cellAt (p_ 5 _ rfl).1 id⟩;have sW:bU Q (t:Int) (b:Int)=(Q.getD t []).getD b []:=rfl;have hdr:∀d∈bU Q (t:Int) (b:Int),d.Rt:=Di.out.r t (by omega) b (by omega);have hd6:=(Di.out.d t (by omega) b (by omega)).2;have org:=af (λW (c:Calm wc W)=>O2 (w:=W) (hdd.calm (kw.trans c)) hdr (iD.out.calm (hc.trans c)) q5 (by omega) (R:=[s0,s1,s2,s3,s4,s5]) rfl);obtain⟨RR,yz⟩:=au (rX ((Q.getD t []).getD b []) aJ 0 [s0,s1,s2,s3,s4,s5]);have hY:(tB Q tr N i).set t RR=tB Q tr N (i+1):=by rw[<-yz,<-OM (by omega) (by rw[yU.out];exact HT) zS (by rw[yU.out]),yU.out,UG.out];rfl
     have abE:=af yz;rw[yz] at org;have oxn:=H2.ox H1;rw[kU] at oxn
     have cy:Hid (∀CB Ho,Calm wc CB->Ho.ownsRow 0 29 6 (.slice (some ⟨B8+1,0,none⟩) N N) N (((tB Q tr N i).set t RR).flatMap iy)->Fr (λk=>k=B8+1) CB Ho->L8 w5 B8 (.slice (some ⟨gp,op,none⟩) N vc) (.slice (some ⟨g,o,none⟩) n tc) (.slice (some ⟨B8+1,0,none⟩) N N) Q tr N (i+1) Ho):=λCB Ho c r f=>by
      obtain⟨Hs,M3,Un,VZ,k3⟩:=H2.now (H1.calm c) (Y:=(tB Q tr N i).set t RR) (by rw[bE]) (by rw[kU];exact r) (f.mono λk _ e=>by rw[e];exact aB.mk.2 rfl);obtain⟨Xo,wZ⟩:=k3.at ht (hc.trans c);rw[hY] at VZ;exact⟨Hs,M3,wv,rv,Un,VZ,Xo,wZ⟩
     replace sW:=af sW;clear p_ H1 H2 ht hdr hd6 H9 RT xf Ny hdd yz hY HT oH kw q1 q2 q3 q4 q5 oA a0 a1 a2 a3 a4 a5 a6 a7 a9;go_upto_region 13 with fail
     have kd:Calm wc wc.drew:=aq.drew;refine iG (Way.reads [0,1,2,3,4,5,6,7,8,9,10,11,12,13,14,15,16,17,18] (.step 19 (.read 20 .fin))) 21 (λw'=>Calm wc w') (by kernel_rfl) (by kernel_rfl) kd ?_;refine ay (.slice (some ⟨B8+1,0,none⟩) N N) rfl rfl (λw' hw'=>?_) ai ?_
     ·simp[go_sem]
     refine ay (aR Cn) rfl rfl (λw' hw'=>?_) ai ?_
     ·simp[go_sem]
     refine ay (vI (t:Int)) rfl rfl (λw' hw'=>?_) ai ?_
     ·have f1:=p3 w' hw';simp[go_sem,f1]
     refine ay (.slice (some ⟨B8+1,0,none⟩) N N) rfl rfl (λw' hw'=>?_) ai ?_
     ·simp[go_sem]
     refine ay (aR Cn) rfl rfl (λw' hw'=>?_) ai ?_
     ·simp[go_sem]
     refine ay (vI (t:Int)) rfl rfl (λw' hw'=>?_) ai ?_
     ·have f1:=p3 w' hw';simp[go_sem,f1]
     refine ay (.pointer (some ⟨B8+1,t*6,none⟩)) rfl rfl (λw' hw'=>?_) ai ?_
     ·simp[go_sem,zS]
     refine ay (.agg #[vI s0,vI s1,vI s2,vI s3,vI s4,vI s5]) rfl rfl (λw' hw'=>?_) ai ?_
     ·obtain⟨f0,f1,f2,f3,f4,f5⟩:=q6 w' hw';simp[go_sem,f0,f1,f2,f3,f4,f5]
     refine ay (.slice (some ⟨gp,op,none⟩) N vc) rfl rfl (λw' hw'=>?_) ai ?_
     ·simp[go_sem]
     refine ay (aR Cn) rfl rfl (λw' hw'=>?_) ai ?_
     ·simp[go_sem]
     refine ay (vI (t:Int)) rfl rfl (λw' hw'=>?_) ai ?_
     ·have f1:=p3 w' hw';simp[go_sem,f1]
     refine ay (.pointer (some ⟨gp,op+t,none⟩)) rfl rfl (λw' hw'=>?_) ai ?_
     ·simp[go_sem,zS]
     refine ay (.slice (some ⟨gb,ob,none⟩) NB bc) rfl rfl (λw' hw'=>?_) ai ?_
     ·have f1:=p1 w' hw';simp[go_sem,f1]
     refine ay (.pointer (some ⟨Cn,1,none⟩)) rfl rfl (λw' hw'=>?_) ai ?_
     ·simp[go_sem]
     refine ay (vI (b:Int)) rfl rfl (λw' hw'=>?_) ai ?_
     ·have f1:=p4 w' hw';simp[go_sem,f1]
     refine ay (.pointer (some ⟨gb,ob+b,none⟩)) rfl rfl (λw' hw'=>?_) ai ?_
     ·simp[go_sem,Gn]
     refine ay (dv) rfl rfl (λw' hw'=>?_) ai ?_
     ·have f1:=p2 w' hw';simp[go_sem,f1]
     refine ay (.pointer (some ⟨Cn,6,none⟩)) rfl rfl (λw' hw'=>?_) ai ?_
     ·simp[go_sem]
     refine ay (.slice Al na Am) rfl rfl (λw' hw'=>?_) ai ?_
     ·have f1:=p5 w' hw';simp[go_sem,f1]
     refine aI rfl rfl ?_;have o9:=org.out _ kd;go_wp2_with fail
     refine o9.mono ?_;rintro PZ CB ⟨rfl,zV⟩;have Zr:=kd.trans zV;refine⟨Zr,?_⟩;refine ay (.pointer (some ⟨B8+1,t*6,none⟩)) rfl rfl (λw' hw'=>?_) ai ?_
     ·simp[go_sem,zS]
     refine cg ?_;have lJ:=af (az oxn Zr (λ_ _=>id));clear o9 org p1 p2 p3 p4 p5 q6 oxn zV kd
     go_wp2_with (
      refine rB (f:=iy) (k:=6) (ety:=29) fU (by decide) [] (by kernel_rfl) rfl _ _ rfl (g:=B8+1) (N:=N) (c:=N) (i:=t) (Y:=tB Q tr N i) RR (by rfl) (by rfl) (all_oneCell_toArray (Fq RR)) lJ.out (kU Q tr N i) zS ?_;intro Ho Be f12;have hF:=af (cy.out CB Ho Zr Be f12)
      clear cy Be f12 lJ Zr)
     exact⟨⟨i+1,by omega,by simp,hF.out⟩,by simp[intOf] <;> omega⟩
    ·have e1:(en==1)=false:=by simp[HT]
     have hF:Hid (L8 w5 B8 (.slice va N vc) (.slice (some ⟨g,o,none⟩) n tc) (.slice (some ⟨B8+1,0,none⟩) N N) Q tr N (i+1) wc):=by
      refine⟨τ,M,wv,rv,H1,?_,ht,hc⟩;rw[Ks (by omega) (by rw[yU.out];exact HT)];exact H2
     clear H1 H2 ht hc oA HT;go_wp2;exact⟨⟨i+1,by omega,by simp,hF.out⟩,by simp[intOf] <;> omega⟩
  ·obtain rfl:i=n:=by omega
   have jL:decide ((i:Int)<i)=false:=decide_eq_false (by omega);obtain⟨wv,rv,o8,qb,hc⟩:=L8.aa7 (T:=λb=>b≠w.heap.size) (by rw[hn];exact hI) ((ux.out.mono (T':=λb=>b≠w.heap.size) (λb hb _=>by show b≠_;omega)).calm k5) Qn.out (λb hb=>by show b≠_;omega);clear hI;obtain⟨WR,hWR⟩:∃WR,WR=wr:=⟨_,rfl⟩;subst hWR;obtain⟨wa,wc,vy⟩:∃a c,wv=.slice a (qy (iz tr tr.length)).length c:=by obtain⟨a,c,e,_⟩:=qb.ws;exact⟨a,c,e⟩
   obtain⟨ra,rc,Oa⟩:∃a c,rv=.slice a ((List.range tr.length).map λk=>gA Q (tr.take k) (tr.getD k aK).th.toNat).length c:=by obtain⟨a,c,e,_⟩:=qb.r;exact⟨a,c,e⟩
   obtain⟨nw,nK⟩:=au ((qy (iz tr tr.length)).length);obtain⟨nr,Sp⟩:=au (((List.range tr.length).map λk=>gA Q (tr.take k) (tr.getD k aK).th.toNat).length);rw[nK] at vy;rw[Sp] at Oa;subst vy Oa;have qb:=af qb;have o8:=af o8;have k6:=k5.trans hc;have o46:=o45.calm hc;replace nK:=af nK;replace Sp:=af Sp;replace hn:=af hn;clear k5 hc o45 jG h3 Di ux Qn;go_wp2_with fail
   go_loopw [81] (λz wx=>∃q:Nat,q<=NH/\z=vI q/\Calm WR wx) (λz _=>NH-(intOf z).toNat)
   case atStart=>exact⟨0,by omega,rfl,aq⟩
   case round=>
    obtain⟨q,hq,rfl,cx⟩:=hrel;have k7:=k6.trans cx
    by_cases hlq:q<NH
    ·obtain⟨g,e,rfl,-,e4,e5,hcell⟩:=dQ.out q hlq;obtain⟨et,eb,en,ek,eE,ev⟩:=e;have x0:=hcell wr k7 0 _ rfl;have x1:=hcell wr k7 1 _ rfl;have x2:=hcell wr k7 2 _ rfl;have x3:=hcell wr k7 3 _ rfl;have x4:=hcell wr k7 4 _ rfl;have x5:=hcell wr k7 5 _ rfl;rw[fj] at x0;simp only[] at x0 x1 x2 x3 x4 x5 e4 e5;have hF:Hid (Calm WR (wr.alloc (.cells #[vI et,vI eb,vI en,vI ek,vI eE,vI ev] 76))):=cx.alloc _;have b4:(ek==4)=false:=by simp[e4]
     have b5:(ek==5)=false:=by simp[e5]
     have aZ:decide ((q:Int)<NH)=true:=decide_eq_true (by omega);clear hcell e4 e5 cx k7;go_wp2;exact⟨⟨q+1,by omega,by simp,hF.out⟩,by simp[intOf] <;> omega⟩
    ·obtain rfl:q=NH:=by omega
     have NN:decide ((q:Int)<q)=false:=decide_eq_false (by omega);have o4:=o46.calm cx;have o9:=o8.out.calm cx;have U:=o4.whole (us:=[.slice va N vc,.slice ta i tc,.slice wa nw wc,.slice ra nr rc,.slice none 0 0,.slice none 0 0]) rfl;have F:=rG wr (w.heap.size) 0 [.slice va N vc,.slice ta i tc,.slice wa nw wc,.slice ra nr rc,.slice none 0 0,.slice none 0 0];have hP:ReP w Q tr (.slice va N vc) (.returned (.tuple #[.agg #[.slice va N vc,.slice ta i tc,.slice wa nw wc,.slice ra nr rc,.slice none 0 0,.slice none 0 0],.bool true])) (wr.setCells w.heap.size 0 [.slice va N vc,.slice ta i tc,.slice wa nw wc,.slice ra nr rc,.slice none 0 0,.slice none 0 0]):=⟨_,_,_,_,rfl,k7.join F (λj hj e=>by omega),(qb.out.calm cx).fr F (λb hb e=>hb e),by rw[hn.out];exact lq⟩;replace hP:=af hP;replace U:=af U;obtain⟨x0,x1,x2,x3,x4,x5⟩:=ag.t_ o9;have y0:=(o4 0 _ rfl).1;have wD:=(o4 0 _ rfl).2;have y1:=(o4 1 _ rfl).1;have wE:=(o4 1 _ rfl).2;have y2:=(o4 2 _ rfl).1;have wF:=(o4 2 _ rfl).2;have y3:=(o4 3 _ rfl).1;have yy3:=(o4 3 _ rfl).2;have y4:=(o4 4 _ rfl).1;have yy4:=(o4 4 _ rfl).2;have y5:=(o4 5 _ rfl).1;have yy5:=(o4 5 _ rfl).2;clear o4 o9 F o8 o46 qb cx k7;go_wp2;exact bodyPost_ret (v:=.tuple #[.agg #[.slice va N vc,.slice ta i tc,.slice wa nw wc,.slice ra nr rc,.slice none 0 0,.slice none 0 0],.bool true]) (TB (i:=4) (j:=5) rfl rfl rfl U.out) rfl hP.out
theorem Hq{T0:Nat->Prop}{w:aj}{v hv:aC}{Q:Pg}{H:List En}{tr:List Tr}{n:Nat}{ms:Nat->List Mo}{wt:Nat->Nat}(hr:dJ T0 w v Q)(hp:tL Q)(he:w.ownsRow 0 76 6 hv H.length (H.flatMap En.c))(hH:H.length<=1000)(ng:tries Q H=some tr)(hk:∀x∈H,x.k≠4/\x.k≠5)(hx:L5 Q tr n ms wt)(Ml:n<=8) :
 aL prog 11 #[v,hv] w (λe w'=>e=.returned (vI (-1))/\Calm w w'):=by
 have ord:=L1 hr hp he hH ng hk (λk hk=>by obtain⟨a,b,c,d,_,e,_⟩:=hx.t3 k hk;exact⟨a,b,c,d,e⟩);obtain⟨va,vc,zU⟩:∃a c,v=.slice a Q.length c:=by obtain⟨a,c,e,_⟩:=hr;exact⟨a,c,e⟩
 obtain⟨NQ,ji⟩:=au Q.length;rw[ji] at zU;subst zU;obtain⟨ha,hc,rfl⟩:∃a c,hv=.slice a H.length c:=aG he;obtain⟨NH,CW⟩:=au H.length;rw[CW] at ord ⊢;have hp:=af hp;have hx:=af hx;replace ji:=af ji;clear hr he hk ng CW hH;go_in;go_wp2_with fail
 refine ord.mono ?_;rintro e w1 ⟨cz,wv,rv,T,rfl,c1,hP,hn⟩;clear ord;obtain⟨ta,tc,qx,jG⟩:=hP.t.get;obtain⟨wa,YG,vy⟩:∃a c,wv=.slice a (qy (iz tr tr.length)).length c:=by obtain⟨a,c,e,_⟩:=hP.ws;exact⟨a,c,e⟩
 obtain⟨ra,rc,Oa⟩:∃a c,rv=.slice a ((List.range tr.length).map λk=>gA Q (tr.take k) (tr.getD k aK).th.toNat).length c:=by obtain⟨a,c,e,_⟩:=hP.r;exact⟨a,c,e⟩
 obtain⟨nw,nK⟩:=au ((qy (iz tr tr.length)).length);obtain⟨nr,Sp⟩:=au (((List.range tr.length).map λk=>gA Q (tr.take k) (tr.getD k aK).th.toNat).length);obtain⟨NT,yy⟩:=au tr.length;rw[nK] at vy;rw[Sp] at Oa;rw[yy] at qx;subst qx vy Oa;have hP:=af (λW (c:Calm w1 W)=>hP.calm c);have jG:=af jG;have aap:NT<=1000:=by omega
 replace nK:=af nK;replace Sp:=af Sp;replace yy:=af yy;replace hn:=af hn;obtain⟨kA,o5⟩:=gL w1 [.slice va NQ vc,.slice ta NT tc,.slice wa nw YG,.slice ra nr rc,.slice none 0 0,.slice none 0 0] 81;go_upto_region 4 with fail
 obtain⟨W2,iA⟩:=au (w1.alloc (.cells #[.slice va NQ vc,.slice ta NT tc,.slice wa nw YG,.slice ra nr rc,.slice none 0 0,.slice none 0 0] 81));rw[iA] at kA o5 ⊢;clear iA;obtain⟨B5,hB5⟩:=au w1.heap.size;rw[hB5] at o5 ⊢;replace hB5:=af hB5;have om:=Eg hp.out hx.out Ml (hP.out W2 kA) hn.out;obtain⟨p0,p1,p2,p3,p4,p5⟩:=ag.t_ o5;go_wp2_with fail
 refine om.mono ?_;rintro e w3 ⟨mv,dv,rfl,hM,hD,c3⟩;clear om p0 p1 p2 p3 p4 p5;obtain⟨ma,cm,rfl,Zb⟩:=hM;obtain⟨gm,om,vm0,mm0,rfl,-⟩:=Zb 0 (by omega)
 have Zb:Hid (∀u,u<=n->∃v Fg T,(Fg:List fW).map (·.x)=ms u/\bL T w3 v Fg/\∀W,Calm w3 W->W.cell? ⟨gm,om+u*2,none⟩=some v/\W.cell? ⟨gm,om+u*2+1,none⟩=some (.slice none 0 0)):=λu hu=>by
  obtain⟨g,o,v,Fg,e1,e2,e3,e4,e5⟩:=Zb u hu;injection e1 with e1
  injection e1 with e1 e6 _
  subst e1 e6;exact⟨v,Fg,_,e4,e5,λW c=>⟨c.cellAt e2 id,c.cellAt e3 id⟩⟩
 obtain⟨da,dc,rfl,yH⟩:=hD;rw[qg]
 have yH:Hid (∀u,1<=u->u<=n->∃g o,da=some ⟨g,o,none⟩/\∀W,Calm w3 W->W.cell? ⟨g,o+u,none⟩=some (vI (wt u:Int))):=λu h1 h2=>by
  obtain⟨g,o,e1,_,e2⟩:=yH u (by rw[qg];omega);rw[Tb wt h1 h2] at e2;exact⟨g,o,e1,λW c=>c.cellAt e2 id⟩
 have k13:Calm w1 w3:=kA.trans c3;have kw3:=c1.trans k13;have jH:=o5.calm c3;clear kA c3 o5 c1;have y1:=(jH 1 _ rfl).1;go_wp2_with fail
 go_loopw [29] (λz wr=>∃k:Nat,k<=NT/\z=vI k/\Calm w3 wr) (λz _=>NT-(intOf z).toNat)
 case atStart=>exact⟨0,by omega,rfl,aq⟩
 case round=>
  obtain⟨k,hk,rfl,cr⟩:=hrel;clear y1
  by_cases aZ:k<NT
  ·have HY:k<tr.length:=by rw[yy.out];exact aZ
   obtain⟨g,o,av,tv,rfl,hcell,iD,kE⟩:=jG.out k HY;obtain⟨Yx,t1b⟩:=hx.out.t1 k HY;obtain⟨y,t2⟩:=hx.out.t2 k HY;have t3:=hx.out.t3 k HY;have w2:=hx.out.w2 k HY;obtain⟨x,rR⟩:=au (tr.getD k aK);have aa3:=af rR;rw[rR] at hcell iD kE Yx t1b w2;obtain⟨th,bl,st0,se,fr,dr,aJ,gF,en,bt⟩:=x;simp only[] at iD kE Yx t1b w2;obtain⟨st,rfl⟩:∃st:Nat,st0=st:=⟨cw tr fr,Yx.symm⟩;obtain⟨na,ER⟩:=au aJ.length;obtain⟨nt,Bb⟩:=au gF.length;obtain⟨Al,Am,rfl⟩:∃a c,av=.slice a na c:=by obtain⟨a,c,e,_⟩:=iD;exact⟨a,c,by rw[<-ER];exact e⟩
   obtain⟨Ec,Ed,rfl⟩:∃a c,tv=.slice a nt c:=by obtain⟨a,c,e,_⟩:=kE;exact⟨a,c,by rw[<-Bb];exact e⟩
   have kr:=k13.trans cr;have x0:=hcell wr kr 0 _ rfl;have x1:=hcell wr kr 1 _ rfl;have x2:=hcell wr kr 2 _ rfl;have x3:=hcell wr kr 3 _ rfl;have x4:=hcell wr kr 4 _ rfl;have x5:=hcell wr kr 5 _ rfl;have x6:=hcell wr kr 6 _ rfl;have x7:=hcell wr kr 7 _ rfl;have x8:=hcell wr kr 8 _ rfl;have x9:=hcell wr kr 9 _ rfl;rw[fj] at x0;simp only[] at x0 x1 x2 x3 x4 x5 x6 x7 x8 x9;obtain⟨kA,oA⟩:=gL wr [vI th,vI bl,vI (st:Int),vI se,vI fr,vI dr,.slice Al na Am,.slice Ec nt Ed,vI en,vI bt] 89;have Sc:decide ((k:Int)<NT)=true:=decide_eq_true (by omega);have qP:=af Yx;have t2:=af t2;have t3:=af t3;have w2:=af w2;clear hcell iD kE ER Bb rR Yx;go_upto_region 8 with fail
   obtain⟨W7,sU⟩:=au (wr.alloc (.cells #[vI th,vI bl,vI (st:Int),vI se,vI fr,vI dr,.slice Al na Am,.slice Ec nt Ed,vI en,vI bt] 89));rw[sU] at kA oA ⊢;clear sU x0 x1 x2 x3 x4 x5 x6 x7 x8 x9;obtain⟨Ht,aam⟩:=au wr.heap.size;rw[aam] at oA ⊢;have QA:=(jH.calm cr).calm kA;have k7:=kr.trans kA;have c7:=cr.trans kA;have pa:Hid (∀w',Calm W7 w'->w'.cell? ⟨B5,0,none⟩=some (.slice va NQ vc)/\w'.cell? ⟨B5,1,none⟩=some (.slice (some ⟨g,o,none⟩) NT tc)/\w'.cell? ⟨B5,2,none⟩=some (.slice wa nw YG)/\w'.cell? ⟨B5,3,none⟩=some (.slice ra nr rc)/\w'.cell? ⟨B5,4,none⟩=some (.slice none 0 0)/\w'.cell? ⟨B5,5,none⟩=some (.slice none 0 0)):=λw' c=>⟨c.cellAt (QA 0 _ rfl).1 id,c.cellAt (QA 1 _ rfl).1 id,c.cellAt (QA 2 _ rfl).1 id,c.cellAt (QA 3 _ rfl).1 id,c.cellAt (QA 4 _ rfl).1 id,c.cellAt (QA 5 _ rfl).1 id⟩;have Yh:Hid (∀w',Calm W7 w'->w'.cell? ⟨Ht,2,none⟩=some (vI (st:Int))):=λw' c=>c.cellAt (oA 2 _ rfl).1 id;have pfr:Hid (∀w',Calm W7 w'->w'.cell? ⟨Ht,4,none⟩=some (vI fr)):=λw' c=>c.cellAt (oA 4 _ rfl).1 id;have kd:Calm W7 W7.drew:=aq.drew
   go_cut [52] (λs52 wx=>s52=.bool false/\Calm W7 wx)
   case first=>
    refine bK [(true,0),(true,1),(true,2),(true,3),(true,4),(false,5),(true,6),(true,7),(true,8),(true,9),(true,10),(true,11),(true,12),(true,13),(true,14),(true,15),(true,16),(true,17),(true,18)] (λw'=>Calm W7 w') (by kernel_rfl) (by kernel_rfl) kd ?_;refine ao (.pointer (some ⟨Ht,2,none⟩)) rfl rfl (λw' hw'=>?_) ai ?_
    ·simp[go_sem]
    refine ao (vI (st:Int)) rfl rfl (λw' hw'=>?_) ai ?_
    ·have f1:=Yh.out w' hw';simp[go_sem,f1]
    refine ao (.agg #[.slice va NQ vc,.slice (some ⟨g,o,none⟩) NT tc,.slice wa nw YG,.slice ra nr rc,.slice none 0 0,.slice none 0 0]) rfl rfl (λw' hw'=>?_) ai ?_
    ·obtain⟨f0,f1,f2,f3,f4,f5⟩:=pa.out w' hw';simp[go_sem,f0,f1,f2,f3,f4,f5]
    refine ao (.pointer (some ⟨Ht,4,none⟩)) rfl rfl (λw' hw'=>?_) ai ?_
    ·simp[go_sem]
    refine ao (vI fr) rfl rfl (λw' hw'=>?_) ai ?_
    ·have f1:=pfr.out w' hw';simp[go_sem,f1]
    refine bg rfl rfl ?_;have oe:=I0 (hP.out _ (k7.trans kd)) hn.out fr;rw[qP.out] at oe;go_wp2_with fail
    refine oe.mono ?_;rintro PZ w9 ⟨rfl,k9⟩;have k79:=kd.trans k9;refine⟨k79,?_⟩;clear oe;go_simp;refine ao (.bool false) rfl (by kernel_rfl) (λw' hw'=>?_) ai ?_
    ·simp[go_sem]
    go_simp;refine ao (.bool false) rfl (by kernel_rfl) (λw' hw'=>?_) ai ?_
    ·simp[go_sem]
    go_simp;refine ao (.pointer (some ⟨Ht,2,none⟩)) rfl (by kernel_rfl) (λw' hw'=>?_) ai ?_
    ·simp[go_sem]
    go_simp;refine ao (vI (st:Int)) rfl (by kernel_rfl) (λw' hw'=>?_) ai ?_
    ·have f1:=Yh.out w' hw';simp[go_sem,f1]
    go_simp;refine ao (.bool false) rfl (by kernel_rfl) (λw' hw'=>?_) ai ?_
    ·simp[go_sem] <;> omega
    go_simp;refine ao (.bool false) rfl (by kernel_rfl) (λw' hw'=>?_) ai ?_
    ·simp[go_sem]
    go_simp;refine ao (.bool false) rfl (by kernel_rfl) (λw' hw'=>?_) ai ?_
    ·simp[go_sem]
    go_simp;refine ao (.pointer (some ⟨Ht,2,none⟩)) rfl (by kernel_rfl) (λw' hw'=>?_) ai ?_
    ·simp[go_sem]
    go_simp;refine ao (vI (st:Int)) rfl (by kernel_rfl) (λw' hw'=>?_) ai ?_
    ·have f1:=Yh.out w' hw';simp[go_sem,f1]
    go_simp;refine ao (.slice (some ⟨gm,om,none⟩) (n+1) cm) rfl (by kernel_rfl) (λw' hw'=>?_) ai ?_
    ·simp[go_sem]
    go_simp;refine ao (vI ((n:Int)+1)) rfl (by kernel_rfl) (λw' hw'=>?_) ai ?_
    ·simp[go_sem]
    go_simp;refine ao (.bool false) rfl (by kernel_rfl) (λw' hw'=>?_) ai ?_
    ·simp[go_sem] <;> omega
    go_simp;refine ao (.bool false) rfl (by kernel_rfl) (λw' hw'=>?_) ai ?_
    ·simp[go_sem]
    refine fp ?_
    try go_simp
    go_wp2_with fail
    go_meet;exact⟨rfl,k79⟩
   case rest=>
    obtain⟨rfl,kc⟩:=hcut;have ⟨vu,XN,TM,EO,Gs,H4⟩:=Zb.out st (by omega);have pu:Hid (∀w',Calm W7 w'->w'.cell? ⟨gm,om+st*2,none⟩=some vu/\w'.cell? ⟨gm,om+st*2+1,none⟩=some (.slice none 0 0)):=λw' c=>H4 w' (c7.trans c);have sz:=hx.out.sml hp.out st (by omega);have Qf:XN.length<=800:=by have h9:=congrArg List.length EO;rw[List.length_map] at h9;have:=sz.1;omega
    have e9:(tr.getD k aK).st.toNat=st:=by rw[aa3.out];rfl
    have t2':=t2.out;rw[e9,<-EO] at t2';have tF:=af (λW (c:Calm W7 W)=>Cl hp.out hx.out (hP.out W (k7.trans c)) hn.out (Gs.calm (c7.trans c)) HY Qf (by rw[EO];exact sz.2) t2');have cy:st<=n:=by omega
    have abG:(st:Int)<(n:Int)+1:=by omega
    clear EO Gs H4 sz Qf e9 t2' t2;go_upto_region 10 with fail
    go_cut [12] (λs12 wx=>s12=.bool true/\Calm W7 wx)
    case first=>
     have kd:Calm W7 wc.drew:=kc.drew;refine d_ (Way.reads [0,1,2,3,4,5,6] (.any (.alt 7 (Way.reads [8,9,10] (.step 11 (.step 12 (.step 13 .fin)))) (.alt 11 (.step 7 (Way.reads [8,9,10] (.step 12 (.step 13 .fin)))) .stop)))) (λw'=>Calm W7 w') (by kernel_rfl) (by kernel_rfl) kd ?_;refine ay (.agg #[.slice va NQ vc,.slice (some ⟨g,o,none⟩) NT tc,.slice wa nw YG,.slice ra nr rc,.slice none 0 0,.slice none 0 0]) rfl rfl (λw' hw'=>?_) ai ?_
     ·obtain⟨f0,f1,f2,f3,f4,f5⟩:=pa.out w' hw';simp[go_sem,f0,f1,f2,f3,f4,f5]
     refine ay (.slice (some ⟨gm,om,none⟩) (n+1) cm) rfl rfl (λw' hw'=>?_) ai ?_
     ·simp[go_sem]
     refine ay (.pointer (some ⟨Ht,2,none⟩)) rfl rfl (λw' hw'=>?_) ai ?_
     ·simp[go_sem]
     refine ay (vI (st:Int)) rfl rfl (λw' hw'=>?_) ai ?_
     ·have f1:=Yh.out w' hw';simp[go_sem,f1]
     refine ay (.pointer (some ⟨gm,om+st*2,none⟩)) rfl rfl (λw' hw'=>?_) ai ?_
     ·simp[go_sem];intro h;omega
     refine ay (.agg #[vu,.slice none 0 0]) rfl rfl (λw' hw'=>?_) ai ?_
     ·obtain⟨f0,f1⟩:=pu.out w' hw';simp[go_sem,f0,f1]
     refine ay (vI (k:Int)) rfl rfl (λw' hw'=>?_) ai ?_
     ·simp[go_sem]
     refine eX ?_;refine bC rfl rfl ?_ (bC rfl rfl ?_ dI)
     ·have o9:=tF.out _ kd;go_wp2_with fail
      refine o9.mono ?_;rintro PZ w9 ⟨v',ms',rfl,oL,oz,k9⟩;obtain⟨a9,c9,pF,-⟩:=id oz;obtain⟨n9,jo⟩:=au ms'.length;rw[jo] at pF;subst pF;have Dy:Calm W7 w9:=kd.trans k9;refine⟨Dy,?_⟩;refine ay (.tuple #[.agg #[.slice a9 n9 c9,.slice none 0 0],.bool true]) rfl rfl (λw' hw'=>?_) ai ?_
      ·simp[go_sem]
      refine ay (.agg #[.slice a9 n9 c9,.slice none 0 0]) rfl rfl (λw' hw'=>?_) ai ?_
      ·simp[go_sem]
      refine ay (.bool true) rfl rfl (λw' hw'=>?_) ai ?_
      ·simp[go_sem]
      refine aI rfl rfl ?_;refine im w9 rfl fP ?_;intro uZ E0 Ku;refine⟨Dy.trans E0,?_⟩;refine aI rfl rfl ?_;refine aN _ _ _ rfl w9.heap.size #[.slice a9 n9 c9,.slice none 0 0] (by kernel_rfl) (by kernel_rfl) Ku rfl (by kernel_rfl) (by simp[Value.oneCell']) ?_;intro CB t12 f11;have zV:Calm W7 CB:=(Dy.trans E0).join f11 (λj hj e=>by have h9:=Dy.size;have e:j=w9.heap.size:=e;omega);refine⟨zV,?_⟩;refine aI rfl rfl ?_;unfold Oper.wp;go_simp
      first|refine⟨zV,?_⟩|skip
      refine cg ?_
      try go_simp
      go_wp2_with fail
      go_meet;exact⟨rfl,zV⟩
     ·refine im _ rfl fP ?_;intro uZ E0 Ku;have kA:=kd.trans E0;refine⟨kA,?_⟩;refine aI rfl rfl ?_;have o9:=tF.out uZ kA;go_wp2_with fail
      refine o9.mono ?_;rintro PZ w9 ⟨v',ms',rfl,oL,oz,k9⟩;obtain⟨a9,c9,pF,-⟩:=id oz;obtain⟨n9,jo⟩:=au ms'.length;rw[jo] at pF;subst pF;have Dy:Calm W7 w9:=kA.trans k9;refine⟨Dy,?_⟩;refine ay (.tuple #[.agg #[.slice a9 n9 c9,.slice none 0 0],.bool true]) rfl rfl (λw' hw'=>?_) ai ?_
      ·simp[go_sem]
      refine ay (.agg #[.slice a9 n9 c9,.slice none 0 0]) rfl rfl (λw' hw'=>?_) ai ?_
      ·simp[go_sem]
      refine ay (.bool true) rfl rfl (λw' hw'=>?_) ai ?_
      ·simp[go_sem]
      refine aI rfl rfl ?_;refine aN _ _ _ rfl wc.drew.heap.size #[.slice a9 n9 c9,.slice none 0 0] (by kernel_rfl) (by kernel_rfl) (Ku.calm k9) rfl (by kernel_rfl) (by simp[Value.oneCell']) ?_;intro CB t12 f11;have zV:Calm W7 CB:=Dy.join f11 (λj hj e=>by have h9:=kd.size;have e:j=wc.drew.heap.size:=e;omega);refine⟨zV,?_⟩;refine aI rfl rfl ?_;unfold Oper.wp;go_simp
      first|refine⟨zV,?_⟩|skip
      refine cg ?_
      try go_simp
      go_wp2_with fail
      go_meet;exact⟨rfl,zV⟩
    case rest=>
     obtain⟨rfl,Zs⟩:=hcut;have Ii:=oA.calm Zs;have y0:=(Ii 0 _ rfl).1;have y1:=(Ii 1 _ rfl).1;have y2:=(Ii 2 _ rfl).1;have y3:=(Ii 3 _ rfl).1;have y4:=(Ii 4 _ rfl).1;have y5:=(Ii 5 _ rfl).1;have y6:=(Ii 6 _ rfl).1;have y7:=(Ii 7 _ rfl).1;have y8:=(Ii 8 _ rfl).1;have y9:=(Ii 9 _ rfl).1;clear tF pu pa Yh pfr;have ow:=xQ wc th bl (st:Int) se fr dr en bt (.slice Al na Am) (.slice Ec nt Ed);have VE:=c7.trans Zs
     cases hb:(en==1 && decide (1<=bt)) with
     | false=>
       rw[hb] at ow;clear hb;go_wp2_with fail
       refine ow.mono ?_;rintro PZ w9 ⟨rfl,k9⟩;have hF:=af (VE.trans k9);clear ow k9 VE Zs c7 Ii oA QA y0 y1 y2 y3 y4 y5 y6 y7 y8 y9 kr k7 kc cr;go_wp2;exact⟨⟨k+1,by omega,by simp,hF.out⟩,by simp[intOf] <;> omega⟩
     | true=>
       obtain⟨yT,eC⟩:=w2.out hb;have tj:1<=bt:=by simp only[wj,decide_eq_true_eq] at hb;exact hb.2
       obtain⟨vn,rfl⟩:∃vn:Nat,bt=vn:=⟨bt.toNat,by omega⟩;rw[show((vn:Int)).toNat=vn from rfl] at eC;obtain⟨gd,od,rfl,oI⟩:=yH.out vn (by omega) (by omega);rw[eC] at oI;have dge:decide ((vn:Int)>=(n:Int)+1)=false:=decide_eq_false (by omega);have pG:vn<n+1:=by omega
       rw[hb] at ow;replace eC:=af eC;clear hb tj yT;go_wp2_with fail
       refine ow.mono ?_;rintro PZ w9 ⟨rfl,k9⟩;have z9:=k9.cellAt y9 id;have zd:=oI w9 (VE.trans k9);have hF:=af (VE.trans k9);clear ow k9 VE Zs c7 Ii oA QA y0 y1 y2 y3 y4 y5 y6 y7 y8 y9 kr k7 kc cr oI;go_wp2;exact⟨⟨k+1,by omega,by simp,hF.out⟩,by simp[intOf] <;> omega⟩
  ·obtain rfl:k=NT:=by omega
   have jL:decide ((k:Int)<k)=false:=decide_eq_false (by omega);have hF:=af (kw3.trans cr);clear cr;go_wp2;go_ret;exact⟨rfl,hF.out⟩
end
section
open Go.ChangeShapes Go.WideShapes Go.ChangeAt Go.RowKit Go.Deep
section
variable {H:Type}{enc:TypeId × aC->H}{P:Program}{w:aj}{base:Nat}{held:Bool}
theorem zp{t e:TypeId}{k fuel:Nat}{R:List aC->Prop}{cs:List aC}{x:DataW H × List MemPlace}(ht:P.underlying t=some (.slice e))(hE:P.cellsOf e=k)(hk:0<k)
 (hR:∀fuel cs x,DataW.trod enc P w base (λ_=>true) held fuel e cs=some x->R cs)
 (hf:DataW.trod enc P w base (λ_=>true) held fuel t cs=some x) :
 ∃ (a:Option Addr) (n cap:Nat) (xs:List (List aC)),cs=[.slice a n cap]/\n<=maxLen/\xs.length=n/\(∀x∈xs,R x)/\∀i,i<n->∃g o,a=some ⟨g,o,none⟩/\g<w.heap.size/\∀j u,(xs.getD i [])[j]?=some u->w.cell? ⟨g,o+i*k+j,none⟩=some u:=by
 rcases open_slice ht hf with ⟨hcs,_⟩|⟨a,len,cap,m,n,D,Pl,hcs,hb,hl,hm,EO,hx,hi⟩
 ·exact⟨none,0,0,[],hcs,by simp,rfl,by simp,λi hi=>absurd hi (Nat.not_lt_zero i)⟩
 ·simp at EO;rw[hE] at hi
  have each:∀i,i<len->∃cs,(cs.length=k/\R cs)/\∀j u,cs[j]?=some u->w.cell? (a.add (i*k+j))=some u:=by
   intro i Sc;obtain⟨cs,hc,Zj⟩:=hi i (by omega);obtain⟨_,hlen,kE⟩:=World.cells?_some hc;refine⟨cs,⟨hlen,hR _ _ _ Zj⟩,λj u hu=>?_⟩;have hj:j<k:=by rw[<-hlen];exact(List.getElem?_eq_some_iff.1 hu).1
   rw[<-Go.Deep.add_add,kE j hj,hu]
  have hL:∃xs:List (List aC),xs.length=len/\∀i,i<len->(((xs.getD i []).length=k/\R (xs.getD i []))/\∀j u,(xs.getD i [])[j]?=some u->w.cell? (a.add (i*k+j))=some u):=by
   refine⟨(List.range len).map (λi=>if h:i<len then (each i h).choose else []),by simp,λi hi=>?_⟩;have:=(each i hi).choose_spec;simpa[List.getD,hi] using this
  obtain⟨xs,EW,Cw⟩:=hL;refine⟨some a,len,cap,xs,hcs,by omega,EW,λx hx=>?_,λi Sc=>?_⟩
  ·obtain⟨i,hi,rfl⟩:=List.mem_iff_getElem.1 hx;have:=(Cw i (by omega)).1.2;simpa[List.getD,hi] using this
  ·obtain⟨⟨pY,_⟩,jX⟩:=Cw i Sc;obtain⟨⟨NU,_⟩,gC⟩:=Cw 0 (by omega);obtain⟨b,off,spot⟩:=a;have Xj:(xs.getD 0 [])[0]?=some ((xs.getD 0 [])[0]'(by omega)):=jI (by omega);have RD:=gC 0 _ Xj;have Xk:spot=none:=by simpa[Addr.add] using World.cell?_spot RD
   subst Xk;rw[tV] at RD;refine⟨b,off,rfl,lM w _ RD,λj u hu=>?_⟩;have:=jX j u hu;rw[tV] at this
   rwa [Nat.add_assoc]
end
theorem qf{α β:Type}{r:β->α->Prop}(dx:β)(d:α):∀ {xs:List β},(∀x∈xs,∃o,r x o)->∃l:List α,l.length=xs.length/\∀i,i<xs.length->r (xs.getD i dx) (l.getD i d)
 | [],_=>⟨[],rfl,λi h=>absurd h (Nat.not_lt_zero i)⟩
 | x::xs,h=>by
   obtain⟨o,ho⟩:=h x (by simp);obtain⟨l,hl,hr⟩:=qf dx d (xs:=xs) (λy hy=>h y (by simp[hy]));refine⟨o::l,by simp[hl],λi hi=>?_⟩
   cases i with
   | zero=>exact ho
   | succ i=>exact hr i (by simpa using hi)
def Z9(Q:List (List (List Dd))):Prop:=∀t,t<Q.length->∀b,b<(Q.getD t []).length->∀i,i<((Q.getD t []).getD b []).length->(((Q.getD t []).getD b []).getD i dD).Ok
set_option maxRecDepth 100000 in
theorem open_prg{H:Type}{enc:TypeId × aC->H}{w:aj}{base:Nat}{held:Bool}{r:Reach}{b0:Nat}{v:aC}{d:DataW H}{p:List MemPlace}
 (hv:Value.okWide prog w r b0 22 v) (h:DataW.Trod enc prog w base (λ_=>true) held 22 v d p) :
 ∃Q:List (List (List Dd)),dJ (λb=>b<w.heap.size) w v Q/\Z9 Q/\Q.length<=maxLen:=by
 have e1:prog.cellsOf 3=1:=by kernel_rfl
 have e2:prog.cellsOf 50=1:=by kernel_rfl
 have e3:prog.cellsOf 38=1:=by kernel_rfl
 have e5:prog.cellsOf 52=5:=by kernel_rfl
 have hD:∀fuel cs x,DataW.trod enc prog w base (λ_=>true) held fuel 52 cs=some x->∃d:Dd,d.Ok/\cs=eZ d:=λfuel cs x hx=>by
  obtain⟨ys,n,_,_,hl,hyl,hf⟩:=DataW.trod_struct Tryz.underlying52 hx;rw[e5] at hl
  match cs,hl with
  | [c0,c1,c2,c3,c4],_=>
    match ys,hyl with
    | [y0,y1,y2,y3,y4],_=>
      have f0:DataW.trod enc prog w base (λ_=>true) held n 3 (([c0,c1,c2,c3,c4].drop 0).take (prog.cellsOf 3))=some y0:=hf 0 _ rfl;have f1:DataW.trod enc prog w base (λ_=>true) held n 3 (([c0,c1,c2,c3,c4].drop 1).take (prog.cellsOf 3))=some y1:=hf 1 _ rfl;have f2:DataW.trod enc prog w base (λ_=>true) held n 3 (([c0,c1,c2,c3,c4].drop 2).take (prog.cellsOf 3))=some y2:=hf 2 _ rfl;have f3:DataW.trod enc prog w base (λ_=>true) held n 3 (([c0,c1,c2,c3,c4].drop 3).take (prog.cellsOf 3))=some y3:=hf 3 _ rfl;have f4:DataW.trod enc prog w base (λ_=>true) held n 3 (([c0,c1,c2,c3,c4].drop 4).take (prog.cellsOf 3))=some y4:=hf 4 _ rfl;simp only[e1] at f0 f1 f2 f3 f4;obtain⟨a,ha,wa⟩:=mG Tryz.underlying3 f0;obtain⟨b,hb,wb⟩:=mG Tryz.underlying3 f1;obtain⟨c,hc,wc⟩:=mG Tryz.underlying3 f2;obtain⟨d,hd,wd⟩:=mG Tryz.underlying3 f3;obtain⟨e,he,we⟩:=mG Tryz.underlying3 f4;simp at ha hb hc hd he;exact⟨⟨a,b,c,d,e⟩,⟨wa,wb,wc,wd,we⟩,by simp only[eZ,ha,hb,hc,hd,he]⟩
 have hL:∀fuel cs x,DataW.trod enc prog w base (λ_=>true) held fuel 50 cs=some x->∃l:List Dd,∃u,cs=[u]/\fo (λb=>b<w.heap.size) w u l/\∀i,i<l.length->(l.getD i dD).Ok:=λfuel cs x hx=>by
  obtain⟨a,n,cap,xs,rfl,hn,rfl,hR,hc⟩:=zp (R:=λcs=>∃d:Dd,d.Ok/\cs=eZ d) Tryz.underlying50 e5 (by decide) hD hx;obtain⟨l,hl,hr⟩:=qf (r:=λ(x:List aC) (d:Dd)=>d.Ok/\x=eZ d) [] dD hR;refine⟨l,_,rfl,⟨a,cap,by rw[hl],λi hi=>?_⟩,λi hi=>(hr i (by omega)).1⟩;obtain⟨g,o,ha,hg,Jt⟩:=hc i (by omega);exact⟨g,o,ha,hg,λj u hu=>Jt j u (by rw[(hr i (by omega)).2];exact hu)⟩
 have hB:∀fuel cs x,DataW.trod enc prog w base (λ_=>true) held fuel 38 cs=some x->∃P:List (List Dd),∃u,cs=[u]/\fJ (λb=>b<w.heap.size) w u P/\∀b,b<P.length->∀i,i<(P.getD b []).length->((P.getD b []).getD i dD).Ok:=λfuel cs x hx=>by
  obtain⟨a,n,cap,xs,rfl,hn,rfl,hR,hc⟩:=zp Tryz.underlying38 e2 (by decide) hL hx;obtain⟨l,hl,hr⟩:=qf [] [] hR;refine⟨l,_,rfl,⟨a,cap,by rw[hl],λi hi=>?_⟩,λi hi=>by obtain⟨u,h1,h2,h3⟩:=hr i (by omega);exact h3⟩;obtain⟨g,o,ha,hg,Jt⟩:=hc i (by omega);obtain⟨u,h1,h2,h3⟩:=hr i (by omega);exact⟨g,o,u,ha,hg,by have:=Jt 0 u (by rw[h1];rfl);simpa using this,h2⟩
 obtain⟨fuel,hf⟩:=h;obtain⟨a,n,cap,xs,hcs,hn,rfl,hR,hc⟩:=zp Tryz.underlying22 e3 (by decide) hB hf;obtain⟨a0,len,aab,rfl⟩:=okWide_slice Tryz.underlying22 hv;simp[Value.cells] at hcs;obtain⟨rfl,rfl,rfl⟩:=hcs;obtain⟨l,hl,hr⟩:=qf [] [] hR;refine⟨l,⟨a0,aab,by rw[hl],λi hi=>?_⟩,λi hi=>by obtain⟨u,h1,h2,h3⟩:=hr i (by omega);exact h3,by omega⟩;obtain⟨g,o,ha,hg,Jt⟩:=hc i (by omega);obtain⟨u,h1,h2,h3⟩:=hr i (by omega);exact⟨g,o,u,ha,hg,by have:=Jt 0 u (by rw[h1];rfl);simpa using this,h2⟩
end
def ZU(l:List Dd):Prop:=1<=l.length/\l.length<=6/\∀d∈l,d.Rt
def Z_(P:List (List Dd)):Prop:=P.length<=3/\∀b,b<P.length->ZU (P.getD b [])
theorem B9{α:Type}{p:α->Prop}{l:List α}{x d:α}(h:∀i,i<l.length->p (l.getD i d))(hx:p x):∀i,i<(l++[x]).length->p ((l++[x]).getD i d):=λi hi=>by
 rw[cX] at hi;have hi:i<l.length+1:=hi
 by_cases e:i<l.length
 ·rw[aS,List.getElem?_append_left e,<-aS];exact h i e
 ·have e2:i=l.length:=by omega
  subst e2;rw[aS,Cb (aM _),Nat.sub_self];exact hx
theorem tL.of{Q:List (List (List Dd))}(h1:1<=Q.length)(h2:Q.length<=4)(h:∀t,t<Q.length->Z_ (Q.getD t [])):tL Q:=
 ⟨⟨h1,h2⟩,λt ht=>(h t ht).1,λt ht b hb=>⟨((h t ht).2 b hb).1,((h t ht).2 b hb).2.1⟩,λt ht b hb=>((h t ht).2 b hb).2.2⟩
def Z7(w:aj)(e:Ending)(w':aj):Prop:=∃u Q,e=.returned u/\dJ (λb=>w.heap.size<=b) w' u Q/\tL Q/\Calm w w'
def PgI(w:aj)(x:aC)(i:Nat)(wr:aj):Prop:=∃Q:List (List (List Dd)),Q.length=i/\ir fJ [] 38 (λb=>w.heap.size<=b) wr x Q/\(∀t,t<Q.length->Z_ (Q.getD t []))/\Calm w wr
def ZV(w:aj)(x:aC)(i:Nat)(wr:aj):Prop:=∃P:List (List Dd),P.length<=i/\ir fo [] 50 (λb=>w.heap.size<=b) wr x P/\(∀t,t<P.length->ZU (P.getD t []))/\Calm w wr
def Vf(w:aj)(x:aC)(i:Nat)(wr:aj):Prop:=∃ds:List Dd,ds.length=i/\qC (λb=>w.heap.size<=b) wr x ds/\(∀d∈ds,d.Rt)/\Calm w wr
theorem Vf.more{w w1 w2:aj}{ds:List Dd}{v v':aC}{d:Dd}(h:qC (λb=>w.heap.size<=b) w1 v ds)(hd:∀d∈ds,d.Rt)(hr:d.Rt)(c:Calm w w1)(ho:w2.ownsRow 0 52 5 v' (ds.length+1) (ds.flatMap eZ++eZ d))(f:Fr (aB v) w1 w2)(hn:∀b,aB v' b->aB v b\/w1.heap.size<=b):Vf w v' (ds.length+1) w2:=
 ⟨ds++[d],by simp,⟨by simpa using ho,λb hb=>by
  rcases hn b hb with e|e
  ·exact h.2 b e
  ·have:=c.size;show _<=b;omega⟩,λx hx=>by
  rcases mD.1 hx with e|e
  ·exact hd x e
  ·simp at e;subst e;exact hr,c.join f (λj hj e=>by have:w.heap.size<=j:=h.2 j e;omega)⟩
theorem BR{T0:Nat->Prop}{w:aj}{v:aC}{Q0:List (List (List Dd))}(hr:dJ T0 w v Q0)(hl:Z9 Q0):aL prog 5 #[v] w (Z7 w):=by
 obtain⟨va,vc,rfl,HU⟩:=hr;obtain⟨N,hN⟩:=au Q0.length
 have dQ:Hid (∀i,i<N->∃g o u,va=some ⟨g,o,none⟩/\(∀W,Calm w W->W.cell? ⟨g,o+i,none⟩=some u)/\fJ T0 w u (Q0.getD i [])):=λi hi=>by
  obtain⟨g,o,u,h1,h2,h3,h4⟩:=HU i (by omega);exact⟨g,o,u,h1,λW c=>c.cellAt h3 id,h4⟩
 have df:Hid (∀i,i<N->∀b,b<(Q0.getD i []).length->∀k,k<((Q0.getD i []).getD b []).length->(((Q0.getD i []).getD b []).getD k dD).Ok):=λi hi=>hl i (by omega);rw[hN];clear HU hl hN;go_in;go_wp2_with fail
 go_loopw [3,4] (λx z wr=>∃i:Nat,i<=N/\i<=4/\z=vI i/\PgI w x i wr) (λ_ z _=>4-(intOf z).toNat)
 case atStart=>exact⟨0,by omega,by omega,rfl,[],rfl,ir.nil w,λt ht=>absurd ht (Nat.not_lt_zero t),aq⟩
 case round=>
  obtain⟨w3,rfl⟩:∃w3,w3=wr:=⟨_,rfl⟩;obtain⟨x3,rfl⟩:∃x3,x3=u3:=⟨_,rfl⟩;obtain⟨i,hi,hi4,rfl,Q,Md,yx,Uw,jX⟩:=hrel;have hex:(i<N/\i<4)\/(¬i<N)\/(i<N/\¬i<4):=by omega
  rcases hex with ⟨aZ,h4⟩|hex
  ·obtain⟨g,o,u,rfl,kL,ba,bc,rfl,hb⟩:=dQ.out i aZ;have Bc:Hid (∀b,b<(Q0.getD i []).length->∀k,k<((Q0.getD i []).getD b []).length->(((Q0.getD i []).getD b []).getD k dD).Ok):=df.out i aZ;obtain⟨R0,Jl⟩:=au (Q0.getD i []);rw[Jl] at hb Bc kL;obtain⟨M,hM⟩:=au R0.length;rw[hM] at kL;have RW:Hid (∀W,Calm w3 W->W.cell? ⟨g,o+i,none⟩=some (.slice ba M bc)):=λW c=>kL W (jX.trans c);have y0:=RW.out w3 aq
   have AY:Hid (∀b,b<M->∃g2 o2 u2,ba=some ⟨g2,o2,none⟩/\(∀W,Calm w3 W->W.cell? ⟨g2,o2+b,none⟩=some u2)/\fo T0 w3 u2 (R0.getD b [])):=λb EG=>by
    obtain⟨g,o,u,h1,h2,h3,h4⟩:=hb b (by omega);exact⟨g,o,u,h1,λW c=>(jX.trans c).cellAt h3 id,h4.calm jX⟩
   replace Bc:Hid (∀b,b<M->∀k,k<(R0.getD b []).length->((R0.getD b []).getD k dD).Ok):=by rw[<-hM];exact Bc
   replace jX:=af jX;replace yx:=af yx;replace Uw:=af Uw;replace Md:=af Md;clear kL Jl hM hb;go_wp2_with fail
   clear y0;go_loopw [5,6] (λx z w2=>∃b:Nat,b<=M/\b<=3/\z=vI b/\ZV w3 x b w2) (λ_ z _=>3-(intOf z).toNat)
   case atStart=>exact⟨0,by omega,by omega,rfl,[],aM _,ir.nil _,λt ht=>absurd ht (Nat.not_lt_zero t),aq⟩
   case round=>
    obtain⟨wx,rfl⟩:∃wx,wx=wr:=⟨_,rfl⟩;obtain⟨x5,rfl⟩:∃x5,x5=u5:=⟨_,rfl⟩;obtain⟨b,hb,RP,rfl,P,P4,vJ,HF,gC⟩:=hrel;have R1:(b<M/\b<3)\/(¬b<M)\/(b<M/\¬b<3):=by omega
    have y0:=RW.out wx gC;rcases R1 with ⟨gJ,h3⟩|R1
    ·obtain⟨g2,o2,u2,rfl,mY,da,dc,rfl,hd⟩:=AY.out b gJ;obtain⟨L0,Ns⟩:=au (R0.getD b []);have JN:=Bc.out b gJ;rw[Ns] at hd JN mY;obtain⟨K,hK⟩:=au L0.length;rw[hK] at mY hd JN;have P9:Hid (∀W,Calm wx W->W.cell? ⟨g2,o2+b,none⟩=some (.slice da K dc)):=λW c=>mY W (gC.trans c);have z0:=P9.out wx aq
     have Jy:Hid (∀k,k<K->∃g3 o3,da=some ⟨g3,o3,none⟩/\∀W,Calm wx W->∀j u,(eZ (L0.getD k dD))[j]?=some u->W.cell? ⟨g3,o3+k*5+j,none⟩=some u):=λk hk=>by
      obtain⟨g,o,h1,h2,h3⟩:=hd k hk;exact⟨g,o,h1,λW c j u hu=>(gC.trans c).cellAt (h3 j u hu) id⟩
     replace JN:=af JN;replace gC:=af gC;replace vJ:=af vJ;replace HF:=af HF;replace P4:=af P4;clear mY Ns hK hd;go_wp2_with fail
     clear y0 z0;go_loopw [7,8] (λx z w2=>∃k:Nat,k<=K/\k<=6/\z=vI k/\Vf wx x k w2) (λ_ z _=>6-(intOf z).toNat)
     case atStart=>exact⟨0,by omega,by omega,rfl,[],rfl,qC.nil _ _,λd hd=>(by cases hd),aq⟩
     case round=>
      obtain⟨wy,rfl⟩:∃wy,wy=wr:=⟨_,rfl⟩;obtain⟨k,hk,Gq,rfl,ds,HQ,hD,oP,dW⟩:=hrel;have y0:=RW.out wy (gC.out.trans dW);have z0:=P9.out wy dW;obtain⟨xa,xc,hx⟩:=hD.slice;rw[HQ] at hx;subst hx;have NJ:(k<K/\k<6)\/(¬k<K)\/(k<K/\¬k<6):=by omega
      rcases NJ with ⟨yL,h6⟩|NJ
      ·obtain⟨g3,o3,rfl,lS⟩:=Jy.out k yL;obtain⟨d,hd⟩:=au (L0.getD k dD);have lS:=lS wy dW;have dw:=JN.out k yL
       rw[hd] at lS dw;have e0:=lS 0 _ rfl;have e1:=lS 1 _ rfl;have e2:=lS 2 _ rfl;have e3:=lS 3 _ rfl;have e4:=lS 4 _ rfl;rw[fj] at e0
       have of:=Ru wy d dw;simp only[e_] at of;replace dW:=af dW;replace hD:=af hD;replace oP:=af oP;replace HQ:=af HQ
       clear lS hd dw;go_wp2_with fail
       refine of.mono ?_;rintro e w6 ⟨⟨d2,rfl,hdr⟩,c6⟩;simp only[e_];have ka:Calm w6 (w6.alloc (.cells #[vI d2.k,vI d2.a,vI d2.b,vI d2.i,vI d2.n] 52)):=aq.alloc _;have cA:=af ((dW.out.trans c6).trans ka);have hA:=af (hD.out.calm (c6.trans ka));have RG:=af hA.out.1;rw[HQ.out] at RG;replace hdr:=af hdr;have nK:Hid (∀j u,(eZ d2)[j]?=some u->(w6.alloc (.cells #[vI d2.k,vI d2.a,vI d2.b,vI d2.i,vI d2.n] 52)).cell? ((⟨w6.heap.size,0,none⟩:Addr).add j)=some u):=vH w6 (eZ d2) _;clear of e0 e1 e2 e3 e4 y0 z0 c6 ka
       go_wp2_with (
        at_builtin
        go_must (refine gy giD rfl _ _ rfl (.slice xa k xc) k (ds.flatMap eZ) RG.out rfl (eZ d2) rfl (by simp[eZ,Value.oneCell']) ⟨w6.heap.size,0,none⟩ 1 rfl nK.out (by omega) ?_)
        intro g7 c7 w7 Cu f7 Db
        have hQ:Hid (Vf wx (.slice (some ⟨g7,0,none⟩) (k+1) c7) (k+1) w7):=by
         have aaz:=HQ.out;subst aaz
         exact Vf.more hA.out oP.out hdr.out cA.out Cu f7 (λb hb=>by
          obtain rfl:=aB.fg hb;rcases Db with e|e
          ·exact .inl e
          ·exact .inr (by omega))
        clear Cu f7 Db
        go_frame)
       exact⟨⟨k+1,by omega,by omega,by simp,hQ.out⟩,by simp[intOf] <;> omega⟩
      ·have NC:=gC.out.trans dW
       by_cases k0:k=0
       ·subst k0;have dh:Hid (ZV w3 x5 (b+1) wy):=⟨P,by have:=P4.out;omega,vJ.out.calm Oo dW,HF.out,NC⟩;clear hD NC;replace oP:=af oP;rcases NJ with h1|⟨h1,h2⟩
        ·go_wp2_with fail
         exact⟨⟨b+1,by omega,by omega,by simp,dh.out⟩,by simp[intOf] <;> omega⟩
        ·omega
       ·have k1:0<k:=by omega
        have ka:Calm wy (wy.alloc (.cells #[.slice xa k xc] 50)):=aq.alloc _;have Jg:=af (vJ.out.calm Oo (dW.trans ka));have yE:=af (NC.trans ka);have JK:Hid (∀b,aB x5 b->b<wx.heap.size):=λb hb=>vJ.out.lt hb
        have hy:Hid (fo (λb=>w3.heap.size<=b/\¬aB x5 b) (wy.alloc (.cells #[.slice xa k xc] 50)) (.slice xa k xc) ds):=by
         have h0:=(hD.calm ka).TD
         skip
         exact h0.mono (λb _ hb=>⟨fH gC.out.size hb,λe=>by have:=JK.out b e;have EG:wx.heap.size<=b:=hb;omega⟩)
        have hbo:Hid (ZU ds):=⟨by omega,by omega,oP⟩
        have sx:Hid ((wy.alloc (.cells #[.slice xa k xc] 50)).cell? ⟨wy.heap.size,0,none⟩=some (.slice xa k xc)):=by
         unfold Hid;rw[World.cell?_alloc_new];rfl
        have nL:Hid (w3.heap.size<=(wy.alloc (.cells #[.slice xa k xc] 50)).heap.size):=yE.out.size;replace hD:=af hD;replace oP:=af oP;replace HQ:=af HQ;replace dW:=af dW;clear NC ka;rcases NJ with h1|⟨h1,h2⟩
        all_goals
         go_wp2_with (
          at_builtin
          go_must (refine jA giB Oo rfl _ _ rfl x5 P Jg.out rfl (.slice xa k xc) ds wy.heap.size 1 rfl sx.out rfl hy.out (λb hb=>fH nL.out hb) (by have:=P4.out;omega) ?_)
          intro g8 c8 w8 vO f8;have hQ:Hid (ZV w3 (.slice (some ⟨g8,0,none⟩) (P.length+1) c8) (b+1) w8):=⟨P++[ds],by have:=P4.out;simp;omega,vO,B9 HF.out hbo.out,yE.out.join f8 (λj hj e=>by have:w3.heap.size<=j:=Jg.out.own e;omega)⟩;clear vO f8
          go_frame)
         exact⟨⟨b+1,by omega,by omega,by simp,hQ.out⟩,by simp[intOf] <;> omega⟩
    ·obtain⟨pa,pc,XB⟩:=vJ.slice;obtain⟨pn,hpn⟩:=au P.length;rw[hpn] at XB;subst XB;have ka:Calm wx (wx.alloc (.cells #[(.slice pa pn pc)] 38)):=aq.alloc _;have Jg:=af (yx.out.calm SN (gC.trans ka));have yE:=af ((jX.out.trans gC).trans ka);have JK:Hid (∀b,aB x3 b->b<w3.heap.size):=λb hb=>yx.out.lt hb;have JO:Hid ((Value.slice pa pn pc).oneCell'=true):=af rfl
     have hy:Hid (fJ (λb=>w.heap.size<=b/\¬aB x3 b) (wx.alloc (.cells #[(.slice pa pn pc)] 38)) (.slice pa pn pc) P):=by
      have h0:fJ _ _ _ _:=(vJ.calm Oo ka).TD Oo;exact h0.mono (λb _ hb=>⟨fH jX.out.size hb,λe=>by have:=JK.out b e;have EG:w3.heap.size<=b:=hb;omega⟩)
     have hbo:Hid (Z_ P):=⟨by omega,HF⟩
     have sx:Hid ((wx.alloc (.cells #[(.slice pa pn pc)] 38)).cell? ⟨wx.heap.size,0,none⟩=some (.slice pa pn pc)):=by
      unfold Hid;rw[World.cell?_alloc_new];rfl
     have nL:Hid (w.heap.size<=(wx.alloc (.cells #[(.slice pa pn pc)] 38)).heap.size):=yE.out.size;replace gC:=af gC;replace vJ:=af vJ;replace HF:=af HF;replace P4:=af P4;replace hpn:=af hpn;clear ka;rcases R1 with h1|⟨h1,h2⟩
     all_goals
      go_wp2_with (
       at_builtin
       go_must (refine jA giQ SN rfl _ _ rfl x3 Q Jg.out rfl (.slice pa pn pc) P wx.heap.size 1 rfl sx.out JO.out hy.out (λb hb=>fH nL.out hb) (by have:=Md.out;omega) ?_)
       intro g8 c8 w8 vO f8;have hQ:Hid (PgI w (.slice (some ⟨g8,0,none⟩) (Q.length+1) c8) (i+1) w8):=⟨Q++[P],by have:=Md.out;simp;omega,vO,B9 Uw.out hbo.out,yE.out.join f8 (λj hj e=>by have:w.heap.size<=j:=Jg.out.own e;omega)⟩;clear vO f8
       go_frame)
      exact⟨⟨i+1,by omega,by omega,by simp,hQ.out⟩,by simp[intOf] <;> omega⟩
  ·obtain⟨pa,pc,Zo⟩:=yx.slice
   by_cases i0:i=0
   ·subst i0;have ka:Calm w3 (w3.alloc (.cells #[.slice none 0 0] 38)):=aq.alloc _
    have dh:Hid (Z7 w (.returned (.slice (some ⟨w3.heap.size,0,none⟩) 1 1)) (w3.alloc (.cells #[.slice none 0 0] 38))):=
     ⟨_,[[]],rfl,⟨some ⟨w3.heap.size,0,none⟩,1,rfl,λt ht=>⟨w3.heap.size,0,.slice none 0 0,rfl,jX.size,by
      have h0:t=0:=by have h1:t<1:=ht;omega
      subst h0
      rw[World.cell?_alloc_new];rfl,by
      have h0:t=0:=by have h1:t<1:=ht;omega
      subst h0
      exact⟨none,0,rfl,λi hi=>absurd hi (Nat.not_lt_zero i)⟩⟩⟩,tL.of (by decide) (by decide) (λt ht=>by
      have h0:t=0:=by have h1:t<1:=ht;omega
      subst h0
      exact⟨by decide,λb hb=>absurd hb (Nat.not_lt_zero b)⟩),jX.trans ka⟩
    rw[Md] at Zo;subst Zo;clear yx Uw jX ka Md;rcases hex with h1|⟨h1,h2⟩
    ·go_wp2;go_ret;exact dh.out
    ·omega
   ·have hi0:((i:Int)==0)=false:=by simp;omega
    have dh:Hid (Z7 w (.returned x3) w3):=⟨_,Q,rfl,yx.TD SN,tL.of (by omega) (by omega) Uw,jX⟩;rw[Md] at Zo;subst Zo;clear yx Uw jX Md;rcases hex with h1|⟨h1,h2⟩
    all_goals
     go_wp2;go_ret;exact dh.out
