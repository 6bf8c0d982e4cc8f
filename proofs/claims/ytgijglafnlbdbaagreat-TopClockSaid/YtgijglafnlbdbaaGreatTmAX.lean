import Derived.Test.YtgijglafnlbdbaaGreatTmAW
set_option linter.all false
set_option maxHeartbeats 8000000
set_option maxRecDepth 8000
namespace Go.Proofs.YtgijglafnlbdbaaGreat
open RowKit Shelf Proofs.Tryz
open Go renaming World->aj,Value->aC,Calls->aL
theorem O3{fn:Func}{W:aj}{B:Nat}{tmps:Array aC}(hf:fn.results = #[.tmp 2,.cell 3 46])(h2:tmps[2]?.getD undef=vI 0)(h3:tmps[3]?.getD undef = aR B)(u:ag W B [vI 0,vI 0,vI 0]) :
 (results fn tmps).run prog W=.ok (.tuple #[vI 0,.agg #[vI 0,vI 0,vI 0]]) W:=by
 obtain⟨z0,z1,z2⟩:=ag.sP u;simp[results,hf,h2,h3,go_sem,z0,z1,z2]
def Vd(w:aj)(e:Ending)(w':aj):Prop:=e=.returned (.tuple #[vI 0,.agg #[vI 0,vI 0,vI 0]])/\Calm w w'
theorem Av{T0:Nat->Prop}{w:aj}{v:aC}{Q:List (List (List Dd))}(hr:dJ T0 w v Q)(hp:tL Q):aL prog 17 #[v] w (Vd w):=by
 obtain⟨va,vc,rfl,HU⟩:=hr;obtain⟨N,hN⟩:=au Q.length;have YZ:1<=N/\N<=4:=by rw[<-hN];exact hp.n
 have dQ:Hid (∀i,i<N->∃g o u,va=some ⟨g,o,none⟩/\(∀W,Calm w W->W.cell? ⟨g,o+i,none⟩=some u)/\fJ T0 w u (Q.getD i [])):=λi hi=>by
  obtain⟨g,o,u,h1,h2,h3,h4⟩:=HU i (by omega);exact⟨g,o,u,h1,λW c=>c.cellAt h3 id,h4⟩
 have df:Hid (∀i,i<N->(Q.getD i []).length<=3/\∀b,b<(Q.getD i []).length->(1<=((Q.getD i []).getD b []).length/\((Q.getD i []).getD b []).length<=6)/\∀d∈(Q.getD i []).getD b [],d.Rt):=λi hi=>⟨hp.b i (by omega),λb hb=>⟨hp.d i (by omega) b hb,hp.r i (by omega) b hb⟩⟩;obtain⟨k0,o0⟩:=gL w [vI 0,vI 0,vI 0] 46;obtain⟨W1,iM⟩:=au (w.alloc (.cells #[vI 0,vI 0,vI 0] 46));rw[iM] at k0 o0;rw[hN];replace k0:=af k0;replace o0:=af o0;clear HU hp hN;go_in;go_wp2_with fail
 clear iM;go_loopw [21] (λz w2=>∃i:Nat,i<=N/\z=vI i/\Calm W1 w2) (λz _=>N-(intOf z).toNat)
 case atStart=>exact⟨0,by omega,rfl,aq⟩
 case round=>
  obtain⟨w3,rfl⟩:∃w3,w3=wr:=⟨_,rfl⟩;obtain⟨i,hi,rfl,jX⟩:=hrel
  by_cases aZ:i<N
  ·obtain⟨g,o,u,rfl,kL,ba,bc,rfl,hb⟩:=dQ.out i aZ;obtain⟨JM,Dh⟩:=df.out i aZ;obtain⟨R0,Jl⟩:=au (Q.getD i []);rw[Jl] at hb JM Dh kL;obtain⟨M,hM⟩:=au R0.length;rw[hM] at kL JM;have y0:=kL w3 (k0.out.trans jX)
   have AY:Hid (∀b,b<M->∃g2 o2 u2,ba=some ⟨g2,o2,none⟩/\(∀W,Calm w3 W->W.cell? ⟨g2,o2+b,none⟩=some u2)/\fo T0 w3 u2 (R0.getD b [])):=λb EG=>by
    obtain⟨g,o,u,h1,h2,h3,h4⟩:=hb b (by omega);exact⟨g,o,u,h1,λW c=>((k0.out.trans jX).trans c).cellAt h3 id,h4.calm (k0.out.trans jX)⟩
   have Bc:Hid (∀b,b<M->(1<=(R0.getD b []).length/\(R0.getD b []).length<=6)/\∀d∈R0.getD b [],d.Rt):=λb EG=>Dh b (by omega);replace jX:=af jX;clear kL Jl hM hb Dh;go_wp2_with fail
   clear y0;go_loopw [33] (λz w2=>∃b:Nat,b<=M/\z=vI b/\Calm w3 w2) (λz _=>M-(intOf z).toNat)
   case atStart=>exact⟨0,by omega,rfl,aq⟩
   case round=>
    obtain⟨wx,rfl⟩:∃wx,wx=wr:=⟨_,rfl⟩;obtain⟨b,hb,rfl,gC⟩:=hrel
    by_cases gJ:b<M
    ·obtain⟨g2,o2,u2,rfl,mY,da,dc,rfl,hd⟩:=AY.out b gJ;obtain⟨L0,Ns⟩:=au (R0.getD b []);obtain⟨Gq,oP⟩:=Bc.out b gJ;rw[Ns] at hd Gq oP mY;obtain⟨K,hK⟩:=au L0.length;rw[hK] at mY hd Gq;have z0:=mY wx gC
     have Jy:Hid (∀k,k<K->∃g3 o3,da=some ⟨g3,o3,none⟩/\(L0.getD k dD).Rt/\∀W,Calm wx W->∀j u,(eZ (L0.getD k dD))[j]?=some u->W.cell? ⟨g3,o3+k*5+j,none⟩=some u):=λk hk=>by
      obtain⟨g,o,h1,h2,h3⟩:=hd k hk;exact⟨g,o,h1,oP _ (get_mem _ (by omega)),λW c j u hu=>(gC.trans c).cellAt (h3 j u hu) id⟩
     obtain⟨kN,Gq⟩:=Gq;replace gC:=af gC;clear mY Ns hK hd oP;go_wp2_with fail
     clear z0;go_loopw [51] (λz w2=>∃k:Nat,k<=K/\z=vI k/\Calm wx w2) (λz _=>K-(intOf z).toNat)
     case atStart=>exact⟨0,by omega,rfl,aq⟩
     case round=>
      obtain⟨wy,rfl⟩:∃wy,wy=wr:=⟨_,rfl⟩;obtain⟨k,hk,rfl,dW⟩:=hrel
      by_cases yL:k<K
      ·obtain⟨g3,o3,rfl,hdr,lS⟩:=Jy.out k yL;obtain⟨d,hd⟩:=au (L0.getD k dD);have lS:=lS wy dW;rw[hd] at lS hdr;have e0:=lS 0 _ rfl;have e1:=lS 1 _ rfl;have e2:=lS 2 _ rfl;have e3:=lS 3 _ rfl;have e4:=lS 4 _ rfl;rw[fj] at e0;have ka:Calm wy (wy.alloc (.cells #[vI d.k,vI d.a,vI d.b,vI d.i,vI d.n] 52)):=aq.alloc _;have of:=qo (wy.alloc (.cells #[vI d.k,vI d.a,vI d.b,vI d.i,vI d.n] 52)) d hdr;simp only[e_] at of;have aav:=af (dW.trans ka);replace dW:=af dW;clear lS hd hdr ka;go_wp2_with fail
       refine of.mono ?_;rintro e w6 ⟨rfl,c6⟩;clear of e0 e1 e2 e3 e4;have wZ:=af (aav.out.trans c6);clear c6;go_wp2_with fail
       exact⟨⟨k+1,by omega,by simp,wZ.out⟩,by simp[intOf] <;> omega⟩
      ·have abI:decide ((k:Int)<K)=false:=decide_eq_false (by omega);have wZ:=af (gC.out.trans dW);clear dW;go_wp2_with fail
       exact⟨⟨b+1,by omega,by simp,wZ.out⟩,by simp[intOf] <;> omega⟩
    ·have NN:decide ((b:Int)<M)=false:=decide_eq_false (by omega);have wZ:=af (jX.out.trans gC);clear gC;go_wp2_with fail
     exact⟨⟨i+1,by omega,by simp,wZ.out⟩,by simp[intOf] <;> omega⟩
  ·have jL:decide ((i:Int)<N)=false:=decide_eq_false (by omega);have p4:=o0.out.calm jX;have T1:=p4.whole (us:=[vI 0,vI 0,vI 0]) rfl;have F1:=rG w3 (w.heap.size) 0 [vI 0,vI 0,vI 0];have hP:Vd w (.returned (.tuple #[vI 0,.agg #[vI 0,vI 0,vI 0]])) (w3.setCells w.heap.size 0 [vI 0,vI 0,vI 0]):=⟨rfl,(k0.out.trans jX).join F1 (λj hj e=>by omega)⟩;replace hP:=af hP;replace T1:=af T1;obtain⟨y0,z0,y1,z1,y2,z2⟩:=ag.sR p4;clear F1 p4 jX;go_wp2;exact bodyPost_ret (O3 rfl rfl rfl T1.out) rfl hP.out
def d6:bT:=⟨0,0,[0,0,0,0,0,0],[0,0,0,0,0,0],false⟩
theorem Oq:(prog.info? 31).map (λi=>(i.zero,i.size,i.bytes))=some (some (.agg #[vI 0,vI 0,vI 0,vI 0,vI 0,vI 0,vI 0,vI 0,vI 0,vI 0,vI 0,vI 0,vI 0,vI 0,.bool false]),15,120):=by kernel_rfl
theorem OB:∀n,n<=4->(madeCells (Value.agg #[vI 0,vI 0,vI 0,vI 0,vI 0,vI 0,vI 0,vI 0,vI 0,vI 0,vI 0,vI 0,vI 0,vI 0,.bool false]).cells (n*15)).toList=(List.replicate n d6).flatMap bq
 | 0,_=>by kernel_rfl
 | 1,_=>by kernel_rfl
 | 2,_=>by kernel_rfl
 | 3,_=>by kernel_rfl
 | 4,_=>by kernel_rfl
 | n+5,h=>by omega
theorem fo.cells{T:Nat->Prop}{w:aj}{v:aC}{l:List Dd}(h:fo T w v l)(h0:0<l.length):∃g o c,v=.slice (some ⟨g,o,none⟩) l.length c/\∀j u,(l.flatMap eZ)[j]?=some u->w.cell? ⟨g,o+j,none⟩=some u:=by
 obtain⟨a,c,rfl,h⟩:=h;obtain⟨g,o,rfl,t,h1⟩:=h 0 h0;refine⟨g,o,c,rfl,λj u hj=>?_⟩
 have hl:j<l.length*5:=by
  have:=(List.getElem?_eq_some_iff.1 hj).1
  rwa [dS eZ 5 sS] at this
 have e:j / 5*5+j % 5=j:=by omega
 have hi:j / 5<l.length:=by omega
 obtain⟨g2,o2,e2,t2,h2⟩:=h (j / 5) hi;injection e2 with e2
 injection e2 with e3 e4 e5
 subst e3 e4;have h3:=wQ eZ 5 sS dD l (j / 5) hi (j % 5) (by omega);rw[e,hj] at h3;have:=h2 (j % 5) u h3.symm
 rwa [Nat.add_assoc,e] at this
theorem M4(l:List Dd):∀u∈l.flatMap eZ,u.oneCell'=true:=by
 intro u hu;obtain⟨d,_,hd⟩:=List.mem_flatMap.1 hu;simp[eZ] at hd;rcases hd with rfl|rfl|rfl|rfl|rfl <;> rfl
theorem XM{w:aj}{base:Nat}{e:TypeId}{k n:Nat}{v:aC}{xs:List aC}(h:w.ownsRow base e k v n xs):w.ownsRow 0 e k v n xs:=by
 refine⟨h.1,?_⟩;rcases h.2 with h|⟨g,cap,cur,h1,h2,h3⟩
 ·exact .inl h
 ·exact .inr ⟨g,cap,cur,h1,cK _,h3⟩
def MnP(w:aj)(m:Int)(Q:List (List (List Dd)))(e:Ending)(w':aj):Prop:=
 ∃mp τ S tv hv,e=.returned (.tuple #[pV mp,vI 0])/\Mc w' τ 0 mp S Q tv hv ⟨nS,[]⟩ (List.replicate Q.length d6)/\(∀b,b<w.heap.size->τ b=1000)/\Calm w w'/\Ae S/\S.bB.length=Q.length/\S.aW=m
def Vm(W6:aj)(mp sp:Nat)(hv:aC)(Q:List (List (List Dd)))(i:Nat)(wr:aj):Prop:=
 ∃tv,ir fJ [] 38 (λb=>W6.heap.size<=b) wr tv (Q.take i)/\ag wr mp [pV sp,tv,hv,.int .i32 0,.int .u32 0,nS]/\Fr (λk=>k=mp) W6 wr
def MnJ(w3:aj)(P:List (List Dd))(x:aC)(b:Nat)(wr:aj):Prop:=ir fo [] 50 (λb=>w3.heap.size<=b) wr x (P.take b)/\Calm w3 wr
theorem xL{α:Type}{l:List α}{i:Nat}(h:i<l.length)(d:α):l.take (i+1)=l.take i++[l.getD i d]:=by
 rw[List.take_succ_eq_append_getElem h];simp[aS,h]
theorem Mc.new{w w3 W6 wr:aj}{τ:Nat->Nat}{S:aY}{mp:Nat}{hv:aC}{Q:List (List (List Dd))}(cy:St w3 τ 0 S)(ht:∀b,b<w.heap.size->τ b=1000)(c0:Calm w w3)(c3:Calm w3 W6)(hp:tL Q)
 (hh:W6.ownsRow 0 31 15 hv Q.length ((List.replicate Q.length d6).flatMap bq)) (h1:∀b,aB hv b->w3.heap.size<=b/\b≠mp) (hm:w3.heap.size<=mp) (hm6:mp<W6.heap.size) (hI:Vm W6 mp S.sp hv Q Q.length wr) :
 ∃tv aX,Mc wr aX 0 mp S Q tv hv ⟨nS,[]⟩ (List.replicate Q.length d6)/\(∀b,b<w.heap.size->aX b=1000)/\Calm w wr:=by
 classical
 obtain⟨tv,hG,hc,hf⟩:=hI;have hQ:Q.take Q.length=Q:=List.take_length;rw[hQ] at hG;have f3:Fr (λk=>k=mp) w3 wr:=(Calm.any c3:Fr (λk=>k=mp) _ _).trans hf;have cw:Calm w wr:=c0.join f3 (λj hj e=>by have e:j=mp:=e;have:=c0.size;omega);refine⟨tv,λb=>if b<w3.heap.size then τ b else if b=mp then 600 else if aB hv b then 601 else 603,⟨?_,hc,?_,⟨g_ _ _ _,cK _⟩,?_,?_,?_,λb hb=>absurd hb (aB.nil b),by simp,?_,hp⟩,λb hb=>?_,cw⟩
 ·obtain⟨M,k1,k2,k3⟩:=cy;refine⟨M,⟨λt=>(M t).fr (k1.at_ t) f3 (λk hk e=>?_),λt k hk=>?_⟩,k2,k3⟩
  ·have:=k1.lt t hk;omega
  ·simp only[if_pos (k1.lt t hk)];exact k1.tag t k hk
 ·rw[List.length_replicate];exact az hh hf (λb hb e=>(h1 b hb).2 e)
 ·have h9:dJ (λb=>W6.heap.size<=b) wr tv Q:=hG.TD SN
  exact h9.mono (λb _ hb=>by
   have hb:W6.heap.size<=b:=hb;have s3:=c3.size;have n1:¬b<w3.heap.size:=by omega
   have n2:¬b=mp:=by omega
   have n3:¬aB hv b:=λe=>by have:=(World.ownsRow.lt hh b e).2;omega
   show(if b<w3.heap.size then τ b else if b=mp then 600 else if aB hv b then 601 else 603)=603
   rw[if_neg n1,if_neg n2,if_neg n3])
 ·show(if mp<w3.heap.size then τ mp else if mp=mp then 600 else _)=600;rw[if_neg (by omega),if_pos rfl]
 ·intro b hb;obtain⟨g1,g2⟩:=h1 b hb;show(if b<w3.heap.size then τ b else if b=mp then 600 else if aB hv b then 601 else 603)=601;rw[if_neg (by omega),if_neg g2,if_pos hb]
 ·intro t Zj;rw[List.length_replicate] at Zj;have e:(List.replicate Q.length d6).getD t d0=d6:=by simp[aS,Zj]
  rw[e];exact⟨⟨by decide,by show(0:Int)<=_;omega⟩,⟨by decide,by decide⟩,λe=>(by cases e),rfl,rfl,λa ha=>(by simp[d6] at ha;omega),λa ha=>(by simp[d6] at ha;omega)⟩
 ·show(if b<w3.heap.size then τ b else _)=1000;rw[if_pos (by have:=c0.size;omega)];exact ht b hb
theorem OD{T0:Nat->Prop}{w:aj}{v:aC}{Q:List (List (List Dd))}(hr:dJ T0 w v Q)(hp:tL Q)(n:Nat)(h1:16<=n)(h2:n<=16384)(r u aW:Int)(Za:0<=aW/\aW<=1099511627776):aL prog 7 #[vI (n:Int),vI r,vI u,vI aW,v] w (MnP w aW Q):=by
 obtain⟨i0,hi,ie,gU,iw⟩:=info_parts Oq;have yG:=Av hr hp;obtain⟨va,vc,rfl,HU⟩:=hr;obtain⟨N,hN⟩:=au Q.length;have YZ:1<=N/\N<=4:=by rw[<-hN];exact hp.n
 have dQ:Hid (∀i,i<N->∃g o u,va=some ⟨g,o,none⟩/\(∀W,Calm w W->W.cell? ⟨g,o+i,none⟩=some u)/\fJ T0 w u (Q.getD i [])):=λi hi=>by
  obtain⟨g,o,u,h1,h2,h3,h4⟩:=HU i (by omega);exact⟨g,o,u,h1,λW c=>c.cellAt h3 id,h4⟩
 have df:Hid (∀i,i<N->(Q.getD i []).length<=3/\∀b,b<(Q.getD i []).length->1<=((Q.getD i []).getD b []).length/\((Q.getD i []).getD b []).length<=6):=λi hi=>⟨hp.b i (by omega),λb hb=>hp.d i (by omega) b hb⟩;have Dw:Hid (∀i,i<N->Q.take (i+1)=Q.take i++[Q.getD i []]):=λi hi=>xL (by omega) [];have HZ:Hid (∀i,i<=N->(Q.take i).length=i):=λi hi=>by rw[List.length_take];omega
 have UK:=λW=>af (LV W n N h1 h2 (by omega) (by omega) r u aW Za);rw[hN] at yG ⊢;replace yG:=af yG;replace hp:=af hp;replace hN:=af hN;replace hi:=af hi;clear HU h1 h2;go_in;go_wp2_with fail
 refine yG.out.mono ?_;rintro e w1 ⟨rfl,c1⟩;clear yG;have k2:Calm w (w1.alloc (.cells #[vI 0,vI 0,vI 0] 46)):=c1.alloc _;go_upto_region 4 with fail
 generalize iA:w1.alloc (.cells #[vI 0,vI 0,vI 0] 46)=W2 at *;clear iA;have ox:=(UK W2).out;clear UK c1;go_wp2_with fail
 refine ox.mono ?_;rintro e w3 ⟨τ,S,rfl,cy,ht,c3,nK,ES,H5⟩;clear ox;have yg:=k2.trans c3;have Xn:Hid (∀b,b<w.heap.size->τ b=1000):=λb hb=>ht b (by have:=k2.size;omega);obtain⟨sp,sI⟩:=au S.sp;rw[sI];replace sI:=af sI;replace cy:=af cy;replace nK:=af nK;replace H5:=af H5;replace ES:=af ES;clear ht k2 c3
 go_upto_block 0 with (
  at_make
  go_must (refine wpList_make_full _ rfl _ _ 59 rfl w3.heap.size 31 i0 (.agg #[vI 0,vI 0,vI 0,vI 0,vI 0,vI 0,vI 0,vI 0,vI 0,vI 0,vI 0,vI 0,vI 0,vI 0,.bool false]) 15 Tryz.underlying59 hi.out ie gU .i64 .i64 N N N rfl rfl rfl rfl (by rw[iw];omega) (by unfold maxLen;omega) (aM _) ?_)
  intro w4 cH eU;rw[OB N YZ.2] at cH;have c4:Calm w3 w4:=Fr.grown aq eU (λk hk=>by cases hk);replace cH:=af cH;have vx:w3.heap.size<w4.heap.size:=(World.ownsRow.lt cH.out w3.heap.size (aB.mk.2 rfl)).2
  clear eU)
 obtain⟨kb,ob⟩:=gL w4 [pV sp,.slice none 0 0,.slice (some ⟨w3.heap.size,0,none⟩) N N,.int .i32 0,.int .u32 0,.slice none 0 0] 70;have Ql:(w4.alloc (.cells #[pV sp,.slice none 0 0,.slice (some ⟨w3.heap.size,0,none⟩) N N,.int .i32 0,.int .u32 0,.slice none 0 0] 70)).heap.size=w4.heap.size+1:=by simp
 generalize lQ:w4.alloc (.cells #[pV sp,.slice none 0 0,.slice (some ⟨w3.heap.size,0,none⟩) N N,.int .i32 0,.int .u32 0,.slice none 0 0] 70)=W6 at *;clear lQ;obtain⟨mp,JG⟩:=au w4.heap.size;rw[JG] at ob Ql vx ⊢;have um:Hid (Vm W6 mp sp (.slice (some ⟨w3.heap.size,0,none⟩) N N) Q 0 W6):=⟨nS,ir.nil _,ob,aq⟩;have L9:=yg.trans (c4.trans kb);have abN:w.heap.size<=mp:=by have:=yg.size;omega
 have sD:Hid (∀wr,Vm W6 mp sp (.slice (some ⟨w3.heap.size,0,none⟩) N N) Q N wr->MnP w aW Q (.returned (.tuple #[pV mp,vI 0])) wr):=λwr hI=>by
  have Ji:=hN.out;have aaS:=sI.out;subst Ji aaS;obtain⟨tv,aX,g1,g2,g3⟩:=Mc.new cy.out Xn.out yg (c4.trans kb) hp.out (az (XM cH.out) kb (λ_ _=>id)) (λb hb=>by obtain rfl:=aB.fg hb;exact⟨aM _,by omega⟩) (by omega) (by omega) hI;exact⟨mp,aX,S,tv,_,rfl,g1,g2,g3,nK.out,ES.out,H5.out⟩
 replace L9:=af L9;clear ob kb c4 cH cy Xn sI hp hN yg ie gU iw;go_wp2_with fail
 go_loopw [49] (λz w2=>∃i:Nat,i<=N/\z=vI i/\Vm W6 mp sp (.slice (some ⟨w3.heap.size,0,none⟩) N N) Q i w2) (λz _=>N-(intOf z).toNat)
 case atStart=>exact⟨0,by omega,rfl,um.out⟩
 case round=>
  clear um;obtain⟨wo,rfl⟩:∃wo,wo=wr:=⟨_,rfl⟩;obtain⟨i,sZ,rfl,hI⟩:=hrel
  by_cases aZ:i<N
  ·obtain⟨g,o,u,rfl,kL,ba,bc,rfl,hb⟩:=dQ.out i aZ;obtain⟨tv,yx,jX,WE⟩:=hI;obtain⟨JM,Dh⟩:=df.out i aZ;have Xr:=af (Dw.out i aZ);have WS:=af (HZ.out i sZ);have VI:Calm w wo:=L9.out.join WE (λj hj e=>by omega);obtain⟨R0,Jl⟩:=au (Q.getD i []);rw[Jl] at hb JM Dh kL Xr;obtain⟨M,hM⟩:=au R0.length;rw[hM] at kL JM;have y0:=kL wo VI
   have AY:Hid (∀b,b<M->∃g2 o2 u2,ba=some ⟨g2,o2,none⟩/\(∀W,Calm wo W->W.cell? ⟨g2,o2+b,none⟩=some u2)/\fo T0 wo u2 (R0.getD b [])):=λb EG=>by
    obtain⟨g,o,u,h1,h2,h3,h4⟩:=hb b (by omega);exact⟨g,o,u,h1,λW c=>(VI.trans c).cellAt h3 id,h4.calm VI⟩
   have Bc:Hid (∀b,b<M->1<=(R0.getD b []).length/\(R0.getD b []).length<=6):=λb EG=>Dh b (by omega);have GA:Hid (∀b,b<M->R0.take (b+1)=R0.take b++[R0.getD b []]):=λb EG=>xL (by omega) [];have WT:Hid (∀b,b<=M->(R0.take b).length=b):=λb EG=>by rw[List.length_take];omega
   have WJ:Hid (R0.take M=R0):=by unfold Hid;rw[<-hM,List.take_length]
   replace VI:=af VI;replace yx:=af yx;replace jX:=af jX;replace WE:=af WE;clear kL Jl hM hb Dh;go_wp2_with fail
   clear y0;go_loopw [19,55] (λx z w2=>∃b:Nat,b<=M/\z=vI b/\MnJ wo R0 x b w2) (λ_ z _=>M-(intOf z).toNat)
   case atStart=>exact⟨0,by omega,rfl,ir.nil _,aq⟩
   case round=>
    obtain⟨wx,rfl⟩:∃wx,wx=wr:=⟨_,rfl⟩;obtain⟨x5,rfl⟩:∃x5,x5=u19:=⟨_,rfl⟩;obtain⟨b,hb,rfl,vJ,gC⟩:=hrel
    by_cases gJ:b<M
    ·obtain⟨g2,o2,u2,rfl,mY,hd⟩:=AY.out b gJ;obtain⟨L0,Ns⟩:=au (R0.getD b []);obtain⟨kN,Gq⟩:=Bc.out b gJ;have Xs:=af (GA.out b gJ);have aaG:=af (WT.out b hb);rw[Ns] at hd kN Gq Xs;obtain⟨g3,o3,dc,rfl,lS⟩:=(hd.calm gC).cells kN;obtain⟨K,hK⟩:=au L0.length;rw[hK] at mY kN Gq;have z0:=mY wx gC;have Mq:Hid ((L0.flatMap eZ).length=K*5):=by unfold Hid;rw[<-hK];exact dS eZ 5 sS L0
     have aaw:Hid (∀j u,(L0.flatMap eZ)[j]?=some u->wx.cell? ((⟨g3,o3,none⟩:Addr).add j)=some u):=λj u hj=>by rw[tV];exact lS j u hj
     have hsw:Hid (wo.heap.size<=wx.heap.size):=gC.size;have JK:Hid (∀b,aB x5 b->b<wx.heap.size):=λb hb=>vJ.lt hb;replace vJ:=af vJ;replace gC:=af gC;replace hK:=af hK;have abw:=af Ns;clear mY Ns hd lS;have YC:True:=trivial
     go_wp2_with (first
      | (
       at_builtin
       have _t:=YC
       go_must (refine fI giD rfl _ _ rfl nS 0 [] (g_ _ _ _) rfl ⟨g3,o3,none⟩ K dc (L0.flatMap eZ) rfl Mq.out (M4 L0) aaw.out (by omega) ?_)
       intro v6 w6 Dm f6 Qh;rw[fk,List.nil_append] at Dm;have c6:Calm wx w6:=f6.mono (λk _ e=>absurd e (aB.nil k));obtain⟨xa,xc,rfl⟩:=aG Dm
       have hD6:Hid (qC (λb=>wx.heap.size<=b) w6 (.slice xa K xc) L0):=⟨by rw[hK.out];exact Dm,λb hb=>by
        rcases Qh b hb with e|e
        ·exact absurd e (aB.nil b)
        ·exact e⟩
       have ka:Calm w6 (w6.alloc (.cells #[.slice xa K xc] 50)):=aq.alloc _;have Jg:=af (vJ.out.calm Oo (c6.trans ka));have dW:=af (gC.out.trans (c6.trans ka))
       have hy:Hid (fo (λb=>wo.heap.size<=b/\¬aB x5 b) (w6.alloc (.cells #[.slice xa K xc] 50)) (.slice xa K xc) L0):=by
        have h0:=(hD6.out.calm ka).TD;exact h0.mono (λb _ hb=>⟨fH hsw.out hb,λe=>by have:=JK.out b e;have EG:wx.heap.size<=b:=hb;omega⟩)
       have sx:Hid ((w6.alloc (.cells #[.slice xa K xc] 50)).cell? ⟨w6.heap.size,0,none⟩=some (.slice xa K xc)):=by
        unfold Hid;rw[World.cell?_alloc_new];rfl
       have nL:Hid (wo.heap.size<=(w6.alloc (.cells #[.slice xa K xc] 50)).heap.size):=dW.out.size;clear Dm f6 Qh c6 ka YC;have YD:True:=trivial
       go_frame)
      | (at_builtin;have _t:=YD;go_must (refine jA giB Oo rfl _ _ rfl x5 (R0.take b) Jg.out rfl (.slice xa K xc) L0 w6.heap.size 1 rfl sx.out rfl hy.out (λb hb=>fH nL.out hb) (by rw[aaG.out];omega) ?_);intro g8 c8 w8 vO f8;have hQ:Hid (MnJ wo R0 (.slice (some ⟨g8,0,none⟩) ((R0.take b).length+1) c8) (b+1) w8):=⟨by rw[Xs.out];exact vO,dW.out.join f8 (λj hj e=>by have:wo.heap.size<=j:=Jg.out.own e;omega)⟩;clear vO f8 YD;go_frame))
     exact⟨⟨b+1,by omega,by simp,hQ.out⟩,by simp[intOf] <;> omega⟩
    ·have NN:decide ((b:Int)<M)=false:=decide_eq_false (by omega);obtain rfl:b=M:=by omega
     obtain⟨pa,pc,XB⟩:=vJ.slice;have Gr:=WT.out b (aM _);rw[Gr] at XB;subst XB;have hfu:=WJ.out;rw[hfu] at vJ;have ka:Calm wx (wx.alloc (.cells #[.slice pa b pc] 38)):=aq.alloc _;have fz:=WE.out;have Jg:=af (yx.out.calm SN (gC.trans ka));have hcx:=af (jX.out.calm gC);have yE:=af ((WE.out.trans (Calm.any (gC.trans ka))));have JK:Hid (∀b,aB tv b->b<wo.heap.size):=λb hb=>yx.out.lt hb
     have hy:Hid (fJ (λb=>W6.heap.size<=b/\¬aB tv b) (wx.alloc (.cells #[.slice pa b pc] 38)) (.slice pa b pc) R0):=by
      have h0:fJ _ _ _ _:=(vJ.calm Oo ka).TD Oo;exact h0.mono (λb _ hb=>⟨fH fz.size hb,λe=>by have:=JK.out b e;have EG:wo.heap.size<=b:=hb;omega⟩)
     have sx:Hid ((wx.alloc (.cells #[.slice pa b pc] 38)).cell? ⟨wx.heap.size,0,none⟩=some (.slice pa b pc)):=by
      unfold Hid;rw[World.cell?_alloc_new];rfl
     have nL:Hid (W6.heap.size<=(wx.alloc (.cells #[.slice pa b pc] 38)).heap.size):=yE.out.size;have ym:=(hcx.out 1 _ rfl).1;have Y1:=af (hcx.out.calm ka);have aaM:Hid (¬aB tv mp):=λe=>by have:W6.heap.size<=mp:=yx.out.own e;omega
     clear fz vJ gC ka hfu Gr hcx
     go_wp2_with (
      at_builtin
      go_must (refine jA giQ SN rfl _ _ rfl tv (Q.take i) Jg.out rfl (.slice pa b pc) R0 wx.heap.size 1 rfl sx.out rfl hy.out (λb hb=>fH nL.out hb) (by rw[WS.out];omega) ?_)
      intro g8 c8 w8 vO f8;rw[WS.out] at vO ⊢;have du:=Y1.out.fr f8 aaM.out;have y8:=(du 1 _ rfl).1;have y8':=(du 1 _ rfl).2;have EH:=du.set 1 (.slice (some ⟨g8,0,none⟩) (i+1) c8) (by simp);have F9:=l_ w8 (mp) 1 (.slice (some ⟨g8,0,none⟩) (i+1) c8)
      have hQ:Hid (Vm W6 mp sp (.slice (some ⟨w3.heap.size,0,none⟩) N N) Q (i+1) (w8.setCell ⟨mp,1,none⟩ (.slice (some ⟨g8,0,none⟩) (i+1) c8))):=
       ⟨_,by rw[Xr.out];exact vO.fr SN F9 (λb hb e=>by have hb:W6.heap.size<=b:=hb;omega),EH,(yE.out.join f8 (λj hj e=>by have:W6.heap.size<=j:=Jg.out.own e;omega)).trans F9⟩
      clear vO f8 du EH F9
      go_frame)
     exact⟨⟨i+1,by omega,by simp,hQ.out⟩,by simp[intOf] <;> omega⟩
  ·have jL:decide ((i:Int)<N)=false:=decide_eq_false (by omega);obtain rfl:i=N:=by omega
   have dh:=af (sD.out _ hI);clear hI sD;go_wp2;exact bodyPost_ret (v:=.tuple #[pV mp,vI 0]) (by simp[results,Tryz.f7,go_sem]) rfl dh.out
