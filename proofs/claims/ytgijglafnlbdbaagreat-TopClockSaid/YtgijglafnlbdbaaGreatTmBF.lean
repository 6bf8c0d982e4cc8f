import Derived.Test.YtgijglafnlbdbaaGreatTmBE
set_option linter.all false
set_option maxHeartbeats 8000000
set_option maxRecDepth 8000
namespace Go.Proofs.YtgijglafnlbdbaaGreat
open RowKit Shelf Proofs.Tryz
open Go renaming World->aj,Value->aC,Calls->aL
theorem OA:∀n,n<=4->(madeCells (Value.agg #[vI 0,vI 0]).cells (n*2)).toList=(List.replicate n (⟨0,0⟩:tN)).flatMap sL
 | 0,_=>by kernel_rfl
 | 1,_=>by kernel_rfl
 | 2,_=>by kernel_rfl
 | 3,_=>by kernel_rfl
 | 4,_=>by kernel_rfl
 | n+5,h=>by omega
def zY(N i:Nat):List tN:=List.replicate i cJ++List.replicate (N-i) ⟨0,0⟩
theorem zC{N i:Nat}(h:i<=N):(zY N i).length=N:=by simp[zY];omega
theorem Pc{N i:Nat}(h:i<N):(zY N i).set i cJ=zY N (i+1):=by
 unfold zY;rw[List.set_append_right _ _ (by simp),List.length_replicate,Nat.sub_self,show N-i=(N-(i+1))+1 by omega,List.replicate_succ,qq,List.replicate_succ',List.append_assoc];rfl
theorem Fy{N i:Nat}(h:i<N):(zY N i).getD i cJ=⟨0,0⟩:=by
 unfold zY;rw[aS,Cb (by simp),List.length_replicate,Nat.sub_self,show N-i=(N-(i+1))+1 by omega,List.replicate_succ];rfl
theorem Pb(N:Nat):zY N N=List.replicate N cJ:=by simp[zY]
theorem iZ.start{w w':aj}{T0:Nat->Prop}{rp:Nat}{pv atv:aC}{Q:Pg}(hp:dJ T0 w pv Q)(hc:ag w' rp [pv,atv,.slice none 0 0,vI 0])(ha:w'.ownsRow 0 135 2 atv Q.length ((List.replicate Q.length cJ).flatMap sL))(c:Calm w w')(h1:w.heap.size<=rp)(h2:∀b,aB atv b->w.heap.size<=b/\b≠rp) :
 ∃τ,iZ w' τ rp pv Q 0 (Rd.start Q)/\∀b,b<w.heap.size->τ b=10000:=by
 classical
 refine⟨λk=>if k=rp then 1 else if aB atv k then 2 else 10000,⟨λj=>if j=1 then bD rp pv [atv,.slice none 0 0,vI 0] else if j=2 then dK 135 2 atv Q.length ((List.replicate Q.length cJ).flatMap sL) else if j=3 then dK 89 10 nR 0 [] else lZ,atv,nR,[],⟨λj=>?_,λj k hk=>?_⟩,⟨rfl,?_,rfl,λk hk=>absurd hk (Nat.not_lt_zero k),λj hj=>?_⟩,rfl,?_,?_⟩,λb hb=>?_⟩
 ·show(if j=1 then _ else if j=2 then _ else if j=3 then _ else lZ:si).at_ w'
  by_cases e1:j=1
  ·rw[if_pos e1];exact hc
  rw[if_neg e1]
  by_cases e2:j=2
  ·rw[if_pos e2];exact ha
  rw[if_neg e2]
  by_cases e3:j=3
  ·rw[if_pos e3];exact DC _ _ _
  rw[if_neg e3];exact trivial
 ·replace hk:(if j=1 then bD rp pv [atv,.slice none 0 0,vI 0] else if j=2 then dK 135 2 atv Q.length ((List.replicate Q.length cJ).flatMap sL) else if j=3 then dK 89 10 nR 0 [] else lZ:si).bU k:=hk
  by_cases e1:j=1
  ·rw[if_pos e1] at hk;have hk:k=rp:=hk;simp only[if_pos hk];exact e1.symm
  rw[if_neg e1] at hk
  by_cases e2:j=2
  ·rw[if_pos e2] at hk;have hk:aB atv k:=hk;simp only[if_neg (h2 k hk).2,if_pos hk];exact e2.symm
  rw[if_neg e2] at hk
  by_cases e3:j=3
  ·rw[if_pos e3] at hk;exact absurd hk (aB.nil k)
  rw[if_neg e3] at hk;exact hk.elim
 ·show dK _ 2 atv Q.length _=dK _ 2 atv (List.replicate Q.length cJ).length _;rw[List.length_replicate];rfl
 ·have hj:10<=j:=hj;show(if j=1 then _ else if j=2 then _ else if j=3 then _ else lZ:si)=lZ;rw[if_neg (by omega),if_neg (by omega),if_neg (by omega)]
 ·refine((hp.mono (T':=λb=>b<w.heap.size) (λb hb _=>hb)).calm c).mono (λb _ e=>?_);show 10000<=(if b=rp then 1 else if aB atv b then 2 else 10000);rw[if_neg (show ¬b=rp by omega),if_neg (show ¬aB atv b from λe2=>by have:=(h2 b e2).1;omega)];exact aM _
 ·refine⟨by show(List.replicate Q.length cJ).length=_;simp,λt ht=>?_,⟨Int.le_refl 0,Int.le_refl 0⟩,aM 0,λk hk=>absurd hk (Nat.not_lt_zero k)⟩
  have:(List.replicate Q.length cJ).getD t cJ=cJ:=by
   have ht:t<(List.replicate Q.length cJ).length:=ht;rw[aS,jI ht];simp
  show cL ((List.replicate Q.length cJ).getD t cJ).block/\_/\_;rw[show(Rd.start Q).sp=List.replicate Q.length cJ from rfl,this];exact⟨⟨by decide,by decide⟩,Int.le_refl (-1),by show(-1:Int)<0;decide⟩
 ·simp only[if_neg (show ¬b=rp by omega),if_neg (show ¬aB atv b from λe=>by have:=(h2 b e).1;omega)]
theorem xD{w:aj}{base:Nat}{e:TypeId}{k n:Nat}{v:aC}{xs:List aC}(h:w.ownsRow base e k v n xs):w.ownsRow 0 e k v n xs:=by
 refine⟨h.1,?_⟩;rcases h.2 with h|⟨g,cap,cur,h1,h2,h3⟩
 ·exact .inl h
 ·exact .inr ⟨g,cap,cur,h1,cK _,h3⟩
def tP(w:aj)(pv:aC)(Q:Pg)(H:List En)(e:Ending)(w':aj):Prop:=
 (tries Q H=none/\e=.returned (.tuple #[nR,.bool false])/\Calm w w') \/
 ∃aX M' rp atv cz ms r,tries Q H=some r.tr/\e=.returned (.tuple #[cz,.bool true])/\Calm w w'/\(∀b,b<w.heap.size->aX b=10000)/\bF w' aX M'/\tM M' rp pv atv cz r.sp ms r.bY/\ms.map (·.x)=r.tr/\MM Q r H.length
def TrI(w:aj)(rp:Nat)(pv:aC)(Q:Pg)(H:List En)(i:Nat)(wr:aj):Prop:=∃iT ri,iZ wr iT rp pv Q i ri/\Rd.run Q H 0 (Rd.start Q)=Rd.run Q (H.drop i) i ri/\(∀b,b<w.heap.size->iT b=10000)/\Calm w wr
theorem LP{T0:Nat->Prop}{w:aj}{v hv:aC}{Q:Pg}{H:List En}(hr:dJ T0 w v Q)(hp:tL Q)(he:w.ownsRow 0 76 6 hv H.length (H.flatMap En.c))(hH:H.length<=2000):aL prog 32 #[v,hv] w (tP w v Q H):=by
 obtain⟨i0,hi,ie,gU,iw⟩:=info_parts (show(prog.info? 135).map (λi=>(i.zero,i.size,i.bytes))=some (some (.agg #[vI 0,vI 0]),2,16) by kernel_rfl);have yG:=Av hr hp;obtain⟨va,vc,zU⟩:∃a c,v=.slice a Q.length c:=by obtain⟨a,c,e,_⟩:=hr;exact⟨a,c,e⟩
 obtain⟨N,hN⟩:=au Q.length;have YZ:1<=N/\N<=4:=by rw[<-hN];exact hp.n
 obtain⟨ha,hc,Sa⟩:=aG he;obtain⟨NH,CW⟩:=au H.length
 have dQ:Hid (∀i,i<NH->∃g,ha=some ⟨g,0,none⟩/\∀W,Calm w W->∀j u,(H.getD i ⟨0,0,0,0,0,0⟩).c[j]?=some u->W.cell? ⟨g,i*6+j,none⟩=some u):=λi hi=>by
  obtain⟨g,c,e1,e2⟩:=bz (f:=En.c) (λ_=>rfl) (by decide) he ⟨0,0,0,0,0,0⟩ (i:=i) (by omega);rw[Sa] at e1;injection e1 with e1 _ _
  exact⟨g,e1,λW c j u hu=>c.cellAt (e2 j u hu).1 id⟩
 rw[CW] at Sa hH;subst Sa;rw[hN] at zU;subst zU;replace yG:=af yG;replace hp:=af hp;replace hr:=af hr;replace hN:=af hN;replace CW:=af CW;replace hi:=af hi;clear he;go_in;go_wp2_with fail
 refine yG.out.mono ?_;rintro e w1 ⟨rfl,c1⟩;clear yG;have k2:Calm w (w1.alloc (.cells #[vI 0,vI 0,vI 0] 46)):=c1.alloc _;go_upto_region 4 with fail
 generalize iA:w1.alloc (.cells #[vI 0,vI 0,vI 0] 46)=W2 at *;clear iA c1
 go_upto_block 0 with (
  at_make
  go_must (refine wpList_make_full _ rfl _ _ 131 rfl W2.heap.size 135 i0 (.agg #[vI 0,vI 0]) 2 Tryz.underlying131 hi.out ie gU .i64 .i64 N N N rfl rfl rfl rfl (by rw[iw];omega) (by unfold maxLen;omega) (aM _) ?_)
  intro w4 cH eU;rw[OA N YZ.2] at cH;have c4:Calm W2 w4:=Fr.grown aq eU (λk hk=>by cases hk);replace cH:=af cH;have vx:W2.heap.size<w4.heap.size:=(World.ownsRow.lt cH.out W2.heap.size (aB.mk.2 rfl)).2
  clear eU)
 have kb:Calm w4 (w4.alloc (.cells #[.slice va N vc,.slice (some ⟨W2.heap.size,0,none⟩) N N,.slice none 0 0,vI 0] 133)):=aq.alloc _;have ob:ag (w4.alloc (.cells #[.slice va N vc,.slice (some ⟨W2.heap.size,0,none⟩) N N,.slice none 0 0,vI 0] 133)) w4.heap.size [.slice va N vc,.slice (some ⟨W2.heap.size,0,none⟩) N N,.slice none 0 0,vI 0]:=ag.GU w4 [_,_,_,_] _ _ rfl;generalize lQ:w4.alloc (.cells #[.slice va N vc,.slice (some ⟨W2.heap.size,0,none⟩) N N,.slice none 0 0,vI 0] 133)=W6 at *;clear lQ;obtain⟨rp,Xe⟩:=au w4.heap.size;obtain⟨ga,NK⟩:=au W2.heap.size;rw[Xe] at ob vx ⊢;rw[NK] at ob vx ⊢;have k6:Calm w W6:=(k2.trans c4).trans kb;have aaC:w.heap.size<=ga:=by rw[<-NK];exact k2.size
 have hA0:W6.ownsRow 0 135 2 (.slice (some ⟨ga,0,none⟩) N N) (zY N 0).length ((zY N 0).flatMap sL):=by
  have:=cH.out;rw[NK] at this;rw[zC (cK _)];have e:zY N 0=List.replicate N ⟨0,0⟩:=by simp[zY]
  rw[e];exact az (xD this) kb (λ_ _=>id)
 have um:Hid (ag W6 rp [.slice va N vc,.slice (some ⟨ga,0,none⟩) N N,.slice none 0 0,vI 0]/\W6.ownsRow 0 135 2 (.slice (some ⟨ga,0,none⟩) N N) (zY N 0).length ((zY N 0).flatMap sL)/\Calm w W6):=⟨ob,hA0,k6⟩;clear hA0 cH c4 kb k2 k6 ob;go_wp2_with fail
 go_loopw [27] (λz wr=>∃i:Nat,i<=N/\z=vI i/\ag wr rp [.slice va N vc,.slice (some ⟨ga,0,none⟩) N N,.slice none 0 0,vI 0]/\wr.ownsRow 0 135 2 (.slice (some ⟨ga,0,none⟩) N N) (zY N i).length ((zY N i).flatMap sL)/\Calm w wr) (λz _=>N-(intOf z).toNat)
 case atStart=>exact⟨0,by omega,rfl,um.out⟩
 case round=>
  obtain⟨i,hi,rfl,ho,dR,qP⟩:=hrel;clear um;have y1:=(ho 1 _ rfl).1
  by_cases aZ:i<N
  ·have ts:i<(zY N i).length:=by rw[zC hi];exact aZ
   have p1:=cf eN (by decide) dR cJ ts 1 (u:=vI 0) (by rw[Fy aZ];rfl);have A1:=fQ (n:=N) dR (zC hi).symm ts 1 (by decide) (vI (-1)) cJ (by rw[Fy aZ];rfl);rw[Pc aZ] at A1;have F1:Fr (λk=>k=ga) wr (wr.setCell ⟨ga,i*2+1,none⟩ (vI (-1))):=(Fr.refl (λk=>k=ga) wr).setCell (p:=⟨ga,i*2+1,none⟩) (.inl rfl) _;have o1:=ho.fr F1 (by omega);have c1:Calm w (wr.setCell ⟨ga,i*2+1,none⟩ (vI (-1))):=qP.join F1 (λj hj e=>by omega);have hF:=af (And.intro o1 (And.intro A1 c1));have ZE:=p1.1;have p12:=p1.2;clear A1 F1 o1 c1 dR ho;go_wp2;exact⟨⟨i+1,by omega,by simp,hF.out⟩,by simp[intOf] <;> omega⟩
  ·obtain rfl:i=N:=by omega
   have hI1:Hid (TrI w rp (.slice va i vc) Q H 0 wr):=by
    obtain⟨τ0,m1,m2⟩:=iZ.start (atv:=.slice (some ⟨ga,0,none⟩) i i) hr.out ho (by rw[hN.out];rw[Pb] at dR;simpa using dR) qP (by omega) (λb hb=>by obtain rfl:=aB.fg hb;exact⟨aaC,by omega⟩);exact⟨τ0,_,m1,rfl,m2,qP⟩
   have jL:decide ((i:Int)<i)=false:=decide_eq_false (by omega);clear ho dR qP y1;go_wp2_with fail
   go_loopw [38] (λz wr=>∃q:Nat,q<=NH/\z=vI q/\TrI w rp (.slice va i vc) Q H q wr) (λz _=>NH-(intOf z).toNat)
   case atStart=>exact⟨0,by omega,rfl,hI1.out⟩
   case round=>
    obtain⟨q,hq,rfl,iT,ri,hR,mn,jG,qP⟩:=hrel;clear hI1
    by_cases gJ:q<NH
    ·obtain⟨g,rfl,hcell⟩:=dQ.out q gJ;obtain⟨e,Y4⟩:=au (H.getD q ⟨0,0,0,0,0,0⟩);rw[Y4] at hcell;obtain⟨et,eb,en,ek,eE,ev⟩:=e;have x0:=hcell wr qP 0 _ rfl;have x1:=hcell wr qP 1 _ rfl;have x2:=hcell wr qP 2 _ rfl;have x3:=hcell wr qP 3 _ rfl;have x4:=hcell wr qP 4 _ rfl;have x5:=hcell wr qP 5 _ rfl;rw[fj] at x0;have kA:Calm wr (wr.alloc (.cells #[vI et,vI eb,vI en,vI ek,vI eE,vI ev] 76)):=aq.alloc _;have oA:ag (wr.alloc (.cells #[vI et,vI eb,vI en,vI ek,vI eE,vI ev] 76)) wr.heap.size (lG et eb en ek eE ev):=ag.GU wr [_,_,_,_,_,_] _ _ rfl;obtain⟨WA,hWA⟩:=au (wr.alloc (.cells #[vI et,vI eb,vI en,vI ek,vI eE,vI ev] 76));rw[hWA] at kA oA;have ot:=Ll (hR.calm kA) (by omega) hp.out et eb en ek eE ev
     have hd:Hid (H.drop q=⟨et,eb,en,ek,eE,ev⟩::H.drop (q+1)):=by
      show H.drop q=_;rw[List.drop_eq_getElem_cons (by have:=CW.out;omega),<-Y4];simp[aS,show q<H.length by have:=CW.out;omega]
     have yE:=qP.trans kA;replace mn:=af mn;replace jG:=af jG;replace Y4:=af Y4;simp only[lG] at oA;obtain⟨z0,z1,z2,z3,z4,z5⟩:=ag.t_ oA;clear hcell hR oA;go_wp2_with fail
     refine ot.mono ?_;rintro e5 w5 (⟨x,aX,e1,rfl,m1,m2⟩|⟨e1,rfl,m2⟩)
     ·have sX:Calm w w5:=yE.join m2.fr (λj hj e=>by have h1:=jG.out j hj;have h2:iT j<10000:=e;omega)
      have hF:Hid (TrI w rp (.slice va i vc) Q H (q+1) w5):=by
       refine⟨aX,x,m1,?_,λb hb=>(m2.tg b (by have:=yE.size;omega)).trans (jG.out b hb),sX⟩;rw[mn.out,hd.out];show(match Rd.take Q ri q _ with|none=>none|some r'=>_)=_;rw[e1]
      clear ot m1 m2 sX yE kA x0 x1 x2 x3 x4 x5;go_wp2;exact⟨⟨q+1,by omega,by simp,hF.out⟩,by simp[intOf] <;> omega⟩
     ·have sX:Calm w w5:=yE.join m2 (λj hj e=>by have h1:=jG.out j hj;have h2:iT j<10000:=e;omega)
      have hP:Hid (tP w (.slice va i vc) Q H (.returned (.tuple #[.slice none 0 0,.bool false])) w5):=by
       refine .inl ⟨?_,rfl,sX⟩;unfold tries;rw[mn.out,hd.out];show Option.map _ (match Rd.take Q ri q _ with|none=>none|some r'=>_)=_;rw[e1];rfl
      clear ot m2 sX yE kA x0 x1 x2 x3 x4 x5;go_wp2
      go_ret2
      exact hP.out
    ·obtain rfl:q=NH:=by omega
     have NN:decide ((q:Int)<q)=false:=decide_eq_false (by omega);obtain⟨M,atv,cz,ms,h1,h2,h3,h4,h5⟩:=hR;have y2:wr.cell? ⟨rp,2,none⟩=some cz:=by have:=h1.at_ 1;rw[h2.c] at this;exact((show ag wr rp [.slice va i vc,atv,cz,vI ri.bY] from this) 2 _ rfl).1
     have hP:Hid (tP w (.slice va i vc) Q H (.returned (.tuple #[cz,.bool true])) wr):=by
      refine .inr ⟨iT,M,rp,atv,cz,ms,ri,?_,rfl,qP,jG,h1,h2,h3,by rw[CW.out];exact h5⟩;unfold tries;rw[mn,List.drop_of_length_le (by have:=CW.out;omega)];rfl
     clear h1 h2 h3 h4 h5 mn jG qP;go_wp2
     go_ret2
     exact hP.out
section
theorem aai:GI 78 29 6:=by
 obtain⟨i0,hi,ie,gU,iw⟩:=info_parts (show(prog.info? 29).map (λi=>(i.zero,i.size,i.bytes))=some (some (.agg #[vI 0,vI 0,vI 0,vI 0,vI 0,vI 0]),6,48) by kernel_rfl);exact⟨Tryz.underlying78,i0,_,_,hi,ie,gU,iw,rfl,by decide,by decide⟩
theorem Oz:∀n,n<=4->(madeCells (Value.agg #[vI 0,vI 0,vI 0,vI 0,vI 0,vI 0]).cells (n*6)).toList=(List.replicate n [0,0,0,0,0,0]).flatMap iy
 | 0,_=>by kernel_rfl
 | 1,_=>by kernel_rfl
 | 2,_=>by kernel_rfl
 | 3,_=>by kernel_rfl
 | 4,_=>by kernel_rfl
 | n+5,h=>by omega
theorem Fq(R:List Int):∀u∈iy R,u.oneCell'=true:=List.all_eq_true.1 rfl
theorem Hj{α:Type}{f:α->List aC}{k:Nat}(hf:∀a,(f a).length=k)(hk:0<k)(dd:α){ety:TypeId}{w:aj}{g N c i:Nat}{Y:List α}(own:w.ownsRow 0 ety k (.slice (some ⟨g,0,none⟩) N c) N (Y.flatMap f))(hY:Y.length=N)(hi:i<N){n:Nat}(hn:n<=k):w.there g (i*k) n:=λj hj=>by
 obtain⟨g2,c2,hv,hg⟩:=bz (ety:=ety) (k:=k) hf hk (by rw[<-hY] at own;exact own) dd (show i<Y.length by omega);injection hv with hv _ _
 injection hv with hv
 injection hv with hv
 subst hv;have hu:(f (Y.getD i dd))[j]?=some ((f (Y.getD i dd))[j]'(by rw[hf];omega)):=jI _;have ho:=hg j _ hu;exact⟨by rw[ho.1];rfl,ho.2⟩
theorem rB{α:Type}{f:α->List aC}{k:Nat}(hf:∀a,(f a).length=k)(hk:0<k)(dd:α){ety:TypeId}(hty:(prog.info? ety).map (·.size)=some k){ops:Array Oper}{rest:List Oper}{op:Oper}{a:Act}{w:aj}{Q:Exit->Act->aj->Prop}(oJ:op.guard=none)(x y:Operand)(ho:op.op=.store ety x y)
 {g N c i:Nat} {Y:List α} (z:α) (hx:a.eval x=.pointer (some ⟨g,i*k,none⟩)) (hy:a.eval y=.agg (f z).toArray) (hz:(f z).toArray.all (·.oneCell')=true) (own:w.ownsRow 0 ety k (.slice (some ⟨g,0,none⟩) N c) N (Y.flatMap f)) (hY:Y.length=N) (hi:i<N)
 (h:∀w',w'.ownsRow 0 ety k (.slice (some ⟨g,0,none⟩) N c) N ((Y.set i z).flatMap f)->Fr (λk=>k=g) w w'->wpList prog ops Q rest (a.put op.dst undef) w'):wpList prog ops Q (op::rest) a w:=by
 have hl:(Y.flatMap f).length=N*k:=by rw[dS f k hf,hY]
 have Mi:i*k+k<=N*k:=by rw[<-Nat.succ_mul];exact Nat.mul_le_mul_right k (by omega)
 have hs:=mQ (f z) own (i*k) (by rw[hl,hf];exact Mi);rw[jV f k hf z Y i (by omega)] at hs;exact wpList_store_mid oJ ety x y ho g (i*k) (f z).toArray hx hy (Hj hf hk dd own hY hi (by simp[hf])) (by rw[hty];simp[hf]) hz (h _ hs (Fr.setCells (S:=λk=>k=g) rfl _ _ aq))
theorem dP.at{w1 w w':aj}{τ aX:Nat->Nat}(h:dP 10 w τ w' aX)(ht:∀b,b<w1.heap.size->τ b=10000)(c:Calm w1 w):(∀b,b<w1.heap.size->aX b=10000)/\Calm w1 w':=
 ⟨λb hb=>(h.tg b (Nat.lt_of_lt_of_le hb c.size)).trans (ht b hb),c.join h.fr (λj hj e=>by have h1:=ht j hj;have e:τ j<10:=e;omega)⟩
def Ld(Q:Pg)(tr:List Tr)(i:Nat):List (List Int):=(List.range i).map λk=>gA Q (tr.take k) (tr.getD k aK).th.toNat
def tB(Q:Pg)(tr:List Tr)(N i:Nat):List (List Int):=(List.range N).map λt=>gA Q (tr.take i) t
theorem Fp(Q:Pg)(tr:List Tr)(i:Nat):(Ld Q tr i).length=i:=by simp[Ld]
theorem kU(Q:Pg)(tr:List Tr)(N i:Nat):(tB Q tr N i).length=N:=by simp[tB]
theorem Kr(Q:Pg)(tr:List Tr){N i t:Nat}(ht:t<N):(tB Q tr N i).getD t []=gA Q (tr.take i) t:=by simp[tB,aS,ht]
theorem Le(Q:Pg)(tr:List Tr)(i:Nat):Ld Q tr (i+1)=Ld Q tr i++[gA Q (tr.take i) (tr.getD i aK).th.toNat]:=by unfold Ld;rw[List.range_succ,List.map_append];rfl
theorem Kt(Q:Pg)(tr:List Tr)(N:Nat):tB Q tr N 0=List.replicate N [0,0,0,0,0,0]:=by
 unfold tB;rw[show(λt=>gA Q (tr.take 0) t)=λ_=>[0,0,0,0,0,0] from rfl,List.map_const',List.length_range]
theorem Ks{Q:Pg}{tr:List Tr}{N i:Nat}(hi:i<tr.length)(he:(tr.getD i aK).en≠1):tB Q tr N (i+1)=tB Q tr N i:=by
 unfold tB;refine List.map_congr_left λt _=>?_;rw[iW hi aK,ki,if_neg (λh=>he h.2)]
theorem OM{Q:Pg}{tr:List Tr}{N i t:Nat}(hi:i<tr.length)(he:(tr.getD i aK).en=1)(ht:t<N)(sJ:(tr.getD i aK).th=(t:Int)):(tB Q tr N i).set t (rX (bU Q (tr.getD i aK).th (tr.getD i aK).bl) (tr.getD i aK).aJ 0 (gA Q (tr.take i) t))=tB Q tr N (i+1):=by
 apply List.ext_getElem?;intro j
 have e2:(tB Q tr N (i+1))[j]?=if j<N then some (gA Q (tr.take (i+1)) j) else none:=by
  unfold tB;rw[List.getElem?_map]
  by_cases hj:j<N
  ·rw[if_pos hj,List.getElem?_range hj];rfl
  ·rw[if_neg hj,List.getElem?_eq_none (by simp;omega)];rfl
 rw[e2,iW hi aK,ki]
 by_cases e:j=t
 ·subst e;rw[List.getElem?_set_self (by rw[kU];exact ht),if_pos ht,if_pos ⟨sJ,he⟩]
 ·by_cases hj:j<N
  ·rw[List.getElem?_set_ne (by omega),if_pos hj,if_neg (λh=>e (by have:=h.1;omega))];unfold tB;rw[List.getElem?_map,List.getElem?_range hj];rfl
  ·rw[List.getElem?_set_ne (by omega),if_neg hj];unfold tB;rw[List.getElem?_map,List.getElem?_eq_none (by simp;omega)];rfl
structure tT(M:Mem)(B8:Nat)(v cz wv rv nv:aC)(L:List Int)(R X:List (List Int)):Prop where
 c:M 1=bD B8 v [cz,wv,rv,.slice none 0 0,.slice none 0 0]
 w:M 2=iL wv L
 r:M 3=dK 29 6 rv R.length (R.flatMap iy)
 x:M 4=dK 29 6 nv X.length (X.flatMap iy)
section
variable {w1 w2:aj}{τ:Nat->Nat}{M:Mem}{B8:Nat}{v cz wv rv nv:aC}{L:List Int}{R X:List (List Int)}
theorem tT.b8(h1:bF w1 τ M)(h2:tT M B8 v cz wv rv nv L R X):ag w1 B8 [v,cz,wv,rv,.slice none 0 0,.slice none 0 0]:=by have:=h1.at_ 1;rw[h2.c] at this;exact this
theorem tT.ow(h1:bF w1 τ M)(h2:tT M B8 v cz wv rv nv L R X):bm w1 0 wv L:=by have:=h1.at_ 2;rw[h2.w] at this;exact this
theorem tT.or(h1:bF w1 τ M)(h2:tT M B8 v cz wv rv nv L R X):w1.ownsRow 0 29 6 rv R.length (R.flatMap iy):=by have:=h1.at_ 3;rw[h2.r] at this;exact this
theorem tT.ox(h1:bF w1 τ M)(h2:tT M B8 v cz wv rv nv L R X):w1.ownsRow 0 29 6 nv X.length (X.flatMap iy):=by have:=h1.at_ 4;rw[h2.x] at this;exact this
theorem tT.tg(h1:bF w1 τ M)(h2:tT M B8 v cz wv rv nv L R X):τ B8=1/\(∀b,aB wv b->τ b=2)/\(∀b,aB rv b->τ b=3)/\(∀b,aB nv b->τ b=4):=
 ⟨h1.tag 1 B8 (by rw[h2.c];rfl),λb hb=>h1.tag 2 b (by rw[h2.w];exact hb),λb hb=>h1.tag 3 b (by rw[h2.r];exact hb),λb hb=>h1.tag 4 b (by rw[h2.x];exact hb)⟩
theorem tT.regs(h1:bF w1 τ M)(h2:tT M B8 v cz wv rv nv L R X){rv':aC}{r:List Int}(ho:w2.ownsRow 0 29 6 rv' (R.length+1) (R.flatMap iy++iy r))(f:Fr (aB rv) w1 w2)(hg:∀b,aB rv' b->aB rv b\/w1.heap.size<=b) :
 ∃aX M',bF (w2.setCell ⟨B8,3,none⟩ rv') aX M'/\tT M' B8 v cz wv rv' nv L (R++[r]) X/\dP 10 w1 τ (w2.setCell ⟨B8,3,none⟩ rv') aX:=by
 obtain⟨gi,k1,k2,_⟩:=h1.OY (L:=10) (t:=3) (a:=dK 29 6 rv' (R++[r]).length ((R++[r]).flatMap iy)) (by rw[h2.r];exact f) (by
  show w2.ownsRow 0 _ 6 rv' (R++[r]).length _
  rw[cX,List.flatMap_append,show[r].flatMap iy=iy r by simp];exact ho) (λk hk=>by rw[h2.r];exact hg k hk) (by decide) 0
 have e1:(M.put 3 (dK 29 6 rv' (R++[r]).length ((R++[r]).flatMap iy))) 1=bD B8 v [cz,wv,rv,.slice none 0 0,.slice none 0 0]:=by rw[Mem.aA _ _ (by decide),h2.c]
 have o1:ag w2 B8 [v,cz,wv,rv,.slice none 0 0,.slice none 0 0]:=by have:=k1.at_ 1;rw[e1] at this;exact this
 obtain⟨k3,k4⟩:=k1.BS (L:=10) (t:=1) (a:=bD B8 v [cz,wv,rv',.slice none 0 0,.slice none 0 0]) (w':=w2.setCell ⟨B8,3,none⟩ rv') (by
  rw[e1];exact(Fr.refl (λk=>k=B8) w2).setCell (p:=⟨B8,3,none⟩) (.inl rfl) _) (o1.set 3 rv' (by simp)) (λk hk=>by rw[e1];exact hk) (by decide)
 exact⟨gi,_,k3,⟨Mem.aP _ _ _,by rw[Mem.aA _ _ (by decide),Mem.aA _ _ (by decide),h2.w],by rw[Mem.aA _ _ (by decide),Mem.aP],by rw[Mem.aA _ _ (by decide),Mem.aA _ _ (by decide),h2.x]⟩,k2.trans k4⟩
theorem tT.abg(h1:bF w1 τ M)(h2:tT M B8 v cz wv rv nv L R X){wv':aC}{r:Int}(ho:w2.ownsRow 0 3 1 wv' (L.length+1) (lu L++[vI r]))(f:Fr (aB wv) w1 w2)(hg:∀b,aB wv' b->aB wv b\/w1.heap.size<=b) :
 ∃aX M',bF (w2.setCell ⟨B8,2,none⟩ wv') aX M'/\tT M' B8 v cz wv' rv nv (L++[r]) R X/\dP 10 w1 τ (w2.setCell ⟨B8,2,none⟩ wv') aX:=by
 obtain⟨gi,k1,k2,_⟩:=h1.OY (L:=10) (t:=2) (a:=iL wv' (L++[r])) (by rw[h2.w];exact f) (by
  show bm w2 0 wv' (L++[r]);unfold bm
  rw[cX,show lu (L++[r])=lu L++[vI r] by simp[lu]];exact ho) (λk hk=>by rw[h2.w];exact hg k hk) (by decide) 0
 have e1:(M.put 2 (iL wv' (L++[r]))) 1=bD B8 v [cz,wv,rv,.slice none 0 0,.slice none 0 0]:=by rw[Mem.aA _ _ (by decide),h2.c]
 have o1:ag w2 B8 [v,cz,wv,rv,.slice none 0 0,.slice none 0 0]:=by have:=k1.at_ 1;rw[e1] at this;exact this
 obtain⟨k3,k4⟩:=k1.BS (L:=10) (t:=1) (a:=bD B8 v [cz,wv',rv,.slice none 0 0,.slice none 0 0]) (w':=w2.setCell ⟨B8,2,none⟩ wv') (by
  rw[e1];exact(Fr.refl (λk=>k=B8) w2).setCell (p:=⟨B8,2,none⟩) (.inl rfl) _) (o1.set 2 wv' (by simp)) (λk hk=>by rw[e1];exact hk) (by decide)
 exact⟨gi,_,k3,⟨Mem.aP _ _ _,by rw[Mem.aA _ _ (by decide),Mem.aP],by rw[Mem.aA _ _ (by decide),Mem.aA _ _ (by decide),h2.r],by rw[Mem.aA _ _ (by decide),Mem.aA _ _ (by decide),h2.x]⟩,k2.trans k4⟩
theorem tT.now(h1:bF w1 τ M)(h2:tT M B8 v cz wv rv nv L R X){Y:List (List Int)}(hY:Y.length=X.length)(ho:w2.ownsRow 0 29 6 nv X.length (Y.flatMap iy))(f:Fr (aB nv) w1 w2) :
 ∃aX M',bF w2 aX M'/\tT M' B8 v cz wv rv nv L R Y/\dP 10 w1 τ w2 aX:=by
 obtain⟨k1,k2⟩:=h1.BS (L:=10) (t:=4) (a:=dK 29 6 nv Y.length (Y.flatMap iy)) (by rw[h2.x];exact f) (by
  show w2.ownsRow 0 _ 6 nv Y.length _
  rw[hY];exact ho) (λk hk=>by rw[h2.x];exact hk) (by decide)
 exact⟨τ,_,k1,⟨by rw[Mem.aA _ _ (by decide),h2.c],by rw[Mem.aA _ _ (by decide),h2.w],by rw[Mem.aA _ _ (by decide),h2.r],Mem.aP _ _ _⟩,k2⟩
end
def L8(w5:aj)(B8:Nat)(v cz nv:aC)(Q:Pg)(tr:List Tr)(N i:Nat)(wr:aj):Prop:=
 ∃τ M wv rv,bF wr τ M/\tT M B8 v cz wv rv nv (qy (iz tr i)) (Ld Q tr i) (tB Q tr N i)/\(∀b,b<w5.heap.size->τ b=10000)/\Calm w5 wr
theorem L8.start{w5 wr:aj}{B8:Nat}{v cz nv:aC}{Q:Pg}{tr:List Tr}{N:Nat}(ho:ag wr B8 [v,cz,.slice none 0 0,.slice none 0 0,.slice none 0 0,.slice none 0 0])(hn:wr.ownsRow 0 29 6 nv N ((List.replicate N [0,0,0,0,0,0]).flatMap iy))(h8:w5.heap.size<=B8)(hb:∀b,aB nv b->w5.heap.size<=b/\b≠B8)(hc:Calm w5 wr):L8 w5 B8 v cz nv Q tr N 0 wr:=by
 classical
 refine⟨λk=>if k=B8 then 1 else if aB nv k then 4 else 10000,λj=>if j=1 then bD B8 v [cz,.slice none 0 0,.slice none 0 0,.slice none 0 0,.slice none 0 0] else if j=2 then iL (.slice none 0 0) [] else if j=3 then dK 29 6 (.slice none 0 0) 0 [] else if j=4 then dK 29 6 nv N ((List.replicate N [0,0,0,0,0,0]).flatMap iy) else lZ,.slice none 0 0,.slice none 0 0,⟨λj=>?_,λj k hk=>?_⟩,⟨rfl,rfl,rfl,?_⟩,λb EG=>?_,hc⟩
 ·show(if j=1 then _ else if j=2 then _ else if j=3 then _ else if j=4 then _ else lZ:si).at_ wr
  by_cases e1:j=1
  ·rw[if_pos e1];exact ho
  rw[if_neg e1]
  by_cases e2:j=2
  ·rw[if_pos e2];exact bm.nil wr 0
  rw[if_neg e2]
  by_cases e3:j=3
  ·rw[if_pos e3];exact DC _ _ _
  rw[if_neg e3]
  by_cases e4:j=4
  ·rw[if_pos e4];exact hn
  rw[if_neg e4];exact trivial
 ·replace hk:(if j=1 then bD B8 v [cz,.slice none 0 0,.slice none 0 0,.slice none 0 0,.slice none 0 0] else if j=2 then iL (.slice none 0 0) [] else if j=3 then dK 29 6 (.slice none 0 0) 0 [] else if j=4 then dK 29 6 nv N ((List.replicate N [0,0,0,0,0,0]).flatMap iy) else lZ:si).bU k:=hk
  by_cases e1:j=1
  ·rw[if_pos e1] at hk;have hk:k=B8:=hk;simp only[if_pos hk];exact e1.symm
  rw[if_neg e1] at hk
  by_cases e2:j=2
  ·rw[if_pos e2] at hk;exact absurd hk (aB.nil k)
  rw[if_neg e2] at hk
  by_cases e3:j=3
  ·rw[if_pos e3] at hk;exact absurd hk (aB.nil k)
  rw[if_neg e3] at hk
  by_cases e4:j=4
  ·rw[if_pos e4] at hk;have hk:aB nv k:=hk;simp only[if_neg (hb k hk).2,if_pos hk];exact e4.symm
  rw[if_neg e4] at hk;exact hk.elim
 ·rw[kU,Kt];rfl
 ·simp only[if_neg (show ¬b=B8 by omega),if_neg (show ¬aB nv b from λe=>by have:=(hb b e).1;omega)]
theorem L8.aa7{w5 wr:aj}{B8:Nat}{v cz nv:aC}{Q:Pg}{tr:List Tr}{N:Nat}{T:Nat->Prop}(h:L8 w5 B8 v cz nv Q tr N tr.length wr)(hp:dJ T w5 v Q)(ht:lj T w5 cz tr)(hT:∀b,w5.heap.size<=b->T b):∃wv rv,ag wr B8 [v,cz,wv,rv,.slice none 0 0,.slice none 0 0]/\iC T wr Q tr v cz wv rv/\Calm w5 wr:=by
 obtain⟨τ,M,wv,rv,h1,h2,h3,hc⟩:=h;obtain⟨_,g2,g3,_⟩:=h2.tg h1;have hb:∀b,τ b≠10000->T b:=λb hb=>hT b (Nat.le_of_not_lt λhl=>hb (h3 b hl));exact⟨wv,rv,h2.b8 h1,⟨hp.calm hc,ht.calm hc,(h2.ow h1).ints λb e=>hb b (by rw[g2 b e];decide),Af.of (λ_=>rfl) (by decide) (h2.or h1) λb e=>hb b (by rw[g3 b e];decide)⟩,hc⟩
theorem tP.trs{w':aj}{aX:Nat->Nat}{M':Mem}{rp:Nat}{pv atv cz:aC}{sp:List tN}{ms:List rE}{bY:Int}{T:Nat->Prop}(h1:bF w' aX M')(h2:tM M' rp pv atv cz sp ms bY)(hl:ms.length<=4000)(hT:∀b,aX b≠10000->T b):lj T w' cz (ms.map (·.x)):=by
 refine⟨ms,rfl,Af.of (λ_=>rfl) (by decide) (show w'.ownsRow 0 89 10 cz ms.length (ms.flatMap rz) by have:=h1.at_ 3;rw[h2.t] at this;exact this) λb e=>hT b ?_,λk hk=>?_⟩
 ·rw[h1.tag 3 b (by rw[h2.t];exact e)];decide
 ·obtain⟨g1,g2⟩:=h2.x k hk;have a1:=h1.at_ (10+2*k);have a2:=h1.at_ (10+2*k+1);have t1:=λb e=>h1.tag (10+2*k) b e;have t2:=λb e=>h1.tag (10+2*k+1) b e;rw[g1] at a1 t1;rw[g2] at a2 t2;exact⟨Af.of (λ_=>rfl) (by decide) (show w'.ownsRow 0 35 3 _ _ _ from a1) λb e=>hT b (by rw[t1 b e];omega),bm.ints a2 λb e=>hT b (by rw[t2 b e];omega)⟩
end
attribute [local irreducible] Oper.wp
theorem TC{fn:Func}{W:aj}{C:Nat}{a b c d e f:aC}{i:Nat}{tmps:Array aC}(hf:fn.results = #[.cell i 29])(h2:tmps[i]?.getD undef = aR C)(p:ag W C [a,b,c,d,e,f]):(results fn tmps).run prog W=.ok (.agg #[a,b,c,d,e,f]) W:=by
 obtain⟨n0,n1,n2,n3,n4,n5⟩:=ag.t_ p;simp[results,hf,h2,go_sem,n0,n1,n2,n3,n4,n5]
def RgP(w:aj)(R:List Int)(e:Ending)(w':aj):Prop:=e=.returned (Ip R)/\Calm w w'
theorem Yr{l:List Int}(h:l.length=6):∃s0 s1 s2 s3 s4 s5:Int,l=[s0,s1,s2,s3,s4,s5]:=by
 match l,h with
 | [a,b,c,d,e,f],_=>exact⟨a,b,c,d,e,f,rfl⟩
theorem O2{T0 T1:Nat->Prop}{w:aj}{dv av:aC}{Q:List Dd}{l:List Ac}(hd:fo T0 w dv Q)(hr:∀d∈Q,d.Rt)(ha:Af Er 3 aD T1 w av l)(hl:l.length<=Q.length)(hq:Q.length<=1000){R:List Int}(hR:R.length=6) :
 aL prog 47 #[Ip R,dv,av] w (RgP w (rX Q l 0 R)):=by
 obtain⟨aa,ac,rfl,RN⟩:=ha;obtain⟨da,dc,rfl,yH⟩:=hd;obtain⟨n,hn⟩:=au l.length;obtain⟨nq',UD⟩:=au Q.length;rw[hn] at RN hl ⊢;rw[UD] at yH hl hq ⊢;obtain⟨r0,r1,r2,r3,r4,r5,yz⟩:=Yr hR
 have hg:Hid (∀i,i<n->∃g o x,aa=some ⟨g,o,none⟩/\l.getD i aD=x/\(∀W,Calm w W->W.cell? ⟨g,o+i*3,none⟩=some (vI x.k)/\W.cell? ⟨g,o+i*3+1,none⟩=some (vI x.e)/\W.cell? ⟨g,o+i*3+2,none⟩=some (vI x.v))/\rX Q (l.take (i+1)) 0 R=uR (Q.getD i dD) x (rX Q (l.take i) 0 R)):=λi hi=>by
  obtain⟨g,o,e1,_,h⟩:=RN i hi;refine⟨g,o,_,e1,rfl,λW c=>⟨c.cellAt (h 0 _ rfl) id,c.cellAt (h 1 _ rfl) id,c.cellAt (h 2 _ rfl) id⟩,?_⟩;rw[iW (by omega) aD,BV,List.length_take,Nat.min_eq_left (by omega),fk]
 have oJ:Hid (∀i,i<nq'->∃g o d,da=some ⟨g,o,none⟩/\Q.getD i dD=d/\d.Rt/\∀W,Calm w W->∀j u,(eZ d)[j]?=some u->W.cell? ⟨g,o+i*5+j,none⟩=some u):=λi hi=>by
  obtain⟨g,o,e1,_,h⟩:=yH i hi;exact⟨g,o,_,e1,rfl,hr _ (get_mem _ (by omega)),λW c j u hu=>c.cellAt (h j u hu) id⟩
 have hlen:Hid (∀i,(rX Q (l.take i) 0 R).length=6):=λi=>by rw[zw];exact hR
 have dh:Hid (rX Q (l.take n) 0 R=rX Q l 0 R):=by show _=_;rw[List.take_of_length_le (by omega)]
 have hz:Hid (rX Q (l.take 0) 0 R=R):=rfl;rw[show Ip R=.agg #[vI r0,vI r1,vI r2,vI r3,vI r4,vI r5] by rw[yz];rfl];obtain⟨W1,e1,k1,o3,s1⟩:=dy w [vI r0,vI r1,vI r2,vI r3,vI r4,vI r5] 29;obtain⟨W2,e2,k2,o6,s2⟩:=dy W1 [vI 0,vI 0,vI 0,vI 0,vI 0,vI 0] 29;have o3:=o3.calm k2;have c0:=k1.trans k2;rw[s1] at o6;rw[show([vI r0,vI r1,vI r2,vI r3,vI r4,vI r5]:List aC)=iy (rX Q (l.take 0) 0 R) by rw[hz.out,yz];rfl] at o3;replace yz:=af yz;replace hn:=af hn;replace UD:=af UD;have EV:=o6.lt (by simp);replace s2:=af s2;obtain⟨RI,hRI⟩:=au ((λi=>rX Q (l.take i) 0 R):Nat->List Int);have hri:∀i,rX Q (l.take i) 0 R=RI i:=λi=>by rw[<-hRI]
 simp only[hri] at o3 hg hlen dh hz;replace hri:=af hri;replace hRI:=af hRI;clear RN yH hR hr;go_in;go_wp2
 go_step3
 go_wp2
 go_step3
 go_wp2;go_loopw [12] (λz wr=>∃i:Nat,i<=n/\z=vI i/\ag wr w.heap.size (iy (RI i))/\ag wr (w.heap.size+1) [vI 0,vI 0,vI 0,vI 0,vI 0,vI 0]/\Calm w wr) (λz _=>n-(intOf z).toNat)
 case atStart=>exact⟨0,by omega,rfl,o3,o6,c0⟩
 case round=>
  obtain⟨i,hi,rfl,p3,p6,hc⟩:=hrel;clear o3 o6 c0 EV k1 k2 e1 e2
  by_cases aZ:i<n
  ·obtain⟨g,o,x,rfl,hx,hcell,jv⟩:=hg.out i aZ;obtain⟨g2,o2,d,rfl,hdd,oP,oI⟩:=oJ.out i (by omega);obtain⟨x0,x1,x2⟩:=hcell wr hc;rw[hdd] at jv;replace jv:=af jv;replace hx:=af hx;replace hdd:=af hdd;have Sc:decide ((i:Int)<n)=true:=decide_eq_true (by omega);have hiq:i<nq':=by omega
   have abJ:decide ((i:Int)>=nq')=false:=decide_eq_false (by omega);obtain⟨kA,oA⟩:=gL wr [vI x.k,vI x.e,vI x.v] 35;go_upto_region 4 with fail
   obtain⟨W3,yA⟩:=au (wr.alloc (.cells #[vI x.k,vI x.e,vI x.v] 35));rw[yA] at kA oA ⊢;clear yA x0 x1 x2;have wZ:=hc.trans kA;have d0:=oI W3 wZ 0 _ rfl;have d1:=oI W3 wZ 1 _ rfl;have d2:=oI W3 wZ 2 _ rfl;have d3:=oI W3 wZ 3 _ rfl;have d4:=oI W3 wZ 4 _ rfl;rw[fj] at d0;have or:=qo W3 d oP;simp only[e_] at or;go_wp2_with fail
   refine or.mono ?_;rintro e w4 ⟨rfl,k4⟩;clear or d0 d1 d2 d3 d4;have kB:=kA.trans k4;have gN:=hc.trans kB;have q3:=p3.calm kB;have q6:=p6.calm kB;have qA:=oA.calm k4;obtain⟨x0,x1,x2⟩:=ag.sP qA;have d0:=oI w4 gN 0 _ rfl;have d1:=oI w4 gN 1 _ rfl;have d2:=oI w4 gN 2 _ rfl;have d3:=oI w4 gN 3 _ rfl;have d4:=oI w4 gN 4 _ rfl;rw[fj] at d0;clear p3 p6 hc wZ kA oA k4 kB oI hcell
   by_cases he:x.e=0
   ·have hs:=af (jv.out);have ee:(x.e != 0)=false:=by simp[he]
    replace he:=af he;obtain⟨kD,oD⟩:=gL w4 [vI d.k,vI d.a,vI d.b,vI d.i,vI d.n] 52;go_upto_region 7 with fail
    obtain⟨W5,mW⟩:=au (w4.alloc (.cells #[vI d.k,vI d.a,vI d.b,vI d.i,vI d.n] 52));rw[mW] at kD oD ⊢;clear mW d0 d1 d2 d3 d4 x0 x1 x2;have sX:=gN.trans kD;have t3:=q3.calm kD;have t6:=q6.calm kD;have tA:=qA.calm kD;obtain⟨x0,x1,x2⟩:=ag.sP tA;obtain⟨d0,d1,d2,d3,d4⟩:=ag.Eu oD;have hw4:w.heap.size<w4.heap.size:=q3.lt (by simp[iy]);clear q3 q6 qA gN kD;have zQ:=hlen.out i;replace zQ:=af zQ;have Cv:w.heap.size<W5.heap.size:=t3.lt (by simp[iy]);have n6:∀y:Int,R6 y->∃a:Nat,y=a/\a<6:=λy ⟨h1,h2⟩=>⟨y.toNat,by omega,by omega⟩;obtain⟨k,a,b,ii,nn⟩:=d;simp only[] at d0 d1 d2 d3 d4;simp only[Dd.Rt] at oP;rcases oP with ⟨rfl,h1,rfl,h3,h4⟩|⟨rfl,h1,rfl,h3,h4⟩|⟨rfl,h1,h2,rfl,rfl⟩|⟨rfl,h1,h2,h3,rfl⟩|⟨rfl,h1,h2,h3,rfl⟩|⟨rfl,h1,rfl,h3,rfl⟩|⟨rfl,h1,rfl,h3,h4⟩|⟨rfl,h1,rfl,rfl,rfl⟩|⟨rfl,h1,h2,rfl,rfl⟩|⟨rfl,h1,rfl,rfl,rfl⟩|⟨rfl,h1,h2,rfl,rfl⟩|⟨rfl,h1,h2,rfl,rfl⟩|⟨rfl,h1,rfl,rfl,rfl⟩|⟨rfl,rfl,rfl,rfl,rfl⟩
    ·obtain⟨a,rfl,ha⟩:=n6 a h1;have a0:(0:Int)<=(a:Int):=by omega
     have a6:(a:Int)<6:=by omega
     have y0:=(t3 a _ (cD (RI i) ha)).1;have y1:=(t3 a _ (cD (RI i) ha)).2;have v3:=t3.set a (vI (x.v)) (by rw[fU];exact ha);rw[iO zQ.out ha] at v3;have F:Fr (λk=>k=w.heap.size) W5 (W5.setCell ⟨w.heap.size,a,none⟩ (vI (x.v))):=(Fr.refl (λk=>k=w.heap.size) W5).setCell (p:=⟨w.heap.size,a,none⟩) (.inl rfl) _;have hR:RI (i+1)=(RI i).set a (x.v):=by rw[hs.out];unfold uR;rw[if_neg (λe=>e he.out)];simp
     have hF:Hid (ag (W5.setCell ⟨w.heap.size,a,none⟩ (vI (x.v))) w.heap.size (iy (RI (i+1)))/\ag (W5.setCell ⟨w.heap.size,a,none⟩ (vI (x.v))) (w.heap.size+1) [vI 0,vI 0,vI 0,vI 0,vI 0,vI 0]/\Calm w (W5.setCell ⟨w.heap.size,a,none⟩ (vI (x.v)))):=⟨by rw[hR];exact v3,t6.fr F (by omega),sX.join F (λj hj e=>by omega)⟩;clear v3 F t3 t6 tA oD hR;go_wp2;exact⟨⟨i+1,by omega,by simp,hF.out⟩,by simp[intOf] <;> omega⟩
    ·obtain⟨a,rfl,ha⟩:=n6 a h1;have a0:(0:Int)<=(a:Int):=by omega
     have a6:(a:Int)<6:=by omega
     have y0:=(t3 a _ (cD (RI i) ha)).1;have y1:=(t3 a _ (cD (RI i) ha)).2;have v3:=t3.set a (vI (x.v)) (by rw[fU];exact ha);rw[iO zQ.out ha] at v3;have F:Fr (λk=>k=w.heap.size) W5 (W5.setCell ⟨w.heap.size,a,none⟩ (vI (x.v))):=(Fr.refl (λk=>k=w.heap.size) W5).setCell (p:=⟨w.heap.size,a,none⟩) (.inl rfl) _;have hR:RI (i+1)=(RI i).set a (x.v):=by rw[hs.out];unfold uR;rw[if_neg (λe=>e he.out)];simp
     have hF:Hid (ag (W5.setCell ⟨w.heap.size,a,none⟩ (vI (x.v))) w.heap.size (iy (RI (i+1)))/\ag (W5.setCell ⟨w.heap.size,a,none⟩ (vI (x.v))) (w.heap.size+1) [vI 0,vI 0,vI 0,vI 0,vI 0,vI 0]/\Calm w (W5.setCell ⟨w.heap.size,a,none⟩ (vI (x.v)))):=⟨by rw[hR];exact v3,t6.fr F (by omega),sX.join F (λj hj e=>by omega)⟩;clear v3 F t3 t6 tA oD hR;go_wp2;exact⟨⟨i+1,by omega,by simp,hF.out⟩,by simp[intOf] <;> omega⟩
    ·obtain⟨a,rfl,ha⟩:=n6 a h1;have a0:(0:Int)<=(a:Int):=by omega
     have a6:(a:Int)<6:=by omega
     have y0:=(t3 a _ (cD (RI i) ha)).1;have y1:=(t3 a _ (cD (RI i) ha)).2;have v3:=t3.set a (vI (x.v)) (by rw[fU];exact ha);rw[iO zQ.out ha] at v3;have F:Fr (λk=>k=w.heap.size) W5 (W5.setCell ⟨w.heap.size,a,none⟩ (vI (x.v))):=(Fr.refl (λk=>k=w.heap.size) W5).setCell (p:=⟨w.heap.size,a,none⟩) (.inl rfl) _;have hR:RI (i+1)=(RI i).set a (x.v):=by rw[hs.out];unfold uR;rw[if_neg (λe=>e he.out)];simp
     have hF:Hid (ag (W5.setCell ⟨w.heap.size,a,none⟩ (vI (x.v))) w.heap.size (iy (RI (i+1)))/\ag (W5.setCell ⟨w.heap.size,a,none⟩ (vI (x.v))) (w.heap.size+1) [vI 0,vI 0,vI 0,vI 0,vI 0,vI 0]/\Calm w (W5.setCell ⟨w.heap.size,a,none⟩ (vI (x.v)))):=⟨by rw[hR];exact v3,t6.fr F (by omega),sX.join F (λj hj e=>by omega)⟩;clear v3 F t3 t6 tA oD hR;go_wp2;exact⟨⟨i+1,by omega,by simp,hF.out⟩,by simp[intOf] <;> omega⟩
    ·obtain⟨a,rfl,ha⟩:=n6 a h1;have a0:(0:Int)<=(a:Int):=by omega
     have a6:(a:Int)<6:=by omega
     have y0:=(t3 a _ (cD (RI i) ha)).1;have y1:=(t3 a _ (cD (RI i) ha)).2;have v3:=t3.set a (vI (x.v)) (by rw[fU];exact ha);rw[iO zQ.out ha] at v3;have F:Fr (λk=>k=w.heap.size) W5 (W5.setCell ⟨w.heap.size,a,none⟩ (vI (x.v))):=(Fr.refl (λk=>k=w.heap.size) W5).setCell (p:=⟨w.heap.size,a,none⟩) (.inl rfl) _;have hR:RI (i+1)=(RI i).set a (x.v):=by rw[hs.out];unfold uR;rw[if_neg (λe=>e he.out)];simp
     have hF:Hid (ag (W5.setCell ⟨w.heap.size,a,none⟩ (vI (x.v))) w.heap.size (iy (RI (i+1)))/\ag (W5.setCell ⟨w.heap.size,a,none⟩ (vI (x.v))) (w.heap.size+1) [vI 0,vI 0,vI 0,vI 0,vI 0,vI 0]/\Calm w (W5.setCell ⟨w.heap.size,a,none⟩ (vI (x.v)))):=⟨by rw[hR];exact v3,t6.fr F (by omega),sX.join F (λj hj e=>by omega)⟩;clear v3 F t3 t6 tA oD hR;go_wp2;exact⟨⟨i+1,by omega,by simp,hF.out⟩,by simp[intOf] <;> omega⟩
    ·have hR:RI (i+1)=RI i:=by rw[hs.out];unfold uR;rw[if_neg (λe=>e he.out)];simp
     have hF:Hid (ag W5 w.heap.size (iy (RI (i+1)))/\ag W5 (w.heap.size+1) [vI 0,vI 0,vI 0,vI 0,vI 0,vI 0]/\Calm w W5):=⟨by rw[hR];exact t3,t6,sX⟩;clear t3 t6 tA oD hR;go_wp2;exact⟨⟨i+1,by omega,by simp,hF.out⟩,by simp[intOf] <;> omega⟩
    ·have hR:RI (i+1)=RI i:=by rw[hs.out];unfold uR;rw[if_neg (λe=>e he.out)];simp
     have hF:Hid (ag W5 w.heap.size (iy (RI (i+1)))/\ag W5 (w.heap.size+1) [vI 0,vI 0,vI 0,vI 0,vI 0,vI 0]/\Calm w W5):=⟨by rw[hR];exact t3,t6,sX⟩;clear t3 t6 tA oD hR;go_wp2;exact⟨⟨i+1,by omega,by simp,hF.out⟩,by simp[intOf] <;> omega⟩
    ·have hR:RI (i+1)=RI i:=by rw[hs.out];unfold uR;rw[if_neg (λe=>e he.out)];simp
     have hF:Hid (ag W5 w.heap.size (iy (RI (i+1)))/\ag W5 (w.heap.size+1) [vI 0,vI 0,vI 0,vI 0,vI 0,vI 0]/\Calm w W5):=⟨by rw[hR];exact t3,t6,sX⟩;clear t3 t6 tA oD hR;go_wp2;exact⟨⟨i+1,by omega,by simp,hF.out⟩,by simp[intOf] <;> omega⟩
    ·have hR:RI (i+1)=RI i:=by rw[hs.out];unfold uR;rw[if_neg (λe=>e he.out)];simp
     have hF:Hid (ag W5 w.heap.size (iy (RI (i+1)))/\ag W5 (w.heap.size+1) [vI 0,vI 0,vI 0,vI 0,vI 0,vI 0]/\Calm w W5):=⟨by rw[hR];exact t3,t6,sX⟩;clear t3 t6 tA oD hR;go_wp2;exact⟨⟨i+1,by omega,by simp,hF.out⟩,by simp[intOf] <;> omega⟩
    ·obtain⟨a,rfl,ha⟩:=n6 a h1;have a0:(0:Int)<=(a:Int):=by omega
     have a6:(a:Int)<6:=by omega
     have y0:=(t3 a _ (cD (RI i) ha)).1;have y1:=(t3 a _ (cD (RI i) ha)).2;have v3:=t3.set a (vI (x.v)) (by rw[fU];exact ha);rw[iO zQ.out ha] at v3;have F:Fr (λk=>k=w.heap.size) W5 (W5.setCell ⟨w.heap.size,a,none⟩ (vI (x.v))):=(Fr.refl (λk=>k=w.heap.size) W5).setCell (p:=⟨w.heap.size,a,none⟩) (.inl rfl) _;have hR:RI (i+1)=(RI i).set a (x.v):=by rw[hs.out];unfold uR;rw[if_neg (λe=>e he.out)];simp
     have hF:Hid (ag (W5.setCell ⟨w.heap.size,a,none⟩ (vI (x.v))) w.heap.size (iy (RI (i+1)))/\ag (W5.setCell ⟨w.heap.size,a,none⟩ (vI (x.v))) (w.heap.size+1) [vI 0,vI 0,vI 0,vI 0,vI 0,vI 0]/\Calm w (W5.setCell ⟨w.heap.size,a,none⟩ (vI (x.v)))):=⟨by rw[hR];exact v3,t6.fr F (by omega),sX.join F (λj hj e=>by omega)⟩;clear v3 F t3 t6 tA oD hR;go_wp2;exact⟨⟨i+1,by omega,by simp,hF.out⟩,by simp[intOf] <;> omega⟩
    ·obtain⟨a,rfl,ha⟩:=n6 a h1;have a0:(0:Int)<=(a:Int):=by omega
     have a6:(a:Int)<6:=by omega
     have y0:=(t3 a _ (cD (RI i) ha)).1;have y1:=(t3 a _ (cD (RI i) ha)).2;have v3:=t3.set a (vI (x.v)) (by rw[fU];exact ha);rw[iO zQ.out ha] at v3;have F:Fr (λk=>k=w.heap.size) W5 (W5.setCell ⟨w.heap.size,a,none⟩ (vI (x.v))):=(Fr.refl (λk=>k=w.heap.size) W5).setCell (p:=⟨w.heap.size,a,none⟩) (.inl rfl) _;have hR:RI (i+1)=(RI i).set a (x.v):=by rw[hs.out];unfold uR;rw[if_neg (λe=>e he.out)];simp
     have hF:Hid (ag (W5.setCell ⟨w.heap.size,a,none⟩ (vI (x.v))) w.heap.size (iy (RI (i+1)))/\ag (W5.setCell ⟨w.heap.size,a,none⟩ (vI (x.v))) (w.heap.size+1) [vI 0,vI 0,vI 0,vI 0,vI 0,vI 0]/\Calm w (W5.setCell ⟨w.heap.size,a,none⟩ (vI (x.v)))):=⟨by rw[hR];exact v3,t6.fr F (by omega),sX.join F (λj hj e=>by omega)⟩;clear v3 F t3 t6 tA oD hR;go_wp2;exact⟨⟨i+1,by omega,by simp,hF.out⟩,by simp[intOf] <;> omega⟩
    ·have hR:RI (i+1)=RI i:=by rw[hs.out];unfold uR;rw[if_neg (λe=>e he.out)];simp
     have hF:Hid (ag W5 w.heap.size (iy (RI (i+1)))/\ag W5 (w.heap.size+1) [vI 0,vI 0,vI 0,vI 0,vI 0,vI 0]/\Calm w W5):=⟨by rw[hR];exact t3,t6,sX⟩;clear t3 t6 tA oD hR;go_wp2;exact⟨⟨i+1,by omega,by simp,hF.out⟩,by simp[intOf] <;> omega⟩
    ·obtain⟨a,rfl,ha⟩:=n6 a h1;obtain⟨b,rfl,hb⟩:=n6 b h2;have a0:(0:Int)<=(a:Int):=by omega
     have a6:(a:Int)<6:=by omega
     have b0:(0:Int)<=(b:Int):=by omega
     have b6:(b:Int)<6:=by omega
     obtain⟨rb,jl⟩:=au ((RI i).getD b 0);have z0:=(t3 b _ (cD (RI i) hb)).1;rw[jl] at z0;go_upto_region 16 with fail
     have kd:Calm W5 W5.drew:=aq.drew;have ZN:=t3.calm kd;have y0:=(ZN a _ (cD (RI i) ha)).1;have y1:=(ZN a _ (cD (RI i) ha)).2;have v3:=ZN.set a (vI rb) (by rw[fU];exact ha);rw[iO zQ.out ha] at v3;have F:Fr (λk=>k=w.heap.size) W5.drew (W5.drew.setCell ⟨w.heap.size,a,none⟩ (vI rb)):=(Fr.refl (λk=>k=w.heap.size) W5.drew).setCell (p:=⟨w.heap.size,a,none⟩) (.inl rfl) _;have hR:RI (i+1)=(RI i).set a rb:=by rw[hs.out];unfold uR;rw[if_neg (λe=>e he.out)];simp[<-jl]
     have hF:Hid (ag (W5.drew.setCell ⟨w.heap.size,a,none⟩ (vI rb)) w.heap.size (iy (RI (i+1)))/\ag (W5.drew.setCell ⟨w.heap.size,a,none⟩ (vI rb)) (w.heap.size+1) [vI 0,vI 0,vI 0,vI 0,vI 0,vI 0]/\Calm w (W5.drew.setCell ⟨w.heap.size,a,none⟩ (vI rb))):=⟨by rw[hR];exact v3,(t6.calm kd).fr F (by omega),(sX.trans kd).join F (λj hj e=>by have:W5.drew.heap.size=W5.heap.size:=rfl;omega)⟩;replace jl:=af jl;have D0:=kd.cellAt d1 id;have D1:=kd.cellAt d2 id;have Z0:=kd.cellAt z0 id;refine bQ [0,1,2,3,4,5,6] [7] (λw'=>w'.cell? ⟨w4.heap.size,1,none⟩=some (vI (a:Int))/\w'.cell? ⟨w4.heap.size,2,none⟩=some (vI (b:Int))/\(w'.cell? ⟨w.heap.size,b,none⟩=some (vI rb))) (by kernel_rfl) (by kernel_rfl) ⟨D0,D1,Z0⟩ ?_;refine ah (.pointer (some ⟨w4.heap.size,1,none⟩)) rfl rfl (λw' hw'=>?_) ai ?_
     ·simp[go_sem]
     refine ah (vI (a:Int)) rfl rfl (λw' hw'=>?_) ai ?_
     ·have f1:=hw'.1;simp[go_sem,f1]
     refine ah (.pointer (some ⟨w4.heap.size,2,none⟩)) rfl rfl (λw' hw'=>?_) ai ?_
     ·simp[go_sem]
     refine ah (vI (b:Int)) rfl rfl (λw' hw'=>?_) ai ?_
     ·have f1:=hw'.2.1;simp[go_sem,f1]
     refine ah (.pointer (some ⟨w.heap.size,b,none⟩)) rfl rfl (λw' hw'=>?_) ai ?_
     ·simp[go_sem,b0,b6]
     refine ah (vI rb) rfl rfl (λw' hw'=>?_) ai ?_
     ·have f1:=hw'.2.2;simp[go_sem,f1]
     refine ah (.pointer (some ⟨w.heap.size,a,none⟩)) rfl rfl (λw' hw'=>?_) ai ?_
     ·simp[go_sem,a0,a6]
     simp only[aU]
     have Z1:(W5.drew.setCell ⟨w.heap.size,a,none⟩ (vI rb)).cell? ⟨w.heap.size,b,none⟩=some (vI rb):=by
      have h9:=(v3 b _ (cD _ hb)).1;rw[h9,aS]
      by_cases e:a=b
      ·subst e;rw[List.getElem?_set_self (by rw[zQ.out];exact ha)];rfl
      ·rw[List.getElem?_set_ne e,<-aS,jl.out]
     have SS:=(⟨F.cellAt D0 (by show ¬(w4.heap.size=w.heap.size);omega),F.cellAt D1 (by show ¬(w4.heap.size=w.heap.size);omega),Z1⟩:World.cell? _ ⟨w4.heap.size,1,none⟩=some (vI (a:Int))/\World.cell? _ ⟨w4.heap.size,2,none⟩=some (vI (b:Int))/\World.cell? _ ⟨w.heap.size,b,none⟩=some (vI rb));refine aw rfl rfl ?_;unfold Oper.wp;go_simp
     first|refine⟨SS,?_⟩|refine⟨SS.2.2,?_⟩
     simp only[bj];clear v3 F t3 t6 tA oD hR SS D0 D1 Z0 ZN Z1;go_wp2;exact⟨⟨i+1,by omega,by simp,hF.out⟩,by simp[intOf] <;> omega⟩
    ·obtain⟨a,rfl,ha⟩:=n6 a h1;have a0:(0:Int)<=(a:Int):=by omega
     have a6:(a:Int)<6:=by omega
     have y0:=(t3 a _ (cD (RI i) ha)).1;have y1:=(t3 a _ (cD (RI i) ha)).2;have v3:=t3.set a (vI (0)) (by rw[fU];exact ha);rw[iO zQ.out ha] at v3;have F:Fr (λk=>k=w.heap.size) W5 (W5.setCell ⟨w.heap.size,a,none⟩ (vI (0))):=(Fr.refl (λk=>k=w.heap.size) W5).setCell (p:=⟨w.heap.size,a,none⟩) (.inl rfl) _;have hR:RI (i+1)=(RI i).set a (0):=by rw[hs.out];unfold uR;rw[if_neg (λe=>e he.out)];simp
     have hF:Hid (ag (W5.setCell ⟨w.heap.size,a,none⟩ (vI (0))) w.heap.size (iy (RI (i+1)))/\ag (W5.setCell ⟨w.heap.size,a,none⟩ (vI (0))) (w.heap.size+1) [vI 0,vI 0,vI 0,vI 0,vI 0,vI 0]/\Calm w (W5.setCell ⟨w.heap.size,a,none⟩ (vI (0)))):=⟨by rw[hR];exact v3,t6.fr F (by omega),sX.join F (λj hj e=>by omega)⟩;clear v3 F t3 t6 tA oD hR;go_wp2;exact⟨⟨i+1,by omega,by simp,hF.out⟩,by simp[intOf] <;> omega⟩
    ·have hR:RI (i+1)=RI i:=by rw[hs.out];unfold uR;rw[if_neg (λe=>e he.out)];simp
     have hF:Hid (ag W5 w.heap.size (iy (RI (i+1)))/\ag W5 (w.heap.size+1) [vI 0,vI 0,vI 0,vI 0,vI 0,vI 0]/\Calm w W5):=⟨by rw[hR];exact t3,t6,sX⟩;clear t3 t6 tA oD hR;go_wp2;exact⟨⟨i+1,by omega,by simp,hF.out⟩,by simp[intOf] <;> omega⟩
   ·have hs:=af (jv.out);have ee:(x.e != 0)=true:=by simp[bne,he]
    have hR:RI (i+1)=RI i:=by rw[hs.out];unfold uR;rw[if_pos he]
    have hF:Hid (ag w4 w.heap.size (iy (RI (i+1)))/\ag w4 (w.heap.size+1) [vI 0,vI 0,vI 0,vI 0,vI 0,vI 0]/\Calm w w4):=⟨by rw[hR];exact q3,q6,gN⟩;clear q3 q6 qA hR;go_wp2;exact⟨⟨i+1,by omega,by simp,hF.out⟩,by simp[intOf] <;> omega⟩
  ·obtain rfl:i=n:=by omega
   have jL:decide ((i:Int)<i)=false:=decide_eq_false (by omega);obtain⟨s0,My,Yq,s3,s4,s5,Zi⟩:=Yr (hlen.out i);rw[Zi] at p3;have p3:ag wr w.heap.size [vI s0,vI My,vI Yq,vI s3,vI s4,vI s5]:=p3;have U:=p6.whole (us:=[vI s0,vI My,vI Yq,vI s3,vI s4,vI s5]) rfl;have F:=rG wr (w.heap.size+1) 0 [vI s0,vI My,vI Yq,vI s3,vI s4,vI s5];have hP:RgP w (rX Q l 0 R) (.returned (.agg #[vI s0,vI My,vI Yq,vI s3,vI s4,vI s5])) (wr.setCells (w.heap.size+1) 0 [vI s0,vI My,vI Yq,vI s3,vI s4,vI s5]):=⟨by rw[<-dh.out,Zi];rfl,hc.join F (λj hj e=>by omega)⟩;replace hP:=af hP;replace U:=af U;obtain⟨x0,x1,x2,x3,x4,x5⟩:=ag.t_ p3;have y0:=(p6 0 _ rfl).1;have wD:=(p6 0 _ rfl).2;have y1:=(p6 1 _ rfl).1;have wE:=(p6 1 _ rfl).2;have y2:=(p6 2 _ rfl).1;have wF:=(p6 2 _ rfl).2;have y3:=(p6 3 _ rfl).1;have yy3:=(p6 3 _ rfl).2;have y4:=(p6 4 _ rfl).1;have yy4:=(p6 4 _ rfl).2;have y5:=(p6 5 _ rfl).1;have yy5:=(p6 5 _ rfl).2;replace Zi:=af Zi;clear p3 p6 F;go_wp2;exact bodyPost_ret (TC rfl rfl U.out) rfl hP.out
