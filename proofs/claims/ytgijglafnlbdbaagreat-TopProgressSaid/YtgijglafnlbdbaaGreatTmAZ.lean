import Derived.Lib.SlBuf
import Derived.Test.YtgijglafnlbdbaaGreatTmAY
set_option linter.all false
set_option maxHeartbeats 8000000
set_option maxRecDepth 8000
namespace Go.Proofs.YtgijglafnlbdbaaGreat
open RowKit Shelf Proofs.Tryz
open Go renaming World->ag,Value->aA,Calls->aJ
section
def gl.eG(x:gl):aj:=x.L.roots++x.took.map (·.at_)
def aE.eG(S:aE)(rs:aj)(k:Nat):aj:=rs++S.qu.map (·.at_)++(S.aW.take k).flatMap gl.eG
theorem aE.yy(S:aE)(rs:aj){k:Nat}(hk:k<S.aW.length):S.eG rs (k+1)=S.eG rs k++((S.tx k).L.roots++(S.tx k).took.map (·.at_)):=by
 unfold aE.eG;rw[List.take_succ_eq_append_getElem hk,List.flatMap_append,<-List.append_assoc];have e:S.aW[k]=S.tx k:=by simp[aE.tx,aS,hk]
 simp[e,gl.eG]
theorem u_(a b:aj):nI (a++b)=nI a++nI b:=by simp[nI]
theorem nO{L:cd}(h:L.reads.length<=200/\L.keeps.length<=200/\L.holds.length<=200/\L.az.length<=200):L.roots.length<=1000:=by
 have h2:∀j,(uv L.az j).length<=2*j:=by
  intro j
  induction j with
  | zero=>simp[uv]
  | succ j ih=>rw[uv,b_];simp only[List.length_cons];split <;> simp <;> omega
 have:=h2 L.az.length;unfold cd.roots;simp only[b_,List.length_map];omega
theorem eX(l:aj):(nI l).length=l.length:=by simp[nI]
theorem Df(l:aj)(k:Nat):(l.take k).sum<=l.sum:=by
 have:=congrArg List.sum (List.take_append_drop k l);rw[List.sum_append] at this;omega
theorem zO:∀ {l:aj} {n:Nat},n∈l->n<=l.sum
 | x::l,n,h=>by
   rw[List.sum_cons];rcases eH.1 h with rfl|h
   ·omega
   ·have:=zO h;omega
def OE(w:ag)(l:aj)(e:Ending)(w':ag):Prop:=∃u,e=.returned u/\aI w' w.heap.size u (nI l)/\Calm w w'
variable {w:ag}{τ:Nat->Nat}{s q:Nat}{S:aE}
theorem IE(h:St w τ s q S)(hq:q<=100000){base:Nat}{v:aA}{rs:aj}(hr:aI w base v (nI rs))(ma:rs.length<=1000):aJ prog 90 #[pV S.sp,v] w (OE w (S.eG rs S.aW.length)):=by
 have oc:=DV (hr.mono (bY _)) (zK _) (by simp[nI];omega);have bU:=hid h.ok;have w_:S.qu.length+(S.aW.map λx=>x.took.length).sum<=q:=h.ok.tt;have hqN:S.qu.length<=100000:=by omega
 obtain⟨N,hN⟩:=ao S.qu.length;obtain⟨qa,qc,Ju⟩:=aF h.QB;rw[hN] at Ju hqN
 have hqg:Hid (∀i,i<N->∃g,qa=some ⟨g,0,none⟩/\∀W,Calm w W->W.cell? ⟨g,i*2,none⟩=some (vI (S.qu.getD i dI).at_)/\W.cell? ⟨g,i*2+1,none⟩=some (vI (S.qu.getD i dI).seq)):=λi hi=>by
  obtain⟨g,c,nZ,hg⟩:=bT kL (by decide) h.QB dI (show i<S.qu.length by omega);rw[Ju] at nZ;injection nZ with e1 e2 e3
  exact⟨g,e1,λW c=>⟨c.cellAt (hg 0 _ rfl).1 id,c.cellAt (hg 1 _ rfl).1 id⟩⟩
 have y4:∀W,Calm w W->W.cell? ⟨S.sp,4,none⟩=some (.slice qa N qc):=λW c=>by rw[<-Ju];exact c.cellAt (h.cells 4 _ rfl).1 id
 replace y4:=hid y4;obtain⟨Nt,Dt⟩:=ao S.aW.length;have abg:Nt<=8:=by rw[<-Dt];exact h.ok.n
 obtain⟨ta,tc,ry⟩:=aF h.QW;rw[Dt] at ry
 have lV:Hid (∀i,i<Nt->∃g,ta=some ⟨g,0,none⟩/\∀W,Calm w W->W.cell? ⟨g,i,none⟩=some (pV (S.tx i).xp)/\W.cell? ⟨(S.tx i).xp,4,none⟩=some (pV (S.tx i).lp)/\W.cell? ⟨(S.tx i).xp,5,none⟩=some (S.tx i).tv):=λi hi=>by
  have nK:i<S.aW.length:=by omega
  obtain⟨g,c,hv,ho⟩:=ji h.QW (by decide) nK;have h1:=(ho 0 (by decide)).1;rw[show i*1+0=i by omega] at h1;have e1:(S.aW.map λx=>pV x.xp).getD i .nilFunc=pV (S.tx i).xp:=by simp[aE.tx,aS,nK]
  rw[e1] at h1;rw[ry] at hv;injection hv with e2 e3 e4
  exact⟨g,e2,λW c=>⟨c.cellAt h1 id,c.cellAt (h.lW nK 4 _ rfl).1 id,c.cellAt (h.lW nK 5 _ rfl).1 id⟩⟩
 have y3:∀W,Calm w W->W.cell? ⟨S.sp,3,none⟩=some (.slice ta Nt tc):=λW c=>by rw[<-ry];exact c.cellAt (h.cells 3 _ rfl).1 id
 replace y3:=hid y3;have H:=hid h;replace Ju:=hid Ju;replace ry:=hid ry;replace Dt:=hid Dt;replace w_:=hid w_;rw[show(S.aW.length)=Nt from Dt.out];replace ma:=hid ma;have tq:=hid hN;clear h hN hr;go_in;go_wp2_with fail
 refine oc.mono ?_;rintro en w1 ⟨v1,rfl,uI,RO,c1⟩;have gA:aI w1 w.heap.size v1 (nI rs):=aI.base (base:=0) uI RO;clear uI;clear oc;have z4:=y4.out w1 c1
 have hR1:Hid (aI w1 w.heap.size v1 (nI (rs++(S.qu.take 0).map (·.at_)))):=by
  have e:rs++(S.qu.take 0).map (·.at_)=rs:=by simp
  rw[e];exact gA
 clear gA;go_wp2_with fail
 clear z4;go_loopw [5,19] (λx z wr=>∃i:Nat,i<=N/\z=vI i/\aI wr w.heap.size x (nI (rs++(S.qu.take i).map (·.at_)))/\Calm w wr) (λ_ z _=>N-(intOf z).toNat)
 case atStart=>exact⟨0,by omega,rfl,hR1.out,c1⟩
 case round=>
  obtain⟨i,hi,rfl,aP,hc⟩:=hrel;clear hR1;obtain⟨xa,xn,xc,rfl⟩:=aP.letters
  by_cases aM:i<N
  ·obtain⟨g,rfl,hg⟩:=hqg.out i aM;obtain⟨g0,g1⟩:=hg wr hc;clear hg;obtain⟨it,UX⟩:=ao (S.qu.getD i dI);rw[UX] at g0 g1;have kA:Calm w (wr.alloc (.cells #[vI it.at_,vI it.seq] 123)):=hc.alloc _;have Dx:=aP.calm (ah.alloc (.cells #[vI it.at_,vI it.seq] 123):Calm wr _);have oA:=af.new wr [vI it.at_,vI it.seq] 123;go_upto_region 5 with fail
   generalize mK:wr.alloc (.cells #[vI it.at_,vI it.seq] 123)=W5 at *;clear mK g0 g1;have m0:=(oA 0 _ rfl).1;have iG:w.heap.size<=W5.heap.size:=kA.size
   have hlen:(nI (rs++(S.qu.take i).map (·.at_))).length<=1000000:=by
    have:=ma.out;simp[nI];omega
   obtain⟨m,hm⟩:=ao ((nI (rs++(S.qu.take i).map (·.at_))).length)
   have e9:nI (rs++(S.qu.take (i+1)).map (·.at_))=nI (rs++(S.qu.take i).map (·.at_))++[((it.at_:Nat):Int)]:=by
    have oY:i<S.qu.length:=by rw[tq.out];exact aM
    rw[List.take_succ_eq_append_getElem oY,List.map_append,<-List.append_assoc,u_];have e:S.qu[i]=it:=by rw[<-UX];simp[aS,oY]
    simp[e,nI]
   have hP:Hid (∀g9 c9 w9,aI w9 w.heap.size (.slice (some ⟨g9,0,none⟩) (m+1) c9) (nI (rs++(S.qu.take i).map (·.at_))++[((it.at_:Nat):Int)])->Fr (ay (.slice xa xn xc)) W5 w9->aI w9 w.heap.size (.slice (some ⟨g9,0,none⟩) (m+1) c9) (nI (rs++(S.qu.take (i+1)).map (·.at_)))/\Calm w w9):=λg9 c9 w9 h1 h2=>⟨by rw[e9];exact h1,kA.join h2 (λj hj hb=>by have:=(Dx.lt hb).1;omega)⟩;replace hm:=hid hm;replace hlen:=hid hlen;clear aP hc oA e9 UX;replace Dx:=hid Dx;replace kA:=hid kA
   go_wp2_with (
    at_builtin
    go_must (refine jG rfl _ _ rfl w.heap.size (.slice xa xn xc) (nI (rs++(S.qu.take i).map (·.at_))) Dx.out rfl ((it.at_:Nat):Int) _ rfl rfl hlen.out iG ?_)
    intro g9 c9 w9 wB f9 oG;rw[hm.out] at wB ⊢;have hQ:=hid (hP.out g9 c9 w9 wB f9);clear hP wB f9 oG m0
    go_frame)
   exact⟨⟨i+1,by omega,by simp,hQ.out⟩,by simp[intOf] <;> omega⟩
  ·obtain rfl:i=N:=by omega
   obtain⟨wo,hwo⟩:∃wo:ag,wo=wr:=⟨_,rfl⟩;rw[<-hwo] at aP hc ⊢;clear hwo
   have hR2:Hid (aI wo w.heap.size (.slice xa xn xc) (nI (S.eG rs 0))):=by
    have e:S.eG rs 0=rs++(S.qu.take i).map (·.at_):=by
     rw[<-tq.out,List.take_length];simp[aE.eG]
    show aI wo _ _ _;rw[e];exact aP
   have z3:=y3.out wo hc;clear aP;go_wp2_with fail
   clear z3;go_loopw [5,34] (λx z wr=>∃t:Nat,t<=Nt/\z=vI t/\aI wr w.heap.size x (nI (S.eG rs t))/\Calm w wr) (λ_ z _=>Nt-(intOf z).toNat)
   case atStart=>exact⟨0,by omega,rfl,hR2.out,hc⟩
   case round=>
    obtain⟨t,ht,rfl,aP,dJ⟩:=hrel;clear hR2 hc;obtain⟨xa2,xn2,xc2,rfl⟩:=aP.letters
    have R4:Hid ((S.eG rs t).length<=500000):=by
     have h1:=ma.out;have h2:=w_.out
     have h4:∀k,k<=S.aW.length->((S.aW.take k).flatMap gl.eG).length<=1000*k+(S.aW.map λx=>x.took.length).sum:=by
      have h5:∀ (l:List gl),(∀x∈l,x.L.roots.length<=1000)->(l.flatMap gl.eG).length<=1000*l.length+(l.map λx=>x.took.length).sum:=by
       intro l
       induction l with
       | nil=>simp
       | cons x l ih=>
         intro hl;have:=ih λy hy=>hl y (List.mem_cons_of_mem _ hy);have:=hl x (by simp);simp only[List.flatMap_cons,b_,List.map_cons,List.sum_cons,List.length_cons,gl.eG,List.length_map];omega
      intro k hk
      have h6:=h5 (S.aW.take k) (λx hx=>by
       have dy:=List.mem_of_mem_take hx;obtain⟨j,hj,rfl⟩:=List.mem_iff_getElem.1 dy;have:=(bU.out.x j hj).f;have e:S.tx j=S.aW[j]:=by simp[aE.tx,aS,hj]
       rw[e] at this
       exact nO this)
      have h7:((S.aW.take k).map λx=>x.took.length).sum<=(S.aW.map λx=>x.took.length).sum:=by
       rw[List.map_take];exact Df _ _
      have:(S.aW.take k).length<=k:=by simp;omega
      have:1000*(S.aW.take k).length<=1000*k:=Nat.mul_le_mul_left _ this;omega
     have:=h4 t (by rw[Dt.out];exact ht);show(S.eG rs t).length<=500000;unfold aE.eG;simp only[b_,List.length_map];have h8:=tq.out;have:1000*t<=8000:=by omega
     omega
    by_cases dO:t<Nt
    ·have sT:t<S.aW.length:=by rw[Dt.out];exact dO
     obtain⟨g,rfl,hg⟩:=lV.out t dO;obtain⟨g0,g1,g2⟩:=hg wr dJ;have RV:∀W,Calm w W->W.cell? ⟨(S.tx t).xp,5,none⟩=some (S.tx t).tv:=λW c=>(hg W c).2.2;clear hg;have gg:=bU.out.x t sT;obtain⟨M,H1,H2,H3⟩:=H.out.calm dJ;have or:=CX H1 (H2.x t sT).l (λu hu=>(gg.l.u u hu).1) ⟨by have:=gg.f.1;omega,by have:=gg.f.2.1;omega,by have:=gg.f.2.2.1;omega,by have:=gg.f.2.2.2;omega⟩;have tE:=nO gg.f;have x_:=H.out.tok sT
     have LA:(S.tx t).took.length<=100000:=by
      have h1:=w_.out
      have:(S.tx t).took.length<=(S.aW.map λx=>x.took.length).sum:=by
       have e:S.tx t=S.aW[t]:=by simp[aE.tx,aS,sT]
       rw[e];exact zO (List.mem_map.2 ⟨_,List.getElem_mem sT,rfl⟩)
      omega
     obtain⟨x,hx⟩:=ao (S.tx t);rw[hx] at g0 g1 g2 or tE x_ LA RV;have abW:Hid (S.eG rs (t+1)=S.eG rs t++(x.L.roots++x.took.map (·.at_))):=by rw[<-hx];exact S.yy rs sT
     obtain⟨Nk,Jm⟩:=ao x.took.length;obtain⟨ka,kc,La⟩:=aF x_;rw[Jm] at La LA;rw[La] at g2 RV
     have hkg:Hid (∀i,i<Nk->∃g,ka=some ⟨g,0,none⟩/\∀W,Calm w W->W.cell? ⟨g,i*2,none⟩=some (vI (x.took.getD i dI).at_)/\W.cell? ⟨g,i*2+1,none⟩=some (vI (x.took.getD i dI).seq)):=λi hi=>by
      obtain⟨g,c,nZ,hg⟩:=bT kL (by decide) x_ dI (show i<x.took.length by omega);rw[La] at nZ;injection nZ with e1 e2 e3
      exact⟨g,e1,λW c=>⟨c.cellAt (hg 0 _ rfl).1 id,c.cellAt (hg 1 _ rfl).1 id⟩⟩
     have g2':=hid RV;clear RV;have YW:=hid Jm;clear La x_ H1 H2 H3 gg Jm hx g2;replace tE:=hid tE;replace sT:=hid sT;go_wp2_with fail
     refine or.mono ?_;rintro en w4 ⟨v4,rfl,nX,c4⟩;clear or;obtain⟨ra,rn,rc,rfl⟩:=nX.letters;have c24:=dJ.trans c4;have qj:=aP.calm c4
     have ZN:Hid ((nI (S.eG rs t)).length+(nI x.L.roots).length<=1000000):=by
      have h1:=R4.out;have h2:=tE.out;show(nI (S.eG rs t)).length+(nI x.L.roots).length<=1000000;rw[eX,eX];omega
     have ab6:w.heap.size<=w4.heap.size:=c24.size
     have hP4:Hid (∀v' w',aI w' w.heap.size v' (nI (S.eG rs t)++nI x.L.roots)->Fr (ay (.slice xa2 xn2 xc2)) w4 w'->aI w' w.heap.size v' (nI (S.eG rs t++(x.L.roots++(x.took.take 0).map (·.at_))))/\Calm w w'):=λv' w' h1 h2=>⟨by
      have e:S.eG rs t++(x.L.roots++(x.took.take 0).map (·.at_))=S.eG rs t++x.L.roots:=by simp
      rw[e,u_];exact h1,c24.join h2 (λj hj hb=>by have:=(qj.lt hb).1;omega)⟩
     have Lu:=hid qj;have aac:=hid nX;have g5:=g2'.out w4 c24;clear aP qj nX g0 g1
     go_wp2_with (
      at_builtin
      go_must (refine nD rfl _ _ rfl w.heap.size (.slice xa2 xn2 xc2) (nI (S.eG rs t)) Lu.out rfl (.slice ra rn rc) (nI x.L.roots) aac.out.row rfl ZN.out ab6 ?_)
      intro v9 w9 wB f9 oG;obtain⟨h91,h92⟩:=hP4.out v9 w9 wB f9;obtain⟨ya,yn,yc,rfl⟩:=h91.letters;have hR3:=hid h91;have g59:=g2'.out w9 h92
      clear hP4 wB f9 oG h91 g5)
     clear g59;have acJ:=LA;clear dJ Lu aac;go_loopw [5,50] (λx0 z wr=>∃j:Nat,j<=Nk/\z=vI j/\aI wr w.heap.size x0 (nI (S.eG rs t++(x.L.roots++(x.took.take j).map (·.at_))))/\Calm w wr) (λ_ z _=>Nk-(intOf z).toNat)
     case atStart=>exact⟨0,by omega,rfl,hR3.out,h92⟩
     case round=>
      obtain⟨j,hj,rfl,aP,hc⟩:=hrel;clear hR3;obtain⟨xa,xn,xc,rfl⟩:=aP.letters
      by_cases aM:j<Nk
      ·obtain⟨g,rfl,hg⟩:=hkg.out j aM;obtain⟨g0,g1⟩:=hg wr hc;clear hg;obtain⟨it,UX⟩:=ao (x.took.getD j dI);rw[UX] at g0 g1;have kA:Calm w (wr.alloc (.cells #[vI it.at_,vI it.seq] 123)):=hc.alloc _;have Dx:=aP.calm (ah.alloc (.cells #[vI it.at_,vI it.seq] 123):Calm wr _);have oA:=af.new wr [vI it.at_,vI it.seq] 123;go_upto_region 14 with fail
       generalize mK:wr.alloc (.cells #[vI it.at_,vI it.seq] 123)=W5 at *;clear mK g0 g1;have m0:=(oA 0 _ rfl).1;have iG:w.heap.size<=W5.heap.size:=kA.size;obtain⟨l9,U3⟩:=ao (S.eG rs t++(x.L.roots++(x.took.take j).map (·.at_)))
       have hlen:(nI l9).length<=1000000:=by
        have h1:=R4.out;have h2:=tE.out;rw[eX,<-U3];simp only[b_,List.length_map,List.length_take];omega
       rw[U3] at Dx;obtain⟨m,hm⟩:=ao ((nI l9).length)
       have e9:nI (S.eG rs t++(x.L.roots++(x.took.take (j+1)).map (·.at_)))=nI l9++[((it.at_:Nat):Int)]:=by
        have oY:j<x.took.length:=by rw[YW.out];exact aM
        rw[<-U3,List.take_succ_eq_append_getElem oY,List.map_append,<-List.append_assoc,<-List.append_assoc,<-List.append_assoc,u_];have e:x.took[j]=it:=by rw[<-UX];simp[aS,oY]
        simp[e,nI]
       have hP:Hid (∀g9 c9 w9,aI w9 w.heap.size (.slice (some ⟨g9,0,none⟩) (m+1) c9) (nI l9++[((it.at_:Nat):Int)])->Fr (ay (.slice xa xn xc)) W5 w9->aI w9 w.heap.size (.slice (some ⟨g9,0,none⟩) (m+1) c9) (nI (S.eG rs t++(x.L.roots++(x.took.take (j+1)).map (·.at_))))/\Calm w w9):=λg9 c9 w9 h1 h2=>⟨by rw[e9];exact h1,kA.join h2 (λk hk hb=>by have:=(Dx.lt hb).1;omega)⟩;replace hm:=hid hm;replace hlen:=hid hlen;clear aP hc oA e9 UX U3;replace Dx:=hid Dx;replace kA:=hid kA
       go_wp2_with (
        at_builtin
        go_must (refine jG rfl _ _ rfl w.heap.size (.slice xa xn xc) (nI l9) Dx.out rfl ((it.at_:Nat):Int) _ rfl rfl hlen.out iG ?_)
        intro g9 c9 w9 wB f9 oG;rw[hm.out] at wB ⊢;have hQ:=hid (hP.out g9 c9 w9 wB f9);clear hP wB f9 oG m0
        go_frame)
       exact⟨⟨j+1,by omega,by simp,hQ.out⟩,by simp[intOf] <;> omega⟩
      ·obtain rfl:j=Nk:=by omega
       have bM:Hid (aI wr w.heap.size (.slice xa xn xc) (nI (S.eG rs (t+1)))/\Calm w wr):=by
        refine⟨?_,hc⟩;rw[abW.out];have e:x.took.take j=x.took:=by rw[<-YW.out,List.take_length]
        rw[e] at aP;exact aP
       clear aP;go_wp2_with fail
       exact⟨⟨t+1,by omega,by simp,bM.out⟩,by simp[intOf] <;> omega⟩
    ·obtain rfl:t=Nt:=by omega
     have bM:Hid (OE w (S.eG rs t) (.returned (.slice xa2 xn2 xc2)) wr):=⟨_,rfl,aP,dJ⟩;clear aP;go_wp2;go_ret;exact bM.out
end
section
theorem aI.take{w:ag}{base:Nat}{a:Option Addr}{n c:Nat}{l:aj}(h:aI w base (.slice a n c) (nI l)){k:Nat}(hk:k<=l.length) :
 (∀W,(Instr.slice 43 (.slice a n c) none (some (vI (k:Int))) none).run prog W=.ok (.slice a k c) W)/\aI w base (.slice a k c) (nI (l.take k)):=by
 obtain⟨e1,e2⟩:=h;rcases e2 with ⟨e2,e3⟩|⟨g,cap,cur,e2,h3,h4,h5,h6,h7,h8⟩
 ·injection e2 with a1 a2 a3
  subst a1 a2 a3;have:l.length=0:=by rw[eX] at e3;exact e3
  obtain rfl:k=0:=by omega
  refine⟨λW=>?_,?_⟩
  ·have:=pq none 0 0 0 W (aD _);simpa using this
  ·rw[List.take_zero];exact aI.nil _ _
 ·injection e2 with a1 a2 a3
  subst a1 a3;rw[eX] at a2 h5 h8;refine⟨λW=>?_,?_⟩
  ·have:=pq (some ⟨g,0,none⟩) n c k W (by omega);rw[this]
   by_cases h0:c=0
   ·rw[if_pos h0]
   ·rw[if_neg h0];show Result.ok (Value.slice (some (Addr.add _ _)) _ _) _=_;rw[ei]
  ·have hl:(l.take k).length=k:=by rw[List.length_take];omega
   refine⟨by simp,.inr ⟨g,c,cur,by rw[eX,hl],h3,h4,by rw[eX,hl];omega,h6,h7,?_⟩⟩;rw[eX,hl];have e9:lj (nI (l.take k))=(lj (nI l)).take k:=by simp[nI,List.map_take]
   rw[e9,<-h8,List.take_take]
   congr 1
   try omega
theorem bE.dE{w:ag}{τ:Nat->Nat}{A:Mem}(h:bE w τ A)(R:Nat->Prop)(hR:∀t k,(A t).dh k->¬R k)(m:Nat):∃aL,bE w aL A/\(∀k,R k->aL k=m)/\∀k,¬R k->aL k=τ k:=by
 classical
 exact⟨λk=>if R k then m else τ k,⟨h.at_,λt k hk=>by simp only[if_neg (hR t k hk)];exact h.tag t k hk⟩,λk hk=>if_pos hk,λk hk=>if_neg hk⟩
variable {w:ag}{τ:Nat->Nat}{s q:Nat}{S:aE}
theorem Ct{I:aE->Prop}(h:gR I w τ s q S){t:Nat}(ht:t<S.aW.length){v:aA}{ps:aj}(hv:Row w v (lj (nI ps)))(hn:ps.length=(S.tx t).L.roots.length)(hp:∀p∈ps,p<=131072)(wD:∀b,Gj v b->500<=τ b)(hI:∀L',I (S.aU t { S.tx t with L:=L' })) :
 aJ prog 94 #[pV (S.tx t).lp,v] w λe w'=>(∃b:Bool,e=.returned (.bool b))/\∃aL L',gR I w' aL s q (S.aU t { S.tx t with L:=L' })/\aC w τ w' aL/\mS (S.tx t).L L'/\GS (S.tx t).L L' ps (S.tx t).L.roots.length:=by
 obtain⟨M,h1,h2,h3⟩:=h;have gg:=h3.x t ht;have R9:=h3.n;refine(Cs h1 (h2.x t ht).l (by omega) gg.l ⟨by have:=gg.f.1;omega,by have:=gg.f.2.1;omega,by have:=gg.f.2.2.1;omega,by have:=gg.f.2.2.2;omega⟩ hv hn hp wD).mono ?_;rintro e w' ⟨rfl,L',M',aL,k0,k1,k2,k3,k4,k5,k6⟩;refine⟨⟨true,rfl⟩,aL,L',gR.jX h2 h3 ht k3 k4 (k5.mono λj hj=>by omega) ⟨k2,?_,?_,gg.i,gg.k⟩ (hI L'),k6,k1,k0⟩
 ·show L'.reads.length<=200/\L'.keeps.length<=200/\L'.holds.length<=200/\L'.az.length<=200;rw[k1.lr,k1.lk,k1.lh,k1.lu];exact gg.f
 ·show 0<=L'.mr/\L'.mr<=200/\0<=L'.mu/\L'.mu<=200;rw[k1.mr,k1.mu];exact gg.m
end
section
variable {w:ag}{τ:Nat->Nat}{s q:Nat}{S:aE}
def aE.rl(S:aE)(t:Nat):Nat:=((S.aW.drop t).map λx=>x.L.roots.length+x.took.length).sum
theorem aE.GD(S:aE){t:Nat}(ht:t<S.aW.length):S.rl t=((S.tx t).L.roots.length+(S.tx t).took.length)+S.rl (t+1):=by
 unfold aE.rl;rw[List.drop_eq_getElem_cons ht,List.map_cons,List.sum_cons];have e:S.aW[t]=S.tx t:=by simp[aE.tx,aS,ht]
 rw[e]
theorem aE.vF(S:aE)(rs:aj):∀k,k<=S.aW.length->(S.eG rs k).length+S.rl k=rs.length+S.qu.length+S.rl 0
 | 0,_=>by simp[aE.eG]
 | k+1,h=>by
   have h1:=aE.vF S rs k (by omega);rw[S.GD (show k<_ by omega)] at h1;rw[S.yy rs (show k<_ by omega)];simp only[b_,List.length_map];omega
theorem aE.MJ(S:aE):S.rl S.aW.length=0:=by simp[aE.rl]
theorem iO.Qw{I:aE->Prop}(h:iO I s q S){rs:aj}(hr:∀p∈rs,p<=131072):∀p∈S.eG rs S.aW.length,p<=131072:=by
 intro p hp;unfold aE.eG at hp;rcases cJ.1 hp with hp|hp
 ·rcases cJ.1 hp with hp|hp
  ·exact hr p hp
  ·obtain⟨x,hx,rfl⟩:=List.mem_map.1 hp;exact(h.qu x hx).1
 ·obtain⟨x,hx,hp⟩:=List.mem_flatMap.1 hp;have dy:=List.mem_of_mem_take hx;obtain⟨j,hj,rfl⟩:=List.mem_iff_getElem.1 dy;have e:S.tx j=S.aW[j]:=by simp[aE.tx,aS,hj]
  have gg:=h.x j hj;rw[e] at gg;rcases cJ.1 hp with hp|hp
  ·exact ML gg.l.r gg.l.k (λx hx=>(gg.l.h x hx).1) (λu hu=>(gg.l.u u hu).1) p hp
  ·obtain⟨y,hy,rfl⟩:=List.mem_map.1 hp;exact(gg.k y hy).1
theorem iO.Mn{I:aE->Prop}(h:iO I s q S)(hq:q<=80000){rs:aj}(hr:rs.length<=1000):(S.eG rs S.aW.length).length<=100000:=by
 have h1:=S.vF rs _ (aD _);rw[S.MJ] at h1;have h2:=h.tt;unfold aE.tM at h2
 have h3:S.rl 0<=1000*S.aW.length+(S.aW.map λx=>x.took.length).sum:=by
  have h5:∀ (l:List gl),(∀x∈l,x.L.roots.length<=1000)->(l.map λx=>x.L.roots.length+x.took.length).sum<=1000*l.length+(l.map λx=>x.took.length).sum:=by
   intro l
   induction l with
   | nil=>simp
   | cons x l ih=>
     intro hl;have:=ih λy hy=>hl y (List.mem_cons_of_mem _ hy);have:=hl x (by simp);simp only[List.map_cons,List.sum_cons,List.length_cons];omega
  unfold aE.rl;rw[List.drop_zero]
  exact h5 S.aW λx hx=>by
   obtain⟨j,hj,rfl⟩:=List.mem_iff_getElem.1 hx;have:=(h.x j hj).f;have e:S.tx j=S.aW[j]:=by simp[aE.tx,aS,hj]
   rw[e] at this;exact nO this
 have h4:=h.n;omega
theorem cK.ID{s s':HS}{X:aj}(hr:aR s X){l l':aj}(g:cK s l s' l'){j:Nat}(hj:j<l.length)(h:Place s (l.getD j 0)):cH s' (l'.getD j 0):=by
 induction g with
 | nil=>simp at hj
 | @snoc l l' s1 s2 p q g1 g2 ih=>
   obtain⟨X1,h1⟩:=g1.rep hr;have hlen:=g1.len;rcases fB j l.length with hl|hl
   ·rw[fH _ _ _ hl] at h;rw[fH _ _ _ (by omega)];exact g2.zY (ih hl h)
   ·obtain rfl:j=l.length:=by simp at hj;omega
    rw[jS] at h;rw[<-hlen,jS];exact g2.here h1 (g1.place h)
def JO(A A':HS)(ls ps:aj):Prop:=ps.length=ls.length/\∀j,j<ls.length->∀n,1<=n->nr Ob.ser A (ls.getD j 0)=n->nr Ob.ser A' (ps.getD j 0)=n
theorem D5(l:aj)(k j:Nat):(l.drop k).getD j 0=l.getD (k+j) 0:=by simp[aS,List.getElem?_drop]
theorem D7(l:aj){k j:Nat}(h:j<k):(l.take k).getD j 0=l.getD j 0:=by simp[aS,List.getElem?_take,h]
theorem JO.left{A A':HS}{a b ps:aj}(h:JO A A' (a++b) ps):JO A A' a (ps.take a.length):=by
 have e:=h.1;rw[b_] at e;refine⟨by rw[List.length_take];omega,λj hj n hn hs=>?_⟩;rw[D7 _ hj];exact h.2 j (by rw[b_];omega) n hn (by rw[fG _ _ _ hj];exact hs)
theorem JO.right{A A':HS}{a b ps:aj}(h:JO A A' (a++b) ps):JO A A' b (ps.drop a.length):=by
 have e:=h.1;rw[b_] at e;refine⟨by rw[List.length_drop];omega,λj hj n hn hs=>?_⟩;rw[D5];exact h.2 (a.length+j) (by rw[b_];omega) n hn (by rw[dG];exact hs)
theorem MW{A A1 A2:HS}{X l l1 rd Gy:aj}(hw:HW A)(ho:A.aV=[])(hr:aR A.flip X)(fA:HW A.flip)(nL:HW A1)(yf:HW A2)(g:cK A.flip l A1 l1)(g2:cK A1 rd A2 Gy):JO A A2 l l1:=by
 refine⟨g.len,λj hj n hn h=>?_⟩;rcases dZ A (l.getD j 0) with ⟨i,o,c⟩|hm
 ·rw[gM hw c] at h;have h1:Ref A.flip (l.getD j 0) n:=rR ho _ _ (.inr (.inl ⟨o,c.eP,h⟩));have h2:=g.get hr fA.wf hj h1
  have h3:cH A1 (l1.getD j 0):=g.ID hr hj (by
   rcases h1 with ⟨e,_⟩|⟨u,hu,_⟩|⟨u,m,hu,_⟩
   ·exact .inl e
   ·exact .inr (.inl (List.mem_map.2 ⟨_,hu,rfl⟩))
   ·exact .inr (.inr (List.mem_map.2 ⟨_,hu,rfl⟩)))
  rcases h3 with e|e
  ·rw[e] at h2;have:=Ref.unique nL.wf h2 (.inl ⟨rfl,rfl⟩);omega
  ·obtain⟨k,u,d⟩:=aY.im e;have:=Ref.unique nL.wf h2 (.inr (.inl ⟨u,d.eP,rfl⟩));rw[gM yf (g2.cur d)];exact this.symm
 ·rw[vt hm] at h;omega
def Ti(A A':HS)(L L':cd):Prop:=L'.holds.length=L.holds.length/\∀i,i<L.holds.length->(L'.holds.getD i dH).dm=(L.holds.getD i dH).dm/\∀n,1<=n->nr Ob.ser A (L.holds.getD i dH).at_=n->nr Ob.ser A' (L'.holds.getD i dH).at_=n
theorem Fk{L:cd}{i:Nat}(hi:i<L.holds.length):L.roots.getD (L.reads.length+L.keeps.length+i) 0=(L.holds.getD i dH).at_/\L.reads.length+L.keeps.length+i<L.roots.length:=by
 unfold cd.roots;refine⟨?_,by simp only[b_,List.length_map];omega⟩;rw[Nat.add_assoc,dG,dG,fG _ _ _ (by simpa using hi)];simp[aS,hi]
theorem GS.mv{A A':HS}{L L':cd}{ps:aj}(h:GS L L' ps L.roots.length)(hl:L'.holds.length=L.holds.length)(m:JO A A' L.roots ps):Ti A A' L L':=by
 refine⟨hl,λi hi=>?_⟩;obtain⟨h1,h2⟩:=h i hi;obtain⟨e1,e2⟩:=Fk hi;rw[if_pos e2] at h2;refine⟨h1,λn hn hs=>?_⟩;rw[h2];exact m.2 _ e2 n hn (by rw[e1];exact hs)
theorem Inv.aax{S S':aE}(h:Inv S)(lv:Lv S.D.A S'.D.A)(r:Rn S S')(hh:S'.aK=S.aK)(len:S'.aW.length=S.aW.length)(hm:∀t,t<S.aW.length->Ti S.D.A S'.D.A (S.tx t).L (S'.tx t).L):Inv S':=by
 have gL:∀t,¬t<S.aW.length->S'.tx t=dT:=λt ht=>by unfold aE.tx;rw[aS,List.getElem?_eq_none (by omega)];rfl
 refine⟨?_,by rw[r.ve,r.nw];exact h.ve,λt ht=>?_,λt z hz=>?_,?_⟩
 ·rw[r.nw];refine(h.hv.lv lv).mono (λt z hk=>?_) (aD _);obtain⟨h1,h2,x,h3,h4⟩:=hk;have ht:=aE.pX h1;obtain⟨e1,e2⟩:=hm t ht;obtain⟨i,hi,rfl⟩:=cX dH h3;exact⟨(r.lv t).trans h1,h2,_,get_mem dH (by rw[e1];exact hi),(e2 i hi).2 z h2 h4⟩
 ·rw[r.nw,r.st];exact h.st t (by rw[<-r.lv];exact ht)
 ·rw[r.nw]
  by_cases ht:t<S.aW.length
  ·obtain⟨e1,e2⟩:=hm t ht;obtain⟨i,hi,rfl⟩:=cX dH hz;rw[e1] at hi;rw[(e2 i hi).1];exact h.vs t _ (get_mem dH hi)
  ·rw[gL t ht] at hz;cases hz
 ·rw[hh];rcases h.ho with e|⟨t,e,hl⟩
  ·exact .inl e
  ·exact .inr ⟨t,e,(r.lv t).trans hl⟩
abbrev tI:aE->Prop:=λ_=>True
abbrev St0:=gR tI
theorem gR.up{I J:aE->Prop}(h:gR I w τ s q S)(hj:J S):gR J w τ s q S:=by
 obtain⟨M,a,b,m⟩:=h;exact⟨M,a,b,⟨m.hw,m.ph,m.p2,m.se,m.rd,m.ls,m.ck,m.n,m.x,m.qu,m.tt,m.nx,m.ho,m.ve,m.lo,m.ca,hj⟩⟩
theorem MV{w4:ag}(h:St w τ s q S)(hm:S.D.A.mv=false){l:aj}(hl:∀p∈l,p<=131072){u:aA}{A1 A2:HS}{l1 Gy:aj}{fF:HB}{oQ:aj}{jM:aA}(g1:cK S.D.A.flip l A1 l1)(g2:cK A1 S.D.rd A2 Gy)
 (hC:CH w4 0 S.D.c fF A2 oQ 1 jM S.D.lv Gy S.D.ls) (hK:dg w S.D.c S.D.rv S.D.lv S.D.B w4 jM S.D.lv fF) (hu:aI w4 w.heap.size u (nI l1)) (cT:∀b,ay u b->¬dz fF b/\¬v_ S.D.c jM S.D.lv b) :
 ∃dW,St0 w4 dW s q { S with D:=⟨fF,A2,S.D.c,1,jM,S.D.lv,Gy,S.D.ls⟩ } /\ aC w τ w4 dW/\(∀b,ay u b->dW b=1000)/\(∀p∈l1,p<=131072)/\l1.length=l.length/\wG S { S with D:=⟨fF,A2,S.D.c,1,jM,S.D.lv,Gy,S.D.ls⟩ } /\ JO S.D.A A2 l l1/\Lv S.D.A A2/\A2.ser=S.D.A.ser:=by
 obtain⟨X,hX⟩:=h.iW;obtain⟨M,H1,H2,H3⟩:=h;have hb:(M 0).dh=λk=>dz S.D.B k\/v_ S.D.c S.D.rv S.D.lv k:=by rw[H2.h];rfl
 obtain⟨τ4,j1,j2⟩:=H1.put (t:=0) (a:=aH ⟨fF,A2,S.D.c,1,jM,S.D.lv,Gy,S.D.ls⟩) (hK.fr.mono (λk _ e=>by rw[hb];exact e.symm)) ⟨oQ,hC⟩ (λk hk=>by
  rw[hb];rcases hk with hk|hk
  ·rcases hK.new k hk with e|e
   ·exact .inl (.inl e)
   ·exact .inr e
  ·rcases hK.J7 k hk with e|e
   ·exact .inl (.inr e)
   ·exact .inr e) (by decide)
 obtain⟨dW,k1,k2,k3⟩:=j1.dE (ay u) (λt k hk gX=>by
  by_cases e:t=0
  ·subst e;rw[Mem.aG] at hk;rcases hk with hk|hk
   ·exact(cT k gX).1 hk
   ·exact(cT k gX).2 hk
  ·rw[Mem.aB _ _ e] at hk;have:=H1.lt t hk;have:=(hu.lt gX).1
   omega) 1000
 have mD:=hX.rep;have tE:=mD.flip hm;have fA:=(H3.hw.flip mD hm);obtain⟨X1,gA⟩:=g1.rep tE;have nL:=fA.jx tE g1;have yf:=nL.jx gA g2;have s1:=g1.same;have s2:=g2.same;have emv:A2.mv=true:=by rw[s2.2.2.1,s1.2.2.1];rfl
 have TN:A2.ser=S.D.A.ser:=by rw[s2.2.2.2.2.1,s1.2.2.2.2.1];rfl
 have en:A2.n=S.D.A.n:=by rw[s2.1,s1.1];rfl
 have abX:Gy=[]:=by
  have:=g2.len;rw[H3.rd] at this;exact List.length_eq_zero_iff.1 this
 refine⟨dW,⟨_,k1,H2.IK (D':=⟨fF,A2,S.D.c,1,jM,S.D.lv,Gy,S.D.ls⟩) (Mem.cf.put M _ rfl) (Mem.aG _ _ _) hK.hp rfl,⟨yf,?_,by show 1<=2;decide,?_,abX,H3.ls,H3.ck,H3.n,H3.x,H3.qu,H3.tt,H3.nx,H3.ho,H3.ve,H3.lo,H3.ca,trivial⟩⟩,⟨j2.fr,λk hk=>(k3 k (λe=>by have:=(hu.lt e).1;omega)).trans (j2.tg k hk)⟩,k2,Kp tE g1 hl,g1.len,⟨rfl,hK.hp,rfl,rfl,en,rfl,λ_=>rfl,λ_=>rfl,by show _+A2.fin.length+_<=_+_+A2.ser;rw[s2.2.2.2.2.2.2.1,s1.2.2.2.2.2.2.1,TN];exact aD _,aD _⟩,MW H3.hw (mD.still hm) tE fA nL yf g1 g2,((Lv.flip S.D.A).trans (.jx g1)).trans (.jx g2),TN⟩
 ·show(1:Nat)=0↔A2.mv=false;rw[emv];simp
 ·show A2.ser<=s;rw[TN];exact H3.se
structure Th(A:HS)(S1 Sk:aE)(t:Nat)(ps:aj):Prop where
 d:Sk.D=S1.D
 r:Rn S1 Sk
 h:Sk.aK=S1.aK
 lo:Sk.lost=S1.lost
 m:∀j,j<t->Ti A S1.D.A (S1.tx j).L (Sk.tx j).L
 p:JO A S1.D.A ((S1.aW.drop t).flatMap gl.eG) ps
theorem Hm{S:aE}{t:Nat}(ht:t<S.aW.length):(S.aW.drop t).flatMap gl.eG=(S.tx t).L.roots++((S.tx t).took.map (·.at_)++(S.aW.drop (t+1)).flatMap gl.eG):=by
 rw[List.drop_eq_getElem_cons ht,List.flatMap_cons];have e:S.aW[t]=S.tx t:=by simp[aE.tx,aS,ht]
 rw[e];unfold gl.eG;rw[List.append_assoc]
theorem Th.step{A:HS}{S1 Sk:aE}{t:Nat}{ps:aj}{L':cd}{X9:gl}(h:Th A S1 Sk t ps)(ht:t<S1.aW.length)(hk:t<Sk.aW.length)(e:Sk.tx t=S1.tx t)(hd:GS (Sk.tx t).L L' (ps.take (Sk.tx t).L.roots.length) (Sk.tx t).L.roots.length)(hl:L'.holds.length=(Sk.tx t).L.holds.length)(e1:X9.live=(Sk.tx t).live)(e2:X9.start=(Sk.tx t).start)(e3:X9.L=L') :
 Th A S1 (Sk.aU t X9) (t+1) ((ps.drop (Sk.tx t).L.roots.length).drop (Sk.tx t).took.length):=by
 have hp:=h.p;rw[Hm ht,<-e] at hp;refine⟨h.d,h.r.trans (Rn.aU hk e1 e2),h.h,h.lo,λj hj=>?_,?_⟩
 ·by_cases ej:j=t
  ·subst ej;rw[aE.dS hk,e3,<-e];exact hd.mv hl hp.left
  ·rw[aE.eJ ej];exact h.m j (by omega)
 ·have:=hp.right.right;rw[List.length_map] at this;exact this
def CoI(w5:ag)(gj:Nat->Nat)(s q:Nat)(A:HS)(S1:aE)(u:aA)(t:Nat)(x:aA)(wr:ag):Prop:=
 ∃pF Sk a n c ps,x=.slice a n c/\St0 wr pF s q Sk/\aC w5 gj wr pF/\Fix S1 Sk/\Sk.mj=S1.mj/\(∀j,t<=j->Sk.tx j=S1.tx j)/\iU (ay u) wr x ps/\ps.length=S1.rl t/\(∀p∈ps,p<=131072)/\Th A S1 Sk t ps
theorem IQ(S:aE)(t:Nat)(x y:gl):(S.aU t x).aU t y=S.aU t y:=by unfold aE.aU;simp only[List.set_set]
structure CoD(S S':aE):Prop where
 r:Rn S S'
 ph:S.D.ph=0/\S'.D.ph=1
 se:S'.D.A.ser=S.D.A.ser
 lo:S'.lost=S.lost
def JE(w:ag)(τ:Nat->Nat)(s q:Nat)(S:aE)(rs:aj)(e:Ending)(w':ag):Prop:=
 (e=.returned (.tuple #[.slice none 0 0,.bool false])/\Calm w w') \/
 ∃v ps aL S',e=.returned (.tuple #[v,.bool true])/\ps.length=rs.length/\(∀p∈ps,p<=131072)/\aI w' w.heap.size v (nI ps)/\St w' aL s q S'/\aC w τ w' aL/\wG S S'/\(∀b,ay v b->aL b=1000)/\CoD S S'
theorem DW(h:St w τ s q S)(hq:q<=80000){base:Nat}{v:aA}{rs:aj}(hr:aI w base v (nI rs))(ma:rs.length<=1000)(Od:∀p∈rs,p<=131072):aJ prog 50 #[pV S.sp,v] w (JE w τ s q S rs):=by
 obtain⟨X0,BG⟩:=h.heap;have Xv:=tF BG.cy;have y1:∀W,Calm w W->W.cell? ⟨S.sp,1,none⟩=some (pV S.D.c):=λW c=>c.cellAt (h.cells 1 _ rfl).1 id;have y0:∀W,Calm w W->W.cell? ⟨S.sp,0,none⟩=some (pV S.D.B.hp):=λW c=>c.cellAt (h.cells 0 _ rfl).1 id;have z1:=y1 w ah;replace y1:=hid y1;replace y0:=hid y0;obtain⟨n,hn⟩:=ao rs.length;obtain⟨va,vc,rfl⟩:=hr.iy (n:=n) (by rw[eX,hn]);have rm:Hid (∀W,Calm w W->JE w τ s q S rs (.returned (.tuple #[.slice none 0 0,.bool false])) W):=λW c=>.inl ⟨rfl,c⟩
 by_cases Js:S.D.ph=0
 ·have kU:=h.ok.ph.1 Js
  have gG:Hid (∀i,i<n->∃g,va=some ⟨g,0,none⟩/\∀W,Calm w W->W.cell? ⟨g,i,none⟩=some (vI (rs.getD i 0:Nat))):=λi hi=>by
   obtain⟨b,⟨a,c,hv,ha⟩,hc,_⟩:=jE (hr.mono (bY _));injection hv with a1 _ _
   exact⟨b,a1.trans (ha (by omega)),λW c=>c.cellAt (hc i (by omega)).1 id⟩
  have Yx:decide (S.D.ph≠0)=false:=by simp[Js]
  rw[Yx] at Xv;have H:=hid h;have AE:=hid hr;have sP:=hid hn;have Z2:n<=1000:=by omega
  have hX0:=hid BG;replace Js:=hid Js;replace kU:=hid kU;replace Od:=hid Od;clear h hr hn BG Yx ma;go_in;go_wp2_with fail
  refine Xv.mono ?_;rintro en w1 ⟨rfl,e1⟩;subst w1;clear Xv z1;go_wp2_with fail
  go_loopw [25] (λz wr=>∃i:Nat,i<=n/\z=vI i/\Calm w wr) (λz _=>n-(intOf z).toNat)
  case atStart=>exact⟨0,by omega,rfl,ah⟩
  case round=>
   obtain⟨i,hi,rfl,hc⟩:=hrel
   by_cases aM:i<n
   ·obtain⟨g,rfl,hg⟩:=gG.out i aM;have x0:=hg wr hc;obtain⟨p,hp⟩:=ao (rs.getD i 0);have Z8:p<=131072:=Od.out p (by rw[<-hp];exact get_mem 0 (by have:=sP.out;omega));rw[hp] at x0;clear hg hp
    by_cases Xf:p=0
    ·subst Xf;have x0:wr.cell? ⟨g,i,none⟩=some (vI 0):=x0;go_wp2;exact⟨⟨i+1,by omega,by simp,hc⟩,by simp[intOf] <;> omega⟩
    ·have e0:((p:Int) != 0)=true:=by simp[bne];omega
     have z0:=y0.out wr hc;have oh:=qe ((hX0.out.ha).calm hc) (p:Int) (uQ Z8);go_wp2_with fail
     refine oh.mono ?_;rintro en w3 ⟨rfl,c3⟩;clear oh;have BD:=hc.trans c3
     cases hd:decide ((p:Int)∈nI (dL S.D.A.cur)) with
     | true=>
       clear rm;go_wp2;exact⟨⟨i+1,by omega,by simp,BD⟩,by simp[intOf] <;> omega⟩
     | false=>
       have bM:=hid (rm.out w3 BD);clear rm;go_wp2
       go_ret2
       exact bM.out
   ·obtain rfl:i=n:=by omega
    clear rm;have kd:Calm wr wr.drew:=ah.drew;have kS:=hc.trans kd;have z1:=y1.out _ kS;have jL:=IE (H.out.calm kS) (by omega) (AE.out.calm kS) (by have:=sP.out;omega);have iG:=kS.size;have nZ:∃x:aA,x=.slice va i vc:=⟨_,rfl⟩;go_wp2_with fail
    refine bW [(true,0),(true,1),(true,2),(true,3),(true,4),(true,5),(false,6),(false,7),(true,8),(true,9),(true,10),(false,11),(false,12)] (λw'=>w'.cell? ⟨S.sp,1,none⟩=some (pV S.D.c)) (by kernel_rfl) (by kernel_rfl) z1 ?_;refine au (pV S.sp) rfl rfl (λw' hw'=>?_) ak ?_
    ·simp[go_sem]
    refine au (pV S.sp) rfl rfl (λw' hw'=>?_) ak ?_
    ·simp[go_sem]
    refine au (.pointer (some ⟨S.sp,1,none⟩)) rfl rfl (λw' hw'=>?_) ak ?_
    ·simp[go_sem]
    refine au (pV S.D.c) rfl rfl (λw' hw'=>?_) ak ?_
    ·simp[go_sem,hw']
    refine au (pV S.sp) rfl rfl (λw' hw'=>?_) ak ?_
    ·simp[go_sem]
    refine au (.slice va i vc) rfl rfl (λw' hw'=>?_) ak ?_
    ·simp[go_sem]
    refine bj rfl rfl ?_;go_wp2_with fail
    refine jL.mono ?_;rintro en w3 ⟨u0,rfl,Xl,c3⟩;clear jL;have BD:=kS.trans c3;have qM:=y1.out _ BD;refine⟨qM,?_⟩;have h3:=H.out.calm BD;have bU:=h3.ok;obtain⟨X3,UB⟩:=h3.heap;have Z7:=Js.out;rw[Z7] at UB;obtain⟨Ld,WV⟩:=ao (S.eG rs S.aW.length);rw[WV] at Xl;have Uf:∀p∈Ld,p<=131072:=by rw[<-WV];exact bU.Qw Od.out
    have RG:Ld.length<=100000:=by rw[<-WV];exact bU.Mn hq (by have:=sP.out;omega)
    have RR:=H.out.calm kS;obtain⟨Xd,UC⟩:=RR.heap
    have Zj:∀k,(k=S.D.c\/dz S.D.B k)->k<wr.drew.heap.size:=λk hk=>by
     rcases hk with e|e
     ·exact(UC.cy.lt k (.inl e)).1
     ·exact UC.ha.lt k e
    have ost:=IX UB kU.out (v:=u0) (l:=Ld) (λW f=>(Xl.dw f (λb hb e=>by have:=(Xl.lt hb).1;have:=Zj b e;omega)).row) Uf RG (by rw[bU.rd];exact λ_ h=>(by cases h)) (by rw[bU.rd];exact bY _);obtain⟨ua,un,uc,rfl⟩:=Xl.letters;refine bj rfl rfl ?_;go_wp2_with fail
    refine ost.mono ?_;rintro en w4 ⟨u,A1,A2,l1,Gy,fF,oQ,jM,rfl,g1,g2,hC,hK,hu,cT⟩;clear ost;obtain⟨dW,Y0,K5,tu,U5,xX,fx1,wT,ZU,aah⟩:=MV h3 kU.out Uf g1 g2 hC hK hu cT;have kI:=S.vF rs _ (aD _);rw[WV,S.MJ] at kI;obtain⟨S1,sN⟩:=ao (({ S with D:=⟨fF,A2,S.D.c,1,jM,S.D.lv,Gy,S.D.ls⟩ } : aE):aE);have wJ:S1.sp=S.sp:=by rw[<-sN]
    have zl:S1.qu=S.qu:=by rw[<-sN]
    have YF:S1.rl 0=S.rl 0:=by rw[<-sN];rfl
    have YB:S1.D.c=S.D.c:=by rw[<-sN]
    have YC:S1.D.A=A2:=by rw[<-sN]
    have YE:S1.D.ph=1:=by rw[<-sN]
    have TK:Rn S S1:=by rw[<-sN];exact⟨λ_=>rfl,λ_=>rfl,rfl,rfl⟩
    have TH:S1.aK=S.aK:=by rw[<-sN]
    have TI:S1.lost=S.lost:=by rw[<-sN]
    have xP:S1.aW=S.aW:=by rw[<-sN]
    have Ue:JO S.D.A S1.D.A ((S1.aW.drop 0).flatMap gl.eG) ((l1.drop rs.length).drop S1.qu.length):=by
     rw[<-WV] at wT;unfold aE.eG at wT;rw[List.take_of_length_le (aD _),List.append_assoc] at wT;have:=wT.right.right;rw[List.length_map] at this;rw[YC,xP,zl,List.drop_zero];exact this
    replace Ue:=hid Ue
    have hI1:Hid (∀Sk ps,Th S.D.A S1 Sk S1.aW.length ps->Fix S1 Sk->Inv Sk/\CoD S Sk):=λSk ps c f=>by
     have r:=TK.trans c.r;refine⟨h3.ok.iv.aax (by rw[c.d,YC];exact ZU) r (c.h.trans TH) (f.len.trans (by rw[xP])) (λt ht=>?_),r,⟨Z7,by rw[c.d];exact YE⟩,by rw[c.d,YC];exact aah,c.lo.trans TI⟩;have e1:S1.tx t=S.tx t:=by unfold aE.tx;rw[xP]
     have:=c.m t (by rw[xP];exact ht);rw[e1] at this;rw[c.d];exact this
    replace YC:=hid YC;replace TK:=hid TK;replace TH:=hid TH;replace TI:=hid TI;replace xP:=hid xP;clear wT ZU aah YE;rw[sN] at Y0 fx1;have nT:w4.cell? ⟨S.sp,1,none⟩=some (pV S.D.c):=by have:=(Y0.cells 1 _ rfl).1;rw[wJ,YB] at this;exact this
    refine⟨nT,?_⟩;obtain⟨ub,um,ud,rfl⟩:=hu.letters;refine au (.tuple #[.slice ub um ud,.bool true]) rfl rfl (λw' hw'=>?_) ak ?_
    ·simp[go_sem]
    refine au (.slice ub um ud) rfl rfl (λw' hw'=>?_) ak ?_
    ·simp[go_sem]
    refine au (.bool true) rfl rfl (λw' hw'=>?_) ak ?_
    ·simp[go_sem]
    refine bj rfl rfl ?_;unfold Oper.wp;go_simp
    first|refine⟨nT,?_⟩|skip
    refine bj rfl rfl ?_;unfold Oper.wp;go_simp
    first|refine⟨nT,?_⟩|skip
    refine eW ?_;clear z1 qM nT UB UC Zj RR hC hK g1 g2 cT;have hum:l1.length=um:=by obtain⟨_,_,e,_⟩:=iU.of hu;injection e with _ e2 _;exact e2.symm
    have lU:rs.length=i:=sP.out;have hiu:i<=l1.length:=by rw[xX];omega
    have abD:l1.length<=100000:=by omega
    obtain⟨acw,RJ⟩:=hu.take (k:=i) hiu;have Oj:=DV (RJ.mono (bY _)) (zK _) (by rw[eX,List.length_take];omega);obtain⟨gj,hS6,Al,Br⟩:=Y0.fresh;have Dy:=iU.of hu;obtain⟨da,dc,acv,RF⟩:=Dy.drop (lo:=i) (by omega);have tu6:∀b,ay (.slice ub um ud) b->gj b=1000:=λb hb=>(Al b (hu.lt hb).2).trans (tu b hb);have acL:=hid Y0;clear Y0 Dy;have zI:Hid (aI w4 w3.heap.size (.slice ub um ud) (nI l1)):=hu;clear hu;go_wp2_with fail
    refine Oj.mono ?_;rintro en w5 ⟨v5,rfl,h5,F_,c5⟩;clear Oj;have Pn:aI w5 w4.heap.size v5 (nI (l1.take i)):=aI.base (base:=0) h5 F_;obtain⟨wa5,wn5,wc5,rfl⟩:=Pn.letters;have FZ:=hS6.calm c5;have hD5:=RF.calm c5;obtain⟨Nq,YX⟩:=ao S1.qu.length;have Vj:=FZ.QB;obtain⟨qa,qc,Ju⟩:=aF Vj;rw[YX] at Ju;have z4:w5.cell? ⟨S.sp,4,none⟩=some (.slice qa Nq qc):=by rw[<-Ju,<-wJ];exact(FZ.cells 4 _ rfl).1
    have w_:=FZ.ok.tt
    have abf:Nq<=100000:=by
     unfold aE.tM at w_;omega
    have BJ:(l1.drop i).length=um-i:=by rw[List.length_drop];omega
    have Po:∀p∈l1.drop i,p<=131072:=λp hp=>U5 p (List.mem_of_mem_drop hp)
    have IB:=CS Vj hD5 (by rw[BJ,YX,<-hum,xX];rw[<-YX,zl];omega) (λb hb e=>by
     have h1:=tu6 b hb;obtain⟨M,H1,H2,_⟩:=FZ;have:=H1.tag 5 b (by rw[H2.q];exact e)
     omega) (by omega) Po
    rw[Ju] at IB;have Vk:=hid Ju;have abe:=hid YX;clear Vj hD5 RF h5 YX Ju RJ F_;replace hum:=hid hum;replace lU:=hid lU;replace hiu:=hid hiu;replace kI:=hid kI;replace xX:=hid xX;replace BJ:=hid BJ;go_wp2_with fail
    refine IB.mono ?_;rintro en w6 ⟨pa,pc,rfl,hP6,Se,f6⟩;clear IB z4;have P3:S1.qu.length=Nq:=abe.out
    obtain⟨vZ,Y1,K7⟩:=FZ.cD (q':=q) ⟨S1.qv,n_ S1.qu (l1.drop i) S1.qu.length,S1.next,S1.aK,S1.dm⟩ (by rw[Vk.out];exact f6.mono (λb _ e=>.inr e)) (by
     have h9:af w5 S1.sp S1.cs:=FZ.cells;refine h9.fr f6 (λe=>?_);obtain⟨M,H1,H2,_⟩:=FZ
     exact H1.apart (t:=5) (u:=2) (k:=S1.sp) (by omega) (by rw[H2.q,Vk.out];exact e) (by rw[H2.c];rfl)) (by
     rw[Vk.out];show w6.ownsRow 0 _ 2 _ (n_ S1.qu (l1.drop i) S1.qu.length).length _
     rw[qx];exact Se) (λb hb=>.inl hb) (λx hx=>by
     obtain⟨j,hj,rfl⟩:=List.mem_iff_getElem.1 hx;have pK:j<S1.qu.length:=by rw[qx] at hj;exact hj
     have h9:=tJ S1.qu (l1.drop i) S1.qu.length j pK;rw[if_pos pK,aS,lQ hj] at h9;have h9:(n_ S1.qu (l1.drop i) S1.qu.length)[j]=_:=h9;rw[h9];refine⟨?_,(FZ.ok.qu _ (get_mem dI pK)).2⟩;show(l1.drop i).getD j 0<=131072;refine Po _ (get_mem 0 ?_);rw[BJ.out,<-hum.out,xX.out];have:=kI.out;rw[zl] at pK;have:=lU.out
     omega) (by
     show(n_ S1.qu (l1.drop i) S1.qu.length).length+_<=q
     rw[qx];exact FZ.ok.tt) FZ.ok.nx FZ.ok.ho FZ.ok.ve (aD _) trivial
    obtain⟨S2,Hx⟩:=ao (S1.cD ⟨S1.qv,n_ S1.qu (l1.drop i) S1.qu.length,S1.next,S1.aK,S1.dm⟩:aE);rw[Hx] at Y1;have fx2:Fix S1 S2:=by rw[<-Hx];exact Fix.cD _ _
    have zj:S2.mj=S1.mj:=by rw[<-Hx];rfl
    have RA:∀j,S2.tx j=S1.tx j:=λj=>by rw[<-Hx];rfl
    have R7:((l1.drop i).drop S1.qu.length).length=S1.rl 0:=by
     rw[List.length_drop,BJ.out,<-hum.out,xX.out,YF,zl];have:=kI.out;have:=lU.out;omega
    have Sh:(l1.drop i).length-S1.qu.length=um-i-Nq:=by rw[BJ.out,P3]
    rw[Sh] at hP6;rw[Sh]
    have aa9:Th S.D.A S1 S2 0 ((l1.drop i).drop S1.qu.length):=by
     rw[<-Hx];exact⟨rfl,⟨λ_=>rfl,λ_=>rfl,rfl,rfl⟩,rfl,rfl,λj hj=>absurd hj (Nat.not_lt_zero j),by rw[<-lU.out];exact Ue.out⟩
    have kg:Hid (CoI w5 gj s q S.D.A S1 (.slice ub um ud) 0 (.slice pa (um-i-Nq) pc) w6):=⟨vZ,S2,pa,_,pc,_,rfl,Y1,K7,fx2,zj,λj _=>RA j,hP6,R7,λp hp=>Po p (List.mem_of_mem_drop hp),aa9⟩;obtain⟨Nt,Dt⟩:=ao S1.aW.length;have abg:Nt<=8:=by rw[<-Dt];exact FZ.ok.n
    obtain⟨ta,tc,ry⟩:=aF Y1.QW;have Yy:S2.aW.length=Nt:=fx2.len.trans Dt;rw[Yy,zj] at ry
    have z3:w6.cell? ⟨S.sp,3,none⟩=some (.slice ta Nt tc):=by
     rw[<-ry,<-zj,<-wJ,<-fx2.sp];exact(Y1.cells 3 _ rfl).1
    have hC:Hid (∀W pF Sk ps,St0 W pF s q Sk->aC w5 gj W pF->Fix S1 Sk->Th S.D.A S1 Sk S1.aW.length ps->JE w τ s q S rs (.returned (.tuple #[.slice wa5 wn5 wc5,.bool true])) W):=λW pF Sk ps k1 k2 k3 k4=>by
     obtain⟨hi1,nK⟩:=hI1.out Sk ps k4 k3;have hmt:∀b,ay (.slice wa5 wn5 wc5) b->gj b=1000:=λb hb=>Br b (Pn.lt hb).1;refine .inr ⟨_,l1.take i,pF,Sk,rfl,by rw[List.length_take,lU.out];have:=hiu.out;omega,λp hp=>U5 p (List.mem_of_mem_take hp),?_,k1.up hi1,?_,fx1.trans k3.f0,λb hb=>(k2.tg b (Pn.lt hb).2).trans (hmt b hb),nK⟩
     ·refine((Pn.dw k2.fr (λb hb e=>by rw[hmt b hb] at e;omega)).mono ?_);have h1:=BD.size;have h2:w3.heap.size<=w4.heap.size:=K5.size;omega
     ·exact(((aC.calm τ BD).trans K5).vU Al).trans ((aC.calm gj c5).trans k2)
    have ab_:=hid tu6;replace Dt:=hid Dt;replace ry:=hid ry;replace wJ:=hid wJ;replace zI:=zI;clear Y1 K7 fx2 zj RA R7 Sh Yy hP6 Se f6 FZ hS6 Pn tu6 tu K5 Br Al U5 Po fx1 sN Hx w_ abf abD Uf RG WV h3 bU kI zl YF YB;go_wp2_with fail
    clear z3;go_loopw [8,72] (λx z wr=>∃t:Nat,t<=Nt/\z=vI t/\CoI w5 gj s q S.D.A S1 (.slice ub um ud) t x wr) (λ_ z _=>Nt-(intOf z).toNat)
    case atStart=>exact⟨0,by omega,rfl,kg.out⟩
    case round=>
     obtain⟨t,ht,rfl,pF,Sk,a,nn,c,ps,rfl,hk,kk,fk,O7,O8,Dy,kI,sQ,hcr⟩:=hrel;replace hcr:=hid hcr;clear kg
     by_cases dO:t<Nt
     ·have sT:t<Sk.aW.length:=by rw[fk.len,Dt.out];exact dO
      have acy:w4.heap.size<=w5.heap.size:=c5.size;have tuk:∀b,ay (.slice ub um ud) b->pF b=1000:=λb hb=>(kk.tg b (by have:=(zI.out.lt hb).2;omega)).trans (ab_.out b hb);have Jt:ps.length=nn:=by obtain⟨_,_,e,_⟩:=Dy;injection e with _ e2 _;exact e2.symm
      obtain⟨g,gc,ZF,hgo⟩:=ji hk.QW (by decide) sT;have x0:=(hgo 0 (by decide)).1;rw[show t*1+0=t by omega] at x0;have e1:(Sk.aW.map λx=>pV x.xp).getD t .nilFunc=pV (Sk.tx t).xp:=by simp[aE.tx,aS,sT]
      rw[e1] at x0;rw[O7,ry.out] at ZF;injection ZF with g1 g2 g3
      subst g1;have gg:=hk.ok.x t sT;have w_:=hk.ok.tt;have PC:S1.tx t=Sk.tx t:=(O8 t (aD _)).symm;have Vn:=S1.GD (show t<S1.aW.length by rw[Dt.out];exact dO);rw[PC] at Vn;have x_:=hk.tok sT
      have LA:(Sk.tx t).took.length<=100000:=by
       unfold aE.tM at w_
       have:(Sk.tx t).took.length<=(Sk.aW.map λx=>x.took.length).sum:=by
        have e:Sk.tx t=Sk.aW[t]:=by simp[aE.tx,aS,sT]
        rw[e];exact zO (List.mem_map.2 ⟨_,List.getElem_mem sT,rfl⟩)
       omega
      obtain⟨nr,Sb⟩:=ao ((Sk.tx t).L.roots.length);obtain⟨Nk,Jm⟩:=ao ((Sk.tx t).took.length);rw[Sb,Jm] at Vn;obtain⟨xp,VJ⟩:=ao ((Sk.tx t).xp);obtain⟨lp,oC⟩:=ao ((Sk.tx t).lp);have x4:wr.cell? ⟨xp,4,none⟩=some (pV lp):=by rw[<-VJ,<-oC];exact(hk.lW sT 4 _ rfl).1
      rw[VJ] at x0;obtain⟨M,H1,H2,H3⟩:=hk;have or:=CX H1 (H2.x t sT).l (λu hu=>(gg.l.u u hu).1) ⟨by have:=gg.f.1;omega,by have:=gg.f.2.1;omega,by have:=gg.f.2.2.1;omega,by have:=gg.f.2.2.2;omega⟩;rw[oC] at or;have hk:St0 wr pF s q Sk:=⟨M,H1,H2,H3⟩;have tE:=nO gg.f;rw[Sb] at tE;have acZ:nr+Nk<=nn:=by omega
      obtain⟨a1,c1,Gf,Cb⟩:=Dy.take (hi:=nr) (by omega);obtain⟨a2,c2,Gg,rW⟩:=Dy.drop (lo:=nr) (by omega);obtain⟨ka,kc,La⟩:=aF x_;rw[Jm] at La;have abP:Hid (nn=nr+Nk+S1.rl (t+1)):=by show nn=_;omega
      have hC':=hid hC;clear hC H1 H2 H3 hgo g2 g3 e1 Vn w_;replace Sb:=hid Sb;replace Jm:=hid Jm;replace VJ:=hid VJ;replace oC:=hid oC;replace Jt:=hid Jt;replace kI:=hid kI;replace PC:=hid PC;replace La:=hid La;replace O7:=hid O7;replace O8:=hid O8;go_wp2_with fail
      refine or.mono ?_;rintro en w7 ⟨v7,rfl,lZ,c7⟩;clear or x0;obtain⟨ra,rc,Sq⟩:=lZ.iy (n:=nr) (by rw[eX];exact Sb.out);subst v7;clear lZ;have kd:Calm w7 w7.drew:=ah.drew;have Tu:=c7.trans kd;have x4d:=Tu.cellAt x4 id;have N9:=hk.calm Tu;have Mf:=Ct N9 sT (Cb.calm Tu).row (by rw[List.length_take];have h1:=Jt.out;have h2:=Sb.out;omega) (λp hp=>sQ p (List.mem_of_mem_take hp)) (λb hb=>by have h1:=tuk b ((Cb.calm Tu).tag b hb);omega) (λ_=>trivial);rw[oC.out] at Mf;go_wp2_with fail
      refine bW [(true,0),(true,1),(true,2),(true,3),(true,4),(true,5),(true,6),(false,7)] (λw'=>w'.cell? ⟨xp,4,none⟩=some (pV lp)) (by kernel_rfl) (by kernel_rfl) x4d ?_;refine au (pV xp) rfl rfl (λw' hw'=>?_) ak ?_
      ·simp[go_sem]
      refine au (pV xp) rfl rfl (λw' hw'=>?_) ak ?_
      ·simp[go_sem]
      refine au (.pointer (some ⟨xp,4,none⟩)) rfl rfl (λw' hw'=>?_) ak ?_
      ·simp[go_sem]
      refine au (pV lp) rfl rfl (λw' hw'=>?_) ak ?_
      ·simp[go_sem,hw']
      refine au (.slice a nn c) rfl rfl (λw' hw'=>?_) ak ?_
      ·simp[go_sem]
      refine au (vI (nr:Int)) rfl rfl (λw' hw'=>?_) ak ?_
      ·simp[go_sem]
      refine au (.slice a1 nr c1) rfl rfl (λw' hw'=>?_) ak ?_
      ·simp[go_sem,Gf]
      refine bj rfl rfl ?_;go_wp2_with fail
      refine Mf.mono ?_;rintro en w8 ⟨⟨bb,rfl⟩,yR,L',R1,K8,ZS,Zs⟩;replace Zs:=hid Zs;clear Mf;have Io:=R1.ok.x t (by simpa[aE.aU] using sT);obtain⟨X8,Ky⟩:=ao (({ Sk.tx t with L:=L' } : gl):gl);rw[Ky] at R1;have e8:(Sk.aU t X8).tx t=X8:=aE.dS sT X8;rw[Ky,e8] at Io;have YI:X8.xp=xp:=by rw[<-Ky];exact VJ.out
      have TP:X8.tv=.slice ka Nk kc:=by rw[<-Ky];exact La.out
      have ek8:X8.took=(Sk.tx t).took:=by rw[<-Ky]
      have P8:t<(Sk.aU t X8).aW.length:=by simpa[aE.aU] using sT
      have PG:=R1.lW P8;rw[e8,YI] at PG;have x48:w8.cell? ⟨xp,4,none⟩=some (pV lp):=by have:=(PG 4 _ rfl).1;rw[show X8.lp=lp from by rw[<-Ky];exact oC.out] at this;exact this
      have x58:w8.cell? ⟨xp,5,none⟩=some (.slice ka Nk kc):=by have:=(PG 5 _ rfl).1;rw[TP] at this;exact this
      refine⟨x48,?_⟩;refine eW ?_;have Xq:Calm w8 w8.drew:=ah.drew;have x5d:=Xq.cellAt x58 id;have aco:∀b,ay (.slice ub um ud) b->¬pF b<500:=λb hb e=>by have h1:=tuk b hb;omega
      have Ls:=((rW.calm Tu).fr K8.fr aco).calm Xq;have LB:=(R1.calm Xq).tok P8;rw[e8,TP,ek8] at LB
      have IB:=CS LB Ls (by rw[Jm.out,List.length_drop];have h1:=Jt.out;omega) (λb hb e=>by
       have h1:=tuk b hb;obtain⟨M,H1,H2,_⟩:=R1;have h2:=H1.tag (10+8*t+6) b (by rw[(H2.x t P8).k,e8,TP];exact e);have h3:=K8.tg b (by have:=(zI.out.lt hb).2;have:=kk.size;have:=Tu.size;omega)
       omega) LA (λp hp=>sQ p (List.mem_of_mem_drop hp))
      have abw:=K8.fr;clear x4 x4d x48 PG;go_wp2_with fail
      refine bW [(true,0),(true,1),(true,2),(true,3),(true,4),(true,5),(true,6),(false,7),(false,8)] (λw'=>w'.cell? ⟨xp,5,none⟩=some (.slice ka Nk kc)) (by kernel_rfl) (by kernel_rfl) x5d ?_;refine au (pV xp) rfl rfl (λw' hw'=>?_) ak ?_
      ·simp[go_sem]
      refine au (pV xp) rfl rfl (λw' hw'=>?_) ak ?_
      ·simp[go_sem]
      refine au (.pointer (some ⟨xp,5,none⟩)) rfl rfl (λw' hw'=>?_) ak ?_
      ·simp[go_sem]
      refine au (.slice ka Nk kc) rfl rfl (λw' hw'=>?_) ak ?_
      ·simp[go_sem,hw']
      refine au (.slice a nn c) rfl rfl (λw' hw'=>?_) ak ?_
      ·simp[go_sem]
      refine au (vI (nr:Int)) rfl rfl (λw' hw'=>?_) ak ?_
      ·simp[go_sem]
      refine au (.slice a2 (nn-nr) c2) rfl rfl (λw' hw'=>?_) ak ?_
      ·simp[go_sem,Gg]
      refine bj rfl rfl ?_;go_wp2_with fail
      refine IB.mono ?_;rintro en w9 ⟨pa,pc,rfl,hP9,Sf,f9⟩;clear IB;obtain⟨M8,H18,H28,H38⟩:=R1.calm Xq;have hsx:¬ay (.slice ka Nk kc) xp:=λe=>H18.apart (t:=10+8*t+6) (u:=10+8*t) (k:=xp) (by omega) (by rw[(H28.x t P8).k,e8,TP];exact e) (by rw[(H28.x t P8).c,e8];exact YI.symm)
      have VK:af w9 xp (gl.cs t X8):=by
       have:=((R1.calm Xq).lW P8);rw[e8,YI] at this;exact this.fr f9 hsx
      have x59:w9.cell? ⟨xp,5,none⟩=some (.slice ka Nk kc):=by have:=(VK 5 _ rfl).1;rw[TP] at this;exact this
      have BW:(n_ (Sk.tx t).took (ps.drop nr) (Sk.tx t).took.length).length=(Sk.tx t).took.length:=qx _ _ _
      obtain⟨GP,hk9,K9⟩:=gR.QN (x':={ X8 with took:=n_ (Sk.tx t).took (ps.drop nr) (Sk.tx t).took.length }) H18 H28 H38 P8 (by rw[e8,YI,TP];exact f9.mono (λb _ e=>.inr e)) (by rw[e8,YI];exact VK) (by
       show w9.ownsRow 0 _ 2 X8.tv (n_ (Sk.tx t).took (ps.drop nr) (Sk.tx t).took.length).length _
       rw[TP,BW];exact Sf) (λb hb=>.inl (by rw[e8];exact hb)) (by rw[e8]) (by rw[e8]) (by rw[e8]) ⟨Io.l,Io.f,Io.m,Io.i,λx hx=>by
       obtain⟨j,hj,rfl⟩:=List.mem_iff_getElem.1 hx;have pK:j<(Sk.tx t).took.length:=by rw[<-BW];exact hj
       have h9:=tJ (Sk.tx t).took (ps.drop nr) (Sk.tx t).took.length j pK;rw[if_pos pK,aS,lQ hj] at h9;have h9:(n_ (Sk.tx t).took (ps.drop nr) (Sk.tx t).took.length)[j]=_:=h9;rw[h9];refine⟨?_,(gg.k _ (get_mem dI pK)).2⟩;show(ps.drop nr).getD j 0<=131072;refine sQ _ (List.mem_of_mem_drop (get_mem 0 ?_));rw[List.length_drop];have h1:=Jt.out;have h2:=Jm.out
       omega⟩ (by
       have h1:=aE.kN (S:=Sk.aU t X8) (x':={ X8 with took:=n_ (Sk.tx t).took (ps.drop nr) (Sk.tx t).took.length }) P8;rw[e8,ek8] at h1;have h2:({ X8 with took:=n_ (Sk.tx t).took (ps.drop nr) (Sk.tx t).took.length } : gl).took.length=(Sk.tx t).took.length:=BW;have:=H38.tt
       omega) trivial
      have Zt:(ps.drop nr).length=nn-nr:=by rw[List.length_drop];have h1:=Jt.out;omega
      have bM:CoI w5 gj s q S.D.A S1 (.slice ub um ud) (t+1) (.slice pa ((ps.drop nr).length-(Sk.tx t).took.length) pc) w9:=by
       refine⟨GP,_,_,_,_,_,rfl,hk9,((kk.trans (aC.calm pF Tu)).trans K8).trans ((aC.calm yR Xq).trans K9),(fk.trans (Fix.aU sT (by rw[<-Ky]) (by rw[<-Ky]))).trans (Fix.aU P8 (by rw[e8]) (by rw[e8])),O7.out,λj hj=>?_,hP9,?_,λp hp=>sQ p (List.mem_of_mem_drop (List.mem_of_mem_drop hp)),?_⟩
       ·rw[aE.eJ (show j≠t by omega),aE.eJ (show j≠t by omega)];exact O8.out j (by omega)
       ·rw[List.length_drop,Zt,Jm.out];have h1:=abP.out;omega
       ·rw[IQ,<-Sb.out];exact hcr.out.step (by rw[Dt.out];exact dO) sT PC.out.symm (by rw[Sb.out] at *;exact Zs.out) ZS.lh (by rw[<-Ky]) (by rw[<-Ky]) (by rw[<-Ky])
      have hfe:(ps.drop nr).length-(Sk.tx t).took.length=nn-nr-Nk:=by rw[Zt,Jm.out]
      rw[hfe] at bM ⊢;replace bM:=hid bM;refine⟨x59,?_⟩;refine bj rfl rfl ?_;unfold Oper.wp;go_simp
      first|refine⟨x59,?_⟩|skip
      refine eW ?_;clear hP9 Sf f9 hk9 K9 H18 H28 H38 VK BW R1 N9 hk kk fk LB Ls Cb rW Dy gg Io K8 abw;go_wp2_with fail
      exact⟨⟨t+1,by omega,by simp,bM.out⟩,by simp[intOf] <;> omega⟩
     ·obtain rfl:t=Nt:=by omega
      have bM:=hid (hC.out _ _ _ _ hk kk fk (by rw[Dt.out];exact hcr.out));clear hC hk kk fk O8 Dy;go_wp2
      go_ret2
      exact bM.out
 ·have Yx:decide (S.D.ph≠0)=true:=by simp[Js]
  rw[Yx] at Xv;replace Js:=hid Js;clear h hr Yx BG;go_in;go_wp2_with fail
  refine Xv.mono ?_;rintro en w1 ⟨rfl,e1⟩;subst w1;clear Xv;go_wp2
  go_ret2
  exact rm.out _ ah
end
theorem MR{l:aj}(h:l.length=6):lj (nI l)=[rg l 0,rg l 1,rg l 2,rg l 3,rg l 4,rg l 5]:=by
 match l,h with
 | [a,b,c,d,e,f],_=>rfl
theorem yi:∃i,prog.info? 3=some i/\i.zero=some (vI 0)/\i.size=1/\i.bytes=8:=by
 have h:(prog.info? 3).map (λi=>(i.zero,i.size,i.bytes))=some (some (vI 0),1,8):=by kernel_rfl
 cases hi:prog.info? 3 with
 | none=>rw[hi] at h;cases h
 | some i=>
   rw[hi] at h;injection h with h
   injection h with h1 h2
   injection h2 with h2 h3
   exact⟨i,rfl,h1,h2,h3⟩
theorem aaQ(x:bP):∀ (j:Nat) (u:aA),([rg x.R 0,rg x.R 1,rg x.R 2,rg x.R 3,rg x.R 4,rg x.R 5]:List aA)[j]?=some u->(aX x)[2+j]?=some u
 | 0,_,h=>h
 | 1,_,h=>h
 | 2,_,h=>h
 | 3,_,h=>h
 | 4,_,h=>h
 | 5,_,h=>h
 | j+6,_,h=>by simp at h
theorem aaR(x:bP):∀ (j:Nat) (u:aA),([rg x.V 0,rg x.V 1,rg x.V 2,rg x.V 3,rg x.V 4,rg x.V 5]:List aA)[j]?=some u->(aX x)[8+j]?=some u
 | 0,_,h=>h
 | 1,_,h=>h
 | 2,_,h=>h
 | 3,_,h=>h
 | 4,_,h=>h
 | 5,_,h=>h
 | j+6,_,h=>by simp at h
theorem MF(l:aj):∀u∈([rg l 0,rg l 1,rg l 2,rg l 3,rg l 4,rg l 5]:List aA),u.oneCell'=true:=by simp[rg,Value.oneCell']
def Ye(w:ag)(x:bP)(e:Ending)(w':ag):Prop:=∃v,e=.returned v/\aI w' w.heap.size v (nI (x.R++x.V))/\Calm w w'
theorem yM(w:ag){x:bP}(hR:x.R.length=6)(hV:x.V.length=6):aJ prog 95 #[bQ x] w (Ye w x):=by
 replace hR:=hid hR;replace hV:=hid hV;obtain⟨i0,hi,iR,iT,jm⟩:=yi;obtain⟨W,eT⟩:=ao (w.alloc (.cells #[vI x.b,vI x.p,rg x.R 0,rg x.R 1,rg x.R 2,rg x.R 3,rg x.R 4,rg x.R 5,rg x.V 0,rg x.V 1,rg x.V 2,rg x.V 3,rg x.V 4,rg x.V 5,.bool x.live] 31));have k1:Calm w W:=by rw[<-eT];exact ah.alloc _
 have iG:W.heap.size=w.heap.size+1:=by rw[<-eT];simp
 have o:af W w.heap.size (aX x):=by rw[<-eT];exact af.kC w [_,_,_,_,_,_,_,_,_,_,_,_,_,_,_] _ _ rfl
 simp only[rg,aS] at eT;simp only[bQ,rg];have o':=hid o;go_in;have acf:=MF x.R;have acg:=MF x.V
 go_wp2_with (first
  | (
   at_make
   go_must (refine wpList_make_own _ rfl _ _ 43 rfl W.heap.size 3 i0 (vI 0) 1 Tryz.underlying43 hi iR iT .i64 .i64 12 12 rfl rfl rfl (by rw[jm];omega) (by unfold maxLen;omega) (aD _) ?_)
   intro w3 Sd eK;have c3:Calm W w3:=Fr.grown ah eK (λk hk=>by cases hk)
   have bS:w3.ownsRow 0 3 1 (.slice (some ⟨w.heap.size+1,0,none⟩) 0 12) 0 []:=by
    have h9:aI w3 W.heap.size (.slice (some ⟨W.heap.size,0,none⟩) 0 12) []:=Sd;have h9:=h9.mono (bY _);rw[iG] at h9;exact h9
   clear Sd eK;have o3:=hid (o'.out.calm c3);replace bS:=hid bS;have c3':=hid c3;have xU:w.heap.size<=w3.heap.size:=gw k1.size c3.size;replace xU:=hid xU;clear c3
   have Nr:True:=trivial)
  | (
   at_builtin
   have _t:=Nr
   go_must (refine fh giN rfl _ _ rfl (.slice (some ⟨w.heap.size+1,0,none⟩) 0 12) 0 [] bS.out rfl ⟨w.heap.size,2,none⟩ 6 6 [rg x.R 0,rg x.R 1,rg x.R 2,rg x.R 3,rg x.R 4,rg x.R 5] rfl rfl acf (λj u hj=>by rw[ei];exact(o3.out _ _ (aaQ x j u hj)).1) (by omega) ?_)
   intro v4 w4 nX f4 hn4;have o4:=hid (o3.out.fr f4 (λe=>by have:=ay.fJ e;omega));have K4:Hid (Calm w w4):=(k1.trans c3'.out).join f4 (λj hj e=>by have:=ay.fJ e;omega)
   have KH:Hid (∀b,ay v4 b->w.heap.size+1<=b):=λb hb=>by
    rcases hn4 b hb with e|e
    ·rw[ay.fJ e];exact aD _
    ·have:=c3'.out.size;omega
   obtain⟨va,vc,rfl⟩:=aF nX;replace nX:=hid nX;clear f4 hn4 bS o3 c3' Nr
   have Ns:True:=trivial)
  | (
   at_builtin
   have _t:=Ns
   go_must (refine fh giN rfl _ _ rfl (.slice va (0+6) vc) (0+6) ([]++[rg x.R 0,rg x.R 1,rg x.R 2,rg x.R 3,rg x.R 4,rg x.R 5]) nX.out rfl ⟨w.heap.size,8,none⟩ 6 6 [rg x.V 0,rg x.V 1,rg x.V 2,rg x.V 3,rg x.V 4,rg x.V 5] rfl rfl acg (λj u hj=>by rw[ei];exact(o4.out _ _ (aaR x j u hj)).1) (by omega) ?_)
   intro v5 w5 Ca f5 Xc
   go_must (
    have K5:Calm w w5:=K4.out.join f5 (λj hj e=>by have:=KH.out j e;omega)
    have bM:Ye w x (.returned v5) w5:=by
     refine⟨v5,rfl,aI.base (base:=0) ?_ (λb hb=>?_),K5⟩
     ·have e1:(nI (x.R++x.V)).length=12:=by rw[eX,b_,hR.out,hV.out]
      have e2:lj (nI (x.R++x.V))=[]++[rg x.R 0,rg x.R 1,rg x.R 2,rg x.R 3,rg x.R 4,rg x.R 5]++[rg x.V 0,rg x.V 1,rg x.V 2,rg x.V 3,rg x.V 4,rg x.V 5]:=by
       rw[u_];have e3:lj (nI x.R++nI x.V)=lj (nI x.R)++lj (nI x.V):=by simp
       rw[e3,MR hR.out,MR hV.out];rfl
      show World.ownsRow w5 0 3 1 v5 (nI (x.R++x.V)).length (lj (nI (x.R++x.V)));rw[e1,e2];exact Ca
     ·rcases Xc b hb with e|e
      ·have:=KH.out b e;omega
      ·have:=K4.out.size;omega
    obtain⟨wa,wc,rfl⟩:=aF Ca)
   replace bM:=hid bM
   clear Ca f5 Xc K5 Ns o4 K4 KH nX))
 go_ret;exact bM.out
theorem IW{ps:aj}(k:Nat)(h:k+6<=ps.length){w:ag}{b off:Nat}(hc:∀j,j<ps.length->w.cell? ⟨b,off+j,none⟩=some (vI (ps.getD j 0:Nat))) :
 ∀j u,([rg ps k,rg ps (k+1),rg ps (k+2),rg ps (k+3),rg ps (k+4),rg ps (k+5)]:List aA)[j]?=some u->w.cell? ((⟨b,off+k,none⟩:Addr).add j)=some u
 | 0,u,hj=>by injection hj with hj;rw[ei,<-hj];exact hc k (by omega)
 | 1,u,hj=>by injection hj with hj;rw[ei,<-hj];exact hc (k+1) (by omega)
 | 2,u,hj=>by injection hj with hj;rw[ei,<-hj];exact hc (k+2) (by omega)
 | 3,u,hj=>by injection hj with hj;rw[ei,<-hj];exact hc (k+3) (by omega)
 | 4,u,hj=>by injection hj with hj;rw[ei,<-hj];exact hc (k+4) (by omega)
 | 5,u,hj=>by injection hj with hj;rw[ei,<-hj];exact hc (k+5) (by omega)
 | j+6,u,hj=>by simp at hj
theorem yC{w:ag}{B o:Nat}{vs:List aA}(hB:af w B vs)(ho:o+6<=vs.length){ps:aj}(k:Nat)(h:k+6<=ps.length){b off c d1:Nat}(hc:∀j,j<ps.length->w.cell? ⟨b,off+j,none⟩=some (vI (ps.getD j 0:Nat)))(ty:TypeId) :
 (Builtin.copy_ #[43,43] ty #[.slice (some ⟨B,o,none⟩) 6 d1,.slice (some ⟨b,off+k,none⟩) 6 c]).run prog w=.ok (goInt 6) (w.setCells B o [rg ps k,rg ps (k+1),rg ps (k+2),rg ps (k+3),rg ps (k+4),rg ps (k+5)]):=by
 obtain⟨i0,hi,iR,iT,jm⟩:=yi;refine run_copy_cells w 43 43 ty 3 B o 6 d1 ⟨b,off+k,none⟩ 6 c [rg ps k,rg ps (k+1),rg ps (k+2),rg ps (k+3),rg ps (k+4),rg ps (k+5)] Tryz.underlying43 (by rw[hi];simp[iT]) rfl (IW k h hc) (λj hj=>?_) (λj hj=>?_) (by simp[rg,Value.oneCell'])
 ·have BT:j<6:=hj;obtain⟨v,hv⟩:∃v,vs[o+j]?=some v:=⟨vs[o+j]'(by omega),lQ _⟩;rw[(hB _ v hv).1];rfl
 ·have BT:j<6:=hj;obtain⟨v,hv⟩:∃v,vs[o+j]?=some v:=⟨vs[o+j]'(by omega),lQ _⟩;exact(hB _ v hv).2
theorem ME{fn:Func}{i j:Nat}{W:ag}{B5:Nat}{x:bP}{v:aA}{tmps:Array aA}(hf:fn.results = #[.cell i 31,.tmp j])(h5:tmps[i]?.getD undef = bw B5)(h6:tmps[j]?.getD undef=v)
 (t:af W B5 (aX x)):(results fn tmps).run prog W=.ok (.tuple #[bQ x,v]) W:=by
 simp only[aX,rg] at t;obtain⟨y0,y1,y2,y3,y4,y5,y6,y7,y8,y9,j_,kY,iL,jv,iM⟩:=af.lB t;simp[results,hf,h5,h6,go_sem,bQ,rg,y0,y1,y2,y3,y4,y5,y6,y7,y8,y9,j_,kY,iL,jv,iM]
theorem Di{w:ag}{x:bP}{a:Option Addr}{c:Nat}{ps:aj}{T:Nat->Prop}(hs:iU T w (.slice a 12 c) ps)(hT:∀b,T b->b<w.heap.size) :
 aJ prog 96 #[bQ x,.slice a 12 c] w λe w'=>e=.returned (.tuple #[bQ { x with R:=ps.take 6,V:=ps.drop 6 },.bool true])/\Calm w w':=by
 obtain⟨a1,c1,Gf,Cb⟩:=hs.take (hi:=6) (by omega);obtain⟨a2,c2,Gg,rW⟩:=hs.drop (lo:=6) (by omega);have Vq:∀W,(Instr.slice 43 (.slice a 12 c) none (some (vI 6)) none).run prog W=.ok (.slice a1 6 c1) W:=Gf;have Vr:∀W,(Instr.slice 43 (.slice a 12 c) (some (vI 6)) none none).run prog W=.ok (.slice a2 6 c2) W:=Gg;have hl:ps.length=12:=by obtain⟨_,_,e,_⟩:=hs;injection e with _ e2 _;exact e2.symm
 obtain⟨_,_,e1,_,gA⟩:=Cb;obtain⟨_,_,e2,_,rV⟩:=rW;injection e1 with q1 q2 q3
 injection e2 with q4 q5 q6
 have qI:(ps.take 6).length=6:=q2.symm;have kT:(ps.drop 6).length=6:=q5.symm;obtain⟨b1,o1,f1,t1,dN⟩:=gA.resolve_left (λe=>by rw[e.2] at qI;simp at qI);obtain⟨b2,o2,f2,t2,dJ⟩:=rV.resolve_left (λe=>by rw[e.2] at kT;simp at kT);rw[<-q1] at f1;rw[<-q4] at f2;subst f1 f2;clear q1 q2 q3 q4 q5 q6 gA rV hs Gf Gg;obtain⟨R,hR⟩:=ao (ps.take 6);obtain⟨V,hV⟩:=ao (ps.drop 6);rw[hR] at qI dN ⊢;rw[hV] at kT dJ ⊢;clear hR hV hl;have U7:=hT b1 t1;have dO:=hT b2 t2;obtain⟨W,eT⟩:=ao ((w.alloc (.cells #[vI x.b,vI x.p,rg x.R 0,rg x.R 1,rg x.R 2,rg x.R 3,rg x.R 4,rg x.R 5,rg x.V 0,rg x.V 1,rg x.V 2,rg x.V 3,rg x.V 4,rg x.V 5,.bool x.live] 31)).alloc (.cells #[vI 0,vI 0,vI 0,vI 0,vI 0,vI 0,vI 0,vI 0,vI 0,vI 0,vI 0,vI 0,vI 0,vI 0,.bool false] 31));have k0:Calm w W:=by rw[<-eT];exact(ah.alloc _).alloc _
 have o7:af W w.heap.size (aX x):=by rw[<-eT];exact(af.kC w [_,_,_,_,_,_,_,_,_,_,_,_,_,_,_] _ _ (by simp)).alloc _
 have o8:af W (w.heap.size+1) [vI 0,vI 0,vI 0,vI 0,vI 0,vI 0,vI 0,vI 0,vI 0,vI 0,vI 0,vI 0,vI 0,vI 0,.bool false]:=by rw[<-eT];exact af.kC (w.alloc (.cells #[vI x.b,vI x.p,rg x.R 0,rg x.R 1,rg x.R 2,rg x.R 3,rg x.R 4,rg x.R 5,rg x.V 0,rg x.V 1,rg x.V 2,rg x.V 3,rg x.V 4,rg x.V 5,.bool x.live] 31)) [_,_,_,_,_,_,_,_,_,_,_,_,_,_,_] _ _ (by simp)
 have kd:Calm W W.drew:=ah.drew;have Yt:=λty=>yC (w:=W.drew) (d1:=6) (o7.calm kd) (o:=2) (by show 2+6<=15;decide) 0 (by omega) (b:=b1) (off:=o1) (c:=c1) (λj hj=>(k0.trans kd).cellAt (dN j hj) id) ty;have CE:=(o7.calm kd).Ab 2 [rg R 0,rg R 1,rg R 2,rg R 3,rg R 4,rg R 5] (by show 2+6<=15;decide);have F3:Fr (λk=>k=w.heap.size) W.drew (W.drew.setCells w.heap.size 2 [rg R 0,rg R 1,rg R 2,rg R 3,rg R 4,rg R 5]):=Fr.setCells (S:=λk=>k=w.heap.size) rfl _ _ ah;simp only[ia,fM] at Yt;obtain⟨W3,xS⟩:=ao (W.drew.setCells w.heap.size 2 [rg R 0,rg R 1,rg R 2,rg R 3,rg R 4,rg R 5]);rw[xS] at Yt CE F3;have o83:=(o8.calm kd).fr F3 (by omega);have Xp:Calm W3 W3.drew:=ah.drew;have Yu:=λty=>yC (w:=W3.drew) (d1:=6) (CE.calm Xp) (o:=8) (by show 8+6<=15;decide) 0 (by omega) (b:=b2) (off:=o2) (c:=c2) (λj hj=>Xp.cellAt (F3.cellAt ((k0.trans kd).cellAt (dJ j hj) id) (by show ¬b2=_;omega)) id) ty;have o74:=(CE.calm Xp).Ab 8 [rg V 0,rg V 1,rg V 2,rg V 3,rg V 4,rg V 5] (by show 8+6<=15;decide);have F4:Fr (λk=>k=w.heap.size) W3.drew (W3.drew.setCells w.heap.size 8 [rg V 0,rg V 1,rg V 2,rg V 3,rg V 4,rg V 5]):=Fr.setCells (S:=λk=>k=w.heap.size) rfl _ _ ah;simp only[ia,fM] at Yu;obtain⟨W4,oy⟩:=ao (W3.drew.setCells w.heap.size 8 [rg V 0,rg V 1,rg V 2,rg V 3,rg V 4,rg V 5]);rw[oy] at Yu o74 F4;have o84:=(o83.calm Xp).fr F4 (by omega);obtain⟨x2,dy⟩:=ao (({ x with R:=R,V:=V } : bP):bP);have o75:af W4 w.heap.size (aX x2):=by rw[<-dy];exact o74
 have ac_:=hid dy;rw[dy];simp only[rg,aS] at eT;simp only[bQ,rg];have T1:=o84.whole (us:=(aX x2)) rfl;have F5:=sK W4 (w.heap.size+1) 0 (aX x2);have KK:Hid (Calm w (W4.setCells (w.heap.size+1) 0 (aX x2))):=((((k0.trans kd).join F3 (λj hj e=>by omega)).trans Xp).join F4 (λj hj e=>by omega)).join F5 (λj hj e=>by omega);replace T1:=hid T1;replace Yt:=hid Yt;replace Yu:=hid Yu;replace qI:=hid qI;replace kT:=hid kT;clear o7 o8 CE o74 F3 F4 F5 o83 dy dN dJ U7 dO k0 kd Xp;go_in;go_wp2_with fail
 clear eT;refine bW [(true,0),(true,1),(true,2),(true,3),(false,4)] (λ_=>True) (by kernel_rfl) (by kernel_rfl) trivial ?_;refine au (.pointer (some ⟨w.heap.size,2,none⟩)) rfl rfl (λw' hw'=>?_) ak ?_
 ·simp[go_sem]
 refine au (.slice (some ⟨w.heap.size,2,none⟩) 6 6) rfl rfl (λw' hw'=>?_) ak ?_
 ·simp[go_sem]
 refine au (.slice a 12 c) rfl rfl (λw' hw'=>?_) ak ?_
 ·simp[go_sem]
 refine au (.slice (some ⟨b1,o1,none⟩) 6 c1) rfl rfl (λw' hw'=>?_) ak ?_
 ·simp[go_sem,Vq]
 refine bj rfl rfl ?_;refine Lib.wp_copy_run _ (.tmp 11) (.tmp 13) 43 43 (by rfl) (.slice (some ⟨w.heap.size,2,none⟩) 6 6) (.slice (some ⟨b1,o1,none⟩) 6 c1) (by rfl) (by rfl) (Yt.out _) ?_;refine⟨trivial,eW ?_⟩;go_simp;go_wp2_with fail
 refine bW [(true,0),(true,1),(true,2),(true,3),(false,4)] (λ_=>True) (by kernel_rfl) (by kernel_rfl) trivial ?_;refine au (.pointer (some ⟨w.heap.size,8,none⟩)) rfl rfl (λw' hw'=>?_) ak ?_
 ·simp[go_sem]
 refine au (.slice (some ⟨w.heap.size,8,none⟩) 6 6) rfl rfl (λw' hw'=>?_) ak ?_
 ·simp[go_sem]
 refine au (.slice a 12 c) rfl rfl (λw' hw'=>?_) ak ?_
 ·simp[go_sem]
 refine au (.slice (some ⟨b2,o2,none⟩) 6 c2) rfl rfl (λw' hw'=>?_) ak ?_
 ·simp[go_sem,Vr]
 refine bj rfl rfl ?_;refine Lib.wp_copy_run _ (.tmp 16) (.tmp 18) 43 43 (by rfl) (.slice (some ⟨w.heap.size,8,none⟩) 6 6) (.slice (some ⟨b2,o2,none⟩) 6 c2) (by rfl) (by rfl) (Yu.out _) ?_;refine⟨trivial,eW ?_⟩;go_simp;simp only[aX,rg] at o75;obtain⟨d0,d1,d2,d3,d4,d5,d6,d7,d8,d9,d10,d11,d12,d13,d14⟩:=af.lB o75;obtain⟨y0,z0,y1,z1,y2,z2,y3,z3,y4,z4,y5,z5,y6,z6,y7,z7,y8,z8,y9,z9,j_,qB,kY,sI,iL,z12,jv,qM,iM,nT⟩:=af.kt o84;go_wp2;exact bodyPost_ret (v:=.tuple #[bQ x2,.bool true]) (ME (i:=4) (j:=5) rfl rfl rfl T1.out) rfl ⟨rfl,KK.out⟩
