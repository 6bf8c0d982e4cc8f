import Derived.ProofKit
import Derived.OpenShut
import Derived.ShutString
import Derived.Test.YtgijglafnlbdbaaGreatTmAC
set_option linter.all false
set_option maxRecDepth 8000
namespace Go.Proofs.YtgijglafnlbdbaaGreat
open RowKit Shelf Proofs.Tryz
open Go renaming World->aj,Value->aC,Calls->aL
def lG(t b n k e v:Int):List aC:=[vI t,vI b,vI n,vI k,vI e,vI v]
structure En where
 t:Int
 b:Int
 n:Int
 k:Int
 e:Int
 v:Int
def En.c(x:En):List aC:=lG x.t x.b x.n x.k x.e x.v
structure Eh where
 v:aC
 H:List En
instance:Coe Eh aC:=⟨Eh.v⟩
section
section
variable {P:Program}{ops:Array Oper}{Q:Exit->Act->aj->Prop}{md:Region.Mode}{S:aj->Prop}
def tU(md:Region.Mode)(ops:Array Oper)(n:Nat):Prop:=∀done,HeadInv md ops n done->∀i,i<n->done.getD i true=false->∀t,n<=t->t∉Region.ready md ops done
def wT(md:Region.Mode)(ops:Array Oper)(n:Nat):Bool:=
 decide (n<=ops.size) && ((List.range (n-1)).all λi=>(List.range n).any λj=>decide (i<j) && Region.waitsFor md ops j i) && ((List.range ops.size).all λt=>decide (t<n) || Region.waitsFor md ops t (n-1))
theorem uj{n:Nat}(h:wT md ops n=true):tU md ops n:=by
 simp only[wT,Bool.and_eq_true,decide_eq_true_eq] at h;obtain⟨⟨hn,hs⟩,hc⟩:=h;intro done inv
 suffices hh:∀ (d i:Nat),n-i=d->i<n->done.getD i true=false->∀t,n<=t->t∉Region.ready md ops done from λi hi nM=>hh _ i rfl hi nM
 intro d
 induction d using Nat.strongRecOn with
 | _ d ih=>
   intro i hd hi nM t ht hr;obtain⟨_,ot,Zd,CY⟩:=mem_ready.1 hr;have aa0:t<ops.size:=(Array.getElem?_eq_some_iff.1 Zd).1
   by_cases gH:i=n-1
   ·have h1:=List.all_eq_true.1 hc t (List.mem_range.2 aa0);simp only[Bool.or_eq_true,decide_eq_true_eq] at h1;rcases h1 with h1|h1
    ·omega
    ·obtain⟨o',ho',e,he,hb,hon⟩:=Region.waitsFor_spec h1;have:o'=ot:=Option.some.inj (ho'.symm.trans Zd);subst this;have h2:=CY e he hb;rw[hon,<-gH,getD_both nM] at h2;cases h2
   ·have h1:=List.all_eq_true.1 hs i (List.mem_range.2 (by omega));obtain⟨j,hj,iJ⟩:=List.any_eq_true.1 h1;simp only[Bool.and_eq_true,decide_eq_true_eq] at iJ;obtain⟨oj,Gt,e,he,hb,hon⟩:=Region.waitsFor_spec iJ.2;have qw:=List.mem_range.1 hj
    cases hl:done.getD j false with
    | true=>
      have h2:=inv.closed j oj Gt hl e he hb;rw[hon,getD_both nM] at h2;cases h2
    | false=>
      have NP:j<done.size:=by rw[inv.size];omega
      exact ih (n-j) (by omega) j rfl qw (getD_in NP hl) t ht hr
theorem oW:tU md ops ops.size:=by
 intro done inv i hi nM t ht hr;obtain⟨_,ot,Zd,_⟩:=mem_ready.1 hr;have:=(Array.getElem?_eq_some_iff.1 Zd).1;omega
theorem kV{n i:Nat}{oi:Oper}{v:aC}{L:Array Bool->Act->aj->Prop}(hi:ops[i]?=some oi)(eI:∀ (j:Nat) (o:Oper) cs b,ops[j]?=some o->o.op≠.select cs b)
 (tw:tU md ops n) (gH:i<n) (hQ:∀c a w,Q (.panic c) (a.put oi.dst v) w->Q (.panic c) a w)
 (mj:∀done a w,L done a w->∀j∈Region.ready md ops done,n<=j) :
 ∀ (f:Nat) (done:Array Bool) (a:Act) (w:aj),HeadInv md ops n done ->
   (∀j oj,ops[j]?=some oj->j≠i->done.getD j true=false->(∀e∈oj.after,Region.binds md e=true->e.on≠i)->oi.apart ops oj=true) ->
   i∈Region.ready md ops done->YieldsIf P ops S oi v a->S w ->
   dX P md ops Q S n L f (done.setIfInBounds i true) (a.put oi.dst v) w->dX P md ops Q S n L (f+1) done a w:=by
 intro f
 induction f with
 | zero=>
   intro done a w inv _ hr hy hS H;have nM:=(mem_ready.1 hr).1;refine⟨λh=>(by rw[h] at hr;cases hr),λj hj=>?_⟩
   have qw:j<n:=by
    rcases Nat.lt_or_ge j n with h|h
    ·exact h
    ·exact absurd hj (tw done inv i gH nM j h)
   refine⟨qw,?_⟩
   by_cases rN:j=i
   ·subst rN;exact hy.wpOp hi hS ⟨hS,H⟩
   ·have:=mj _ _ _ H j (ready_mono hj rN);omega
 | succ f ih=>
   intro done a w inv rM hr hy hS H;have nM:=(mem_ready.1 hr).1;refine⟨λh=>(by rw[h] at hr;cases hr),λj hj=>?_⟩
   have qw:j<n:=by
    rcases Nat.lt_or_ge j n with h|h
    ·exact h
    ·exact absurd hj (tw done inv i gH nM j h)
   refine⟨qw,?_⟩
   by_cases rN:j=i
   ·subst rN;exact hy.wpOp hi hS ⟨hS,H⟩
   ·have h1:=(H.2 j (ready_mono hj rN)).2;obtain⟨AZ,oj,Gt,CY⟩:=mem_ready.1 hj
    have Ba:∀e∈oj.after,Region.binds md e=true->e.on≠i:=λe he hb heq=>by
     have h1:=CY e he hb;rw[heq,getD_both nM] at h1;cases h1
    have h2:=wpOp_putIf Gt (rM j oj Gt rN AZ Ba) (λcs b=>eI i oi cs b hi) (λcs b=>eI j oj cs b Gt) hQ hy h1
    have ur:∀k ok,ops[k]?=some ok->k≠i->(done.setIfInBounds j true).getD k true=false ->
     (∀e∈ok.after,Region.binds md e=true->e.on≠i)->oi.apart ops ok=true:=λk ok hk Se nM qV=>by
     refine rM k ok hk Se ?_ qV
     by_cases HX:j=k
     ·subst HX;exact AZ
     ·rw[Go.getD_set_ne true HX] at nM;exact nM
    refine wpOp_mono (λa' w' h3=>⟨h3.2.1,ih (done.setIfInBounds j true) a' w' (inv.set hj qw) ur (ready_mono hr (Ne.symm rN)) h3.1 h3.2.1 ?_⟩) h2;rw[Array.setIfInBounds_comm _ _ rN];exact h3.2.2
def bj(P:Program)(ops:Array Oper)(Q:Exit->Act->aj->Prop)(S:aj->Prop)(R:Act->aj->Prop):List Nat->Act->aj->Prop
 | [],a,w=>R a w
 | j::js,a,w=>∃o,ops[j]?=some o/\Region.wanted o (yielded ops a.tmps)=true/\o.wp P a w (λa' w'=>S w'/\bj P ops Q S R js a' w') Q
def aU(P:Program)(ops:Array Oper)(Q:Exit->Act->aj->Prop)(S:aj->Prop)(R:Act->aj->Prop):List Nat->Act->aj->Prop
 | [],a,w=>R a w
 | i::ix,a,w=>∃o v,ops[i]?=some o/\YieldsIf P ops S o v a/\(∀c a w,Q (.panic c) (a.put o.dst v) w->Q (.panic c) a w)/\aU P ops Q S R ix (a.put o.dst v) w
def rZ(ix:List Nat)(done:Array Bool):Array Bool:=ix.foldl (λd i=>d.setIfInBounds i true) done
def BZ(md:Region.Mode)(ops:Array Oper)(n:Nat):List Nat->Array Bool->Bool
 | j::js,done=>decide (Region.ready md ops done=[j]) && decide (j<n) && BZ md ops n js (done.setIfInBounds j true)
 | [],done=>(Region.ready md ops done).all λj=>decide (n<=j)
def rV(md:Region.Mode)(ops:Array Oper)(n:Nat)(js:List Nat):List Nat->Array Bool->Bool
 | i::ix,done=>(Region.ready md ops done).contains i && Region.free md ops done i && decide (i<n) && rV md ops n js ix (done.setIfInBounds i true)
 | [],done=>BZ md ops n js done
def Left(md:Region.Mode)(ops:Array Oper)(n:Nat)(R:Act->aj->Prop)(d0 done:Array Bool)(a:Act)(w:aj):Prop:=done=d0/\((Region.ready md ops done).all λj=>decide (n<=j))=true/\R a w
theorem Left.done{n:Nat}{R:Act->aj->Prop}{d0 done:Array Bool}{a:Act}{w:aj}(h:Left md ops n R d0 done a w):∀j∈Region.ready md ops done,n<=j:=λj hj=>by
 have:=List.all_eq_true.1 h.2.1 j hj;simpa using this
theorem BO{R:Act->aj->Prop}{n:Nat} : ∀ (js:List Nat) (done:Array Bool) (a:Act) (w:aj),BZ md ops n js done=true ->
 bj P ops Q S R js a w->dX P md ops Q S n (Left md ops n R (rZ js done)) js.length done a w
 | [],done,a,w,hB,h=>⟨rfl,by simpa[BZ] using hB,h⟩
 | j::js,done,a,w,hB,h=>by
   simp only[BZ,Bool.and_eq_true,decide_eq_true_eq] at hB;obtain⟨⟨hr,hj⟩,yv⟩:=hB;obtain⟨o,ho,hw,h⟩:=h;refine⟨λh1=>(by rw[hr] at h1;cases h1),λi hi=>?_⟩;rw[hr] at hi;have Mi:i=j:=by simpa using hi
   subst Mi;refine⟨hj,?_⟩;unfold wpOp;simp only[ho,hw,if_true];exact .inl (Oper.wp_mono (λa' w' h'=>⟨h'.1,BO js _ a' w' yv h'.2⟩) h)
theorem qZ{R:Act->aj->Prop}{n:Nat}(eI:Region.noSelect ops=true)(tw:tU md ops n)(js:List Nat) :
 ∀ (ix:List Nat) (done:Array Bool) (a:Act) (w:aj),HeadInv md ops n done->rV md ops n js ix done=true->S w ->
 aU P ops Q S (λa w=>bj P ops Q S R js a w) ix a w->dX P md ops Q S n (Left md ops n R (rZ js (rZ ix done))) (ix.length+js.length) done a w
 | [],done,a,w,_,hB,_,h=>by
   have:=BO (P:=P) (Q:=Q) (S:=S) (R:=R) js done a w (by simpa[rV] using hB) h;simpa[rZ] using this
 | i::ix,done,a,w,inv,hB,hS,h=>by
   obtain⟨o,v,ho,hy,hQ,h⟩:=h;simp only[rV,Bool.and_eq_true,decide_eq_true_eq] at hB;obtain⟨⟨⟨hr,hf⟩,gH⟩,yv⟩:=hB;have ux:i∈Region.ready md ops done:=by simpa using hr
   rw[show(i::ix).length+js.length=(ix.length+js.length)+1 by simp;omega];refine kV ho (Region.noSelect_spec eI) tw gH hQ (λuf a' w' hL=>hL.done) _ done a w inv (Region.free_spec ho hf) ux hy hS ?_;exact qZ eI tw js ix _ _ w (inv.set ux gH) yv hS h
theorem Ch{a:Act}{w:aj}(ix js:List Nat)(n:Nat)(S:aj->Prop)(hB:(Region.noSelect ops && decide (ix.length+js.length=n) && wT md ops n && rV md ops n js ix (Array.replicate ops.size false))=true)(hS:S w)
 (h:aU P ops Q S (λa w=>bj P ops Q S (λa' w'=>wpAny P md ops Q (ops.size-n) (rZ js (rZ ix (Array.replicate ops.size false))) a' w') js a w) ix a w) :
 wpAny P md ops Q ops.size (Array.replicate ops.size false) a w:=by
 simp only[Bool.and_eq_true,decide_eq_true_eq] at hB;obtain⟨⟨⟨eI,hlen⟩,hg⟩,hp⟩:=hB;have hn:n<=ops.size:=by simp only[wT,Bool.and_eq_true,decide_eq_true_eq] at hg;exact hg.1.1
 have qW:HeadInv md ops n (Array.replicate ops.size false):=
  ⟨by simp,λj oj _ hl=>(by rw[getD_replicate_false] at hl;cases hl),λt _ ht=>getD_in (by simpa using ht) (getD_replicate_false _ _)⟩
 have H:=qZ (P:=P) (Q:=Q) (S:=S) eI (uj hg) js ix _ a w qW hp hS h;rw[hlen] at H;have:=cU (Q:=Q) (g:=ops.size-n) (λdone a' w' hL=>by obtain⟨e,_,h⟩:=hL;rw[e];exact h) _ _ _ _ H
 rwa [show n+(ops.size-n)=ops.size by omega] at this
def yh(md:Region.Mode)(ops:Array Oper)(done:Array Bool):Bool:=
 decide (done.size=ops.size) && (List.range ops.size).all λj=>!done.getD j false || (match ops[j]? with|some o=>o.after.all λe=>!Region.binds md e || done.getD e.on false|none=>true)
theorem cQ{a:Act}{w:aj}{d0:Array Bool}{f:Nat}(ix js:List Nat)(S:aj->Prop)(hB:(Region.noSelect ops && decide (ix.length+js.length=f) && yh md ops d0 && rV md ops ops.size js ix d0)=true)(hS:S w)
 (h:aU P ops Q S (λa w=>bj P ops Q S (λa' w'=>Q .normal a' w') js a w) ix a w):wpAny P md ops Q f d0 a w:=by
 simp only[Bool.and_eq_true,decide_eq_true_eq] at hB;obtain⟨⟨⟨eI,hlen⟩,hc⟩,hp⟩:=hB;simp only[yh,Bool.and_eq_true,decide_eq_true_eq] at hc
 have qW:HeadInv md ops ops.size d0:=by
  refine⟨hc.1,λj oj hj hl e he hb=>?_,λt h1 h2=>by omega⟩;have h1:=List.all_eq_true.1 hc.2 j (List.mem_range.2 (Array.getElem?_eq_some_iff.1 hj).1);simp only[hl,Bool.not_true,Bool.false_or,hj] at h1;have h2:=Array.all_eq_true_iff_forall_mem.1 h1 e he;simpa[hb] using h2
 have H:=qZ (P:=P) (Q:=Q) (S:=S) (R:=λa' w'=>Q .normal a' w') eI oW js ix d0 a w qW hp hS h;rw[hlen] at H
 exact cU (Q:=Q) (g:=0) (λdone a' w' hL=>by
  obtain⟨_,h1,h⟩:=hL;refine⟨List.eq_nil_iff_forall_not_mem.2 λi hi=>?_,h⟩;have h2:=List.all_eq_true.1 h1 i hi;obtain⟨o,ho,_⟩:=(mem_ready.1 hi).2;have:=(Array.getElem?_eq_some_iff.1 ho).1
  simp at h2;omega) f d0 a w H
end
theorem cY{P:Program}{id:Nat}{Q:Exit->Act->aj->Prop}{a:Act}{w:aj}{l:List Oper}(ix js:List Nat)(n:Nat)(S:aj->Prop)(hm:P.follows .mixedOrders=true)
 (hB:(Region.noSelect l.toArray && decide (ix.length+js.length=n) && wT .any l.toArray n && rV .any l.toArray n js ix (Array.replicate l.toArray.size false))=true) (hS:S w.drew)
 (h:aU P l.toArray Q S (λa w=>bj P l.toArray Q S (λa' w'=>wpAny P .any l.toArray Q (l.toArray.size-n) (rZ js (rZ ix (Array.replicate l.toArray.size false))) a' w') js a w) ix a w.drew):(Code.region id l.toArray true).wp P Q a w:=
 wp_region_any hm (Ch ix js n S hB hS h)
theorem ah{P:Program}{ops:Array Oper}{Q:Exit->Act->aj->Prop}{S:aj->Prop}{R:Act->aj->Prop}{i:Nat}{ix:List Nat}{a:Act}{w:aj}{o:Oper}(v:aC)(ho:ops[i]?=some o)(hw:Region.wanted o (yielded ops a.tmps)=true)(hy:∀w,S w->(execOp a.eval o).run P w=.ok (.value v) w)(hQ:∀c a w,Q (.panic c) (a.put o.dst v) w->Q (.panic c) a w)
 (h:aU P ops Q S R ix (a.put o.dst v) w):aU P ops Q S R (i::ix) a w:=⟨o,v,ho,.inl ⟨hw,hy⟩,hQ,h⟩
theorem aT{P:Program}{ops:Array Oper}{Q:Exit->Act->aj->Prop}{S:aj->Prop}{R:Act->aj->Prop}{i:Nat}{ix:List Nat}{a:Act}{w:aj}{o:Oper}(ho:ops[i]?=some o)(hw:Region.wanted o (yielded ops a.tmps)=false)(hQ:∀c a w,Q (.panic c) (a.put o.dst undef) w->Q (.panic c) a w)
 (h:aU P ops Q S R ix (a.put o.dst undef) w):aU P ops Q S R (i::ix) a w:=⟨o,undef,ho,.inr ⟨hw,rfl⟩,hQ,h⟩
theorem aw{P:Program}{ops:Array Oper}{Q:Exit->Act->aj->Prop}{S:aj->Prop}{R:Act->aj->Prop}{j:Nat}{js:List Nat}{a:Act}{w:aj}{o:Oper}(ho:ops[j]?=some o)(hw:Region.wanted o (yielded ops a.tmps)=true)(h:o.wp P a w (λa' w'=>S w'/\bj P ops Q S R js a' w') Q):bj P ops Q S R (j::js) a w:=⟨o,ho,hw,h⟩
end
section
section
variable {P:Program}{ops:Array Oper}{Q:Exit->Act->aj->Prop}{md:Region.Mode}{S:aj->Prop}
def zb(P:Program)(ops:Array Oper)(Q:Exit->Act->aj->Prop)(S:aj->Prop)(R:Act->aj->Prop):List (Bool × Nat)->Act->aj->Prop
 | [],a,w=>R a w
 | (true,i)::l,a,w=>∃o v,ops[i]?=some o/\YieldsIf P ops S o v a/\(∀c a w,Q (.panic c) (a.put o.dst v) w->Q (.panic c) a w)/\zb P ops Q S R l (a.put o.dst v) w
 | (false,j)::l,a,w=>∃o,ops[j]?=some o/\Region.wanted o (yielded ops a.tmps)=true/\o.wp P a w (λa' w'=>S w'/\zb P ops Q S R l a' w') Q
def GQ(md:Region.Mode)(ops:Array Oper)(n:Nat):List (Bool × Nat)->Array Bool->Bool
 | [],done=>(Region.ready md ops done).all λj=>decide (n<=j)
 | (b,i)::l,done=>(match b with|true=>(Region.ready md ops done).contains i && Region.free md ops done i|false=>decide (Region.ready md ops done=[i])) && decide (i<n) && GQ md ops n l (done.setIfInBounds i true)
theorem uF{R:Act->aj->Prop}{n:Nat}(eI:Region.noSelect ops=true)(tw:tU md ops n) :
 ∀ (l:List (Bool × Nat)) (done:Array Bool) (a:Act) (w:aj),HeadInv md ops n done->GQ md ops n l done=true->S w->zb P ops Q S R l a w ->
   dX P md ops Q S n (λd a w=>((Region.ready md ops d).all λj=>decide (n<=j))=true/\R a w) l.length done a w
 | [],done,a,w,_,hB,_,h=>⟨by simpa[GQ] using hB,h⟩
 | (true,i)::l,done,a,w,inv,hB,hS,h=>by
   obtain⟨o,v,ho,hy,hQ,h⟩:=h;simp only[GQ,Bool.and_eq_true,decide_eq_true_eq] at hB;obtain⟨⟨⟨hr,hf⟩,gH⟩,yv⟩:=hB;have ux:i∈Region.ready md ops done:=by simpa using hr
   refine kV ho (Region.noSelect_spec eI) tw gH hQ (λuf a' w' hL j hj=>by
    have:=List.all_eq_true.1 hL.1 j hj
    simpa using this) _ done a w inv (Region.free_spec ho hf) ux hy hS ?_
   exact uF eI tw l _ _ w (inv.set ux gH) yv hS h
 | (false,j)::l,done,a,w,inv,hB,hS,h=>by
   obtain⟨o,ho,hw,h⟩:=h;simp only[GQ,Bool.and_eq_true,decide_eq_true_eq] at hB;obtain⟨⟨hr,hj⟩,yv⟩:=hB;refine⟨λh1=>(by rw[hr] at h1;cases h1),λi hi=>?_⟩;have sZ:=hi;rw[hr] at hi;have Mi:i=j:=by simpa using hi
   subst Mi;refine⟨hj,?_⟩;unfold wpOp;simp only[ho,hw,if_true];exact .inl (Oper.wp_mono (λa' w' h'=>⟨h'.1,uF eI tw l _ a' w' (inv.set sZ hj) yv h'.1 h'.2⟩) h)
end
theorem bK{P:Program}{id:Nat}{Q:Exit->Act->aj->Prop}{a:Act}{w:aj}{l:List Oper}(st:List (Bool × Nat))(S:aj->Prop)(hm:P.follows .mixedOrders=true)
 (hB:(Region.noSelect l.toArray && decide (st.length=l.toArray.size) && GQ .any l.toArray l.toArray.size st (Array.replicate l.toArray.size false))=true) (hS:S w.drew)
 (h:zb P l.toArray Q S (λa' w'=>Q .normal a' w') st a w.drew):(Code.region id l.toArray true).wp P Q a w:=by
 simp only[Bool.and_eq_true,decide_eq_true_eq] at hB;obtain⟨⟨eI,hlen⟩,hp⟩:=hB
 have qW:HeadInv .any l.toArray l.toArray.size (Array.replicate l.toArray.size false):=
  ⟨by simp,λj oj _ hl=>(by rw[getD_replicate_false] at hl;cases hl),λt _ ht=>getD_in (by simpa using ht) (getD_replicate_false _ _)⟩
 have H:=uF (P:=P) (Q:=Q) (S:=S) (R:=λa' w'=>Q .normal a' w') eI oW st _ a w.drew qW hp hS h;rw[hlen] at H;refine wp_region_any hm (cU (Q:=Q) (g:=0) (λdone a' w' hL=>?_) _ _ _ _ H);obtain⟨h1,h⟩:=hL;refine⟨List.eq_nil_iff_forall_not_mem.2 λi hi=>?_,h⟩;have h2:=List.all_eq_true.1 h1 i hi;obtain⟨o,ho,_⟩:=(mem_ready.1 hi).2;have:=(Array.getElem?_eq_some_iff.1 ho).1;simp at h2 this;omega
theorem ao{P:Program}{ops:Array Oper}{Q:Exit->Act->aj->Prop}{S:aj->Prop}{R:Act->aj->Prop}{i:Nat}{l:List (Bool × Nat)}{a:Act}{w:aj}{o:Oper}(v:aC)(ho:ops[i]?=some o)(hw:Region.wanted o (yielded ops a.tmps)=true)(hy:∀w,S w->(execOp a.eval o).run P w=.ok (.value v) w)(hQ:∀c a w,Q (.panic c) (a.put o.dst v) w->Q (.panic c) a w)
 (h:zb P ops Q S R l (a.put o.dst v) w):zb P ops Q S R ((true,i)::l) a w:=⟨o,v,ho,.inl ⟨hw,hy⟩,hQ,h⟩
theorem bg{P:Program}{ops:Array Oper}{Q:Exit->Act->aj->Prop}{S:aj->Prop}{R:Act->aj->Prop}{j:Nat}{l:List (Bool × Nat)}{a:Act}{w:aj}{o:Oper}(ho:ops[j]?=some o)(hw:Region.wanted o (yielded ops a.tmps)=true)(h:o.wp P a w (λa' w'=>S w'/\zb P ops Q S R l a' w') Q):zb P ops Q S R ((false,j)::l) a w:=⟨o,ho,hw,h⟩
theorem fp{P:Program}{ops:Array Oper}{Q:Exit->Act->aj->Prop}{S:aj->Prop}{R:Act->aj->Prop}{a:Act}{w:aj}(h:R a w):zb P ops Q S R [] a w:=h
end
section
inductive Way where
 | fin
 | read (i:Nat) (k:Way)
 | any (c:Way)
 | alt (j:Nat) (k r:Way)
 | stop
def Way.sz:Way->Nat
 | .fin=>1
 | .stop=>1
 | .read _ k=>k.sz+1
 | .any c=>c.sz+1
 | .alt _ k r=>k.sz+r.sz+1
def Way.iu:Way->List Nat
 | .alt j _ r=>j::r.iu
 | _=>[]
section
variable {P:Program}{ops:Array Oper}{Q:Exit->Act->aj->Prop}{md:Region.Mode}{S:aj->Prop}
def fA(P:Program)(ops:Array Oper)(Q:Exit->Act->aj->Prop)(S:aj->Prop)(R:Act->aj->Prop):Way->Act->aj->Prop
 | .fin,a,w=>R a w
 | .read i k,a,w=>∃o v,ops[i]?=some o/\YieldsIf P ops S o v a/\(∀c a w,Q (.panic c) (a.put o.dst v) w->Q (.panic c) a w)/\fA P ops Q S R k (a.put o.dst v) w
 | .any c,a,w=>fA P ops Q S R c a w
 | .alt j k r,a,w=>(∃o,ops[j]?=some o/\Region.wanted o (yielded ops a.tmps)=true/\o.wp P a w (λa' w'=>S w'/\fA P ops Q S R k a' w') Q)/\fA P ops Q S R r a w
 | .stop,_,_=>True
def jy(md:Region.Mode)(ops:Array Oper)(n:Nat):Bool->Nat->Way->Array Bool->Bool
 | true,f,.fin,done=>decide (f=0) && (Region.ready md ops done).all λj=>decide (n<=j)
 | true,f,.read i k,done=>decide (0<f) && (Region.ready md ops done).contains i && Region.free md ops done i && decide (i<n) && jy md ops n true (f-1) k (done.setIfInBounds i true)
 | true,f,.any c,done=>decide (0<f) && decide (Region.ready md ops done=c.iu) && decide (c.iu≠[]) && jy md ops n false (f-1) c done
 | false,f,.alt j k r,done=>decide (j<n) && jy md ops n true f k (done.setIfInBounds j true) && jy md ops n false f r done
 | false,_,.stop,_=>true
 | _,_,_,_=>false
theorem Cd{R:Act->aj->Prop}{n f:Nat} : ∀ (c:Way) (done:Array Bool) (a:Act) (w:aj),jy md ops n false f c done=true->fA P ops Q S R c a w->∀i∈c.iu,
 ∃k,i<n/\jy md ops n true f k (done.setIfInBounds i true)=true/\k.sz<c.sz/\∃o,ops[i]?=some o/\Region.wanted o (yielded ops a.tmps)=true/\o.wp P a w (λa' w'=>S w'/\fA P ops Q S R k a' w') Q
 | .fin,_,_,_,_,_,i,hi=>by simp[Way.iu] at hi
 | .read _ _,_,_,_,_,_,i,hi=>by simp[Way.iu] at hi
 | .any _,_,_,_,_,_,i,hi=>by simp[Way.iu] at hi
 | .stop,_,_,_,_,_,i,hi=>by simp[Way.iu] at hi
 | .alt j k r,done,a,w,hB,h,i,hi=>by
   simp only[jy,Bool.and_eq_true,decide_eq_true_eq] at hB;rcases List.mem_cons.1 (show i∈j::r.iu from hi) with rfl|hi
   ·exact⟨k,hB.1.1,hB.1.2,by simp[Way.sz];omega,h.1⟩
   ·obtain⟨k',h1,h2,h3,h4⟩:=Cd r done a w hB.2 h.2 i hi;exact⟨k',h1,h2,by simp[Way.sz];omega,h4⟩
theorem Hk{R:Act->aj->Prop}{n:Nat}(eI:Region.noSelect ops=true)(tw:tU md ops n) :
 ∀ (m:Nat) (c:Way),c.sz<=m->∀ (f:Nat) (done:Array Bool) (a:Act) (w:aj),HeadInv md ops n done->jy md ops n true f c done=true->S w->fA P ops Q S R c a w ->
   dX P md ops Q S n (λd a w=>((Region.ready md ops d).all λj=>decide (n<=j))=true/\R a w) f done a w:=by
 intro m
 induction m with
 | zero=>intro c hc;cases c <;> simp[Way.sz] at hc
 | succ m ih=>
   intro c hc f done a w inv hB hS h
   cases c with
   | stop=>simp[jy] at hB
   | alt j k r=>simp[jy] at hB
   | fin=>
     simp only[jy,Bool.and_eq_true,decide_eq_true_eq] at hB;obtain⟨rfl,hB⟩:=hB;exact⟨hB,h⟩
   | read i k=>
     obtain⟨o,v,ho,hy,hQ,h⟩:=h;simp only[jy,Bool.and_eq_true,decide_eq_true_eq] at hB;obtain⟨⟨⟨⟨h0,hr⟩,hf⟩,gH⟩,yv⟩:=hB;obtain⟨f,rfl⟩:∃g,f=g+1:=⟨f-1,by omega⟩;have ux:i∈Region.ready md ops done:=by simpa using hr
     refine kV ho (Region.noSelect_spec eI) tw gH hQ (λuf a' w' hL j hj=>by
      have:=List.all_eq_true.1 hL.1 j hj
      simpa using this) _ done a w inv (Region.free_spec ho hf) ux hy hS ?_
     exact ih k (by simp[Way.sz] at hc;omega) f _ _ w (inv.set ux gH) yv hS h
   | any c=>
     simp only[jy,Bool.and_eq_true,decide_eq_true_eq] at hB;obtain⟨⟨⟨h0,hr⟩,hne⟩,yv⟩:=hB;obtain⟨f,rfl⟩:∃g,f=g+1:=⟨f-1,by omega⟩;refine⟨λh1=>hne (by rw[<-hr,h1]),λi hi=>?_⟩;have sZ:=hi;rw[hr] at hi;obtain⟨k,h1,h2,h3,o,ho,hw,hwp⟩:=Cd c done a w yv h i hi;refine⟨h1,?_⟩;unfold wpOp;simp only[ho,hw,if_true];exact .inl (Oper.wp_mono (λa' w' h'=>⟨h'.1,ih k (by simp[Way.sz] at hc;omega) f _ a' w' (inv.set sZ h1) h2 h'.1 h'.2⟩) hwp)
end
theorem d_{P:Program}{id:Nat}{Q:Exit->Act->aj->Prop}{a:Act}{w:aj}{l:List Oper}(c:Way)(S:aj->Prop)(hm:P.follows .mixedOrders=true)
 (hB:(Region.noSelect l.toArray && jy .any l.toArray l.toArray.size true l.toArray.size c (Array.replicate l.toArray.size false))=true) (hS:S w.drew)
 (h:fA P l.toArray Q S (λa' w'=>Q .normal a' w') c a w.drew):(Code.region id l.toArray true).wp P Q a w:=by
 simp only[Bool.and_eq_true,decide_eq_true_eq] at hB;obtain⟨eI,hp⟩:=hB
 have qW:HeadInv .any l.toArray l.toArray.size (Array.replicate l.toArray.size false):=
  ⟨by simp,λj oj _ hl=>(by rw[getD_replicate_false] at hl;cases hl),λt _ ht=>getD_in (by simpa using ht) (getD_replicate_false _ _)⟩
 have H:=Hk (P:=P) (Q:=Q) (S:=S) (R:=λa' w'=>Q .normal a' w') eI oW _ c (Nat.le_refl _) _ _ a w.drew qW hp hS h;refine wp_region_any hm (cU (Q:=Q) (g:=0) (λdone a' w' hL=>?_) _ _ _ _ H);obtain⟨h1,h⟩:=hL;refine⟨List.eq_nil_iff_forall_not_mem.2 λi hi=>?_,h⟩;have h2:=List.all_eq_true.1 h1 i hi;obtain⟨o,ho,_⟩:=(mem_ready.1 hi).2;have:=(Array.getElem?_eq_some_iff.1 ho).1;simp at h2 this;omega
section
variable {P:Program}{ops:Array Oper}{Q:Exit->Act->aj->Prop}{S:aj->Prop}{R:Act->aj->Prop}{a:Act}{w:aj}
theorem ay{i:Nat}{k:Way}{o:Oper}(v:aC)(ho:ops[i]?=some o)(hw:Region.wanted o (yielded ops a.tmps)=true)(hy:∀w,S w->(execOp a.eval o).run P w=.ok (.value v) w)(hQ:∀c a w,Q (.panic c) (a.put o.dst v) w->Q (.panic c) a w)
 (h:fA P ops Q S R k (a.put o.dst v) w):fA P ops Q S R (.read i k) a w:=⟨o,v,ho,.inl ⟨hw,hy⟩,hQ,h⟩
theorem eX{c:Way}(h:fA P ops Q S R c a w):fA P ops Q S R (.any c) a w:=h
theorem bC{j:Nat}{k r:Way}{o:Oper}(ho:ops[j]?=some o)(hw:Region.wanted o (yielded ops a.tmps)=true)(h:o.wp P a w (λa' w'=>S w'/\fA P ops Q S R k a' w') Q)(hr:fA P ops Q S R r a w):fA P ops Q S R (.alt j k r) a w:=⟨⟨o,ho,hw,h⟩,hr⟩
theorem dI:fA P ops Q S R .stop a w:=trivial
theorem aI{j:Nat}{k:Way}{o:Oper}(ho:ops[j]?=some o)(hw:Region.wanted o (yielded ops a.tmps)=true)(h:o.wp P a w (λa' w'=>S w'/\fA P ops Q S R k a' w') Q):fA P ops Q S R (.any (.alt j k .stop)) a w:=bC ho hw h trivial
theorem cg(h:R a w):fA P ops Q S R .fin a w:=h
end
abbrev Way.reads(l:List Nat)(k:Way):Way:=l.foldr Way.read k
abbrev Way.step(j:Nat)(k:Way):Way:=.any (.alt j k .stop)
end
section
abbrev pR(c:Nat):aC:=aR c
theorem ag.GU(w:aj)(vs:List aC)(ty:TypeId)(b:Nat)(h:w.heap.size=b):ag (w.alloc (.cells vs.toArray ty)) b vs:=by
 subst h;exact ag.new w vs ty
theorem jW{α:Type}(f:α->List aC)(k:Nat)(hf:∀a,(f a).length=k)(d d':α)(j:Nat)(hj:j<k)(y:aC):∀ (l:List α) (i:Nat),i<l.length->f d'=(f (l.getD i d)).set j y->(l.flatMap f).set (i*k+j) y=(l.set i d').flatMap f
 | [],i,h,_=>by simp at h
 | x::l,0,_,e=>by
   rw[List.flatMap_cons,Nat.zero_mul,fk,List.set_append_left _ _ (by rw[hf];exact hj),qq,List.flatMap_cons,e];rfl
 | x::l,i+1,h,e=>by
   have e1:(i+1)*k=i*k+k:=Nat.succ_mul _ _
   rw[List.flatMap_cons,List.set_append_right _ _ (by rw[hf,e1];omega),rj,List.flatMap_cons,hf,
    show(i+1)*k+j-k=i*k+j by omega,jW f k hf d d' j hj y l i (by simpa using h) e]
theorem wO(w:aj)(xs:List aC)(t:TypeId)(j:Nat){u:aC}(hj:xs[j]?=some u):(w.alloc (.cells xs.toArray t)).cell? ⟨w.heap.size,j,none⟩=some u:=by
 rw[World.cell?_alloc_new];simpa using hj
theorem ks{α:Type}{l:List α}{t:Nat}(ht:t<l.length)(x d:α):(l.set t x).getD t d=x:=by rw[aS,List.getElem?_set_self ht];rfl
theorem rH{α:Type}{l:List α}{t u:Nat}(h:u≠t)(x d:α):(l.set t x).getD u d=l.getD u d:=by rw[aS,List.getElem?_set_ne (by omega),<-aS]
theorem P1{α:Type}{l m:List α}{k:Nat}(h:k<l.length)(d:α):(l++m).getD k d=l.getD k d:=by rw[aS,aS,List.getElem?_append_left h]
theorem Rw{α:Type}(l:List α)(x d:α):(l++[x]).getD l.length d=x:=by rw[aS,Cb (aM _),Nat.sub_self];rfl
theorem ss{α β:Type}(f:α->β)(l:List α)(d:α)(k:Nat):(l.map f).getD k (f d)=f (l.getD k d):=by rw[aS,aS,List.getElem?_map];cases l[k]? <;> rfl
theorem gdB{α:Type}{l:List α}{k:Nat}(h:l.length<=k)(d:α):l.getD k d=d:=by rw[aS,List.getElem?_eq_none h];rfl
structure tN where
 block:Int
 tr:Int
abbrev cJ:tN:=⟨0,-1⟩
def sL(s:tN):List aC:=[vI s.block,vI s.tr]
theorem eN(s:tN):(sL s).length=2:=rfl
structure Ac where
 k:Int
 e:Int
 v:Int
def Er(a:Ac):List aC:=[vI a.k,vI a.e,vI a.v]
structure Tr where
 th:Int
 bl:Int
 st:Int
 se:Int
 fr:Int
 dr:Int
 aJ:List Ac
 gF:List Int
 en:Int
 bt:Int
def aK:Tr:=⟨0,0,0,0,0,0,[],[],0,0⟩
structure rE where
 x:Tr
 av:aC
 tv:aC
def eP:rE:=⟨aK,.slice none 0 0,.slice none 0 0⟩
def rz(m:rE):List aC:=[vI m.x.th,vI m.x.bl,vI m.x.st,vI m.x.se,vI m.x.fr,vI m.x.dr,m.av,m.tv,vI m.x.en,vI m.x.bt]
theorem fq(s:rE):(rz s).length=10:=rfl
structure Rd where
 sp:List tN
 tr:List Tr
 bY:Int
abbrev Pg:=List (List (List Dd))
def bU(Q:Pg)(t b:Int):List Dd:=(Q.getD t.toNat []).getD b.toNat []
def Rd.spot(r:Rd)(e:En):tN:=r.sp.getD e.t.toNat cJ
def Rd.kY(r:Rd)(e:En):Tr:=r.tr.getD (r.spot e).tr.toNat aK
def n_(e:Int):Bool:=e==141 || e==100 || e==130
def Rd.begin(Q:Pg)(r:Rd)(i:Nat)(e:En):Rd:=
 if e.e≠0 then { r with sp:=r.sp.set e.t.toNat ⟨((Q.getD e.t.toNat []).length:Nat),(r.spot e).tr⟩ }
 else ⟨r.sp.set e.t.toNat ⟨(r.spot e).block,(r.tr.length:Nat)⟩,r.tr++[⟨e.t,e.b,e.v,r.bY,i,-1,[],[],0,0⟩],r.bY⟩
def last(Q:Pg)(e:En):Bool:=n_ e.e || (e.e==0 && ((bU Q e.t e.b).getD e.n.toNat dD).k==14)
def Rd.gX(Q:Pg)(r:Rd)(i:Nat)(e:En):Option Rd:=
 if e.n≠((r.kY e).aJ.length:Nat)\/((bU Q e.t e.b).length:Nat)<=e.n then none
 else some ⟨if last Q e then r.sp.set e.t.toNat ⟨if e.e≠141 then (r.spot e).block+1 else (r.spot e).block,-1⟩ else r.sp,
  r.tr.set (r.spot e).tr.toNat { r.kY e with aJ:=(r.kY e).aJ++[⟨e.k,e.e,e.v⟩],gF:=(r.kY e).gF++[(i:Int)],en:=if last Q e then 2 else (r.kY e).en,dr:=if last Q e then i else (r.kY e).dr },r.bY⟩
def Rd.fe(Q:Pg)(r:Rd)(i:Nat)(e:En):Option Rd:=
 if e.n≠((r.kY e).aJ.length:Nat)\/e.n≠((bU Q e.t e.b).length:Nat) then none
 else some ⟨r.sp.set e.t.toNat ⟨if e.e≠0 then (r.spot e).block else (r.spot e).block+1,-1⟩,
  r.tr.set (r.spot e).tr.toNat (if e.e≠0 then { r.kY e with dr:=i,en:=2 } else { r.kY e with dr:=i,en:=1,bt:=e.v }),r.bY⟩
def Rd.take(Q:Pg)(r:Rd)(i:Nat)(e:En):Option Rd:=
 if e.t = -1 then (if e.k=5 then some { r with bY:=r.bY+1 } else if e.k=4 then some r else none)
 else if e.t<0\/(Q.length:Nat)<=e.t then none
 else if e.b<0\/((Q.getD e.t.toNat []).length:Nat)<=e.b\/e.b≠(r.spot e).block then none
 else if e.k=1 then (if 0<=(r.spot e).tr then none else some (r.begin Q i e))
 else if e.k=2 then (if 0<=(r.spot e).tr then r.gX Q i e else none)
 else if e.k=3 then (if 0<=(r.spot e).tr then r.fe Q i e else none)
 else none
def Rd.start(Q:Pg):Rd:=⟨List.replicate Q.length cJ,[],0⟩
def Rd.run(Q:Pg):List En->Nat->Rd->Option Rd
 | [],_,r=>some r
 | e::l,i,r=>match r.take Q i e with
   | none=>none
   | some r'=>Rd.run Q l (i+1) r'
def tries(Q:Pg)(H:List En):Option (List Tr):=(Rd.run Q H 0 (Rd.start Q)).map (·.tr)
structure MM(Q:Pg)(r:Rd)(i:Nat):Prop where
 n:r.sp.length=Q.length
 s:∀t,t<r.sp.length->cL (r.sp.getD t cJ).block/\-1<=(r.sp.getD t cJ).tr/\(r.sp.getD t cJ).tr<r.tr.length
 c:0<=r.bY/\r.bY<=i
 l:r.tr.length<=i
 a:∀k,k<r.tr.length->(r.tr.getD k aK).aJ.length<=i/\(r.tr.getD k aK).gF.length<=i/\0<=(r.tr.getD k aK).en/\(r.tr.getD k aK).en<=2
theorem MM.dN{Q:Pg}{r r':Rd}{i:Nat}(h:MM Q r i){t:Nat}{s':tN}(e:r'.sp=r.sp.set t s'\/r'.sp=r.sp)(hs:cL s'.block/\-1<=s'.tr/\s'.tr<(r'.tr.length:Nat))(hl:r.tr.length<=r'.tr.length/\r'.tr.length<=i+1)(hc:r'.bY=r.bY)
 (ha:∀k,k<r'.tr.length->(k<r.tr.length/\r'.tr.getD k aK=r.tr.getD k aK)\/((r'.tr.getD k aK).aJ.length<=i+1/\(r'.tr.getD k aK).gF.length<=i+1/\0<=(r'.tr.getD k aK).en/\(r'.tr.getD k aK).en<=2)):MM Q r' (i+1):=by
 have hn:r'.sp.length=r.sp.length:=by rcases e with e|e <;> rw[e];rw[bE]
 have h1:=h.c.1;have h2:=h.c.2;refine⟨hn.trans h.n,λu hu=>?_,⟨by rw[hc];exact h1,by rw[hc];omega⟩,hl.2,λk hk=>?_⟩
 ·rw[hn] at hu;have hu3:=h.s u hu;have cC:cL (r.sp.getD u cJ).block/\-1<=(r.sp.getD u cJ).tr/\(r.sp.getD u cJ).tr<(r'.tr.length:Nat):=⟨hu3.1,hu3.2.1,by have:=hu3.2.2;omega⟩;rcases e with e|e
  ·rw[e]
   by_cases ut:u=t
   ·subst ut;rw[ks hu];exact hs
   ·rw[rH ut];exact cC
  ·rw[e];exact cC
 ·rcases ha k hk with ⟨h3,h4⟩|h3
  ·rw[h4];have:=h.a k h3;exact⟨by omega,by omega,this.2.2.1,this.2.2.2⟩
  ·exact h3
theorem aag:GI 87 35 3:=by
 obtain⟨i0,hi,ie,gU,iw⟩:=info_parts (show(prog.info? 35).map (λi=>(i.zero,i.size,i.bytes))=some (some (.agg #[vI 0,vI 0,vI 0]),3,24) by kernel_rfl);exact⟨Tryz.underlying87,i0,_,_,hi,ie,gU,iw,rfl,by decide,by decide⟩
theorem aaj:GI 77 89 10:=by
 obtain⟨i0,hi,ie,gU,iw⟩:=info_parts (show(prog.info? 89).map (λi=>(i.zero,i.size,i.bytes))=some (some (.agg #[vI 0,vI 0,vI 0,vI 0,vI 0,vI 0,.slice none 0 0,.slice none 0 0,vI 0,vI 0]),10,112) by kernel_rfl);exact⟨Tryz.underlying77,i0,_,_,hi,ie,gU,iw,rfl,by decide,by decide⟩
structure dP(L:Nat)(w:aj)(τ:Nat->Nat)(w':aj)(aX:Nat->Nat):Prop where
 fr:Fr (λk=>τ k<L) w w'
 tg:nV w τ aX
theorem dP.refl(L:Nat)(w:aj)(τ:Nat->Nat):dP L w τ w τ:=⟨aq,λ_ _=>rfl⟩
theorem dP.calm(L:Nat){w w':aj}(τ:Nat->Nat)(c:Calm w w'):dP L w τ w' τ:=⟨c.any,λ_ _=>rfl⟩
theorem dP.trans{L:Nat}{w w1 w2:aj}{τ gi eY:Nat->Nat}(h:dP L w τ w1 gi)(k:dP L w1 gi w2 eY):dP L w τ w2 eY:=by
 have hs:=h.fr.size;exact⟨h.fr.join k.fr (λj hj e=>by rw[h.tg j hj] at e;exact e),λj hj=>by rw[k.tg j (by omega),h.tg j hj]⟩
theorem bF.OY{L:Nat}{w w':aj}{τ:Nat->Nat}{A:Mem}(h:bF w τ A){t:Nat}{a:si}(f:Fr (A t).bU w w')(ha:a.at_ w')(hn:∀k,a.bU k->(A t).bU k\/w.heap.size<=k)(ht:t<L)(m:Nat) :
 ∃aX,bF w' aX (A.put t a)/\dP L w τ w' aX/\∀k,w.heap.size<=k->¬a.bU k->aX k=m:=by
 classical
 refine⟨λk=>if k<w.heap.size then τ k else if a.bU k then t else m,⟨λj=>?_,λj k hk=>?_⟩,⟨f.mono (λk _ hk=>?_),λk hk=>if_pos hk⟩,λk hk gI=>by simp only[];rw[if_neg (by omega),if_neg gI]⟩
 ·by_cases e:j=t
  ·subst e;rw[Mem.aP];exact ha
  ·rw[Mem.aA _ _ e];exact(A j).fr (h.at_ j) f (λk hk gI=>e (by rw[<-h.tag j k hk,h.tag t k gI]))
 ·by_cases e:j=t
  ·subst e;rw[Mem.aP] at hk;rcases hn k hk with h1|h1
   ·simp only[if_pos (h.lt j h1)];exact h.tag j k h1
   ·simp only[if_neg (show ¬k<w.heap.size by omega)];rw[if_pos hk]
  ·rw[Mem.aA _ _ e] at hk;simp only[if_pos (h.lt j hk)];exact h.tag j k hk
 ·show τ k<L;rw[h.tag t k hk];exact ht
theorem bF.BS{L:Nat}{w w':aj}{τ:Nat->Nat}{A:Mem}(h:bF w τ A){t:Nat}{a:si}(f:Fr (A t).bU w w')(ha:a.at_ w')(hn:∀k,a.bU k->(A t).bU k)(ht:t<L):bF w' τ (A.put t a)/\dP L w τ w' τ:=
 ⟨h.put' f ha hn,⟨f.mono (λk _ hk=>by show τ k<L;rw[h.tag t k hk];exact ht),λ_ _=>rfl⟩⟩
theorem dP.Fl{L:Nat}{w w':aj}{τ aX:Nat->Nat}{v:aC}{Q:Pg}(h:dP L w τ w' aX)(p:dJ (λb=>L<=τ b) w v Q):dJ (λb=>L<=aX b) w' v Q:=
 ((p.mono (T':=λb=>L<=τ b/\b<w.heap.size) (λb hb e=>⟨e,hb⟩)).fr h.fr (λb e e2=>by have e2:τ b<L:=e2;omega)).mono (λb _ e=>by show L<=aX b;rw[h.tg b e.2];exact e.1)
structure tM(M:Mem)(rp:Nat)(pv atv cz:aC)(sp:List tN)(ms:List rE)(bY:Int):Prop where
 c:M 1=bD rp pv [atv,cz,vI bY]
 a:M 2=dK 135 2 atv sp.length (sp.flatMap sL)
 t:M 3=dK 89 10 cz ms.length (ms.flatMap rz)
 x:∀k,k<ms.length->M (10+2*k)=dK 35 3 (ms.getD k eP).av (ms.getD k eP).x.aJ.length ((ms.getD k eP).x.aJ.flatMap Er)/\M (10+2*k+1)=iL (ms.getD k eP).tv (ms.getD k eP).x.gF
 z:∀j,10+2*ms.length<=j->M j=lZ
def iZ(w:aj)(τ:Nat->Nat)(rp:Nat)(pv:aC)(Q:Pg)(i:Nat)(r:Rd):Prop:=
 ∃M atv cz ms,bF w τ M/\tM M rp pv atv cz r.sp ms r.bY/\ms.map (·.x)=r.tr/\dJ (λb=>10000<=τ b) w pv Q/\MM Q r i
section
variable {w:aj}{τ:Nat->Nat}{rp i:Nat}{pv:aC}{Q:Pg}{r:Rd}
theorem iZ.calm{w':aj}(h:iZ w τ rp pv Q i r)(c:Calm w w'):iZ w' τ rp pv Q i r:=by
 obtain⟨M,atv,cz,ms,h1,h2,h3,h4,h5⟩:=h;exact⟨M,atv,cz,ms,h1.calm c,h2,h3,h4.calm c,h5⟩
theorem MM.mono{j:Nat}(h:MM Q r i)(hj:i<=j):MM Q r j:=⟨h.n,h.s,⟨h.c.1,by have:=h.c.2;omega⟩,by have:=h.l;omega,λk hk=>by have:=h.a k hk;exact⟨by omega,by omega,this.2.2.1,this.2.2.2⟩⟩
end
end
structure Mo where
 ser:Int
 p:Int
 d:Int
 wk:Bool
 fn:Bool
 ps:List Int
 ns:List Int
 fr:Bool
def jB:Mo:=⟨0,0,0,false,false,[],[],false⟩
structure fW where
 x:Mo
 pv:aC
 nv:aC
def bV:fW:=⟨jB,.slice none 0 0,.slice none 0 0⟩
def eF(m:fW):List aC:=[vI m.x.ser,vI m.x.p,vI m.x.d,.bool m.x.wk,.bool m.x.fn,m.pv,m.nv,.bool m.x.fr]
theorem bX(m:fW):(eF m).length=8:=rfl
theorem Nn:GI 90 240 8:=by
 obtain⟨i0,hi,ie,gU,iw⟩:=info_parts (show(prog.info? 240).map (λi=>(i.zero,i.size,i.bytes))=some (some (.agg #[vI 0,vI 0,vI 0,.bool false,.bool false,.slice none 0 0,.slice none 0 0,.bool false]),8,88) by kernel_rfl);exact⟨Tryz.underlying90,i0,_,_,hi,ie,gU,iw,rfl,by decide,by decide⟩
def cB(T:Nat->Prop)(w:aj)(v:aC)(l:List Int):Prop:=
 ∃a c,v=.slice a l.length c/\∀i,i<l.length->∃g o,a=some ⟨g,o,none⟩/\T g/\w.cell? ⟨g,o+i,none⟩=some (vI (l.getD i 0))
def bL(T:Nat->Prop)(w:aj)(v:aC)(ms:List fW):Prop:=
 ∃a c,v=.slice a ms.length c/\∀i,i<ms.length->∃g o,a=some ⟨g,o,none⟩/\T g/\(∀j u,(eF (ms.getD i bV))[j]?=some u->w.cell? ⟨g,o+i*8+j,none⟩=some u)/\cB T w (ms.getD i bV).pv (ms.getD i bV).x.ps/\cB T w (ms.getD i bV).nv (ms.getD i bV).x.ns
theorem cB.fr{T S:Nat->Prop}{w w':aj}{v:aC}{l:List Int}(h:cB T w v l)(f:Fr S w w')(hs:∀b,T b->¬S b):cB T w' v l:=by
 obtain⟨a,c,hv,h⟩:=h;refine⟨a,c,hv,λi hi=>?_⟩;obtain⟨g,o,e,t,hc⟩:=h i hi;exact⟨g,o,e,t,f.cellAt hc (hs g t)⟩
theorem bL.fr{T S:Nat->Prop}{w w':aj}{v:aC}{l:List fW}(h:bL T w v l)(f:Fr S w w')(hs:∀b,T b->¬S b):bL T w' v l:=by
 obtain⟨a,c,hv,h⟩:=h;refine⟨a,c,hv,λi hi=>?_⟩;obtain⟨g,o,e,t,hc,hp,hn⟩:=h i hi;exact⟨g,o,e,t,λj u hu=>f.cellAt (hc j u hu) (hs g t),hp.fr f hs,hn.fr f hs⟩
theorem cB.calm{T:Nat->Prop}{w w':aj}{v:aC}{l:List Int}(h:cB T w v l)(f:Calm w w'):cB T w' v l:=h.fr f λ_ _=>id
theorem bL.calm{T:Nat->Prop}{w w':aj}{v:aC}{l:List fW}(h:bL T w v l)(f:Calm w w'):bL T w' v l:=h.fr f λ_ _=>id
theorem cB.mono{T T':Nat->Prop}{w:aj}{v:aC}{l:List Int}(h:cB T w v l)(ht:∀b,b<w.heap.size->T b->T' b):cB T' w v l:=by
 obtain⟨a,c,hv,h⟩:=h;refine⟨a,c,hv,λi hi=>?_⟩;obtain⟨g,o,e,t,hc⟩:=h i hi;exact⟨g,o,e,ht g (lM w ⟨g,o+i,none⟩ hc) t,hc⟩
theorem bL.mono{T T':Nat->Prop}{w:aj}{v:aC}{l:List fW}(h:bL T w v l)(ht:∀b,b<w.heap.size->T b->T' b):bL T' w v l:=by
 obtain⟨a,c,hv,h⟩:=h;refine⟨a,c,hv,λi hi=>?_⟩;obtain⟨g,o,e,t,hc,hp,hn⟩:=h i hi;exact⟨g,o,e,ht g (lM w ⟨g,o+i*8+0,none⟩ (hc 0 _ rfl)) t,hc,hp.mono ht,hn.mono ht⟩
def gQ:List Mo->Int->Int->Int
 | [],_,_=>-1
 | x::l,s,i=>if x.ser=s then i else gQ l s (i+1)
theorem BP{s:Int} : ∀ (l:List Mo) (i:Int),(∀x∈l,x.ser≠s)->gQ l s i = -1
 | [],_,_=>rfl
 | x::l,i,h=>by
   unfold gQ;rw[if_neg (h x (.head _))];exact BP l (i+1) λy hy=>h y (.tail _ hy)
theorem KS{s:Int} : ∀ (l:List Mo) (i:Int) (j:Nat),j<l.length->(l.getD j jB).ser=s->(∀k,k<j->(l.getD k jB).ser≠s)->gQ l s i=i+j
 | [],_,j,h,_,_=>by simp at h
 | x::l,i,0,_,h,_=>by
   unfold gQ;rw[if_pos (show x.ser=s from h)];simp
 | x::l,i,j+1,hj,h,hk=>by
   unfold gQ;rw[if_neg (show x.ser≠s from hk 0 (by omega)),KS l (i+1) j (by simpa using hj) h (λk hkj=>hk (k+1) (by omega))]
   push_cast;omega
theorem dZ{T:Nat->Prop}{w:aj}{v:aC}{ms:List fW}(h:bL T w v ms)(hl:ms.length<=100000)(s:Int) :
 aL prog 157 #[v,vI s] w λe w'=>e=.returned (vI (gQ (ms.map (·.x)) s 0))/\Calm w w':=by
 obtain⟨a,c,rfl,hg⟩:=h;obtain⟨n,hn⟩:=au ms.length;rw[hn] at hg hl ⊢
 have dQ:Hid (∀i,i<n->∃g o,a=some ⟨g,o,none⟩/\∀W,Calm w W->W.cell? ⟨g,o+i*8,none⟩=some (vI (ms.getD i bV).x.ser)):=λi hi=>by
  obtain⟨g,o,e,_,hc,_⟩:=hg i hi;exact⟨g,o,e,λW cw=>cw.cellAt (hc 0 _ rfl) id⟩
 have kE:Hid (∀i,i<n->(∀k,k<i->(ms.getD k bV).x.ser≠s)->(ms.getD i bV).x.ser=s->gQ (ms.map (·.x)) s 0=i):=λi hi hk he=>by
  have e:∀k,((ms.map (·.x)).getD k jB)=(ms.getD k bV).x:=λk=>ss (·.x) ms bV k;rw[KS (ms.map (·.x)) 0 i (by rw[List.length_map];omega) (by rw[e];exact he) (λk Se=>by rw[e];exact hk k Se)];omega
 have qV:Hid ((∀k,k<n->(ms.getD k bV).x.ser≠s)->gQ (ms.map (·.x)) s 0 = -1):=λhk=>by
  refine BP _ _ λx hx=>?_;obtain⟨m,hm,rfl⟩:=List.mem_map.1 hx;obtain⟨k,kN,gI⟩:=List.getElem_of_mem hm;have:=hk k (by omega)
  rwa [aS,jI kN,gI] at this
 clear hg hn;go_in;go_wp2_with fail
 go_loopw [8] (λz w'=>∃i:Nat,i<=n/\z=vI i/\(∀k,k<i->(ms.getD k bV).x.ser≠s)/\Calm w w') (λz _=>n-(intOf z).toNat)
 case atStart=>exact⟨0,by omega,rfl,λk hk=>absurd hk (Nat.not_lt_zero k),aq⟩
 case round=>
  obtain⟨i,hi,rfl,hk,cr⟩:=hrel
  by_cases aZ:i<n
  ·obtain⟨g,o,rfl,hc⟩:=dQ.out i aZ;have y0:=hc wr cr;clear hc;have hd:decide ((i:Int)<(n:Int))=true:=decide_eq_true (by omega);obtain⟨x,hx⟩:=au ((ms.getD i bV).x.ser);rw[hx] at y0
   by_cases he:x=s
   ·have hP:=af (kE.out i aZ hk (hx.trans he));have hb:(x==s)=true:=by simp[he]
    replace hk:=af hk;replace hx:=af hx;go_wp2;go_ret;exact⟨by show Ending.returned (vI (i:Int))=_;rw[hP.out],cr⟩
   ·have hb:(x==s)=false:=by simp[he]
    have zP:=af (λk (h1:k<i+1)=>(show(ms.getD k bV).x.ser≠s by
     rcases Nat.lt_or_eq_of_le (Nat.lt_succ_iff.1 h1) with h2|rfl
     ·exact hk k h2
     ·rw[hx];exact he))
    replace hk:=af hk;replace hx:=af hx;go_wp2;exact⟨⟨i+1,by omega,by simp,zP.out,cr⟩,by simp[intOf] <;> omega⟩
  ·have e:i=n:=by omega
   have hd:decide ((i:Int)<(n:Int))=false:=decide_eq_false (by omega);subst e;have hP:=af (qV.out hk);replace hk:=af hk;go_wp2;go_ret;exact⟨by show Ending.returned (vI (-1))=_;rw[hP.out],cr⟩
section
open Go.ChangeShapes Go.WideShapes Go.ChangeAt Go.RowKit
section
variable {H:Type}{enc:TypeId × aC->H}{P:Program}{w:aj}{base:Nat}{spare:Nat->Bool}{held:Bool}
theorem i64_of_wf{n:Int}(h:(Lit.int .i64 n).wf=true):cL n:=bounds_i64 h
end
end
