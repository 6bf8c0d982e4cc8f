import Derived.Test.YtgijglafnlbdbaaGreatTmAG
set_option linter.all false
set_option maxHeartbeats 1000000
set_option maxRecDepth 8000
namespace Go.Proofs.YtgijglafnlbdbaaGreat
open RowKit Shelf Proofs.Tryz
open Go renaming World->aj,Value->aC,Calls->aL
section
theorem Ap(n:Int)(w:aj):aL prog 60 #[vI n] w λe w'=>(∃m:Int,e=.returned (vI m)/\0<=m/\m<=200/\(0<=n->n<=200->m=n))/\w=w':=by
 go_in;go_wp2
 all_goals
  go_ret;exact⟨⟨_,rfl,by omega,by omega,by omega⟩,rfl⟩
def dG(w:aj)(ety:TypeId)(k n:Nat)(xs:List aC)(e:Ending)(w':aj):Prop:=
 ∃v',e=.returned v'/\w'.ownsRow 0 ety k v' n xs/\(∀b,aB v' b->w.heap.size<=b)/\Calm w w'
theorem Rb{w:aj}{v:aC}{n:Nat}{xs:List aC}(h:w.ownsRow 0 3 1 v n xs)(h1:∀u∈xs,u.oneCell'=true)(hl:n<=1000000) :
 aL prog 91 #[v] w (dG w 3 1 n xs):=by
 have qT:∀ (w:aj) (a:Option Addr) (n c n' c':Nat),(binOp .eql 43 (.slice a n c) (.slice none n' c')).run prog w=.ok (.bool a.isNone) w:=λw a n c n' c'=>Lib.run_eql_slice_nil w _ _ a n c n' c' Tryz.underlying43;have hlen:=h.1
 by_cases hn:v=.slice none 0 0
 ·subst hn
  have h0:n=0:=by
   rcases h.2 with ⟨_,h0⟩|⟨g,cap,cur,hv,_⟩
   ·exact h0
   ·cases hv
  have hP:Hid (dG w 3 1 n xs (.returned (.slice none 0 0)) w):=⟨_,rfl,h,λb hb=>(aB.nil b hb).elim,aq⟩;clear h h1;go_in;go_wp2;go_ret;exact hP.out
 ·obtain⟨g,c,rfl,hc⟩:=jf h hn;have dW:=af (λj u hj=>((Fr.refl (λ_=>False) w).alloc (.cells #[] 3)).cellAt (hc j u hj) id);replace h1:=af h1;replace hlen:=af hlen;clear h hn;go_in;go_wp2_with (at_builtin;go_must (refine fI VW rfl _ _ rfl (.slice (some ⟨w.heap.size,0,none⟩) 0 0) 0 [] (uO w 0 (cK _)) rfl ⟨g,0,none⟩ n c xs rfl hlen.out h1.out (λj u hj=>by rw[cT];simp only[fk];exact dW.out j u hj) (by omega) ?_);intro v' w3 fu f3 gD;replace fu:=af fu;replace f3:=af f3;replace gD:=af gD)
  have hP:Hid (dG w 3 1 n xs (.returned v') w3):=by
   refine⟨v',rfl,?_,λb hb=>?_,?_⟩
   ·have:=fu.out;simpa using this
   ·rcases gD.out b hb with e|e
    ·have:=aB.fg e;omega
    ·simp at e;omega
   ·exact Fr.join ((Fr.refl (λ_=>False) w).alloc _) f3.out (λj hj e=>by have:=aB.fg e;omega)
  clear fu f3 gD;go_wp2;go_ret;exact hP.out
theorem Ra{w:aj}{v:aC}{n:Nat}{xs:List aC}(h:w.ownsRow 0 219 2 v n xs)(h1:∀u∈xs,u.oneCell'=true)(hl:n<=1000000) :
 aL prog 176 #[v] w (dG w 219 2 n xs):=by
 have qT:∀ (w:aj) (a:Option Addr) (n c n' c':Nat),(binOp .eql 165 (.slice a n c) (.slice none n' c')).run prog w=.ok (.bool a.isNone) w:=λw a n c n' c'=>Lib.run_eql_slice_nil w _ _ a n c n' c' Tryz.underlying165;have hlen:=h.1
 by_cases hn:v=.slice none 0 0
 ·subst hn
  have h0:n=0:=by
   rcases h.2 with ⟨_,h0⟩|⟨g,cap,cur,hv,_⟩
   ·exact h0
   ·cases hv
  have hP:Hid (dG w 219 2 n xs (.returned (.slice none 0 0)) w):=⟨_,rfl,h,λb hb=>(aB.nil b hb).elim,aq⟩;clear h h1;go_in;go_wp2;go_ret;exact hP.out
 ·obtain⟨g,c,rfl,hc⟩:=jf h hn;have dW:=af (λj u hj=>((Fr.refl (λ_=>False) w).alloc (.cells #[] 219)).cellAt (hc j u hj) id);replace h1:=af h1;replace hlen:=af hlen;clear h hn;go_in;go_wp2_with (at_builtin;go_must (refine fI giH rfl _ _ rfl (.slice (some ⟨w.heap.size,0,none⟩) 0 0) 0 [] (uO w 0 (cK _)) rfl ⟨g,0,none⟩ n c xs rfl hlen.out h1.out (λj u hj=>by rw[cT];simp only[fk];exact dW.out j u hj) (by omega) ?_);intro v' w3 fu f3 gD;replace fu:=af fu;replace f3:=af f3;replace gD:=af gD)
  have hP:Hid (dG w 219 2 n xs (.returned v') w3):=by
   refine⟨v',rfl,?_,λb hb=>?_,?_⟩
   ·have:=fu.out;simpa using this
   ·rcases gD.out b hb with e|e
    ·have:=aB.fg e;omega
    ·simp at e;omega
   ·exact Fr.join ((Fr.refl (λ_=>False) w).alloc _) f3.out (λj hj e=>by have:=aB.fg e;omega)
  clear fu f3 gD;go_wp2;go_ret;exact hP.out
theorem Rc{w:aj}{v:aC}{n:Nat}{xs:List aC}(h:w.ownsRow 0 231 4 v n xs)(h1:∀u∈xs,u.oneCell'=true)(hl:n<=1000000) :
 aL prog 237 #[v] w (dG w 231 4 n xs):=by
 have qT:∀ (w:aj) (a:Option Addr) (n c n' c':Nat),(binOp .eql 166 (.slice a n c) (.slice none n' c')).run prog w=.ok (.bool a.isNone) w:=λw a n c n' c'=>Lib.run_eql_slice_nil w _ _ a n c n' c' Tryz.underlying166;have hlen:=h.1
 by_cases hn:v=.slice none 0 0
 ·subst hn
  have h0:n=0:=by
   rcases h.2 with ⟨_,h0⟩|⟨g,cap,cur,hv,_⟩
   ·exact h0
   ·cases hv
  have hP:Hid (dG w 231 4 n xs (.returned (.slice none 0 0)) w):=⟨_,rfl,h,λb hb=>(aB.nil b hb).elim,aq⟩;clear h h1;go_in;go_wp2;go_ret;exact hP.out
 ·obtain⟨g,c,rfl,hc⟩:=jf h hn;have dW:=af (λj u hj=>((Fr.refl (λ_=>False) w).alloc (.cells #[] 231)).cellAt (hc j u hj) id);replace h1:=af h1;replace hlen:=af hlen;clear h hn;go_in;go_wp2_with (at_builtin;go_must (refine fI giU rfl _ _ rfl (.slice (some ⟨w.heap.size,0,none⟩) 0 0) 0 [] (uO w 0 (cK _)) rfl ⟨g,0,none⟩ n c xs rfl hlen.out h1.out (λj u hj=>by rw[cT];simp only[fk];exact dW.out j u hj) (by omega) ?_);intro v' w3 fu f3 gD;replace fu:=af fu;replace f3:=af f3;replace gD:=af gD)
  have hP:Hid (dG w 231 4 n xs (.returned v') w3):=by
   refine⟨v',rfl,?_,λb hb=>?_,?_⟩
   ·have:=fu.out;simpa using this
   ·rcases gD.out b hb with e|e
    ·have:=aB.fg e;omega
    ·simp at e;omega
   ·exact Fr.join ((Fr.refl (λ_=>False) w).alloc _) f3.out (λj hj e=>by have:=aB.fg e;omega)
  clear fu f3 gD;go_wp2;go_ret;exact hP.out
section
variable {w:aj}{τ:Nat->Nat}{M:Mem}{g lp:Nat}{L:iB}
theorem NG(l:List Hd):∀u∈l.flatMap Ct,u.oneCell'=true:=by
 intro u hu;obtain⟨x,_,hx⟩:=List.mem_flatMap.1 hu;simp[Ct] at hx;rcases hx with rfl|rfl <;> rfl
theorem Pw(l:List Ud):∀u∈l.flatMap wC,u.oneCell'=true:=by
 intro u hu;obtain⟨x,_,hx⟩:=List.mem_flatMap.1 hu;simp[wC] at hx;rcases hx with rfl|rfl|rfl|rfl <;> rfl
theorem Ot(l:List Int):∀u∈lu l,u.oneCell'=true:=by
 intro u hu;obtain⟨x,_,rfl⟩:=List.mem_map.1 hu;rfl
theorem xq(h:bF w τ M)(hl:cG M g lp L)(mZ:L.reads.length<=100000) :
 aL prog 125 #[pV lp] w (dG w 3 1 L.reads.length (lu (nI L.reads))):=by
 have hc:=hl.cells h;have y0:=(hc 2 _ rfl).1;have hr:=hl.Yn h;have sx:=af (Rb (n:=L.reads.length) (by have:=hr;unfold bm at this;rw[show(nI L.reads).length=L.reads.length by simp] at this;exact this) (Ot _) (by omega))
 obtain⟨sa,sn,sc,hv⟩:∃a n c,L.vr=.slice a n c:=by
  exact hr.letters
 rw[hv] at y0 sx;clear h hl hc hr;go_in;go_wp2_with fail
 refine sx.out.mono ?_;rintro e w1 ⟨v',rfl,jF,jM,c1⟩;replace jF:=af jF;replace jM:=af jM;replace c1:=af c1;go_wp2;go_ret;exact⟨v',rfl,jF.out,jM.out,c1.out⟩
theorem xo(h:bF w τ M)(hl:cG M g lp L)(mZ:L.holds.length<=100000) :
 aL prog 123 #[pV lp] w (dG w 219 2 L.holds.length (L.holds.flatMap Ct)):=by
 have hc:=hl.cells h;have y0:=(hc 4 _ rfl).1;have hr:=hl.Ym h;have sx:=af (Ra (n:=L.holds.length) (by exact hr) (NG _) (by omega))
 obtain⟨sa,sn,sc,hv⟩:∃a n c,L.vh=.slice a n c:=by
  obtain⟨a,c,e⟩:=aG hr;exact⟨a,_,c,e⟩
 rw[hv] at y0 sx;clear h hl hc hr;go_in;go_wp2_with fail
 refine sx.out.mono ?_;rintro e w1 ⟨v',rfl,jF,jM,c1⟩;replace jF:=af jF;replace jM:=af jM;replace c1:=af c1;go_wp2;go_ret;exact⟨v',rfl,jF.out,jM.out,c1.out⟩
theorem GO(h:bF w τ M)(hl:cG M g lp L)(mZ:L.aQ.length<=100000) :
 aL prog 198 #[pV lp] w (dG w 231 4 L.aQ.length (L.aQ.flatMap wC)):=by
 have hc:=hl.cells h;have y0:=(hc 5 _ rfl).1;have hr:=hl.Yo h;have sx:=af (Rc (n:=L.aQ.length) (by exact hr) (Pw _) (by omega))
 obtain⟨sa,sn,sc,hv⟩:∃a n c,L.vu=.slice a n c:=by
  obtain⟨a,c,e⟩:=aG hr;exact⟨a,_,c,e⟩
 rw[hv] at y0 sx;clear h hl hc hr;go_in;go_wp2_with fail
 refine sx.out.mono ?_;rintro e w1 ⟨v',rfl,jF,jM,c1⟩;replace jF:=af jF;replace jM:=af jM;replace c1:=af c1;go_wp2;go_ret;exact⟨v',rfl,jF.out,jM.out,c1.out⟩
end
def iB.new(mr mu:Int):iB:=⟨mr,mu,.slice none 0 0,.slice none 0 0,.slice none 0 0,.slice none 0 0,[],[],[],[]⟩
theorem Ox(w:aj)(r u:Int):aL prog 39 #[vI r,vI u] w λe w'=>∃mr mu:Int,e=.returned (pV w.heap.size)/\ag w' w.heap.size [vI mr,vI mu,.slice none 0 0,.slice none 0 0,.slice none 0 0,.slice none 0 0]/\Calm w w'/\0<=mr/\mr<=200/\0<=mu/\mu<=200:=by
 go_in;go_wp2_with fail
 refine(Ap r _).mono ?_;rintro e w1 ⟨⟨mr,rfl,a1,a2,-⟩,rfl⟩;go_wp2_with fail
 refine(Ap u _).mono ?_;rintro e w2 ⟨⟨mu,rfl,b1,b2,-⟩,rfl⟩;go_wp2;go_ret;exact⟨mr,mu,rfl,ag.new w [vI mr,vI mu,.slice none 0 0,.slice none 0 0,.slice none 0 0,.slice none 0 0] _,aq.alloc _,a1,a2,b1,b2⟩
end
section
def ID(Qp:aj->Prop)(F:Fence)(n:Nat)(P:Program)(g:Nat)(lb:Array aC)(el:Nat->Array aC)(N:Nat)(fin:Bool)(w0:aj):Prop:=
 ∀ (l:Nat) (J:(Nat->Prop)->Nat->aj->Prop) (Jx:aj->Prop) (W:aj),w0.heap.size<=W.heap.size->(∀X k A,J X k A->Qp A) ->
   (∀X k A B,J X k A->Calm A B->J X k B)->(∀X k A o,J X k A->J (λb=>X b\/b=A.heap.size) k (A.alloc o))->(∀A B,Jx A->Calm A B->Jx B)->(fin=false->∀X W,¬J X N W) ->
   (∀X k W1,k<N->J X k W1->YieldAt F (n-1) P l (el k) W1 λe W'=>
    (e=.returned (.bool true)/\J X (k+1) W'/\cS X W1 W')\/(e=.returned (.bool false)/\Jx W')) ->
   J (λ_=>False) 0 W ->
   CallsIn F n P g (#[.func (.yield l) #[] #[]]++lb) W λe W'=>(∃v,e=.returned v)/\((∃X,J X N W')\/Jx W')
variable {F:Fence}{n:Nat}{P:Program}
theorem Ci{Qp:aj->Prop}{g:Operand}{ps:Array Tmp}{assign body:Code}{Q:Exit->Act->aj->Prop}{a:Act}{w:aj}
 (hro:F.round=none) (h1:1<=n) {gf:Nat} {lb:Array aC} (hg:a.eval g=.func (.func gf) #[] lb) (hFg:F.fn gf) (eg:∀args w,(callFunc gf args).run P w=.ok (.enter gf args) w)
 {el:Nat->Array aC} {N:Nat} {fin:Bool} {w0:aj} (Sy:ID Qp F (n-1) P gf lb el N fin w0) (ic:w0.heap.size<=w.heap.size) (Gv:∀k,(el k).size=ps.size)
 (I:(Nat->Prop)->Nat->aj->Prop) (xV:(Nat->Prop)->Nat->Act->aj->Prop) (Ix:Code->aj->Prop)
 (hI:∀X k A B,I X k A->nE w.heap.size A B->I X k B) (AH:∀X k a' A B,xV X k a' A->nE w.heap.size A B->xV X k a' B)
 (hG:∀X k A o,I X k A->(∀b,X b->b<A.heap.size)->I (λb=>X b\/b=A.heap.size) k (A.alloc o)) (hQ:∀X k A,I X k A->Qp A) (hIx:∀c A B,Ix c A->nE w.heap.size A B->Ix c B)
 (hN:fin=false->∀X W,¬I X N W) (h0:I (λ_=>False) 0 w)
 (pX:∀ (l:Nat) (X:Nat->Prop) (k:Nat) (W:aj),k<N->I X k W->(∀b,X b->b<W.heap.size)->w.heap.size+1<W.heap.size ->
  assign.wpIn (F.inRound l) (n-1-1) P (Exit.then (λa' W'=>cS (λb=>X b\/b=w.heap.size\/b=w.heap.size+1) W W'/\xV X k a' W') (λ_ _ _=>False)) { tmps:=(ps.zip (el k)).foldl (λt (p,v)=>t.setIfInBounds p v) a.tmps,defers:=[] } W)
 (AM:∀ (l:Nat) (X:Nat->Prop) (k:Nat) (a':Act) (W:aj),k<N->xV X k a' W->(∀b,X b->b<W.heap.size)->w.heap.size+1<W.heap.size->body.wpIn (F.inRound l) (n-1-1) P (rY X w.heap.size (I X (k+1)) Ix W) a' W)
 (mj:∀ (X:Nat->Prop) (W:aj),fin=true->I X N W->W.heap[w.heap.size]?=some (.deferred (some []))->Q .normal { a with defers:={ target:=.collected w.heap.size,args:=#[] } :: a.defers } W)
 (Bp:∀ (c:Code) (W:aj),Ix c W->W.heap[w.heap.size]?=some (.deferred (some []))->c.wpIn F n P Q { a with defers:={ target:=.collected w.heap.size,args:=#[] } :: a.defers } W) :
 (Code.rangeFunc g ps assign body).wpIn F n P Q a w:=by
 obtain⟨D,hD⟩:∃D,w.heap.size=D:=⟨_,rfl⟩;rw[hD] at hI AH hIx pX AM mj Bp;refine wpIn_rangeFunc ?_;intro fn hfn;rw[hro];obtain⟨rec,kP⟩:∃rec:LoopState->Option Code->Loop,rec=λst pe=>{ state:=st,pending:=pe,fn,tmps:=a.tmps,params:=ps,assign,body,defers:=w.heap.size }:=⟨_,rfl⟩;obtain⟨W1,iM⟩:∃W1,(w.alloc (.deferred (some []))).alloc (.loop (rec .ready none))=W1:=⟨_,rfl⟩
 have hL1:W1.heap[D+1]?=some (.loop (rec .ready none)):=by
  rw[<-iM,<-hD];have:=World.alloc_heap_new (w.alloc (.deferred (some []))) (.loop (rec .ready none));rwa [World.size_alloc] at this
 have hK1:W1.heap[D]?=some (.deferred (some [])):=by
  rw[<-iM,<-hD];exact(Below.heap_alloc _ _ _ (by simp)).trans (World.alloc_heap_new w _)
 have gC:Calm w W1:=by rw[<-iM];exact((Fr.refl _ w).alloc _).alloc _
 have hI1:I (λ_=>False) 0 W1:=hI _ 0 _ _ h0 gC.any
 refine⟨w.heap.size+1,[{ target:=.collected w.heap.size,args:=#[] }],W1,{ target:=.fn (.func gf) lb,args:=#[.func (.yield (w.heap.size+1)) #[] #[]] },W1,gf,
  #[.func (.yield (w.heap.size+1)) #[] #[]]++lb,W1,?_,?_,?_,?_,λ_=>h1,?_⟩
 ·rw[<-iM,kP];exact run_enterLoop_outer _ _ _ _ _
 ·simp only[resolve,hg];simp[go_sem]
 ·intro f' WC;simp[Target.leads] at WC;subst WC;exact hFg
 ·simp[invoke,go_sem,eg]
 ·have put:∀ {W:aj} {r:Loop} (o:Obj),W.heap[D+1]?=some (.loop r)->nE D W (W.putObj (D+1) o):=λo _=>(Fr.refl _ _).putObj (.inl (.inr rfl)) o;rw[hD]
  refine(Sy (D+1)
   (λX k W=>I X k W/\W.heap[D+1]?=some (.loop (rec .ready none))/\W.heap[D]?=some (.deferred (some []))/\∀b,X b->b≠D/\b≠D+1/\b<W.heap.size)
   (λW=>∃c,Ix c W/\W.heap[D+1]?=some (.loop (rec .done (some c)))/\W.heap[D]?=some (.deferred (some [])))
   W1 (Nat.le_trans ic gC.size) (λX k A h=>hQ X k A h.1) ?_ ?_ ?_ (λhf X W h=>hN hf X W h.1) ?_ ⟨hI1,hL1,hK1,λb hb=>hb.elim⟩).mono ?_
  ·rintro X k A B ⟨hi,hl,hk,hh⟩ hc;exact⟨hI X k A B hi hc.any,(hc.block _ (Array.getElem?_eq_some_iff.1 hl).1 id).trans hl,(hc.block _ (Array.getElem?_eq_some_iff.1 hk).1 id).trans hk,λb hb=>⟨(hh b hb).1,(hh b hb).2.1,Nat.lt_of_lt_of_le (hh b hb).2.2 hc.size⟩⟩
  ·rintro X k A o ⟨hi,hl,hk,hh⟩;have aZ:D+1<A.heap.size:=(Array.getElem?_eq_some_iff.1 hl).1;have hc:Calm A (A.alloc o):=(Fr.refl _ _).alloc _;refine⟨hG X k A o hi (λb hb=>(hh b hb).2.2),(hc.block _ aZ id).trans hl,(hc.block _ (by omega) id).trans hk,λb hb=>?_⟩;have hs:(A.alloc o).heap.size=A.heap.size+1:=World.size_alloc _ _;rcases hb with hb|rfl
   ·have:=hh b hb;exact⟨this.1,this.2.1,by omega⟩
   ·exact⟨by omega,by omega,by omega⟩
  ·rintro A B ⟨c,hi,hl,hk⟩ hc;exact⟨c,hIx c A B hi hc.any,(hc.block _ (Array.getElem?_eq_some_iff.1 hl).1 id).trans hl,(hc.block _ (Array.getElem?_eq_some_iff.1 hk).1 id).trans hk⟩
  ·rintro X k W Mk ⟨hi,hl,hk,hh⟩;have aZ:D+1<W.heap.size:=(Array.getElem?_eq_some_iff.1 hl).1;have hy:=run_yield (P:=P) (args:=el k) hl (by rw[kP];exact Gv k);rw[kP] at hy;refine⟨fn,_,assign,body,hy,roundIn_of_wpIn hfn (wpIn_mono (pX (D+1) X k W Mk hi (λb hb=>(hh b hb).2.2) aZ) ?_)⟩;rintro e a1 Wa hp
   cases e with
   | normal=>
     obtain⟨JD,hia⟩:=hp;have JE:=(JD.2 (D+1) (.inr (.inr rfl))).trans hl;have Sd:=(JD.2 D (.inr (.inl rfl))).trans hk;have JF:D+1<Wa.heap.size:=Nat.lt_of_lt_of_le aZ JD.1;refine⟨_,run_beginRound JE (by rw[kP]),?_⟩;have td:(Wa.putObj (D+1) (.loop { rec .ready none with state:=.busy })).heap[D+1]?=some (.loop { rec .ready none with state:=.busy }):=World.putObj_heap_same JF;have gI:(Wa.putObj (D+1) (.loop { rec .ready none with state:=.busy })).heap[D]?=some (.deferred (some [])):=(World.putObj_heap_other (by omega)).trans Sd;have Dl:∀ (Y:aj) (o:Obj),cS X Y (Y.putObj (D+1) o):=λY o=>⟨by simp,λb hb=>World.putObj_heap_other (by have:=hh b hb;omega)⟩;refine wpIn_mono (AM (D+1) X k a1 _ Mk (AH X k a1 _ _ hia (put _ JE)) (λb hb=>by simp;exact Nat.lt_of_lt_of_le (hh b hb).2.2 JD.1) (by simp;exact JF)) ?_
     have yp:∀ (jump:Option Code) (W3:aj),cS (λb=>b=D\/b=D+1) (Wa.putObj (D+1) (.loop { rec .ready none with state:=.busy })) W3 ->
      (Instr.endRound (D+1) jump).run P W3=.ok (.bool jump.isNone) (W3.putObj (D+1) (.loop (rec (if jump.isNone then .ready else .done) jump))) /\
      nE D W3 (W3.putObj (D+1) (.loop (rec (if jump.isNone then .ready else .done) jump))) /\
      (W3.putObj (D+1) (.loop (rec (if jump.isNone then .ready else .done) jump))).heap[D+1]?=some (.loop (rec (if jump.isNone then .ready else .done) jump)) /\
      (W3.putObj (D+1) (.loop (rec (if jump.isNone then .ready else .done) jump))).heap[D]?=some (.deferred (some [])):=λjump W3 lT=>by
      have pC:=(lT.2 (D+1) (.inr rfl)).trans td;have NR:=(lT.2 D (.inl rfl)).trans gI;have:=run_endRound (P:=P) jump pC;have WX:=put (.loop (rec (if jump.isNone then .ready else .done) jump)) pC;rw[kP] at this WX ⊢;exact⟨this,WX,World.putObj_heap_same (Array.getElem?_eq_some_iff.1 pC).1,(World.putObj_heap_other (by omega)).trans NR⟩
     rintro e a3 W3 hp
     cases e with
     | normal=>
       obtain⟨lT,yJ⟩:=hp;obtain⟨hr,pC,vx,Df⟩:=yp none W3 (lT.mono (λb hb=>.inr hb));exact⟨_,_,hr,.inl ⟨rfl,⟨hI _ _ _ _ yJ pC,vx,Df,λb hb=>⟨(hh b hb).1,(hh b hb).2.1,Nat.lt_of_lt_of_le (hh b hb).2.2 (Nat.le_trans JD.1 (Nat.le_trans (Dl _ _).1 (Nat.le_trans lT.1 (Dl _ _).1)))⟩⟩,(JD.mono (λb hb=>.inl hb)).trans ((Dl _ _).trans ((lT.mono (λb hb=>.inl hb)).trans (Dl _ _)))⟩⟩
     | ret=>
       obtain⟨lT,yJ⟩:=hp;obtain⟨hr,pC,vx,Df⟩:=yp (some .ret) W3 lT;exact⟨_,_,hr,.inr ⟨rfl,.ret,hIx _ _ _ yJ pC,vx,Df⟩⟩
     | exit id=>
       obtain⟨lT,yJ⟩:=hp;obtain⟨hr,pC,vx,Df⟩:=yp (some (.exit id)) W3 lT;exact⟨_,_,hr,.inr ⟨rfl,.exit id,hIx _ _ _ yJ pC,vx,Df⟩⟩
     | goto t=>
       obtain⟨lT,yJ⟩:=hp;obtain⟨hr,pC,vx,Df⟩:=yp (some (.goto t)) W3 lT;exact⟨_,_,hr,.inr ⟨rfl,.goto t,hIx _ _ _ yJ pC,vx,Df⟩⟩
     | panic ch=>exact hp.elim
     | outgrown=>exact hp.elim
   | exit id=>exact hp.elim
   | goto t=>exact hp.elim
   | ret=>exact hp.elim
   | panic chain=>exact hp.elim
   | outgrown=>exact hp.elim
  ·rintro e W2 ⟨⟨v,rfl⟩,(⟨X,hi,hl,hk,_⟩|⟨c,hi,hl,hk⟩)⟩
   ·have dh:fin=true:=by
     cases hf:fin with
     | true=>rfl
     | false=>exact(hN hf _ _ hi).elim
    exact⟨none,_,by have:=run_endLoop (P:=P) hl (by rw[kP];simp);rw[kP] at this;exact this,mj _ _ dh (hI _ _ _ _ hi (put _ hl)) ((World.putObj_heap_other (by omega)).trans hk)⟩
   ·exact⟨some c,_,by have:=run_endLoop (P:=P) hl (by rw[kP];simp);rw[kP] at this;exact this,Bp c _ (hIx c _ _ hi (put _ hl)) ((World.putObj_heap_other (by omega)).trans hk)⟩
end
section
section
variable {L:iB}{br bk bh bu:Nat}
end
end
section
section
variable {w:aj}{τ:Nat->Nat}{M:Mem}{g lp:Nat}{L:iB}
def Q2(u:Ud):Prop:=u.at_<=131072/\cL u.cC/\(u.kind=1->0<=u.cC/\u.cC<=131072)
end
section
variable {w:aj}{τ:Nat->Nat}{M:Mem}{g lp:Nat}{L:iB}
end
end
structure Vi(L:iB):Prop where
 r:∀p∈L.reads,p<=131072
 k:∀p∈L.keeps,p<=131072
 h:∀x∈L.holds,x.at_<=131072/\cL x.bt
 u:∀u∈L.aQ,Q2 u/\cL u.kind/\cL u.i
theorem tZ{c i:Nat}{now:Int}{w:aj}(h:w.cell? ⟨c,i,none⟩=some (vI now)):aL prog 82 #[.pointer (some ⟨c,i,none⟩)] w λe w'=>e=.returned (vI now)/\w'=w:=by
 have hl:=run_call_load (P:=prog) func151 (by kernel_rfl) (by kernel_rfl) (by kernel_rfl) .i64 (by kernel_rfl) h;go_in;go_wp2;go_ret;exact⟨rfl,rfl⟩
theorem MQ{c i:Nat}{now y:Int}{w:aj}(h:w.cell? ⟨c,i,none⟩=some (vI now))(hf:w.frozen? ⟨c,i,none⟩=false):aL prog 180 #[.pointer (some ⟨c,i,none⟩),vI now,vI y] w λe w'=>e=.returned (.bool true)/\w'=w.setCell ⟨c,i,none⟩ (vI y):=by
 have hl:=run_call_cas_hit (P:=prog) func220 (by kernel_rfl) (by kernel_rfl) (by kernel_rfl) .i64 (by kernel_rfl) (y:=y) h hf;go_in;go_wp2;go_ret;exact⟨rfl,rfl⟩
theorem Ge(w:aj)(n:Int):aL prog 38 #[vI n] w λe w'=>∃m:Int,e=.returned (pV w.heap.size)/\0<=m/\m<=1099511627776/\(0<=n->n<=1099511627776->m=n)/\ag w' w.heap.size [vI (0:Nat),vI m]/\Calm w w':=by
 go_in;go_wp2
 all_goals first
  | (go_ret;exact⟨rfl,_,by omega,by omega,by omega,ag.new w [vI 0,vI _] _,aq.alloc _⟩)
theorem qL{w:aj}{c:Nat}{now:Int}(h:Own w c 0 (vI now)):aL prog 46 #[pV c] w λe w'=>e=.returned (vI now)/\w'=w:=by
 have h1:=h.1;go_in;go_wp2_with (go_at_call 82;refine(tZ h1).mono ?_;rintro e w' ⟨rfl,rfl⟩)
 go_ret;exact⟨rfl,rfl⟩
def FK(now:Nat)(aW:Int):Prop:=0<=aW/\aW<=1099511627776/\now<=1099511627776
theorem Gd{w:aj}{c now:Nat}{aW:Int}(h:ag w c [vI (now:Int),vI aW])(ho:FK now aW)(n:Nat)(hn:n<=1000):aL prog 119 #[pV c,vI (n:Int)] w λe w'=>(∃b:Bool,e=.returned (.bool b)/\(b=true↔(now:Int)+n<=aW))/\Calm w w':=by
 have h0:=h 0 _ rfl;have h1:=(h 1 _ rfl).1;obtain⟨o1,o2,o3⟩:=ho;have fL:IntKind.i64.wrap (aW-now)=aW-now:=IntWalk.i64_in _ (by omega);have EP:((0:Int)<=n):=by omega
 go_in;go_wp2_with fail
 have q0:∀x:bS w,x.w.cell? ⟨c,0,none⟩=some (vI (now:Int)):=λx=>x.cell h0.1;have q1:∀x:bS w,x.w.cell? ⟨c,1,none⟩=some (vI aW):=λx=>x.cell h1;refine bP (by kernel_rfl) (by kernel_rfl) ?_
 repeat (go_big_quiet_step ((go_at_call 46;exact Calls.fR ((qL (h0.calm (bS.calm _))).mono (λe w' h=>⟨h.1,by rw[h.2];exact aq⟩)))))
 refine wpQuiet_nil ?_;intro V2 hw';have c4:=bS.out hw';clear hw' q0 q1;go_wp2;go_ret;refine⟨⟨_,rfl,?_⟩,c4⟩;simp[EP];omega
theorem CL{w:aj}{c now:Nat}{aW:Int}(h:ag w c [vI (now:Int),vI aW])(ho:FK now aW):aL prog 127 #[pV c] w λe w'=>∃ (v kT:Nat) (b:Bool),e=.returned (.tuple #[vI (v:Int),.bool b])/\ag w' c [vI (kT:Int),vI aW]/\FK kT aW/\(v<=1099511627776/\v<=kT/\now<=kT/\kT<=now+1)/\((now:Int)<aW->v=now+1/\kT=now+1)/\Fr (λb=>b=c) w w':=by
 have h0:=h 0 _ rfl;have h1:=(h 1 _ rfl).1;have RD:=h0.1;have h01:=h0.2;obtain⟨o1,o2,o3⟩:=ho;have fL:IntKind.i64.wrap ((now:Int)+1)=now+1:=IntWalk.i64_in _ (by omega);have hF:=l_ w (c) 0 (vI ((now:Int)+1));go_in;go_wp2_with fail
 refine wp_loop_once ?_
 by_cases hm:aW<=now
 ·go_wp2_with (go_at_call 82;refine(tZ h0.1).mono ?_;rintro e w' ⟨rfl,rfl⟩)
  go_ret2
  exact⟨0,now,false,rfl,h,⟨o1,o2,o3⟩,⟨by omega,by omega,by omega,by omega⟩,λh=>by omega,aq⟩
 ·go_wp2_with (go_at_call 82;refine(tZ h0.1).mono ?_;rintro e w' ⟨rfl,rfl⟩)
  go_wp2_with (go_at_call 180;refine(MQ h0.1 h0.2).mono ?_;rintro e w' ⟨rfl,rfl⟩)
  go_ret2
  refine⟨now+1,now+1,true,?_,?_,⟨o1,o2,by omega⟩,⟨by omega,by omega,by omega,by omega⟩,λ_=>⟨rfl,rfl⟩,hF⟩
  ·rw[show((now+1:Nat):Int)=(now:Int)+1 by omega];rfl
  ·have:=h.set 0 (vI ((now:Int)+1)) (by simp);rw[show((now+1:Nat):Int)=(now:Int)+1 by omega];exact this
