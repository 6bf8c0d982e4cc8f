import Derived.Test.YtgijglafnlbdbaaGreatTmAJ
set_option linter.all false
set_option maxHeartbeats 4000000
set_option maxRecDepth 8000
namespace Go.Proofs.YtgijglafnlbdbaaGreat
open RowKit Shelf Proofs.Tryz
open Go renaming World->ag,Value->aA,Calls->aJ
section
theorem Bf(n:Int)(w:ag):aJ prog 60 #[vI n] w λe w'=>(∃m:Int,e=.returned (vI m)/\0<=m/\m<=200/\(0<=n->n<=200->m=n))/\w=w':=by
 go_in;go_wp2
 all_goals
  go_ret;exact⟨⟨_,rfl,by omega,by omega,by omega⟩,rfl⟩
def dX(w:ag)(ety:TypeId)(k n:Nat)(xs:List aA)(e:Ending)(w':ag):Prop:=
 ∃v',e=.returned v'/\w'.ownsRow 0 ety k v' n xs/\(∀b,ay v' b->w.heap.size<=b)/\Calm w w'
theorem DV{w:ag}{v:aA}{n:Nat}{xs:List aA}(h:w.ownsRow 0 3 1 v n xs)(h1:∀u∈xs,u.oneCell'=true)(hl:n<=1000000) :
 aJ prog 91 #[v] w (dX w 3 1 n xs):=by
 have qT:∀ (w:ag) (a:Option Addr) (n c n' c':Nat),(binOp .eql 43 (.slice a n c) (.slice none n' c')).run prog w=.ok (.bool a.isNone) w:=λw a n c n' c'=>Lib.run_eql_slice_nil w _ _ a n c n' c' Tryz.underlying43;have hlen:=h.1
 by_cases hn:v=.slice none 0 0
 ·subst hn
  have h0:n=0:=by
   rcases h.2 with ⟨_,h0⟩|⟨g,cap,cur,hv,_⟩
   ·exact h0
   ·cases hv
  have hP:Hid (dX w 3 1 n xs (.returned (.slice none 0 0)) w):=⟨_,rfl,h,λb hb=>(ay.nil b hb).elim,ah⟩;clear h h1;go_in;go_wp2;go_ret;exact hP.out
 ·obtain⟨g,c,rfl,hc⟩:=iX h hn;have dJ:=hid (λj u hj=>((Fr.refl (λ_=>False) w).alloc (.cells #[] 3)).cellAt (hc j u hj) id);replace h1:=hid h1;replace hlen:=hid hlen;clear h hn;go_in;go_wp2_with (at_builtin;go_must (refine fh giN rfl _ _ rfl (.slice (some ⟨w.heap.size,0,none⟩) 0 0) 0 [] (vA w 0 (bY _)) rfl ⟨g,0,none⟩ n c xs rfl hlen.out h1.out (λj u hj=>by rw[dM];simp only[ia];exact dJ.out j u hj) (by omega) ?_);intro v' w3 fp f3 ld;replace fp:=hid fp;replace f3:=hid f3;replace ld:=hid ld)
  have hP:Hid (dX w 3 1 n xs (.returned v') w3):=by
   refine⟨v',rfl,?_,λb hb=>?_,?_⟩
   ·have:=fp.out;simpa using this
   ·rcases ld.out b hb with e|e
    ·have:=ay.fJ e;omega
    ·simp at e;omega
   ·exact Fr.join ((Fr.refl (λ_=>False) w).alloc _) f3.out (λj hj e=>by have:=ay.fJ e;omega)
  clear fp f3 ld;go_wp2;go_ret;exact hP.out
theorem Tv{w:ag}{v:aA}{n:Nat}{xs:List aA}(h:w.ownsRow 0 219 2 v n xs)(h1:∀u∈xs,u.oneCell'=true)(hl:n<=1000000) :
 aJ prog 176 #[v] w (dX w 219 2 n xs):=by
 have qT:∀ (w:ag) (a:Option Addr) (n c n' c':Nat),(binOp .eql 165 (.slice a n c) (.slice none n' c')).run prog w=.ok (.bool a.isNone) w:=λw a n c n' c'=>Lib.run_eql_slice_nil w _ _ a n c n' c' Tryz.underlying165;have hlen:=h.1
 by_cases hn:v=.slice none 0 0
 ·subst hn
  have h0:n=0:=by
   rcases h.2 with ⟨_,h0⟩|⟨g,cap,cur,hv,_⟩
   ·exact h0
   ·cases hv
  have hP:Hid (dX w 219 2 n xs (.returned (.slice none 0 0)) w):=⟨_,rfl,h,λb hb=>(ay.nil b hb).elim,ah⟩;clear h h1;go_in;go_wp2;go_ret;exact hP.out
 ·obtain⟨g,c,rfl,hc⟩:=iX h hn;have dJ:=hid (λj u hj=>((Fr.refl (λ_=>False) w).alloc (.cells #[] 219)).cellAt (hc j u hj) id);replace h1:=hid h1;replace hlen:=hid hlen;clear h hn;go_in;go_wp2_with (at_builtin;go_must (refine fh giH rfl _ _ rfl (.slice (some ⟨w.heap.size,0,none⟩) 0 0) 0 [] (vA w 0 (bY _)) rfl ⟨g,0,none⟩ n c xs rfl hlen.out h1.out (λj u hj=>by rw[dM];simp only[ia];exact dJ.out j u hj) (by omega) ?_);intro v' w3 fp f3 ld;replace fp:=hid fp;replace f3:=hid f3;replace ld:=hid ld)
  have hP:Hid (dX w 219 2 n xs (.returned v') w3):=by
   refine⟨v',rfl,?_,λb hb=>?_,?_⟩
   ·have:=fp.out;simpa using this
   ·rcases ld.out b hb with e|e
    ·have:=ay.fJ e;omega
    ·simp at e;omega
   ·exact Fr.join ((Fr.refl (λ_=>False) w).alloc _) f3.out (λj hj e=>by have:=ay.fJ e;omega)
  clear fp f3 ld;go_wp2;go_ret;exact hP.out
theorem Tx{w:ag}{v:aA}{n:Nat}{xs:List aA}(h:w.ownsRow 0 231 4 v n xs)(h1:∀u∈xs,u.oneCell'=true)(hl:n<=1000000) :
 aJ prog 237 #[v] w (dX w 231 4 n xs):=by
 have qT:∀ (w:ag) (a:Option Addr) (n c n' c':Nat),(binOp .eql 166 (.slice a n c) (.slice none n' c')).run prog w=.ok (.bool a.isNone) w:=λw a n c n' c'=>Lib.run_eql_slice_nil w _ _ a n c n' c' Tryz.underlying166;have hlen:=h.1
 by_cases hn:v=.slice none 0 0
 ·subst hn
  have h0:n=0:=by
   rcases h.2 with ⟨_,h0⟩|⟨g,cap,cur,hv,_⟩
   ·exact h0
   ·cases hv
  have hP:Hid (dX w 231 4 n xs (.returned (.slice none 0 0)) w):=⟨_,rfl,h,λb hb=>(ay.nil b hb).elim,ah⟩;clear h h1;go_in;go_wp2;go_ret;exact hP.out
 ·obtain⟨g,c,rfl,hc⟩:=iX h hn;have dJ:=hid (λj u hj=>((Fr.refl (λ_=>False) w).alloc (.cells #[] 231)).cellAt (hc j u hj) id);replace h1:=hid h1;replace hlen:=hid hlen;clear h hn;go_in;go_wp2_with (at_builtin;go_must (refine fh giU rfl _ _ rfl (.slice (some ⟨w.heap.size,0,none⟩) 0 0) 0 [] (vA w 0 (bY _)) rfl ⟨g,0,none⟩ n c xs rfl hlen.out h1.out (λj u hj=>by rw[dM];simp only[ia];exact dJ.out j u hj) (by omega) ?_);intro v' w3 fp f3 ld;replace fp:=hid fp;replace f3:=hid f3;replace ld:=hid ld)
  have hP:Hid (dX w 231 4 n xs (.returned v') w3):=by
   refine⟨v',rfl,?_,λb hb=>?_,?_⟩
   ·have:=fp.out;simpa using this
   ·rcases ld.out b hb with e|e
    ·have:=ay.fJ e;omega
    ·simp at e;omega
   ·exact Fr.join ((Fr.refl (λ_=>False) w).alloc _) f3.out (λj hj e=>by have:=ay.fJ e;omega)
  clear fp f3 ld;go_wp2;go_ret;exact hP.out
section
variable {w:ag}{τ:Nat->Nat}{M:Mem}{g lp:Nat}{L:cd}
theorem PJ(l:List Hd):∀u∈l.flatMap wM,u.oneCell'=true:=by
 intro u hu;obtain⟨x,_,hx⟩:=List.mem_flatMap.1 hu;simp[wM] at hx;rcases hx with rfl|rfl <;> rfl
theorem Q3(l:List Ud):∀u∈l.flatMap qL,u.oneCell'=true:=by
 intro u hu;obtain⟨x,_,hx⟩:=List.mem_flatMap.1 hu;simp[qL] at hx;rcases hx with rfl|rfl|rfl|rfl <;> rfl
theorem zK(l:List Int):∀u∈lj l,u.oneCell'=true:=by
 intro u hu;obtain⟨x,_,rfl⟩:=List.mem_map.1 hu;rfl
theorem yk(h:bE w τ M)(hl:cg M g lp L)(jq:L.reads.length<=100000) :
 aJ prog 125 #[pV lp] w (dX w 3 1 L.reads.length (lj (nI L.reads))):=by
 have hc:=hl.cells h;have y0:=(hc 2 _ rfl).1;have hr:=hl.QI h;have k_:=hid (DV (n:=L.reads.length) (by have:=hr;unfold aI at this;rw[show(nI L.reads).length=L.reads.length by simp] at this;exact this) (zK _) (by omega))
 obtain⟨sa,sn,sc,hv⟩:∃a n c,L.vr=.slice a n c:=by
  exact hr.letters
 rw[hv] at y0 k_;clear h hl hc hr;go_in;go_wp2_with fail
 refine k_.out.mono ?_;rintro e w1 ⟨v',rfl,gA,rh,c1⟩;replace gA:=hid gA;replace rh:=hid rh;replace c1:=hid c1;go_wp2;go_ret;exact⟨v',rfl,gA.out,rh.out,c1.out⟩
theorem yj(h:bE w τ M)(hl:cg M g lp L)(jq:L.holds.length<=100000) :
 aJ prog 123 #[pV lp] w (dX w 219 2 L.holds.length (L.holds.flatMap wM)):=by
 have hc:=hl.cells h;have y0:=(hc 4 _ rfl).1;have hr:=hl.QH h;have k_:=hid (Tv (n:=L.holds.length) (by exact hr) (PJ _) (by omega))
 obtain⟨sa,sn,sc,hv⟩:∃a n c,L.vh=.slice a n c:=by
  obtain⟨a,c,e⟩:=aF hr;exact⟨a,_,c,e⟩
 rw[hv] at y0 k_;clear h hl hc hr;go_in;go_wp2_with fail
 refine k_.out.mono ?_;rintro e w1 ⟨v',rfl,gA,rh,c1⟩;replace gA:=hid gA;replace rh:=hid rh;replace c1:=hid c1;go_wp2;go_ret;exact⟨v',rfl,gA.out,rh.out,c1.out⟩
theorem Iv(h:bE w τ M)(hl:cg M g lp L)(jq:L.az.length<=100000) :
 aJ prog 198 #[pV lp] w (dX w 231 4 L.az.length (L.az.flatMap qL)):=by
 have hc:=hl.cells h;have y0:=(hc 5 _ rfl).1;have hr:=hl.QJ h;have k_:=hid (Tx (n:=L.az.length) (by exact hr) (Q3 _) (by omega))
 obtain⟨sa,sn,sc,hv⟩:∃a n c,L.vu=.slice a n c:=by
  obtain⟨a,c,e⟩:=aF hr;exact⟨a,_,c,e⟩
 rw[hv] at y0 k_;clear h hl hc hr;go_in;go_wp2_with fail
 refine k_.out.mono ?_;rintro e w1 ⟨v',rfl,gA,rh,c1⟩;replace gA:=hid gA;replace rh:=hid rh;replace c1:=hid c1;go_wp2;go_ret;exact⟨v',rfl,gA.out,rh.out,c1.out⟩
end
def cd.new(mr mu:Int):cd:=⟨mr,mu,.slice none 0 0,.slice none 0 0,.slice none 0 0,.slice none 0 0,[],[],[],[]⟩
theorem Qe(w:ag)(r u:Int):aJ prog 39 #[vI r,vI u] w λe w'=>∃mr mu:Int,e=.returned (pV w.heap.size)/\af w' w.heap.size [vI mr,vI mu,.slice none 0 0,.slice none 0 0,.slice none 0 0,.slice none 0 0]/\Calm w w'/\0<=mr/\mr<=200/\0<=mu/\mu<=200:=by
 go_in;go_wp2_with fail
 refine(Bf r _).mono ?_;rintro e w1 ⟨⟨mr,rfl,a1,a2,-⟩,rfl⟩;go_wp2_with fail
 refine(Bf u _).mono ?_;rintro e w2 ⟨⟨mu,rfl,b1,b2,-⟩,rfl⟩;go_wp2;go_ret;exact⟨mr,mu,rfl,af.new w [vI mr,vI mu,.slice none 0 0,.slice none 0 0,.slice none 0 0,.slice none 0 0] _,ah.alloc _,a1,a2,b1,b2⟩
end
section
def t_(Qp:ag->Prop)(F:Fence)(n:Nat)(P:Program)(g:Nat)(lb:Array aA)(el:Nat->Array aA)(N:Nat)(fin:Bool)(w0:ag):Prop:=
 ∀ (l:Nat) (J:(Nat->Prop)->Nat->ag->Prop) (Jx:ag->Prop) (W:ag),w0.heap.size<=W.heap.size->(∀X k A,J X k A->Qp A) ->
   (∀X k A B,J X k A->Calm A B->J X k B)->(∀X k A o,J X k A->J (λb=>X b\/b=A.heap.size) k (A.alloc o))->(∀A B,Jx A->Calm A B->Jx B)->(fin=false->∀X W,¬J X N W) ->
   (∀X k W1,k<N->J X k W1->YieldAt F (n-1) P l (el k) W1 λe W'=>
    (e=.returned (.bool true)/\J X (k+1) W'/\cE X W1 W')\/(e=.returned (.bool false)/\Jx W')) ->
   J (λ_=>False) 0 W ->
   CallsIn F n P g (#[.func (.yield l) #[] #[]]++lb) W λe W'=>(∃v,e=.returned v)/\((∃X,J X N W')\/Jx W')
variable {F:Fence}{n:Nat}{P:Program}
theorem kP{Qp:ag->Prop}{g:Operand}{ps:Array Tmp}{assign body:Code}{Q:Exit->Act->ag->Prop}{a:Act}{w:ag}
 (hro:F.round=none) (h1:1<=n) {gf:Nat} {lb:Array aA} (hg:a.eval g=.func (.func gf) #[] lb) (hFg:F.fn gf) (eg:∀args w,(callFunc gf args).run P w=.ok (.enter gf args) w)
 {el:Nat->Array aA} {N:Nat} {fin:Bool} {w0:ag} (Vw:t_ Qp F (n-1) P gf lb el N fin w0) (fR:w0.heap.size<=w.heap.size) (Jt:∀k,(el k).size=ps.size)
 (I:(Nat->Prop)->Nat->ag->Prop) (yS:(Nat->Prop)->Nat->Act->ag->Prop) (Ix:Code->ag->Prop)
 (hI:∀X k A B,I X k A->ov w.heap.size A B->I X k B) (Bu:∀X k a' A B,yS X k a' A->ov w.heap.size A B->yS X k a' B)
 (hG:∀X k A o,I X k A->(∀b,X b->b<A.heap.size)->I (λb=>X b\/b=A.heap.size) k (A.alloc o)) (hQ:∀X k A,I X k A->Qp A) (hIx:∀c A B,Ix c A->ov w.heap.size A B->Ix c B)
 (hN:fin=false->∀X W,¬I X N W) (h0:I (λ_=>False) 0 w)
 (qb:∀ (l:Nat) (X:Nat->Prop) (k:Nat) (W:ag),k<N->I X k W->(∀b,X b->b<W.heap.size)->w.heap.size+1<W.heap.size ->
  assign.wpIn (F.inRound l) (n-1-1) P (Exit.then (λa' W'=>cE (λb=>X b\/b=w.heap.size\/b=w.heap.size+1) W W'/\yS X k a' W') (λ_ _ _=>False)) { tmps:=(ps.zip (el k)).foldl (λt (p,v)=>t.setIfInBounds p v) a.tmps,defers:=[] } W)
 (BC:∀ (l:Nat) (X:Nat->Prop) (k:Nat) (a':Act) (W:ag),k<N->yS X k a' W->(∀b,X b->b<W.heap.size)->w.heap.size+1<W.heap.size->body.wpIn (F.inRound l) (n-1-1) P (sx X w.heap.size (I X (k+1)) Ix W) a' W)
 (jy:∀ (X:Nat->Prop) (W:ag),fin=true->I X N W->W.heap[w.heap.size]?=some (.deferred (some []))->Q .normal { a with defers:={ target:=.collected w.heap.size,args:=#[] } :: a.defers } W)
 (Cj:∀ (c:Code) (W:ag),Ix c W->W.heap[w.heap.size]?=some (.deferred (some []))->c.wpIn F n P Q { a with defers:={ target:=.collected w.heap.size,args:=#[] } :: a.defers } W) :
 (Code.rangeFunc g ps assign body).wpIn F n P Q a w:=by
 obtain⟨D,hD⟩:∃D,w.heap.size=D:=⟨_,rfl⟩;rw[hD] at hI Bu hIx qb BC jy Cj;refine wpIn_rangeFunc ?_;intro fn hfn;rw[hro];obtain⟨rec,l_⟩:∃rec:LoopState->Option Code->Loop,rec=λst pe=>{ state:=st,pending:=pe,fn,tmps:=a.tmps,params:=ps,assign,body,defers:=w.heap.size }:=⟨_,rfl⟩;obtain⟨W1,gO⟩:∃W1,(w.alloc (.deferred (some []))).alloc (.loop (rec .ready none))=W1:=⟨_,rfl⟩
 have hL1:W1.heap[D+1]?=some (.loop (rec .ready none)):=by
  rw[<-gO,<-hD];have:=World.alloc_heap_new (w.alloc (.deferred (some []))) (.loop (rec .ready none));rwa [World.size_alloc] at this
 have Bv:W1.heap[D]?=some (.deferred (some [])):=by
  rw[<-gO,<-hD];exact(Below.heap_alloc _ _ _ (by simp)).trans (World.alloc_heap_new w _)
 have dN:Calm w W1:=by rw[<-gO];exact((Fr.refl _ w).alloc _).alloc _
 have hI1:I (λ_=>False) 0 W1:=hI _ 0 _ _ h0 dN.any
 refine⟨w.heap.size+1,[{ target:=.collected w.heap.size,args:=#[] }],W1,{ target:=.fn (.func gf) lb,args:=#[.func (.yield (w.heap.size+1)) #[] #[]] },W1,gf,
  #[.func (.yield (w.heap.size+1)) #[] #[]]++lb,W1,?_,?_,?_,?_,λ_=>h1,?_⟩
 ·rw[<-gO,l_];exact run_enterLoop_outer _ _ _ _ _
 ·simp only[resolve,hg];simp[go_sem]
 ·intro f' Zw;simp[Target.leads] at Zw;subst Zw;exact hFg
 ·simp[invoke,go_sem,eg]
 ·have put:∀ {W:ag} {r:Loop} (o:Obj),W.heap[D+1]?=some (.loop r)->ov D W (W.putObj (D+1) o):=λo _=>(Fr.refl _ _).putObj (.inl (.inr rfl)) o;rw[hD]
  refine(Vw (D+1)
   (λX k W=>I X k W/\W.heap[D+1]?=some (.loop (rec .ready none))/\W.heap[D]?=some (.deferred (some []))/\∀b,X b->b≠D/\b≠D+1/\b<W.heap.size)
   (λW=>∃c,Ix c W/\W.heap[D+1]?=some (.loop (rec .done (some c)))/\W.heap[D]?=some (.deferred (some [])))
   W1 (Nat.le_trans fR dN.size) (λX k A h=>hQ X k A h.1) ?_ ?_ ?_ (λhf X W h=>hN hf X W h.1) ?_ ⟨hI1,hL1,Bv,λb hb=>hb.elim⟩).mono ?_
  ·rintro X k A B ⟨hi,hl,hk,hh⟩ hc;exact⟨hI X k A B hi hc.any,(hc.block _ (Array.getElem?_eq_some_iff.1 hl).1 id).trans hl,(hc.block _ (Array.getElem?_eq_some_iff.1 hk).1 id).trans hk,λb hb=>⟨(hh b hb).1,(hh b hb).2.1,Nat.lt_of_lt_of_le (hh b hb).2.2 hc.size⟩⟩
  ·rintro X k A o ⟨hi,hl,hk,hh⟩;have aM:D+1<A.heap.size:=(Array.getElem?_eq_some_iff.1 hl).1;have hc:Calm A (A.alloc o):=(Fr.refl _ _).alloc _;refine⟨hG X k A o hi (λb hb=>(hh b hb).2.2),(hc.block _ aM id).trans hl,(hc.block _ (by omega) id).trans hk,λb hb=>?_⟩;have hs:(A.alloc o).heap.size=A.heap.size+1:=World.size_alloc _ _;rcases hb with hb|rfl
   ·have:=hh b hb;exact⟨this.1,this.2.1,by omega⟩
   ·exact⟨by omega,by omega,by omega⟩
  ·rintro A B ⟨c,hi,hl,hk⟩ hc;exact⟨c,hIx c A B hi hc.any,(hc.block _ (Array.getElem?_eq_some_iff.1 hl).1 id).trans hl,(hc.block _ (Array.getElem?_eq_some_iff.1 hk).1 id).trans hk⟩
  ·rintro X k W ZH ⟨hi,hl,hk,hh⟩;have aM:D+1<W.heap.size:=(Array.getElem?_eq_some_iff.1 hl).1;have hy:=run_yield (P:=P) (args:=el k) hl (by rw[l_];exact Jt k);rw[l_] at hy;refine⟨fn,_,assign,body,hy,roundIn_of_wpIn hfn (wpIn_mono (qb (D+1) X k W ZH hi (λb hb=>(hh b hb).2.2) aM) ?_)⟩;rintro e a1 Wa hp
   cases e with
   | normal=>
     obtain⟨K_,hia⟩:=hp;have HX:=(K_.2 (D+1) (.inr (.inr rfl))).trans hl;have UZ:=(K_.2 D (.inr (.inl rfl))).trans hk;have Le:D+1<Wa.heap.size:=Nat.lt_of_lt_of_le aM K_.1;refine⟨_,run_beginRound HX (by rw[l_]),?_⟩;have kT:(Wa.putObj (D+1) (.loop { rec .ready none with state:=.busy })).heap[D+1]?=some (.loop { rec .ready none with state:=.busy }):=World.putObj_heap_same Le;have gX:(Wa.putObj (D+1) (.loop { rec .ready none with state:=.busy })).heap[D]?=some (.deferred (some [])):=(World.putObj_heap_other (by omega)).trans UZ;have Ey:∀ (Y:ag) (o:Obj),cE X Y (Y.putObj (D+1) o):=λY o=>⟨by simp,λb hb=>World.putObj_heap_other (by have:=hh b hb;omega)⟩;refine wpIn_mono (BC (D+1) X k a1 _ ZH (Bu X k a1 _ _ hia (put _ HX)) (λb hb=>by simp;exact Nat.lt_of_lt_of_le (hh b hb).2.2 K_.1) (by simp;exact Le)) ?_
     have zm:∀ (jump:Option Code) (W3:ag),cE (λb=>b=D\/b=D+1) (Wa.putObj (D+1) (.loop { rec .ready none with state:=.busy })) W3 ->
      (Instr.endRound (D+1) jump).run P W3=.ok (.bool jump.isNone) (W3.putObj (D+1) (.loop (rec (if jump.isNone then .ready else .done) jump))) /\
      ov D W3 (W3.putObj (D+1) (.loop (rec (if jump.isNone then .ready else .done) jump))) /\
      (W3.putObj (D+1) (.loop (rec (if jump.isNone then .ready else .done) jump))).heap[D+1]?=some (.loop (rec (if jump.isNone then .ready else .done) jump)) /\
      (W3.putObj (D+1) (.loop (rec (if jump.isNone then .ready else .done) jump))).heap[D]?=some (.deferred (some [])):=λjump W3 mL=>by
      have q_:=(mL.2 (D+1) (.inr rfl)).trans kT;have ZJ:=(mL.2 D (.inl rfl)).trans gX;have:=run_endRound (P:=P) jump q_;have Z5:=put (.loop (rec (if jump.isNone then .ready else .done) jump)) q_;rw[l_] at this Z5 ⊢;exact⟨this,Z5,World.putObj_heap_same (Array.getElem?_eq_some_iff.1 q_).1,(World.putObj_heap_other (by omega)).trans ZJ⟩
     rintro e a3 W3 hp
     cases e with
     | normal=>
       obtain⟨mL,zz⟩:=hp;obtain⟨hr,q_,wm,Eu⟩:=zm none W3 (mL.mono (λb hb=>.inr hb));exact⟨_,_,hr,.inl ⟨rfl,⟨hI _ _ _ _ zz q_,wm,Eu,λb hb=>⟨(hh b hb).1,(hh b hb).2.1,Nat.lt_of_lt_of_le (hh b hb).2.2 (Nat.le_trans K_.1 (Nat.le_trans (Ey _ _).1 (Nat.le_trans mL.1 (Ey _ _).1)))⟩⟩,(K_.mono (λb hb=>.inl hb)).trans ((Ey _ _).trans ((mL.mono (λb hb=>.inl hb)).trans (Ey _ _)))⟩⟩
     | ret=>
       obtain⟨mL,zz⟩:=hp;obtain⟨hr,q_,wm,Eu⟩:=zm (some .ret) W3 mL;exact⟨_,_,hr,.inr ⟨rfl,.ret,hIx _ _ _ zz q_,wm,Eu⟩⟩
     | exit id=>
       obtain⟨mL,zz⟩:=hp;obtain⟨hr,q_,wm,Eu⟩:=zm (some (.exit id)) W3 mL;exact⟨_,_,hr,.inr ⟨rfl,.exit id,hIx _ _ _ zz q_,wm,Eu⟩⟩
     | goto t=>
       obtain⟨mL,zz⟩:=hp;obtain⟨hr,q_,wm,Eu⟩:=zm (some (.goto t)) W3 mL;exact⟨_,_,hr,.inr ⟨rfl,.goto t,hIx _ _ _ zz q_,wm,Eu⟩⟩
     | panic ch=>exact hp.elim
     | outgrown=>exact hp.elim
   | exit id=>exact hp.elim
   | goto t=>exact hp.elim
   | ret=>exact hp.elim
   | panic chain=>exact hp.elim
   | outgrown=>exact hp.elim
  ·rintro e W2 ⟨⟨v,rfl⟩,(⟨X,hi,hl,hk,_⟩|⟨c,hi,hl,hk⟩)⟩
   ·have bM:fin=true:=by
     cases hf:fin with
     | true=>rfl
     | false=>exact(hN hf _ _ hi).elim
    exact⟨none,_,by have:=run_endLoop (P:=P) hl (by rw[l_];simp);rw[l_] at this;exact this,jy _ _ bM (hI _ _ _ _ hi (put _ hl)) ((World.putObj_heap_other (by omega)).trans hk)⟩
   ·exact⟨some c,_,by have:=run_endLoop (P:=P) hl (by rw[l_];simp);rw[l_] at this;exact this,Cj c _ (hIx c _ _ hi (put _ hl)) ((World.putObj_heap_other (by omega)).trans hk)⟩
end
section
abbrev Ad:=Nat × Nat
def ua(bu:Nat)(l:List Ud):Nat->List Ad
 | 0=>[]
 | j+1=>ua bu l j++((bu,j*4+1)::(if (l.getD j dU).kind=1 then [(bu,j*4+3)] else []))
theorem NI(bu:Nat)(l:List Ud){j m:Nat}(h:j<=m):∃t,ua bu l m=ua bu l j++t:=by
 induction h with
 | refl=>exact⟨[],by simp⟩
 | step _ ih=>obtain⟨t,ht⟩:=ih;exact⟨t++_,by rw[ua,ht,List.append_assoc]⟩
def iZ(L:cd)(br bk bh bu:Nat):List Ad:=
 ((List.range L.reads.length).map λj=>(br,j))++(((List.range L.keeps.length).map λj=>(bk,j))++(((List.range L.holds.length).map λj=>(bh,j*2))++ua bu L.az L.az.length))
theorem dG{α:Type}(a b:List α)(d:α)(k:Nat):(a++b).getD (a.length+k) d=b.getD k d:=by
 simp[List.getD,rM (Nat.le_add_right _ _)]
theorem fG{α:Type}(a b:List α)(d:α){k:Nat}(h:k<a.length):(a++b).getD k d=a.getD k d:=by
 simp[List.getD,List.getElem?_append,h]
section
variable {L:cd}{br bk bh bu:Nat}
theorem Mq{j:Nat}(h:j<L.reads.length):(iZ L br bk bh bu).getD j (0,0)=(br,j):=by
 unfold iZ;rw[fG _ _ _ (by simpa using h)];simp[List.getD,h]
theorem Mp{j:Nat}(h:j<L.keeps.length):(iZ L br bk bh bu).getD (L.reads.length+j) (0,0)=(bk,j):=by
 unfold iZ;have:=dG ((List.range L.reads.length).map λj=>(br,j)) (((List.range L.keeps.length).map λj=>(bk,j))++(((List.range L.holds.length).map λj=>(bh,j*2))++ua bu L.az L.az.length)) (0,0) j;rw[List.length_map,List.length_range] at this;rw[this,fG _ _ _ (by simpa using h)];simp[List.getD,h]
theorem Mo{j:Nat}(h:j<L.holds.length):(iZ L br bk bh bu).getD (L.reads.length+L.keeps.length+j) (0,0)=(bh,j*2):=by
 unfold iZ;have h1:=dG ((List.range L.reads.length).map λj=>(br,j)) (((List.range L.keeps.length).map λj=>(bk,j))++(((List.range L.holds.length).map λj=>(bh,j*2))++ua bu L.az L.az.length)) (0,0) (L.keeps.length+j);have h2:=dG ((List.range L.keeps.length).map λj=>(bk,j)) (((List.range L.holds.length).map λj=>(bh,j*2))++ua bu L.az L.az.length) (0,0) j;rw[List.length_map,List.length_range] at h1 h2;rw[Nat.add_assoc,h1,h2,fG _ _ _ (by simpa using h)];simp[List.getD,h]
theorem Gu{k:Nat} : (iZ L br bk bh bu).getD (L.reads.length+L.keeps.length+L.holds.length+k) (0,0)=(ua bu L.az L.az.length).getD k (0,0):=by
 unfold iZ;have h1:=dG ((List.range L.reads.length).map λj=>(br,j)) (((List.range L.keeps.length).map λj=>(bk,j))++(((List.range L.holds.length).map λj=>(bh,j*2))++ua bu L.az L.az.length)) (0,0) (L.keeps.length+(L.holds.length+k));have h2:=dG ((List.range L.keeps.length).map λj=>(bk,j)) (((List.range L.holds.length).map λj=>(bh,j*2))++ua bu L.az L.az.length) (0,0) (L.holds.length+k);have h3:=dG ((List.range L.holds.length).map λj=>(bh,j*2)) (ua bu L.az L.az.length) (0,0) k;rw[List.length_map,List.length_range] at h1 h2 h3;rw[Nat.add_assoc,Nat.add_assoc,h1,h2,h3]
theorem iq:(iZ L br bk bh bu).length=L.reads.length+L.keeps.length+L.holds.length+(ua bu L.az L.az.length).length:=by
 unfold iZ;simp;omega
theorem acp{j:Nat}(h:j<L.az.length):(ua bu L.az L.az.length).getD (ua bu L.az j).length (0,0)=(bu,j*4+1)/\(ua bu L.az j).length<(ua bu L.az L.az.length).length:=by
 obtain⟨t,ht⟩:=NI bu L.az (show j+1<=L.az.length from h);rw[ht,ua,List.append_assoc];have:=dG (ua bu L.az j) ((bu,j*4+1)::(if (L.az.getD j dU).kind=1 then [(bu,j*4+3)] else [])++t) (0,0) 0;exact⟨this.trans rfl,by simp⟩
theorem acq{j:Nat}(h:j<L.az.length)(hk:(L.az.getD j dU).kind=1):(ua bu L.az L.az.length).getD ((ua bu L.az j).length+1) (0,0)=(bu,j*4+3)/\(ua bu L.az j).length+1<(ua bu L.az L.az.length).length/\(ua bu L.az (j+1)).length=(ua bu L.az j).length+2:=by
 obtain⟨t,ht⟩:=NI bu L.az (show j+1<=L.az.length from h);have e:ua bu L.az (j+1)=ua bu L.az j++[(bu,j*4+1),(bu,j*4+3)]:=by rw[ua,if_pos hk]
 rw[ht,e,List.append_assoc];refine⟨?_,by simp,by simp⟩;have:=dG (ua bu L.az j) ([(bu,j*4+1),(bu,j*4+3)]++t) (0,0) 1;rw[this];rfl
theorem acr{j:Nat}(hk:(L.az.getD j dU).kind≠1):(ua bu L.az (j+1)).length=(ua bu L.az j).length+1:=by
 rw[ua,if_neg hk];simp
end
structure Dp(cb lp bu:Nat)(L:cd)(W:ag):Prop where
 c:W.cell? ⟨cb,0,none⟩=some (pV lp)
 r:W.cell? ⟨lp,2,none⟩=some L.vr
 k:W.cell? ⟨lp,3,none⟩=some L.vk
 h:W.cell? ⟨lp,4,none⟩=some L.vh
 u:W.cell? ⟨lp,5,none⟩=some L.vu
 kd:∀j,j<L.az.length->W.cell? ⟨bu,j*4,none⟩=some (vI (L.az.getD j dU).kind)
def DK(v:aA)(n b:Nat):Prop:=∃a c,v=.slice a n c/\(0<n->a=some ⟨b,0,none⟩)
def vD(L:cd)(br bk bh bu k:Nat):Array aA:=#[.pointer (some ⟨((iZ L br bk bh bu).getD k (0,0)).1,((iZ L br bk bh bu).getD k (0,0)).2,none⟩)]
def DC(L:cd):Nat->Nat
 | 0=>0
 | 1=>L.reads.length
 | _=>L.reads.length+L.keeps.length
theorem vE(n:Nat)(hn:1<=n)(w0:ag)(cb lp br bk bh bu:Nat)(L:cd)(hr:DK L.vr L.reads.length br)(hk:DK L.vk L.keeps.length bk)(hh:DK L.vh L.holds.length bh)(hu:DK L.vu L.az.length bu)
 (hf:L.reads.length<=100000/\L.keeps.length<=100000/\L.holds.length<=100000/\L.az.length<=100000) :
 t_ (Dp cb lp bu L) Fence.wide n prog 209 #[bw cb] (vD L br bk bh bu) (iZ L br bk bh bu).length true w0:=λy J Jx W hkW hQ hJ hG WT hN hY h0=>by
 obtain⟨ra,rc,gA,rV⟩:=hr;obtain⟨ka,kc,jg,gX⟩:=hk;obtain⟨ha,hc,hh1,HQ⟩:=hh;obtain⟨ua',uc,Dz,sU⟩:=hu;obtain⟨f1,f2,f3,f4⟩:=hf;have q0:=hQ _ _ _ h0;have y1:=q0.c;have y2:=q0.r;have y3:=q0.k;rw[gA] at y2;rw[jg] at y3;refine callsIn_of_wp func209 rfl trivial ?_ rfl;simp only[ntmps209,List.size_toArray,List.length_cons,List.length_nil,Nat.reduceAdd,Nat.reduceSub,Array.replicate_succ,Array.replicate_zero,List.push_toArray,List.append_toArray,List.nil_append,List.cons_append,Array.append_empty]
 gi_wp2_with fail
 gi_region
 have HU:=hid (hJ _ _ _ _ (hG _ 0 W (.cells #[.slice ra L.reads.length rc,.slice ka L.keeps.length kc] 43) h0) (ah.drew:Calm _ (W.alloc (.cells #[.slice ra L.reads.length rc,.slice ka L.keeps.length kc] 43)).drew));have o19:af (W.alloc (.cells #[.slice ra L.reads.length rc,.slice ka L.keeps.length kc] 43)).drew W.heap.size [.slice ra L.reads.length rc,.slice ka L.keeps.length kc]:=(af.new W [.slice ra L.reads.length rc,.slice ka L.keeps.length kc] 43).drew;generalize (W.alloc (.cells #[.slice ra L.reads.length rc,.slice ka L.keeps.length kc] 43)).drew=W1 at *;generalize W.heap.size=NB at *;obtain⟨X1,PC⟩:∃X1:Nat->Prop,X1=λb=>False\/b=NB:=⟨_,rfl⟩;rw[<-PC] at HU;have hXN:X1 NB:=by rw[PC];exact .inr rfl
 have hKO:Hid (∀ (A B:ag) (vs:List aA),af A NB vs->cE X1 A B->af B NB vs):=λA B vs h k i v hv=>(h i v hv).keeps k hXN;replace rV:=hid rV;replace gX:=hid gX;replace HQ:=hid HQ;replace sU:=hid sU;replace gA:=hid gA;replace jg:=hid jg;replace hh1:=hid hh1;replace Dz:=hid Dz;replace hQ:=hid hQ;replace hJ:=hid hJ;replace hG:=hid hG;replace WT:=hid WT;replace hN:=hid hN;replace hY:=hid hY;replace hXN:=hid hXN;replace PC:=hid PC;clear h0 y1 y2 y3 q0
 gi_wp2_with fail
 gi_loopw [21] (λp wr=>∃q:Nat,q<=2/\p=vI q/\Hid (J X1 (DC L q) wr)/\af wr NB [.slice ra L.reads.length rc,.slice ka L.keeps.length kc]) (λp _=>2-(intOf p).toNat)
 case atStart=>exact⟨0,by omega,rfl,HU,o19⟩
 case round=>
  obtain⟨q,hq,rfl,ZG,o1⟩:=hrel;clear o19 HU;rcases(by omega:q=0\/q=1\/q=2) with rfl|rfl|rfl
  ·have x0:=(o1 0 _ rfl).1
   gi_wp2_with fail
   gi_loopw [27] (λp wj=>∃j:Nat,j<=L.reads.length/\p=vI j/\Hid (J X1 (DC L 0+j) wj)/\af wj NB [.slice ra L.reads.length rc,.slice ka L.keeps.length kc]) (λp _=>L.reads.length-(intOf p).toNat)
   case atStart=>exact⟨0,by omega,rfl,ZG,o1⟩
   case round=>
    obtain⟨j,hj,rfl,zA,o2⟩:=hrel;clear x0 o1;rcases fB j L.reads.length with aM|ic
    ·have g1:(j:Int)<L.reads.length:=by omega
     have ea:=rV.out (by omega);subst ea;have e0:DC L 0+j=j:=ia j;have e1:vD L br bk bh bu (DC L 0+j) = #[.pointer (some ⟨br,j,none⟩)]:=by unfold vD;rw[e0,Mq aM]
     have Bx:=hY.out X1 (DC L 0+j) wr (by rw[iq,e0];omega) zA.out;rw[e1] at Bx;obtain⟨fn,tmps,assign,body,hy,hR⟩:=Bx;clear e0 e1
     gi_wp2
     refine hR.mono ?_;rintro e W2 (⟨rfl,uy,mL⟩|⟨rfl,ft⟩)
     ·have o3:=hid (hKO.out _ _ _ o2 mL);replace uy:=hid uy;clear mL
      gi_wp2
      go_roundw
      case rel=>exact⟨_,_,_,_,_,_,_,_,_,_,_,⟨j+1,by omega,by go_num,uy,o3.out⟩,rfl⟩
      case measure=>simp[intOf];omega
     ·replace ft:=hid ft
      gi_wp2
      exact bodyPost_ret (v:=.tuple #[]) (by simp[results,Tryz.f209,go_sem]) rfl ⟨⟨_,rfl⟩,.inr ft.out⟩
    ·obtain rfl:j=L.reads.length:=by omega
     have qh:Hid (J X1 (DC L 1) wr):=by have:=zA.out;rw[show DC L 0+L.reads.length=DC L 1 by unfold DC;simp] at this;exact this
     have g1:¬((L.reads.length:Int)<L.reads.length):=by omega
     clear ic hj zA
     gi_wp2
     go_roundw
     case rel=>exact⟨1,by omega,by go_num,qh,o2⟩
     case measure=>simp[intOf]
  ·have x0:=(o1 1 _ rfl).1
   gi_wp2_with fail
   gi_loopw [27] (λp wj=>∃j:Nat,j<=L.keeps.length/\p=vI j/\Hid (J X1 (DC L 1+j) wj)/\af wj NB [.slice ra L.reads.length rc,.slice ka L.keeps.length kc]) (λp _=>L.keeps.length-(intOf p).toNat)
   case atStart=>exact⟨0,by omega,rfl,ZG,o1⟩
   case round=>
    obtain⟨j,hj,rfl,zA,o2⟩:=hrel;clear x0 o1;rcases fB j L.keeps.length with aM|ic
    ·have g1:(j:Int)<L.keeps.length:=by omega
     have ea:=gX.out (by omega);subst ea;have e0:DC L 1+j=L.reads.length+j:=rfl;have e1:vD L br bk bh bu (DC L 1+j) = #[.pointer (some ⟨bk,j,none⟩)]:=by unfold vD;rw[e0,Mp aM]
     have Bx:=hY.out X1 (DC L 1+j) wr (by rw[iq,e0];omega) zA.out;rw[e1] at Bx;obtain⟨fn,tmps,assign,body,hy,hR⟩:=Bx;clear e0 e1
     gi_wp2
     refine hR.mono ?_;rintro e W2 (⟨rfl,uy,mL⟩|⟨rfl,ft⟩)
     ·have o3:=hid (hKO.out _ _ _ o2 mL);replace uy:=hid uy;clear mL
      gi_wp2
      go_roundw
      case rel=>exact⟨_,_,_,_,_,_,_,_,_,_,_,⟨j+1,by omega,by go_num,uy,o3.out⟩,rfl⟩
      case measure=>simp[intOf];omega
     ·replace ft:=hid ft
      gi_wp2
      exact bodyPost_ret (v:=.tuple #[]) (by simp[results,Tryz.f209,go_sem]) rfl ⟨⟨_,rfl⟩,.inr ft.out⟩
    ·obtain rfl:j=L.keeps.length:=by omega
     have qh:Hid (J X1 (DC L 2) wr):=by have:=zA.out;rw[show DC L 1+L.keeps.length=DC L 2 from rfl] at this;exact this
     have g1:¬((L.keeps.length:Int)<L.keeps.length):=by omega
     clear ic hj zA
     gi_wp2
     go_roundw
     case rel=>exact⟨2,by omega,by go_num,qh,o2⟩
     case measure=>simp[intOf]
  ·have qa:=hQ.out _ _ _ ZG.out;have pa:=qa.c;have pb:=qa.h;rw[hh1.out] at pb;have hj4:Hid (J X1 (L.reads.length+L.keeps.length+0) wr):=ZG.out;clear ZG o1 qa
   gi_wp2_with fail
   clear pa pb
   gi_loopw [43] (λp wj=>∃j:Nat,j<=L.holds.length/\p=vI j/\Hid (J X1 (L.reads.length+L.keeps.length+j) wj)) (λp _=>L.holds.length-(intOf p).toNat)
   case atStart=>exact⟨0,by omega,rfl,hj4⟩
   case round=>
    obtain⟨j,hj,rfl,zA⟩:=hrel;clear hj4;have qa:=hQ.out _ _ _ zA.out;have pa:=qa.c;rcases fB j L.holds.length with aM|ic
    ·have g1:(j:Int)<L.holds.length:=by omega
     have pb:=qa.h;rw[hh1.out] at pb;have ea:=HQ.out (by omega);subst ea;have e1:vD L br bk bh bu (L.reads.length+L.keeps.length+j) = #[.pointer (some ⟨bh,j*2,none⟩)]:=by unfold vD;rw[Mo aM]
     have Bx:=hY.out X1 (L.reads.length+L.keeps.length+j) wr (by rw[iq];omega) zA.out;rw[e1] at Bx;obtain⟨fn,tmps,assign,body,hy,hR⟩:=Bx;clear e1 qa
     gi_wp2
     refine hR.mono ?_;rintro e W2 (⟨rfl,uy,-⟩|⟨rfl,ft⟩)
     ·replace uy:=hid uy;clear pa pb
      gi_wp2
      go_roundw
      case rel=>exact⟨_,_,_,_,_,_,_,_,_,_,_,_,_,_,_,⟨j+1,by omega,by go_num,uy⟩,rfl⟩
      case measure=>simp[intOf];omega
     ·replace ft:=hid ft
      gi_wp2
      exact bodyPost_ret (v:=.tuple #[]) (by simp[results,Tryz.f209,go_sem]) rfl ⟨⟨_,rfl⟩,.inr ft.out⟩
    ·obtain rfl:j=L.holds.length:=by omega
     have g1:¬((L.holds.length:Int)<L.holds.length):=by omega
     have pb:=qa.u;rw[Dz.out] at pb;have hj6:Hid (J X1 (L.reads.length+L.keeps.length+L.holds.length+(ua bu L.az 0).length) wr):=zA.out;clear ic hj zA qa
     gi_wp2_with fail
     clear pa pb
     gi_loopw [62] (λp wj=>∃j:Nat,j<=L.az.length/\p=vI j/\Hid (J X1 (L.reads.length+L.keeps.length+L.holds.length+(ua bu L.az j).length) wj)) (λp _=>L.az.length-(intOf p).toNat)
     case atStart=>exact⟨0,by omega,rfl,hj6⟩
     case round=>
      obtain⟨j,hj,rfl,zA⟩:=hrel;clear hj6;have qa:=hQ.out _ _ _ zA.out;have pa:=qa.c;rcases fB j L.az.length with aM|ic
      ·have g1:(j:Int)<L.az.length:=by omega
       have pb:=qa.u;rw[Dz.out] at pb;have ea:=sU.out (by omega);subst ea;obtain⟨A,hA⟩:=ao ((ua bu L.az j).length);obtain⟨b,hb⟩:=ao (L.reads.length+L.keeps.length+L.holds.length);have u1:=acp (bu:=bu) aM;rw[hA] at u1;have e1:vD L br bk bh bu (b+A) = #[.pointer (some ⟨bu,j*4+1,none⟩)]:=by unfold vD;rw[<-hb,Gu,u1.1]
       have hlen:b+A<(iZ L br bk bh bu).length:=by rw[iq,hb];have:=u1.2;omega
       rw[hA,hb] at zA;have Bx:=hY.out X1 (b+A) wr hlen zA.out;rw[e1] at Bx;obtain⟨fn,tmps,assign,body,hy,hR⟩:=Bx;obtain⟨kd,N9⟩:=ao ((L.az.getD j dU).kind);replace hA:=hid hA;replace hb:=hid hb;replace N9:=hid N9;clear e1 qa u1 hlen zA
       gi_wp2
       refine hR.mono ?_;rintro e W2 (⟨rfl,uy,-⟩|⟨rfl,ft⟩)
       ·have q2:=hQ.out _ _ _ uy;have pc:=q2.kd j aM;rw[N9.out] at pc;clear pa pb q2 hy hR
        by_cases HV:kd=1
        ·have b1:(kd==1)=true:=by simp[HV]
         obtain⟨v1,v2,v3⟩:=acq (bu:=bu) aM (by rw[N9.out];exact HV);rw[hA.out] at v1 v2 v3;have e1:vD L br bk bh bu (b+A+1) = #[.pointer (some ⟨bu,j*4+3,none⟩)]:=by unfold vD;rw[Nat.add_assoc,<-hb.out,Gu,v1]
         have Bx:=hY.out X1 (b+A+1) W2 (by rw[iq,hb.out];omega) uy;rw[e1] at Bx;obtain⟨fn,tmps,assign,body,hy,hR⟩:=Bx;replace v3:=hid v3;clear e1 v1 v2 HV uy
         gi_wp2
         refine hR.mono ?_;rintro e W3 (⟨rfl,hJ2,-⟩|⟨rfl,ft⟩)
         ·have hJ3:Hid (J X1 (L.reads.length+L.keeps.length+L.holds.length+(ua bu L.az (j+1)).length) W3):=by rw[hb.out,v3.out];exact hJ2
          clear pc hJ2
          gi_wp2
          go_roundw
          case rel=>exact⟨j+1,by omega,by go_num,hJ3⟩
          case measure=>simp[intOf];omega
         ·replace ft:=hid ft
          gi_wp2
          exact bodyPost_ret (v:=.tuple #[]) (by simp[results,Tryz.f209,go_sem]) rfl ⟨⟨_,rfl⟩,.inr ft.out⟩
        ·have b1:(kd==1)=false:=by simp[HV]
         have v3:=acr (bu:=bu) (L:=L) (j:=j) (by rw[N9.out];exact HV);rw[hA.out] at v3;have hJ3:Hid (J X1 (L.reads.length+L.keeps.length+L.holds.length+(ua bu L.az (j+1)).length) W2):=by rw[hb.out,v3];exact uy
         clear uy v3 HV
         gi_wp2
         refine⟨λf hf=>(by cases hf),?_⟩
         gi_wp2
         go_roundw
         case rel=>exact⟨j+1,by omega,by go_num,hJ3⟩
         case measure=>simp[intOf];omega
       ·replace ft:=hid ft
        gi_wp2
        exact bodyPost_ret (v:=.tuple #[]) (by simp[results,Tryz.f209,go_sem]) rfl ⟨⟨_,rfl⟩,.inr ft.out⟩
      ·obtain rfl:j=L.az.length:=by omega
       have g1:¬((L.az.length:Int)<L.az.length):=by omega
       have bM:Hid (J X1 (iZ L br bk bh bu).length wr):=by rw[iq];exact zA.out
       clear ic hj zA qa pa
       gi_wp2
       exact bodyPost_end (v:=.tuple #[]) (by simp[results,Tryz.f209,go_sem]) rfl ⟨⟨_,rfl⟩,.inl ⟨X1,bM.out⟩⟩
end
section
section
variable {w:ag}{τ:Nat->Nat}{M:Mem}{g lp:Nat}{L:cd}
def uv(l:List Ud):Nat->aj
 | 0=>[]
 | j+1=>uv l j++((l.getD j dU).at_::(if (l.getD j dU).kind=1 then [(l.getD j dU).aV.toNat] else []))
def cd.roots(L:cd):aj:=L.reads++(L.keeps++(L.holds.map (·.at_)++uv L.az L.az.length))
def AZ(u:Ud):Prop:=u.at_<=131072/\bX u.aV/\(u.kind=1->0<=u.aV/\u.aV<=131072)
theorem Ao(bu:Nat)(l:List Ud):∀j,(uv l j).length=(ua bu l j).length
 | 0=>rfl
 | j+1=>by
   unfold uv ua;rw[b_,b_,Ao bu l j];split <;> rfl
theorem yB{br bk bh bu:Nat} : L.roots.length=(iZ L br bk bh bu).length:=by
 rw[iq];unfold cd.roots;simp[Ao bu];omega
theorem GO{bu:Nat}(hc:∀j,j<L.az.length->w.cell? ⟨bu,j*4+1,none⟩=some (vI (L.az.getD j dU).at_)/\w.cell? ⟨bu,j*4+3,none⟩=some (vI (L.az.getD j dU).aV))(bU:∀u∈L.az,AZ u) :
 ∀m,m<=L.az.length->∀k,k<(ua bu L.az m).length->w.cell? ⟨((ua bu L.az m).getD k (0,0)).1,((ua bu L.az m).getD k (0,0)).2,none⟩=some (vI ((uv L.az m).getD k 0:Nat))
 | 0,_,k,hk=>by simp[ua] at hk
 | m+1,hm,k,hk=>by
   obtain⟨c1,c2⟩:=hc m (by omega);have hu:=bU _ (get_mem dU (show m<L.az.length from hm));rcases fB k (ua bu L.az m).length with h1|h1
   ·have e1:(ua bu L.az (m+1)).getD k (0,0)=(ua bu L.az m).getD k (0,0):=by rw[ua,fG _ _ _ h1]
    have e2:(uv L.az (m+1)).getD k 0=(uv L.az m).getD k 0:=by rw[uv,fG _ _ _ (by rw[Ao bu];exact h1)]
    rw[e1,e2];exact GO hc bU m (by omega) k h1
   ·obtain⟨d,rfl⟩:∃d,k=(ua bu L.az m).length+d:=⟨k-(ua bu L.az m).length,by omega⟩;have e1:=dG (ua bu L.az m) ((bu,m*4+1)::(if (L.az.getD m dU).kind=1 then [(bu,m*4+3)] else [])) (0,0) d;have e2:=dG (uv L.az m) ((L.az.getD m dU).at_::(if (L.az.getD m dU).kind=1 then [(L.az.getD m dU).aV.toNat] else [])) 0 d;rw[Ao bu] at e2
    have gX:d<((bu,m*4+1)::(if (L.az.getD m dU).kind=1 then [(bu,m*4+3)] else [])).length:=by
     have eu:ua bu L.az (m+1)=ua bu L.az m++((bu,m*4+1)::(if (L.az.getD m dU).kind=1 then [(bu,m*4+3)] else [])):=rfl;rw[eu,b_] at hk;omega
    have eu:ua bu L.az (m+1)=ua bu L.az m++((bu,m*4+1)::(if (L.az.getD m dU).kind=1 then [(bu,m*4+3)] else [])):=rfl;have ev:uv L.az (m+1)=uv L.az m++((L.az.getD m dU).at_::(if (L.az.getD m dU).kind=1 then [(L.az.getD m dU).aV.toNat] else [])):=rfl;rw[eu,ev,e1,e2]
    match d with
    | 0=>exact c1
    | 1=>
      by_cases jg:(L.az.getD m dU).kind=1
      ·rw[if_pos jg,if_pos jg];have h2:=hu.2.2 jg;show w.cell? ⟨bu,m*4+3,none⟩=some (vI ((L.az.getD m dU).aV.toNat:Nat));rw[Int.toNat_of_nonneg h2.1];exact c2
      ·rw[if_neg jg] at gX;simp at gX
    | d+2=>exfalso;split at gX <;> simp at gX <;> omega
end
section
variable {w:ag}{τ:Nat->Nat}{M:Mem}{g lp:Nat}{L:cd}
theorem jE{w:ag}{v:aA}{l:aj}(h:aI w 0 v (nI l)):∃b,DK v l.length b/\(∀j,j<l.length->Own w b j (vI (l.getD j 0:Nat)))/\(0<l.length->ay v b):=by
 by_cases h0:0<l.length
 ·obtain⟨g,c,hv,_,_⟩:=h.get (k:=0) (by simpa using h0);rw[show(nI l).length=l.length by simp] at hv;refine⟨g,⟨_,c,hv,λ_=>rfl⟩,λj hj=>?_,λ_=>hv ▸ ay.mk.2 rfl⟩;obtain⟨g',c',wC,_,ho⟩:=h.get (k:=j) (by simpa using hj);rw[hv] at wC;injection wC with e1;injection e1 with e1;injection e1 with e1;subst e1
  rw[show(nI l).getD j 0=((l.getD j 0:Nat):Int) by simp[List.getD,hj]] at ho;exact ho
 ·obtain⟨a,c,hv⟩:=h.slice;exact⟨0,⟨a,c,by rw[hv];simp,λe=>absurd e h0⟩,λj hj=>absurd hj (by omega),λe=>absurd e h0⟩
theorem CY{α:Type}{ety:TypeId}{k:Nat}{f:α->List aA}(hf:∀a,(f a).length=k)(hk:0<k){w:ag}{v:aA}{l:List α}(h:w.ownsRow 0 ety k v l.length (l.flatMap f))(d:α) :
 ∃b,DK v l.length b/\(∀i,i<l.length->∀j u,(f (l.getD i d))[j]?=some u->Own w b (i*k+j) u)/\(0<l.length->ay v b):=by
 by_cases h0:0<l.length
 ·obtain⟨g,c,hv,_⟩:=bT hf hk h d h0;refine⟨g,⟨_,c,hv,λ_=>rfl⟩,λi hi=>?_,λ_=>hv ▸ ay.mk.2 rfl⟩;obtain⟨g',c',wC,ho⟩:=bT hf hk h d hi;rw[hv] at wC;injection wC with e1;injection e1 with e1;injection e1 with e1;subst e1
  exact ho
 ·obtain⟨a,c,hv⟩:=aF h;exact⟨0,⟨a,c,hv,λe=>absurd e h0⟩,λj hj=>absurd hj (by omega),λe=>absurd e h0⟩
structure Tk(w:ag)(M:Mem)(g lp:Nat)(L:cd)(br bk bh bu:Nat):Prop where
 sr:DK L.vr L.reads.length br
 sk:DK L.vk L.keeps.length bk
 sh:DK L.vh L.holds.length bh
 su:DK L.vu L.az.length bu
 cr:∀j,j<L.reads.length->Own w br j (vI (L.reads.getD j 0:Nat))
 ck:∀j,j<L.keeps.length->Own w bk j (vI (L.keeps.getD j 0:Nat))
 ch:∀i,i<L.holds.length->∀j u,(wM (L.holds.getD i dH))[j]?=some u->Own w bh (i*2+j) u
 cu:∀i,i<L.az.length->∀j u,(qL (L.az.getD i dU))[j]?=some u->Own w bu (i*4+j) u
 ir:0<L.reads.length->ay L.vr br
 ik:0<L.keeps.length->ay L.vk bk
 ih:0<L.holds.length->ay L.vh bh
 iu:0<L.az.length->ay L.vu bu
theorem cg.Yn(h:bE w τ M)(hl:cg M g lp L):∃br bk bh bu,Tk w M g lp L br bk bh bu:=by
 obtain⟨br,r1,r2,r3⟩:=jE (hl.QI h);obtain⟨bk,k1,k2,k3⟩:=jE (hl.Wk h);obtain⟨bh,h1,h2,h3⟩:=CY kH (by decide) (hl.QH h) dH;obtain⟨bu,u1,u2,u3⟩:=CY ml (by decide) (hl.QJ h) dU;exact⟨br,bk,bh,bu,r1,k1,h1,u1,r2,k2,h2,u2,r3,k3,h3,u3⟩
theorem Tk.val{br bk bh bu:Nat}(B:Tk w M g lp L br bk bh bu)(bU:∀u∈L.az,AZ u){k:Nat}(hk:k<(iZ L br bk bh bu).length) :
 w.cell? ⟨((iZ L br bk bh bu).getD k (0,0)).1,((iZ L br bk bh bu).getD k (0,0)).2,none⟩=some (vI (L.roots.getD k 0:Nat)):=by
 rw[iq] at hk;rcases fB k L.reads.length with h1|h1
 ·rw[Mq h1];have:L.roots.getD k 0=L.reads.getD k 0:=by unfold cd.roots;rw[fG _ _ _ h1]
  rw[this];exact(B.cr k h1).1
 ·obtain⟨a,rfl⟩:∃a,k=L.reads.length+a:=⟨k-L.reads.length,by omega⟩;have e1:L.roots.getD (L.reads.length+a) 0=(L.keeps++(L.holds.map (·.at_)++uv L.az L.az.length)).getD a 0:=dG _ _ _ _;rcases fB a L.keeps.length with h2|h2
  ·rw[Mp h2,e1,fG _ _ _ h2];exact(B.ck a h2).1
  ·obtain⟨b,rfl⟩:∃b,a=L.keeps.length+b:=⟨a-L.keeps.length,by omega⟩;have e2:(L.keeps++(L.holds.map (·.at_)++uv L.az L.az.length)).getD (L.keeps.length+b) 0=(L.holds.map (·.at_)++uv L.az L.az.length).getD b 0:=dG _ _ _ _;rw[e1,e2];rcases fB b L.holds.length with h3|h3
   ·have:=Mo (br:=br) (bk:=bk) (bh:=bh) (bu:=bu) h3;rw[Nat.add_assoc] at this;rw[this,fG _ _ _ (by simpa using h3)];have:=(B.ch b h3 0 _ rfl).1;rw[fM] at this;rw[this];simp[List.getD,h3]
   ·obtain⟨c,rfl⟩:∃c,b=L.holds.length+c:=⟨b-L.holds.length,by omega⟩
    have e3:(L.holds.map (·.at_)++uv L.az L.az.length).getD (L.holds.length+c) 0=(uv L.az L.az.length).getD c 0:=by
     have:=dG (L.holds.map (·.at_)) (uv L.az L.az.length) 0 c;rw[List.length_map] at this;exact this
    have:=Gu (L:=L) (br:=br) (bk:=bk) (bh:=bh) (bu:=bu) (k:=c);rw[show L.reads.length+(L.keeps.length+(L.holds.length+c))=L.reads.length+L.keeps.length+L.holds.length+c by omega,this,e3];exact GO (λj hj=>⟨(B.cu j hj 1 _ rfl).1,(B.cu j hj 3 _ rfl).1⟩) bU _ (aD _) c (by omega)
theorem ML(hr:∀p∈L.reads,p<=131072)(hk:∀p∈L.keeps,p<=131072)(hh:∀x∈L.holds,x.at_<=131072)(hu:∀u∈L.az,AZ u):∀p∈L.roots,p<=131072:=by
 have huv:∀m,m<=L.az.length->∀p∈uv L.az m,p<=131072:=by
  intro m
  induction m with
  | zero=>intro _ p hp;simp[uv] at hp
  | succ m ih=>
    intro hm p hp;have hx:=hu _ (get_mem dU (show m<L.az.length from hm));rw[uv] at hp;rcases cJ.1 hp with hp|hp
    ·exact ih (by omega) p hp
    ·rcases eH.1 hp with rfl|hp
     ·exact hx.1
     ·split at hp
      ·rename_i h1;have:=hx.2.2 h1;rw[gH.1 hp];omega
      ·cases hp
 intro p hp;unfold cd.roots at hp;simp only[cJ] at hp;rcases hp with hp|hp|hp|hp
 ·exact hr p hp
 ·exact hk p hp
 ·obtain⟨x,hx,rfl⟩:=List.mem_map.1 hp;exact hh x hx
 ·exact huv _ (aD _) p hp
end
theorem rH(F:Fence)(n:Nat)(w:ag)(lp:Nat)(hF:F.fn 163)(hro:F.round=none) :
 CallsIn F n prog 163 #[pV lp] w λe w'=>e=.returned (.func (.func 209) #[] #[bw w.heap.size])/\w'=w.alloc (.cells #[pV lp] 111):=by
 refine callsIn_of_wp func163 rfl hF ?_ hro;simp only[ntmps163,List.size_toArray,List.length_cons,List.length_nil,Nat.reduceAdd,Nat.reduceSub,Array.replicate_succ,Array.replicate_zero,List.push_toArray,List.append_toArray,List.nil_append,List.cons_append]
 gi_wp2
 go_ret;exact⟨rfl,rfl⟩
theorem Dp.fr{S:Nat->Prop}{cb lp bu:Nat}{L:cd}{A B:ag}(h:Dp cb lp bu L A)(f:Fr S A B)(h1:¬S cb)(h2:¬S lp)(h3:0<L.az.length->¬S bu):Dp cb lp bu L B:=
 ⟨f.cellAt h.c h1,f.cellAt h.r h2,f.cellAt h.k h2,f.cellAt h.h h2,f.cellAt h.u h2,λj hj=>f.cellAt (h.kd j hj) (h3 (by omega))⟩
def Rm(w:ag)(lp bu:Nat)(L:cd)(X:Nat->Prop)(k:Nat)(W:ag):Prop:=
 ∃v,Own W w.heap.size 0 v/\aI W (w.heap.size+4) v (nI (L.roots.take k))/\Calm w W/\Dp (w.heap.size+1) lp bu L W/\∀b,X b->b≠w.heap.size/\¬ay v b
theorem Rm.loops{w A B:ag}{lp bu:Nat}{L:cd}{X:Nat->Prop}{k:Nat}(h:Rm w lp bu L X k A)(f:Fr (λb=>b=w.heap.size+2\/b=w.heap.size+3) A B)(h2:lp<w.heap.size)(h3:0<L.az.length->bu<w.heap.size):Rm w lp bu L X k B:=by
 obtain⟨v,o,r,c,q,x⟩:=h;refine⟨v,o.fr f (λe=>by rcases e with e|e <;> omega),r.dw f (λb hb e=>by have:=(r.lt hb).1;rcases e with e|e <;> omega),c.join f (λj hj e=>by rcases e with e|e <;> omega),q.fr f (λe=>by rcases e with e|e <;> omega) (λe=>by rcases e with e|e <;> omega) (λh0 e=>by have:=h3 h0;rcases e with e|e <;> omega),x⟩
theorem Rm.grow{w A:ag}{lp bu:Nat}{L:cd}{X:Nat->Prop}{k:Nat}{o:Obj}(h:Rm w lp bu L X k A):Rm w lp bu L (λb=>X b\/b=A.heap.size) k (A.alloc o):=by
 obtain⟨v,o1,r,c,q,x⟩:=h;have f:Calm A (A.alloc o):=ah.alloc _;have hs:=o1.lt;refine⟨v,o1.calm f,r.calm f,c.trans f,q.fr f id id (λ_=>id),λb hb=>?_⟩;rcases hb with hb|rfl
 ·exact x b hb
 ·exact⟨by omega,λe=>by have:=(r.lt e).2;omega⟩
end
def ss(L:cd)(br bk bh bu k:Nat):Ad:=(iZ L br bk bh bu).getD k (0,0)
def aa0(w:ag)(lp bu:Nat)(L:cd)(E:Nat->Ad)(X:Nat->Prop)(k:Nat)(a:Act)(W:ag):Prop:=
 Rm w lp bu L X k W/\a = { tmps:=#[pV lp,undef,.slice none 0 0,bw w.heap.size,.pointer (some ⟨(E k).1,(E k).2,none⟩),pV lp,
  .func (.func 209) #[] #[.pointer (some ⟨w.heap.size+1,0,none⟩)],.pointer (some ⟨(E k).1,(E k).2,none⟩),undef,undef,undef,undef,undef,undef,undef],defers:=[] }
def GW(w:ag)(L:cd)(e:Ending)(w':ag):Prop:=∃v,e=.returned v/\aI w' w.heap.size v (nI L.roots)/\Calm w w'
theorem CX{w:ag}{τ:Nat->Nat}{M:Mem}{g lp:Nat}{L:cd}(h:bE w τ M)(hl:cg M g lp L)(bU:∀u∈L.az,AZ u)
 (hf:L.reads.length<=100000/\L.keeps.length<=100000/\L.holds.length<=100000/\L.az.length<=100000) :
 aJ prog 93 #[pV lp] w (GW w L):=by
 obtain⟨br,bk,bh,bu,HB⟩:=hl.Yn h;have hc:=hl.cells h;have oC:lp<w.heap.size:=hc.lt (by simp);have N6:0<L.az.length->bu<w.heap.size:=λh0=>(HB.cu 0 h0 0 _ rfl).lt;have hval:Hid (∀k,k<(iZ L br bk bh bu).length->w.cell? ⟨(ss L br bk bh bu k).1,(ss L br bk bh bu k).2,none⟩=some (vI (L.roots.getD k 0:Nat))):=λk hk=>HB.val bU hk;have ma:=yB (L:=L) (br:=br) (bk:=bk) (bh:=bh) (bu:=bu)
 have hul:(ua bu L.az L.az.length).length<=200000:=by
  have:∀m,(ua bu L.az m).length<=2*m:=by
   intro m;induction m with
   | zero=>simp[ua]
   | succ m ih=>rw[ua,b_];split <;> simp <;> omega
  have:=this L.az.length;omega
 have Bw:(iZ L br bk bh bu).length<=600000:=by rw[iq];omega
 have PQ:∀W cb,Calm w W->W.cell? ⟨cb,0,none⟩=some (pV lp)->Dp cb lp bu L W:=λW cb c h1=>
  ⟨h1,c.cellAt (hc 2 _ rfl).1 id,c.cellAt (hc 3 _ rfl).1 id,c.cellAt (hc 4 _ rfl).1 id,c.cellAt (hc 5 _ rfl).1 id,λj hj=>by have:=c.cellAt (HB.cu j hj 0 _ rfl).1 id;rwa [fM] at this⟩
 refine(callsIn_wide (n:=9)).1 ?_;refine callsIn_of_wp_marks func93 rfl trivial ?_ rfl;simp only[ntmps93,List.size_toArray,List.length_cons,List.length_nil,Nat.reduceAdd,Nat.reduceSub,Array.replicate_succ,Array.replicate_zero,List.push_toArray,List.append_toArray,List.nil_append,List.cons_append]
 gi_wp2_with (refine⟨trivial,?_⟩;gi_at_call 163;refine(rH _ _ _ lp trivial rfl).mono ?_;rintro e w' ⟨rfl,rfl⟩)
 have P4:((w.alloc (.cells #[.slice none 0 0] 43)).alloc (.cells #[pV lp] 111)).heap.size=w.heap.size+2:=by simp
 have i1:Own ((w.alloc (.cells #[.slice none 0 0] 43)).alloc (.cells #[pV lp] 111)) w.heap.size 0 (.slice none 0 0):=(Own.new w _ _ 0 rfl).alloc _;have i2:Own ((w.alloc (.cells #[.slice none 0 0] 43)).alloc (.cells #[pV lp] 111)) (w.heap.size+1) 0 (pV lp):=Own.at (w.alloc _) _ _ _ 0 (by simp) rfl;have i5:Calm w ((w.alloc (.cells #[.slice none 0 0] 43)).alloc (.cells #[pV lp] 111)):=((Fr.refl _ w).alloc _).alloc _;obtain⟨W0,gF⟩:=ao ((w.alloc (.cells #[.slice none 0 0] 43)).alloc (.cells #[pV lp] 111));rw[gF] at P4 i1 i2 i5 ⊢;have aad:=hid ma;have jo:=hid P4;have Xi:t_ (Dp (w.heap.size+1) lp bu L) Fence.wide 8 prog 209 #[.pointer (some ⟨w.heap.size+1,0,none⟩)] (λk=>#[.pointer (some ⟨(ss L br bk bh bu k).1,(ss L br bk bh bu k).2,none⟩)]) (iZ L br bk bh bu).length true W0:=vE 8 (by decide) W0 (w.heap.size+1) lp br bk bh bu L HB.sr HB.sk HB.sh HB.su hf
 refine kP (Qp:=Dp (w.heap.size+1) lp bu L) (g:=.tmp 6) rfl (by decide) (gf:=209) (lb:=#[.pointer (some ⟨w.heap.size+1,0,none⟩)]) rfl trivial (enters_of func209 (by kernel_rfl) rfl)
  Xi (aD _) (λ_=>rfl)
  (Rm w lp bu L) (aa0 w lp bu L (ss L br bk bh bu)) (λc W=>False)
  ?hI ?hI1 ?hG ?hQ ?hIx ?hN ?h0 ?assign ?body ?done ?stop
 case hI=>
  rintro X k A A' a kT;rw[P4] at kT;exact a.loops kT oC N6
 case hI1=>
  rintro X k a' A A' ⟨a,rfl⟩ kT;rw[P4] at kT;exact⟨a.loops kT oC N6,rfl⟩
 case hG=>
  rintro X k A o a -;exact a.grow
 case hQ=>
  rintro X k A ⟨v,_,_,_,q,_⟩;exact q
 case hIx=>
  rintro c A A' h _;exact h
 case hN=>
  rintro h;cases h
 case h0=>exact⟨_,i1,by simpa using aI.nil _ _,i5,PQ _ _ i5 i2.1,λb hb=>hb.elim⟩
 case assign=>
  rintro y X k W hk ha hX hs;clear i1 i2 i5 gF
  gi_wp2
  simp[Oper.semAt,go_sem,Act.eval]
  gi_wp2
  exact⟨cE.refl _ _,ha,rfl⟩
 case body=>
  rintro y X k a W hk ⟨⟨v2,a2,a3,a4,a5,a6⟩,rfl⟩ hX hs;have b2:=a2.1;have b3:=a2.2;have hvk:=a4.cellAt (hval.out k hk) id;have PT:k<L.roots.length:=by rw[ma];exact hk
  have hp:Hid (nI (L.roots.take (k+1))=nI (L.roots.take k)++[((L.roots.getD k 0:Nat):Int)]):=by
   show nI _=_;rw[dR _ PT];simp
  have Jq:Hid ((nI (L.roots.take k)).length=k):=by show(nI (L.roots.take k)).length=k;simp;omega
  generalize ss L br bk bh bu k=E at *;generalize L.roots.getD k 0=u at *;obtain⟨va,vn,vc,rfl⟩:=a3.letters;have hRB:=a2.lt;have a3':=hid a3;rw[P4] at hs;clear i1 i2 i5 gF;have q1:∀w',Calm W w'->w'.cell? ⟨w.heap.size,0,none⟩=some (.slice va vn vc):=λw' c=>c.cellAt b2 id;have q2:∀w',Calm W w'->w'.cell? ⟨E.1,E.2,none⟩=some (vI u):=λw' c=>c.cellAt hvk id
  gi_wp2_with fail
  refine gx 4 5 (λw'=>Calm W w') (by kernel_rfl) (by rintro ⟨_,_,h⟩;exact h) (by kernel_rfl) (by kernel_rfl) (ah.drew) ?_;refine ae (.slice va vn vc) rfl (λw' hw'=>?_) ak ?_
  ·have h1:=q1 w' hw';simp[go_sem,h1]
  refine ae (.pointer (some ⟨E.1,E.2,none⟩)) rfl (λw' hw'=>?_) ak ?_
  ·simp[go_sem]
  refine ae (.pointer (some ⟨E.1,E.2,none⟩)) rfl (λw' hw'=>?_) ak ?_
  ·simp[go_sem]
  refine ae (vI u) rfl (λw' hw'=>?_) ak ?_
  ·have h1:=q2 w' hw';simp[go_sem,h1]
  refine aQ rfl ?_;clear q1 q2;unfold Oper.wp;go_simp;refine⟨(ah.drew).alloc _,?_⟩;simp only[bV];have kw:Calm W W.drew:=ah.drew;have fp:=hid (a3.calm kw);have o2:=a2.calm kw;refine jG rfl _ _ rfl (w.heap.size+4) (.slice va vn vc) (nI (L.roots.take k)) fp.out rfl (u:Int) W.drew.heap.size rfl rfl (by have:=Jq.out;omega) (by have:=kw.size;omega) ?_;intro g1 gc w3 nX f4 wN;have nv:¬ay (.slice va vn vc) w.heap.size:=λe=>by have:=(a3'.out.lt e).1;omega
  have n1:=o2.fr f4 nv;have n2:=n1.1;have n3:=n1.2;have iG:=kw.size;have hws:=a4.size;have hV:Fr (λb=>b=w.heap.size\/ay (.slice va vn vc) b) W (w3.setCell ⟨w.heap.size,0,none⟩ (.slice (some ⟨g1,0,none⟩) ((nI (L.roots.take k)).length+1) gc)):=((Calm.any kw:Fr (λb=>b=w.heap.size\/ay (.slice va vn vc) b) _ _).trans (f4.mono (λb _ e=>.inr e))).setCell (p:=⟨w.heap.size,0,none⟩) (.inl (.inl rfl)) _;have RV:w.heap.size+4<=g1:=(nX.lt (ay.mk.2 rfl)).1
  have aP:Hid (aI (w3.setCell ⟨w.heap.size,0,none⟩ (.slice (some ⟨g1,0,none⟩) ((nI (L.roots.take k)).length+1) gc)) (w.heap.size+4) (.slice (some ⟨g1,0,none⟩) ((nI (L.roots.take k)).length+1) gc) (nI (L.roots.take (k+1)))):=by
   rw[hp.out];exact nX.dw ((Fr.refl (λb=>b=w.heap.size) w3).setCell (p:=⟨w.heap.size,0,none⟩) (.inl rfl) _) (λb hb e=>by rw[ay.fJ hb] at e;omega)
  have hcell:=n1.set (.slice (some ⟨g1,0,none⟩) ((nI (L.roots.take k)).length+1) gc)
  have VH:∀b,X b->b≠w.heap.size/\¬ay (.slice (some ⟨g1,0,none⟩) ((nI (L.roots.take k)).length+1) gc) b:=λb hb=>by
   have h6:=a6 b hb;refine⟨h6.1,λe=>?_⟩;have e2:=ay.fJ e;rcases wN with h7|h7
   ·exact h6.2 (e2 ▸ h7)
   ·have:=hX b hb;omega
  have oz:=λb (hb:ay (.slice va vn vc) b)=>(a3'.out.lt hb).1
  have nb:∀b,b<w.heap.size\/b=w.heap.size+1\/b=w.heap.size+2->¬(b=w.heap.size\/ay (.slice va vn vc) b):=by
   rintro b hb (e|e)
   ·omega
   ·have:=oz _ e;omega
  have qf:=hid (a5.fr hV (nb _ (by omega)) (nb _ (by omega)) (λh0=>nb _ (.inl (N6 h0))))
  have hK:Hid (cE (λb=>X b\/b=W0.heap.size\/b=W0.heap.size+1) W (w3.setCell ⟨w.heap.size,0,none⟩ (.slice (some ⟨g1,0,none⟩) ((nI (L.roots.take k)).length+1) gc))):=by
   refine cE.yv hV ?_;rintro b (hb|rfl|rfl)
   ·refine⟨hX b hb,?_⟩;rintro (e|e)
    ·exact(a6 b hb).1 e
    ·exact(a6 b hb).2 e
   ·refine⟨by omega,?_⟩;rintro (e|e)
    ·omega
    ·have:=oz _ e;omega
   ·refine⟨by omega,?_⟩;rintro (e|e)
    ·omega
    ·have:=oz _ e;omega
  have Zl:Hid (Calm w (w3.setCell ⟨w.heap.size,0,none⟩ (.slice (some ⟨g1,0,none⟩) ((nI (L.roots.take k)).length+1) gc))):=a4.join hV (λj hj=>nb _ (.inl hj));clear hV nX f4 n1 a5 a3 a3' fp o2;generalize (nI (L.roots.take k)).length=mm at *;go_wp2;exact⟨hK.out,_,hcell,aP.out,Zl.out,qf.out,VH⟩
 case done=>
  rintro X W Eo ⟨v2,a2,a3,a4,a5,a6⟩ hD;have b1:=a2.1;rw[P4] at hD;obtain⟨va,vn,vc,rfl⟩:=a3.letters;clear i1 i2 i5 gF
  gi_wp2
  refine⟨by simp,.inl ⟨_,_,rfl,run_takeDeferred hD,?_⟩⟩;have hp:Fr (λb=>b=w.heap.size+2) W (W.putObj (w.heap.size+2) (.deferred none)):=(Fr.refl (λb=>b=w.heap.size+2) W).putObj (.inl rfl) _;rw[<-ma,List.take_length] at a3;exact⟨_,results_tmp rfl _ _ _,_,rfl,(a3.dw hp (λb hb e=>by have:=(a3.lt hb).1;omega)).mono (by omega),a4.join hp (by intro b h1 h2;omega)⟩
 case stop=>
  rintro c W h;exact h.elim
