/- TopMemory: a part of its proof (SeqQ Pls Pls2 Pls3 Pls4). -/
import Derived.Test.YtdffnjikmkgjkaaGreatTmAA
import Derived.Test.YtdffnjikmkgjkaaGreatTmAJ
set_option linter.unusedSimpArgs false
set_option linter.unusedVariables false
set_option maxHeartbeats 4000000
namespace Go.Proofs.YtdffnjikmkgjkaaGreat
section
open Go.RowKit
def SeqAtX (Qp:World→Prop)(F:Fence)(n:Nat)(P:Program)(g:Nat)(lb:Array Value)(el:Nat→Array Value)(N:Nat)(fin:Bool)(w0:World):Prop:=
  ∀ (l:Nat) (J:(Nat→Prop)→Nat→World→Prop) (Jx:World→Prop) (W:World),w0.heap.size≤W.heap.size→(∀X k A,J X k A→Qp A) →
    (∀X k A B,J X k A→Calm A B→J X k B)→(∀X k A o,J X k A→J (fun b=>X b∨b=A.heap.size) k (A.alloc o))→(∀A B,Jx A→Calm A B→Jx B)→(fin=false→∀X W,¬J X N W) →
    (∀X k W1,k<N→J X k W1→YieldAt F (n-1) P l (el k) W1 fun e W'=>
      (e = .returned (.bool true)∧J X (k+1) W'∧Keeps X W1 W')∨(e = .returned (.bool false)∧Jx W')) →
    J (fun _=>False) 0 W →
    CallsIn F n P g (#[.func (.yield l) #[] #[]]++lb) W fun e W'=>(∃v,e = .returned v)∧((∃X,J X N W')∨Jx W')
variable {F:Fence}{n:Nat}{P:Program}
theorem wpIn_rangeX {Qp:World→Prop}{g:Operand}{ps:Array Tmp}{assign body:Code}{Q:Exit→Act→World→Prop}{a:Act}{w:World}
    (hro:F.round=none) (h1:1≤n) {gf:Nat} {lb:Array Value} (hg:a.eval g = .func (.func gf) #[] lb) (hFg:F.fn gf) (eg:∀args w,(callFunc gf args).run P w = .ok (.enter gf args) w)
    {el:Nat→Array Value} {N:Nat} {fin:Bool} {w0:World} (hseq:SeqAtX Qp F (n-1) P gf lb el N fin w0) (hk0:w0.heap.size≤w.heap.size) (hps:∀k,(el k).size=ps.size)
    (I:(Nat→Prop)→Nat→World→Prop) (I₁:(Nat→Prop)→Nat→Act→World→Prop) (Ix:Code→World→Prop)
    (hI:∀X k A B,I X k A→Loops w.heap.size A B→I X k B) (hI₁:∀X k a' A B,I₁ X k a' A→Loops w.heap.size A B→I₁ X k a' B)
    (hG:∀X k A o,I X k A→(∀b,X b→b<A.heap.size)→I (fun b=>X b∨b=A.heap.size) k (A.alloc o)) (hQ:∀X k A,I X k A→Qp A) (hIx:∀c A B,Ix c A→Loops w.heap.size A B→Ix c B)
    (hN:fin=false→∀X W,¬I X N W) (h0:I (fun _=>False) 0 w)
    (hassign:∀ (l:Nat) (X:Nat→Prop) (k:Nat) (W:World),k<N→I X k W→(∀b,X b→b<W.heap.size)→w.heap.size+1<W.heap.size →
      assign.wpIn (F.inRound l) (n-1-1) P (Exit.then (fun a' W'=>Keeps (fun b=>X b∨b=w.heap.size∨b=w.heap.size+1) W W'∧I₁ X k a' W') (fun _ _ _=>False)) { tmps:=(ps.zip (el k)).foldl (fun t (p,v)=>t.setIfInBounds p v) a.tmps,defers:=[] } W)
    (hbody:∀ (l:Nat) (X:Nat→Prop) (k:Nat) (a':Act) (W:World),k<N→I₁ X k a' W→(∀b,X b→b<W.heap.size)→w.heap.size+1<W.heap.size→body.wpIn (F.inRound l) (n-1-1) P (roundPostAt X w.heap.size (I X (k+1)) Ix W) a' W)
    (hdone:∀ (X:Nat→Prop) (W:World),fin=true→I X N W→W.heap[w.heap.size]?=some (.deferred (some []))→Q .normal { a with defers:={ target:=.collected w.heap.size,args:=#[] } :: a.defers } W)
    (hstop:∀ (c:Code) (W:World),Ix c W→W.heap[w.heap.size]?=some (.deferred (some []))→c.wpIn F n P Q { a with defers:={ target:=.collected w.heap.size,args:=#[] } :: a.defers } W) :
    (Code.rangeFunc g ps assign body).wpIn F n P Q a w:=by
  obtain⟨D,hD⟩:∃D,w.heap.size=D:=⟨_,rfl⟩;rw[hD] at hI hI₁ hIx hassign hbody hdone hstop;refine wpIn_rangeFunc ?_;intro fn hfn;rw[hro];obtain⟨rec,hrec⟩:∃rec:LoopState→Option Code→Loop,rec=fun st pe=>{ state:=st,pending:=pe,fn,tmps:=a.tmps,params:=ps,assign,body,defers:=w.heap.size }:=⟨_,rfl⟩;obtain⟨W1,hW1⟩:∃W1,(w.alloc (.deferred (some []))).alloc (.loop (rec .ready none))=W1:=⟨_,rfl⟩
  have hL1:W1.heap[D+1]?=some (.loop (rec .ready none)):=by
    rw[←hW1,←hD];have:=World.alloc_heap_new (w.alloc (.deferred (some []))) (.loop (rec .ready none));rwa [World.size_alloc] at this
  have hK1:W1.heap[D]?=some (.deferred (some [])):=by
    rw[←hW1,←hD];exact(Below.heap_alloc _ _ _ (by simp)).trans (World.alloc_heap_new w _)
  have hc1:Calm w W1:=by rw[←hW1];exact((Fr.refl _ w).alloc _).alloc _
  have hI1:I (fun _=>False) 0 W1:=hI _ 0 _ _ h0 hc1.any
  refine⟨w.heap.size+1,[{ target:=.collected w.heap.size,args:=#[] }],W1,{ target:=.fn (.func gf) lb,args:=#[.func (.yield (w.heap.size+1)) #[] #[]] },W1,gf,
    #[.func (.yield (w.heap.size+1)) #[] #[]]++lb,W1,?_,?_,?_,?_,fun _=>h1,?_⟩
  · rw[←hW1,hrec];exact run_enterLoop_outer _ _ _ _ _
  · simp only[resolve,hg];simp[go_sem]
  · intro f' hf';simp[Target.leads] at hf';subst hf';exact hFg
  · simp[invoke,go_sem,eg]
  · have put:∀ {W:World} {r:Loop} (o:Obj),W.heap[D+1]?=some (.loop r)→Loops D W (W.putObj (D+1) o):=fun o _=>(Fr.refl _ _).putObj (.inl (.inr rfl)) o;rw[hD]
    refine(hseq (D+1)
      (fun X k W=>I X k W∧W.heap[D+1]?=some (.loop (rec .ready none))∧W.heap[D]?=some (.deferred (some []))∧∀b,X b→b≠D∧b≠D+1∧b<W.heap.size)
      (fun W=>∃c,Ix c W∧W.heap[D+1]?=some (.loop (rec .done (some c)))∧W.heap[D]?=some (.deferred (some [])))
      W1 (Nat.le_trans hk0 hc1.size) (fun X k A h=>hQ X k A h.1) ?_ ?_ ?_ (fun hf X W h=>hN hf X W h.1) ?_ ⟨hI1,hL1,hK1,fun b hb=>hb.elim⟩).mono ?_
    · rintro X k A B ⟨hi,hl,hk,hh⟩ hc;exact⟨hI X k A B hi hc.any,(hc.block _ (Array.getElem?_eq_some_iff.1 hl).1 id).trans hl,(hc.block _ (Array.getElem?_eq_some_iff.1 hk).1 id).trans hk,fun b hb=>⟨(hh b hb).1,(hh b hb).2.1,Nat.lt_of_lt_of_le (hh b hb).2.2 hc.size⟩⟩
    · rintro X k A o ⟨hi,hl,hk,hh⟩;have hlt:D+1<A.heap.size:=(Array.getElem?_eq_some_iff.1 hl).1;have hc:Calm A (A.alloc o):=(Fr.refl _ _).alloc _;refine⟨hG X k A o hi (fun b hb=>(hh b hb).2.2),(hc.block _ hlt id).trans hl,(hc.block _ (by omega) id).trans hk,fun b hb=>?_⟩;have hs:(A.alloc o).heap.size=A.heap.size+1:=World.size_alloc _ _;rcases hb with hb|rfl
      · have:=hh b hb;exact⟨this.1,this.2.1,by omega⟩
      · exact⟨by omega,by omega,by omega⟩
    · rintro A B ⟨c,hi,hl,hk⟩ hc;exact⟨c,hIx c A B hi hc.any,(hc.block _ (Array.getElem?_eq_some_iff.1 hl).1 id).trans hl,(hc.block _ (Array.getElem?_eq_some_iff.1 hk).1 id).trans hk⟩
    · rintro X k W hkN ⟨hi,hl,hk,hh⟩;have hlt:D+1<W.heap.size:=(Array.getElem?_eq_some_iff.1 hl).1;have hy:=run_yield (P:=P) (args:=el k) hl (by rw[hrec];exact hps k);rw[hrec] at hy;refine⟨fn,_,assign,body,hy,roundIn_of_wpIn hfn (wpIn_mono (hassign (D+1) X k W hkN hi (fun b hb=>(hh b hb).2.2) hlt) ?_)⟩;rintro e a1 Wa hp
      cases e with
      | normal=>
        obtain⟨hka,hia⟩:=hp;have hla:=(hka.2 (D+1) (.inr (.inr rfl))).trans hl;have hka':=(hka.2 D (.inr (.inl rfl))).trans hk;have hlta:D+1<Wa.heap.size:=Nat.lt_of_lt_of_le hlt hka.1;refine⟨_,run_beginRound hla (by rw[hrec]),?_⟩;have hl2:(Wa.putObj (D+1) (.loop { rec .ready none with state:=.busy })).heap[D+1]?=some (.loop { rec .ready none with state:=.busy }):=World.putObj_heap_same hlta;have hk2:(Wa.putObj (D+1) (.loop { rec .ready none with state:=.busy })).heap[D]?=some (.deferred (some [])):=(World.putObj_heap_other (by omega)).trans hka';have hput:∀ (Y:World) (o:Obj),Keeps X Y (Y.putObj (D+1) o):=fun Y o=>⟨by simp,fun b hb=>World.putObj_heap_other (by have:=hh b hb;omega)⟩;refine wpIn_mono (hbody (D+1) X k a1 _ hkN (hI₁ X k a1 _ _ hia (put _ hla)) (fun b hb=>by simp;exact Nat.lt_of_lt_of_le (hh b hb).2.2 hka.1) (by simp;exact hlta)) ?_
        have fin':∀ (jump:Option Code) (W3:World),Keeps (fun b=>b=D∨b=D+1) (Wa.putObj (D+1) (.loop { rec .ready none with state:=.busy })) W3 →
            (Instr.endRound (D+1) jump).run P W3 = .ok (.bool jump.isNone) (W3.putObj (D+1) (.loop (rec (if jump.isNone then .ready else .done) jump))) ∧
            Loops D W3 (W3.putObj (D+1) (.loop (rec (if jump.isNone then .ready else .done) jump))) ∧
            (W3.putObj (D+1) (.loop (rec (if jump.isNone then .ready else .done) jump))).heap[D+1]?=some (.loop (rec (if jump.isNone then .ready else .done) jump)) ∧
            (W3.putObj (D+1) (.loop (rec (if jump.isNone then .ready else .done) jump))).heap[D]?=some (.deferred (some [])):=fun jump W3 hk3=>by
          have hl3:=(hk3.2 (D+1) (.inr rfl)).trans hl2;have hkk:=(hk3.2 D (.inl rfl)).trans hk2;have:=run_endRound (P:=P) jump hl3;have hp3:=put (.loop (rec (if jump.isNone then .ready else .done) jump)) hl3;rw[hrec] at this hp3 ⊢;exact⟨this,hp3,World.putObj_heap_same (Array.getElem?_eq_some_iff.1 hl3).1,(World.putObj_heap_other (by omega)).trans hkk⟩
        rintro e a3 W3 hp
        cases e with
        | normal=>
          obtain⟨hk3,hi3⟩:=hp;obtain⟨hr,hl3,hl4,hk4⟩:=fin' none W3 (hk3.mono (fun b hb=>.inr hb));exact⟨_,_,hr,.inl ⟨rfl,⟨hI _ _ _ _ hi3 hl3,hl4,hk4,fun b hb=>⟨(hh b hb).1,(hh b hb).2.1,Nat.lt_of_lt_of_le (hh b hb).2.2 (Nat.le_trans hka.1 (Nat.le_trans (hput _ _).1 (Nat.le_trans hk3.1 (hput _ _).1)))⟩⟩,(hka.mono (fun b hb=>.inl hb)).trans ((hput _ _).trans ((hk3.mono (fun b hb=>.inl hb)).trans (hput _ _)))⟩⟩
        | ret=>
          obtain⟨hk3,hi3⟩:=hp;obtain⟨hr,hl3,hl4,hk4⟩:=fin' (some .ret) W3 hk3;exact⟨_,_,hr,.inr ⟨rfl,.ret,hIx _ _ _ hi3 hl3,hl4,hk4⟩⟩
        | exit id=>
          obtain⟨hk3,hi3⟩:=hp;obtain⟨hr,hl3,hl4,hk4⟩:=fin' (some (.exit id)) W3 hk3;exact⟨_,_,hr,.inr ⟨rfl,.exit id,hIx _ _ _ hi3 hl3,hl4,hk4⟩⟩
        | goto t=>
          obtain⟨hk3,hi3⟩:=hp;obtain⟨hr,hl3,hl4,hk4⟩:=fin' (some (.goto t)) W3 hk3;exact⟨_,_,hr,.inr ⟨rfl,.goto t,hIx _ _ _ hi3 hl3,hl4,hk4⟩⟩
        | panic ch=>exact hp.elim
        | outgrown=>exact hp.elim
      | exit id=>exact hp.elim
      | goto t=>exact hp.elim
      | ret=>exact hp.elim
      | panic chain=>exact hp.elim
      | outgrown=>exact hp.elim
    · rintro e W2 ⟨⟨v,rfl⟩,(⟨X,hi,hl,hk,_⟩|⟨c,hi,hl,hk⟩)⟩
      · have hfin:fin=true:=by
          cases hf:fin with
          | true=>rfl
          | false=>exact(hN hf _ _ hi).elim
        exact⟨none,_,by have:=run_endLoop (P:=P) hl (by rw[hrec];simp);rw[hrec] at this;exact this,hdone _ _ hfin (hI _ _ _ _ hi (put _ hl)) ((World.putObj_heap_other (by omega)).trans hk)⟩
      · exact⟨some c,_,by have:=run_endLoop (P:=P) hl (by rw[hrec];simp);rw[hrec] at this;exact this,hstop c _ (hIx c _ _ hi (put _ hl)) ((World.putObj_heap_other (by omega)).trans hk)⟩
end
section
open Go.RowKit Go.Shelf
abbrev Ad:=Nat × Nat
def ua (bu:Nat)(l:List Ud):Nat→List Ad
  | 0=>[]
  | j+1=>ua bu l j++((bu,j*4+1)::(if (l.getD j dU).kind=1 then [(bu,j*4+3)] else []))
theorem ua_pre (bu:Nat)(l:List Ud){j m:Nat}(h:j≤m):∃t,ua bu l m=ua bu l j++t:=by
  induction h with
  | refl=>exact⟨[],by simp⟩
  | step _ ih=>obtain⟨t,ht⟩:=ih;exact⟨t++_,by rw[ua,ht,List.append_assoc]⟩
def plsA (L:LogD)(br bk bh bu:Nat):List Ad:=
  ((List.range L.reads.length).map fun j=>(br,j))++(((List.range L.keeps.length).map fun j=>(bk,j))++(((List.range L.holds.length).map fun j=>(bh,j*2))++ua bu L.undos L.undos.length))
theorem getD_app {α:Type}(a b:List α)(d:α)(k:Nat):(a++b).getD (a.length+k) d=b.getD k d:=by
  simp[List.getD,List.getElem?_append_right (Nat.le_add_right _ _)]
theorem getD_appL {α:Type}(a b:List α)(d:α){k:Nat}(h:k<a.length):(a++b).getD k d=a.getD k d:=by
  simp[List.getD,List.getElem?_append,h]
section
variable {L:LogD}{br bk bh bu:Nat}
theorem pls_r {j:Nat}(h:j<L.reads.length):(plsA L br bk bh bu).getD j (0,0)=(br,j):=by
  unfold plsA;rw[getD_appL _ _ _ (by simpa using h)];simp[List.getD,h]
theorem pls_k {j:Nat}(h:j<L.keeps.length):(plsA L br bk bh bu).getD (L.reads.length+j) (0,0)=(bk,j):=by
  unfold plsA;have:=getD_app ((List.range L.reads.length).map fun j=>(br,j)) (((List.range L.keeps.length).map fun j=>(bk,j))++(((List.range L.holds.length).map fun j=>(bh,j*2))++ua bu L.undos L.undos.length)) (0,0) j;rw[List.length_map,List.length_range] at this;rw[this,getD_appL _ _ _ (by simpa using h)];simp[List.getD,h]
theorem pls_h {j:Nat}(h:j<L.holds.length):(plsA L br bk bh bu).getD (L.reads.length+L.keeps.length+j) (0,0)=(bh,j*2):=by
  unfold plsA;have h1:=getD_app ((List.range L.reads.length).map fun j=>(br,j)) (((List.range L.keeps.length).map fun j=>(bk,j))++(((List.range L.holds.length).map fun j=>(bh,j*2))++ua bu L.undos L.undos.length)) (0,0) (L.keeps.length+j);have h2:=getD_app ((List.range L.keeps.length).map fun j=>(bk,j)) (((List.range L.holds.length).map fun j=>(bh,j*2))++ua bu L.undos L.undos.length) (0,0) j;rw[List.length_map,List.length_range] at h1 h2;rw[Nat.add_assoc,h1,h2,getD_appL _ _ _ (by simpa using h)];simp[List.getD,h]
theorem pls_u {k:Nat} : (plsA L br bk bh bu).getD (L.reads.length+L.keeps.length+L.holds.length+k) (0,0)=(ua bu L.undos L.undos.length).getD k (0,0):=by
  unfold plsA;have h1:=getD_app ((List.range L.reads.length).map fun j=>(br,j)) (((List.range L.keeps.length).map fun j=>(bk,j))++(((List.range L.holds.length).map fun j=>(bh,j*2))++ua bu L.undos L.undos.length)) (0,0) (L.keeps.length+(L.holds.length+k));have h2:=getD_app ((List.range L.keeps.length).map fun j=>(bk,j)) (((List.range L.holds.length).map fun j=>(bh,j*2))++ua bu L.undos L.undos.length) (0,0) (L.holds.length+k);have h3:=getD_app ((List.range L.holds.length).map fun j=>(bh,j*2)) (ua bu L.undos L.undos.length) (0,0) k;rw[List.length_map,List.length_range] at h1 h2 h3;rw[Nat.add_assoc,Nat.add_assoc,h1,h2,h3]
theorem pls_len:(plsA L br bk bh bu).length=L.reads.length+L.keeps.length+L.holds.length+(ua bu L.undos L.undos.length).length:=by
  unfold plsA;simp;omega
theorem ua_1 {j:Nat}(h:j<L.undos.length):(ua bu L.undos L.undos.length).getD (ua bu L.undos j).length (0,0)=(bu,j*4+1)∧(ua bu L.undos j).length<(ua bu L.undos L.undos.length).length:=by
  obtain⟨t,ht⟩:=ua_pre bu L.undos (show j+1≤L.undos.length from h);rw[ht,ua,List.append_assoc];have:=getD_app (ua bu L.undos j) ((bu,j*4+1)::(if (L.undos.getD j dU).kind=1 then [(bu,j*4+3)] else [])++t) (0,0) 0;exact⟨this.trans rfl,by simp⟩
theorem ua_2 {j:Nat}(h:j<L.undos.length)(hk:(L.undos.getD j dU).kind=1):(ua bu L.undos L.undos.length).getD ((ua bu L.undos j).length+1) (0,0)=(bu,j*4+3)∧(ua bu L.undos j).length+1<(ua bu L.undos L.undos.length).length∧(ua bu L.undos (j+1)).length=(ua bu L.undos j).length+2:=by
  obtain⟨t,ht⟩:=ua_pre bu L.undos (show j+1≤L.undos.length from h);have e:ua bu L.undos (j+1)=ua bu L.undos j++[(bu,j*4+1),(bu,j*4+3)]:=by rw[ua,if_pos hk]
  rw[ht,e,List.append_assoc];refine⟨?_,by simp,by simp⟩;have:=getD_app (ua bu L.undos j) ([(bu,j*4+1),(bu,j*4+3)]++t) (0,0) 1;rw[this];rfl
theorem ua_3 {j:Nat}(hk:(L.undos.getD j dU).kind≠1):(ua bu L.undos (j+1)).length=(ua bu L.undos j).length+1:=by
  rw[ua,if_neg hk];simp
end
structure PlQ (cb lp bu:Nat)(L:LogD)(W:World):Prop where
  c:W.cell? ⟨cb,0,none⟩=some (pV lp)
  r:W.cell? ⟨lp,2,none⟩=some L.vr
  k:W.cell? ⟨lp,3,none⟩=some L.vk
  h:W.cell? ⟨lp,4,none⟩=some L.vh
  u:W.cell? ⟨lp,5,none⟩=some L.vu
  kd:∀j,j<L.undos.length→W.cell? ⟨bu,j*4,none⟩=some (vI (L.undos.getD j dU).kind)
def Slc (v:Value)(n b:Nat):Prop:=∃a c,v = .slice a n c∧(0<n→a=some ⟨b,0,none⟩)
def plEl (L:LogD)(br bk bh bu:Nat)(k:Nat):Array Value:=#[.pointer (some ⟨((plsA L br bk bh bu).getD k (0,0)).1,((plsA L br bk bh bu).getD k (0,0)).2,none⟩)]
def ofQ (L:LogD):Nat→Nat
  | 0=>0
  | 1=>L.reads.length
  | _=>L.reads.length+L.keeps.length
set_option maxRecDepth 4000 in
theorem places_seq (n:Nat)(hn:1≤n)(w0:World)(cb lp br bk bh bu:Nat)(L:LogD)(hr:Slc L.vr L.reads.length br)(hk:Slc L.vk L.keeps.length bk)(hh:Slc L.vh L.holds.length bh)(hu:Slc L.vu L.undos.length bu)
    (hf:L.reads.length≤100000∧L.keeps.length≤100000∧L.holds.length≤100000∧L.undos.length≤100000) :
    SeqAtX (PlQ cb lp bu L) Fence.wide n Tryz.prog 113 #[.pointer (some ⟨cb,0,none⟩)] (plEl L br bk bh bu) (plsA L br bk bh bu).length true w0:=fun y J Jx W hkW hQ hJ hG hJx hN hY h0=>by
  obtain⟨ra,rc,hr1,hr2⟩:=hr;obtain⟨ka,kc,hk1,hk2⟩:=hk;obtain⟨ha,hc,hh1,hh2⟩:=hh;obtain⟨ua',uc,hu1,hu2⟩:=hu;obtain⟨f1,f2,f3,f4⟩:=hf;have q0:=hQ _ _ _ h0;have y1:=q0.c;have y2:=q0.r;have y3:=q0.k;rw[hr1] at y2;rw[hk1] at y3;refine callsIn_of_wp Tryz.func113 rfl trivial ?_ rfl;simp only[Tryz.ntmps113,List.size_toArray,List.length_cons,List.length_nil,Nat.reduceAdd,Nat.reduceSub,Array.replicate_succ,Array.replicate_zero,List.push_toArray,List.append_toArray,List.nil_append,List.cons_append,Array.append_empty]
  gi_wp2_with fail
  gi_region
  have hj1:=hid (hJ _ _ _ _ (hG _ 0 W (.cells #[.slice ra L.reads.length rc,.slice ka L.keeps.length kc] 23) h0) ((Fr.refl _ _).drew:Calm _ (W.alloc (.cells #[.slice ra L.reads.length rc,.slice ka L.keeps.length kc] 23)).drew));have o19:OwnL (W.alloc (.cells #[.slice ra L.reads.length rc,.slice ka L.keeps.length kc] 23)).drew W.heap.size [.slice ra L.reads.length rc,.slice ka L.keeps.length kc]:=(OwnL.new W [.slice ra L.reads.length rc,.slice ka L.keeps.length kc] 23).drew;generalize (W.alloc (.cells #[.slice ra L.reads.length rc,.slice ka L.keeps.length kc] 23)).drew=W1 at *;generalize W.heap.size=NB at *;obtain⟨X1,hX1⟩:∃X1:Nat→Prop,X1=fun b=>False∨b=NB:=⟨_,rfl⟩;rw[←hX1] at hj1;have hXN:X1 NB:=by rw[hX1];exact .inr rfl
  have hKO:Hid (∀ (A B:World) (vs:List Value),OwnL A NB vs→Keeps X1 A B→OwnL B NB vs):=fun A B vs h k i v hv=>(h i v hv).keeps k hXN;replace hr2:=hid hr2;replace hk2:=hid hk2;replace hh2:=hid hh2;replace hu2:=hid hu2;replace hr1:=hid hr1;replace hk1:=hid hk1;replace hh1:=hid hh1;replace hu1:=hid hu1;replace hQ:=hid hQ;replace hJ:=hid hJ;replace hG:=hid hG;replace hJx:=hid hJx;replace hN:=hid hN;replace hY:=hid hY;replace hXN:=hid hXN;replace hX1:=hid hX1;clear h0 y1 y2 y3 q0
  gi_wp2_with fail
  gi_loopw [21] (fun p wr=>∃q:Nat,q≤2∧p=vI q∧Hid (J X1 (ofQ L q) wr)∧OwnL wr NB [.slice ra L.reads.length rc,.slice ka L.keeps.length kc]) (fun p _=>2-(intOf p).toNat)
  case atStart=>exact⟨0,by omega,rfl,hj1,o19⟩
  case round=>
    obtain⟨q,hq,rfl,hjq,o1⟩:=hrel;clear o19 hj1;rcases(by omega:q=0∨q=1∨q=2) with rfl|rfl|rfl
    · have x0:=(o1 0 _ rfl).1
      gi_wp2_with fail
      gi_loopw [27] (fun p wj=>∃j:Nat,j≤L.reads.length∧p=vI j∧Hid (J X1 (ofQ L 0+j) wj)∧OwnL wj NB [.slice ra L.reads.length rc,.slice ka L.keeps.length kc]) (fun p _=>L.reads.length-(intOf p).toNat)
      case atStart=>exact⟨0,by omega,rfl,hjq,o1⟩
      case round=>
        obtain⟨j,hj,rfl,hjj,o2⟩:=hrel;clear x0 o1;rcases Nat.lt_or_ge j L.reads.length with hlt|hge
        · have g1:(j:Int)<L.reads.length:=by omega
          have ea:=hr2.out (by omega);subst ea;have e0:ofQ L 0+j=j:=Nat.zero_add j;have e1:plEl L br bk bh bu (ofQ L 0+j) = #[.pointer (some ⟨br,j,none⟩)]:=by unfold plEl;rw[e0,pls_r hlt]
          have hYk:=hY.out X1 (ofQ L 0+j) wr (by rw[pls_len,e0];omega) hjj.out;rw[e1] at hYk;obtain⟨fn,tmps,assign,body,hy,hR⟩:=hYk;clear e0 e1
          gi_wp2
          refine hR.mono ?_;rintro e W2 (⟨rfl,hJ1,hk3⟩|⟨rfl,hx1⟩)
          · have o3:=hid (hKO.out _ _ _ o2 hk3);replace hJ1:=hid hJ1;clear hk3
            gi_wp2
            go_roundw
            case rel=>exact⟨_,_,_,_,_,_,_,_,_,_,_,⟨j+1,by omega,by go_num,hJ1,o3.out⟩,rfl⟩
            case measure=>simp[intOf];omega
          · replace hx1:=hid hx1
            gi_wp2
            exact bodyPost_ret (v:=.tuple #[]) (by simp[results,Tryz.f113,go_sem]) rfl ⟨⟨_,rfl⟩,.inr hx1.out⟩
        · obtain rfl:j=L.reads.length:=by omega
          have hjn:Hid (J X1 (ofQ L 1) wr):=by have:=hjj.out;rw[show ofQ L 0+L.reads.length=ofQ L 1 by unfold ofQ;simp] at this;exact this
          have g1:¬((L.reads.length:Int)<L.reads.length):=by omega
          clear hge hj hjj
          gi_wp2
          go_roundw
          case rel=>exact⟨1,by omega,by go_num,hjn,o2⟩
          case measure=>simp[intOf]
    · have x0:=(o1 1 _ rfl).1
      gi_wp2_with fail
      gi_loopw [27] (fun p wj=>∃j:Nat,j≤L.keeps.length∧p=vI j∧Hid (J X1 (ofQ L 1+j) wj)∧OwnL wj NB [.slice ra L.reads.length rc,.slice ka L.keeps.length kc]) (fun p _=>L.keeps.length-(intOf p).toNat)
      case atStart=>exact⟨0,by omega,rfl,hjq,o1⟩
      case round=>
        obtain⟨j,hj,rfl,hjj,o2⟩:=hrel;clear x0 o1;rcases Nat.lt_or_ge j L.keeps.length with hlt|hge
        · have g1:(j:Int)<L.keeps.length:=by omega
          have ea:=hk2.out (by omega);subst ea;have e0:ofQ L 1+j=L.reads.length+j:=rfl;have e1:plEl L br bk bh bu (ofQ L 1+j) = #[.pointer (some ⟨bk,j,none⟩)]:=by unfold plEl;rw[e0,pls_k hlt]
          have hYk:=hY.out X1 (ofQ L 1+j) wr (by rw[pls_len,e0];omega) hjj.out;rw[e1] at hYk;obtain⟨fn,tmps,assign,body,hy,hR⟩:=hYk;clear e0 e1
          gi_wp2
          refine hR.mono ?_;rintro e W2 (⟨rfl,hJ1,hk3⟩|⟨rfl,hx1⟩)
          · have o3:=hid (hKO.out _ _ _ o2 hk3);replace hJ1:=hid hJ1;clear hk3
            gi_wp2
            go_roundw
            case rel=>exact⟨_,_,_,_,_,_,_,_,_,_,_,⟨j+1,by omega,by go_num,hJ1,o3.out⟩,rfl⟩
            case measure=>simp[intOf];omega
          · replace hx1:=hid hx1
            gi_wp2
            exact bodyPost_ret (v:=.tuple #[]) (by simp[results,Tryz.f113,go_sem]) rfl ⟨⟨_,rfl⟩,.inr hx1.out⟩
        · obtain rfl:j=L.keeps.length:=by omega
          have hjn:Hid (J X1 (ofQ L 2) wr):=by have:=hjj.out;rw[show ofQ L 1+L.keeps.length=ofQ L 2 from rfl] at this;exact this
          have g1:¬((L.keeps.length:Int)<L.keeps.length):=by omega
          clear hge hj hjj
          gi_wp2
          go_roundw
          case rel=>exact⟨2,by omega,by go_num,hjn,o2⟩
          case measure=>simp[intOf]
    · have qa:=hQ.out _ _ _ hjq.out;have pa:=qa.c;have pb:=qa.h;rw[hh1.out] at pb;have hj4:Hid (J X1 (L.reads.length+L.keeps.length+0) wr):=hjq.out;clear hjq o1 qa
      gi_wp2_with fail
      clear pa pb
      gi_loopw [43] (fun p wj=>∃j:Nat,j≤L.holds.length∧p=vI j∧Hid (J X1 (L.reads.length+L.keeps.length+j) wj)) (fun p _=>L.holds.length-(intOf p).toNat)
      case atStart=>exact⟨0,by omega,rfl,hj4⟩
      case round=>
        obtain⟨j,hj,rfl,hjj⟩:=hrel;clear hj4;have qa:=hQ.out _ _ _ hjj.out;have pa:=qa.c;rcases Nat.lt_or_ge j L.holds.length with hlt|hge
        · have g1:(j:Int)<L.holds.length:=by omega
          have pb:=qa.h;rw[hh1.out] at pb;have ea:=hh2.out (by omega);subst ea;have e1:plEl L br bk bh bu (L.reads.length+L.keeps.length+j) = #[.pointer (some ⟨bh,j*2,none⟩)]:=by unfold plEl;rw[pls_h hlt]
          have hYk:=hY.out X1 (L.reads.length+L.keeps.length+j) wr (by rw[pls_len];omega) hjj.out;rw[e1] at hYk;obtain⟨fn,tmps,assign,body,hy,hR⟩:=hYk;clear e1 qa
          gi_wp2
          refine hR.mono ?_;rintro e W2 (⟨rfl,hJ1,-⟩|⟨rfl,hx1⟩)
          · replace hJ1:=hid hJ1;clear pa pb
            gi_wp2
            go_roundw
            case rel=>exact⟨_,_,_,_,_,_,_,_,_,_,_,_,_,_,_,⟨j+1,by omega,by go_num,hJ1⟩,rfl⟩
            case measure=>simp[intOf];omega
          · replace hx1:=hid hx1
            gi_wp2
            exact bodyPost_ret (v:=.tuple #[]) (by simp[results,Tryz.f113,go_sem]) rfl ⟨⟨_,rfl⟩,.inr hx1.out⟩
        · obtain rfl:j=L.holds.length:=by omega
          have g1:¬((L.holds.length:Int)<L.holds.length):=by omega
          have pb:=qa.u;rw[hu1.out] at pb;have hj6:Hid (J X1 (L.reads.length+L.keeps.length+L.holds.length+(ua bu L.undos 0).length) wr):=hjj.out;clear hge hj hjj qa
          gi_wp2_with fail
          clear pa pb
          gi_loopw [62] (fun p wj=>∃j:Nat,j≤L.undos.length∧p=vI j∧Hid (J X1 (L.reads.length+L.keeps.length+L.holds.length+(ua bu L.undos j).length) wj)) (fun p _=>L.undos.length-(intOf p).toNat)
          case atStart=>exact⟨0,by omega,rfl,hj6⟩
          case round=>
            obtain⟨j,hj,rfl,hjj⟩:=hrel;clear hj6;have qa:=hQ.out _ _ _ hjj.out;have pa:=qa.c;rcases Nat.lt_or_ge j L.undos.length with hlt|hge
            · have g1:(j:Int)<L.undos.length:=by omega
              have pb:=qa.u;rw[hu1.out] at pb;have ea:=hu2.out (by omega);subst ea;obtain⟨A,hA⟩:∃A,(ua bu L.undos j).length=A:=⟨_,rfl⟩;obtain⟨b,hb⟩:∃b,L.reads.length+L.keeps.length+L.holds.length=b:=⟨_,rfl⟩;have u1:=ua_1 (bu:=bu) hlt;rw[hA] at u1;have e1:plEl L br bk bh bu (b+A) = #[.pointer (some ⟨bu,j*4+1,none⟩)]:=by unfold plEl;rw[←hb,pls_u,u1.1]
              have hlen:b+A<(plsA L br bk bh bu).length:=by rw[pls_len,hb];have:=u1.2;omega
              rw[hA,hb] at hjj;have hYk:=hY.out X1 (b+A) wr hlen hjj.out;rw[e1] at hYk;obtain⟨fn,tmps,assign,body,hy,hR⟩:=hYk;obtain⟨kd,hkd⟩:∃kd,(L.undos.getD j dU).kind=kd:=⟨_,rfl⟩;replace hA:=hid hA;replace hb:=hid hb;replace hkd:=hid hkd;clear e1 qa u1 hlen hjj
              gi_wp2
              refine hR.mono ?_;rintro e W2 (⟨rfl,hJ1,-⟩|⟨rfl,hx1⟩)
              · have q2:=hQ.out _ _ _ hJ1;have pc:=q2.kd j hlt;rw[hkd.out] at pc;clear pa pb q2 hy hR
                by_cases hk1':kd=1
                · have b1:(kd==1)=true:=by simp[hk1']
                  obtain⟨v1,v2,v3⟩:=ua_2 (bu:=bu) hlt (by rw[hkd.out];exact hk1');rw[hA.out] at v1 v2 v3;have e1:plEl L br bk bh bu (b+A+1) = #[.pointer (some ⟨bu,j*4+3,none⟩)]:=by unfold plEl;rw[Nat.add_assoc,←hb.out,pls_u,v1]
                  have hYk:=hY.out X1 (b+A+1) W2 (by rw[pls_len,hb.out];omega) hJ1;rw[e1] at hYk;obtain⟨fn,tmps,assign,body,hy,hR⟩:=hYk;replace v3:=hid v3;clear e1 v1 v2 hk1' hJ1
                  gi_wp2
                  refine hR.mono ?_;rintro e W3 (⟨rfl,hJ2,-⟩|⟨rfl,hx1⟩)
                  · have hJ3:Hid (J X1 (L.reads.length+L.keeps.length+L.holds.length+(ua bu L.undos (j+1)).length) W3):=by rw[hb.out,v3.out];exact hJ2
                    clear pc hJ2
                    gi_wp2
                    go_roundw
                    case rel=>exact⟨j+1,by omega,by go_num,hJ3⟩
                    case measure=>simp[intOf];omega
                  · replace hx1:=hid hx1
                    gi_wp2
                    exact bodyPost_ret (v:=.tuple #[]) (by simp[results,Tryz.f113,go_sem]) rfl ⟨⟨_,rfl⟩,.inr hx1.out⟩
                · have b1:(kd==1)=false:=by simp[hk1']
                  have v3:=ua_3 (bu:=bu) (L:=L) (j:=j) (by rw[hkd.out];exact hk1');rw[hA.out] at v3;have hJ3:Hid (J X1 (L.reads.length+L.keeps.length+L.holds.length+(ua bu L.undos (j+1)).length) W2):=by rw[hb.out,v3];exact hJ1
                  clear hJ1 v3 hk1'
                  gi_wp2
                  refine⟨fun f hf=>(by cases hf),?_⟩
                  gi_wp2
                  go_roundw
                  case rel=>exact⟨j+1,by omega,by go_num,hJ3⟩
                  case measure=>simp[intOf];omega
              · replace hx1:=hid hx1
                gi_wp2
                exact bodyPost_ret (v:=.tuple #[]) (by simp[results,Tryz.f113,go_sem]) rfl ⟨⟨_,rfl⟩,.inr hx1.out⟩
            · obtain rfl:j=L.undos.length:=by omega
              have g1:¬((L.undos.length:Int)<L.undos.length):=by omega
              have hfin:Hid (J X1 (plsA L br bk bh bu).length wr):=by rw[pls_len];exact hjj.out
              clear hge hj hjj qa pa
              gi_wp2
              exact bodyPost_end (v:=.tuple #[]) (by simp[results,Tryz.f113,go_sem]) rfl ⟨⟨_,rfl⟩,.inl ⟨X1,hfin.out⟩⟩
end
section
open Go.RowKit Go.Shelf
section
variable {w:World}{τ:Nat→Nat}{M:Mem}{g lp:Nat}{L:LogD}
def uv (l:List Ud):Nat→List Nat
  | 0=>[]
  | j+1=>uv l j++((l.getD j dU).at_::(if (l.getD j dU).kind=1 then [(l.getD j dU).old.toNat] else []))
def LogD.roots (L:LogD):List Nat:=L.reads++(L.keeps++(L.holds.map (·.at_)++uv L.undos L.undos.length))
def UdOk (u:Ud):Prop:=u.at_≤131072∧I64 u.old∧(u.kind=1→0≤u.old∧u.old≤131072)
theorem uv_len (bu:Nat)(l:List Ud):∀j,(uv l j).length=(ua bu l j).length
  | 0=>rfl
  | j+1=>by
    unfold uv ua;rw[List.length_append,List.length_append,uv_len bu l j];split <;> rfl
theorem roots_len {br bk bh bu:Nat} : L.roots.length=(plsA L br bk bh bu).length:=by
  rw[pls_len];unfold LogD.roots;simp[uv_len bu];omega
theorem ua_cell {bu:Nat}(hc:∀j,j<L.undos.length→w.cell? ⟨bu,j*4+1,none⟩=some (vI (L.undos.getD j dU).at_)∧w.cell? ⟨bu,j*4+3,none⟩=some (vI (L.undos.getD j dU).old))(hok:∀u∈L.undos,UdOk u) :
    ∀m,m≤L.undos.length→∀k,k<(ua bu L.undos m).length→w.cell? ⟨((ua bu L.undos m).getD k (0,0)).1,((ua bu L.undos m).getD k (0,0)).2,none⟩=some (vI ((uv L.undos m).getD k 0:Nat))
  | 0,_,k,hk=>by simp[ua] at hk
  | m+1,hm,k,hk=>by
    obtain⟨c1,c2⟩:=hc m (by omega);have hu:=hok _ (get_mem dU (show m<L.undos.length from hm));rcases Nat.lt_or_ge k (ua bu L.undos m).length with h1|h1
    · have e1:(ua bu L.undos (m+1)).getD k (0,0)=(ua bu L.undos m).getD k (0,0):=by rw[ua,getD_appL _ _ _ h1]
      have e2:(uv L.undos (m+1)).getD k 0=(uv L.undos m).getD k 0:=by rw[uv,getD_appL _ _ _ (by rw[uv_len bu];exact h1)]
      rw[e1,e2];exact ua_cell hc hok m (by omega) k h1
    · obtain⟨d,rfl⟩:∃d,k=(ua bu L.undos m).length+d:=⟨k-(ua bu L.undos m).length,by omega⟩;have e1:=getD_app (ua bu L.undos m) ((bu,m*4+1)::(if (L.undos.getD m dU).kind=1 then [(bu,m*4+3)] else [])) (0,0) d;have e2:=getD_app (uv L.undos m) ((L.undos.getD m dU).at_::(if (L.undos.getD m dU).kind=1 then [(L.undos.getD m dU).old.toNat] else [])) 0 d;rw[uv_len bu] at e2
      have hk2:d<((bu,m*4+1)::(if (L.undos.getD m dU).kind=1 then [(bu,m*4+3)] else [])).length:=by
        have eu:ua bu L.undos (m+1)=ua bu L.undos m++((bu,m*4+1)::(if (L.undos.getD m dU).kind=1 then [(bu,m*4+3)] else [])):=rfl;rw[eu,List.length_append] at hk;omega
      have eu:ua bu L.undos (m+1)=ua bu L.undos m++((bu,m*4+1)::(if (L.undos.getD m dU).kind=1 then [(bu,m*4+3)] else [])):=rfl;have ev:uv L.undos (m+1)=uv L.undos m++((L.undos.getD m dU).at_::(if (L.undos.getD m dU).kind=1 then [(L.undos.getD m dU).old.toNat] else [])):=rfl;rw[eu,ev,e1,e2]
      match d with
      | 0=>exact c1
      | 1=>
        by_cases hk1:(L.undos.getD m dU).kind=1
        · rw[if_pos hk1,if_pos hk1];have h2:=hu.2.2 hk1;show w.cell? ⟨bu,m*4+3,none⟩=some (vI ((L.undos.getD m dU).old.toNat:Nat));rw[Int.toNat_of_nonneg h2.1];exact c2
        · rw[if_neg hk1] at hk2;simp at hk2
      | d+2=>exfalso;split at hk2 <;> simp at hk2 <;> omega
end
section
variable {w:World}{τ:Nat→Nat}{M:Mem}{g lp:Nat}{L:LogD}
theorem row_slc {w:World}{v:Value}{l:List Nat}(h:ORow w 0 v (nI l)):∃b,Slc v l.length b∧(∀j,j<l.length→Own w b j (vI (l.getD j 0:Nat)))∧(0<l.length→InB v b):=by
  by_cases h0:0<l.length
  · obtain⟨g,c,hv,_,_⟩:=h.get (k:=0) (by simpa using h0);rw[show(nI l).length=l.length by simp] at hv;refine⟨g,⟨_,c,hv,fun _=>rfl⟩,fun j hj=>?_,fun _=>hv ▸ InB.mk.2 rfl⟩;obtain⟨g',c',hv',_,ho⟩:=h.get (k:=j) (by simpa using hj);rw[hv] at hv';injection hv' with e1;injection e1 with e1;injection e1 with e1;subst e1
    rw[show(nI l).getD j 0=((l.getD j 0:Nat):Int) by simp[List.getD,hj]] at ho;exact ho
  · obtain⟨a,c,hv⟩:=h.slice;exact⟨0,⟨a,c,by rw[hv];simp,fun e=>absurd e h0⟩,fun j hj=>absurd hj (by omega),fun e=>absurd e h0⟩
theorem rows_slc {α:Type}{ety:TypeId}{k:Nat}{f:α→List Value}(hf:∀a,(f a).length=k)(hk:0<k){w:World}{v:Value}{l:List α}(h:w.ownsRow 0 ety k v l.length (l.flatMap f))(d:α) :
    ∃b,Slc v l.length b∧(∀i,i<l.length→∀j u,(f (l.getD i d))[j]?=some u→Own w b (i*k+j) u)∧(0<l.length→InB v b):=by
  by_cases h0:0<l.length
  · obtain⟨g,c,hv,_⟩:=rows_get hf hk h d h0;refine⟨g,⟨_,c,hv,fun _=>rfl⟩,fun i hi=>?_,fun _=>hv ▸ InB.mk.2 rfl⟩;obtain⟨g',c',hv',ho⟩:=rows_get hf hk h d hi;rw[hv] at hv';injection hv' with e1;injection e1 with e1;injection e1 with e1;subst e1
    exact ho
  · obtain⟨a,c,hv⟩:=owns_slice h;exact⟨0,⟨a,c,hv,fun e=>absurd e h0⟩,fun j hj=>absurd hj (by omega),fun e=>absurd e h0⟩
structure LogB (w:World)(M:Mem)(g lp:Nat)(L:LogD)(br bk bh bu:Nat):Prop where
  sr:Slc L.vr L.reads.length br
  sk:Slc L.vk L.keeps.length bk
  sh:Slc L.vh L.holds.length bh
  su:Slc L.vu L.undos.length bu
  cr:∀j,j<L.reads.length→Own w br j (vI (L.reads.getD j 0:Nat))
  ck:∀j,j<L.keeps.length→Own w bk j (vI (L.keeps.getD j 0:Nat))
  ch:∀i,i<L.holds.length→∀j u,(hdC (L.holds.getD i dH))[j]?=some u→Own w bh (i*2+j) u
  cu:∀i,i<L.undos.length→∀j u,(udC (L.undos.getD i dU))[j]?=some u→Own w bu (i*4+j) u
  ir:0<L.reads.length→InB L.vr br
  ik:0<L.keeps.length→InB L.vk bk
  ih:0<L.holds.length→InB L.vh bh
  iu:0<L.undos.length→InB L.vu bu
theorem LogIn.blks (h:Hold w τ M)(hl:LogIn M g lp L):∃br bk bh bu,LogB w M g lp L br bk bh bu:=by
  obtain⟨br,r1,r2,r3⟩:=row_slc (hl.rowR h);obtain⟨bk,k1,k2,k3⟩:=row_slc (hl.rowK h);obtain⟨bh,h1,h2,h3⟩:=rows_slc hdC_len (by decide) (hl.rowH h) dH;obtain⟨bu,u1,u2,u3⟩:=rows_slc udC_len (by decide) (hl.rowU h) dU;exact⟨br,bk,bh,bu,r1,k1,h1,u1,r2,k2,h2,u2,r3,k3,h3,u3⟩
theorem LogB.val {br bk bh bu:Nat}(B:LogB w M g lp L br bk bh bu)(hok:∀u∈L.undos,UdOk u){k:Nat}(hk:k<(plsA L br bk bh bu).length) :
    w.cell? ⟨((plsA L br bk bh bu).getD k (0,0)).1,((plsA L br bk bh bu).getD k (0,0)).2,none⟩=some (vI (L.roots.getD k 0:Nat)):=by
  rw[pls_len] at hk;rcases Nat.lt_or_ge k L.reads.length with h1|h1
  · rw[pls_r h1];have:L.roots.getD k 0=L.reads.getD k 0:=by unfold LogD.roots;rw[getD_appL _ _ _ h1]
    rw[this];exact(B.cr k h1).1
  · obtain⟨a,rfl⟩:∃a,k=L.reads.length+a:=⟨k-L.reads.length,by omega⟩;have e1:L.roots.getD (L.reads.length+a) 0=(L.keeps++(L.holds.map (·.at_)++uv L.undos L.undos.length)).getD a 0:=getD_app _ _ _ _;rcases Nat.lt_or_ge a L.keeps.length with h2|h2
    · rw[pls_k h2,e1,getD_appL _ _ _ h2];exact(B.ck a h2).1
    · obtain⟨b,rfl⟩:∃b,a=L.keeps.length+b:=⟨a-L.keeps.length,by omega⟩;have e2:(L.keeps++(L.holds.map (·.at_)++uv L.undos L.undos.length)).getD (L.keeps.length+b) 0=(L.holds.map (·.at_)++uv L.undos L.undos.length).getD b 0:=getD_app _ _ _ _;rw[e1,e2];rcases Nat.lt_or_ge b L.holds.length with h3|h3
      · have:=pls_h (br:=br) (bk:=bk) (bh:=bh) (bu:=bu) h3;rw[Nat.add_assoc] at this;rw[this,getD_appL _ _ _ (by simpa using h3)];have:=(B.ch b h3 0 _ rfl).1;rw[Nat.add_zero] at this;rw[this];simp[List.getD,h3]
      · obtain⟨c,rfl⟩:∃c,b=L.holds.length+c:=⟨b-L.holds.length,by omega⟩
        have e3:(L.holds.map (·.at_)++uv L.undos L.undos.length).getD (L.holds.length+c) 0=(uv L.undos L.undos.length).getD c 0:=by
          have:=getD_app (L.holds.map (·.at_)) (uv L.undos L.undos.length) 0 c;rw[List.length_map] at this;exact this
        have:=pls_u (L:=L) (br:=br) (bk:=bk) (bh:=bh) (bu:=bu) (k:=c);rw[show L.reads.length+(L.keeps.length+(L.holds.length+c))=L.reads.length+L.keeps.length+L.holds.length+c by omega,this,e3];exact ua_cell (fun j hj=>⟨(B.cu j hj 1 _ rfl).1,(B.cu j hj 3 _ rfl).1⟩) hok _ (Nat.le_refl _) c (by omega)
theorem roots_le (hr:∀p∈L.reads,p≤131072)(hk:∀p∈L.keeps,p≤131072)(hh:∀x∈L.holds,x.at_≤131072)(hu:∀u∈L.undos,UdOk u):∀p∈L.roots,p≤131072:=by
  have huv:∀m,m≤L.undos.length→∀p∈uv L.undos m,p≤131072:=by
    intro m
    induction m with
    | zero=>intro _ p hp;simp[uv] at hp
    | succ m ih=>
      intro hm p hp;have hx:=hu _ (get_mem dU (show m<L.undos.length from hm));rw[uv] at hp;rcases List.mem_append.1 hp with hp|hp
      · exact ih (by omega) p hp
      · rcases List.mem_cons.1 hp with rfl|hp
        · exact hx.1
        · split at hp
          · rename_i h1;have:=hx.2.2 h1;rw[List.mem_singleton.1 hp];omega
          · cases hp
  intro p hp;unfold LogD.roots at hp;simp only[List.mem_append] at hp;rcases hp with hp|hp|hp|hp
  · exact hr p hp
  · exact hk p hp
  · obtain⟨x,hx,rfl⟩:=List.mem_map.1 hp;exact hh x hx
  · exact huv _ (Nat.le_refl _) p hp
end
theorem places_in (F:Fence)(n:Nat)(w:World)(lp:Nat)(hF:F.fn 69)(hro:F.round=none) :
    CallsIn F n Tryz.prog 69 #[pV lp] w fun e w'=>e = .returned (.func (.func 113) #[] #[.pointer (some ⟨w.heap.size,0,none⟩)])∧w'=w.alloc (.cells #[pV lp] 96):=by
  refine callsIn_of_wp Tryz.func69 rfl hF ?_ hro;simp only[Tryz.ntmps69,List.size_toArray,List.length_cons,List.length_nil,Nat.reduceAdd,Nat.reduceSub,Array.replicate_succ,Array.replicate_zero,List.push_toArray,List.append_toArray,List.nil_append,List.cons_append]
  gi_wp2
  go_ret;exact⟨rfl,rfl⟩
theorem PlQ.fr {S:Nat→Prop}{cb lp bu:Nat}{L:LogD}{A B:World}(h:PlQ cb lp bu L A)(f:Fr S A B)(h1:¬S cb)(h2:¬S lp)(h3:0<L.undos.length→¬S bu):PlQ cb lp bu L B:=
  ⟨f.cellAt h.c h1,f.cellAt h.r h2,f.cellAt h.k h2,f.cellAt h.h h2,f.cellAt h.u h2,fun j hj=>f.cellAt (h.kd j hj) (h3 (by omega))⟩
def RtI (w:World)(lp bu:Nat)(L:LogD)(X:Nat→Prop)(k:Nat)(W:World):Prop:=
  ∃v,Own W w.heap.size 0 v∧ORow W (w.heap.size+4) v (nI (L.roots.take k))∧Calm w W∧PlQ (w.heap.size+1) lp bu L W∧∀b,X b→b≠w.heap.size∧¬InB v b
theorem RtI.loops {w A B:World}{lp bu:Nat}{L:LogD}{X:Nat→Prop}{k:Nat}(h:RtI w lp bu L X k A)(f:Fr (fun b=>b=w.heap.size+2∨b=w.heap.size+3) A B)(h2:lp<w.heap.size)(h3:0<L.undos.length→bu<w.heap.size):RtI w lp bu L X k B:=by
  obtain⟨v,o,r,c,q,x⟩:=h;refine⟨v,o.fr f (fun e=>by rcases e with e|e <;> omega),r.frB f (fun b hb e=>by have:=(r.lt hb).1;rcases e with e|e <;> omega),c.join f (fun j hj e=>by rcases e with e|e <;> omega),q.fr f (fun e=>by rcases e with e|e <;> omega) (fun e=>by rcases e with e|e <;> omega) (fun h0 e=>by have:=h3 h0;rcases e with e|e <;> omega),x⟩
theorem RtI.grow {w A:World}{lp bu:Nat}{L:LogD}{X:Nat→Prop}{k:Nat}{o:Obj}(h:RtI w lp bu L X k A):RtI w lp bu L (fun b=>X b∨b=A.heap.size) k (A.alloc o):=by
  obtain⟨v,o1,r,c,q,x⟩:=h;have f:Calm A (A.alloc o):=(Fr.refl _ _).alloc _;have hs:=o1.lt;refine⟨v,o1.calm f,r.calm f,c.trans f,q.fr f id id (fun _=>id),fun b hb=>?_⟩;rcases hb with hb|rfl
  · exact x b hb
  · exact⟨by omega,fun e=>by have:=(r.lt e).2;omega⟩
end
section
open Go.RowKit Go.Shelf
def plE (L:LogD)(br bk bh bu k:Nat):Ad:=(plsA L br bk bh bu).getD k (0,0)
def RtI1 (w:World)(lp bu:Nat)(L:LogD)(E:Nat→Ad)(X:Nat→Prop)(k:Nat)(a:Act)(W:World):Prop:=
  RtI w lp bu L X k W∧a = { tmps:=#[pV lp,undef,.slice none 0 0,.pointer (some ⟨w.heap.size,0,none⟩),.pointer (some ⟨(E k).1,(E k).2,none⟩),pV lp,
    .func (.func 113) #[] #[.pointer (some ⟨w.heap.size+1,0,none⟩)],.pointer (some ⟨(E k).1,(E k).2,none⟩),undef,undef,undef,undef,undef,undef,undef],defers:=[] }
def RootsPost (w:World)(L:LogD)(e:Ending)(w':World):Prop:=∃v,e = .returned v∧ORow w' w.heap.size v (nI L.roots)∧Calm w w'
set_option maxRecDepth 4000 in
theorem roots_is {w:World}{τ:Nat→Nat}{M:Mem}{g lp:Nat}{L:LogD}(h:Hold w τ M)(hl:LogIn M g lp L)(hok:∀u∈L.undos,UdOk u)
    (hf:L.reads.length≤100000∧L.keeps.length≤100000∧L.holds.length≤100000∧L.undos.length≤100000) :
    Calls Tryz.prog 43 #[pV lp] w (RootsPost w L):=by
  obtain⟨br,bk,bh,bu,HB⟩:=hl.blks h;have hc:=hl.cells h;have hlp:lp<w.heap.size:=hc.lt (by simp);have hbu:0<L.undos.length→bu<w.heap.size:=fun h0=>(HB.cu 0 h0 0 _ rfl).lt;have hval:Hid (∀k,k<(plsA L br bk bh bu).length→w.cell? ⟨(plE L br bk bh bu k).1,(plE L br bk bh bu k).2,none⟩=some (vI (L.roots.getD k 0:Nat))):=fun k hk=>HB.val hok hk;have hrl:=roots_len (L:=L) (br:=br) (bk:=bk) (bh:=bh) (bu:=bu)
  have hul:(ua bu L.undos L.undos.length).length≤200000:=by
    have:∀m,(ua bu L.undos m).length≤2*m:=by
      intro m;induction m with
      | zero=>simp[ua]
      | succ m ih=>rw[ua,List.length_append];split <;> simp <;> omega
    have:=this L.undos.length;omega
  have hNl:(plsA L br bk bh bu).length≤600000:=by rw[pls_len];omega
  have PQ:∀W cb,Calm w W→W.cell? ⟨cb,0,none⟩=some (pV lp)→PlQ cb lp bu L W:=fun W cb c h1=>
    ⟨h1,c.cellAt (hc 2 _ rfl).1 id,c.cellAt (hc 3 _ rfl).1 id,c.cellAt (hc 4 _ rfl).1 id,c.cellAt (hc 5 _ rfl).1 id,fun j hj=>by have:=c.cellAt (HB.cu j hj 0 _ rfl).1 id;rwa [Nat.add_zero] at this⟩
  refine(callsIn_wide (n:=9)).1 ?_;refine callsIn_of_wp_marks Tryz.func43 rfl trivial ?_ rfl;simp only[Tryz.ntmps43,List.size_toArray,List.length_cons,List.length_nil,Nat.reduceAdd,Nat.reduceSub,Array.replicate_succ,Array.replicate_zero,List.push_toArray,List.append_toArray,List.nil_append,List.cons_append]
  gi_wp2_with (refine⟨trivial,?_⟩;gi_at_call 69;refine(places_in _ _ _ lp trivial rfl).mono ?_;rintro e w' ⟨rfl,rfl⟩)
  have hs2:((w.alloc (.cells #[.slice none 0 0] 23)).alloc (.cells #[pV lp] 96)).heap.size=w.heap.size+2:=by simp
  have i1:Own ((w.alloc (.cells #[.slice none 0 0] 23)).alloc (.cells #[pV lp] 96)) w.heap.size 0 (.slice none 0 0):=(Own.new w _ _ 0 rfl).alloc _;have i2:Own ((w.alloc (.cells #[.slice none 0 0] 23)).alloc (.cells #[pV lp] 96)) (w.heap.size+1) 0 (pV lp):=Own.at (w.alloc _) _ _ _ 0 (by simp) rfl;have i5:Calm w ((w.alloc (.cells #[.slice none 0 0] 23)).alloc (.cells #[pV lp] 96)):=((Fr.refl _ w).alloc _).alloc _;obtain⟨W0,hW0⟩:∃W0,(w.alloc (.cells #[.slice none 0 0] 23)).alloc (.cells #[pV lp] 96)=W0:=⟨_,rfl⟩;rw[hW0] at hs2 i1 i2 i5 ⊢;have hrl':=hid hrl;have hS2:=hid hs2;have hsq:SeqAtX (PlQ (w.heap.size+1) lp bu L) Fence.wide 8 Tryz.prog 113 #[.pointer (some ⟨w.heap.size+1,0,none⟩)] (fun k=>#[.pointer (some ⟨(plE L br bk bh bu k).1,(plE L br bk bh bu k).2,none⟩)]) (plsA L br bk bh bu).length true W0:=places_seq 8 (by decide) W0 (w.heap.size+1) lp br bk bh bu L HB.sr HB.sk HB.sh HB.su hf
  refine wpIn_rangeX (Qp:=PlQ (w.heap.size+1) lp bu L) (g:=.tmp 6) rfl (by decide) (gf:=113) (lb:=#[.pointer (some ⟨w.heap.size+1,0,none⟩)]) rfl trivial (enters_of Tryz.func113 (by kernel_rfl) rfl)
    hsq (Nat.le_refl _) (fun _=>rfl)
    (RtI w lp bu L) (RtI1 w lp bu L (plE L br bk bh bu)) (fun c W=>False)
    ?hI ?hI1 ?hG ?hQ ?hIx ?hN ?h0 ?assign ?body ?done ?stop
  case hI=>
    rintro X k A A' a hl2;rw[hs2] at hl2;exact a.loops hl2 hlp hbu
  case hI1=>
    rintro X k a' A A' ⟨a,rfl⟩ hl2;rw[hs2] at hl2;exact⟨a.loops hl2 hlp hbu,rfl⟩
  case hG=>
    rintro X k A o a -;exact a.grow
  case hQ=>
    rintro X k A ⟨v,_,_,_,q,_⟩;exact q
  case hIx=>
    rintro c A A' h _;exact h
  case hN=>
    rintro h;cases h
  case h0=>exact⟨_,i1,by simpa using ORow.nil _ _,i5,PQ _ _ i5 i2.1,fun b hb=>hb.elim⟩
  case assign=>
    rintro y X k W hk ha hX hs;clear i1 i2 i5 hW0
    gi_wp2
    simp[Oper.semAt,go_sem,Act.eval]
    gi_wp2
    exact⟨Keeps.refl _ _,ha,rfl⟩
  case body=>
    rintro y X k a W hk ⟨⟨v2,a2,a3,a4,a5,a6⟩,rfl⟩ hX hs;have b2:=a2.1;have b3:=a2.2;have hvk:=a4.cellAt (hval.out k hk) id;have hkr:k<L.roots.length:=by rw[hrl];exact hk
    have hp:Hid (nI (L.roots.take (k+1))=nI (L.roots.take k)++[((L.roots.getD k 0:Nat):Int)]):=by
      show nI _=_;rw[take_succ_getD _ hkr];simp
    have hln:Hid ((nI (L.roots.take k)).length=k):=by show(nI (L.roots.take k)).length=k;simp;omega
    generalize plE L br bk bh bu k=E at *;generalize L.roots.getD k 0=u at *;obtain⟨va,vn,vc,rfl⟩:=a3.letters;have hRB:=a2.lt;have a3':=hid a3;rw[hs2] at hs;clear i1 i2 i5 hW0;have q1:∀w',Calm W w'→w'.cell? ⟨w.heap.size,0,none⟩=some (.slice va vn vc):=fun w' c=>c.cellAt b2 id;have q2:∀w',Calm W w'→w'.cell? ⟨E.1,E.2,none⟩=some (vI u):=fun w' c=>c.cellAt hvk id
    gi_wp2_with fail
    refine wpIn_region_held 4 5 (fun w'=>Calm W w') (by kernel_rfl) (by rintro ⟨_,_,h⟩;exact h) (by kernel_rfl) (by kernel_rfl) ((Fr.refl _ _).drew) ?_;refine heldList_step (.slice va vn vc) rfl (fun w' hw'=>?_) (fun _ _ _ h=>h) ?_
    · have h1:=q1 w' hw';simp[go_sem,h1]
    refine heldList_step (.pointer (some ⟨E.1,E.2,none⟩)) rfl (fun w' hw'=>?_) (fun _ _ _ h=>h) ?_
    · simp[go_sem]
    refine heldList_step (.pointer (some ⟨E.1,E.2,none⟩)) rfl (fun w' hw'=>?_) (fun _ _ _ h=>h) ?_
    · simp[go_sem]
    refine heldList_step (vI u) rfl (fun w' hw'=>?_) (fun _ _ _ h=>h) ?_
    · have h1:=q2 w' hw';simp[go_sem,h1]
    refine heldSeq_step rfl ?_;clear q1 q2;unfold Oper.wp;go_simp;refine⟨((Fr.refl _ _).drew).alloc _,?_⟩;simp only[heldSeq];have kw:Calm W W.drew:=(Fr.refl _ _).drew;have hr3:=hid (a3.calm kw);have o2:=a2.calm kw;refine wpList_app1b rfl _ _ rfl (w.heap.size+4) (.slice va vn vc) (nI (L.roots.take k)) hr3.out rfl (u:Int) W.drew.heap.size rfl rfl (by have:=hln.out;omega) (by have:=kw.size;omega) ?_;intro g1 gc w3 hr4 f4 hg4;have nv:¬InB (.slice va vn vc) w.heap.size:=fun e=>by have:=(a3'.out.lt e).1;omega
    have n1:=o2.fr f4 nv;have n2:=n1.1;have n3:=n1.2;have hsz:=kw.size;have hws:=a4.size;have hV:Fr (fun b=>b=w.heap.size∨InB (.slice va vn vc) b) W (w3.setCell ⟨w.heap.size,0,none⟩ (.slice (some ⟨g1,0,none⟩) ((nI (L.roots.take k)).length+1) gc)):=((Calm.any kw:Fr (fun b=>b=w.heap.size∨InB (.slice va vn vc) b) _ _).trans (f4.mono (fun b _ e=>.inr e))).setCell (p:=⟨w.heap.size,0,none⟩) (.inl (.inl rfl)) _;have hg5:w.heap.size+4≤g1:=(hr4.lt (InB.mk.2 rfl)).1
    have hrow:Hid (ORow (w3.setCell ⟨w.heap.size,0,none⟩ (.slice (some ⟨g1,0,none⟩) ((nI (L.roots.take k)).length+1) gc)) (w.heap.size+4) (.slice (some ⟨g1,0,none⟩) ((nI (L.roots.take k)).length+1) gc) (nI (L.roots.take (k+1)))):=by
      rw[hp.out];exact hr4.frB ((Fr.refl (fun b=>b=w.heap.size) w3).setCell (p:=⟨w.heap.size,0,none⟩) (.inl rfl) _) (fun b hb e=>by rw[InB.mk1 hb] at e;omega)
    have hcell:=n1.set (.slice (some ⟨g1,0,none⟩) ((nI (L.roots.take k)).length+1) gc)
    have hx5:∀b,X b→b≠w.heap.size∧¬InB (.slice (some ⟨g1,0,none⟩) ((nI (L.roots.take k)).length+1) gc) b:=fun b hb=>by
      have h6:=a6 b hb;refine⟨h6.1,fun e=>?_⟩;have e2:=InB.mk1 e;rcases hg4 with h7|h7
      · exact h6.2 (e2 ▸ h7)
      · have:=hX b hb;omega
    have hbase:=fun b (hb:InB (.slice va vn vc) b)=>(a3'.out.lt hb).1
    have nb:∀b,b<w.heap.size∨b=w.heap.size+1∨b=w.heap.size+2→¬(b=w.heap.size∨InB (.slice va vn vc) b):=by
      rintro b hb (e|e)
      · omega
      · have:=hbase _ e;omega
    have qf:=hid (a5.fr hV (nb _ (by omega)) (nb _ (by omega)) (fun h0=>nb _ (.inl (hbu h0))))
    have hK:Hid (Keeps (fun b=>X b∨b=W0.heap.size∨b=W0.heap.size+1) W (w3.setCell ⟨w.heap.size,0,none⟩ (.slice (some ⟨g1,0,none⟩) ((nI (L.roots.take k)).length+1) gc))):=by
      refine Keeps.of_fr hV ?_;rintro b (hb|rfl|rfl)
      · refine⟨hX b hb,?_⟩;rintro (e|e)
        · exact(a6 b hb).1 e
        · exact(a6 b hb).2 e
      · refine⟨by omega,?_⟩;rintro (e|e)
        · omega
        · have:=hbase _ e;omega
      · refine⟨by omega,?_⟩;rintro (e|e)
        · omega
        · have:=hbase _ e;omega
    have hcalm:Hid (Calm w (w3.setCell ⟨w.heap.size,0,none⟩ (.slice (some ⟨g1,0,none⟩) ((nI (L.roots.take k)).length+1) gc))):=a4.join hV (fun j hj=>nb _ (.inl hj));clear hV hr4 f4 n1 a5 a3 a3' hr3 o2;generalize (nI (L.roots.take k)).length=mm at *;go_wp2;exact⟨hK.out,_,hcell,hrow.out,hcalm.out,qf.out,hx5⟩
  case done=>
    rintro X W hf2 ⟨v2,a2,a3,a4,a5,a6⟩ hD;have b1:=a2.1;rw[hs2] at hD;obtain⟨va,vn,vc,rfl⟩:=a3.letters;clear i1 i2 i5 hW0
    gi_wp2
    refine⟨by simp,.inl ⟨_,_,rfl,run_takeDeferred hD,?_⟩⟩;have hp:Fr (fun b=>b=w.heap.size+2) W (W.putObj (w.heap.size+2) (.deferred none)):=(Fr.refl (fun b=>b=w.heap.size+2) W).putObj (.inl rfl) _;rw[←hrl,List.take_length] at a3;exact⟨_,results_tmp rfl _ _ _,_,rfl,(a3.frB hp (fun b hb e=>by have:=(a3.lt hb).1;omega)).mono (by omega),a4.join hp (by intro b h1 h2;omega)⟩
  case stop=>
    rintro c W h;exact h.elim
end
section
open Go.RowKit Go.Shelf
theorem Hold.same {w w':World}{τ:Nat→Nat}{A B:Mem}(h:Hold w τ A)(P:Nat→Prop)(f:Fr (fun b=>P (τ b)) w w')(ho:Mem.Only P A B)
    (ha:∀t,P t→(B t).at_ w'∧∀b,(B t).blk b→(A t).blk b) (hp:∀t,P t→t<500):Hold w' τ B∧KeepT w τ w' τ:=by
  refine⟨⟨fun t=>?_,fun t k hk=>?_⟩,f.mono ?_,fun k hk=>rfl⟩
  · by_cases e:P t
    · exact(ha t e).1
    · rw[ho t e];exact(A t).fr (h.at_ t) f (fun k hk hu=>e (h.tag t k hk ▸ hu))
  · by_cases e:P t
    · exact h.tag t k ((ha t e).2 k hk)
    · rw[ho t e] at hk;exact h.tag t k hk
  · exact fun k _ h1=>hp _ h1
theorem flat_set {α:Type}(f:α→List Value)(k:Nat)(hf:∀a,(f a).length=k)(d d':α)(j:Nat)(hj:j<k)(y:Value):∀ (l:List α) (i:Nat),i<l.length→f d'=(f (l.getD i d)).set j y→(l.flatMap f).set (i*k+j) y=(l.set i d').flatMap f
  | [],i,h,_=>by simp at h
  | x::l,0,_,e=>by
    rw[List.flatMap_cons,Nat.zero_mul,Nat.zero_add,List.set_append_left _ _ (by rw[hf];exact hj),List.set_cons_zero,List.flatMap_cons,e];rfl
  | x::l,i+1,h,e=>by
    have e1:(i+1)*k=i*k+k:=Nat.succ_mul _ _
    rw[List.flatMap_cons,List.set_append_right _ _ (by rw[hf,e1];omega),List.set_cons_succ,List.flatMap_cons,hf,
      show(i+1)*k+j-k=i*k+j by omega,flat_set f k hf d d' j hj y l i (by simpa using h) e]
theorem ua_mem {bu:Nat}{l:List Ud}{E:Ad} : ∀m,m≤l.length→E∈ua bu l m→∃j,j<l.length∧(E=(bu,j*4+1)∨((l.getD j dU).kind=1∧E=(bu,j*4+3)))
  | 0,_,h=>by simp[ua] at h
  | m+1,hm,h=>by
    rw[ua] at h;rcases List.mem_append.1 h with h|h
    · exact ua_mem m (by omega) h
    · rcases List.mem_cons.1 h with h|h
      · exact⟨m,by omega,.inl h⟩
      · split at h
        · rename_i h1;exact⟨m,by omega,.inr ⟨h1,List.mem_singleton.1 h⟩⟩
        · cases h
theorem pls_mem {L:LogD}{br bk bh bu k:Nat}(hk:k<(plsA L br bk bh bu).length) :
    (∃j,j<L.reads.length∧plE L br bk bh bu k=(br,j))∨(∃j,j<L.keeps.length∧plE L br bk bh bu k=(bk,j))∨(∃j,j<L.holds.length∧plE L br bk bh bu k=(bh,j*2))
    ∨ (∃j,j<L.undos.length∧(plE L br bk bh bu k=(bu,j*4+1)∨((L.undos.getD j dU).kind=1∧plE L br bk bh bu k=(bu,j*4+3)))):=by
  rw[pls_len] at hk;rcases Nat.lt_or_ge k L.reads.length with h1|h1
  · exact .inl ⟨k,h1,pls_r h1⟩
  · obtain⟨a,rfl⟩:∃a,k=L.reads.length+a:=⟨k-L.reads.length,by omega⟩;rcases Nat.lt_or_ge a L.keeps.length with h2|h2
    · exact .inr (.inl ⟨a,h2,pls_k h2⟩)
    · obtain⟨b,rfl⟩:∃b,a=L.keeps.length+b:=⟨a-L.keeps.length,by omega⟩;rcases Nat.lt_or_ge b L.holds.length with h3|h3
      · have:=pls_h (br:=br) (bk:=bk) (bh:=bh) (bu:=bu) h3;rw[Nat.add_assoc] at this;exact .inr (.inr (.inl ⟨b,h3,this⟩))
      · obtain⟨c,rfl⟩:∃c,b=L.holds.length+c:=⟨b-L.holds.length,by omega⟩;have:=pls_u (L:=L) (br:=br) (bk:=bk) (bh:=bh) (bu:=bu) (k:=c);refine .inr (.inr (.inr (ua_mem (E:=_) L.undos.length (Nat.le_refl _) ?_)));unfold plE;rw[show L.reads.length+(L.keeps.length+(L.holds.length+c))=L.reads.length+L.keeps.length+L.holds.length+c by omega,this];exact get_mem _ (by omega)
structure LOk (L:LogD):Prop where
  r:∀p∈L.reads,p≤131072
  k:∀p∈L.keeps,p≤131072
  h:∀x∈L.holds,x.at_≤131072∧I64 x.ver
  u:∀u∈L.undos,UdOk u∧I64 u.kind∧I64 u.i
structure LSame (L L':LogD):Prop where
  mr:L'.mr=L.mr
  mu:L'.mu=L.mu
  vr:L'.vr=L.vr
  vk:L'.vk=L.vk
  vh:L'.vh=L.vh
  vu:L'.vu=L.vu
  lr:L'.reads.length=L.reads.length
  lk:L'.keeps.length=L.keeps.length
  lh:L'.holds.length=L.holds.length
  lu:L'.undos.length=L.undos.length
  kd:∀j,(L'.undos.getD j dU).kind=(L.undos.getD j dU).kind
theorem LSame.refl (L:LogD):LSame L L:=⟨rfl,rfl,rfl,rfl,rfl,rfl,rfl,rfl,rfl,rfl,fun _=>rfl⟩
structure LRows (τ:Nat→Nat)(g:Nat)(W:World)(lp:Nat)(L:LogD):Prop where
  c:OwnL W lp [vI L.mr,vI L.mu,L.vr,L.vk,L.vh,L.vu]
  r:ORow W 0 L.vr (nI L.reads)
  k:ORow W 0 L.vk (nI L.keeps)
  h:W.ownsRow 0 188 2 L.vh L.holds.length (L.holds.flatMap hdC)
  u:W.ownsRow 0 191 4 L.vu L.undos.length (L.undos.flatMap udC)
  t1:τ lp=g+1
  t2:∀b,InB L.vr b→τ b=g+2
  t3:∀b,InB L.vk b→τ b=g+3
  t4:∀b,InB L.vh b→τ b=g+4
  t5:∀b,InB L.vu b→τ b=g+5
theorem LRows.of {w:World}{τ:Nat→Nat}{M:Mem}{g lp:Nat}{L:LogD}(h:Hold w τ M)(hl:LogIn M g lp L):LRows τ g w lp L:=
  ⟨hl.cells h,hl.rowR h,hl.rowK h,hl.rowH h,hl.rowU h,h.tag (g+1) _ (by rw[hl.blk1]),fun b hb=>h.tag (g+2) _ (by rw[hl.blk2];exact hb),fun b hb=>h.tag (g+3) _ (by rw[hl.blk3];exact hb),
    fun b hb=>h.tag (g+4) _ (by rw[hl.blk4];exact hb),fun b hb=>h.tag (g+5) _ (by rw[hl.blk5];exact hb)⟩
theorem LRows.fr {S:Nat→Prop}{τ:Nat→Nat}{g lp:Nat}{L:LogD}{A B:World}(h:LRows τ g A lp L)(f:Fr S A B)(hs:∀b,b<A.heap.size→g+1≤τ b→τ b≤g+5→¬S b):LRows τ g B lp L:=
  ⟨h.c.fr f (hs _ (h.c.lt (by simp)) (by have:=h.t1;omega) (by have:=h.t1;omega)),
    h.r.frB f (fun b hb=>hs b (h.r.lt hb).2 (by have:=h.t2 b hb;omega) (by have:=h.t2 b hb;omega)),h.k.frB f (fun b hb=>hs b (h.k.lt hb).2 (by have:=h.t3 b hb;omega) (by have:=h.t3 b hb;omega)),
    owns_frB h.h f (fun b hb=>hs b (World.ownsRow.lt h.h b hb).2 (by have:=h.t4 b hb;omega) (by have:=h.t4 b hb;omega)),owns_frB h.u f (fun b hb=>hs b (World.ownsRow.lt h.u b hb).2 (by have:=h.t5 b hb;omega) (by have:=h.t5 b hb;omega)),
    h.t1,h.t2,h.t3,h.t4,h.t5⟩
theorem LRows.mem {w w':World}{τ:Nat→Nat}{M:Mem}{g lp:Nat}{L L':LogD}(h:Hold w τ M)(hl:LogIn M g lp L)(hg:g≤400)(hs:LSame L L')(hr:LRows τ g w' lp L')(f:Fr (fun b=>g+2≤τ b∧τ b≤g+5) w w') :
    ∃M',Hold w' τ M'∧LogIn M' g lp L'∧Mem.Only (fun t=>g+2≤t∧t≤g+5) M M'∧KeepT w τ w' τ:=by
  obtain⟨M',hM⟩:∃M':Mem,M'=fun t=>if t=g+2 then aRow L'.vr (nI L'.reads) else if t=g+3 then aRow L'.vk (nI L'.keeps) else if t=g+4 then aHds L'.vh L'.holds else if t=g+5 then aUds L'.vu L'.undos else M t:=⟨_,rfl⟩
  have ho:Mem.Only (fun t=>g+2≤t∧t≤g+5) M M':=fun t ht=>by
    rw[hM];simp only[show t≠g+2 from fun e=>ht (by omega),show t≠g+3 from fun e=>ht (by omega),show t≠g+4 from fun e=>ht (by omega),show t≠g+5 from fun e=>ht (by omega),if_false]
  have e2:M' (g+2)=aRow L'.vr (nI L'.reads):=by rw[hM];simp
  have e3:M' (g+3)=aRow L'.vk (nI L'.keeps):=by rw[hM];simp
  have e4:M' (g+4)=aHds L'.vh L'.holds:=by rw[hM];simp
  have e5:M' (g+5)=aUds L'.vu L'.undos:=by rw[hM];simp
  obtain⟨k1,k2⟩:=h.same (fun t=>g+2≤t∧t≤g+5) f ho (B:=M') (fun t ht=>by
    obtain rfl|rfl|rfl|rfl:t=g+2∨t=g+3∨t=g+4∨t=g+5:=by omega
    · rw[e2,hl.r,hs.vr];have:=hr.r;rw[hs.vr] at this;exact⟨this,fun b hb=>hb⟩
    · rw[e3,hl.k,hs.vk];have:=hr.k;rw[hs.vk] at this;exact⟨this,fun b hb=>hb⟩
    · rw[e4,hl.h,hs.vh];have:=hr.h;rw[hs.vh] at this;exact⟨this,fun b hb=>hb⟩
    · rw[e5,hl.u,hs.vu];have:=hr.u;rw[hs.vu] at this;exact⟨this,fun b hb=>hb⟩) (fun t ht=>by omega)
  refine⟨M',k1,⟨?_,e2,e3,e4,e5⟩,ho,k2⟩;rw[ho (g+1) (by omega),hl.c,hs.mr,hs.mu,hs.vr,hs.vk,hs.vh,hs.vu]
theorem mem_setD {α:Type}{l:List α}{j:Nat}{y x:α}(h:x∈l.set j y):x∈l∨x=y:=List.mem_or_eq_of_mem_set h
theorem LRows.write {τ:Nat→Nat}{g lp:Nat}{L L0:LogD}{W:World}{br bk bh bu k:Nat}(h:LRows τ g W lp L)(hs:LSame L0 L)(ho:LOk L)
    (sr:Slc L0.vr L0.reads.length br) (sk:Slc L0.vk L0.keeps.length bk) (sh:Slc L0.vh L0.holds.length bh) (su:Slc L0.vu L0.undos.length bu)
    (hk:k<(plsA L0 br bk bh bu).length) {p:Nat} (hp:p≤131072) :
    ∃L',LSame L0 L'∧LOk L'∧LRows τ g (W.setCell ⟨(plE L0 br bk bh bu k).1,(plE L0 br bk bh bu k).2,none⟩ (vI p)) lp L'∧W.frozen? ⟨(plE L0 br bk bh bu k).1,(plE L0 br bk bh bu k).2,none⟩=false
      ∧ (∃u,W.cell? ⟨(plE L0 br bk bh bu k).1,(plE L0 br bk bh bu k).2,none⟩=some u)∧g+2≤τ (plE L0 br bk bh bu k).1∧τ (plE L0 br bk bh bu k).1≤g+5:=by
  have fr:∀b i,Fr (fun x=>x=b) W (W.setCell ⟨b,i,none⟩ (vI p)):=fun b i=>(Fr.refl (fun x=>x=b) W).setCell (p:=⟨b,i,none⟩) (.inl rfl) _;rcases pls_mem hk with ⟨j,hj,e⟩|⟨j,hj,e⟩|⟨j,hj,e⟩|⟨j,hj,e⟩
  · rw[e];obtain⟨a,c,hv,ha⟩:=sr;rw[ha (by omega)] at hv;have hv2:L.vr = .slice (some ⟨br,0,none⟩) L0.reads.length c:=hs.vr.trans hv;have ht:τ br=g+2:=h.t2 br (by rw[hv2];exact InB.mk.2 rfl);have hr:=h.r;have hj2:j<(nI L.reads).length:=by simp;have:=hs.lr;omega
    obtain⟨g',c',hv3,_,hown⟩:=hr.get hj2;rw[hv2] at hv3 hr;injection hv3 with e1;injection e1 with e1;injection e1 with e1;subst e1
    refine⟨{ L with reads:=L.reads.set j p },?_,?_,?_,hown.2,⟨_,hown.1⟩,by simp only[];omega,by simp only[];omega⟩
    · exact⟨hs.mr,hs.mu,hs.vr,hs.vk,hs.vh,hs.vu,by simp[hs.lr],hs.lk,hs.lh,hs.lu,hs.kd⟩
    · exact⟨fun x hx=>(mem_setD hx).elim (fun hx=>ho.r x hx) (fun e=>by subst e;exact hp),ho.k,ho.h,ho.u⟩
    · have f:=fr br j;refine⟨h.c.fr f (fun e=>by have:=h.t1;rw[e] at this;omega),?_,h.k.frB f (fun b hb e=>by have:=h.t3 b hb;rw[e] at this;omega),owns_frB h.h f (fun b hb e=>by have:=h.t4 b hb;rw[e] at this;omega),owns_frB h.u f (fun b hb e=>by have:=h.t5 b hb;rw[e] at this;omega),h.t1,h.t2,h.t3,h.t4,h.t5⟩;show ORow _ 0 L.vr (nI (L.reads.set j p));have:=hr.set hj2 (p:Int);rw[hv2];simpa[nI,List.map_set] using this
  · rw[e];obtain⟨a,c,hv,ha⟩:=sk;rw[ha (by omega)] at hv;have hv2:L.vk = .slice (some ⟨bk,0,none⟩) L0.keeps.length c:=hs.vk.trans hv;have ht:τ bk=g+3:=h.t3 bk (by rw[hv2];exact InB.mk.2 rfl);have hr:=h.k;have hj2:j<(nI L.keeps).length:=by simp;have:=hs.lk;omega
    obtain⟨g',c',hv3,_,hown⟩:=hr.get hj2;rw[hv2] at hv3 hr;injection hv3 with e1;injection e1 with e1;injection e1 with e1;subst e1
    refine⟨{ L with keeps:=L.keeps.set j p },?_,?_,?_,hown.2,⟨_,hown.1⟩,by simp only[];omega,by simp only[];omega⟩
    · exact⟨hs.mr,hs.mu,hs.vr,hs.vk,hs.vh,hs.vu,hs.lr,by simp[hs.lk],hs.lh,hs.lu,hs.kd⟩
    · exact⟨ho.r,fun x hx=>(mem_setD hx).elim (fun hx=>ho.k x hx) (fun e=>by subst e;exact hp),ho.h,ho.u⟩
    · have f:=fr bk j;refine⟨h.c.fr f (fun e=>by have:=h.t1;rw[e] at this;omega),h.r.frB f (fun b hb e=>by have:=h.t2 b hb;rw[e] at this;omega),?_,owns_frB h.h f (fun b hb e=>by have:=h.t4 b hb;rw[e] at this;omega),owns_frB h.u f (fun b hb e=>by have:=h.t5 b hb;rw[e] at this;omega),h.t1,h.t2,h.t3,h.t4,h.t5⟩;show ORow _ 0 L.vk (nI (L.keeps.set j p));have:=hr.set hj2 (p:Int);rw[hv2];simpa[nI,List.map_set] using this
  · rw[e];obtain⟨a,c,hv,ha⟩:=sh;rw[ha (by omega)] at hv;have hj1:j<L.holds.length:=by have:=hs.lh;omega
    have hv2:L.vh = .slice (some ⟨bh,0,none⟩) L.holds.length c:=by rw[hs.lh];exact hs.vh.trans hv
    have ht:τ bh=g+4:=h.t4 bh (by rw[hv2];exact InB.mk.2 rfl);have hr:=h.h;obtain⟨g',c',hv3,hown'⟩:=rows_get hdC_len (by decide) hr dH hj1;rw[hv2] at hv3 hr;injection hv3 with e1;injection e1 with e1;injection e1 with e1;subst e1
    have hown:=hown' 0 _ rfl;rw[Nat.add_zero] at hown;have hmem:=get_mem dH hj1;refine⟨{ L with holds:=L.holds.set j ⟨p,(L.holds.getD j dH).ver⟩ },?_,?_,?_,hown.2,⟨_,hown.1⟩,by simp only[];omega,by simp only[];omega⟩
    · exact⟨hs.mr,hs.mu,hs.vr,hs.vk,hs.vh,hs.vu,hs.lr,hs.lk,by simp[hs.lh],hs.lu,hs.kd⟩
    · exact⟨ho.r,ho.k,fun x hx=>(mem_setD hx).elim (fun hx=>ho.h x hx) (fun e=>by subst e;exact⟨hp,(ho.h _ hmem).2⟩),ho.u⟩
    · have f:=fr bh (j*2);refine⟨h.c.fr f (fun e=>by have:=h.t1;rw[e] at this;omega),h.r.frB f (fun b hb e=>by have:=h.t2 b hb;rw[e] at this;omega),h.k.frB f (fun b hb e=>by have:=h.t3 b hb;rw[e] at this;omega),?_,owns_frB h.u f (fun b hb e=>by have:=h.t5 b hb;rw[e] at this;omega),h.t1,h.t2,h.t3,h.t4,h.t5⟩;show World.ownsRow _ 0 _ 2 L.vh (L.holds.set j _).length ((L.holds.set j _).flatMap hdC);have:=owns_set hr (j:=j*2) (by rw[flat_len hdC 2 hdC_len];omega) (vI p);have e2:=flat_set hdC 2 hdC_len dH ⟨p,(L.holds.getD j dH).ver⟩ 0 (by decide) (vI p) L.holds j hj1 rfl;rw[Nat.add_zero] at e2;rw[hv2,List.length_set,←e2];exact this
  · obtain⟨a,c,hv,ha⟩:=su;rw[ha (by omega)] at hv;have hj1:j<L.undos.length:=by have:=hs.lu;omega
    have hv2:L.vu = .slice (some ⟨bu,0,none⟩) L.undos.length c:=by rw[hs.lu];exact hs.vu.trans hv
    have ht:τ bu=g+5:=h.t5 bu (by rw[hv2];exact InB.mk.2 rfl);have hr:=h.u;obtain⟨g',c',hv3,hown'⟩:=rows_get udC_len (by decide) hr dU hj1;rw[hv2] at hv3 hr;injection hv3 with e1;injection e1 with e1;injection e1 with e1;subst e1
    have hmem:=get_mem dU hj1;have hu:=ho.u _ hmem
    have hkd:∀u':Ud,u'.kind=(L.undos.getD j dU).kind→∀i,((L.undos.set j u').getD i dU).kind=(L0.undos.getD i dU).kind:=by
      intro u' hu' i;rw[←hs.kd i]
      by_cases e:i=j
      · subst e;rw[List.getD_eq_getElem?_getD,List.getElem?_set_self hj1];exact hu'
      · rw[List.getD_eq_getElem?_getD,List.getElem?_set_ne (by omega),←List.getD_eq_getElem?_getD]
    have fin:∀ (i:Nat) (u':Ud),i<4→u'.kind=(L.undos.getD j dU).kind→udC u'=(udC (L.undos.getD j dU)).set i (vI p)→(UdOk u'∧I64 u'.kind∧I64 u'.i) →
        ∃L',LSame L0 L'∧LOk L'∧LRows τ g (W.setCell ⟨bu,j*4+i,none⟩ (vI p)) lp L'∧W.frozen? ⟨bu,j*4+i,none⟩=false∧(∃u,W.cell? ⟨bu,j*4+i,none⟩=some u)∧g+2≤τ bu∧τ bu≤g+5:=by
      intro i u' hi hk' he hok;have hown:=hown' i _ (List.getElem?_eq_getElem (by rw[udC_len];exact hi));refine⟨{ L with undos:=L.undos.set j u' },?_,?_,?_,hown.2,⟨_,hown.1⟩,by omega,by omega⟩
      · exact⟨hs.mr,hs.mu,hs.vr,hs.vk,hs.vh,hs.vu,hs.lr,hs.lk,hs.lh,by simp[hs.lu],hkd u' hk'⟩
      · exact⟨ho.r,ho.k,ho.h,fun x hx=>(mem_setD hx).elim (fun hx=>ho.u x hx) (fun e=>by subst e;exact hok)⟩
      · have f:=fr bu (j*4+i);refine⟨h.c.fr f (fun e=>by have:=h.t1;rw[e] at this;omega),h.r.frB f (fun b hb e=>by have:=h.t2 b hb;rw[e] at this;omega),h.k.frB f (fun b hb e=>by have:=h.t3 b hb;rw[e] at this;omega),owns_frB h.h f (fun b hb e=>by have:=h.t4 b hb;rw[e] at this;omega),?_,h.t1,h.t2,h.t3,h.t4,h.t5⟩;show World.ownsRow _ 0 _ 4 L.vu (L.undos.set j u').length ((L.undos.set j u').flatMap udC);have:=owns_set hr (j:=j*4+i) (by rw[flat_len udC 4 udC_len];omega) (vI p);rw[hv2,List.length_set,←flat_set udC 4 udC_len dU u' i hi (vI p) L.undos j hj1 he];exact this
    rcases e with e|⟨hk1,e⟩
    · rw[e];exact fin 1 { L.undos.getD j dU with at_:=p } (by decide) rfl rfl ⟨⟨hp,hu.1.2⟩,hu.2⟩
    · rw[e];rw[←hs.kd] at hk1;exact fin 3 { L.undos.getD j dU with old:=p } (by decide) rfl rfl ⟨⟨hu.1.1,⟨by show _≤(p:Int);omega,by show(p:Int)≤_;omega⟩,fun _=>⟨Int.natCast_nonneg _,by show(p:Int)≤131072;omega⟩⟩,hu.2⟩
end
end Go.Proofs.YtdffnjikmkgjkaaGreat
