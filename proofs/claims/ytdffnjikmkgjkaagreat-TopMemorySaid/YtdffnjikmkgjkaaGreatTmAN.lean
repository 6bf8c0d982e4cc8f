/- TopMemory: a part of its proof (Pick St7 St8 St9 StA). -/
import Derived.Defers
import Derived.Test.YtdffnjikmkgjkaaGreatTmAA
import Derived.Test.YtdffnjikmkgjkaaGreatTmAM
set_option linter.unusedSimpArgs false
set_option linter.unusedVariables false
set_option maxHeartbeats 4000000
namespace Go.Proofs.YtdffnjikmkgjkaaGreat
section
open Go.RowKit
section
variable {P:Program}{ops:Array Oper}{Q:Exit→Act→World→Prop}{md:Region.Mode}{S:World→Prop}
def Waits (md:Region.Mode)(ops:Array Oper)(n:Nat):Prop:=∀done,HeadInv md ops n done→∀i,i<n→done.getD i true=false→∀t,n≤t→t∉Region.ready md ops done
def gateB (md:Region.Mode)(ops:Array Oper)(n:Nat):Bool:=
  decide (n≤ops.size) && ((List.range (n-1)).all fun i=>(List.range n).any fun j=>decide (i<j) && Region.waitsFor md ops j i) && ((List.range ops.size).all fun t=>decide (t<n) || Region.waitsFor md ops t (n-1))
theorem gate_waits {n:Nat}(h:gateB md ops n=true):Waits md ops n:=by
  simp only[gateB,Bool.and_eq_true,decide_eq_true_eq] at h;obtain⟨⟨hn,hs⟩,hc⟩:=h;intro done inv
  suffices hh:∀ (d i:Nat),n-i=d→i<n→done.getD i true=false→∀t,n≤t→t∉Region.ready md ops done from fun i hi hun=>hh _ i rfl hi hun
  intro d
  induction d using Nat.strongRecOn with
  | _ d ih=>
    intro i hd hi hun t ht hr;obtain⟨_,ot,hot,hall⟩:=mem_ready.1 hr;have htlt:t<ops.size:=(Array.getElem?_eq_some_iff.1 hot).1
    by_cases hin:i=n-1
    · have h1:=List.all_eq_true.1 hc t (List.mem_range.2 htlt);simp only[Bool.or_eq_true,decide_eq_true_eq] at h1;rcases h1 with h1|h1
      · omega
      · obtain⟨o',ho',e,he,hb,hon⟩:=Region.waitsFor_spec h1;have:o'=ot:=Option.some.inj (ho'.symm.trans hot);subst this;have h2:=hall e he hb;rw[hon,←hin,getD_both hun] at h2;cases h2
    · have h1:=List.all_eq_true.1 hs i (List.mem_range.2 (by omega));obtain⟨j,hj,hj2⟩:=List.any_eq_true.1 h1;simp only[Bool.and_eq_true,decide_eq_true_eq] at hj2;obtain⟨oj,hoj,e,he,hb,hon⟩:=Region.waitsFor_spec hj2.2;have hjn:=List.mem_range.1 hj
      cases hl:done.getD j false with
      | true=>
        have h2:=inv.closed j oj hoj hl e he hb;rw[hon,getD_both hun] at h2;cases h2
      | false=>
        have hjs:j<done.size:=by rw[inv.size];omega
        exact ih (n-j) (by omega) j rfl hjn (getD_in hjs hl) t ht hr
theorem size_waits:Waits md ops ops.size:=by
  intro done inv i hi hun t ht hr;obtain⟨_,ot,hot,_⟩:=mem_ready.1 hr;have:=(Array.getElem?_eq_some_iff.1 hot).1;omega
theorem pick_first {n i:Nat}{oi:Oper}{v:Value}{L:Array Bool→Act→World→Prop}(hi:ops[i]?=some oi)(hsel:∀ (j:Nat) (o:Oper) cs b,ops[j]?=some o→o.op≠.select cs b)
    (tw:Waits md ops n) (hin:i<n) (hQ:∀c a w,Q (.panic c) (a.put oi.dst v) w→Q (.panic c) a w)
    (hdone:∀done a w,L done a w→∀j∈Region.ready md ops done,n≤j) :
    ∀ (f:Nat) (done:Array Bool) (a:Act) (w:World),HeadInv md ops n done →
      (∀j oj,ops[j]?=some oj→j≠i→done.getD j true=false→(∀e∈oj.after,Region.binds md e=true→e.on≠i)→oi.apart ops oj=true) →
      i∈Region.ready md ops done→YieldsIf P ops S oi v a→S w →
      heldHead P md ops Q S n L f (done.setIfInBounds i true) (a.put oi.dst v) w→heldHead P md ops Q S n L (f+1) done a w:=by
  intro f
  induction f with
  | zero=>
    intro done a w inv _ hr hy hS H;have hun:=(mem_ready.1 hr).1;refine⟨fun h=>(by rw[h] at hr;cases hr),fun j hj=>?_⟩
    have hjn:j<n:=by
      rcases Nat.lt_or_ge j n with h|h
      · exact h
      · exact absurd hj (tw done inv i hin hun j h)
    refine⟨hjn,?_⟩
    by_cases hji:j=i
    · subst hji;exact hy.wpOp hi hS ⟨hS,H⟩
    · have:=hdone _ _ _ H j (ready_mono hj hji);omega
  | succ f ih=>
    intro done a w inv hfree hr hy hS H;have hun:=(mem_ready.1 hr).1;refine⟨fun h=>(by rw[h] at hr;cases hr),fun j hj=>?_⟩
    have hjn:j<n:=by
      rcases Nat.lt_or_ge j n with h|h
      · exact h
      · exact absurd hj (tw done inv i hin hun j h)
    refine⟨hjn,?_⟩
    by_cases hji:j=i
    · subst hji;exact hy.wpOp hi hS ⟨hS,H⟩
    · have h1:=(H.2 j (ready_mono hj hji)).2;obtain⟨hjun,oj,hoj,hall⟩:=mem_ready.1 hj
      have hnot:∀e∈oj.after,Region.binds md e=true→e.on≠i:=fun e he hb heq=>by
        have h1:=hall e he hb;rw[heq,getD_both hun] at h1;cases h1
      have h2:=wpOp_putIf hoj (hfree j oj hoj hji hjun hnot) (fun cs b=>hsel i oi cs b hi) (fun cs b=>hsel j oj cs b hoj) hQ hy h1
      have hfree':∀k ok,ops[k]?=some ok→k≠i→(done.setIfInBounds j true).getD k true=false →
          (∀e∈ok.after,Region.binds md e=true→e.on≠i)→oi.apart ops ok=true:=fun k ok hk hki hun hno=>by
        refine hfree k ok hk hki ?_ hno
        by_cases hjk:j=k
        · subst hjk;exact hjun
        · rw[Go.getD_set_ne true hjk] at hun;exact hun
      refine wpOp_mono (fun a' w' h3=>⟨h3.2.1,ih (done.setIfInBounds j true) a' w' (inv.set hj hjn) hfree' (ready_mono hr (Ne.symm hji)) h3.1 h3.2.1 ?_⟩) h2;rw[Array.setIfInBounds_comm _ _ hji];exact h3.2.2
def pickSeq (P:Program)(ops:Array Oper)(Q:Exit→Act→World→Prop)(S:World→Prop)(R:Act→World→Prop):List Nat→Act→World→Prop
  | [],a,w=>R a w
  | j::js,a,w=>∃o,ops[j]?=some o∧Region.wanted o (yielded ops a.tmps)=true∧o.wp P a w (fun a' w'=>S w'∧pickSeq P ops Q S R js a' w') Q
def pickList (P:Program)(ops:Array Oper)(Q:Exit→Act→World→Prop)(S:World→Prop)(R:Act→World→Prop):List Nat→Act→World→Prop
  | [],a,w=>R a w
  | i::ix,a,w=>∃o v,ops[i]?=some o∧YieldsIf P ops S o v a∧(∀c a w,Q (.panic c) (a.put o.dst v) w→Q (.panic c) a w)∧pickList P ops Q S R ix (a.put o.dst v) w
def setsB (ix:List Nat)(done:Array Bool):Array Bool:=ix.foldl (fun d i=>d.setIfInBounds i true) done
def seqsB (md:Region.Mode)(ops:Array Oper)(n:Nat):List Nat→Array Bool→Bool
  | j::js,done=>decide (Region.ready md ops done=[j]) && decide (j<n) && seqsB md ops n js (done.setIfInBounds j true)
  | [],done=>(Region.ready md ops done).all fun j=>decide (n≤j)
def pickB (md:Region.Mode)(ops:Array Oper)(n:Nat)(js:List Nat):List Nat→Array Bool→Bool
  | i::ix,done=>(Region.ready md ops done).contains i && Region.free md ops done i && decide (i<n) && pickB md ops n js ix (done.setIfInBounds i true)
  | [],done=>seqsB md ops n js done
def Left (md:Region.Mode)(ops:Array Oper)(n:Nat)(R:Act→World→Prop)(d0 done:Array Bool)(a:Act)(w:World):Prop:=done=d0∧((Region.ready md ops done).all fun j=>decide (n≤j))=true∧R a w
theorem Left.done {n:Nat}{R:Act→World→Prop}{d0 done:Array Bool}{a:Act}{w:World}(h:Left md ops n R d0 done a w):∀j∈Region.ready md ops done,n≤j:=fun j hj=>by
  have:=List.all_eq_true.1 h.2.1 j hj;simpa using this
theorem pick_seq {R:Act→World→Prop}{n:Nat} : ∀ (js:List Nat) (done:Array Bool) (a:Act) (w:World),seqsB md ops n js done=true →
    pickSeq P ops Q S R js a w→heldHead P md ops Q S n (Left md ops n R (setsB js done)) js.length done a w
  | [],done,a,w,hB,h=>⟨rfl,by simpa[seqsB] using hB,h⟩
  | j::js,done,a,w,hB,h=>by
    simp only[seqsB,Bool.and_eq_true,decide_eq_true_eq] at hB;obtain⟨⟨hr,hj⟩,hB'⟩:=hB;obtain⟨o,ho,hw,h⟩:=h;refine⟨fun h1=>(by rw[hr] at h1;cases h1),fun i hi=>?_⟩;rw[hr] at hi;have hik:i=j:=by simpa using hi
    subst hik;refine⟨hj,?_⟩;unfold wpOp;simp only[ho,hw,if_true];exact .inl (Oper.wp_mono (fun a' w' h'=>⟨h'.1,pick_seq js _ a' w' hB' h'.2⟩) h)
theorem pick_list {R:Act→World→Prop}{n:Nat}(hsel:Region.noSelect ops=true)(tw:Waits md ops n)(js:List Nat) :
    ∀ (ix:List Nat) (done:Array Bool) (a:Act) (w:World),HeadInv md ops n done→pickB md ops n js ix done=true→S w →
    pickList P ops Q S (fun a w=>pickSeq P ops Q S R js a w) ix a w→heldHead P md ops Q S n (Left md ops n R (setsB js (setsB ix done))) (ix.length+js.length) done a w
  | [],done,a,w,_,hB,_,h=>by
    have:=pick_seq (P:=P) (Q:=Q) (S:=S) (R:=R) js done a w (by simpa[pickB] using hB) h;simpa[setsB] using this
  | i::ix,done,a,w,inv,hB,hS,h=>by
    obtain⟨o,v,ho,hy,hQ,h⟩:=h;simp only[pickB,Bool.and_eq_true,decide_eq_true_eq] at hB;obtain⟨⟨⟨hr,hf⟩,hin⟩,hB'⟩:=hB;have hr':i∈Region.ready md ops done:=by simpa using hr
    rw[show(i::ix).length+js.length=(ix.length+js.length)+1 by simp;omega];refine pick_first ho (Region.noSelect_spec hsel) tw hin hQ (fun done' a' w' hL=>hL.done) _ done a w inv (Region.free_spec ho hf) hr' hy hS ?_;exact pick_list hsel tw js ix _ _ w (inv.set hr' hin) hB' hS h
theorem wpAny_phase {a:Act}{w:World}(ix js:List Nat)(n:Nat)(S:World→Prop)(hB:(Region.noSelect ops && decide (ix.length+js.length=n) && gateB md ops n && pickB md ops n js ix (Array.replicate ops.size false))=true)(hS:S w)
    (h:pickList P ops Q S (fun a w=>pickSeq P ops Q S (fun a' w'=>wpAny P md ops Q (ops.size-n) (setsB js (setsB ix (Array.replicate ops.size false))) a' w') js a w) ix a w) :
    wpAny P md ops Q ops.size (Array.replicate ops.size false) a w:=by
  simp only[Bool.and_eq_true,decide_eq_true_eq] at hB;obtain⟨⟨⟨hsel,hlen⟩,hg⟩,hp⟩:=hB;have hn:n≤ops.size:=by simp only[gateB,Bool.and_eq_true,decide_eq_true_eq] at hg;exact hg.1.1
  have inv0:HeadInv md ops n (Array.replicate ops.size false):=
    ⟨by simp,fun j oj _ hl=>(by rw[getD_replicate_false] at hl;cases hl),fun t _ ht=>getD_in (by simpa using ht) (getD_replicate_false _ _)⟩
  have H:=pick_list (P:=P) (Q:=Q) (S:=S) hsel (gate_waits hg) js ix _ a w inv0 hp hS h;rw[hlen] at H;have:=any_of_heldHead (Q:=Q) (g:=ops.size-n) (fun done a' w' hL=>by obtain⟨e,_,h⟩:=hL;rw[e];exact h) _ _ _ _ H
  rwa [show n+(ops.size-n)=ops.size by omega] at this
def closedB (md:Region.Mode)(ops:Array Oper)(done:Array Bool):Bool:=
  decide (done.size=ops.size) && (List.range ops.size).all fun j=>!done.getD j false || (match ops[j]? with|some o=>o.after.all fun e=>!Region.binds md e || done.getD e.on false|none=>true)
theorem wpAny_last {a:Act}{w:World}{d0:Array Bool}{f:Nat}(ix js:List Nat)(S:World→Prop)(hB:(Region.noSelect ops && decide (ix.length+js.length=f) && closedB md ops d0 && pickB md ops ops.size js ix d0)=true)(hS:S w)
    (h:pickList P ops Q S (fun a w=>pickSeq P ops Q S (fun a' w'=>Q .normal a' w') js a w) ix a w):wpAny P md ops Q f d0 a w:=by
  simp only[Bool.and_eq_true,decide_eq_true_eq] at hB;obtain⟨⟨⟨hsel,hlen⟩,hc⟩,hp⟩:=hB;simp only[closedB,Bool.and_eq_true,decide_eq_true_eq] at hc
  have inv0:HeadInv md ops ops.size d0:=by
    refine⟨hc.1,fun j oj hj hl e he hb=>?_,fun t h1 h2=>by omega⟩;have h1:=List.all_eq_true.1 hc.2 j (List.mem_range.2 (Array.getElem?_eq_some_iff.1 hj).1);simp only[hl,Bool.not_true,Bool.false_or,hj] at h1;have h2:=Array.all_eq_true_iff_forall_mem.1 h1 e he;simpa[hb] using h2
  have H:=pick_list (P:=P) (Q:=Q) (S:=S) (R:=fun a' w'=>Q .normal a' w') hsel size_waits js ix d0 a w inv0 hp hS h;rw[hlen] at H
  exact any_of_heldHead (Q:=Q) (g:=0) (fun done a' w' hL=>by
    obtain⟨_,h1,h⟩:=hL;refine⟨List.eq_nil_iff_forall_not_mem.2 fun i hi=>?_,h⟩;have h2:=List.all_eq_true.1 h1 i hi;obtain⟨o,ho,_⟩:=(mem_ready.1 hi).2;have:=(Array.getElem?_eq_some_iff.1 ho).1
    simp at h2;omega) f d0 a w H
end
theorem wp_region_phase {P:Program}{id:Nat}{Q:Exit→Act→World→Prop}{a:Act}{w:World}{l:List Oper}(ix js:List Nat)(n:Nat)(S:World→Prop)(hm:P.follows .mixedOrders=true)
    (hB:(Region.noSelect l.toArray && decide (ix.length+js.length=n) && gateB .any l.toArray n && pickB .any l.toArray n js ix (Array.replicate l.toArray.size false))=true) (hS:S w.drew)
    (h:pickList P l.toArray Q S (fun a w=>pickSeq P l.toArray Q S (fun a' w'=>wpAny P .any l.toArray Q (l.toArray.size-n) (setsB js (setsB ix (Array.replicate l.toArray.size false))) a' w') js a w) ix a w.drew):(Code.region id l.toArray true).wp P Q a w:=
  wp_region_any hm (wpAny_phase ix js n S hB hS h)
theorem pickList_step {P:Program}{ops:Array Oper}{Q:Exit→Act→World→Prop}{S:World→Prop}{R:Act→World→Prop}{i:Nat}{ix:List Nat}{a:Act}{w:World}{o:Oper}(v:Value)(ho:ops[i]?=some o)(hw:Region.wanted o (yielded ops a.tmps)=true)(hy:∀w,S w→(execOp a.eval o).run P w = .ok (.value v) w)(hQ:∀c a w,Q (.panic c) (a.put o.dst v) w→Q (.panic c) a w)
    (h:pickList P ops Q S R ix (a.put o.dst v) w):pickList P ops Q S R (i::ix) a w:=⟨o,v,ho,.inl ⟨hw,hy⟩,hQ,h⟩
theorem pickList_skip {P:Program}{ops:Array Oper}{Q:Exit→Act→World→Prop}{S:World→Prop}{R:Act→World→Prop}{i:Nat}{ix:List Nat}{a:Act}{w:World}{o:Oper}(ho:ops[i]?=some o)(hw:Region.wanted o (yielded ops a.tmps)=false)(hQ:∀c a w,Q (.panic c) (a.put o.dst undef) w→Q (.panic c) a w)
    (h:pickList P ops Q S R ix (a.put o.dst undef) w):pickList P ops Q S R (i::ix) a w:=⟨o,undef,ho,.inr ⟨hw,rfl⟩,hQ,h⟩
theorem pickSeq_step {P:Program}{ops:Array Oper}{Q:Exit→Act→World→Prop}{S:World→Prop}{R:Act→World→Prop}{j:Nat}{js:List Nat}{a:Act}{w:World}{o:Oper}(ho:ops[j]?=some o)(hw:Region.wanted o (yielded ops a.tmps)=true)(h:o.wp P a w (fun a' w'=>S w'∧pickSeq P ops Q S R js a' w') Q):pickSeq P ops Q S R (j::js) a w:=⟨o,ho,hw,h⟩
end
section
open Go.RowKit Go.Shelf
variable {w:World}{τ:Nat→Nat}{s q:Nat}{S:StD}
def DfPost (w:World)(τ:Nat→Nat)(s q:Nat)(S:StD)(b6:Nat)(x:Int)(e:Ending)(w':World):Prop:=
  e = .returned (.tuple #[])∧∃w1,Nx w τ s q S w1 (fun S'=>(x=0→S'=S)∧Still (fun _=>True) S.D.A S'.D.A)∧((x=0∧w'=w1)∨(x≠0∧w'=w1.setCell ⟨b6,0,none⟩ (vI 0)))
theorem deferred_is (h:St w τ s q S)(hq:q≤100000){t:Nat}(ht:t<S.txs.length){e7 b3 b8 b6:Nat}{v x:Int}(h7:Own w e7 0 (vI x))(h3:Own w b3 0 (pV S.sp))(h8:Own w b8 0 (pV (S.tx t).xp))(h6:Own w b6 0 (vI v))
    (t7:500≤τ e7) (t6:500≤τ b6) (u:FrameMode) :
    CallsD Tryz.prog 175 #[.pointer (some ⟨e7,0,none⟩),.pointer (some ⟨b3,0,none⟩),.pointer (some ⟨b8,0,none⟩),.pointer (some ⟨b6,0,none⟩)] u w fun e u' w'=>u'=u∧DfPost w τ s q S b6 x e w':=by
  have c7:=h7.1;have c3:=h3.1;have c8:=h8.1;have c6:=h6.1;have f6:=h6.2
  by_cases h0:x=0
  · subst h0;have hP:DfPost w τ s q S b6 0 (.returned (.tuple #[])) w:=⟨rfl,w,Nx.calm h (Fr.refl _ _) ⟨fun _=>rfl,Still.refl _ _⟩,.inl ⟨rfl,rfl⟩⟩;replace hP:=hid hP
    go_enter_d Tryz.func175,Tryz.ntmps175
    go_wp2
    go_end0
    exact hP.out
  · have e0:(x==0)=false:=by simpa using h0
    have en:(x != 0)=true:=by simp[bne,e0]
    by_cases hx:x=141∨x=130∨x=100
    · have hab:=hid (abort_is h hq ht);rcases hx with rfl|rfl|rfl
      all_goals
        clear h0
        go_enter_d Tryz.func175,Tryz.ntmps175
        go_wp2_with fail
        refine hab.out.mono ?_;rintro e w1 ⟨rfl,n1⟩;have n2:=hid n1;obtain⟨τ1,S1,k1,k2,k3,k4⟩:=n1;have o7:=k2.own h7 t7;have o6:=k2.own h6 t6;have d7:=o7.1;have d6:=o6.1;have g6:=o6.2;clear hab;go_wp2
        go_end0
        refine⟨rfl,w1,n2.out.mono (Nat.le_refl _) (Nat.le_refl _) ?_,.inr ⟨by decide,rfl⟩⟩;intro S' hS;exact⟨fun h9=>absurd h9 (by decide),hS⟩
    · have e1:(x==141)=false:=by simp;omega
      have e2:(x==130)=false:=by simp;omega
      have e3:(x==100)=false:=by simp;omega
      have hP:DfPost w τ s q S b6 x (.returned (.tuple #[])) (w.setCell ⟨b6,0,none⟩ (vI 0)):=⟨rfl,w,Nx.calm h (Fr.refl _ _) ⟨fun _=>rfl,Still.refl _ _⟩,.inr ⟨h0,rfl⟩⟩;replace hP:=hid hP
      go_enter_d Tryz.func175,Tryz.ntmps175
      go_wp2
      go_end0
      exact hP.out
def ClP (W:World)(τW:Nat→Nat)(s q:Nat)(S:StD)(R:Int→Int→StD→Prop)(e:Ending)(w':World):Prop:=
  ∃v x:Int,e = .returned (.tuple #[vI v,vI x])∧I64 v∧I64 x∧Nx W τW s q S w' (R v x)
def DeedP (w:World)(τ:Nat→Nat)(s q:Nat)(S:StD)(R:Int→Int→StD→Prop)(e:Ending)(w':World):Prop:=
  ∃v x:Int,e = .returned (.tuple #[vI v,vI x])∧I64 v∧I64 x∧Nx w τ s q S w' (fun S'=>(x=140∧v=0∧S'=S)∨(x=0∧R v 0 S')∨(x≠0∧v=0∧∃v0 S1,R v0 x S1∧Still (fun _=>True) S1.D.A S'.D.A))
theorem deed_is (h:St w τ s q S){s' q':Nat}(hq:q'≤100000)(hs1:s≤s')(hq1:q≤q')(t:Int)(ht:I64 t)(g:Nat)(cs:Array Value)(R:Int→Int→StD→Prop)(he:∀args w,(callFunc g args).run Tryz.prog w = .ok (.enter g args) w)
    (hcl:∀k:Nat,t=k→k<S.txs.length→(S.tx k).live=true→∀W τW,Calm w W→TagK w τ τW→St W τW s q S→Calls Tryz.prog g (#[pV (S.tx k).xp]++cs) W (ClP W τW s' q' S R)) :
    Calls Tryz.prog 125 #[pV S.sp,vI t,.func (.func g) #[] cs] w (DeedP w τ s' q' S R):=by
  obtain⟨τ0,hf,tk,fr⟩:=h.fresh;have k3:Calm w (((w.alloc (.cells #[pV S.sp] 54)).alloc (.cells #[vI 0] 3)).alloc (.cells #[vI 0] 26)):=(((Fr.refl _ _).alloc _).alloc _).alloc _;have i3:Own (((w.alloc (.cells #[pV S.sp] 54)).alloc (.cells #[vI 0] 3)).alloc (.cells #[vI 0] 26)) w.heap.size 0 (pV S.sp):=((Own.new w _ _ 0 rfl).alloc _).alloc _;have i6:Own (((w.alloc (.cells #[pV S.sp] 54)).alloc (.cells #[vI 0] 3)).alloc (.cells #[vI 0] 26)) (w.heap.size+1) 0 (vI 0):=(Own.at (w.alloc _) _ _ _ 0 (by simp) rfl).alloc _;have i7:Own (((w.alloc (.cells #[pV S.sp] 54)).alloc (.cells #[vI 0] 3)).alloc (.cells #[vI 0] 26)) (w.heap.size+1+1) 0 (vI 0):=Own.at ((w.alloc _).alloc _) _ _ _ 0 (by simp) rfl;have z3:(((w.alloc (.cells #[pV S.sp] 54)).alloc (.cells #[vI 0] 3)).alloc (.cells #[vI 0] 26)).heap.size=w.heap.size+1+1+1:=by simp
  have hmf:∀ (fn:Fn) (first cap:Array Value) (w:World),(Instr.makeFunc fn first cap).run Tryz.prog w = .ok (.func fn first cap) w:=fun _ _ _ _=>rfl;obtain⟨W3,hW3⟩:∃W3,(((w.alloc (.cells #[pV S.sp] 54)).alloc (.cells #[vI 0] 3)).alloc (.cells #[vI 0] 26))=W3:=⟨_,rfl⟩;rw[hW3] at k3 i3 i6 i7 z3;have c3:=i3.1;have hst3:=hf.calm k3;go_enter_defers Tryz.func125,Tryz.ntmps125;go_wp2_with fail
  clear hW3;refine(running_is hst3 t ht).mono ?_;rintro e w' ⟨⟨k,rfl,hk,hlive,rfl⟩|⟨hn,rfl⟩,rfl⟩
  · have hx:=hst3.txc hk;have k4:Calm w' (w'.alloc (.cells #[pV (S.tx k).xp] 95)):=(Fr.refl _ _).alloc _;have i8:Own (w'.alloc (.cells #[pV (S.tx k).xp] 95)) w'.heap.size 0 (pV (S.tx k).xp):=Own.new w' #[_] _ 0 rfl;obtain⟨W4,hW4⟩:∃W4,w'.alloc (.cells #[pV (S.tx k).xp] 95)=W4:=⟨_,rfl⟩;rw[hW4] at k4 i8;rw[z3] at i8;have hx4:=hst3.calm k4;have i34:=i3.calm k4;have i64:=i6.calm k4;have i74:=i7.calm k4;have c34:=i34.1;have c8:=i8.1;have hc:=hcl k rfl hk hlive W4 τ0 (k3.trans k4) tk hx4;clear hcl c3;go_wp2_with fail
    refine hc.mono ?_;rintro e w5 ⟨v,x,rfl,hv,hx',τ5,S5,p1,p2,p3,p4⟩;have hlt:=i8.lt;have tg:∀b,w.heap.size≤b→b<W4.heap.size→500≤τ5 b:=fun b h1 h2=>by rw[p2.tg b h2,fr b h1];omega
    have tg0:∀b,w.heap.size≤b→500≤τ0 b:=fun b h1=>by rw[fr b h1];omega
    have m3:=p2.own i34 (tg0 _ (Nat.le_refl _));have m6:=p2.own i64 (tg0 _ (by omega));have m7:=p2.own i74 (tg0 _ (by omega));have m8:=p2.own i8 (tg0 _ (by omega));have c6:=m6.1;have f6:=m6.2;have f66:=frS w5 (w.heap.size+1) 0 (vI v);have m65:=m6.set (vI v);have m75:=m7.fr f66 (by omega);obtain⟨W6,hW6⟩:∃W6,w5.setCell ⟨w.heap.size+1,0,none⟩ (vI v)=W6:=⟨_,rfl⟩;rw[hW6] at f66 m65 m75;have c7:=m75.1;have f7:=m75.2;have f77:=frS W6 (w.heap.size+1+1) 0 (vI x);have l7:=m75.set (vI x);have l6:=m65.fr f77 (by omega);obtain⟨W7,hW7⟩:∃W7,W6.setCell ⟨w.heap.size+1+1,0,none⟩ (vI x)=W7:=⟨_,rfl⟩;rw[hW7] at f77 l7 l6;have F7:Fr (fun b=>b=w.heap.size+1∨b=w.heap.size+1+1) w5 W7:=(f66.mono (fun b _ e=>.inl e)).trans (f77.mono (fun b _ e=>.inr e));have l3:=m3.fr F7 (by omega);have l8:=m8.fr F7 (by omega);have hst7:=p1.far F7 (fun b hb=>tg b (by omega) (by omega));have hk5:k<S5.txs.length:=p3.len ▸ hk;rw[←p3.xp] at l8;rw[←p3.sp] at l3;have hd:=deferred_is hst7 hq hk5 l7 l3 l8 l6 (tg _ (by omega) (by omega)) (tg _ (by omega) (by omega)) .returning;clear hc i34 i64 i74 i8 i3 i6 i7 hx4 hx hst3;go_wp2;refine leaves_cons (f:=175) (args:=#[.pointer (some ⟨w.heap.size+1+1,0,none⟩),.pointer (some ⟨w.heap.size,0,none⟩),.pointer (some ⟨w.heap.size+1+1+1,0,none⟩),.pointer (some ⟨w.heap.size+1,0,none⟩)]) (by simp) (by simp[go_sem]) ?_;refine hd.mono ?_;rintro e u' w8 ⟨rfl,rfl,w1,⟨τ9,S9,n1,n2,n3,n4,n5⟩,hw8⟩;have hs7:w.heap.size+1+1+1<W7.heap.size:=l8.lt;have tg9:∀b,w.heap.size≤b→b<W4.heap.size→500≤τ9 b:=fun b h1 h2=>by rw[n2.tg b (by have:=F7.size;have:=p2.size;omega)];exact tg b h1 h2
    have r7:=n2.own l7 (tg _ (by omega) (by omega));have r6:=n2.own l6 (tg _ (by omega) (by omega))
    have KK:KeepT w τ w1 τ9:=by
      have h1:KeepT w τ0 w5 τ5:=(KeepT.calm τ0 (k3.trans k4)).trans p2;have h2:KeepT w τ0 W7 τ5:=⟨h1.fr.join F7 (fun j hj e=>by omega),h1.tg⟩;exact(h2.trans n2).retag tk
    rcases hw8 with ⟨rfl,rfl⟩|⟨hx0,rfl⟩
    · have y6:=r6.1;have y7:=r7.1;have hP:DeedP w τ s' q' S R (.returned (.tuple #[vI v,vI 0])) w8:=⟨v,0,rfl,hv,hx',τ9,S9,n1,KK,p3.trans n3,.inr (.inl ⟨rfl,by rw[n4 rfl];exact p4⟩)⟩;simp[Leaves,settle,results,Tryz.f125,go_sem,y6,y7];exact hP
    · have f9:=frS w1 (w.heap.size+1) 0 (vI 0);have y6:=(r6.set (vI 0)).1;have y7:=(r7.fr f9 (by omega)).1
      have hP:DeedP w τ s' q' S R (.returned (.tuple #[vI 0,vI x])) (w1.setCell ⟨w.heap.size+1,0,none⟩ (vI 0)):=
        ⟨0,x,rfl,by decide,hx',τ9,S9,n1.far f9 (fun b hb=>tg9 b (by omega) (by omega)),⟨KK.fr.join f9 (fun j hj e=>by omega),KK.tg⟩,p3.trans n3,.inr (.inr ⟨hx0,rfl,v,S5,p4,n5⟩)⟩
      simp[Leaves,settle,results,Tryz.f125,go_sem,y6,y7];exact hP
  · have k4:Calm w' (w'.alloc (.cells #[.pointer none] 95)):=(Fr.refl _ _).alloc _;have i8:Own (w'.alloc (.cells #[.pointer none] 95)) w'.heap.size 0 (.pointer none):=Own.new w' #[_] _ 0 rfl;obtain⟨W4,hW4⟩:∃W4,w'.alloc (.cells #[.pointer none] 95)=W4:=⟨_,rfl⟩;rw[hW4] at k4 i8;rw[z3] at i8;have c8:=i8.1;have f8:=i8.2;have f88:=frS W4 (w.heap.size+1+1+1) 0 (.pointer none);have i88:=i8.set (.pointer none);obtain⟨W5,hW5⟩:∃W5,W4.setCell ⟨w.heap.size+1+1+1,0,none⟩ (.pointer none)=W5:=⟨_,rfl⟩;rw[hW5] at f88 i88;have c88:=i88.1;have i64:=(i6.calm k4).fr f88 (by omega);have i74:=(i7.calm k4).fr f88 (by omega);have c6:=i64.1;have f6:=i64.2;have f66:=frS W5 (w.heap.size+1) 0 (vI 0);have i75:=i74.fr f66 (by omega);have i65:=i64.set (vI 0);obtain⟨W6,hW6⟩:∃W6,W5.setCell ⟨w.heap.size+1,0,none⟩ (vI 0)=W6:=⟨_,rfl⟩;rw[hW6] at f66 i75 i65;have c7:=i75.1;have f7:=i75.2;have f77:=frS W6 (w.heap.size+1+1) 0 (vI 140);have j7:=i75.set (vI 140);have j6:=i65.fr f77 (by omega);have K:Calm w (W6.setCell ⟨w.heap.size+1+1,0,none⟩ (vI 140)):=(((k3.trans k4).join f88 (fun j hj e=>by omega)).join f66 (fun j hj e=>by omega)).join f77 (fun j hj e=>by omega);have y6:=j6.1;have y7:=j7.1;have hP:DeedP w τ s' q' S R (.returned (.tuple #[vI 0,vI 140])) (W6.setCell ⟨w.heap.size+1+1,0,none⟩ (vI 140)):=⟨0,140,rfl,by decide,by decide,(Nx.calm h K (R:=fun S'=>(140=(140:Int)∧0=(0:Int)∧S'=S)∨((140:Int)=0∧R 0 0 S')∨((140:Int)≠0∧(0:Int)=0∧∃v0 S1,R v0 140 S1∧Still (fun _=>True) S1.D.A S'.D.A)) (.inl ⟨rfl,rfl,rfl⟩)).mono hs1 hq1 (fun S' e=>e)⟩;clear hcl;go_wp2;simp[bodyPostD,Leaves,settle,results,Tryz.f125,go_sem,y6,y7];exact hP
end
section
open Go.RowKit Go.Shelf
variable {w:World}{τ:Nat→Nat}{s q:Nat}{S:StD}
theorem LayR.i64 {S S':StD}{p d:Nat}{v x:Int}(h:LayR S p d v x S'):I64 v∧I64 x:=by
  rcases h with ⟨rfl,a,rfl,h1,_⟩|⟨rfl,rfl,_⟩|⟨rfl,rfl⟩
  · exact⟨⟨by omega,by omega⟩,by decide⟩
  · exact⟨by decide,by decide⟩
  · exact⟨by decide,by decide⟩
theorem lay_cl (h:St w τ s q S)(hs:s<100000){t:Nat}(ht:t<S.txs.length){p d:Nat}{wk fn:Bool}(hok:okS p d wk fn) :
    Calls Tryz.prog 134 #[pV S.sp,pV (S.tx t).xp,shV p d wk fn] w (ClP w τ (s+1) q S (LayR S p d)):=
  (lay_is h hs ht hok).mono fun e w' ⟨v,x,h1,h2⟩=>⟨v,x,h1,(by obtain⟨_,_,_,_,_,h3⟩:=h2;exact h3.i64.1),(by obtain⟨_,_,_,_,_,h3⟩:=h2;exact h3.i64.2),h2⟩
theorem alloc1_is (h:St w τ s q S)(hs:s<100000){t:Nat}(ht:t<S.txs.length){p d:Nat}{fn:Bool}(hok:okS p d false fn){b5 b3:Nat}(o5:OwnL w b5 (shC p d false fn))(o3:Own w b3 0 (pV S.sp)) :
    Calls Tryz.prog 133 #[pV (S.tx t).xp,.pointer (some ⟨b5,0,none⟩),.pointer (some ⟨b3,0,none⟩)] w (ClP w τ (s+1) q S (LayR S p d)):=by
  obtain⟨y0,y1,y2,y3⟩:=OwnL.ce4 o5;have y9:=o3.1;go_enter Tryz.func133,Tryz.ntmps133;go_wp2_with fail
  refine(hright_yes p d false fn hok _).mono ?_;rintro e w1 ⟨rfl,k1⟩;have o5':=o5.calm k1;have o3':=o3.calm k1;clear y0 y1 y2 y3 y9;obtain⟨y0,y1,y2,y3⟩:=OwnL.ce4 o5';have y9:=o3'.1;go_wp2_with fail
  refine(lay_cl (h.calm k1) hs ht hok).mono ?_;rintro e w2 ⟨v,x,rfl,hv,hx,n⟩;go_wp2
  go_ret2
  exact⟨v,x,rfl,hv,hx,n.calmL k1⟩
def WkR (S:StD)(a:Nat)(v x:Int)(S':StD):Prop:=
  (x=0∧∃b:Nat,v=b∧b≤131072∧S'.D.A.room=S.D.A.room-rnd 4∧rnd 4≤S.D.A.room)∨(x=100∧a∈plc S.D.A.cur∧S.D.A.room<rnd 4∧S'.D=S.D)∨(x≠0∧x≠100)
theorem weak1_is (h:St w τ s q S)(hs:s<100000){t:Nat}(ht:t<S.txs.length){a:Nat}(ha:a≤131072){b5 b3:Nat}(o5:Own w b5 0 (vI (a:Int)))(o3:Own w b3 0 (pV S.sp))(t5:500≤τ b5)(t3:500≤τ b3) :
    Calls Tryz.prog 135 #[pV (S.tx t).xp,.pointer (some ⟨b5,0,none⟩),.pointer (some ⟨b3,0,none⟩)] w (ClP w τ (s+1) q S (WkR S a)):=by
  have y5:=o5.1;have y3:=o3.1
  by_cases h0:a=0
  · subst h0;have hP:ClP w τ (s+1) q S (WkR S 0) (.returned (.tuple #[vI 0,vI 143])) w:=⟨0,143,rfl,by decide,by decide,(Nx.calm h (Fr.refl _ _) (R:=WkR S 0 0 143) (.inr (.inr ⟨by decide,by decide⟩))).mono (Nat.le_succ _) (Nat.le_refl _) fun _ h=>h⟩;replace hP:=hid hP;go_enter Tryz.func135,Tryz.ntmps135;go_wp2
    go_ret2
    exact hP.out
  · have hz:((a:Int)==0)=false:=by simp;omega
    have c0:=(h.cells 0 _ rfl).1;obtain⟨X,hh⟩:=h.hat;have k1:Calm w w.drew:=(Fr.refl _ _).drew;go_enter Tryz.func135,Tryz.ntmps135;go_wp2_with fail
    refine wp_region_helds 5 6 (fun w'=>Calm w w') (by kernel_rfl) (by kernel_rfl) ((Fr.refl _ _).drew) ?_;refine heldList_step (pV S.sp) rfl (fun w' hw'=>?_) (fun _ _ _ h=>h) ?_
    · have e1:=hw'.cellAt y3 id;simp[go_sem,e1]
    refine heldList_step (pV S.sp) rfl (fun w' hw'=>?_) (fun _ _ _ h=>h) ?_
    · simp[go_sem]
    refine heldList_step (.pointer (some ⟨S.sp,0,none⟩)) rfl (fun w' hw'=>?_) (fun _ _ _ h=>h) ?_
    · simp[go_sem]
    refine heldList_step (pV S.D.B.hp) rfl (fun w' hw'=>?_) (fun _ _ _ h=>h) ?_
    · have e1:=hw'.cellAt c0 id;simp[go_sem,e1]
    refine heldList_step (vI (a:Int)) rfl (fun w' hw'=>?_) (fun _ _ _ h=>h) ?_
    · have e1:=hw'.cellAt y5 id;simp[go_sem,e1]
    simp only[heldList];refine heldSeq_step rfl ?_;go_wp2_with fail
    refine(here_is (hh.calm k1) (a:Int) ⟨by omega,by omega⟩).mono ?_;rintro e w1 ⟨rfl,k2⟩;refine⟨k1.trans k2,?_⟩;simp only[heldSeq];have k3:=k1.trans k2;have h1:=h.calm k3;have y53:=(o5.calm k3).1;have y33:=(o3.calm k3).1;clear y5 y3 c0
    by_cases hm:(a:Int)∈nI (plc S.D.A.cur)
    · have hd:decide ((a:Int)∈nI (plc S.D.A.cur))=true:=by simp only[hm,decide_true]
      rw[hd]
      have hm':a∈plc S.D.A.cur:=by
        obtain⟨b,hb,e⟩:=List.mem_map.1 hm;have:b=a:=by omega
        exact this ▸ hb
      replace hm:=hid hm;go_wp2_with fail
      refine(lay_cl (p:=1) (d:=0) (wk:=true) (fn:=false) h1 hs ht ⟨by omega,by omega,fun _=>⟨rfl,rfl,rfl⟩⟩).mono ?_;rintro e w2 ⟨v,x,rfl,hv,hx,τ2,S2,m1,m2,m3,m4⟩;have y54:=(m2.own (o5.calm k3) t5).1;have y34:=(m2.own (o3.calm k3) t3).1;have c02:=(m1.cells 0 _ rfl).1;rw[m3.sp,m3.hp] at c02;have K2:=(KeepT.calm τ k3).trans m2
      by_cases hx0:x=0
      · subst hx0
        obtain⟨b,rfl,hb,hr1,hr2⟩:∃b:Nat,v=b∧b≤131072∧S2.D.A.room=S.D.A.room-rnd 4∧rnd 4≤S.D.A.room:=by
          rcases m4 with ⟨_,b,e1,e2,e3,e4⟩|⟨e,_⟩|⟨e,_⟩
          · exact⟨b,e1,e2,e3,e4⟩
          · cases e
          · cases e
        have k5:Calm w2 w2.drew:=(Fr.refl _ _).drew;have o:=ssetptr_is (m1.calm k5) hb ha 0;rw[m3.hp] at o;go_wp2_with fail
        refine wp_region_helds 6 6 (fun w'=>Calm w2 w') (by kernel_rfl) (by kernel_rfl) ((Fr.refl _ _).drew) ?_;refine heldList_step (pV S.sp) rfl (fun w' hw'=>?_) (fun _ _ _ h=>h) ?_
        · have e1:=hw'.cellAt y34 id;simp[go_sem,e1]
        refine heldList_step (pV S.sp) rfl (fun w' hw'=>?_) (fun _ _ _ h=>h) ?_
        · simp[go_sem]
        refine heldList_step (.pointer (some ⟨S.sp,0,none⟩)) rfl (fun w' hw'=>?_) (fun _ _ _ h=>h) ?_
        · simp[go_sem]
        refine heldList_step (pV S.D.B.hp) rfl (fun w' hw'=>?_) (fun _ _ _ h=>h) ?_
        · have e1:=hw'.cellAt c02 id;simp[go_sem,e1]
        refine heldList_step (vI (b:Int)) rfl (fun w' hw'=>?_) (fun _ _ _ h=>h) ?_
        · simp[go_sem]
        refine heldList_step (vI (a:Int)) rfl (fun w' hw'=>?_) (fun _ _ _ h=>h) ?_
        · have e1:=hw'.cellAt y54 id;simp[go_sem,e1]
        simp only[heldList,Nat.sub_self,heldSeq];go_wp2_with fail
        refine o.mono ?_;rintro e w4 ⟨z,rfl,_,n4⟩;have hP:ClP w τ (s+1) q S (WkR S a) (.returned (.tuple #[vI (b:Int),vI 0])) w4:=⟨b,0,rfl,hv,hx,((n4.calmL k5).step K2 m3).mono (Nat.le_refl _) (Nat.le_refl _) fun S4 e=>.inl ⟨rfl,b,rfl,hb,by rw[e.1.room,hr1],hr2⟩⟩;replace hP:=hid hP;clear n4 o y54 y34 c02;go_wp2
        go_ret2
        exact hP.out
      · have hxe:(x != 0)=true:=by simp[bne,hx0]
        have hP:ClP w τ (s+1) q S (WkR S a) (.returned (.tuple #[vI 0,vI x])) w2:=by
          refine⟨0,x,rfl,by decide,hx,τ2,S2,m1,K2,m3,?_⟩;rcases m4 with ⟨e,_⟩|⟨e,_,hr,hD⟩|⟨e,_⟩
          · exact absurd e hx0
          · exact .inr (.inl ⟨e,hm',hr,hD⟩)
          · exact .inr (.inr ⟨hx0,by rw[e];decide⟩)
        replace hP:=hid hP;go_wp2
        go_ret2
        exact hP.out
    · have hd:decide ((a:Int)∈nI (plc S.D.A.cur))=false:=by simp only[hm,decide_false]
      rw[hd];have hP:ClP w τ (s+1) q S (WkR S a) (.returned (.tuple #[vI 0,vI 70])) w1:=⟨0,70,rfl,by decide,by decide,(Nx.calm h k3 (R:=WkR S a 0 70) (.inr (.inr ⟨by decide,by decide⟩))).mono (Nat.le_succ _) (Nat.le_refl _) fun _ h=>h⟩;replace hP:=hid hP;replace hm:=hid hm;go_wp2
      go_ret2
      exact hP.out
def GetR (v x:Int)(S':StD):Prop:=0≤v∧v≤131072∧x≠100
def NumR (v x:Int)(S':StD):Prop:=x≠100
theorem HErr.i64 {x:Int}(h:HErr x):I64 x∧x≠100:=by unfold HErr at h;unfold I64;omega
theorem field1_0 (h:St w τ s q S){t:Nat}(ht:t<S.txs.length){a:Nat}(ha:a≤131072){k:Int}{b3 b5 bf bk:Nat}(o3:Own w b3 0 (pV S.sp))(o5:Own w b5 0 (vI (a:Int)))(of:Own w bf 0 (.func (.func 138) #[] #[]))(ok:Own w bk 0 (vI k))
    (t3:500≤τ b3) (t5:500≤τ b5) (tf:500≤τ bf) (tk:500≤τ bk) :
    Calls Tryz.prog 186 #[pV (S.tx t).xp,.pointer (some ⟨b3,0,none⟩),.pointer (some ⟨b5,0,none⟩),.pointer (some ⟨bf,0,none⟩),.pointer (some ⟨bk,0,none⟩)] w (ClP w τ s q S GetR):=by
  have y3:=o3.1;have y5:=o5.1;go_enter Tryz.func186,Tryz.ntmps186;go_wp2_with fail
  refine(fields_is h ht ha).mono ?_;rintro e w1 ⟨x,rfl,hx,hx1,τ1,S1,m1,m2,m3,-⟩
  by_cases h0:x=0
  · subst h0;have z3:=(m2.own o3 t3).1;have z5:=(m2.own o5 t5).1;have zf:=(m2.own of tf).1;have zk:=(m2.own ok tk).1;have c0:=(m1.cells 0 _ rfl).1;rw[m3.sp,m3.hp] at c0;have k1:Calm w1 w1.drew:=(Fr.refl _ _).drew;have o:=sptr_is (m1.calm k1) ha k;rw[m3.hp] at o;clear y3 y5;go_wp2_with fail
    refine wp_region_phase [0,1,2,3,4,5,6] [7] 8 (fun w'=>w'.cell? ⟨bf,0,none⟩=some (.func (.func 138) #[] #[])∧w'.cell? ⟨b3,0,none⟩=some (pV S.sp)∧w'.cell? ⟨S.sp,0,none⟩=some (pV S.D.B.hp)∧w'.cell? ⟨b5,0,none⟩=some (vI (a:Int))∧w'.cell? ⟨bk,0,none⟩=some (vI k)) (by kernel_rfl) (by kernel_rfl) ⟨zf,z3,c0,z5,zk⟩ ?_;refine pickList_step (.func (.func 138) #[] #[]) rfl rfl (fun w' hw'=>?_) (fun _ _ _ h=>h) ?_
    · have e1:=hw'.1;simp[go_sem,e1]
    refine pickList_step (pV S.sp) rfl rfl (fun w' hw'=>?_) (fun _ _ _ h=>h) ?_
    · have e1:=hw'.2.1;simp[go_sem,e1]
    refine pickList_step (pV S.sp) rfl rfl (fun w' hw'=>?_) (fun _ _ _ h=>h) ?_
    · simp[go_sem]
    refine pickList_step (.pointer (some ⟨S.sp,0,none⟩)) rfl rfl (fun w' hw'=>?_) (fun _ _ _ h=>h) ?_
    · simp[go_sem]
    refine pickList_step (pV S.D.B.hp) rfl rfl (fun w' hw'=>?_) (fun _ _ _ h=>h) ?_
    · have e1:=hw'.2.2.1;simp[go_sem,e1]
    refine pickList_step (vI (a:Int)) rfl rfl (fun w' hw'=>?_) (fun _ _ _ h=>h) ?_
    · have e1:=hw'.2.2.2.1;simp[go_sem,e1]
    refine pickList_step (vI k) rfl rfl (fun w' hw'=>?_) (fun _ _ _ h=>h) ?_
    · have e1:=hw'.2.2.2.2;simp[go_sem,e1]
    simp only[pickList];refine pickSeq_step rfl rfl ?_;go_wp2_with fail
    refine o.mono ?_;rintro e w4 ⟨v,x,rfl,hv,hxx,n4⟩;have n5:=n4.calmL k1;obtain⟨τ5,S5,p1,p2,p3,p4⟩:=n5;have hP:ClP w τ s q S GetR (.returned (.tuple #[vI (v:Int),vI x])) w4:=⟨(v:Int),x,rfl,⟨by omega,by omega⟩,hxx.i64.1,τ5,S5,p1,m2.trans p2,m3.trans p3,⟨by omega,by omega,hxx.i64.2⟩⟩;have c02:=(p1.cells 0 _ rfl).1;rw[p3.sp,p3.hp,m3.sp,m3.hp] at c02;refine⟨⟨(p2.own (m2.own of tf) (by rw[m2.tg _ of.lt];exact tf)).1,(p2.own (m2.own o3 t3) (by rw[m2.tg _ o3.lt];exact t3)).1,c02,(p2.own (m2.own o5 t5) (by rw[m2.tg _ o5.lt];exact t5)).1,(p2.own (m2.own ok tk) (by rw[m2.tg _ ok.lt];exact tk)).1⟩,?_⟩;replace hP:=hid hP;clear n4 o z3 z5 zf zk c0 c02 p1 p2 p3 p4 m1 m2 m3;simp only[pickSeq];refine wpAny_last [8,9] [10,11] (fun _=>True) (by kernel_rfl) trivial ?_;refine pickList_step (vI (v:Int)) rfl rfl (fun w' hw'=>?_) (fun _ _ _ h=>h) ?_
    · simp[go_sem]
    refine pickList_step (vI x) rfl rfl (fun w' hw'=>?_) (fun _ _ _ h=>h) ?_
    · simp[go_sem]
    simp only[pickList];refine pickSeq_step rfl rfl ?_;unfold Oper.wp;go_simp
    try refine⟨trivial,?_⟩
    refine pickSeq_step rfl rfl ?_;unfold Oper.wp;go_simp
    try refine⟨trivial,?_⟩
    simp only[pickSeq];go_wp2
    go_ret2
    exact hP.out
  · have hxe:(x != 0)=true:=by simp[bne,h0]
    have hP:ClP w τ s q S GetR (.returned (.tuple #[vI 0,vI x])) w1:=⟨0,x,rfl,by decide,hx,τ1,S1,m1,m2,m3,⟨by decide,by decide,hx1⟩⟩;replace hP:=hid hP;go_wp2
    go_ret2
    exact hP.out
theorem field1_1 (h:St w τ s q S){t:Nat}(ht:t<S.txs.length){a:Nat}(ha:a≤131072){k:Int}{b3 b5 bf bk:Nat}(o3:Own w b3 0 (pV S.sp))(o5:Own w b5 0 (vI (a:Int)))(of:Own w bf 0 (.func (.func 146) #[] #[]))(ok:Own w bk 0 (vI k))
    (t3:500≤τ b3) (t5:500≤τ b5) (tf:500≤τ bf) (tk:500≤τ bk) :
    Calls Tryz.prog 186 #[pV (S.tx t).xp,.pointer (some ⟨b3,0,none⟩),.pointer (some ⟨b5,0,none⟩),.pointer (some ⟨bf,0,none⟩),.pointer (some ⟨bk,0,none⟩)] w (ClP w τ s q S NumR):=by
  have y3:=o3.1;have y5:=o5.1;go_enter Tryz.func186,Tryz.ntmps186;go_wp2_with fail
  refine(fields_is h ht ha).mono ?_;rintro e w1 ⟨x,rfl,hx,hx1,τ1,S1,m1,m2,m3,-⟩
  by_cases h0:x=0
  · subst h0;have z3:=(m2.own o3 t3).1;have z5:=(m2.own o5 t5).1;have zf:=(m2.own of tf).1;have zk:=(m2.own ok tk).1;have c0:=(m1.cells 0 _ rfl).1;rw[m3.sp,m3.hp] at c0;have k1:Calm w1 w1.drew:=(Fr.refl _ _).drew;have o:=snum_is (m1.calm k1) ha k;rw[m3.hp] at o;clear y3 y5;go_wp2_with fail
    refine wp_region_phase [0,1,2,3,4,5,6] [7] 8 (fun w'=>w'.cell? ⟨bf,0,none⟩=some (.func (.func 146) #[] #[])∧w'.cell? ⟨b3,0,none⟩=some (pV S.sp)∧w'.cell? ⟨S.sp,0,none⟩=some (pV S.D.B.hp)∧w'.cell? ⟨b5,0,none⟩=some (vI (a:Int))∧w'.cell? ⟨bk,0,none⟩=some (vI k)) (by kernel_rfl) (by kernel_rfl) ⟨zf,z3,c0,z5,zk⟩ ?_;refine pickList_step (.func (.func 146) #[] #[]) rfl rfl (fun w' hw'=>?_) (fun _ _ _ h=>h) ?_
    · have e1:=hw'.1;simp[go_sem,e1]
    refine pickList_step (pV S.sp) rfl rfl (fun w' hw'=>?_) (fun _ _ _ h=>h) ?_
    · have e1:=hw'.2.1;simp[go_sem,e1]
    refine pickList_step (pV S.sp) rfl rfl (fun w' hw'=>?_) (fun _ _ _ h=>h) ?_
    · simp[go_sem]
    refine pickList_step (.pointer (some ⟨S.sp,0,none⟩)) rfl rfl (fun w' hw'=>?_) (fun _ _ _ h=>h) ?_
    · simp[go_sem]
    refine pickList_step (pV S.D.B.hp) rfl rfl (fun w' hw'=>?_) (fun _ _ _ h=>h) ?_
    · have e1:=hw'.2.2.1;simp[go_sem,e1]
    refine pickList_step (vI (a:Int)) rfl rfl (fun w' hw'=>?_) (fun _ _ _ h=>h) ?_
    · have e1:=hw'.2.2.2.1;simp[go_sem,e1]
    refine pickList_step (vI k) rfl rfl (fun w' hw'=>?_) (fun _ _ _ h=>h) ?_
    · have e1:=hw'.2.2.2.2;simp[go_sem,e1]
    simp only[pickList];refine pickSeq_step rfl rfl ?_;go_wp2_with fail
    refine o.mono ?_;rintro e w4 ⟨v,x,rfl,hv,hxx,n4⟩;have n5:=n4.calmL k1;obtain⟨τ5,S5,p1,p2,p3,p4⟩:=n5;have hP:ClP w τ s q S NumR (.returned (.tuple #[vI v,vI x])) w4:=⟨v,x,rfl,hv,hxx.i64.1,τ5,S5,p1,m2.trans p2,m3.trans p3,hxx.i64.2⟩;have c02:=(p1.cells 0 _ rfl).1;rw[p3.sp,p3.hp,m3.sp,m3.hp] at c02;refine⟨⟨(p2.own (m2.own of tf) (by rw[m2.tg _ of.lt];exact tf)).1,(p2.own (m2.own o3 t3) (by rw[m2.tg _ o3.lt];exact t3)).1,c02,(p2.own (m2.own o5 t5) (by rw[m2.tg _ o5.lt];exact t5)).1,(p2.own (m2.own ok tk) (by rw[m2.tg _ ok.lt];exact tk)).1⟩,?_⟩;replace hP:=hid hP;clear n4 o z3 z5 zf zk c0 c02 p1 p2 p3 p4 m1 m2 m3;simp only[pickSeq];refine wpAny_last [8,9] [10,11] (fun _=>True) (by kernel_rfl) trivial ?_;refine pickList_step (vI v) rfl rfl (fun w' hw'=>?_) (fun _ _ _ h=>h) ?_
    · simp[go_sem]
    refine pickList_step (vI x) rfl rfl (fun w' hw'=>?_) (fun _ _ _ h=>h) ?_
    · simp[go_sem]
    simp only[pickList];refine pickSeq_step rfl rfl ?_;unfold Oper.wp;go_simp
    try refine⟨trivial,?_⟩
    refine pickSeq_step rfl rfl ?_;unfold Oper.wp;go_simp
    try refine⟨trivial,?_⟩
    simp only[pickSeq];go_wp2
    go_ret2
    exact hP.out
  · have hxe:(x != 0)=true:=by simp[bne,h0]
    have hP:ClP w τ s q S NumR (.returned (.tuple #[vI 0,vI x])) w1:=⟨0,x,rfl,by decide,hx,τ1,S1,m1,m2,m3,hx1⟩;replace hP:=hid hP;go_wp2
    go_ret2
    exact hP.out
end
section
open Go.RowKit Go.Shelf
variable {w:World}{τ:Nat→Nat}{s q:Nat}{S:StD}
theorem load1_is (h:St w τ s q S){t:Nat}(ht:t<S.txs.length){a:Nat}(ha:a≤131072){b3 b5:Nat}(o3:Own w b3 0 (pV S.sp))(o5:Own w b5 0 (vI (a:Int)))(t3:500≤τ b3)(t5:500≤τ b5) :
    Calls Tryz.prog 139 #[pV (S.tx t).xp,.pointer (some ⟨b3,0,none⟩),.pointer (some ⟨b5,0,none⟩)] w (ClP w τ s q S GetR):=by
  have y3:=o3.1;have y5:=o5.1;go_enter Tryz.func139,Tryz.ntmps139;go_wp2_with fail
  refine(look_is h ht ha).mono ?_;rintro e w0 ⟨p,d,wk,fn,x,rfl,hx,hx1,τ0,S1,m1,m2,m3,-⟩;have k0:Calm w0 (w0.alloc (.cells #[vI p,vI d,.bool wk,.bool fn] 47)):=(Fr.refl _ _).alloc _;have og:=OwnL.new w0 (shC p d wk fn) 47;have g2:=(og 2 _ rfl).1;clear y3 y5
  by_cases h0:x=0
  · subst h0
    cases wk with
    | false=>
      have hP:ClP w τ s q S GetR (.returned (.tuple #[vI 0,vI 144])) (w0.alloc (.cells #[vI p,vI d,.bool false,.bool fn] 47)):=⟨0,144,rfl,by decide,by decide,τ0,S1,m1.calm k0,m2.trans (KeepT.calm τ0 k0),m3,by decide,by decide,by decide⟩;replace hP:=hid hP;go_wp2
      go_ret2
      exact hP.out
    | true=>
      have z3:=k0.cellAt (m2.own o3 t3).1 id;have z5:=k0.cellAt (m2.own o5 t5).1 id;have c0:=k0.cellAt (m1.cells 0 _ rfl).1 id;rw[m3.sp,m3.hp] at c0;obtain⟨w1,hw1⟩:∃w1,w0.alloc (.cells #[vI p,vI d,.bool true,.bool fn] 47)=w1:=⟨_,rfl⟩;replace og:OwnL w1 w0.heap.size [vI p,vI d,.bool true,.bool fn]:=by rw[←hw1];exact og
      have g2:=(og 2 _ rfl).1;rw[hw1] at z3 z5 c0 k0;have k1:Calm w1 w1.drew:=(Fr.refl _ _).drew;have m1':=(m1.calm k0).calm k1;have o:=sptr_is m1' ha 0;rw[m3.hp] at o;have K1:KeepT w τ w1.drew τ0:=m2.trans (KeepT.calm τ0 (k0.trans k1));go_wp2_with fail
      refine wp_region_phase [0,1,2,3,4] [5,6] 7 (fun w'=>w'.cell? ⟨b3,0,none⟩=some (pV S.sp)∧w'.cell? ⟨S.sp,0,none⟩=some (pV S.D.B.hp)∧w'.cell? ⟨b5,0,none⟩=some (vI (a:Int))) (by kernel_rfl) (by kernel_rfl) ⟨z3,c0,z5⟩ ?_;refine pickList_step (pV S.sp) rfl rfl (fun w' hw'=>?_) (fun _ _ _ h=>h) ?_
      · have e1:=hw'.1;simp[go_sem,e1]
      refine pickList_step (pV S.sp) rfl rfl (fun w' hw'=>?_) (fun _ _ _ h=>h) ?_
      · simp[go_sem]
      refine pickList_step (.pointer (some ⟨S.sp,0,none⟩)) rfl rfl (fun w' hw'=>?_) (fun _ _ _ h=>h) ?_
      · simp[go_sem]
      refine pickList_step (pV S.D.B.hp) rfl rfl (fun w' hw'=>?_) (fun _ _ _ h=>h) ?_
      · have e1:=hw'.2.1;simp[go_sem,e1]
      refine pickList_step (vI (a:Int)) rfl rfl (fun w' hw'=>?_) (fun _ _ _ h=>h) ?_
      · have e1:=hw'.2.2;simp[go_sem,e1]
      simp only[pickList];refine pickSeq_step rfl rfl ?_;go_wp2_with fail
      refine o.mono ?_;rintro e w4 ⟨v,x,rfl,hv,hxx,τ5,S5,p1,p2,p3,-⟩;have c02:=(p1.cells 0 _ rfl).1;rw[p3.sp,p3.hp,m3.sp,m3.hp] at c02;have K2:=K1.trans p2;have X2:=m3.trans p3;have hS:w4.cell? ⟨b3,0,none⟩=some (pV S.sp)∧w4.cell? ⟨S.sp,0,none⟩=some (pV S.D.B.hp)∧w4.cell? ⟨b5,0,none⟩=some (vI (a:Int)):=⟨(K2.own o3 t3).1,c02,(K2.own o5 t5).1⟩;refine⟨hS,?_⟩;clear o z3 z5 c0 c02 g2 og m1' m2 p2;replace hw1:=hid hw1;refine pickSeq_step rfl rfl ?_;unfold Oper.wp;go_simp
      try refine⟨hS.1,hS.2.1,hS.2.2,?_⟩
      clear hS
      try simp only[pickSeq]
      refine wpAny_last [7,8] [9,10] (fun w'=>True) (by kernel_rfl) trivial ?_;refine pickList_step (vI (v:Int)) rfl rfl (fun w' hw'=>?_) (fun _ _ _ h=>h) ?_
      · simp[go_sem]
      refine pickList_step (vI x) rfl rfl (fun w' hw'=>?_) (fun _ _ _ h=>h) ?_
      · simp[go_sem]
      simp only[pickList];refine pickSeq_step rfl rfl ?_;unfold Oper.wp;go_simp
      try refine⟨trivial,?_⟩
      refine pickSeq_step rfl rfl ?_;unfold Oper.wp;go_simp
      try refine⟨trivial,?_⟩
      simp only[pickSeq]
      by_cases hx0:x=0
      · subst hx0
        by_cases hv0:v=0
        · subst hv0;have hP:ClP w τ s q S GetR (.returned (.tuple #[vI (0:Nat),vI 0])) w4:=⟨(0:Nat),0,rfl,by decide,by decide,τ5,S5,p1,K2,X2,by decide,by decide,by decide⟩;replace hP:=hid hP;go_wp2
          go_ret2
          exact hP.out
        · have hve:((v:Int) != 0)=true:=by simp[bne];omega
          have ht5:t<S5.txs.length:=by rw[X2.len];exact ht
          have c4:=(p1.txc ht5 4 _ rfl).1;rw[X2.xp,X2.lp] at c4;have ok:=lkeep_is p1 ht5 hv;rw[X2.lp] at ok;go_wp2_with fail
          refine ok.mono ?_;rintro e w5 ⟨⟨b,rfl⟩,n5⟩;have n6:=n5.any.step K2 X2
          cases b with
          | true=>
            have hP:ClP w τ s q S GetR (.returned (.tuple #[vI (v:Int),vI 0])) w5:=⟨v,0,rfl,⟨by omega,by omega⟩,by decide,n6.mono (Nat.le_refl _) (Nat.le_refl _) fun _ _=>⟨by omega,by omega,by decide⟩⟩;replace hP:=hid hP;clear n6 n5;go_wp2
            go_ret2
            exact hP.out
          | false=>
            have hP:ClP w τ s q S GetR (.returned (.tuple #[vI 0,vI 130])) w5:=⟨0,130,rfl,by decide,by decide,n6.mono (Nat.le_refl _) (Nat.le_refl _) fun _ _=>⟨by decide,by decide,by decide⟩⟩;replace hP:=hid hP;clear n6 n5;go_wp2
            go_ret2
            exact hP.out
      · have hxe:(x != 0)=true:=by simp[bne,hx0]
        have hP:ClP w τ s q S GetR (.returned (.tuple #[vI 0,vI x])) w4:=⟨0,x,rfl,by decide,hxx.i64.1,τ5,S5,p1,K2,X2,by decide,by decide,hxx.i64.2⟩;replace hP:=hid hP;go_wp2
        go_ret2
        exact hP.out
  · have hxe:(x != 0)=true:=by simp[bne,h0]
    have hP:ClP w τ s q S GetR (.returned (.tuple #[vI 0,vI x])) (w0.alloc (.cells #[vI p,vI d,.bool wk,.bool fn] 47)):=⟨0,x,rfl,by decide,hx,τ0,S1,m1.calm k0,m2.trans (KeepT.calm τ0 k0),m3,by decide,by decide,hx1⟩;replace hP:=hid hP;go_wp2
    go_ret2
    exact hP.out
theorem udok_free {a:Nat}(ha:a≤131072):UdOk ⟨3,a,0,0⟩∧I64 (⟨3,a,0,0⟩:Ud).kind∧I64 (⟨3,a,0,0⟩:Ud).i:=⟨⟨ha,by show I64 0;decide,fun e=>absurd (show(3:Int)=1 from e) (by decide)⟩,by show I64 3;decide,by show I64 0;decide⟩
theorem free1_is (h:St w τ s q S){t:Nat}(ht:t<S.txs.length){a:Nat}(ha:a≤131072){b3 b5:Nat}(o3:Own w b3 0 (pV S.sp))(o5:Own w b5 0 (vI (a:Int)))(t3:500≤τ b3)(t5:500≤τ b5) :
    Calls Tryz.prog 149 #[pV (S.tx t).xp,.pointer (some ⟨b3,0,none⟩),.pointer (some ⟨b5,0,none⟩)] w (ClP w τ s q S NumR):=by
  have y3:=o3.1;have y5:=o5.1;go_enter Tryz.func149,Tryz.ntmps149;go_wp2_with fail
  refine(look_is h ht ha).mono ?_;rintro e w0 ⟨p,d,wk,fn,x,rfl,hx,hx1,τ0,S1,m1,m2,m3,-⟩;have k0:Calm w0 (w0.alloc (.cells #[vI p,vI d,.bool wk,.bool fn] 47)):=(Fr.refl _ _).alloc _;clear y3 y5
  by_cases h0:x=0
  · subst h0;have z3:=k0.cellAt (m2.own o3 t3).1 id;have z5:=k0.cellAt (m2.own o5 t5).1 id;obtain⟨w1,hw1⟩:∃w1,w0.alloc (.cells #[vI p,vI d,.bool wk,.bool fn] 47)=w1:=⟨_,rfl⟩;rw[hw1] at z3 z5 k0;have k1:Calm w1 w1.drew:=(Fr.refl _ _).drew;have m1':=(m1.calm k0).calm k1;have ht1:t<S1.txs.length:=by rw[m3.len];exact ht
    have o:=hold_is m1' ht1 ha;rw[m3.sp,m3.xp] at o;have K1:KeepT w τ w1.drew τ0:=m2.trans (KeepT.calm τ0 (k0.trans k1));go_wp2_with fail
    refine wp_region_phase [0,1,2] [3,4,5] 6 (fun w'=>w'.cell? ⟨b3,0,none⟩=some (pV S.sp)∧w'.cell? ⟨b5,0,none⟩=some (vI (a:Int))) (by kernel_rfl) (by kernel_rfl) ⟨z3,z5⟩ ?_;refine pickList_step (pV S.sp) rfl rfl (fun w' hw'=>?_) (fun _ _ _ h=>h) ?_
    · have e1:=hw'.1;simp[go_sem,e1]
    refine pickList_step (pV (S.tx t).xp) rfl rfl (fun w' hw'=>?_) (fun _ _ _ h=>h) ?_
    · simp[go_sem]
    refine pickList_step (vI (a:Int)) rfl rfl (fun w' hw'=>?_) (fun _ _ _ h=>h) ?_
    · have e1:=hw'.2;simp[go_sem,e1]
    simp only[pickList];refine pickSeq_step rfl rfl ?_;go_wp2_with fail
    refine o.mono ?_;rintro e w4 ⟨⟨b,rfl⟩,τ5,S5,p1,p2,p3,-⟩;have K2:=K1.trans p2;have X2:=m3.trans p3;have ht5:t<S5.txs.length:=by rw[X2.len];exact ht
    have hS:w4.cell? ⟨b3,0,none⟩=some (pV S.sp)∧w4.cell? ⟨b5,0,none⟩=some (vI (a:Int)):=⟨(K2.own o3 t3).1,(K2.own o5 t5).1⟩;have c4:=(p1.txc ht5 4 _ rfl).1;rw[X2.xp,X2.lp] at c4;refine⟨hS,?_⟩;clear o z3 z5 m1' m2 p2;replace hw1:=hid hw1;refine pickSeq_step rfl rfl ?_;unfold Oper.wp;go_simp
    try refine⟨hS.1,hS.2,?_⟩
    refine pickSeq_step rfl rfl ?_;unfold Oper.wp;go_simp
    try refine⟨hS.1,hS.2,?_⟩
    try simp only[pickSeq]
    obtain⟨z3,z5⟩:=hS
    cases b with
    | false=>
      refine wpAny_last [6,7,8,9,10,11,12,13,14] [] (fun w'=>True) (by kernel_rfl) trivial ?_;refine pickList_skip rfl rfl (fun _ _ _ h=>h) ?_;go_simp;refine pickList_skip rfl rfl (fun _ _ _ h=>h) ?_;go_simp;refine pickList_skip rfl rfl (fun _ _ _ h=>h) ?_;go_simp;refine pickList_skip rfl rfl (fun _ _ _ h=>h) ?_;go_simp;refine pickList_skip rfl rfl (fun _ _ _ h=>h) ?_;go_simp;refine pickList_skip rfl rfl (fun _ _ _ h=>h) ?_;go_simp;refine pickList_skip rfl rfl (fun _ _ _ h=>h) ?_;go_simp;refine pickList_skip rfl rfl (fun _ _ _ h=>h) ?_;go_simp;refine pickList_step (.bool true) rfl rfl (fun w' hw'=>?_) (fun _ _ _ h=>h) ?_
      · simp[go_sem]
      simp only[pickList];simp only[pickSeq];have hP:ClP w τ s q S NumR (.returned (.tuple #[vI 0,vI 130])) w4:=⟨0,130,rfl,by decide,by decide,τ5,S5,p1,K2,X2,by show(130:Int)≠100;decide⟩;replace hP:=hid hP;go_wp2
      go_ret2
      exact hP.out
    | true=>
      refine wpAny_last [6,7,8,9,10,11] [12,13,14] (fun w'=>w'.cell? ⟨(S.tx t).xp,4,none⟩=some (pV (S.tx t).lp)∧w'.cell? ⟨b5,0,none⟩=some (vI (a:Int))) (by kernel_rfl) ⟨c4,z5⟩ ?_;refine pickList_step (pV (S.tx t).xp) rfl rfl (fun w' hw'=>?_) (fun _ _ _ h=>h) ?_
      · simp[go_sem]
      go_simp;refine pickList_step (pV (S.tx t).xp) rfl rfl (fun w' hw'=>?_) (fun _ _ _ h=>h) ?_
      · simp[go_sem]
      go_simp;refine pickList_step (.pointer (some ⟨(S.tx t).xp,4,none⟩)) rfl rfl (fun w' hw'=>?_) (fun _ _ _ h=>h) ?_
      · simp[go_sem]
      go_simp;refine pickList_step (pV (S.tx t).lp) rfl rfl (fun w' hw'=>?_) (fun _ _ _ h=>h) ?_
      · have e1:=hw'.1;simp[go_sem,e1]
      go_simp;refine pickList_step (vI (a:Int)) rfl rfl (fun w' hw'=>?_) (fun _ _ _ h=>h) ?_
      · have e1:=hw'.2;simp[go_sem,e1]
      go_simp;refine pickList_step (.agg #[vI 3,vI (a:Int),vI 0,vI 0]) rfl rfl (fun w' hw'=>?_) (fun _ _ _ h=>h) ?_
      · simp[go_sem]
      go_simp
      try simp only[pickList]
      have ou:=lundo_is p1 ht5 (u:=⟨3,a,0,0⟩) (udok_free ha);rw[X2.lp] at ou;refine pickSeq_step rfl rfl ?_;go_wp2_with fail
      refine ou.mono ?_;rintro e w6 ⟨⟨b2,rfl⟩,τ7,S7,n1,n2,n3,-⟩;have K3:=K2.trans n2;have X3:=X2.trans n3;have ht7:t<S7.txs.length:=by rw[X3.len];exact ht
      have z36:=(K3.own o3 t3).1;have z56:=(K3.own o5 t5).1;have c46:=(n1.txc ht7 4 _ rfl).1;rw[X3.xp,X3.lp] at c46;have c06:=(n1.cells 0 _ rfl).1;rw[X3.sp,X3.hp] at c06;have hS:w6.cell? ⟨(S.tx t).xp,4,none⟩=some (pV (S.tx t).lp)∧w6.cell? ⟨b5,0,none⟩=some (vI (a:Int)):=⟨c46,z56⟩;refine⟨hS,?_⟩;clear ou c4 z3 z5 K2 n2;refine pickSeq_step rfl rfl ?_;unfold Oper.wp;go_simp
      try refine⟨hS.1,hS.2,?_⟩
      refine pickSeq_step rfl rfl ?_;unfold Oper.wp;go_simp
      try refine⟨hS.1,hS.2,?_⟩
      try simp only[pickSeq]
      clear hS
      cases b2 with
      | false=>
        have hP:ClP w τ s q S NumR (.returned (.tuple #[vI 0,vI 130])) w6:=⟨0,130,rfl,by decide,by decide,τ7,S7,n1,K3,X3,by show(130:Int)≠100;decide⟩;replace hP:=hid hP;go_wp2
        go_ret2
        exact hP.out
      | true=>
        have kd:Calm w6 w6.drew:=(Fr.refl _ _).drew;have of:=ssetfreed_is (n1.calm kd) ha true;rw[X3.hp] at of;go_wp2_with fail
        refine wp_region_helds 5 5 (fun w'=>Calm w6 w') (by kernel_rfl) (by kernel_rfl) ((Fr.refl _ _).drew) ?_;refine heldList_step (pV S.sp) rfl (fun w' hw'=>?_) (fun _ _ _ h=>h) ?_
        · have e1:=hw'.cellAt z36 id;simp[go_sem,e1]
        refine heldList_step (pV S.sp) rfl (fun w' hw'=>?_) (fun _ _ _ h=>h) ?_
        · simp[go_sem]
        refine heldList_step (.pointer (some ⟨S.sp,0,none⟩)) rfl (fun w' hw'=>?_) (fun _ _ _ h=>h) ?_
        · simp[go_sem]
        refine heldList_step (pV S.D.B.hp) rfl (fun w' hw'=>?_) (fun _ _ _ h=>h) ?_
        · have e1:=hw'.cellAt c06 id;simp[go_sem,e1]
        refine heldList_step (vI (a:Int)) rfl (fun w' hw'=>?_) (fun _ _ _ h=>h) ?_
        · have e1:=hw'.cellAt z56 id;simp[go_sem,e1]
        simp only[heldList,Nat.sub_self,heldSeq];go_wp2_with fail
        refine of.mono ?_;rintro e w8 ⟨y,rfl,hy,n8⟩;have hP:ClP w τ s q S NumR (.returned (.tuple #[vI 0,vI y])) w8:=⟨0,y,rfl,by decide,hy.i64.1,((n8.calmL kd).step K3 X3).mono (Nat.le_refl _) (Nat.le_refl _) fun _ _=>hy.i64.2⟩;replace hP:=hid hP;clear of n8 z36 z56 c06 c46;go_wp2
        go_ret2
        exact hP.out
  · have hxe:(x != 0)=true:=by simp[bne,h0]
    have hP:ClP w τ s q S NumR (.returned (.tuple #[vI 0,vI x])) (w0.alloc (.cells #[vI p,vI d,.bool wk,.bool fn] 47)):=⟨0,x,rfl,by decide,hx,τ0,S1,m1.calm k0,m2.trans (KeepT.calm τ0 k0),m3,hx1⟩;replace hP:=hid hP;go_wp2
    go_ret2
    exact hP.out
end
section
open Go.RowKit Go.Shelf
variable {w:World}{τ:Nat→Nat}{s q:Nat}{S:StD}
def ChP (w:World)(τ:Nat→Nat)(s q:Nat)(S:StD)(e:Ending)(w':World):Prop:=∃x:Int,e = .returned (vI x)∧I64 x∧x≠100∧Nx0 w τ s q S w'
theorem change_0 (h:St w τ s q S){t:Nat}(ht:t<S.txs.length){a:Nat}(ha:a≤131072){k:Int}(hk:I64 k){b:Nat}(hb:b≤131072) :
    Calls Tryz.prog 145 #[pV S.sp,pV (S.tx t).xp,.agg #[vI 1,vI (a:Int),vI k,vI 0],.func (.func 138) #[pV S.D.B.hp] #[],.func (.func 136) #[pV S.D.B.hp] #[],vI (b:Int)] w (ChP w τ s q S):=by
  obtain⟨τ0,hf,tk,fr⟩:=h.fresh;obtain⟨k0,o8⟩:=newL w [vI 1,vI (a:Int),vI k,vI 0] 191;obtain⟨W1,hW1⟩:∃W1,w.alloc (.cells #[vI 1,vI (a:Int),vI k,vI 0] 191)=W1:=⟨_,rfl⟩;rw[hW1] at k0 o8;have t8:500≤τ0 w.heap.size:=by rw[fr _ (Nat.le_refl _)];omega
  have hl8:w.heap.size<W1.heap.size:=o8.lt (by simp);have c1:=(o8 1 _ rfl).1
  have fin:Hid (∀ (W:World) (τ5:Nat→Nat) (S5:StD),St W τ5 s q S5→(∃W0,KeepT W1 τ0 W0 τ5∧Fr (fun b=>b=w.heap.size) W0 W)→Fix S S5→Nx0 w τ s q S W):=by
    rintro W τ5 S5 a1 ⟨W0,a2,a3⟩ a4;refine⟨τ5,S5,a1,?_,a4,trivial⟩;have K:KeepT w τ0 W0 τ5:=(KeepT.calm τ0 k0).trans a2;exact KeepT.retag ⟨K.fr.join a3 (fun j hj e=>by omega),K.tg⟩ tk
  go_enter Tryz.func145,Tryz.ntmps145;go_wp2_with fail
  refine(fields_is (hf.calm k0) ht ha).mono ?_;rintro e w1 ⟨x,rfl,hx,hx1,τ1,S1,m1,m2,m3,-⟩;clear hW1;have p8:=m2.ownL o8 t8;clear c1
  by_cases h0:x=0
  · subst h0;have ht1:t<S1.txs.length:=by rw[m3.len];exact ht
    have c1:=(p8 1 _ rfl).1;have c2:=(p8 2 _ rfl).1;have o:=sptr_is m1 ha k;rw[m3.hp] at o;go_wp2_with fail
    refine o.mono ?_;rintro e w2 ⟨v,x,rfl,hv,hxx,τ2,S2,n1,n2,n3,-⟩;clear c1 c2 o;have q8:=n2.ownL p8 (by rw[m2.tg _ hl8];exact t8);have K2:=m2.trans n2;have X2:=m3.trans n3
    by_cases hx0:x=0
    · subst hx0;have d3:=(q8 3 _ rfl).1;have f3:=(q8 3 _ rfl).2;have F3:=frS w2 (w.heap.size) 3 (vI (v:Int));have r8:=q8.set 3 (vI (v:Int)) (by simp);obtain⟨w3,hw3⟩:∃w3,w2.setCell ⟨w.heap.size,3,none⟩ (vI (v:Int))=w3:=⟨_,rfl⟩;rw[hw3] at F3 r8;have t82:500≤τ2 w.heap.size:=by rw[K2.tg _ hl8];exact t8
      have n1':=n1.far F3 (fun b hb=>by rw[hb];exact t82);have z1:=(r8 1 _ rfl).1;have z2:=(r8 2 _ rfl).1;have ht2:t<S2.txs.length:=by rw[X2.len];exact ht
      have kd:Calm w3 w3.drew:=(Fr.refl _ _).drew;have oh:=hold_is (n1'.calm kd) ht2 ha;rw[X2.sp,X2.xp] at oh;have r8d:OwnL w3.drew w.heap.size [vI 1,vI (a:Int),vI k,vI (v:Int)]:=r8.calm kd;replace hw3:=hid hw3;have hw3':=hw3.out;go_wp2_with fail
      clear hw3' d3 f3;refine wp_region_phase [0,1,2,3] [4,5,6] 7 (fun w'=>w'.cell? ⟨w.heap.size,1,none⟩=some (vI (a:Int))) (by kernel_rfl) (by kernel_rfl) z1 ?_;refine pickList_step (pV S.sp) rfl rfl (fun w' hw'=>?_) (fun _ _ _ h=>h) ?_
      · simp[go_sem]
      refine pickList_step (pV (S.tx t).xp) rfl rfl (fun w' hw'=>?_) (fun _ _ _ h=>h) ?_
      · simp[go_sem]
      refine pickList_step (.pointer (some ⟨w.heap.size,1,none⟩)) rfl rfl (fun w' hw'=>?_) (fun _ _ _ h=>h) ?_
      · simp[go_sem]
      refine pickList_step (vI (a:Int)) rfl rfl (fun w' hw'=>?_) (fun _ _ _ h=>h) ?_
      · have e1:=hw';simp[go_sem,e1]
      simp only[pickList];refine pickSeq_step rfl rfl ?_;go_wp2_with fail
      refine oh.mono ?_;rintro e w4 ⟨⟨b2,rfl⟩,τ5,S5,p1,p2,p3,-⟩;have s8:=p2.ownL r8d t82;have X5:=X2.trans p3;have ht5:t<S5.txs.length:=by rw[X5.len];exact ht
      have hS:=(s8 1 _ rfl).1;have c4:=(p1.txc ht5 4 _ rfl).1;rw[X5.xp,X5.lp] at c4;refine⟨hS,?_⟩;clear oh z1 z2 n1';refine pickSeq_step rfl rfl ?_;unfold Oper.wp;go_simp
      try refine⟨hS,?_⟩
      refine pickSeq_step rfl rfl ?_;unfold Oper.wp;go_simp
      try refine⟨hS,?_⟩
      try simp only[pickSeq]
      have K5:KeepT w τ0 w4 τ5:=by
        have e1:KeepT w τ0 w2 τ2:=(KeepT.calm τ0 k0).trans K2;have e2:KeepT w τ0 w3.drew τ2:=⟨e1.fr.join (F3.trans (Calm.any kd)) (fun j hj e=>by omega),e1.tg⟩;exact e2.trans p2
      cases b2 with
      | false=>
        refine wpAny_last [7,8,9,10,11,12,13,14] [] (fun w'=>True) (by kernel_rfl) trivial ?_;refine pickList_skip rfl rfl (fun _ _ _ h=>h) ?_;go_simp;refine pickList_skip rfl rfl (fun _ _ _ h=>h) ?_;go_simp;refine pickList_skip rfl rfl (fun _ _ _ h=>h) ?_;go_simp;refine pickList_skip rfl rfl (fun _ _ _ h=>h) ?_;go_simp;refine pickList_skip rfl rfl (fun _ _ _ h=>h) ?_;go_simp;refine pickList_skip rfl rfl (fun _ _ _ h=>h) ?_;go_simp;refine pickList_skip rfl rfl (fun _ _ _ h=>h) ?_;go_simp;refine pickList_step (.bool true) rfl rfl (fun w' hw'=>?_) (fun _ _ _ h=>h) ?_
        · simp[go_sem]
        simp only[pickList];simp only[pickSeq];have hP:ChP w τ s q S (.returned (vI 130)) w4:=⟨130,rfl,by decide,by decide,τ5,S5,p1,K5.retag tk,X5,trivial⟩;replace hP:=hid hP;go_wp2;go_ret;exact hP.out
      | true=>
        refine wpAny_last [7,8,9,10,11] [12,13,14] (fun w'=>w'.cell? ⟨(S.tx t).xp,4,none⟩=some (pV (S.tx t).lp)∧w'.cell? ⟨w.heap.size,0,none⟩=some (vI 1)∧w'.cell? ⟨w.heap.size,1,none⟩=some (vI (a:Int))∧w'.cell? ⟨w.heap.size,2,none⟩=some (vI k)∧w'.cell? ⟨w.heap.size,3,none⟩=some (vI (v:Int))) (by kernel_rfl) ⟨c4,(s8 0 _ rfl).1,(s8 1 _ rfl).1,(s8 2 _ rfl).1,(s8 3 _ rfl).1⟩ ?_;refine pickList_step (pV (S.tx t).xp) rfl rfl (fun w' hw'=>?_) (fun _ _ _ h=>h) ?_
        · simp[go_sem]
        go_simp;refine pickList_step (pV (S.tx t).xp) rfl rfl (fun w' hw'=>?_) (fun _ _ _ h=>h) ?_
        · simp[go_sem]
        go_simp;refine pickList_step (.pointer (some ⟨(S.tx t).xp,4,none⟩)) rfl rfl (fun w' hw'=>?_) (fun _ _ _ h=>h) ?_
        · simp[go_sem]
        go_simp;refine pickList_step (pV (S.tx t).lp) rfl rfl (fun w' hw'=>?_) (fun _ _ _ h=>h) ?_
        · have e1:=hw'.1;simp[go_sem,e1]
        go_simp;refine pickList_step (.agg #[vI 1,vI (a:Int),vI k,vI (v:Int)]) rfl rfl (fun w' hw'=>?_) (fun _ _ _ h=>h) ?_
        · obtain⟨-,e0,e1,e2,e3⟩:=hw';simp[go_sem,e0,e1,e2,e3]
        go_simp
        try simp only[pickList]
        have ou:=lundo_is p1 ht5 (u:=⟨1,a,k,(v:Int)⟩) ⟨⟨ha,⟨by show(-9223372036854775808:Int)≤(v:Int);omega,by show(v:Int)≤9223372036854775807;omega⟩,fun _=>⟨by show(0:Int)≤(v:Int);omega,by show(v:Int)≤131072;omega⟩⟩,by show I64 1;decide,hk⟩;rw[X5.lp] at ou;refine pickSeq_step rfl rfl ?_;go_wp2_with fail
        refine ou.mono ?_;rintro e w6 ⟨⟨b3,rfl⟩,τ7,S7,j1,j2,j3,-⟩;have t85:500≤τ5 w.heap.size:=by rw[p2.tg _ (by have:=F3.size;have:=K2.size;have:=kd.size;omega)];exact t82
        have v8:=j2.ownL s8 t85;have X7:=X5.trans j3;have ht7:t<S7.txs.length:=by rw[X7.len];exact ht
        have c46:=(j1.txc ht7 4 _ rfl).1;rw[X7.xp,X7.lp] at c46;have K7:=K5.trans j2;have hS2:w6.cell? ⟨(S.tx t).xp,4,none⟩=some (pV (S.tx t).lp)∧w6.cell? ⟨w.heap.size,0,none⟩=some (vI 1)∧w6.cell? ⟨w.heap.size,1,none⟩=some (vI (a:Int))∧w6.cell? ⟨w.heap.size,2,none⟩=some (vI k)∧w6.cell? ⟨w.heap.size,3,none⟩=some (vI (v:Int)):=⟨c46,(v8 0 _ rfl).1,(v8 1 _ rfl).1,(v8 2 _ rfl).1,(v8 3 _ rfl).1⟩;refine⟨hS2,?_⟩;clear ou c4 s8 p2 j2 hS;refine pickSeq_step rfl rfl ?_;unfold Oper.wp;go_simp
        try refine⟨hS2.1,hS2.2.1,hS2.2.2.1,hS2.2.2.2.1,hS2.2.2.2.2,?_⟩
        refine pickSeq_step rfl rfl ?_;unfold Oper.wp;go_simp
        try refine⟨hS2.1,hS2.2.1,hS2.2.2.1,hS2.2.2.2.1,hS2.2.2.2.2,?_⟩
        try simp only[pickSeq]
        obtain⟨-,-,y1,y2,-⟩:=hS2
        cases b3 with
        | false=>
          have hP:ChP w τ s q S (.returned (vI 130)) w6:=⟨130,rfl,by decide,by decide,τ7,S7,j1,K7.retag tk,X7,trivial⟩;replace hP:=hid hP;go_wp2;go_ret;exact hP.out
        | true=>
          have of:=ssetptr_is j1 ha hb k;rw[X7.hp] at of;go_wp2_with fail
          refine of.mono ?_;rintro e w8 ⟨y,rfl,hy,τ9,S9,i1,i2,i3,-⟩;have hP:ChP w τ s q S (.returned (vI y)) w8:=⟨y,rfl,hy.i64.1,hy.i64.2,τ9,S9,i1,(K7.trans i2).retag tk,X7.trans i3,trivial⟩;replace hP:=hid hP;clear of;go_wp2;go_ret;exact hP.out
    · have hxe:(x != 0)=true:=by simp[bne,hx0]
      have hP:ChP w τ s q S (.returned (vI x)) w2:=⟨x,rfl,hxx.i64.1,hxx.i64.2,fin.out _ _ _ n1 ⟨w2,K2,Fr.refl _ _⟩ X2⟩;replace hP:=hid hP;go_wp2;go_ret;exact hP.out
  · have hxe:(x != 0)=true:=by simp[bne,h0]
    have hP:ChP w τ s q S (.returned (vI x)) w1:=⟨x,rfl,hx,hx1,fin.out _ _ _ m1 ⟨w1,m2,Fr.refl _ _⟩ m3⟩;replace hP:=hid hP;go_wp2;go_ret;exact hP.out
theorem change_1 (h:St w τ s q S){t:Nat}(ht:t<S.txs.length){a:Nat}(ha:a≤131072){k:Int}(hk:I64 k){b:Int}(hb:I64 b) :
    Calls Tryz.prog 145 #[pV S.sp,pV (S.tx t).xp,.agg #[vI 2,vI (a:Int),vI k,vI 0],.func (.func 146) #[pV S.D.B.hp] #[],.func (.func 148) #[pV S.D.B.hp] #[],vI b] w (ChP w τ s q S):=by
  obtain⟨τ0,hf,tk,fr⟩:=h.fresh;obtain⟨k0,o8⟩:=newL w [vI 2,vI (a:Int),vI k,vI 0] 191;obtain⟨W1,hW1⟩:∃W1,w.alloc (.cells #[vI 2,vI (a:Int),vI k,vI 0] 191)=W1:=⟨_,rfl⟩;rw[hW1] at k0 o8;have t8:500≤τ0 w.heap.size:=by rw[fr _ (Nat.le_refl _)];omega
  have hl8:w.heap.size<W1.heap.size:=o8.lt (by simp);have c1:=(o8 1 _ rfl).1
  have fin:Hid (∀ (W:World) (τ5:Nat→Nat) (S5:StD),St W τ5 s q S5→(∃W0,KeepT W1 τ0 W0 τ5∧Fr (fun b=>b=w.heap.size) W0 W)→Fix S S5→Nx0 w τ s q S W):=by
    rintro W τ5 S5 a1 ⟨W0,a2,a3⟩ a4;refine⟨τ5,S5,a1,?_,a4,trivial⟩;have K:KeepT w τ0 W0 τ5:=(KeepT.calm τ0 k0).trans a2;exact KeepT.retag ⟨K.fr.join a3 (fun j hj e=>by omega),K.tg⟩ tk
  go_enter Tryz.func145,Tryz.ntmps145;go_wp2_with fail
  refine(fields_is (hf.calm k0) ht ha).mono ?_;rintro e w1 ⟨x,rfl,hx,hx1,τ1,S1,m1,m2,m3,-⟩;clear hW1;have p8:=m2.ownL o8 t8;clear c1
  by_cases h0:x=0
  · subst h0;have ht1:t<S1.txs.length:=by rw[m3.len];exact ht
    have c1:=(p8 1 _ rfl).1;have c2:=(p8 2 _ rfl).1;have o:=snum_is m1 ha k;rw[m3.hp] at o;go_wp2_with fail
    refine o.mono ?_;rintro e w2 ⟨v,x,rfl,hv,hxx,τ2,S2,n1,n2,n3,-⟩;clear c1 c2 o;have q8:=n2.ownL p8 (by rw[m2.tg _ hl8];exact t8);have K2:=m2.trans n2;have X2:=m3.trans n3
    by_cases hx0:x=0
    · subst hx0;have d3:=(q8 3 _ rfl).1;have f3:=(q8 3 _ rfl).2;have F3:=frS w2 (w.heap.size) 3 (vI v);have r8:=q8.set 3 (vI v) (by simp);obtain⟨w3,hw3⟩:∃w3,w2.setCell ⟨w.heap.size,3,none⟩ (vI v)=w3:=⟨_,rfl⟩;rw[hw3] at F3 r8;have t82:500≤τ2 w.heap.size:=by rw[K2.tg _ hl8];exact t8
      have n1':=n1.far F3 (fun b hb=>by rw[hb];exact t82);have z1:=(r8 1 _ rfl).1;have z2:=(r8 2 _ rfl).1;have ht2:t<S2.txs.length:=by rw[X2.len];exact ht
      have kd:Calm w3 w3.drew:=(Fr.refl _ _).drew;have oh:=hold_is (n1'.calm kd) ht2 ha;rw[X2.sp,X2.xp] at oh;have r8d:OwnL w3.drew w.heap.size [vI 2,vI (a:Int),vI k,vI v]:=r8.calm kd;replace hw3:=hid hw3;have hw3':=hw3.out;go_wp2_with fail
      clear hw3' d3 f3;refine wp_region_phase [0,1,2,3] [4,5,6] 7 (fun w'=>w'.cell? ⟨w.heap.size,1,none⟩=some (vI (a:Int))) (by kernel_rfl) (by kernel_rfl) z1 ?_;refine pickList_step (pV S.sp) rfl rfl (fun w' hw'=>?_) (fun _ _ _ h=>h) ?_
      · simp[go_sem]
      refine pickList_step (pV (S.tx t).xp) rfl rfl (fun w' hw'=>?_) (fun _ _ _ h=>h) ?_
      · simp[go_sem]
      refine pickList_step (.pointer (some ⟨w.heap.size,1,none⟩)) rfl rfl (fun w' hw'=>?_) (fun _ _ _ h=>h) ?_
      · simp[go_sem]
      refine pickList_step (vI (a:Int)) rfl rfl (fun w' hw'=>?_) (fun _ _ _ h=>h) ?_
      · have e1:=hw';simp[go_sem,e1]
      simp only[pickList];refine pickSeq_step rfl rfl ?_;go_wp2_with fail
      refine oh.mono ?_;rintro e w4 ⟨⟨b2,rfl⟩,τ5,S5,p1,p2,p3,-⟩;have s8:=p2.ownL r8d t82;have X5:=X2.trans p3;have ht5:t<S5.txs.length:=by rw[X5.len];exact ht
      have hS:=(s8 1 _ rfl).1;have c4:=(p1.txc ht5 4 _ rfl).1;rw[X5.xp,X5.lp] at c4;refine⟨hS,?_⟩;clear oh z1 z2 n1';refine pickSeq_step rfl rfl ?_;unfold Oper.wp;go_simp
      try refine⟨hS,?_⟩
      refine pickSeq_step rfl rfl ?_;unfold Oper.wp;go_simp
      try refine⟨hS,?_⟩
      try simp only[pickSeq]
      have K5:KeepT w τ0 w4 τ5:=by
        have e1:KeepT w τ0 w2 τ2:=(KeepT.calm τ0 k0).trans K2;have e2:KeepT w τ0 w3.drew τ2:=⟨e1.fr.join (F3.trans (Calm.any kd)) (fun j hj e=>by omega),e1.tg⟩;exact e2.trans p2
      cases b2 with
      | false=>
        refine wpAny_last [7,8,9,10,11,12,13,14] [] (fun w'=>True) (by kernel_rfl) trivial ?_;refine pickList_skip rfl rfl (fun _ _ _ h=>h) ?_;go_simp;refine pickList_skip rfl rfl (fun _ _ _ h=>h) ?_;go_simp;refine pickList_skip rfl rfl (fun _ _ _ h=>h) ?_;go_simp;refine pickList_skip rfl rfl (fun _ _ _ h=>h) ?_;go_simp;refine pickList_skip rfl rfl (fun _ _ _ h=>h) ?_;go_simp;refine pickList_skip rfl rfl (fun _ _ _ h=>h) ?_;go_simp;refine pickList_skip rfl rfl (fun _ _ _ h=>h) ?_;go_simp;refine pickList_step (.bool true) rfl rfl (fun w' hw'=>?_) (fun _ _ _ h=>h) ?_
        · simp[go_sem]
        simp only[pickList];simp only[pickSeq];have hP:ChP w τ s q S (.returned (vI 130)) w4:=⟨130,rfl,by decide,by decide,τ5,S5,p1,K5.retag tk,X5,trivial⟩;replace hP:=hid hP;go_wp2;go_ret;exact hP.out
      | true=>
        refine wpAny_last [7,8,9,10,11] [12,13,14] (fun w'=>w'.cell? ⟨(S.tx t).xp,4,none⟩=some (pV (S.tx t).lp)∧w'.cell? ⟨w.heap.size,0,none⟩=some (vI 2)∧w'.cell? ⟨w.heap.size,1,none⟩=some (vI (a:Int))∧w'.cell? ⟨w.heap.size,2,none⟩=some (vI k)∧w'.cell? ⟨w.heap.size,3,none⟩=some (vI v)) (by kernel_rfl) ⟨c4,(s8 0 _ rfl).1,(s8 1 _ rfl).1,(s8 2 _ rfl).1,(s8 3 _ rfl).1⟩ ?_;refine pickList_step (pV (S.tx t).xp) rfl rfl (fun w' hw'=>?_) (fun _ _ _ h=>h) ?_
        · simp[go_sem]
        go_simp;refine pickList_step (pV (S.tx t).xp) rfl rfl (fun w' hw'=>?_) (fun _ _ _ h=>h) ?_
        · simp[go_sem]
        go_simp;refine pickList_step (.pointer (some ⟨(S.tx t).xp,4,none⟩)) rfl rfl (fun w' hw'=>?_) (fun _ _ _ h=>h) ?_
        · simp[go_sem]
        go_simp;refine pickList_step (pV (S.tx t).lp) rfl rfl (fun w' hw'=>?_) (fun _ _ _ h=>h) ?_
        · have e1:=hw'.1;simp[go_sem,e1]
        go_simp;refine pickList_step (.agg #[vI 2,vI (a:Int),vI k,vI v]) rfl rfl (fun w' hw'=>?_) (fun _ _ _ h=>h) ?_
        · obtain⟨-,e0,e1,e2,e3⟩:=hw';simp[go_sem,e0,e1,e2,e3]
        go_simp
        try simp only[pickList]
        have ou:=lundo_is p1 ht5 (u:=⟨2,a,k,v⟩) ⟨⟨ha,hv,fun e=>absurd (show(2:Int)=1 from e) (by decide)⟩,by show I64 2;decide,hk⟩;rw[X5.lp] at ou;refine pickSeq_step rfl rfl ?_;go_wp2_with fail
        refine ou.mono ?_;rintro e w6 ⟨⟨b3,rfl⟩,τ7,S7,j1,j2,j3,-⟩;have t85:500≤τ5 w.heap.size:=by rw[p2.tg _ (by have:=F3.size;have:=K2.size;have:=kd.size;omega)];exact t82
        have v8:=j2.ownL s8 t85;have X7:=X5.trans j3;have ht7:t<S7.txs.length:=by rw[X7.len];exact ht
        have c46:=(j1.txc ht7 4 _ rfl).1;rw[X7.xp,X7.lp] at c46;have K7:=K5.trans j2;have hS2:w6.cell? ⟨(S.tx t).xp,4,none⟩=some (pV (S.tx t).lp)∧w6.cell? ⟨w.heap.size,0,none⟩=some (vI 2)∧w6.cell? ⟨w.heap.size,1,none⟩=some (vI (a:Int))∧w6.cell? ⟨w.heap.size,2,none⟩=some (vI k)∧w6.cell? ⟨w.heap.size,3,none⟩=some (vI v):=⟨c46,(v8 0 _ rfl).1,(v8 1 _ rfl).1,(v8 2 _ rfl).1,(v8 3 _ rfl).1⟩;refine⟨hS2,?_⟩;clear ou c4 s8 p2 j2 hS;refine pickSeq_step rfl rfl ?_;unfold Oper.wp;go_simp
        try refine⟨hS2.1,hS2.2.1,hS2.2.2.1,hS2.2.2.2.1,hS2.2.2.2.2,?_⟩
        refine pickSeq_step rfl rfl ?_;unfold Oper.wp;go_simp
        try refine⟨hS2.1,hS2.2.1,hS2.2.2.1,hS2.2.2.2.1,hS2.2.2.2.2,?_⟩
        try simp only[pickSeq]
        obtain⟨-,-,y1,y2,-⟩:=hS2
        cases b3 with
        | false=>
          have hP:ChP w τ s q S (.returned (vI 130)) w6:=⟨130,rfl,by decide,by decide,τ7,S7,j1,K7.retag tk,X7,trivial⟩;replace hP:=hid hP;go_wp2;go_ret;exact hP.out
        | true=>
          have of:=ssetnum_is j1 ha k b hb;rw[X7.hp] at of;go_wp2_with fail
          refine of.mono ?_;rintro e w8 ⟨y,rfl,hy,τ9,S9,i1,i2,i3,-⟩;have hP:ChP w τ s q S (.returned (vI y)) w8:=⟨y,rfl,hy.i64.1,hy.i64.2,τ9,S9,i1,(K7.trans i2).retag tk,X7.trans i3,trivial⟩;replace hP:=hid hP;clear of;go_wp2;go_ret;exact hP.out
    · have hxe:(x != 0)=true:=by simp[bne,hx0]
      have hP:ChP w τ s q S (.returned (vI x)) w2:=⟨x,rfl,hxx.i64.1,hxx.i64.2,fin.out _ _ _ n1 ⟨w2,K2,Fr.refl _ _⟩ X2⟩;replace hP:=hid hP;go_wp2;go_ret;exact hP.out
  · have hxe:(x != 0)=true:=by simp[bne,h0]
    have hP:ChP w τ s q S (.returned (vI x)) w1:=⟨x,rfl,hx,hx1,fin.out _ _ _ m1 ⟨w1,m2,Fr.refl _ _⟩ m3⟩;replace hP:=hid hP;go_wp2;go_ret;exact hP.out
end
end Go.Proofs.YtdffnjikmkgjkaaGreat
