import Derived.Laws.CopyOwn
import Derived.Maps.OwnIn
import Derived.Deep.AppendLies
import Derived.Test.YtgijglafnlbdbaaGreatTmAB
set_option linter.all false
set_option maxHeartbeats 4000000
set_option maxRecDepth 8000
namespace Go.Proofs.YtgijglafnlbdbaaGreat
open RowKit Shelf Proofs.Tryz
open Go renaming World->aj,Value->aC,Calls->aL
structure CD(xs:aE)(a t:Nat):Prop where
 lt:a<xs.length
 pos:1<=t
 le:t<=131072
 word:xs.getD a 0=t*4+2
theorem At.lt{xs:aE}{a:Nat}{o:Ob}(h:At xs a o):a<xs.length:=by have:=h.room;simp only[Ob.size] at this;omega
theorem cT{b off n:Nat} : (⟨b,off,none⟩:Addr).add n=⟨b,off+n,none⟩:=by
 unfold Addr.add;split <;> simp_all
theorem qe:(prog.info? 3).map (λi=>(i.zero,i.size,i.bytes))=some (some (vI 0),1,8):=by kernel_rfl
abbrev lu(l:List Int):List aC:=l.map (Value.int .i64)
abbrev nI(l:aE):List Int:=l.map λx:Nat=>(x:Int)
def bm(w:aj)(base:Nat)(v:aC)(l:List Int):Prop:=w.ownsRow base 3 1 v l.length (lu l)
theorem bm.nil(w:aj)(base:Nat):bm w base (.slice none 0 0) []:=World.ownsRow_nil _ _ _ _
theorem bm.row{w:aj}{base:Nat}{v:aC}{l:List Int}(h:bm w base v l):Row w v (lu l):=Row.OQ h
theorem bm.calm{w w':aj}{base:Nat}{v:aC}{l:List Int}(h:bm w base v l)(f:Calm w w'):bm w' base v l:=DQ h f (λ_ _=>id)
theorem bm.slice{w:aj}{base:Nat}{v:aC}{l:List Int}(h:bm w base v l):∃a c,v=.slice a l.length c:=by
 obtain⟨a,c,h,_⟩:=h.row;exact⟨a,c,by simpa using h⟩
theorem bm.letters{w:aj}{base:Nat}{v:aC}{l:List Int}(h:bm w base v l):∃a n c,v=.slice a n c:=by
 obtain⟨a,c,h⟩:=h.slice;exact⟨a,_,c,h⟩
def Was(xs:aE)(a:Nat)(o:Ob):Prop:=At xs a o\/∃t,CD xs a t/\At xs t o
def Ob.took(o:Ob):Nat:=(qp o.size).toNat
theorem Ob.ik{o:Ob}(h:o.Ok):(o.took:Int)=qp o.size/\o.size<=o.took/\4<=o.took/\o.took<=24:=by
 have h1:o.size=3+o.p+o.d:=rfl;have h2:=h.sh.1;have h3:=h.sh.2.1;have h4:=jg (n:=(o.size:Int)) (by omega);have h5:=Lg (a:=(o.size:Int)) (b:=19) (by omega) (by omega);have h6:qp 19=24:=by decide
 unfold Ob.took;omega
def FL(xs:aE):Nat->Nat->List (Nat × Ob)->Prop
 | b,e,[]=>b=e
 | b,e,(a,o)::l=>a=b/\o.Ok/\Was xs a o/\FL xs (b+o.took) e l
theorem FL.le{xs:aE} : ∀ {l:List (Nat × Ob)} {b e:Nat},FL xs b e l->b+4*l.length<=e
 | [],b,e,h=>by simp[FL] at h;simp;omega
 | (a,o)::l,b,e,⟨_,h1,_,h2⟩=>by
   have:=FL.le h2;have:=(Ob.ik h1).2.2.1;simp;omega
attribute [local go_sem] Oper.semAt_some
abbrev gV(l:List (Nat × Ob)):aE:=l.map (·.1)
def eH(b:Nat)(l:List (Nat × Ob)):Nat->Nat
 | 0=>b
 | k+1=>eH b l k+(l.getD k (0,Ob.new 0 0 false false 0)).2.took
theorem jR(b:Nat)(x:Nat × Ob)(l:List (Nat × Ob)):∀k,eH b (x::l) (k+1)=eH (b+x.2.took) l k
 | 0=>rfl
 | k+1=>by
   show eH b (x::l) (k+1)+_=eH (b+x.2.took) l k+_;rw[jR b x l k];rfl
theorem FL.at{xs:aE} : ∀ {l:List (Nat × Ob)} {b e:Nat},FL xs b e l->∀k,k<l.length ->
 (l.getD k (0,Ob.new 0 0 false false 0)).1=eH b l k/\(l.getD k (0,Ob.new 0 0 false false 0)).2.Ok/\Was xs (eH b l k) (l.getD k (0,Ob.new 0 0 false false 0)).2/\eH b l (k+1)<=e
 | (a,o)::l,b,e,⟨h0,h1,h2,h3⟩,0,_=>⟨h0,h1,h0 ▸ h2,by have:=h3.le;show b+o.took<=e;omega⟩
 | (a,o)::l,b,e,⟨h0,h1,h2,h3⟩,k+1,hk=>by
   have:=FL.at h3 k (by simpa using hk);rw[jR,jR];exact this
attribute [local go_sem] Oper.semAt_some
section
open Go.RowKit Go.Maps
theorem SX{a b:Int}(h:a≠b):(Lit.int .i64 a)≠(Lit.int .i64 b):=by simpa using h
end
section
open Go.RowKit Go.Maps
end
section
def aB(v:aC)(b:Nat):Prop:=v.ownBlock=some b
def U9(a b:aC):Prop:=∀k,aB a k->¬aB b k
theorem aB.nil(b:Nat):¬aB (.slice none 0 0) b:=by simp[aB,Value.ownBlock]
theorem aB.mk{g n c b:Nat} : aB (.slice (some ⟨g,0,none⟩) n c) b↔b=g:=by simp[aB,Value.ownBlock,eq_comm]
theorem aB.fg{g n c b:Nat}(h:aB (.slice (some ⟨g,0,none⟩) n c) b):b=g:=aB.mk.1 h
theorem bm.lt{w:aj}{base:Nat}{v:aC}{l:List Int}(h:bm w base v l){b:Nat}(hb:aB v b):base<=b/\b<w.heap.size:=World.ownsRow.lt h b hb
theorem bm.iI{S:Nat->Prop}{w w':aj}{base:Nat}{v:aC}{l:List Int}(h:bm w base v l)(f:Fr S w w')(hs:∀b,aB v b->¬S b):bm w' base v l:=by
 refine⟨h.1,?_⟩;rcases h.2 with hn|⟨g,cap,cur,hv,hb,WK,rest⟩
 ·exact .inl hn
 ·exact .inr ⟨g,cap,cur,hv,hb,f.jE WK (hs _ (by rw[hv];rfl)),rest⟩
theorem bm.get{w:aj}{base:Nat}{v:aC}{l:List Int}(h:bm w base v l){k:Nat}(hk:k<l.length):∃g c,v=.slice (some ⟨g,0,none⟩) l.length c/\base<=g/\Own w g k (vI (l.getD k 0)):=by
 obtain⟨hl,⟨_,h0⟩|⟨g,cap,cur,rfl,hb,hg,hn,Gp,mi,hx⟩⟩:=h
 ·omega
 ·refine⟨g,cap,rfl,hb,?_,?_⟩
  ·have h2:cur.toList[k]?=(lu l)[k]?:=by rw[<-hx,List.getElem?_take];simp;omega
   have:w.cell? ⟨g,k,none⟩=cur[k]?:=by simp[World.cell?,hg]
   rw[this,<-Array.getElem?_toList,h2];simp[hk]
  ·simp[World.frozen?,hg]
theorem bm.set{w:aj}{base:Nat}{l:List Int}{g n c:Nat}(h:bm w base (.slice (some ⟨g,0,none⟩) n c) l){k:Nat}(hk:k<l.length)(y:Int):bm (w.setCell ⟨g,k,none⟩ (vI y)) base (.slice (some ⟨g,0,none⟩) n c) (l.set k y):=by
 obtain⟨hl,⟨h1,h0⟩|⟨g',cap,cur,hv,hb,hg,hn,Gp,mi,hx⟩⟩:=h
 ·cases h1
 ·cases hv;refine⟨by simp,.inr ⟨g,c,cur.set! k (vI y),by simp,hb,?_,by simpa using hn,Gp,by simpa using mi,?_⟩⟩
  ·have aZ:g<w.heap.size:=(wh.1 hg).1;rw[heap_setCell_same _ _ _ _ _ _ hg];simp
  ·have hc:k<cur.size:=by rw[mi];omega
   simp only[Array.set!_eq_setIfInBounds,Array.toList_setIfInBounds,bE,lu,List.map_set];have yU:=hx;simp only[lu] at yU;rw[List.take_set,yU]
theorem Own.calm{w w':aj}{b i:Nat}{v:aC}(h:Own w b i v)(f:Calm w w'):Own w' b i v:=h.fr f id
theorem yr{w w':aj}{v:aC}{o:Obj}(hg:(w.alloc o).grownBy w' v.ownBlock):Fr (aB v) w w':=
 Fr.grown (Fr.alloc aq _) hg (λk hk=>.inl hk)
theorem gx{ops:Array Oper}{rest:List Oper}{o:Oper}{a:Act}{Q:Exit->Act->aj->Prop}{w:aj}(oJ:o.guard=none)(s x:Operand)
 (ho:o.op=.call { callee:=.builtin .append,args:=#[s,x],argTypes:=#[43,43] })
 (base:Nat) (v:aC) (l:List Int) (cH:bm w base v l) (hs:a.eval s=v) (y:Int) (hx:a.eval x=.slice (some ⟨w.heap.size,0,none⟩) 1 1) (hl:l.length<=1000000) (abm:base<=w.heap.size)
 (h:∀g c w',bm w' base (.slice (some ⟨g,0,none⟩) (l.length+1) c) (l++[y])->Fr (aB v) w w'->(aB v g\/w.heap.size<=g)->wpList prog ops Q rest (a.put o.dst (.slice (some ⟨g,0,none⟩) (l.length+1) c)) w') :
 wpList prog ops Q (o::rest) a (w.alloc (.cells #[vI y] 3)):=by
 obtain⟨i0,hi,ie,gU,iw⟩:=info_parts qe;refine wpList_append_own_at _ oJ s x 43 ho base 3 i0 (vI 0) 1 8 Tryz.underlying43 hi ie gU iw rfl (by decide) v l.length (lu l) hs (World.ownsRow.alloc cH _) ⟨w.heap.size,0,none⟩ 1 1 [vI y] hx rfl (cell_one_new _ _ _) (by simp[Value.oneCell']) (by unfold maxLen;omega) (by omega) (by simp;omega) ?_;intro v' w' ju eU _ m_;obtain⟨g,c,rfl⟩:=ownsRow_succ ju;refine h g c w' ?_ (yr eU) ?_
 ·show World.ownsRow _ _ _ _ _ _ _;rw[cX,lu,List.map_append];exact ju
 ·rcases m_ with m_|m_
  ·exact .inl (m_.symm.trans rfl)
  ·right;simp[Value.ownBlock] at m_;omega
end
section
theorem bm.lit(w:aj)(base:Nat)(l:List Int)(hb:base<=w.heap.size)(hl:l.length<=1000000):bm (w.alloc (.cells (lu l).toArray 3)) base (.slice (some ⟨w.heap.size,0,none⟩) l.length l.length) l:=
 ⟨by simp,.inr ⟨w.heap.size,l.length,(lu l).toArray,rfl,hb,World.alloc_heap_new w _,aM _,by unfold maxLen;omega,by simp,List.take_of_length_le (by simp)⟩⟩
end
section
open Go.RowKit Go.Shelf Go.Maps
theorem XK:Keyed prog 3:=int_keyed Tryz.underlying3
theorem J7{n:Int}(h:cL n):keyOf prog 3 (vI n)=some (.int .i64 n):=keyOf_int_mk Tryz.underlying3 (WalkArith.wf_i64 (by omega))
end
section
open Go.RowKit Go.Shelf Go.Maps
theorem Row.loop{w:aj}{v:aC}{l:List Int}(h:Row w v (lu l)):∃a c,v=.slice a l.length c/\∀k,k<l.length->∃b off,a=some ⟨b,off,none⟩/\b<w.heap.size/\w.cell? ⟨b,off+k,none⟩=some (vI (l.getD k 0)):=by
 obtain⟨a,cap,hv,h⟩:=h;refine⟨a,cap,by simpa using hv,λk hk=>?_⟩;rcases h with h|⟨b,off,ha,hc⟩
 ·simp at h;subst h;simp at hk
 ·have:=hc k (by simpa using hk);refine⟨b,off,ha,lM w _ this,?_⟩;rw[this];simp[List.getD,hk]
end
abbrev pV(c:Nat):aC:=aR c
structure si where
 bU:Nat->Prop
 at_:aj->Prop
 fr:∀ {S:Nat->Prop} {w w':aj},at_ w->Fr S w w'->(∀k,bU k->¬S k)->at_ w'
 lt:∀ {w:aj},at_ w->∀k,bU k->k<w.heap.size
def lZ:si:=⟨λ_=>False,λ_=>True,λ_ _ _=>trivial,λ_ _ h=>h.elim⟩
def bD(B:Nat)(v:aC)(vs:List aC):si:=⟨λk=>k=B,λw=>ag w B (v::vs),λh f hs=>h.fr f (hs B rfl),λh k hk=>hk ▸ h.lt (by simp)⟩
def iL(v:aC)(l:List Int):si:=⟨aB v,λw=>bm w 0 v l,λh f hs=>h.iI f hs,λh _ hk=>(h.lt hk).2⟩
theorem az{S:Nat->Prop}{w w':aj}{base:Nat}{e:TypeId}{size n:Nat}{v:aC}{xs:List aC}(h:w.ownsRow base e size v n xs)(f:Fr S w w')(hs:∀b,aB v b->¬S b):w'.ownsRow base e size v n xs:=by
 refine⟨h.1,?_⟩;rcases h.2 with hn|⟨g,cap,cur,hv,hb,WK,rest⟩
 ·exact .inl hn
 ·exact .inr ⟨g,cap,cur,hv,hb,f.jE WK (hs _ (by rw[hv];rfl)),rest⟩
def dK(e:TypeId)(size:Nat)(v:aC)(n:Nat)(xs:List aC):si:=⟨aB v,λw=>w.ownsRow 0 e size v n xs,λh f hs=>az h f hs,λh _ hk=>(World.ownsRow.lt h _ hk).2⟩
abbrev Mem:=Nat->si
def Mem.put(A:Mem)(t:Nat)(a:si):Mem:=λj=>if j=t then a else A j
theorem Mem.aP(A:Mem)(t:Nat)(a:si):A.put t a t=a:=if_pos rfl
theorem Mem.aA(A:Mem){t j:Nat}(a:si)(h:j≠t):A.put t a j=A j:=if_neg h
structure bF(w:aj)(τ:Nat->Nat)(A:Mem):Prop where
 at_:∀t,(A t).at_ w
 tag:∀t k,(A t).bU k->τ k=t
def nV(w:aj)(τ aX:Nat->Nat):Prop:=∀k,k<w.heap.size->aX k=τ k
structure aF(w:aj)(τ:Nat->Nat)(w':aj)(aX:Nat->Nat):Prop where
 fr:Fr (λk=>τ k<500) w w'
 tg:nV w τ aX
theorem aF.refl(w:aj)(τ:Nat->Nat):aF w τ w τ:=⟨aq,λ_ _=>rfl⟩
theorem aF.trans{w w1 w2:aj}{τ gi eY:Nat->Nat}(h:aF w τ w1 gi)(k:aF w1 gi w2 eY):aF w τ w2 eY:=by
 have hs:=h.fr.size;exact⟨h.fr.join k.fr (λj hj e=>by rw[h.tg j hj] at e;exact e),λj hj=>by rw[k.tg j (by omega),h.tg j hj]⟩
theorem aF.calm{w w':aj}(τ:Nat->Nat)(c:Calm w w'):aF w τ w' τ:=⟨c.any,λ_ _=>rfl⟩
theorem aF.size{w w':aj}{τ aX:Nat->Nat}(h:aF w τ w' aX):w.heap.size<=w'.heap.size:=h.fr.size
theorem aF.cell{w w':aj}{τ aX:Nat->Nat}(h:aF w τ w' aX){p:Addr}{v:aC}(hc:w.cell? p=some v)(ht:500<=τ p.block):w'.cell? p=some v:=h.fr.cellAt hc (by omega)
theorem bF.frame{S:Nat->Prop}{w w':aj}{τ:Nat->Nat}{A:Mem}(h:bF w τ A)(f:Fr S w w')(hs:∀t k,(A t).bU k->¬S k):bF w' τ A:=⟨λt=>(A t).fr (h.at_ t) f (hs t),h.tag⟩
theorem bF.calm{w w':aj}{τ:Nat->Nat}{A:Mem}(h:bF w τ A)(f:Calm w w'):bF w' τ A:=h.frame f (λ_ _ _=>id)
theorem bF.lt{w:aj}{τ:Nat->Nat}{A:Mem}(h:bF w τ A)(t:Nat){k:Nat}(hk:(A t).bU k):k<w.heap.size:=(A t).lt (h.at_ t) k hk
theorem bF.put{w w':aj}{τ:Nat->Nat}{A:Mem}(h:bF w τ A){t:Nat}{a:si}(f:Fr (A t).bU w w')(ha:a.at_ w')(hn:∀k,a.bU k->(A t).bU k\/w.heap.size<=k)(ht:t<500) :
 ∃aX,bF w' aX (A.put t a)/\aF w τ w' aX:=by
 refine⟨λk=>if k<w.heap.size then τ k else t,⟨λj=>?_,λj k hk=>?_⟩,⟨f.mono (λk _ hk=>?_),λk hk=>if_pos hk⟩⟩
 ·by_cases e:j=t
  ·subst e;rw[Mem.aP];exact ha
  ·rw[Mem.aA _ _ e];exact(A j).fr (h.at_ j) f (λk hk gI=>e (by rw[<-h.tag j k hk,h.tag t k gI]))
 ·by_cases e:j=t
  ·subst e;rw[Mem.aP] at hk;rcases hn k hk with h1|h1
   ·simp only[if_pos (h.lt j h1)];exact h.tag j k h1
   ·simp only[if_neg (show ¬k<w.heap.size by omega)]
  ·rw[Mem.aA _ _ e] at hk;simp only[if_pos (h.lt j hk)];exact h.tag j k hk
 ·show τ k<500;rw[h.tag t k hk];exact ht
theorem bF.put'{w w':aj}{τ:Nat->Nat}{A:Mem}(h:bF w τ A){t:Nat}{a:si}(f:Fr (A t).bU w w')(ha:a.at_ w')(hn:∀k,a.bU k->(A t).bU k):bF w' τ (A.put t a):=by
 refine⟨λj=>?_,λj k hk=>?_⟩
 ·by_cases e:j=t
  ·subst e;rw[Mem.aP];exact ha
  ·rw[Mem.aA _ _ e];exact(A j).fr (h.at_ j) f (λk hk gI=>e (by rw[<-h.tag j k hk,h.tag t k gI]))
 ·by_cases e:j=t
  ·subst e;rw[Mem.aP] at hk;exact h.tag j k (hn k hk)
  ·rw[Mem.aA _ _ e] at hk;exact h.tag j k hk
theorem bF.DT{w w':aj}{τ:Nat->Nat}{A:Mem}(h:bF w τ A){t u:Nat}(hne:t≠u){a b:si}(f:Fr (λk=>(A t).bU k\/(A u).bU k) w w')(ha:a.at_ w')(hb:b.at_ w')(hn:∀k,a.bU k->(A t).bU k)(hm:∀k,b.bU k->(A u).bU k\/w.heap.size<=k)(ht:t<500)(hu:u<500) :
 ∃aX,bF w' aX ((A.put t a).put u b)/\aF w τ w' aX:=by
 refine⟨λk=>if k<w.heap.size then τ k else u,⟨λj=>?_,λj k hk=>?_⟩,⟨f.mono (λk _ hk=>?_),λk hk=>if_pos hk⟩⟩
 ·by_cases e:j=u
  ·subst e;rw[Mem.aP];exact hb
  ·rw[Mem.aA _ _ e]
   by_cases e2:j=t
   ·subst e2;rw[Mem.aP];exact ha
   ·rw[Mem.aA _ _ e2]
    exact(A j).fr (h.at_ j) f (λk hk gI=>by
     rcases gI with gI|gI
     ·exact e2 (by rw[<-h.tag j k hk,h.tag t k gI])
     ·exact e (by rw[<-h.tag j k hk,h.tag u k gI]))
 ·by_cases e:j=u
  ·subst e;rw[Mem.aP] at hk;rcases hm k hk with h1|h1
   ·simp only[if_pos (h.lt j h1)];exact h.tag j k h1
   ·simp only[if_neg (show ¬k<w.heap.size by omega)]
  ·rw[Mem.aA _ _ e] at hk
   by_cases e2:j=t
   ·subst e2;rw[Mem.aP] at hk;simp only[if_pos (h.lt j (hn k hk))];exact h.tag j k (hn k hk)
   ·rw[Mem.aA _ _ e2] at hk;simp only[if_pos (h.lt j hk)];exact h.tag j k hk
 ·show τ k<500;rcases hk with hk|hk
  ·rw[h.tag t k hk];exact ht
  ·rw[h.tag u k hk];exact hu
theorem aF.piece{w w':aj}{τ:Nat->Nat}{A:Mem}(h:bF w τ A){t:Nat}(f:Fr (A t).bU w w')(ht:t<500):aF w τ w' τ:=⟨f.mono (λk _ hk=>by show τ k<500;rw[h.tag t k hk];exact ht),λ_ _=>rfl⟩
theorem bF.fresh{w:aj}{τ:Nat->Nat}{A:Mem}(h:bF w τ A)(m:Nat):∃aX,bF w aX A/\nV w τ aX/\∀k,w.heap.size<=k->aX k=m:=
 ⟨λk=>if k<w.heap.size then τ k else m,⟨h.at_,λt k hk=>by simp only[if_pos (h.lt t hk)];exact h.tag t k hk⟩,λk hk=>if_pos hk,λk hk=>if_neg (by omega)⟩
theorem bF.apart{w:aj}{τ:Nat->Nat}{A:Mem}(h:bF w τ A){t u:Nat}(hne:t≠u){k:Nat}(h1:(A t).bU k)(h2:(A u).bU k):False:=hne (by rw[<-h.tag t k h1,h.tag u k h2])
def Mem.cM(P:Nat->Prop)(A A':Mem):Prop:=∀t,¬P t->A' t=A t
theorem Mem.cM.refl(P:Nat->Prop)(A:Mem):Mem.cM P A A:=λ_ _=>rfl
theorem Mem.cM.trans{P:Nat->Prop}{A B C:Mem}(h:Mem.cM P A B)(k:Mem.cM P B C):Mem.cM P A C:=λt ht=>(k t ht).trans (h t ht)
theorem Mem.cM.mono{P Q:Nat->Prop}{A B:Mem}(h:Mem.cM P A B)(hq:∀t,P t->Q t):Mem.cM Q A B:=λt ht=>h t (λe=>ht (hq t e))
theorem Mem.cM.put(A:Mem){P:Nat->Prop}{t:Nat}(a:si)(ht:P t):Mem.cM P A (A.put t a):=λj hj=>Mem.aA A a (λe=>hj (e ▸ ht))
section
structure GI(lL ety:TypeId)(k:Nat):Prop where
 und:prog.underlying lL=some (.slice ety)
 info:∃i z bytes,prog.info? ety=some i/\i.zero=some z/\i.size=k/\i.bytes=bytes/\z.cells.size=k/\0<k/\bytes<=1000
theorem giH:GI 165 219 2:=by
 obtain⟨i0,hi,ie,gU,iw⟩:=info_parts (show(prog.info? 219).map (λi=>(i.zero,i.size,i.bytes))=some (some (.agg #[vI 0,vI 0]),2,16) by kernel_rfl);exact⟨Tryz.underlying165,i0,_,_,hi,ie,gU,iw,rfl,by decide,by decide⟩
theorem giU:GI 166 231 4:=by
 obtain⟨i0,hi,ie,gU,iw⟩:=info_parts (show(prog.info? 231).map (λi=>(i.zero,i.size,i.bytes))=some (some (.agg #[vI 0,vI 0,vI 0,vI 0]),4,32) by kernel_rfl);exact⟨Tryz.underlying166,i0,_,_,hi,ie,gU,iw,rfl,by decide,by decide⟩
theorem Ry:GI 79 123 2:=by
 obtain⟨i0,hi,ie,gU,iw⟩:=info_parts (show(prog.info? 123).map (λi=>(i.zero,i.size,i.bytes))=some (some (.agg #[vI 0,vI 0]),2,16) by kernel_rfl);exact⟨Tryz.underlying79,i0,_,_,hi,ie,gU,iw,rfl,by decide,by decide⟩
theorem giE:GI 40 76 6:=by
 obtain⟨i0,hi,ie,gU,iw⟩:=info_parts (show(prog.info? 76).map (λi=>(i.zero,i.size,i.bytes))=some (some (.agg #[vI 0,vI 0,vI 0,vI 0,vI 0,vI 0]),6,48) by kernel_rfl);exact⟨Tryz.underlying40,i0,_,_,hi,ie,gU,iw,rfl,by decide,by decide⟩
theorem giP:GI 107 110 1:=by
 obtain⟨i0,hi,ie,gU,iw⟩:=info_parts (show(prog.info? 110).map (λi=>(i.zero,i.size,i.bytes))=some (some (.pointer none),1,8) by kernel_rfl);exact⟨Tryz.underlying107,i0,_,_,hi,ie,gU,iw,rfl,by decide,by decide⟩
section
variable {lL ety:TypeId}{k:Nat}
theorem gu(G:GI lL ety k){ops:Array Oper}{o:Oper}{a:Act}{w:aj}{K:Act->aj->Prop}{Q:Exit->Act->aj->Prop}{E:Prop}(oJ:o.guard=none)(s x:Operand)
 (ho:o.op=.call { callee:=.builtin .append,args:=#[s,x],argTypes:=#[lL,lL] })
 (v:aC) (n:Nat) (xs:List aC) (cH:w.ownsRow 0 ety k v n xs) (hs:a.eval s=v) (ys:List aC) (Mq:ys.length=k) (h1:∀u∈ys,u.oneCell'=true) (ad:Addr) (c:Nat) (hx:a.eval x=.slice (some ad) 1 c)
 (hc:∀j u,ys[j]?=some u->w.cell? (ad.add j)=some u) (hl:n<=1000000)
 (h:∀g c w',w'.ownsRow 0 ety k (.slice (some ⟨g,0,none⟩) (n+1) c) (n+1) (xs++ys)->Fr (aB v) w w'->(aB v g\/g=w.heap.size)->K (a.put o.dst (.slice (some ⟨g,0,none⟩) (n+1) c)) w') :
 if Region.wanted o (yielded ops a.tmps)=true then Oper.wp prog o a w K Q else E:=by
 obtain⟨i0,z,bytes,hi,ie,gU,iw,Mr,hk,hb⟩:=G.info;refine step_append_lies w oJ s x lL ho 0 ety i0 z k bytes G.und hi ie gU iw Mr hk v n xs hs cH ad 1 c ys hx (by omega) hc h1 (by omega) (by unfold maxLen;omega) ?_ (cK _) _ rfl ?_
 ·exact fH (Nat.mul_le_mul (show n+1<=1000001 by omega) hb) (by omega)
 intro g cap w' ju eU m_ _;exact h g cap w' ju (Fr.grown aq eU (λk hk=>.inl hk)) m_
theorem gy(G:GI lL ety k){ops:Array Oper}{rest:List Oper}{o:Oper}{a:Act}{Q:Exit->Act->aj->Prop}{w:aj}(oJ:o.guard=none)(s x:Operand)
 (ho:o.op=.call { callee:=.builtin .append,args:=#[s,x],argTypes:=#[lL,lL] })
 (v:aC) (n:Nat) (xs:List aC) (cH:w.ownsRow 0 ety k v n xs) (hs:a.eval s=v) (ys:List aC) (Mq:ys.length=k) (h1:∀u∈ys,u.oneCell'=true) (ad:Addr) (c:Nat) (hx:a.eval x=.slice (some ad) 1 c)
 (hc:∀j u,ys[j]?=some u->w.cell? (ad.add j)=some u) (hl:n<=1000000)
 (h:∀g c w',w'.ownsRow 0 ety k (.slice (some ⟨g,0,none⟩) (n+1) c) (n+1) (xs++ys)->Fr (aB v) w w'->(aB v g\/g=w.heap.size)->wpList prog ops Q rest (a.put o.dst (.slice (some ⟨g,0,none⟩) (n+1) c)) w') :
 wpList prog ops Q (o::rest) a w:=by
 obtain⟨i0,z,bytes,hi,ie,gU,iw,Mr,hk,hb⟩:=G.info;refine wpList_append_own_at _ oJ s x lL ho 0 ety i0 z k bytes G.und hi ie gU iw Mr hk v n xs hs cH ad 1 c ys hx (by omega) hc h1 (by unfold maxLen;omega) ?_ (cK _) ?_
 ·exact fH (Nat.mul_le_mul (show n+1<=1000001 by omega) hb) (by omega)
 intro v' w' ju eU _ m_;obtain⟨g,c',rfl⟩:=ownsRow_succ ju;refine h g c' w' ju (Fr.grown aq eU (λk hk=>.inl hk)) ?_;rcases m_ with e|e
 ·exact .inl (e.symm.trans rfl)
 ·right;simpa[Value.ownBlock] using e
theorem ke{w:aj}{v:aC}{n:Nat}{xs:List aC}(h:w.ownsRow 0 ety k v n xs)(hk:0<k){i:Nat}(hi:i<n):∃g c,v=.slice (some ⟨g,0,none⟩) n c/\∀j,j<k->Own w g (i*k+j) (xs.getD (i*k+j) .nilFunc):=by
 obtain⟨hl,⟨_,h0⟩|⟨g,cap,cur,rfl,hb,hg,hn,Gp,mi,hx⟩⟩:=h
 ·omega
 ·refine⟨g,cap,rfl,λj hj=>?_⟩;have Mi:i*k+j<n*k:=Nat.lt_of_lt_of_le (by rw[Nat.succ_mul];omega:i*k+j<(i+1)*k) (Nat.mul_le_mul_right k hi);have EW:i*k+j<xs.length:=by rw[hl];exact Mi
  refine⟨?_,?_⟩
  ·have h2:cur.toList[i*k+j]?=xs[i*k+j]?:=by rw[<-hx,List.getElem?_take,if_pos Mi]
   have:w.cell? ⟨g,i*k+j,none⟩=cur[i*k+j]?:=by simp[World.cell?,hg]
   rw[this,<-Array.getElem?_toList,h2];simp[List.getD,EW]
  ·simp[World.frozen?,hg]
theorem kg{w:aj}{g n c:Nat}{xs:List aC}(h:w.ownsRow 0 ety k (.slice (some ⟨g,0,none⟩) n c) n xs){j:Nat}(hj:j<xs.length)(y:aC):(w.setCell ⟨g,j,none⟩ y).ownsRow 0 ety k (.slice (some ⟨g,0,none⟩) n c) n (xs.set j y):=by
 obtain⟨hl,⟨h1,h0⟩|⟨g',cap,cur,hv,hb,hg,hn,Gp,mi,hx⟩⟩:=h
 ·cases h1
 ·cases hv;refine⟨by rw[bE];exact hl,.inr ⟨g,c,cur.set! j y,rfl,hb,?_,hn,Gp,by simpa using mi,?_⟩⟩
  ·rw[heap_setCell_same _ _ _ _ _ _ hg];simp
  ·simp only[Array.set!_eq_setIfInBounds,Array.toList_setIfInBounds];rw[List.take_set,hx]
theorem aG{w:aj}{v:aC}{n:Nat}{xs:List aC}(h:w.ownsRow 0 ety k v n xs):∃a c,v=.slice a n c:=by
 rcases h.2 with ⟨rfl,h0⟩|⟨g,cap,cur,rfl,_⟩
 ·exact⟨none,0,by rw[h0]⟩
 ·exact⟨_,_,rfl⟩
theorem wQ{α:Type}(f:α->List aC)(k:Nat)(hf:∀a,(f a).length=k)(d:α):∀ (l:List α) (i:Nat),i<l.length->∀j,j<k->(l.flatMap f)[i*k+j]?=(f (l.getD i d))[j]?
 | [],i,h,_,_=>by simp at h
 | x::l,0,_,j,hj=>by
   rw[List.flatMap_cons,Nat.zero_mul,fk,List.getElem?_append_left (by rw[hf];exact hj)];rfl
 | x::l,i+1,h,j,hj=>by
   have e:(i+1)*k=i*k+k:=Nat.succ_mul i k;rw[List.flatMap_cons,Cb (by rw[hf];omega),hf,show(i+1)*k+j-k=i*k+j by omega,wQ f k hf d l i (by simpa using h) j hj];rfl
theorem dS{α:Type}(f:α->List aC)(k:Nat)(hf:∀a,(f a).length=k)(l:List α):(l.flatMap f).length=l.length*k:=by
 induction l with
 | nil=>simp
 | cons x l ih=>rw[List.flatMap_cons,cX,hf,ih,List.length_cons,Nat.succ_mul];omega
theorem bz{α:Type}{f:α->List aC}(hf:∀a,(f a).length=k)(hk:0<k){w:aj}{v:aC}{l:List α}(h:w.ownsRow 0 ety k v l.length (l.flatMap f))(d:α){i:Nat}(hi:i<l.length) :
 ∃g c,v=.slice (some ⟨g,0,none⟩) l.length c/\∀j u,(f (l.getD i d))[j]?=some u->Own w g (i*k+j) u:=by
 obtain⟨g,c,hv,hc⟩:=ke h hk hi;refine⟨g,c,hv,λj u hu=>?_⟩;have hj:j<k:=by have:=(List.getElem?_eq_some_iff.1 hu).1;rwa [hf] at this
 have e:=wQ f k hf d l i hi j hj;rw[hu] at e;have:=hc j hj
 rwa [List.getD,e] at this
theorem uN{w:aj}{v:aC}{n:Nat}{xs:List aC}(h:w.ownsRow 0 ety k v n xs):xs.length=n*k:=h.1
end
section
variable {lL ety:TypeId}{k:Nat}
theorem fI(G:GI lL ety k){ops:Array Oper}{rest:List Oper}{o:Oper}{a:Act}{Q:Exit->Act->aj->Prop}{w:aj}(oJ:o.guard=none)(s x:Operand)
 (ho:o.op=.call { callee:=.builtin .append,args:=#[s,x],argTypes:=#[lL,lL] })
 (v:aC) (n:Nat) (xs:List aC) (cH:w.ownsRow 0 ety k v n xs) (hs:a.eval s=v) (ad:Addr) (m c:Nat) (ys:List aC) (hx:a.eval x=.slice (some ad) m c) (Mq:ys.length=m*k) (h1:∀u∈ys,u.oneCell'=true)
 (hc:∀j u,ys[j]?=some u->w.cell? (ad.add j)=some u) (hl:n+m<=1000000)
 (h:∀v' w',w'.ownsRow 0 ety k v' (n+m) (xs++ys)->Fr (aB v) w w'->(∀b,aB v' b->aB v b\/w.heap.size<=b)->wpList prog ops Q rest (a.put o.dst v') w') :
 wpList prog ops Q (o::rest) a w:=by
 obtain⟨i0,z,bytes,hi,ie,gU,iw,Mr,hk,hb⟩:=G.info;refine wpList_append_own_at _ oJ s x lL ho 0 ety i0 z k bytes G.und hi ie gU iw Mr hk v n xs hs cH ad m c ys hx Mq hc h1 (by unfold maxLen;omega) ?_ (cK _) ?_
 ·exact fH (Nat.mul_le_mul hl hb) (by omega)
 intro v' w' ju eU _ m_;refine h v' w' ju (Fr.grown aq eU (λk hk=>.inl hk)) (λb hb=>?_);rcases m_ with e|e
 ·exact .inl (e.symm.trans hb)
 ·right;have:some w.heap.size=some b:=e.symm.trans hb;injection this with this;omega
theorem jf{w:aj}{v:aC}{n:Nat}{xs:List aC}(h:w.ownsRow 0 ety k v n xs)(hn:v≠.slice none 0 0):∃g c,v=.slice (some ⟨g,0,none⟩) n c/\∀j u,xs[j]?=some u->w.cell? ⟨g,j,none⟩=some u:=by
 obtain⟨hl,⟨h1,_⟩|⟨g,cap,cur,rfl,hb,hg,H6,Gp,mi,hx⟩⟩:=h
 ·exact absurd h1 hn
 ·refine⟨g,cap,rfl,λj u hj=>?_⟩;have ll:j<xs.length:=(List.getElem?_eq_some_iff.1 hj).1;have h2:cur.toList[j]?=xs[j]?:=by rw[<-hx,List.getElem?_take,if_pos (by omega)]
  have:w.cell? ⟨g,j,none⟩=cur[j]?:=by simp[World.cell?,hg]
  rw[this,<-Array.getElem?_toList,h2,hj]
theorem uO(w:aj)(base:Nat)(hb:base<=w.heap.size):(w.alloc (.cells #[] ety)).ownsRow base ety k (.slice (some ⟨w.heap.size,0,none⟩) 0 0) 0 []:=
 ⟨by simp,.inr ⟨w.heap.size,0,#[],rfl,hb,World.alloc_heap_new w _,aM _,by unfold maxLen;omega,by simp,by simp⟩⟩
end
theorem VW:GI 43 3 1:=by
 obtain⟨i0,hi,ie,gU,iw⟩:=info_parts qe;exact⟨Tryz.underlying43,i0,_,_,hi,ie,gU,iw,rfl,by decide,by decide⟩
end
theorem QD(c n:Int)(hn:0<n):0<=pk c n/\pk c n<n:=⟨Int.emod_nonneg _ (by omega),Int.emod_lt_of_pos _ hn⟩
def FO(w:aj)(n:Int)(e:Ending)(w':aj):Prop:=(∃v:Int,e=.returned (vI v)/\0<=v/\v<n)/\w=w'
theorem cI(c n:Int)(w:aj)(hc:cL c)(hn:0<n) :
 aL prog 34 #[vI c,vI n] w (FO w n):=by
 obtain⟨h1,h2⟩:=hc;have EP:(n==0)=false:=by simp;omega
 have W_:=QD c n hn
 by_cases h:c<0
 ·have h0:0<=-(c+1):=by omega
  have hp:Hid (pk c n=(-(c+1)) % n):=by unfold pk;rw[if_pos h];rfl
  go_in;go_wp2;go_ret;refine⟨⟨pk c n,?_,W_⟩,rfl⟩;show Ending.returned (vI (-(Int.tmod (c+1) n)))=_;rw[hp.out,<-Int.neg_tmod,Int.tmod_eq_emod_of_nonneg h0]
 ·have h0:0<=c:=by omega
  have hp:Hid (pk c n=c % n):=by unfold pk;rw[if_neg h];rfl
  go_in;go_wp2;go_ret;exact⟨⟨pk c n,by rw[hp.out];rfl,W_⟩,rfl⟩
def FP(w:aj)(n:Int)(e:Ending)(w':aj):Prop:=(∃v:Int,e=.returned (vI v)/\0<=v/\v<n)/\w=w'
theorem KQ(c n:Int)(w:aj)(hc:cL c)(hn:0<n) :
 aL prog 6 #[vI c,vI n] w (FP w n):=by
 obtain⟨h1,h2⟩:=hc;have EP:(n==0)=false:=by simp;omega
 have W_:=QD c n hn
 by_cases h:c<0
 ·have h0:0<=-(c+1):=by omega
  have hp:Hid (pk c n=(-(c+1)) % n):=by unfold pk;rw[if_pos h];rfl
  go_in;go_wp2;go_ret;refine⟨⟨pk c n,?_,W_⟩,rfl⟩;show Ending.returned (vI (-(Int.tmod (c+1) n)))=_;rw[hp.out,<-Int.neg_tmod,Int.tmod_eq_emod_of_nonneg h0]
 ·have h0:0<=c:=by omega
  have hp:Hid (pk c n=c % n):=by unfold pk;rw[if_neg h];rfl
  go_in;go_wp2;go_ret;exact⟨⟨pk c n,by rw[hp.out];rfl,W_⟩,rfl⟩
structure Dd where
 k:Int
 a:Int
 b:Int
 i:Int
 n:Int
def eZ(d:Dd):List aC:=[vI d.k,vI d.a,vI d.b,vI d.i,vI d.n]
def e_(d:Dd):aC:=.agg #[vI d.k,vI d.a,vI d.b,vI d.i,vI d.n]
theorem sS(d:Dd):(eZ d).length=5:=rfl
abbrev dD:Dd:=⟨0,0,0,0,0⟩
def R6(x:Int):Prop:=0<=x/\x<=5
def R8(x:Int):Prop:=0<=x/\x<=7
def R5(x:Int):Prop:=0<=x/\x<=4
def RM(x:Int):Prop:=-1000000<=x/\x<=1000000
def Dd.Rt(d:Dd):Prop:=
 (d.k=1/\R6 d.a/\d.b=0/\R5 d.i/\R5 d.n)\/(d.k=2/\R6 d.a/\d.b=0/\R5 d.i/\R5 d.n) \/
 (d.k=3/\R6 d.a/\R6 d.b/\d.i=0/\d.n=0)\/(d.k=4/\R6 d.a/\R6 d.b/\R8 d.i/\d.n=0) \/
 (d.k=5/\R6 d.a/\R6 d.b/\R8 d.i/\d.n=0)\/(d.k=6/\R6 d.a/\d.b=0/\R8 d.i/\d.n=0) \/
 (d.k=7/\R6 d.a/\d.b=0/\R8 d.i/\RM d.n)\/(d.k=8/\R6 d.a/\d.b=0/\d.i=0/\d.n=0) \/
 (d.k=9/\R6 d.a/\R6 d.b/\d.i=0/\d.n=0)\/(d.k=10/\R6 d.a/\d.b=0/\d.i=0/\d.n=0) \/
 (d.k=11/\R6 d.a/\R6 d.b/\d.i=0/\d.n=0)\/(d.k=12/\R6 d.a/\R6 d.b/\d.i=0/\d.n=0) \/
 (d.k=13/\R6 d.a/\d.b=0/\d.i=0/\d.n=0)\/(d.k=14/\d.a=0/\d.b=0/\d.i=0/\d.n=0)
def Iw(w:aj)(e:Ending)(w':aj):Prop:=(∃d:Dd,e=.returned (e_ d)/\d.Rt)/\Calm w w'
structure Dd.Ok(d:Dd):Prop where
 k:cL d.k
 a:cL d.a
 b:cL d.b
 i:cL d.i
 n:cL d.n
theorem Ru(w:aj)(d:Dd)(h:d.Ok):aL prog 16 #[e_ d] w (Iw w):=by
 obtain⟨dk,da,db,di,dn⟩:=d;obtain⟨hk,ha,hb,hi,hn⟩:=h;simp only[] at hk ha hb hi hn;simp only[e_];go_in;go_wp2_with fail
 refine(cI dk 14 _ hk (by decide)).mono ?_;rintro e w1 ⟨⟨v,rfl,v1,v2⟩,rfl⟩;rcases(by omega:v=0\/v=1\/v=2\/v=3\/v=4\/v=5\/v=6\/v=7\/v=8\/v=9\/v=10\/v=11\/v=12\/v=13) with rfl|rfl|rfl|rfl|rfl|rfl|rfl|rfl|rfl|rfl|rfl|rfl|rfl|rfl
 ·go_wp2_with fail
  refine(cI da 6 _ ha (by decide)).mono ?_;rintro e w1 ⟨⟨xa,rfl,a1,a2⟩,rfl⟩;go_wp2_with fail
  refine(cI di 5 _ hi (by decide)).mono ?_;rintro e w1 ⟨⟨xi,rfl,i1,i2⟩,rfl⟩;go_wp2_with fail
  refine(cI dn 5 _ hn (by decide)).mono ?_;rintro e w1 ⟨⟨xn,rfl,n1,n2⟩,rfl⟩;go_wp2;refine bodyPost_ret (v:=e_ ⟨1,xa,0,xi,xn⟩) ?_ rfl ⟨⟨⟨1,xa,0,xi,xn⟩,rfl,?_⟩,((aq.alloc _).alloc _).alloc _⟩
  ·simp[results,Tryz.f16,go_sem,e_]
  ·simp[Dd.Rt,R6,R5,R8,RM] <;> omega
 ·go_wp2_with fail
  refine(cI da 6 _ ha (by decide)).mono ?_;rintro e w1 ⟨⟨xa,rfl,a1,a2⟩,rfl⟩;go_wp2_with fail
  refine(cI di 5 _ hi (by decide)).mono ?_;rintro e w1 ⟨⟨xi,rfl,i1,i2⟩,rfl⟩;go_wp2_with fail
  refine(cI dn 5 _ hn (by decide)).mono ?_;rintro e w1 ⟨⟨xn,rfl,n1,n2⟩,rfl⟩;go_wp2;refine bodyPost_ret (v:=e_ ⟨2,xa,0,xi,xn⟩) ?_ rfl ⟨⟨⟨2,xa,0,xi,xn⟩,rfl,?_⟩,((aq.alloc _).alloc _).alloc _⟩
  ·simp[results,Tryz.f16,go_sem,e_]
  ·simp[Dd.Rt,R6,R5,R8,RM] <;> omega
 ·go_wp2_with fail
  refine(cI da 6 _ ha (by decide)).mono ?_;rintro e w1 ⟨⟨xa,rfl,a1,a2⟩,rfl⟩;go_wp2_with fail
  refine(cI db 6 _ hb (by decide)).mono ?_;rintro e w1 ⟨⟨xb,rfl,b1,b2⟩,rfl⟩;go_wp2;refine bodyPost_ret (v:=e_ ⟨3,xa,xb,0,0⟩) ?_ rfl ⟨⟨⟨3,xa,xb,0,0⟩,rfl,?_⟩,((aq.alloc _).alloc _).alloc _⟩
  ·simp[results,Tryz.f16,go_sem,e_]
  ·simp[Dd.Rt,R6,R5,R8,RM] <;> omega
 ·go_wp2_with fail
  refine(cI da 6 _ ha (by decide)).mono ?_;rintro e w1 ⟨⟨xa,rfl,a1,a2⟩,rfl⟩;go_wp2_with fail
  refine(cI db 6 _ hb (by decide)).mono ?_;rintro e w1 ⟨⟨xb,rfl,b1,b2⟩,rfl⟩;go_wp2_with fail
  refine(cI di 8 _ hi (by decide)).mono ?_;rintro e w1 ⟨⟨xi,rfl,i1,i2⟩,rfl⟩;go_wp2;refine bodyPost_ret (v:=e_ ⟨4,xa,xb,xi,0⟩) ?_ rfl ⟨⟨⟨4,xa,xb,xi,0⟩,rfl,?_⟩,((aq.alloc _).alloc _).alloc _⟩
  ·simp[results,Tryz.f16,go_sem,e_]
  ·simp[Dd.Rt,R6,R5,R8,RM] <;> omega
 ·go_wp2_with fail
  refine(cI da 6 _ ha (by decide)).mono ?_;rintro e w1 ⟨⟨xa,rfl,a1,a2⟩,rfl⟩;go_wp2_with fail
  refine(cI db 6 _ hb (by decide)).mono ?_;rintro e w1 ⟨⟨xb,rfl,b1,b2⟩,rfl⟩;go_wp2_with fail
  refine(cI di 8 _ hi (by decide)).mono ?_;rintro e w1 ⟨⟨xi,rfl,i1,i2⟩,rfl⟩;go_wp2;refine bodyPost_ret (v:=e_ ⟨5,xa,xb,xi,0⟩) ?_ rfl ⟨⟨⟨5,xa,xb,xi,0⟩,rfl,?_⟩,((aq.alloc _).alloc _).alloc _⟩
  ·simp[results,Tryz.f16,go_sem,e_]
  ·simp[Dd.Rt,R6,R5,R8,RM] <;> omega
 ·go_wp2_with fail
  refine(cI da 6 _ ha (by decide)).mono ?_;rintro e w1 ⟨⟨xa,rfl,a1,a2⟩,rfl⟩;go_wp2_with fail
  refine(cI di 8 _ hi (by decide)).mono ?_;rintro e w1 ⟨⟨xi,rfl,i1,i2⟩,rfl⟩;go_wp2;refine bodyPost_ret (v:=e_ ⟨6,xa,0,xi,0⟩) ?_ rfl ⟨⟨⟨6,xa,0,xi,0⟩,rfl,?_⟩,((aq.alloc _).alloc _).alloc _⟩
  ·simp[results,Tryz.f16,go_sem,e_]
  ·simp[Dd.Rt,R6,R5,R8,RM] <;> omega
 ·go_wp2_with fail
  refine(cI da 6 _ ha (by decide)).mono ?_;rintro e w1 ⟨⟨xa,rfl,a1,a2⟩,rfl⟩;go_wp2_with fail
  refine(cI di 8 _ hi (by decide)).mono ?_;rintro e w1 ⟨⟨xi,rfl,i1,i2⟩,rfl⟩;go_wp2_with fail
  refine(cI dn 2000001 _ hn (by decide)).mono ?_;rintro e w1 ⟨⟨xn,rfl,n1,n2⟩,rfl⟩;go_wp2;refine bodyPost_ret (v:=e_ ⟨7,xa,0,xi,(xn-1000000)⟩) ?_ rfl ⟨⟨⟨7,xa,0,xi,(xn-1000000)⟩,rfl,?_⟩,((aq.alloc _).alloc _).alloc _⟩
  ·simp[results,Tryz.f16,go_sem,e_]
  ·simp[Dd.Rt,R6,R5,R8,RM] <;> omega
 ·go_wp2_with fail
  refine(cI da 6 _ ha (by decide)).mono ?_;rintro e w1 ⟨⟨xa,rfl,a1,a2⟩,rfl⟩;go_wp2;refine bodyPost_ret (v:=e_ ⟨8,xa,0,0,0⟩) ?_ rfl ⟨⟨⟨8,xa,0,0,0⟩,rfl,?_⟩,((aq.alloc _).alloc _).alloc _⟩
  ·simp[results,Tryz.f16,go_sem,e_]
  ·simp[Dd.Rt,R6,R5,R8,RM] <;> omega
 ·go_wp2_with fail
  refine(cI da 6 _ ha (by decide)).mono ?_;rintro e w1 ⟨⟨xa,rfl,a1,a2⟩,rfl⟩;go_wp2_with fail
  refine(cI db 6 _ hb (by decide)).mono ?_;rintro e w1 ⟨⟨xb,rfl,b1,b2⟩,rfl⟩;go_wp2;refine bodyPost_ret (v:=e_ ⟨9,xa,xb,0,0⟩) ?_ rfl ⟨⟨⟨9,xa,xb,0,0⟩,rfl,?_⟩,((aq.alloc _).alloc _).alloc _⟩
  ·simp[results,Tryz.f16,go_sem,e_]
  ·simp[Dd.Rt,R6,R5,R8,RM] <;> omega
 ·go_wp2_with fail
  refine(cI da 6 _ ha (by decide)).mono ?_;rintro e w1 ⟨⟨xa,rfl,a1,a2⟩,rfl⟩;go_wp2;refine bodyPost_ret (v:=e_ ⟨10,xa,0,0,0⟩) ?_ rfl ⟨⟨⟨10,xa,0,0,0⟩,rfl,?_⟩,((aq.alloc _).alloc _).alloc _⟩
  ·simp[results,Tryz.f16,go_sem,e_]
  ·simp[Dd.Rt,R6,R5,R8,RM] <;> omega
 ·go_wp2_with fail
  refine(cI da 6 _ ha (by decide)).mono ?_;rintro e w1 ⟨⟨xa,rfl,a1,a2⟩,rfl⟩;go_wp2_with fail
  refine(cI db 6 _ hb (by decide)).mono ?_;rintro e w1 ⟨⟨xb,rfl,b1,b2⟩,rfl⟩;go_wp2;refine bodyPost_ret (v:=e_ ⟨11,xa,xb,0,0⟩) ?_ rfl ⟨⟨⟨11,xa,xb,0,0⟩,rfl,?_⟩,((aq.alloc _).alloc _).alloc _⟩
  ·simp[results,Tryz.f16,go_sem,e_]
  ·simp[Dd.Rt,R6,R5,R8,RM] <;> omega
 ·go_wp2_with fail
  refine(cI da 6 _ ha (by decide)).mono ?_;rintro e w1 ⟨⟨xa,rfl,a1,a2⟩,rfl⟩;go_wp2_with fail
  refine(cI db 6 _ hb (by decide)).mono ?_;rintro e w1 ⟨⟨xb,rfl,b1,b2⟩,rfl⟩;go_wp2;refine bodyPost_ret (v:=e_ ⟨12,xa,xb,0,0⟩) ?_ rfl ⟨⟨⟨12,xa,xb,0,0⟩,rfl,?_⟩,((aq.alloc _).alloc _).alloc _⟩
  ·simp[results,Tryz.f16,go_sem,e_]
  ·simp[Dd.Rt,R6,R5,R8,RM] <;> omega
 ·go_wp2_with fail
  refine(cI da 6 _ ha (by decide)).mono ?_;rintro e w1 ⟨⟨xa,rfl,a1,a2⟩,rfl⟩;go_wp2;refine bodyPost_ret (v:=e_ ⟨13,xa,0,0,0⟩) ?_ rfl ⟨⟨⟨13,xa,0,0,0⟩,rfl,?_⟩,((aq.alloc _).alloc _).alloc _⟩
  ·simp[results,Tryz.f16,go_sem,e_]
  ·simp[Dd.Rt,R6,R5,R8,RM] <;> omega
 ·go_wp2;refine bodyPost_ret (v:=e_ ⟨14,0,0,0,0⟩) ?_ rfl ⟨⟨⟨14,0,0,0,0⟩,rfl,?_⟩,((aq.alloc _).alloc _).alloc _⟩
  ·simp[results,Tryz.f16,go_sem,e_]
  ·simp[Dd.Rt,R6,R5,R8,RM] <;> omega
def fo(T:Nat->Prop)(w:aj)(v:aC)(l:List Dd):Prop:=
 ∃a c,v=.slice a l.length c/\∀i,i<l.length->∃g o,a=some ⟨g,o,none⟩/\T g/\∀j u,(eZ (l.getD i dD))[j]?=some u->w.cell? ⟨g,o+i*5+j,none⟩=some u
def fJ(T:Nat->Prop)(w:aj)(v:aC)(P:List (List Dd)):Prop:=
 ∃a c,v=.slice a P.length c/\∀i,i<P.length->∃g o u,a=some ⟨g,o,none⟩/\T g/\w.cell? ⟨g,o+i,none⟩=some u/\fo T w u (P.getD i [])
def dJ(T:Nat->Prop)(w:aj)(v:aC)(Q:List (List (List Dd))):Prop:=
 ∃a c,v=.slice a Q.length c/\∀i,i<Q.length->∃g o u,a=some ⟨g,o,none⟩/\T g/\w.cell? ⟨g,o+i,none⟩=some u/\fJ T w u (Q.getD i [])
theorem fo.fr{T S:Nat->Prop}{w w':aj}{v:aC}{l:List Dd}(h:fo T w v l)(f:Fr S w w')(hs:∀b,T b->¬S b):fo T w' v l:=by
 obtain⟨a,c,hv,h⟩:=h;refine⟨a,c,hv,λi hi=>?_⟩;obtain⟨g,o,e,t,hc⟩:=h i hi;exact⟨g,o,e,t,λj u hu=>f.cellAt (hc j u hu) (hs g t)⟩
theorem fJ.fr{T S:Nat->Prop}{w w':aj}{v:aC}{l:List (List Dd)}(h:fJ T w v l)(f:Fr S w w')(hs:∀b,T b->¬S b):fJ T w' v l:=by
 obtain⟨a,c,hv,h⟩:=h;refine⟨a,c,hv,λi hi=>?_⟩;obtain⟨g,o,u,e,t,hc,hd⟩:=h i hi;exact⟨g,o,u,e,t,f.cellAt hc (hs g t),hd.fr f hs⟩
theorem dJ.fr{T S:Nat->Prop}{w w':aj}{v:aC}{l:List (List (List Dd))}(h:dJ T w v l)(f:Fr S w w')(hs:∀b,T b->¬S b):dJ T w' v l:=by
 obtain⟨a,c,hv,h⟩:=h;refine⟨a,c,hv,λi hi=>?_⟩;obtain⟨g,o,u,e,t,hc,hd⟩:=h i hi;exact⟨g,o,u,e,t,f.cellAt hc (hs g t),hd.fr f hs⟩
theorem fo.calm{T:Nat->Prop}{w w':aj}{v:aC}{l:List Dd}(h:fo T w v l)(f:Calm w w'):fo T w' v l:=h.fr f λ_ _=>id
theorem fJ.calm{T:Nat->Prop}{w w':aj}{v:aC}{l:List (List Dd)}(h:fJ T w v l)(f:Calm w w'):fJ T w' v l:=h.fr f λ_ _=>id
theorem dJ.calm{T:Nat->Prop}{w w':aj}{v:aC}{l:List (List (List Dd))}(h:dJ T w v l)(f:Calm w w'):dJ T w' v l:=h.fr f λ_ _=>id
theorem fo.mono{T T':Nat->Prop}{w:aj}{v:aC}{l:List Dd}(h:fo T w v l)(ht:∀b,b<w.heap.size->T b->T' b):fo T' w v l:=by
 obtain⟨a,c,hv,h⟩:=h;refine⟨a,c,hv,λi hi=>?_⟩;obtain⟨g,o,e,t,hc⟩:=h i hi;exact⟨g,o,e,ht g (lM w ⟨g,o+i*5+0,none⟩ (hc 0 _ rfl)) t,hc⟩
theorem fJ.mono{T T':Nat->Prop}{w:aj}{v:aC}{l:List (List Dd)}(h:fJ T w v l)(ht:∀b,b<w.heap.size->T b->T' b):fJ T' w v l:=by
 obtain⟨a,c,hv,h⟩:=h;refine⟨a,c,hv,λi hi=>?_⟩;obtain⟨g,o,u,e,t,hc,hd⟩:=h i hi;exact⟨g,o,u,e,ht g (lM w ⟨g,o+i,none⟩ hc) t,hc,hd.mono ht⟩
theorem dJ.mono{T T':Nat->Prop}{w:aj}{v:aC}{l:List (List (List Dd))}(h:dJ T w v l)(ht:∀b,b<w.heap.size->T b->T' b):dJ T' w v l:=by
 obtain⟨a,c,hv,h⟩:=h;refine⟨a,c,hv,λi hi=>?_⟩;obtain⟨g,o,u,e,t,hc,hd⟩:=h i hi;exact⟨g,o,u,e,ht g (lM w ⟨g,o+i,none⟩ hc) t,hc,hd.mono ht⟩
structure tL(Q:List (List (List Dd))):Prop where
 n:1<=Q.length/\Q.length<=4
 b:∀t,t<Q.length->(Q.getD t []).length<=3
 d:∀t,t<Q.length->∀b,b<(Q.getD t []).length->1<=((Q.getD t []).getD b []).length/\((Q.getD t []).getD b []).length<=6
 r:∀t,t<Q.length->∀b,b<(Q.getD t []).length->∀d∈(Q.getD t []).getD b [],d.Rt
section
theorem giD:GI 50 52 5:=by
 obtain⟨i0,hi,ie,gU,iw⟩:=info_parts (show(prog.info? 52).map (λi=>(i.zero,i.size,i.bytes))=some (some (.agg #[vI 0,vI 0,vI 0,vI 0,vI 0]),5,40) by kernel_rfl);exact⟨Tryz.underlying50,i0,_,_,hi,ie,gU,iw,rfl,by decide,by decide⟩
theorem giB:GI 38 50 1:=by
 obtain⟨i0,hi,ie,gU,iw⟩:=info_parts (show(prog.info? 50).map (λi=>(i.zero,i.size,i.bytes))=some (some (.slice none 0 0),1,24) by kernel_rfl);exact⟨Tryz.underlying38,i0,_,_,hi,ie,gU,iw,rfl,by decide,by decide⟩
theorem giQ:GI 22 38 1:=by
 obtain⟨i0,hi,ie,gU,iw⟩:=info_parts (show(prog.info? 38).map (λi=>(i.zero,i.size,i.bytes))=some (some (.slice none 0 0),1,24) by kernel_rfl);exact⟨Tryz.underlying22,i0,_,_,hi,ie,gU,iw,rfl,by decide,by decide⟩
structure wJ{α:Type}(In:(Nat->Prop)->aj->aC->α->Prop):Prop where
 fr:∀ {T S:Nat->Prop} {w w':aj} {v:aC} {l:α},In T w v l->Fr S w w'->(∀b,T b->¬S b)->In T w' v l
 mono:∀ {T T':Nat->Prop} {w:aj} {v:aC} {l:α},In T w v l->(∀b,b<w.heap.size->T b->T' b)->In T' w v l
theorem Oo:wJ fo:=⟨λh f s=>h.fr f s,λh m=>h.mono m⟩
theorem SN:wJ fJ:=⟨λh f s=>h.fr f s,λh m=>h.mono m⟩
def RIn{α:Type}(In:(Nat->Prop)->aj->aC->α->Prop)(d:α)(T:Nat->Prop)(w:aj)(v:aC)(P:List α):Prop:=
 ∃a c,v=.slice a P.length c/\∀i,i<P.length->∃g o u,a=some ⟨g,o,none⟩/\T g/\w.cell? ⟨g,o+i,none⟩=some u/\In T w u (P.getD i d)
def ir{α:Type}(In:(Nat->Prop)->aj->aC->α->Prop)(d:α)(ety:TypeId)(T:Nat->Prop)(w:aj)(u:aC)(P:List α):Prop:=
 ∃us:List aC,w.ownsRow 0 ety 1 u P.length us/\(∀b,aB u b->T b)/\∀i,i<P.length->In (λb=>T b/\¬aB u b) w (us.getD i .nilFunc) (P.getD i d)
section
variable {α:Type}{In:(Nat->Prop)->aj->aC->α->Prop}{d:α}{lL ety:TypeId}{T:Nat->Prop}{w w':aj}{u:aC}{P:List α}
theorem ir.nil(w:aj):ir In d ety T w (.slice none 0 0) []:=⟨[],⟨by simp,.inl ⟨rfl,rfl⟩⟩,λb h=>absurd h (aB.nil b),λi h=>absurd h (Nat.not_lt_zero i)⟩
theorem ir.fr(L:wJ In)(h:ir In d ety T w u P){S:Nat->Prop}(f:Fr S w w')(hs:∀b,T b->¬S b):ir In d ety T w' u P:=by
 obtain⟨us,h1,h2,h3⟩:=h;exact⟨us,az h1 f (λb hb=>hs b (h2 b hb)),h2,λi hi=>L.fr (h3 i hi) f (λb hb=>hs b hb.1)⟩
theorem ir.calm(L:wJ In)(h:ir In d ety T w u P)(c:Calm w w'):ir In d ety T w' u P:=h.fr L c λ_ _=>id
theorem ir.TD(L:wJ In)(h:ir In d ety T w u P):RIn In d T w u P:=by
 obtain⟨us,h1,h2,h3⟩:=h;obtain⟨a,c,hv⟩:=aG h1;refine⟨a,c,hv,λi hi=>?_⟩;obtain⟨g,c',Oi,hc⟩:=ke h1 (by decide) hi;rw[hv] at Oi;injection Oi with e1 e2 e3
 refine⟨g,0,us.getD i .nilFunc,e1,h2 g (by rw[hv,e1];exact aB.mk.2 rfl),?_,L.mono (h3 i hi) (λb _ hb=>hb.1)⟩;have:=(hc 0 (by decide)).1;simpa using this
theorem ir.slice(h:ir In d ety T w u P):∃a c,u=.slice a P.length c:=by
 obtain⟨us,h1,h2,h3⟩:=h;exact aG h1
theorem jA(G:GI lL ety 1)(L:wJ In){ops:Array Oper}{rest:List Oper}{o:Oper}{a:Act}{Q:Exit->Act->aj->Prop}(oJ:o.guard=none)(s x:Operand)
 (ho:o.op=.call { callee:=.builtin .append,args:=#[s,x],argTypes:=#[lL,lL] })
 (v:aC) (P:List α) (h:ir In d ety T w v P) (hs:a.eval s=v) (y:aC) (l:α) (nb c:Nat) (hx:a.eval x=.slice (some ⟨nb,0,none⟩) 1 c) (hc:w.cell? ⟨nb,0,none⟩=some y) (h1:y.oneCell'=true)
 (hy:In (λb=>T b/\¬aB v b) w y l) (hT:∀b,w.heap.size<=b->T b) (hl:P.length<=1000000)
 (k:∀g c w',ir In d ety T w' (.slice (some ⟨g,0,none⟩) (P.length+1) c) (P++[l])->Fr (aB v) w w'->wpList prog ops Q rest (a.put o.dst (.slice (some ⟨g,0,none⟩) (P.length+1) c)) w') :
 wpList prog ops Q (o::rest) a w:=by
 obtain⟨us,h2,h3,h4⟩:=h;refine gy G oJ s x ho v P.length us h2 hs [y] rfl (by simpa using h1) ⟨nb,0,none⟩ c hx (λj u hj=>?_) hl ?_
 ·match j,hj with
  | 0,hj=>
    rw[cT];simp only[fj];rw[hc];simpa using hj
 intro g c' w' ho' f hg;have hul:us.length=P.length:=by have:=uN h2;simpa using this
 have hT':∀b,b<w.heap.size->T b/\¬aB v b->T b/\¬aB (.slice (some ⟨g,0,none⟩) (P.length+1) c') b:=λb hb hh=>⟨hh.1,λe=>by
  obtain rfl:=aB.fg e;rcases hg with hg|hg
  ·exact hh.2 hg
  ·omega⟩
 refine k g c' w' ⟨us++[y],by rw[cX];exact ho',λb hb=>?_,λi hi=>?_⟩ f
 ·obtain rfl:=aB.fg hb;rcases hg with hg|hg
  ·exact h3 _ hg
  ·exact hT _ (by omega)
 ·rw[cX] at hi;have hi:i<P.length+1:=hi
  by_cases e:i<P.length
  ·have e1:(us++[y]).getD i .nilFunc=us.getD i .nilFunc:=by
    rw[aS,aS,List.getElem?_append_left (by omega)]
   have e2:(P++[l]).getD i d=P.getD i d:=by
    rw[aS,aS,List.getElem?_append_left e]
   rw[e1,e2];exact L.fr (L.mono (h4 i e) (λb hb hh=>(⟨hT' b hb hh,hh.2⟩:(T b/\¬aB (.slice (some ⟨g,0,none⟩) (P.length+1) c') b)/\¬aB v b))) f (λb hb=>hb.2) |> λq=>L.mono q (λb _ hh=>hh.1)
  ·have hie:i=P.length:=by omega
   have e1:(us++[y]).getD i .nilFunc=y:=by
    rw[aS,Cb (by omega)];simp[hie,hul]
   have e2:(P++[l]).getD i d=l:=by
    rw[aS,Cb (by omega)];simp[hie]
   rw[e1,e2];exact L.fr (L.mono hy (λb hb hh=>(⟨hT' b hb hh,hh.2⟩:(T b/\¬aB (.slice (some ⟨g,0,none⟩) (P.length+1) c') b)/\¬aB v b))) f (λb hb=>hb.2) |> λq=>L.mono q (λb _ hh=>hh.1)
end
def qC(T:Nat->Prop)(w:aj)(v:aC)(ds:List Dd):Prop:=w.ownsRow 0 52 5 v ds.length (ds.flatMap eZ)/\∀b,aB v b->T b
theorem qC.nil(T:Nat->Prop)(w:aj):qC T w (.slice none 0 0) []:=⟨⟨by simp,.inl ⟨rfl,rfl⟩⟩,λb h=>absurd h (aB.nil b)⟩
theorem qC.calm{T:Nat->Prop}{w w':aj}{v:aC}{ds:List Dd}(h:qC T w v ds)(c:Calm w w'):qC T w' v ds:=⟨az h.1 c (λ_ _=>id),h.2⟩
theorem qC.TD{T:Nat->Prop}{w:aj}{v:aC}{ds:List Dd}(h:qC T w v ds):fo T w v ds:=by
 obtain⟨a,c,hv⟩:=aG h.1;refine⟨a,c,hv,λi hi=>?_⟩;obtain⟨g,c',Oi,hg⟩:=bz sS (by decide) h.1 dD hi;rw[hv] at Oi;injection Oi with e1 e2 e3
 exact⟨g,0,e1,h.2 g (by rw[hv,e1];exact aB.mk.2 rfl),λj u hu=>by have:=(hg j u hu).1;simpa using this⟩
theorem qC.slice{T:Nat->Prop}{w:aj}{v:aC}{ds:List Dd}(h:qC T w v ds):∃a c,v=.slice a ds.length c:=aG h.1
theorem vH(w:aj)(ys:List aC)(t:TypeId):∀j u,ys[j]?=some u->(w.alloc (.cells ys.toArray t)).cell? ((⟨w.heap.size,0,none⟩:Addr).add j)=some u:=by
 intro j u hj;rw[show((⟨w.heap.size,0,none⟩:Addr).add j)=⟨w.heap.size,j,none⟩ by rw[cT];simp];rw[World.cell?_alloc_new];simpa using hj
theorem ir.lt{α:Type}{In:(Nat->Prop)->aj->aC->α->Prop}{d:α}{ety:TypeId}{T:Nat->Prop}{w:aj}{u:aC}{P:List α}(h:ir In d ety T w u P){b:Nat}(hb:aB u b):b<w.heap.size:=by
 obtain⟨us,h1,h2,h3⟩:=h;exact(World.ownsRow.lt h1 b hb).2
theorem ir.own{α:Type}{In:(Nat->Prop)->aj->aC->α->Prop}{d:α}{ety:TypeId}{T:Nat->Prop}{w:aj}{u:aC}{P:List α}(h:ir In d ety T w u P){b:Nat}(hb:aB u b):T b:=by
 obtain⟨us,h1,h2,h3⟩:=h;exact h2 b hb
end
