import Derived.Test.YtgijglafnlbdbaaGreatChecked
import Derived.Deep.Slices
import Derived.Deep.CutBlock
import Derived.Test.YtgijglafnlbdbaaGreatTmAD
set_option linter.all false
set_option maxHeartbeats 1000000
set_option maxRecDepth 8000
namespace Go.Proofs.YtgijglafnlbdbaaGreat
open RowKit Shelf Proofs.Tryz
open Go renaming World->aj,Value->aC,Calls->aL
section
open Go.ChangeShapes Go.WideShapes Go.ChangeAt Go.RowKit Go.Deep
section
variable {H:Type}{enc:TypeId × aC->H}{P:Program}{w:aj}{base:Nat}{held:Bool}
theorem tV{b off n:Nat} : (⟨b,off,none⟩:Addr).add n=⟨b,off+n,none⟩:=by
 unfold Addr.add;split <;> simp_all
theorem mG{t:TypeId}{fuel:Nat}{spare:Nat->Bool}{cs:List aC}{x:DataW H × List MemPlace}(ht:P.underlying t=some (.int .i64))(h:DataW.trod enc P w base spare held fuel t cs=some x):∃n,cs=[vI n]/\cL n:=by
 obtain⟨n,hn,_,hw⟩:=DataW.trod_int ht h;exact⟨n,hn,i64_of_wf hw⟩
end
end
def Laid(xs:aE):Nat->Nat->List (Nat × Ob)->Prop
 | b,e,[]=>b=e
 | b,e,(a,o)::l=>a=b/\At xs a o/\Laid xs (b+o.took) e l
theorem Laid.lie{xs:aE} : ∀ {l:List (Nat × Ob)} {b e:Nat},Laid xs b e l->FL xs b e l
 | [],_,_,h=>h
 | (_,_)::_,_,_,⟨h1,h2,h3⟩=>⟨h1,h2.ok,.inl h2,h3.lie⟩
theorem Laid.congr{xs ys:aE}(hl:ys.length=xs.length):∀ {l:List (Nat × Ob)} {b e:Nat},Laid xs b e l->(∀j,b<=j->j<e->ys.getD j 0=xs.getD j 0)->Laid ys b e l
 | [],_,_,h,_=>h
 | (a,o)::l,b,e,⟨h1,h2,h3⟩,hj=>by
   have:=h3.lie.le;obtain⟨_,q2,q3,_⟩:=Ob.ik h2.ok;refine⟨h1,h2.of_eq (by rw[hl];exact h2.room) (λi hi=>hj _ (by omega) (by omega)),Laid.congr hl h3 (λj k1 k2=>hj j (by omega) k2)⟩
theorem Laid.snoc{xs:aE}{o:Ob} : ∀ {l:List (Nat × Ob)} {b e:Nat},Laid xs b e l->At xs e o->Laid xs b (e+o.took) (l++[(e,o)])
 | [],b,e,h,ho=>by
   have h:b=e:=h;subst h;exact⟨rfl,ho,rfl⟩
 | (a,p)::l,b,e,⟨h1,h2,h3⟩,ho=>⟨h1,h2,h3.snoc ho⟩
theorem Laid.at{xs:aE} : ∀ {l:List (Nat × Ob)} {b e:Nat},Laid xs b e l->∀k,k<l.length->At xs (eH b l k) (l.getD k (0,Ob.new 0 0 false false 0)).2
 | (a,o)::l,b,e,⟨h1,h2,h3⟩,0,_=>h1 ▸ h2
 | (a,o)::l,b,e,⟨h1,h2,h3⟩,k+1,hk=>by
   rw[jR];exact Laid.at h3 k (by simpa using hk)
theorem sO(b:Nat)(ls:List (Nat × Ob)):∀i,b<=eH b ls i
 | 0=>aM _
 | i+1=>fH (sO b ls i) (Nat.le_add_right _ _)
theorem F_(b:Nat)(ls:List (Nat × Ob)){i j:Nat}(h:i<=j):eH b ls i<=eH b ls j:=by
 induction h with
 | refl=>exact aM _
 | step _ ih=>exact fH ih (Nat.le_add_right _ _)
abbrev oo:Nat × Ob × Option Nat:=(0,Ob.new 0 0 false false 0,none)
def jQ(X:aE):Nat->Nat->List (Nat × Ob × Option Nat)->Prop
 | b,e,[]=>b=e
 | b,e,(a,o,m)::l=>a=b/\o.Ok/\(match m with|none=>At X a o|some t=>CD X a t)/\jQ X (b+o.took) e l
theorem jQ.le{X:aE} : ∀ {l:List (Nat × Ob × Option Nat)} {b e:Nat},jQ X b e l->b+4*l.length<=e
 | [],b,e,h=>by have h:b=e:=h;simp;omega
 | (a,o,m)::l,b,e,⟨h1,h2,_,h3⟩=>by
   have:=jQ.le h3;obtain⟨_,_,q3,_⟩:=Ob.ik h2;simp only[List.length_cons];omega
theorem jQ.at{X:aE} : ∀ {l:List (Nat × Ob × Option Nat)} {b e:Nat},jQ X b e l->∀i,i<l.length ->
 b<=(l.getD i oo).1/\(l.getD i oo).1+(l.getD i oo).2.1.took<=e/\(l.getD i oo).2.1.Ok/\(match (l.getD i oo).2.2 with|none=>At X (l.getD i oo).1 (l.getD i oo).2.1|some t=>CD X (l.getD i oo).1 t)
 | (a,o,m)::l,b,e,⟨h1,h2,h3,h4⟩,0,_=>by
   have:=jQ.le h4;subst h1;exact⟨aM _,by show a+o.took<=e;omega,h2,h3⟩
 | (a,o,m)::l,b,e,⟨h1,h2,h3,h4⟩,i+1,hi=>by
   obtain⟨k1,k2,k3,k4⟩:=jQ.at h4 i (by simpa using hi);exact⟨by show b<=(l.getD i oo).1;omega,k2,k3,k4⟩
theorem jQ.apart{X:aE} : ∀ {l:List (Nat × Ob × Option Nat)} {b e:Nat},jQ X b e l->∀i j,i<j->j<l.length->(l.getD i oo).1+(l.getD i oo).2.1.took<=(l.getD j oo).1
 | (a,o,m)::l,b,e,⟨h1,h2,h3,h4⟩,0,j+1,_,hj=>by
   have:=(jQ.at h4 j (by simpa using hj)).1;subst h1;exact this
 | (a,o,m)::l,b,e,⟨h1,h2,h3,h4⟩,i+1,j+1,Uz,hj=>jQ.apart h4 i j (by omega) (by simpa using hj)
theorem CD.congr{X Y:aE}{a t:Nat}(h:CD X a t)(hl:Y.length=X.length)(he:Y.getD a 0=X.getD a 0):CD Y a t:=⟨by rw[hl];exact h.lt,h.pos,h.le,by rw[he];exact h.word⟩
theorem jQ.congr{X Y:aE}(hl:Y.length=X.length):∀ {l:List (Nat × Ob × Option Nat)} {b e:Nat},jQ X b e l->(∀j,b<=j->j<e->Y.getD j 0=X.getD j 0)->jQ Y b e l
 | [],_,_,h,_=>h
 | (a,o,m)::l,b,e,⟨h1,h2,h3,h4⟩,hj=>by
   have:=jQ.le h4;obtain⟨_,q2,q3,_⟩:=Ob.ik h2;subst h1;refine⟨rfl,h2,?_,jQ.congr hl h4 (λj k1 k2=>hj j (by omega) k2)⟩
   cases m with
   | none=>exact At.of_eq h3 (by rw[hl];exact h3.room) (λi hi=>hj _ (by omega) (by omega))
   | some t=>exact CD.congr h3 hl (hj _ (by omega) (by omega))
structure Iz(Rel:Ob->Ob->Prop)(X:aE)(bo eo:Nat)(cC:List (Nat × Ob × Option Nat))(bn en:Nat)(cur:List (Nat × Ob)):Prop where
 ol:jQ X bo eo cC
 cl:Laid X bn en cur
 gone:∀i,i<cC.length->∀t,(cC.getD i oo).2.2=some t->∃j,j<cur.length/\eH bn cur j=t/\Rel (cC.getD i oo).2.1 (cur.getD j (0,Ob.new 0 0 false false 0)).2
 inj:∀i j t,i<cC.length->j<cC.length->(cC.getD i oo).2.2=some t->(cC.getD j oo).2.2=some t->i=j
theorem qO{α:Type}(l:List α)(x d:α){i:Nat}(h:i<l.length):(l++[x]).getD i d=l.getD i d:=by simp[List.getD,List.getElem?_append,h]
theorem CT{α:Type}(l:List α)(x d:α):(l++[x]).getD l.length d=x:=by simp[List.getD]
theorem wN(b:Nat)(l:List (Nat × Ob))(x:Nat × Ob):∀ {i:Nat},i<=l.length->eH b (l++[x]) i=eH b l i
 | 0,_=>rfl
 | i+1,h=>by
   show eH b (l++[x]) i+_=eH b l i+_;rw[wN b l x (by omega),qO l x _ (by omega)]
def nj:List (Nat × Ob × Option Nat)->Nat
 | []=>0
 | (_,o,none)::l=>o.took+nj l
 | (_,_,some _)::l=>nj l
abbrev o0:Nat × Ob:=(0,Ob.new 0 0 false false 0)
theorem Laid.nT{X X':aE}{o':Ob}(hl:X'.length=X.length):∀ {ls:List (Nat × Ob)} {b e i:Nat},Laid X b e ls->i<ls.length->At X' (eH b ls i) o'->o'.took=(ls.getD i o0).2.took ->
 (∀j,j<eH b ls i\/eH b ls i+o'.took<=j->X'.getD j 0=X.getD j 0)->Laid X' b e (ls.set i (eH b ls i,o'))
 | (a,o)::ls,b,e,0,⟨h1,h2,h3⟩,_,ha,ht,hj=>by
   have ht:o'.took=o.took:=ht;show Laid X' b e ((b,o')::ls);refine⟨rfl,ha,?_⟩;rw[ht];exact Laid.congr hl h3 (λj k1 k2=>hj j (.inr (by show b+o'.took<=j;omega)))
 | (a,o)::ls,b,e,i+1,⟨h1,h2,h3⟩,hi,ha,ht,hj=>by
   rw[jR] at ha hj ⊢;have hb:b+o.took<=eH (b+o.took) ls i:=sO _ _ _;have hr:=h2.room;obtain⟨_,q2,_,_⟩:=Ob.ik h2.ok;refine⟨h1,h2.of_eq (by rw[hl];exact hr) (λk hk=>hj _ (.inl (by simp only at hb ⊢;omega))),?_⟩;exact Laid.nT hl h3 (by simpa using hi) ha ht hj
theorem nG{α:Type}(l:List α){i:Nat}(x d:α)(h:i<l.length):(l.set i x).getD i d=x:=by simp[List.getD,h]
theorem getD_set_ne{α:Type}(l:List α){i j:Nat}(x d:α)(h:i≠j):(l.set i x).getD j d=l.getD j d:=by simp[List.getD,List.getElem?_set_ne h]
def iH(o o':Ob):Prop:=o'.p=o.p/\o'.d=o.d/\o'.wk=o.wk/\o'.fn=o.fn/\o'.ser=o.ser
theorem iH.trans{a b c:Ob}(h:iH a b)(k:iH b c):iH a c:=⟨k.1.trans h.1,k.2.1.trans h.2.1,k.2.2.1.trans h.2.2.1,k.2.2.2.1.trans h.2.2.2.1,k.2.2.2.2.trans h.2.2.2.2⟩
theorem iH.took{a b:Ob}(h:iH a b):b.took=a.took:=by unfold Ob.took Ob.size;rw[h.1,h.2.1]
structure HS where
 n:Nat
 u:Bool
 mv:Bool
 cur:List (Nat × Ob)
 cC:List (Nat × Ob × Option Nat)
 scan:Nat
 ser:Nat
 gh:aE
 fin:aE
def HS.base(s:HS)(b:Bool):Nat:=bif b then 1+s.n else 1
def dC:List (Nat × Ob)->Nat | []=>0|(_,o)::l=>o.took+dC l
def LO:List (Nat × Ob × Option Nat)->Nat | []=>0|(_,o,_)::l=>o.took+LO l
def HS.top(s:HS):Nat:=s.base s.u+dC s.cur
def HS.zu(s:HS):Nat:=s.base (!s.u)+LO s.cC
def HS.room(s:HS):Int:=(s.n:Int)-dC s.cur-nj s.cC
abbrev tF(l:List (Nat × Ob × Option Nat)):aE:=l.map (·.1)
theorem ph(l:List (Nat × Ob))(x:Nat × Ob):dC (l++[x])=dC l+x.2.took:=by
 induction l with
 | nil=>show x.2.took+0=0+x.2.took;omega
 | cons y l ih=>show y.2.took+dC (l++[x])=y.2.took+dC l+x.2.took;omega
structure dF(s:HS)(X:aE):Prop where
 n1:16<=s.n
 n2:s.n<=16384
 len:X.length=2*s.n+1
 zero:X.getD 0 0=0
 half:Iz iH X (s.base (!s.u)) s.zu s.cC (s.base s.u) s.top s.cur
 uL:LO s.cC<=s.n
 room:dC s.cur+nj s.cC<=s.n
 still:s.mv=false->s.cC=[]
 ser:s.ser<=1099511627776
 YT:s.gh.length<=100000/\s.fin.length<=100000
theorem dF.at_{s:HS}{X:aE}(h:dF s X){i:Nat}(hi:i<s.cur.length):At X (s.cur.getD i (0,Ob.new 0 0 false false 0)).1 (s.cur.getD i (0,Ob.new 0 0 false false 0)).2:=by
 have h1:=h.half.cl.at i hi;rw[<-(FL.at h.half.cl.lie i hi).1] at h1;exact h1
theorem pS(s:HS):(s.u=true->s.base s.u=1+s.n/\s.base (!s.u)=1)/\(s.u=false->s.base s.u=1/\s.base (!s.u)=1+s.n):=by
 constructor <;> intro h <;> rw[h] <;> exact⟨rfl,rfl⟩
theorem dF.sep{s:HS}{X:aE}(h:dF s X):(s.base s.u+s.n<=s.base (!s.u)\/s.base (!s.u)+s.n<=s.base s.u)/\s.base s.u+s.n<=X.length/\s.base (!s.u)+s.n<=X.length/\1<=s.base s.u/\1<=s.base (!s.u):=by
 have h1:=pS s;have h2:=h.len;cases hu:s.u
 ·obtain⟨e1,e2⟩:=h1.2 hu;rw[hu] at e1 e2;rw[e1,e2];omega
 ·obtain⟨e1,e2⟩:=h1.1 hu;rw[hu] at e1 e2;rw[e1,e2];omega
theorem dF.mE{s:HS}{X:aE}(h:dF s X):s.top+nj s.cC<=s.base s.u+s.n/\s.zu<=s.base (!s.u)+s.n:=by
 have h1:=h.room;have h2:=h.uL;unfold HS.top HS.zu;omega
def HS.nT(s:HS)(i:Nat)(o:Ob):HS:={ s with cur:=s.cur.set i ((s.cur.getD i (0,Ob.new 0 0 false false 0)).1,o) }
theorem ry:∀ (l:List (Nat × Ob)) (i:Nat) (x:Nat × Ob),i<l.length->x.2.took=(l.getD i (0,Ob.new 0 0 false false 0)).2.took->dC (l.set i x)=dC l
 | y::l,0,x,_,h=>by
   have h:x.2.took=y.2.took:=h;show x.2.took+dC l=y.2.took+dC l;omega
 | y::l,i+1,x,hi,h=>by
   have:=ry l i x (by simpa using hi) h;show y.2.took+dC (l.set i x)=y.2.took+dC l;omega
theorem Iz.nT{X X':aE}{bo eo bn en:Nat}{cC:List (Nat × Ob × Option Nat)}{cur:List (Nat × Ob)}(h:Iz iH X bo eo cC bn en cur)(fD:eo<=bn\/en<=bo){i:Nat}(hi:i<cur.length){o':Ob}(hl:X'.length=X.length)
 (ha:At X' (eH bn cur i) o') (hs:iH (cur.getD i (0,Ob.new 0 0 false false 0)).2 o') (hj:∀j,j<eH bn cur i\/eH bn cur i+o'.took<=j->X'.getD j 0=X.getD j 0) :
 Iz iH X' bo eo cC bn en (cur.set i (eH bn cur i,o')):=by
 have hb:=sO bn cur i;obtain⟨_,h8,_,h9⟩:=FL.at h.cl.lie i hi;have h9:eH bn cur i+(cur.getD i (0,Ob.new 0 0 false false 0)).2.took<=en:=h9;have ht:=hs.took;refine⟨jQ.congr hl h.ol (λj j1 j2=>hj j (by omega)),Laid.nT hl h.cl hi ha ht hj,λk hk t yS=>?_,h.inj⟩;obtain⟨q,q1,q2,q3⟩:=h.gone k hk t yS;refine⟨q,by simpa using q1,?_,?_⟩
 ·rw[<-q2]
  have:∀m,m<=cur.length->eH bn (cur.set i (eH bn cur i,o')) m=eH bn cur m:=by
   intro m
   induction m with
   | zero=>intro _;rfl
   | succ m ih=>
     intro hm;show eH bn (cur.set i (eH bn cur i,o')) m+_=eH bn cur m+_;rw[ih (by omega)]
     by_cases e:m=i
     ·subst e;rw[nG _ _ _ hi];show _+o'.took=_;rw[ht]
     ·rw[getD_set_ne _ _ _ (Ne.symm e)]
  exact this q (by omega)
 ·by_cases e:q=i
  ·subst e;rw[nG _ _ _ hi];exact q3.trans hs
  ·rw[getD_set_ne _ _ _ (Ne.symm e)];exact q3
abbrev qz:Nat × Ob:=(0,Ob.new 0 0 false false 0)
theorem dF.apart{s:HS}{X:aE}(h:dF s X):s.zu<=s.base s.u\/s.base s.u+s.n<=s.base (!s.u):=by
 have h1:=h.sep;have h2:=h.mE;omega
theorem dF.place{s:HS}{X:aE}(h:dF s X){i:Nat}(hi:i<s.cur.length):(s.cur.getD i qz).1=eH (s.base s.u) s.cur i/\s.base s.u<=(s.cur.getD i qz).1/\(s.cur.getD i qz).1+(s.cur.getD i qz).2.took<=s.top:=by
 obtain⟨h1,_,_,h2⟩:=FL.at h.half.cl.lie i hi;exact⟨h1,by rw[h1];exact sO _ _ _,by rw[h1];exact h2⟩
theorem dF.nT{s:HS}{X X':aE}(h:dF s X){i:Nat}(hi:i<s.cur.length){o':Ob}(hl:X'.length=X.length)(ha:At X' (s.cur.getD i qz).1 o')(hs:iH (s.cur.getD i qz).2 o')
 (hj:∀j,j<(s.cur.getD i qz).1\/(s.cur.getD i qz).1+(s.cur.getD i qz).2.size<=j->X'.getD j 0=X.getD j 0):dF (s.nT i o') X':=by
 obtain⟨hp,hb,ht⟩:=h.place hi;have aaR:=h.sep;have vT:=h.mE;have df:=(h.at_ hi).ok;have e1:dC (s.cur.set i ((s.cur.getD i qz).1,o'))=dC s.cur:=ry _ _ _ hi hs.took;obtain⟨_,q2,_,_⟩:=Ob.ik df;have nL:=hs.took;refine⟨h.n1,h.n2,by rw[hl];exact h.len,by rw[hj 0 (by omega)];exact h.zero,?_,h.uL,?_,h.still,h.ser,h.YT⟩
 ·have e2:(s.nT i o').top=s.top:=by unfold HS.top;show s.base s.u+dC (s.cur.set i ((s.cur.getD i qz).1,o'))=_;rw[e1]
  rw[e2];have q3:(s.cur.getD i qz).2.size<=o'.took:=by rw[nL];exact q2
  have De:∀j,j<eH (s.base s.u) s.cur i\/eH (s.base s.u) s.cur i+o'.took<=j->X'.getD j 0=X.getD j 0:=λj k=>hj j (by
   rw[hp];omega)
  have:=Iz.nT h.half (by have:=h.apart;omega) hi hl (by rw[<-hp];exact ha) hs De;rw[<-hp] at this;exact this
 ·show dC (s.cur.set i ((s.cur.getD i qz).1,o'))+_<=_;rw[e1];exact h.room
def HS.alloc(s:HS)(p d:Nat)(wk fn:Bool):HS:=
 { s with cur:=s.cur++[(s.top,Ob.new p d wk fn (s.ser+1))],ser:=s.ser+1,gh:=bif wk then s.gh++[s.top] else s.gh,fin:=bif fn then s.fin++[s.top] else s.fin }
theorem dF.alloc{s:HS}{X:aE}(h:dF s X){p d:Nat}{wk fn:Bool}(df:sK p d wk fn)(hr:qp ((3+p+d:Nat):Int)<=s.room)(hs:s.ser<1099511627776)(hf:s.gh.length<100000/\s.fin.length<100000) :
 dF (s.alloc p d wk fn) (made X s.top p d wk fn (s.ser+1))/\s.top+(3+p+d)<=X.length:=by
 have hO:(Ob.new p d wk fn (s.ser+1)).Ok:=Ob.DB df (by omega);obtain⟨q1,q2,q3,q4⟩:=Ob.ik hO;have nL:(Ob.new p d wk fn (s.ser+1)).size=3+p+d:=rfl;rw[nL] at q1 q2;have aaR:=h.sep;have vT:=h.mE;have fD:=h.apart;have Bf:=h.room;have hor:=h.uL;unfold HS.room at hr;have Dw:s.top+(Ob.new p d wk fn (s.ser+1)).took+nj s.cC<=s.base s.u+s.n:=by unfold HS.top;omega
 have hb:s.base s.u<=s.top:=by unfold HS.top;omega
 have hX:s.top+(3+p+d)<=X.length:=by omega
 have hg:=xt (wk:=wk) (fn:=fn) (ser:=s.ser+1) hX;have hA:=Oy (xs:=X) df (by omega:s.ser+1<=1099511627776) hX;have hlen:=rS X s.top p d wk fn (s.ser+1)
 have Sq:∀j,j<s.top\/s.top+(3+p+d)<=j->(made X s.top p d wk fn (s.ser+1)).getD j 0=X.getD j 0:=λj hj=>by
  rw[hg,if_neg (by omega),if_neg (by omega),if_neg (by omega)]
 have e2:(s.alloc p d wk fn).top=s.top+(Ob.new p d wk fn (s.ser+1)).took:=by
  show s.base s.u+dC (s.cur++[(s.top,Ob.new p d wk fn (s.ser+1))])=_;rw[ph];show s.base s.u+(dC s.cur+(Ob.new p d wk fn (s.ser+1)).took)=s.base s.u+dC s.cur+(Ob.new p d wk fn (s.ser+1)).took;omega
 refine⟨⟨h.n1,h.n2,by rw[hlen];exact h.len,by rw[Sq 0 (by omega)];exact h.zero,⟨?_,?_,λi hi t ht=>?_,h.half.inj⟩,h.uL,?_,h.still,by show s.ser+1<=_;omega,?_⟩,hX⟩
 ·refine jQ.congr hlen h.half.ol (λj j1 j2=>Sq j ?_);have j1':s.base (!s.u)<=j:=j1;have j2':j<s.zu:=j2;omega
 ·rw[e2];exact Laid.snoc (Laid.congr hlen h.half.cl (λj j1 j2=>Sq j (.inl j2))) hA
 ·obtain⟨j,k5,k6,k7⟩:=h.half.gone i hi t ht;exact⟨j,by show j<(s.cur++[_]).length;simp;omega,by show eH _ (s.cur++[_]) j=t;rw[wN _ _ _ (by omega)];exact k6,by show iH _ ((s.cur++[_]).getD j _).2;rw[qO _ _ _ k5];exact k7⟩
 ·show dC (s.cur++[_])+nj s.cC<=s.n;rw[ph];show dC s.cur+(Ob.new p d wk fn (s.ser+1)).took+nj s.cC<=s.n;omega
 ·show(bif wk then s.gh++[s.top] else s.gh).length<=_/\(bif fn then s.fin++[s.top] else s.fin).length<=_;cases wk <;> cases fn <;> simp <;> omega
theorem yZ{α:Type}{l:List α}{x:α}(d:α)(h:x∈l):∃i,i<l.length/\l.getD i d=x:=by
 obtain⟨i,hi,e⟩:=List.getElem_of_mem h;exact⟨i,hi,by simp[List.getD,hi,e]⟩
theorem get_mem{α:Type}{l:List α}{i:Nat}(d:α)(h:i<l.length):l.getD i d∈l:=by simp[List.getD,h]
theorem dF.IX{s:HS}{X:aE}(h:dF s X){x:Nat × Ob}(hx:x∈s.cur):x.2.Ok/\s.base s.u<=x.1/\x.1+x.2.took<=s.top/\At X x.1 x.2:=by
 obtain⟨i,hi,rfl⟩:=yZ qz hx;obtain⟨_,h1,h2⟩:=h.place hi;exact⟨(h.at_ hi).ok,h1,h2,h.at_ hi⟩
section
structure HB where
 hp:Nat
 ap:Nat
 ac:Nat
 v0:aC
 v1:aC
 vw:aC
 vf:aC
def HB.vs(B:HB):List aC:=[B.v0,B.v1,B.vw,B.vf]
def l0(s:HS):aE:=bif s.u then tF s.cC else gV s.cur
def l1(s:HS):aE:=bif s.u then gV s.cur else tF s.cC
def bI(B:HB)(s:HS):List aC:=
 [gP B.ap,vI 1,vI s.n,vI ((bif s.u then s.zu else s.top:Nat):Int),vI (1+s.n),vI s.n,vI ((bif s.u then s.top else s.zu:Nat):Int),B.v0,B.v1,
  vI (bif s.u then 1 else 0),.bool s.mv,vI (nj s.cC:Nat),vI s.scan,vI s.ser,B.vw,B.vf]
def lX(B:HB)(k:Nat):Prop:=k=B.hp\/k=B.ap\/k=B.ac\/∃v∈B.vs,aB v k
structure dB(w:aj)(B:HB)(s:HS)(X:aE):Prop where
 cs:ag w B.hp (bI B s)
 ar:Ar w B.ap B.ac X
 r0:bm w 0 B.v0 (nI (l0 s))
 r1:bm w 0 B.v1 (nI (l1 s))
 rw:bm w 0 B.vw (nI s.gh)
 rf:bm w 0 B.vf (nI s.fin)
 rep:dF s X
 fD:B.hp≠B.ap
 iD:B.hp≠B.ac
 apart:B.vs.Pairwise U9
 none_:∀v∈B.vs,¬aB v B.hp/\¬aB v B.ap/\¬aB v B.ac
abbrev jq(B:HB):aC:=aR B.hp
theorem dB.fr{S:Nat->Prop}{w w':aj}{B:HB}{s:HS}{X:aE}(h:dB w B s X)(f:Fr S w w')(hs:∀k,lX B k->¬S k):dB w' B s X:=by
 have hv:∀v∈B.vs,∀k,aB v k->¬S k:=λv hv k hk=>hs k (.inr (.inr (.inr ⟨v,hv,hk⟩)));exact⟨h.cs.fr f (hs _ (.inl rfl)),h.ar.fr f (hs _ (.inr (.inl rfl))) (hs _ (.inr (.inr (.inl rfl)))),h.r0.iI f (hv _ (by simp[HB.vs])),h.r1.iI f (hv _ (by simp[HB.vs])),h.rw.iI f (hv _ (by simp[HB.vs])),h.rf.iI f (hv _ (by simp[HB.vs])),h.rep,h.fD,h.iD,h.apart,h.none_⟩
theorem dB.calm{w w':aj}{B:HB}{s:HS}{X:aE}(h:dB w B s X)(f:Calm w w'):dB w' B s X:=h.fr f (λ_ _=>id)
theorem dB.lt{w:aj}{B:HB}{s:HS}{X:aE}(h:dB w B s X):∀k,lX B k->k<w.heap.size:=by
 have hc:B.ac<w.heap.size:=by obtain⟨_,⟨t,ht⟩,_⟩:=h.ar;exact(wh.1 ht).1
 rintro k (rfl|rfl|rfl|⟨v,hv,hk⟩)
 ·exact h.cs.lt (by simp[bI])
 ·exact h.ar.lt
 ·exact hc
 ·simp[HB.vs] at hv;rcases hv with rfl|rfl|rfl|rfl
  ·exact(h.r0.lt hk).2
  ·exact(h.r1.lt hk).2
  ·exact(h.rw.lt hk).2
  ·exact(h.rf.lt hk).2
structure dO(w:aj)(B:HB)(w':aj)(B':HB):Prop where
 fr:Fr (lX B) w w'
 new:∀k,lX B' k->lX B k\/w.heap.size<=k
 hp:B'.hp=B.hp
theorem dO.calm{w w':aj}(B:HB)(c:Calm w w'):dO w B w' B:=⟨c.any,λ_ h=>.inl h,rfl⟩
theorem dO.trans{w w' w'':aj}{B B' B'':HB}(h:dO w B w' B')(k:dO w' B' w'' B''):dO w B w'' B'':=
 ⟨h.fr.join k.fr (λj hj hb=>(h.new j hb).resolve_right (by omega)),λj hj=>by
  rcases k.new j hj with h1|h1
  ·exact h.new j h1
  ·right;have:=h.fr.size;omega,k.hp.trans h.hp⟩
theorem dB.words{w w':aj}{B:HB}{s s':HS}{X X':aE}(h:dB w B s X)(ar:Ar w' B.ap B.ac X')(f:Fr (λk=>k=B.ac) w w')(rep:dF s' X')(hc:bI B s'=bI B s)(e0:l0 s'=l0 s)(e1:l1 s'=l1 s)(ew:s'.gh=s.gh)(ef:s'.fin=s.fin) :
 dB w' B s' X'/\dO w B w' B:=by
 have hn:∀v∈B.vs,∀k,aB v k->¬k=B.ac:=λv hv k hk e=>(h.none_ v hv).2.2 (e ▸ hk);refine⟨⟨by rw[hc];exact h.cs.fr f h.iD,ar,by rw[e0];exact h.r0.iI f (hn _ (by simp[HB.vs])),by rw[e1];exact h.r1.iI f (hn _ (by simp[HB.vs])),by rw[ew];exact h.rw.iI f (hn _ (by simp[HB.vs])),by rw[ef];exact h.rf.iI f (hn _ (by simp[HB.vs])),rep,h.fD,h.iD,h.apart,h.none_⟩,f.mono (λk _ e=>.inr (.inr (.inl e))),λ_ h=>.inl h,rfl⟩
theorem Fk(s:HS)(i:Nat)(o:Ob):gV (s.nT i o).cur=gV s.cur:=by
 show gV (s.cur.set i _)=gV s.cur;simp only[gV,List.map_set];apply List.ext_getElem (by simp);intro j h1 h2;rw[List.getElem_set];split
 ·rename_i e;subst e;have:i<s.cur.length:=by simpa using h2
  simp[List.getD,this]
 ·rfl
theorem Hn(B:HB)(s:HS){i:Nat}{o:Ob}(hi:i<s.cur.length)(h:iH (s.cur.getD i qz).2 o):bI B (s.nT i o)=bI B s/\l0 (s.nT i o)=l0 s/\l1 (s.nT i o)=l1 s:=by
 have e1:dC (s.nT i o).cur=dC s.cur:=ry _ _ _ hi h.took;have e2:(s.nT i o).top=s.top:=by unfold HS.top;rw[e1];rfl
 refine⟨?_,?_,?_⟩
 ·unfold bI;rw[e2];rfl
 ·unfold l0;rw[Fk];rfl
 ·unfold l1;rw[Fk];rfl
def QY(l:List Int):Prop:=∀i j,i<j->j<l.length->l.getD i 0<l.getD j 0
theorem BW{s:HS}{X:aE}(h:dF s X):QY (nI (gV s.cur)):=by
 intro i j Uz hj;have iJ:j<s.cur.length:=by simpa using hj
 have EM:i<s.cur.length:=by omega
 obtain⟨p1,_,p2⟩:=h.place EM;obtain⟨r1,_,_⟩:=h.place iJ;obtain⟨_,k8,_,_⟩:=FL.at h.half.cl.lie i EM;obtain⟨_,_,k9,_⟩:=Ob.ik k8;have e1:(nI (gV s.cur)).getD i 0=((s.cur.getD i qz).1:Nat):=by simp[List.getD,EM]
 have e2:(nI (gV s.cur)).getD j 0=((s.cur.getD j qz).1:Nat):=by simp[List.getD,iJ]
 have:=F_ (s.base s.u) s.cur (show i+1<=j from Uz);have h3:eH (s.base s.u) s.cur (i+1)=eH (s.base s.u) s.cur i+(s.cur.getD i (0,Ob.new 0 0 false false 0)).2.took:=rfl;rw[e1,e2,p1,r1];omega
theorem Lf{s:HS}{X:aE}(h:dF s X):QY (nI (tF s.cC)):=by
 intro i j Uz hj;have iJ:j<s.cC.length:=by simpa using hj
 have EM:i<s.cC.length:=by omega
 have:=h.half.ol.apart i j Uz iJ;obtain⟨_,_,k8,_⟩:=h.half.ol.at i EM;obtain⟨_,_,k9,_⟩:=Ob.ik k8;have e1:(nI (tF s.cC)).getD i 0=((s.cC.getD i oo).1:Nat):=by simp[List.getD,EM]
 have e2:(nI (tF s.cC)).getD j 0=((s.cC.getD j oo).1:Nat):=by simp[List.getD,iJ]
 rw[e1,e2];omega
end
section
theorem MW(x:Int)(w:aj):aL prog 240 #[vI x] w λe w'=>e=.returned (.bool false)/\w=w':=by
 have hb:(x==x)=true:=by simp
 have vt:(x != x)=false:=by simp
 go_in;go_wp2;go_ret;exact⟨rfl,rfl⟩
theorem O_(x:Int)(w:aj):aL prog 204 #[vI x] w λe w'=>e=.returned (.bool false)/\w=w':=by
 have hb:(x==x)=true:=by simp
 have vt:(x != x)=false:=by simp
 go_in;go_wp2;go_ret;exact⟨rfl,rfl⟩
theorem Fa(x y:Int)(w:aj):aL prog 203 #[vI x,vI y] w λe w'=>e=.returned (.bool (decide (x<y)))/\w=w':=by
 go_in;go_wp2_with fail
 refine(MW x _).mono ?_;rintro e w' ⟨rfl,rfl⟩;go_wp2;go_ret;exact⟨rfl,rfl⟩
def Gb(l:List Int)(a:Int):Nat:=(l.filter (λx=>decide (x<a))).length
def MG(w:aj)(l:List Int)(a:Int)(e:Ending)(w':aj):Prop:=e=.returned (.tuple #[vI (Gb l a:Nat),.bool (decide (a∈l))])/\Calm w w'
set_option maxRecDepth 100000 in
theorem IK{w:aj}{v:aC}{l:List Int}(hr:Row w v (lu l))(hs:QY l)(hn:l.length<=1000000)(a:Int)(ha:cL a) :
 aL prog 159 #[v,vI a] w (MG w l a):=by
 obtain⟨ra,rc,rfl,hl⟩:=hr.loop;obtain⟨n,yN⟩:=au l.length;rw[yN] at hn ⊢;replace hl:=af hl;replace hs:=af hs;replace yN:=af yN;have h0:Hid (∀k,k<0->l.getD k 0<a):=λk hk=>by omega
 have h1:Hid (∀k,n<=k->k<n->a<=l.getD k 0):=λk kN gI=>by omega
 clear hr;go_in;go_wp2;go_loopw [7,8] (λi j wr=>∃i0 j0:Nat,i0<=j0/\j0<=n/\i=vI i0/\j=vI j0/\Hid (∀k,k<i0->l.getD k 0<a)/\Hid (∀k,j0<=k->k<n->a<=l.getD k 0)/\Calm w wr) (λi j _=>(intOf j).toNat-(intOf i).toNat)
 case atStart=>exact⟨0,n,cK _,aM _,rfl,rfl,h0,h1,aq⟩
 case round=>
  clear h0 h1;obtain⟨i,j,Uz,hj,rfl,rfl,h0,h1,hc⟩:=hrel;rcases oZ i j with aZ|jL
  ·obtain⟨m,hm⟩:∃m:Nat,((i:Int)+(j:Int)) / 2=(m:Int):=⟨(i+j) / 2,by omega⟩;have m1:i<=m:=by omega
   have m2:m<j:=by omega
   have m3:m<n:=by omega
   obtain⟨rb,TE,rfl,jl,hcell⟩:=hl.out m (by rw[yN.out];exact m3);replace hcell:=hc.cellAt (p:=⟨rb,TE+m,none⟩) hcell id;obtain⟨x,hx⟩:=au (l.getD m 0);rw[hx] at hcell;replace hx:=af hx
   by_cases SK:x<a
   ·have hd:decide (x<a)=true:=by simpa using SK
    go_wp2_with (go_at_call 203;refine(Fa x a _).mono ?_;rintro e w' ⟨rfl,rfl⟩)
    go_roundw
    case rel=>
     refine⟨m+1,j,by omega,hj,by go_num,rfl,λk hk=>?_,h1,hc⟩
     by_cases e:k=m
     ·subst e;rw[hx.out];exact SK
     ·have:=hs.out k m (by omega) (by rw[yN.out];exact m3);rw[hx.out] at this;omega
    case measure=>simp[intOf];omega
   ·have hd:decide (x<a)=false:=by simpa using SK
    go_wp2_with (go_at_call 203;refine(Fa x a _).mono ?_;rintro e w' ⟨rfl,rfl⟩)
    go_roundw
    case rel=>
     refine⟨i,m,m1,by omega,rfl,rfl,h0,λk kN gI=>?_,hc⟩
     by_cases e:k=m
     ·subst e;rw[hx.out];omega
     ·have:=hs.out m k (by omega) (by rw[yN.out];exact gI);rw[hx.out] at this;omega
    case measure=>simp[intOf];omega
  ·obtain rfl:i=j:=by omega
   have hix:Hid (Gb l a=i):=by
    show Gb l a=i;unfold Gb;have e1:l=l.take i++l.drop i:=(List.take_append_drop i l).symm;rw[e1,List.filter_append,cX]
    have f1:(l.take i).filter (λx=>decide (x<a))=l.take i:=by
     rw[List.filter_eq_self];intro x hx;obtain⟨k,hk,rfl⟩:=List.getElem_of_mem hx;have gI:k<i:=by simp at hk;omega
     have:=h0.out k gI;simp at hk;simpa[List.getD,show k<l.length by omega] using this
    have f2:(l.drop i).filter (λx=>decide (x<a))=[]:=by
     rw[List.filter_eq_nil_iff];intro x hx;obtain⟨k,hk,rfl⟩:=List.getElem_of_mem hx;simp at hk;have:=h1.out (i+k) (by omega) (by rw[<-yN.out];omega);simp[List.getD,show i+k<l.length by omega] at this;simpa using this
    rw[f1,f2];simp;rw[yN.out];omega
   clear Uz;rcases oZ i n with aZ|NN
   ·obtain⟨rb,TE,rfl,jl,hcell⟩:=hl.out i (by rw[yN.out];exact aZ);replace hcell:=hc.cellAt (p:=⟨rb,TE+i,none⟩) hcell id;obtain⟨x,hx⟩:=au (l.getD i 0);rw[hx] at hcell;have sG:x∈l:=by rw[<-hx];have:=yN.out;simp[List.getD,show i<l.length by omega]
    by_cases SK:x=a
    ·subst SK;have hd:Hid (decide (x∈l)=true):=decide_eq_true sG;have hb:(x==x)=true:=by simp
     clear hx sG;go_wp2
     go_ret2
     exact⟨by rw[hd.out,hix.out];rfl,hc⟩
    ·have hd:Hid (decide (a∈l)=false):=by
      show _=false;rw[decide_eq_false_iff_not];intro hm;obtain⟨k,hk,e⟩:=List.getElem_of_mem hm;have e2:l.getD k 0=a:=by simp[List.getD,hk,e]
      rcases Nat.lt_trichotomy k i with td|rfl|td
      ·have:=h0.out k td;omega
      ·exact SK (hx.symm.trans e2)
      ·have:=hs.out i k td hk;have:=h1.out i (aM _) aZ;omega
     have hb:(x==a)=false:=by simpa using SK
     clear hx sG;go_wp2_with (go_at_call 204;refine(O_ x _).mono ?_;rintro e w' ⟨rfl,rfl⟩)
     go_ret2
     exact⟨by rw[hd.out,hix.out];rfl,hc⟩
   ·have hd:Hid (decide (a∈l)=false):=by
     show _=false;rw[decide_eq_false_iff_not];intro hm;obtain⟨k,hk,e⟩:=List.getElem_of_mem hm;have e2:l.getD k 0=a:=by simp[List.getD,hk,e]
     have:=h0.out k (by have:=yN.out;omega);omega
    go_wp2
    go_ret2
    exact⟨by rw[hd.out,hix.out];rfl,hc⟩
end
section
theorem dB.own{w:aj}{B:HB}{s:HS}{X:aE}(h:dB w B s X){i:Nat}{v:aC}(hv:(bI B s)[i]?=some v):Own w B.hp i v:=h.cs i v hv
theorem dB.uD{w:aj}{B:HB}{s:HS}{X:aE}(h:dB w B s X):B.hp<w.heap.size:=h.lt _ (.inl rfl)
theorem dB.rd{w:aj}{B:HB}{s:HS}{X:aE}(h:dB w B s X)(i:Nat)(v:aC)(hv:(bI B s)[i]?=some v):∀x:bS w,x.w.cell? ⟨B.hp,i,none⟩=some v:=λx=>x.cell (h.own hv).1
theorem dB.aa8{w:aj}{B:HB}{s:HS}{X:aE}(h:dB w B s X):bm w 0 (bif s.u then B.v1 else B.v0) (nI (gV s.cur)):=by
 have h0:=h.r0;have h1:=h.r1;cases hu:s.u
 ·simpa[l0,hu] using h0
 ·simpa[l1,hu] using h1
theorem dB.aba{w:aj}{B:HB}{s:HS}{X:aE}(h:dB w B s X):bm w 0 (bif s.u then B.v0 else B.v1) (nI (tF s.cC)):=by
 have h0:=h.r0;have h1:=h.r1;cases hu:s.u
 ·simpa[l1,hu] using h1
 ·simpa[l0,hu] using h0
theorem dF.sT{s:HS}{X:aE}(h:dF s X):s.cur.length<=4096/\s.cC.length<=4096:=by
 have h1:=h.half.cl.lie.le;have h2:=h.half.ol.le;have h3:=h.mE;have h4:=h.n2;omega
theorem tE{s:HS}{X:aE}(h:dF s X):OS (s.base s.u:Nat) s.n (s.top:Nat):=by
 have h1:=h.mE;have h2:=h.n2;have h3:=h.sep;have h4:=h.len;refine⟨by omega,by omega,by omega,by omega,?_,by omega⟩;unfold HS.top;omega
theorem GR{w:aj}{B:HB}{s:HS}{X:aE}(h:dB w B s X) :
 aL prog 210 #[jq B] w λe w'=>e=.returned (.bool s.mv)/\w=w':=by
 have y:=(h.own (i:=10) (v:=.bool s.mv) rfl).1;clear h;go_in;go_wp2;go_ret;exact⟨rfl,rfl⟩
theorem zx{w:aj}{B:HB}{s:HS}{X:aE}(h:dB w B s X) :
 aL prog 222 #[jq B] w λe w'=>e=.returned (vI s.room)/\Calm w w':=by
 have jF:=h.rep.room;have hr2:=h.rep.n2;have df:=tE h.rep
 have Bf:Hid (((s.n:Int)-((s.top:Nat)-(s.base s.u:Nat)))-(nj s.cC:Nat)=s.room):=by
  show _=s.room;unfold HS.room HS.top;push_cast;omega
 have hof:(nj s.cC:Int)<=16384:=by omega
 have vT:=h.rep.mE;have yo:=h.rd 11 (vI (nj s.cC:Nat)) rfl;have yD:=pS s;have fL:IntKind.i64.wrap (((s.n:Int)-((s.top:Nat)-(s.base s.u:Nat)))-(nj s.cC:Nat))=((s.n:Int)-((s.top:Nat)-(s.base s.u:Nat)))-(nj s.cC:Nat):=IntWalk.i64_in _ (by rw[Bf.out];unfold HS.room;omega);cases hu:s.u
 ·have y9:=h.rd 9 (vI 0) (by simp[bI,hu]);have y1:=h.rd 1 (vI 1) (by simp[bI,hu]);have y2:=h.rd 2 (vI s.n) (by simp[bI,hu]);have y3:=h.rd 3 (vI s.top) (by simp[bI,hu]);have eb:((s.base s.u:Nat):Int)=1:=by rw[(yD.2 hu).1];rfl
  rw[eb] at df Bf fL;have hle:=af (λW=>uB _ _ _ W df);clear h yD vT df eb hu;go_in;go_wp2;refine bP (by kernel_rfl) (by kernel_rfl) ?_
  repeat (go_big_quiet_step ((go_at_call 247;exact Calls.fR (hle.out _))))
  refine wpQuiet_nil ?_;intro w2 hw';have c2:=bS.out hw';clear hw' y9 y1 y2 y3 yo fL;go_wp2;go_ret;exact⟨congrArg (λz=>Ending.returned (vI z)) Bf.out,c2⟩
 ·have y9:=h.rd 9 (vI 1) (by simp[bI,hu]);have y1:=h.rd 4 (vI (1+s.n)) (by simp[bI,hu]);have y2:=h.rd 5 (vI s.n) (by simp[bI,hu]);have y3:=h.rd 6 (vI s.top) (by simp[bI,hu]);have eb:((s.base s.u:Nat):Int)=1+s.n:=by rw[(yD.1 hu).1];push_cast;rfl
  rw[eb] at df Bf fL;have hle:=af (λW=>uB _ _ _ W df);clear h yD vT df eb hu;go_in;go_wp2;refine bP (by kernel_rfl) (by kernel_rfl) ?_
  repeat (go_big_quiet_step ((go_at_call 247;exact Calls.fR (hle.out _))))
  refine wpQuiet_nil ?_;intro w2 hw';have c2:=bS.out hw';clear hw' y9 y1 y2 y3 yo fL;go_wp2;go_ret;exact⟨congrArg (λz=>Ending.returned (vI z)) Bf.out,c2⟩
theorem EK{w:aj}{B:HB}{s:HS}{X:aE}(h:dB w B s X)(a:Int)(ha:cL a) :
 aL prog 88 #[jq B,vI a] w λe w'=>e=.returned (.bool (decide (a∈nI (gV s.cur))))/\Calm w w':=by
 have dR:=h.aa8;have uy:=BW h.rep;have mZ:=h.rep.sT;obtain⟨D,hD⟩:=au (decide (a∈nI (gV s.cur)));obtain⟨bi,sw⟩:=au (Gb (nI (gV s.cur)) a)
 have hb:Hid (∀x:bS w,aL prog 159 #[bif s.u then B.v1 else B.v0,vI a] x.w λe w'=>e=.returned (.tuple #[vI (bi:Nat),.bool D])/\Calm x.w w'):=λx=>by
  rw[<-hD,<-sw];exact IK (dR.calm x.calm).row uy (by simp;omega) a ha
 rw[hD];clear hD sw;have tj:=h.rd 7 B.v0 rfl;have yT:=h.rd 8 B.v1 rfl;cases hu:s.u
 ·have y9:=h.rd 9 (vI 0) (by simp[bI,hu]);rw[hu] at hb;simp only[cond_false] at hb;clear h dR uy hu;go_in;go_wp2;refine bP (by kernel_rfl) (by kernel_rfl) ?_
  repeat (go_big_quiet_step ((go_at_call 159;exact Calls.fR (hb.out _))))
  refine wpQuiet_nil ?_;intro w2 hw';have c2:=bS.out hw';clear hw' y9 tj yT;go_wp2;go_ret;exact⟨rfl,c2⟩
 ·have y9:=h.rd 9 (vI 1) (by simp[bI,hu]);rw[hu] at hb;simp only[cond_true] at hb;clear h dR uy hu;go_in;go_wp2;refine bP (by kernel_rfl) (by kernel_rfl) ?_
  repeat (go_big_quiet_step ((go_at_call 159;exact Calls.fR (hb.out _))))
  refine wpQuiet_nil ?_;intro w2 hw';have c2:=bS.out hw';clear hw' y9 tj yT;go_wp2;go_ret;exact⟨rfl,c2⟩
theorem LM{w:aj}{B:HB}{s:HS}{X:aE}(h:dB w B s X)(a:Int)(ha:cL a) :
 aL prog 190 #[jq B,vI a] w λe w'=>e=.returned (.bool (decide (a∈nI (tF s.cC))))/\Calm w w':=by
 have Qg:=af (GR h);cases hm:s.mv
 ·have ho:=h.rep.still hm;have hd:Hid (decide (a∈nI (tF s.cC))=false):=by show _=false;rw[ho];simp
  rw[hm] at Qg;clear h ho hm;go_in;go_wp2_with fail
  refine(Qg.out).mono ?_;rintro e w' ⟨rfl,rfl⟩;go_wp2;go_ret;exact⟨by rw[hd.out];rfl,aq⟩
 ·have dR:=h.aba;have uy:=Lf h.rep;have mZ:=h.rep.sT;obtain⟨D,hD⟩:=au (decide (a∈nI (tF s.cC)));obtain⟨bi,sw⟩:=au (Gb (nI (tF s.cC)) a)
  have hb:Hid (∀x:bS w,aL prog 159 #[bif s.u then B.v0 else B.v1,vI a] x.w λe w'=>e=.returned (.tuple #[vI (bi:Nat),.bool D])/\Calm x.w w'):=λx=>by
   rw[<-hD,<-sw];exact IK (dR.calm x.calm).row uy (by simp;omega) a ha
  rw[hD];clear hD sw;have tj:=h.rd 7 B.v0 rfl;have yT:=h.rd 8 B.v1 rfl;rw[hm] at Qg;cases hu:s.u
  ·have y9:=h.rd 9 (vI 0) (by simp[bI,hu]);rw[hu] at hb;simp only[cond_false] at hb;clear h dR uy hu hm;go_in;go_wp2_with fail
   refine(Qg.out).mono ?_;rintro e w' ⟨rfl,rfl⟩;go_wp2_with fail
   refine bP (by kernel_rfl) (by kernel_rfl) ?_
   repeat (go_big_quiet_step ((go_at_call 159;exact Calls.fR (hb.out _))))
   refine wpQuiet_nil ?_;intro w2 hw';have c2:=bS.out hw';clear hw' y9 tj yT;go_wp2;go_ret;exact⟨rfl,c2⟩
  ·have y9:=h.rd 9 (vI 1) (by simp[bI,hu]);rw[hu] at hb;simp only[cond_true] at hb;clear h dR uy hu hm;go_in;go_wp2_with fail
   refine(Qg.out).mono ?_;rintro e w' ⟨rfl,rfl⟩;go_wp2_with fail
   refine bP (by kernel_rfl) (by kernel_rfl) ?_
   repeat (go_big_quiet_step ((go_at_call 159;exact Calls.fR (hb.out _))))
   refine wpQuiet_nil ?_;intro w2 hw';have c2:=bS.out hw';clear hw' y9 tj yT;go_wp2;go_ret;exact⟨rfl,c2⟩
end
section
structure dz(s:HS)(i a:Nat)(o:Ob):Prop where
 lt:i<s.cur.length
 get:s.cur.getD i qz=(a,o)
theorem dz.mem{s:HS}{i a:Nat}{o:Ob}(c:dz s i a o):a∈gV s.cur:=by
 have h1:s.cur[i]'c.lt=(a,o):=by have:=c.get;simpa[List.getD,c.lt] using this
 exact List.mem_map.2 ⟨(a,o),h1 ▸ List.getElem_mem _,rfl⟩
theorem dz.at_{s:HS}{X:aE}(h:dF s X){i a:Nat}{o:Ob}(c:dz s i a o):At X a o:=by
 have:=h.at_ c.lt;have e:s.cur.getD i (0,Ob.new 0 0 false false 0)=(a,o):=c.get;rw[e] at this;exact this
theorem dz.zm{s:HS}{a:Nat}(h:a∈gV s.cur):∃i o,dz s i a o:=by
 obtain⟨x,hx,rfl⟩:=List.mem_map.1 h;obtain⟨i,hi,e⟩:=List.getElem_of_mem hx;exact⟨i,x.2,hi,by simp[List.getD,hi,e]⟩
theorem y_{a:Nat}{l:aE} : ((a:Nat):Int)∈nI l↔a∈l:=by
 constructor
 ·intro h;obtain⟨x,hx,e⟩:=List.mem_map.1 h;have:x=a:=by omega
  exact this ▸ hx
 ·intro h;exact List.mem_map.2 ⟨a,h,rfl⟩
theorem dY{w:aj}{B:HB}{s:HS}{X:aE}(h:dB w B s X){a:Nat}(hm:a∈gV s.cur)(hb:a<=131072) :
 aL prog 88 #[jq B,vI a] w λe w'=>e=.returned (.bool true)/\Calm w w':=by
 refine(EK h a ⟨by omega,by omega⟩).mono (λe w' ⟨h1,h2⟩=>⟨?_,h2⟩);rw[h1,decide_eq_true (y_.2 hm)]
theorem gG{w:aj}{B:HB}{s:HS}{X:aE}(h:dB w B s X){a:Int}(ha:cL a)(hm:a∉nI (gV s.cur)) :
 aL prog 88 #[jq B,vI a] w λe w'=>e=.returned (.bool false)/\Calm w w':=by
 refine(EK h a ha).mono (λe w' ⟨h1,h2⟩=>⟨?_,h2⟩);rw[h1,decide_eq_false hm]
theorem dz.le{s:HS}{X:aE}(h:dF s X){i a:Nat}{o:Ob}(c:dz s i a o):a<=131072:=by
 have h1:=(c.at_ h).lt;have h2:=h.len;have h3:=h.n2;omega
theorem dB.dN{w w':aj}{B:HB}{s:HS}{X X':aE}(h:dB w B s X){i a:Nat}{o o':Ob}(c:dz s i a o)(ar:Ar w' B.ap B.ac X')(f:Fr (λk=>k=B.ac) w w')(hl:X'.length=X.length)(ha:At X' a o')(hs:iH o o')
 (hj:∀j,j<a\/a+o.size<=j->X'.getD j 0=X.getD j 0):dB w' B (s.nT i o') X'/\dO w B w' B:=by
 have hr:=h.rep.nT c.lt (o':=o') hl (by rw[c.get];exact ha) (by rw[c.get];exact hs) (by rw[c.get];exact hj);obtain⟨e1,e2,e3⟩:=Hn B s c.lt (o:=o') (by rw[c.get];exact hs);exact h.words ar f hr e1 e2 e3 rfl rfl
def Ob.oU(o:Ob)(bp:Bool)(k v:Int):Ob:=bif bp then { o with ns:=o.ns.set k.toNat (zg v) } else o
def Ob.np(o:Ob)(bp:Bool)(k:Int)(v:Nat):Ob:=bif bp then { o with ps:=o.ps.set k.toNat v } else o
theorem Ob.G6(o:Ob)(bp:Bool)(k v:Int):iH o (o.oU bp k v):=by cases bp <;> exact⟨rfl,rfl,rfl,rfl,rfl⟩
theorem Ob.xJ(o:Ob)(bp:Bool)(k:Int)(v:Nat):iH o (o.np bp k v):=by cases bp <;> exact⟨rfl,rfl,rfl,rfl,rfl⟩
section
variable {w:aj}{B:HB}{s:HS}{X:aE}
theorem Dp(h:dB w B s X){a:Int}(ha:cL a)(hm:a∉nI (gV s.cur)) :
 aL prog 61 #[jq B,vI a] w λe w'=>e=.returned (.tuple #[vI 0,vI 70])/\Calm w w':=by
 have hh:=af (gG h ha hm);clear h hm;go_in;go_wp2_with fail
 refine(hh.out).mono ?_;rintro e w1 ⟨rfl,c1⟩;go_wp2
 go_ret2
 exact⟨rfl,c1⟩
theorem N4(h:dB w B s X){a:Int}(ha:cL a)(hm:a∉nI (gV s.cur))(k:Int) :
 aL prog 143 #[jq B,vI a,vI k] w λe w'=>e=.returned (.tuple #[vI 0,vI 70])/\Calm w w':=by
 have hh:=af (gG h ha hm);clear h hm;go_in;go_wp2_with fail
 refine(hh.out).mono ?_;rintro e w1 ⟨rfl,c1⟩;go_wp2
 go_ret2
 exact⟨rfl,c1⟩
theorem Dr(h:dB w B s X){a:Int}(ha:cL a)(hm:a∉nI (gV s.cur))(k v:Int) :
 aL prog 145 #[jq B,vI a,vI k,vI v] w λe w'=>e=.returned (vI 70)/\Calm w w':=by
 have hh:=af (gG h ha hm);clear h hm;go_in;go_wp2_with fail
 refine(hh.out).mono ?_;rintro e w1 ⟨rfl,c1⟩;go_wp2;go_ret;exact⟨rfl,c1⟩
theorem yQ(h:dB w B s X){a:Int}(ha:cL a)(hm:a∉nI (gV s.cur))(v:Bool) :
 aL prog 149 #[jq B,vI a,.bool v] w λe w'=>e=.returned (vI 70)/\Calm w w':=by
 have hh:=af (gG h ha hm);clear h hm;go_in;go_wp2_with fail
 refine(hh.out).mono ?_;rintro e w1 ⟨rfl,c1⟩;go_wp2;go_ret;exact⟨rfl,c1⟩
theorem vS(h:dB w B s X){a:Int}(ha:cL a)(hm:a∉nI (gV s.cur))(v:Nat) :
 aL prog 182 #[jq B,vI a,wV v] w λe w'=>e=.returned (vI 70)/\Calm w w':=by
 have hh:=af (gG h ha hm);clear h hm;go_in;go_wp2_with fail
 refine(hh.out).mono ?_;rintro e w1 ⟨rfl,c1⟩;go_wp2;go_ret;exact⟨rfl,c1⟩
theorem N7(h:dB w B s X){a:Int}(ha:cL a)(hm:a∉nI (gV s.cur))(k:Int) :
 aL prog 135 #[jq B,vI a,vI k] w λe w'=>e=.returned (.tuple #[vI 0,vI 70])/\Calm w w':=by
 have hh:=af (gG h ha hm);clear h hm;go_in;go_wp2_with fail
 refine(hh.out).mono ?_;rintro e w1 ⟨rfl,c1⟩;go_wp2
 go_ret2
 exact⟨rfl,c1⟩
theorem Dt(h:dB w B s X){a:Int}(ha:cL a)(hm:a∉nI (gV s.cur))(k v:Int) :
 aL prog 133 #[jq B,vI a,vI k,vI v] w λe w'=>e=.returned (vI 70)/\Calm w w':=by
 have hh:=af (gG h ha hm);clear h hm;go_in;go_wp2_with fail
 refine(hh.out).mono ?_;rintro e w1 ⟨rfl,c1⟩;go_wp2;go_ret;exact⟨rfl,c1⟩
theorem Bl(h:dB w B s X){i a:Nat}{o:Ob}(c:dz s i a o) :
 aL prog 61 #[jq B,vI a] w λe w'=>e=.returned (.tuple #[vI o.ser,vI 0])/\Calm w w':=by
 have hh:=af (dY h c.mem (c.le h.rep));have y0:=(h.own (i:=0) (v:=gP B.ap) rfl).1;have ha:=af (c.at_ h.rep);have H:=af h;clear h;go_in;go_wp2_with fail
 refine(hh.out).mono ?_;rintro e w1 ⟨rfl,c1⟩;replace y0:=c1.cellAt y0 id;replace H:=af (H.out.calm c1);go_wp2_with fail
 refine(FY H.out.ar ha.out).mono ?_;rintro e w2 ⟨rfl,c2⟩;go_wp2
 go_ret2
 exact⟨rfl,c1.trans c2⟩
theorem N3(h:dB w B s X){i a:Nat}{o:Ob}(c:dz s i a o){bp:Bool}{k:Int}(hk:Has bp k o.d) :
 aL prog 143 #[jq B,vI a,vI k] w λe w'=>e=.returned (.tuple #[vI (bif bp then zt (o.ns.getD k.toNat 0) else 0),vI (bif bp then 0 else 71)])/\Calm w w':=by
 replace hk:=af hk;have hh:=af (dY h c.mem (c.le h.rep));have y0:=(h.own (i:=0) (v:=gP B.ap) rfl).1;have ha:=af (c.at_ h.rep);have H:=af h;clear h;go_in;go_wp2_with fail
 refine(hh.out).mono ?_;rintro e w1 ⟨rfl,c1⟩;replace y0:=c1.cellAt y0 id;replace H:=af (H.out.calm c1);go_wp2_with fail
 refine(FU H.out.ar ha.out hk.out).mono ?_;rintro e w2 ⟨rfl,c2⟩;go_wp2
 go_ret2
 exact⟨rfl,c1.trans c2⟩
theorem Dq(h:dB w B s X){i a:Nat}{o:Ob}(c:dz s i a o){bp:Bool}{k v:Int}(hk:Has bp k o.d)(hv:cL v) :
 aL prog 145 #[jq B,vI a,vI k,vI v] w λe w'=>e=.returned (vI (bif bp then 0 else 71))/\∃X',dB w' B (s.nT i (o.oU bp k v)) X'/\dO w B w' B:=by
 replace hk:=af hk;replace hv:=af hv;have hh:=af (dY h c.mem (c.le h.rep));have y0:=(h.own (i:=0) (v:=gP B.ap) rfl).1;have ha:=af (c.at_ h.rep);have H:=af h;clear h;go_in;go_wp2_with fail
 refine(hh.out).mono ?_;rintro e w1 ⟨rfl,c1⟩;replace y0:=c1.cellAt y0 id;replace H:=af (H.out.calm c1);go_wp2_with fail
 refine(yc H.out.ar ha.out hk.out hv.out).mono ?_;rintro e w2 ⟨rfl,MT,f2⟩;have ht:=af (H.out.dN c MT f2 (o':=o.oU bp k v) (by cases bp <;> simp) (Has.CG ha.out hk.out hv.out) (o.G6 bp k v) (λj hj=>by have hk:=hk.out;simp only[Ob.size] at hj;rcases hk with ⟨rfl,h1,h2⟩|⟨rfl,h1⟩ <;> simp only[cond_true,cond_false];rw[eT,if_neg (by omega)]));have ic:=dO.calm B c1;go_wp2;go_ret;exact⟨rfl,_,ht.out.1,ic.trans ht.out.2⟩
theorem vR(h:dB w B s X){i a:Nat}{o:Ob}(c:dz s i a o)(AA:Bool) :
 aL prog 149 #[jq B,vI a,.bool AA] w λe w'=>e=.returned (vI 0)/\∃X',dB w' B (s.nT i ({ o with fr:=AA })) X'/\dO w B w' B:=by
 have hh:=af (dY h c.mem (c.le h.rep));have y0:=(h.own (i:=0) (v:=gP B.ap) rfl).1;have ha:=af (c.at_ h.rep);have H:=af h;clear h;go_in;go_wp2_with fail
 refine(hh.out).mono ?_;rintro e w1 ⟨rfl,c1⟩;replace y0:=c1.cellAt y0 id;replace H:=af (H.out.calm c1);go_wp2_with fail
 refine(Ak H.out.ar ha.out AA).mono ?_;rintro e w2 ⟨rfl,MT,f2⟩;have ht:=af (H.out.dN c MT f2 (o':={ o with fr:=AA }) (by simp) (ha.out.O9 AA) (⟨rfl,rfl,rfl,rfl,rfl⟩) (λj hj=>by simp only[Ob.size] at hj;rw[eT,if_neg (by omega)]));have ic:=dO.calm B c1;go_wp2;go_ret;exact⟨rfl,_,ht.out.1,ic.trans ht.out.2⟩
theorem uz(h:dB w B s X){i a:Nat}{o:Ob}(c:dz s i a o)(v:Nat) :
 aL prog 182 #[jq B,vI a,wV v] w λe w'=>e=.returned (vI 0)/\∃X',dB w' B (s.nT i ({ o with snd:=v })) X'/\dO w B w' B:=by
 have hh:=af (dY h c.mem (c.le h.rep));have y0:=(h.own (i:=0) (v:=gP B.ap) rfl).1;have ha:=af (c.at_ h.rep);have H:=af h;clear h;go_in;go_wp2_with fail
 refine(hh.out).mono ?_;rintro e w1 ⟨rfl,c1⟩;replace y0:=c1.cellAt y0 id;replace H:=af (H.out.calm c1);go_wp2_with fail
 refine(yf H.out.ar ha.out v).mono ?_;rintro e w2 ⟨rfl,MT,f2⟩;have ht:=af (H.out.dN c MT f2 (o':={ o with snd:=v }) (by simp) (ha.out.TJ v) (⟨rfl,rfl,rfl,rfl,rfl⟩) (λj hj=>by simp only[Ob.size] at hj;rw[eT,if_neg (by omega)]));have ic:=dO.calm B c1;go_wp2;go_ret;exact⟨rfl,_,ht.out.1,ic.trans ht.out.2⟩
end
end
