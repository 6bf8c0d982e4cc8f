import Derived.Test.YtgijglafnlbdbaaGreatTmAC
set_option linter.all false
set_option maxHeartbeats 1000000
set_option maxRecDepth 8000
namespace Go.Proofs.YtgijglafnlbdbaaGreat
open RowKit Shelf Proofs.Tryz
open Go renaming World->ag,Value->aA,Calls->aJ
def dV(o o':Ob):Prop:=o'.p=o.p/\o'.d=o.d/\o'.wk=o.wk/\o'.fn=o.fn/\o'.ser=o.ser
theorem dV.refl(o:Ob):dV o o:=⟨rfl,rfl,rfl,rfl,rfl⟩
theorem dV.trans{a b c:Ob}(h:dV a b)(k:dV b c):dV a c:=⟨k.1.trans h.1,k.2.1.trans h.2.1,k.2.2.1.trans h.2.2.1,k.2.2.2.1.trans h.2.2.2.1,k.2.2.2.2.trans h.2.2.2.2⟩
theorem dV.took{a b:Ob}(h:dV a b):b.took=a.took:=by unfold Ob.took Ob.size;rw[h.1,h.2.1]
structure HS where
 n:Nat
 u:Bool
 mv:Bool
 cur:List (Nat × Ob)
 aV:List (Nat × Ob × Option Nat)
 scan:Nat
 ser:Nat
 bI:aj
 fin:aj
def HS.base(s:HS)(b:Bool):Nat:=bif b then 1+s.n else 1
def bZ:List (Nat × Ob)->Nat | []=>0|(_,o)::l=>o.took+bZ l
def jA:List (Nat × Ob × Option Nat)->Nat | []=>0|(_,o,_)::l=>o.took+jA l
def HS.top(s:HS):Nat:=s.base s.u+bZ s.cur
def HS.hZ(s:HS):Nat:=s.base (!s.u)+jA s.aV
def HS.room(s:HS):Int:=(s.n:Int)-bZ s.cur-eQ s.aV
abbrev jL(l:List (Nat × Ob × Option Nat)):aj:=l.map (·.1)
theorem gW(l:List (Nat × Ob))(x:Nat × Ob):bZ (l++[x])=bZ l+x.2.took:=by
 induction l with
 | nil=>show x.2.took+0=0+x.2.took;omega
 | cons y l ih=>show y.2.took+bZ (l++[x])=y.2.took+bZ l+x.2.took;omega
theorem nu(l:List (Nat × Ob)):jA (l.map λx=>(x.1,x.2,(none:Option Nat)))=bZ l:=by
 induction l with
 | nil=>rfl
 | cons x l ih=>show x.2.took+_=x.2.took+_;omega
theorem vy(l:List (Nat × Ob)):eQ (l.map λx=>(x.1,x.2,(none:Option Nat)))=bZ l:=by
 induction l with
 | nil=>rfl
 | cons x l ih=>show x.2.took+_=x.2.took+_;omega
structure aR(s:HS)(X:aj):Prop where
 n1:16<=s.n
 n2:s.n<=16384
 len:X.length=2*s.n+1
 zero:X.getD 0 0=0
 half:tV dV X (s.base (!s.u)) s.hZ s.aV (s.base s.u) s.top s.cur
 lL:jA s.aV<=s.n
 room:bZ s.cur+eQ s.aV<=s.n
 still:s.mv=false->s.aV=[]
 ser:s.ser<=1099511627776
 mJ:s.bI.length<=100000/\s.fin.length<=100000
theorem aR.at_{s:HS}{X:aj}(h:aR s X){i:Nat}(hi:i<s.cur.length):At X (s.cur.getD i (0,Ob.new 0 0 false false 0)).1 (s.cur.getD i (0,Ob.new 0 0 false false 0)).2:=by
 have h1:=h.half.cl.at i hi;rw[<-(Aw.at h.half.cl.lie i hi).1] at h1;exact h1
theorem jQ(s:HS):(s.u=true->s.base s.u=1+s.n/\s.base (!s.u)=1)/\(s.u=false->s.base s.u=1/\s.base (!s.u)=1+s.n):=by
 constructor <;> intro h <;> rw[h] <;> exact⟨rfl,rfl⟩
theorem aR.sep{s:HS}{X:aj}(h:aR s X):(s.base s.u+s.n<=s.base (!s.u)\/s.base (!s.u)+s.n<=s.base s.u)/\s.base s.u+s.n<=X.length/\s.base (!s.u)+s.n<=X.length/\1<=s.base s.u/\1<=s.base (!s.u):=by
 have h1:=jQ s;have h2:=h.len;cases hu:s.u
 ·obtain⟨e1,e2⟩:=h1.2 hu;rw[hu] at e1 e2;rw[e1,e2];omega
 ·obtain⟨e1,e2⟩:=h1.1 hu;rw[hu] at e1 e2;rw[e1,e2];omega
theorem aR.gh{s:HS}{X:aj}(h:aR s X):s.top+eQ s.aV<=s.base s.u+s.n/\s.hZ<=s.base (!s.u)+s.n:=by
 have h1:=h.room;have h2:=h.lL;unfold HS.top HS.hZ;omega
def HS.cV(s:HS)(i:Nat)(o:Ob):HS:={ s with cur:=s.cur.set i ((s.cur.getD i (0,Ob.new 0 0 false false 0)).1,o) }
theorem nP:∀ (l:List (Nat × Ob)) (i:Nat) (x:Nat × Ob),i<l.length->x.2.took=(l.getD i (0,Ob.new 0 0 false false 0)).2.took->bZ (l.set i x)=bZ l
 | y::l,0,x,_,h=>by
   have h:x.2.took=y.2.took:=h;show x.2.took+bZ l=y.2.took+bZ l;omega
 | y::l,i+1,x,hi,h=>by
   have:=nP l i x (by simpa using hi) h;show y.2.took+bZ (l.set i x)=y.2.took+bZ l;omega
theorem tV.cV{X X':aj}{bo eo bn en:Nat}{aV:List (Nat × Ob × Option Nat)}{cur:List (Nat × Ob)}(h:tV dV X bo eo aV bn en cur)(cT:eo<=bn\/en<=bo){i:Nat}(hi:i<cur.length){o':Ob}(hl:X'.length=X.length)
 (ha:At X' (cO bn cur i) o') (hs:dV (cur.getD i (0,Ob.new 0 0 false false 0)).2 o') (hj:∀j,j<cO bn cur i\/cO bn cur i+o'.took<=j->X'.getD j 0=X.getD j 0) :
 tV dV X' bo eo aV bn en (cur.set i (cO bn cur i,o')):=by
 have hb:=pT bn cur i;obtain⟨_,h8,_,h9⟩:=Aw.at h.cl.lie i hi;have h9:cO bn cur i+(cur.getD i (0,Ob.new 0 0 false false 0)).2.took<=en:=h9;have ht:=hs.took;refine⟨gB.congr hl h.ol (λj j1 j2=>hj j (by omega)),Laid.cV hl h.cl hi ha ht hj,λk hk t Cl=>?_,h.inj⟩;obtain⟨q,q1,q2,q3⟩:=h.gone k hk t Cl;refine⟨q,by simpa using q1,?_,?_⟩
 ·rw[<-q2]
  have:∀m,m<=cur.length->cO bn (cur.set i (cO bn cur i,o')) m=cO bn cur m:=by
   intro m
   induction m with
   | zero=>intro _;rfl
   | succ m ih=>
     intro hm;show cO bn (cur.set i (cO bn cur i,o')) m+_=cO bn cur m+_;rw[ih (by omega)]
     by_cases e:m=i
     ·subst e;rw[dQ _ _ _ hi];show _+o'.took=_;rw[ht]
     ·rw[getD_set_ne _ _ _ (Ne.symm e)]
  exact this q (by omega)
 ·by_cases e:q=i
  ·subst e;rw[dQ _ _ _ hi];exact q3.trans hs
  ·rw[getD_set_ne _ _ _ (Ne.symm e)];exact q3
abbrev eF:Nat × Ob:=(0,Ob.new 0 0 false false 0)
theorem aR.apart{s:HS}{X:aj}(h:aR s X):s.hZ<=s.base s.u\/s.base s.u+s.n<=s.base (!s.u):=by
 have h1:=h.sep;have h2:=h.gh;omega
theorem aR.place{s:HS}{X:aj}(h:aR s X){i:Nat}(hi:i<s.cur.length):(s.cur.getD i eF).1=cO (s.base s.u) s.cur i/\s.base s.u<=(s.cur.getD i eF).1/\(s.cur.getD i eF).1+(s.cur.getD i eF).2.took<=s.top:=by
 obtain⟨h1,_,_,h2⟩:=Aw.at h.half.cl.lie i hi;exact⟨h1,by rw[h1];exact pT _ _ _,by rw[h1];exact h2⟩
theorem aR.cV{s:HS}{X X':aj}(h:aR s X){i:Nat}(hi:i<s.cur.length){o':Ob}(hl:X'.length=X.length)(ha:At X' (s.cur.getD i eF).1 o')(hs:dV (s.cur.getD i eF).2 o')
 (hj:∀j,j<(s.cur.getD i eF).1\/(s.cur.getD i eF).1+(s.cur.getD i eF).2.size<=j->X'.getD j 0=X.getD j 0):aR (s.cV i o') X':=by
 obtain⟨hp,hb,ht⟩:=h.place hi;have sS:=h.sep;have mf:=h.gh;have bU:=(h.at_ hi).ok;have e1:bZ (s.cur.set i ((s.cur.getD i eF).1,o'))=bZ s.cur:=nP _ _ _ hi hs.took;obtain⟨_,q2,_,_⟩:=Ob.bF bU;have iG:=hs.took;refine⟨h.n1,h.n2,by rw[hl];exact h.len,by rw[hj 0 (by omega)];exact h.zero,?_,h.lL,?_,h.still,h.ser,h.mJ⟩
 ·have e2:(s.cV i o').top=s.top:=by unfold HS.top;show s.base s.u+bZ (s.cur.set i ((s.cur.getD i eF).1,o'))=_;rw[e1]
  rw[e2];have q3:(s.cur.getD i eF).2.size<=o'.took:=by rw[iG];exact q2
  have BT:∀j,j<cO (s.base s.u) s.cur i\/cO (s.base s.u) s.cur i+o'.took<=j->X'.getD j 0=X.getD j 0:=λj k=>hj j (by
   rw[hp];omega)
  have:=tV.cV h.half (by have:=h.apart;omega) hi hl (by rw[<-hp];exact ha) hs BT;rw[<-hp] at this;exact this
 ·show bZ (s.cur.set i ((s.cur.getD i eF).1,o'))+_<=_;rw[e1];exact h.room
def HS.alloc(s:HS)(p d:Nat)(wk fn:Bool):HS:=
 { s with cur:=s.cur++[(s.top,Ob.new p d wk fn (s.ser+1))],ser:=s.ser+1,bI:=bif wk then s.bI++[s.top] else s.bI,fin:=bif fn then s.fin++[s.top] else s.fin }
theorem aR.alloc{s:HS}{X:aj}(h:aR s X){p d:Nat}{wk fn:Bool}(bU:sV p d wk fn)(hr:ju ((3+p+d:Nat):Int)<=s.room)(hs:s.ser<1099511627776)(hf:s.bI.length<100000/\s.fin.length<100000) :
 aR (s.alloc p d wk fn) (made X s.top p d wk fn (s.ser+1))/\s.top+(3+p+d)<=X.length:=by
 have hO:(Ob.new p d wk fn (s.ser+1)).Ok:=Ob.EP bU (by omega);obtain⟨q1,q2,q3,q4⟩:=Ob.bF hO;have iG:(Ob.new p d wk fn (s.ser+1)).size=3+p+d:=rfl;rw[iG] at q1 q2;have sS:=h.sep;have mf:=h.gh;have cT:=h.apart;have zG:=h.room;have hor:=h.lL;unfold HS.room at hr;have kK:s.top+(Ob.new p d wk fn (s.ser+1)).took+eQ s.aV<=s.base s.u+s.n:=by unfold HS.top;omega
 have hb:s.base s.u<=s.top:=by unfold HS.top;omega
 have hX:s.top+(3+p+d)<=X.length:=by omega
 have hg:=yl (wk:=wk) (fn:=fn) (ser:=s.ser+1) hX;have hA:=Qh (xs:=X) bU (by omega:s.ser+1<=1099511627776) hX;have hlen:=si X s.top p d wk fn (s.ser+1)
 have wW:∀j,j<s.top\/s.top+(3+p+d)<=j->(made X s.top p d wk fn (s.ser+1)).getD j 0=X.getD j 0:=λj hj=>by
  rw[hg,if_neg (by omega),if_neg (by omega),if_neg (by omega)]
 have e2:(s.alloc p d wk fn).top=s.top+(Ob.new p d wk fn (s.ser+1)).took:=by
  show s.base s.u+bZ (s.cur++[(s.top,Ob.new p d wk fn (s.ser+1))])=_;rw[gW];show s.base s.u+(bZ s.cur+(Ob.new p d wk fn (s.ser+1)).took)=s.base s.u+bZ s.cur+(Ob.new p d wk fn (s.ser+1)).took;omega
 refine⟨⟨h.n1,h.n2,by rw[hlen];exact h.len,by rw[wW 0 (by omega)];exact h.zero,⟨?_,?_,λi hi t ht=>?_,h.half.inj⟩,h.lL,?_,h.still,by show s.ser+1<=_;omega,?_⟩,hX⟩
 ·refine gB.congr hlen h.half.ol (λj j1 j2=>wW j ?_);have j1':s.base (!s.u)<=j:=j1;have j2':j<s.hZ:=j2;omega
 ·rw[e2];exact Laid.snoc (Laid.congr hlen h.half.cl (λj j1 j2=>wW j (.inl j2))) hA
 ·obtain⟨j,k5,k6,k7⟩:=h.half.gone i hi t ht;exact⟨j,by show j<(s.cur++[_]).length;simp;omega,by show cO _ (s.cur++[_]) j=t;rw[jI _ _ _ (by omega)];exact k6,by show dV _ ((s.cur++[_]).getD j _).2;rw[fH _ _ _ k5];exact k7⟩
 ·show bZ (s.cur++[_])+eQ s.aV<=s.n;rw[gW];show bZ s.cur+(Ob.new p d wk fn (s.ser+1)).took+eQ s.aV<=s.n;omega
 ·show(bif wk then s.bI++[s.top] else s.bI).length<=_/\(bif fn then s.fin++[s.top] else s.fin).length<=_;cases wk <;> cases fn <;> simp <;> omega
def HS.flip(s:HS):HS:={ s with u:=!s.u,mv:=true,cur:=[],aV:=s.cur.map λx=>(x.1,x.2,none),scan:=s.base (!s.u) }
theorem aR.flip{s:HS}{X:aj}(h:aR s X)(hm:s.mv=false):aR s.flip X:=by
 have hold:=h.still hm;have zG:=h.room;have hb:s.flip.base (!s.flip.u)=s.base s.u:=by show s.base (!!s.u)=_;rw[Bool.not_not]
 refine⟨h.n1,h.n2,h.len,h.zero,?_,?_,?_,(λe=>by cases e),h.ser,h.mJ⟩
 ·rw[hb]
  have e1:s.flip.hZ=s.top:=by
   show s.flip.base (!s.flip.u)+jA (s.cur.map λx=>(x.1,x.2,none))=_;rw[hb,nu];rfl
  have e2:s.flip.top=s.flip.base s.flip.u:=rfl;rw[e1,e2];exact tV.start h.half.cl
 ·show jA (s.cur.map λx=>(x.1,x.2,none))<=_;rw[nu];show bZ s.cur<=s.n;omega
 ·show 0+eQ (s.cur.map λx=>(x.1,x.2,none))<=_;rw[vy];show 0+bZ s.cur<=s.n;omega
def HS.move(s:HS)(i:Nat):HS:={ s with cur:=s.cur++[(s.top,(s.aV.getD i oo).2.1)],aV:=s.aV.set i ((s.aV.getD i oo).1,(s.aV.getD i oo).2.1,some s.top) }
theorem nQ:∀ (l:List (Nat × Ob × Option Nat)) (i:Nat) (x:Nat × Ob × Option Nat),i<l.length->x.2.1.took=(l.getD i oo).2.1.took->jA (l.set i x)=jA l
 | (a,o,m)::l,0,(a',o',m'),_,h=>by
   have h:o'.took=o.took:=h;show o'.took+jA l=o.took+jA l;omega
 | (a,o,m)::l,i+1,x,hi,h=>by
   have:=nQ l i x (by simpa using hi) h;show o.took+jA (l.set i x)=o.took+jA l;omega
theorem aR.move{s:HS}{X:aj}(h:aR s X){i:Nat}(hi:i<s.aV.length){a:Nat}{o:Ob}(hg:s.aV.getD i oo=(a,o,none)) :
 aR (s.move i) (Hk X a s.top o.size)/\At X a o/\s.top+o.took<=s.base s.u+s.n/\eQ (s.move i).aV+o.took=eQ s.aV:=by
 have how:=Gt (t:=s.top) hi hg;have sS:=h.sep;have cT:=h.apart;have zG:=h.room;have lU:=h.n2;have hlen:=h.len;have hb:s.base s.u<=s.top:=by unfold HS.top;omega
 have e0:s.move i = { s with cur:=s.cur++[(s.top,o)],aV:=s.aV.set i (a,o,some s.top) }:=by unfold HS.move;rw[hg]
 have kK:s.top+o.took<=s.base s.u+s.n:=by unfold HS.top;omega
 obtain⟨h1,h2⟩:=h.half.go dV.refl hi hg (lim:=s.base s.u+s.n) kK (by omega) cT (by omega) (by omega);obtain⟨q1,q2,q3,q4⟩:=Ob.bF h2.ok;obtain⟨k1,k2,_,_⟩:=h.half.ol.at i hi;rw[hg] at k1;have k1:s.base (!s.u)<=a:=k1;have hr:s.top+o.size<=X.length:=by omega
 have e2:(s.move i).top=s.top+o.took:=by
  rw[e0];show s.base s.u+bZ (s.cur++[(s.top,o)])=_;rw[gW];show s.base s.u+(bZ s.cur+o.took)=s.base s.u+bZ s.cur+o.took;omega
 have e3:(s.move i).hZ=s.hZ:=by
  rw[e0];show s.base (!s.u)+jA (s.aV.set i (a,o,some s.top))=_;rw[nQ _ _ _ hi (by rw[hg])];rfl
 refine⟨⟨h.n1,h.n2,?_,?_,?_,?_,?_,λe=>?_,h.ser,h.mJ⟩,h2,kK,by rw[e0];exact how⟩
 ·rw[lX hr];exact h.len
 ·rw[pW hr h2.lt,if_neg (by omega),if_neg (by omega)];exact h.zero
 ·rw[e2,e3];rw[e0];exact h1
 ·rw[e0];show jA (s.aV.set i (a,o,some s.top))<=s.n;rw[nQ _ _ _ hi (by rw[hg])];exact h.lL
 ·rw[e0];show bZ (s.cur++[(s.top,o)])+eQ (s.aV.set i (a,o,some s.top))<=s.n;rw[gW];show bZ s.cur+o.took+_<=_;omega
 ·rw[e0] at e;have:=h.still e;rw[this] at hi;simp at hi
def HS.drop(s:HS):HS:={ s with mv:=false,aV:=[] }
theorem aR.drop{s:HS}{X:aj}(h:aR s X):aR s.drop X:=
 ⟨h.n1,h.n2,h.len,h.zero,⟨rfl,h.half.cl,λi hi=>by simp[HS.drop] at hi,λi j t hi=>by simp[HS.drop] at hi⟩,bY _,by have:=h.room;show bZ s.cur+0<=s.n;omega,λ_=>rfl,h.ser,h.mJ⟩
def Ref(s:HS)(p n:Nat):Prop:=(p=0/\n=0)\/(∃o,(p,o)∈s.cur/\o.ser=n)\/∃o m,(p,o,m)∈s.aV/\o.ser=n
def Live(s:HS)(p:Nat)(o:Ob):Prop:=(p,o)∈s.cur\/(p,o,none)∈s.aV
structure WF(s:HS):Prop where
 py:∀x∈s.cur,1<=x.2.ser/\x.2.ser<=s.ser
 sW:∀x∈s.aV,1<=x.2.1.ser/\x.2.1.ser<=s.ser
 JB:∀x∈s.cur,∀y∈s.cur,x.2.ser=y.2.ser->x=y
 Om:∀x∈s.aV,∀y∈s.aV,x.2.1.ser=y.2.1.ser->x=y
 NJ:∀x∈s.cur,∀p o,(p,o,none)∈s.aV->x.2.ser≠o.ser
 Xx:∀x∈s.cur,∀y∈s.cur,x.1=y.1->x=y
 plO:∀x∈s.aV,∀y∈s.aV,x.1=y.1->x=y
 plM:∀x∈s.cur,∀y∈s.aV,x.1≠y.1
 Mr:∀x∈s.cur,1<=x.1
 Ms:∀x∈s.aV,1<=x.1
 ptr:∀p o,Live s p o->∀q∈o.ps,∃n,Ref s q n
 gone:∀a o t,(a,o,some t)∈s.aV->∃o',(t,o')∈s.cur/\dV o o'
theorem Ref.unique{s:HS}(h:WF s){p n m:Nat}(h1:Ref s p n)(h2:Ref s p m):n=m:=by
 rcases h1 with ⟨p0,rfl⟩|⟨o,ho,rfl⟩|⟨o,k,ho,rfl⟩ <;> rcases h2 with ⟨p0',rfl⟩|⟨o',H9,rfl⟩|⟨o',k',H9,rfl⟩
 ·rfl
 ·have:=h.Mr _ H9;simp only at this;omega
 ·have:=h.Ms _ H9;simp only at this;omega
 ·have:=h.Mr _ ho;simp only at this;omega
 ·have:=h.Xx _ ho _ H9 rfl;cases this;rfl
 ·exact absurd rfl (h.plM _ ho _ H9)
 ·have:=h.Ms _ ho;simp only at this;omega
 ·exact absurd rfl (h.plM _ H9 _ ho)
 ·have:=h.plO _ ho _ H9 rfl;cases this;rfl
theorem Ref.pos{s:HS}(h:WF s){p n:Nat}(h1:Ref s p n):(p=0↔n=0):=by
 rcases h1 with ⟨p0,rfl⟩|⟨o,ho,rfl⟩|⟨o,k,ho,rfl⟩
 ·simp[p0]
 ·have:=h.Mr _ ho;have:=h.py _ ho;simp only at *;omega
 ·have:=h.Ms _ ho;have:=h.sW _ ho;simp only at *;omega
structure Sem(s:HS):Prop where
 py:∀x∈s.cur,1<=x.2.ser/\x.2.ser<=s.ser
 sW:∀x∈s.aV,1<=x.2.1.ser/\x.2.1.ser<=s.ser
 JB:∀x∈s.cur,∀y∈s.cur,x.2.ser=y.2.ser->x=y
 Om:∀x∈s.aV,∀y∈s.aV,x.2.1.ser=y.2.1.ser->x=y
 NJ:∀x∈s.cur,∀p o,(p,o,none)∈s.aV->x.2.ser≠o.ser
 ptr:∀p o,Live s p o->∀q∈o.ps,∃n,Ref s q n
theorem cX{α:Type}{l:List α}{x:α}(d:α)(h:x∈l):∃i,i<l.length/\l.getD i d=x:=by
 obtain⟨i,hi,e⟩:=List.getElem_of_mem h;exact⟨i,hi,by simp[List.getD,hi,e]⟩
theorem get_mem{α:Type}{l:List α}{i:Nat}(d:α)(h:i<l.length):l.getD i d∈l:=by simp[List.getD,h]
theorem aR.mX{s:HS}{X:aj}(h:aR s X){i j:Nat}(Et:i<j)(hj:j<s.cur.length):(s.cur.getD i eF).1+(s.cur.getD i eF).2.took<=(s.cur.getD j eF).1:=by
 have hi:i<s.cur.length:=by omega
 obtain⟨p1,_,_⟩:=h.place hi;obtain⟨r1,_,_⟩:=h.place hj;have:=lx (s.base s.u) s.cur (show i+1<=j from Et);have h3:cO (s.base s.u) s.cur (i+1)=cO (s.base s.u) s.cur i+(s.cur.getD i eF).2.took:=rfl;rw[p1,r1];omega
theorem aR.ig{s:HS}{X:aj}(h:aR s X){x:Nat × Ob}(hx:x∈s.cur):x.2.Ok/\s.base s.u<=x.1/\x.1+x.2.took<=s.top/\At X x.1 x.2:=by
 obtain⟨i,hi,rfl⟩:=cX eF hx;obtain⟨_,h1,h2⟩:=h.place hi;exact⟨(h.at_ hi).ok,h1,h2,h.at_ hi⟩
theorem aR.rE{s:HS}{X:aj}(h:aR s X){x:Nat × Ob × Option Nat}(hx:x∈s.aV):x.2.1.Ok/\s.base (!s.u)<=x.1/\x.1+x.2.1.took<=s.hZ:=by
 obtain⟨i,hi,rfl⟩:=cX oo hx;obtain⟨h1,h2,h3,_⟩:=h.half.ol.at i hi;exact⟨h3,h1,h2⟩
theorem WF.of{s:HS}{X:aj}(h:aR s X)(m:Sem s):WF s:=by
 have cT:=h.apart;have sS:=h.sep;have mf:=h.gh;refine⟨m.py,m.sW,m.JB,m.Om,m.NJ,λx hx y hy e=>?_,λx hx y hy e=>?_,λx hx y hy e=>?_,λx hx=>?_,λx hx=>?_,m.ptr,λa o t ha=>?_⟩
 ·obtain⟨i,hi,rfl⟩:=cX eF hx;obtain⟨j,hj,rfl⟩:=cX eF hy;obtain⟨_,_,q1,_⟩:=Ob.bF (h.at_ hi).ok;obtain⟨_,_,q2,_⟩:=Ob.bF (h.at_ hj).ok;rcases Nat.lt_trichotomy i j with hl|rfl|hl
  ·have:=h.mX hl hj;have h3:4<=(s.cur.getD i eF).2.took:=q1;omega
  ·rfl
  ·have:=h.mX hl hi;have h3:4<=(s.cur.getD j eF).2.took:=q2;omega
 ·obtain⟨i,hi,rfl⟩:=cX oo hx;obtain⟨j,hj,rfl⟩:=cX oo hy;obtain⟨_,_,k1,_⟩:=h.half.ol.at i hi;obtain⟨_,_,k2,_⟩:=h.half.ol.at j hj;obtain⟨_,_,q1,_⟩:=Ob.bF k1;obtain⟨_,_,q2,_⟩:=Ob.bF k2;rcases Nat.lt_trichotomy i j with hl|rfl|hl
  ·have:=h.half.ol.apart i j hl hj;omega
  ·rfl
  ·have:=h.half.ol.apart j i hl hi;omega
 ·obtain⟨k1,k2,k3,_⟩:=h.ig hx;obtain⟨l1,l2,l3⟩:=h.rE hy;obtain⟨_,_,q1,_⟩:=Ob.bF k1;obtain⟨_,_,q2,_⟩:=Ob.bF l1;omega
 ·have:=(h.ig hx).2.1;omega
 ·have:=(h.rE hx).2.1;omega
 ·obtain⟨i,hi,e⟩:=cX oo ha;obtain⟨j,k5,k6,k7⟩:=h.half.gone i hi t (by rw[e]);rw[e] at k7;refine⟨(s.cur.getD j eF).2,?_,k7⟩;have:=get_mem eF k5;have h1:(s.cur.getD j eF).1=t:=by rw[(h.place k5).1];exact k6
  rw[<-h1];exact this
theorem mem_set{α:Type}{l:List α}{i:Nat}{v y:α}(h:y∈l.set i v):y=v\/∃j,∃hj:j<l.length,j≠i/\l[j]=y:=by
 obtain⟨j,hj,e⟩:=List.getElem_of_mem h;rw[List.getElem_set] at e;have pK:j<l.length:=by simpa using hj
 split at e
 ·exact .inl e.symm
 ·rename_i hne;exact .inr ⟨j,pK,λe2=>hne e2.symm,e⟩
theorem GG{α:Type}{l:List α}{i j:Nat}{v:α}(hj:j<l.length)(hne:j≠i):l[j]∈l.set i v:=by
 have:(l.set i v)[j]'(by simpa using hj)=l[j]:=by rw[List.getElem_set,if_neg (Ne.symm hne)]
 rw[<-this];exact List.getElem_mem _
structure eN(s:HS)(i a:Nat)(o:Ob):Prop where
 lt:i<s.aV.length
 get:s.aV.getD i oo=(a,o,none)
theorem eN.mem{s:HS}{i a:Nat}{o:Ob}(m:eN s i a o):(a,o,none)∈s.aV:=by rw[<-m.get];exact get_mem _ m.lt
theorem eN.cur{s:HS}{i a:Nat}{o:Ob}(m:eN s i a o):(s.move i).cur=s.cur++[(s.top,o)]/\(s.move i).aV=s.aV.set i (a,o,some s.top):=by
 unfold HS.move;rw[m.get];exact⟨rfl,rfl⟩
theorem eN.vv{s:HS}{X:aj}(h:aR s X){i a:Nat}{o:Ob}(m:eN s i a o){y:Nat × Ob × Option Nat}(hy:y∈(s.move i).aV):y=(a,o,some s.top)\/(y∈s.aV/\y.1≠a):=by
 rw[m.cur.2] at hy;rcases mem_set hy with e|⟨j,hj,hne,e⟩
 ·exact .inl e
 ·right;refine⟨e ▸ List.getElem_mem _,λea=>?_⟩;have e1:s.aV.getD j oo=y:=by simp[List.getD,hj,e]
  obtain⟨_,_,k1,_⟩:=h.half.ol.at j hj;obtain⟨_,_,k2,_⟩:=h.half.ol.at i m.lt;obtain⟨_,_,q1,_⟩:=Ob.bF k1;obtain⟨_,_,q2,_⟩:=Ob.bF k2;rcases Nat.lt_or_gt_of_ne hne with hl|hl
  ·have:=h.half.ol.apart j i hl m.lt;rw[e1] at this q1;rw[m.get] at this;have h1:y.1+y.2.1.took<=a:=this;omega
  ·have:=h.half.ol.apart i j hl hj;rw[e1] at this;rw[m.get] at this q2;have h1:a+o.took<=y.1:=this;have h2:4<=o.took:=q2;omega
theorem eN.L8{s:HS}{i a:Nat}{o:Ob}(m:eN s i a o){y:Nat × Ob × Option Nat}(hy:y∈s.aV)(hne:y.1≠a):y∈(s.move i).aV:=by
 rw[m.cur.2];obtain⟨j,hj,e⟩:=List.getElem_of_mem hy;rw[<-e];refine GG hj (λe2=>hne ?_);subst e2;have:s.aV.getD j oo=y:=by simp[List.getD,hj,e]
 rw[m.get] at this;rw[<-this]
theorem eN.there{s:HS}{i a:Nat}{o:Ob}(m:eN s i a o):(a,o,some s.top)∈(s.move i).aV:=by
 rw[m.cur.2];have hl:i<(s.aV.set i (a,o,some s.top)).length:=by simpa using m.lt
 have e:(s.aV.set i (a,o,some s.top))[i]=(a,o,some s.top):=by simp
 have:=List.getElem_mem hl;rw[e] at this;exact this
theorem eN.ref{s:HS}(w:WF s){i a:Nat}{o:Ob}(m:eN s i a o){p n:Nat}(h:Ref s p n):Ref (s.move i) p n:=by
 rcases h with h|⟨u,hu,e⟩|⟨u,k,hu,e⟩
 ·exact .inl h
 ·exact .inr (.inl ⟨u,by rw[m.cur.1];simp[hu],e⟩)
 ·by_cases hp:p=a
  ·subst hp;have:=w.plO _ hu _ m.mem rfl;have e3:u=o:=by cases this;rfl
   exact .inr (.inr ⟨o,some s.top,m.there,e3 ▸ e⟩)
  ·exact .inr (.inr ⟨u,k,m.L8 hu hp,e⟩)
theorem eN.ach{s:HS}{i a:Nat}{o:Ob}(m:eN s i a o):Ref (s.move i) s.top o.ser:=.inr (.inl ⟨o,by rw[m.cur.1];simp,rfl⟩)
theorem eN.live{s:HS}{X:aj}(h:aR s X){i a:Nat}{o:Ob}(m:eN s i a o){p:Nat}{u:Ob}(hl:Live (s.move i) p u):Live s p u\/(p=s.top/\u=o):=by
 rcases hl with hl|hl
 ·rw[m.cur.1] at hl;rcases cJ.1 hl with hl|hl
  ·exact .inl (.inl hl)
  ·simp at hl;exact .inr hl
 ·rcases m.vv h hl with e|⟨h1,_⟩
  ·cases e
  ·exact .inl (.inr h1)
theorem eN.sem{s:HS}{X:aj}(h:aR s X)(w:WF s){i a:Nat}{o:Ob}(m:eN s i a o):Sem (s.move i):=by
 have iK:=m.mem
 have hc:∀x,x∈(s.move i).cur->x∈s.cur\/x=(s.top,o):=λx hx=>by
  rw[m.cur.1] at hx;rcases cJ.1 hx with hx|hx
  ·exact .inl hx
  ·simp at hx;exact .inr hx
 have ho:∀x,x∈(s.move i).aV->∃k,(x.1,x.2.1,k)∈s.aV:=λx hx=>by
  rcases m.vv h hx with e|⟨h1,_⟩
  ·subst e;exact⟨none,iK⟩
  ·exact⟨x.2.2,h1⟩
 refine⟨λx hx=>?_,λx hx=>?_,λx hx y hy e=>?_,λx hx y hy e=>?_,λx hx p u hu=>?_,λp u hu q hq=>?_⟩
 ·rcases hc x hx with hx|rfl
  ·exact w.py x hx
  ·exact w.sW _ iK
 ·obtain⟨k,hk⟩:=ho x hx;exact w.sW (x.1,x.2.1,k) hk
 ·rcases hc x hx with hx|rfl <;> rcases hc y hy with hy|rfl
  ·exact w.JB x hx y hy e
  ·exact absurd e (w.NJ x hx _ _ iK)
  ·exact absurd e.symm (w.NJ y hy _ _ iK)
  ·rfl
 ·rcases m.vv h hx with e1|⟨h1,h2⟩ <;> rcases m.vv h hy with e2|⟨h3,h4⟩
  ·rw[e1,e2]
  ·subst e1;have:=w.Om _ iK _ h3 e;rw[<-this] at h4;exact absurd rfl h4
  ·subst e2;have:=w.Om _ h1 _ iK e;rw[this] at h2;exact absurd rfl h2
  ·exact w.Om x h1 y h3 e
 ·rcases m.vv h hu with e1|⟨h1,h2⟩
  ·cases e1
  ·rcases hc x hx with hx|rfl
   ·exact w.NJ x hx p u h1
   ·intro e;have:=w.Om _ iK _ h1 e;cases this;exact h2 rfl
 ·rcases m.live h hu with hl|⟨rfl,rfl⟩
  ·obtain⟨n,hn⟩:=w.ptr p u hl q hq;exact⟨n,m.ref w hn⟩
  ·obtain⟨n,hn⟩:=w.ptr a u (.inr iK) q hq;exact⟨n,m.ref w hn⟩
theorem aR.qm{s:HS}{X:aj}(h:aR s X){q:Nat}{v:Ob}(hv:Live s q v):v.Ok:=by
 rcases hv with hv|hv
 ·exact(h.ig hv).1
 ·exact(h.rE hv).1
theorem qW{s:HS}(ho:s.aV=[]){p:Nat}{u:Ob} : Live s.flip p u↔Live s p u:=by
 unfold Live;show((p,u)∈([]:List (Nat × Ob))\/(p,u,none)∈s.cur.map (λx=>(x.1,x.2,none)))↔_;rw[ho];constructor
 ·rintro (h|h)
  ·cases h
  ·obtain⟨x,hx,e⟩:=List.mem_map.1 h;cases e;exact .inl hx
 ·rintro (h|h)
  ·exact .inr (List.mem_map.2 ⟨(p,u),h,rfl⟩)
  ·cases h
theorem uu{s:HS}(ho:s.aV=[]){p n:Nat} : Ref s.flip p n↔Ref s p n:=by
 unfold Ref;show((p=0/\n=0)\/(∃o,(p,o)∈([]:List (Nat × Ob))/\o.ser=n)\/∃o m,(p,o,m)∈s.cur.map (λx=>(x.1,x.2,none))/\o.ser=n)↔_;rw[ho];constructor
 ·rintro (h|⟨o,h,_⟩|⟨o,m,h,e⟩)
  ·exact .inl h
  ·cases h
  ·obtain⟨x,hx,e2⟩:=List.mem_map.1 h;cases e2;exact .inr (.inl ⟨_,hx,e⟩)
 ·rintro (h|⟨o,h,e⟩|⟨o,m,h,_⟩)
  ·exact .inl h
  ·exact .inr (.inr ⟨o,none,List.mem_map.2 ⟨(p,o),h,rfl⟩,e⟩)
  ·cases h
theorem Kl{s:HS}(w:WF s)(ho:s.aV=[]):Sem s.flip:=by
 have hm:∀x,x∈s.flip.aV->(x.1,x.2.1)∈s.cur/\x.2.2=none:=λx hx=>by
  obtain⟨y,hy,e⟩:=List.mem_map.1 (show x∈s.cur.map (λx=>(x.1,x.2,none)) from hx);subst e;exact⟨hy,rfl⟩
 refine⟨(λx hx=>by cases hx),λx hx=>?_,(λx hx=>by cases hx),λx hx y hy e=>?_,(λx hx=>by cases hx),λp u hu q hq=>?_⟩
 ·exact w.py (x.1,x.2.1) (hm x hx).1
 ·have h1:=w.JB _ (hm x hx).1 _ (hm y hy).1 e;have h2:=(hm x hx).2;have h3:=(hm y hy).2;obtain⟨a,b,c⟩:=x;obtain⟨a',b',c'⟩:=y;simp only at h1 h2 h3;cases h1;rw[h2,h3]
 ·obtain⟨n,hn⟩:=w.ptr p u ((qW ho).1 hu) q hq;exact⟨n,(uu ho).2 hn⟩
structure iP(s:HS)(i a:Nat)(o o':Ob):Prop where
 lt:i<s.cur.length
 get:s.cur.getD i eF=(a,o)
 same:dV o o'
theorem iP.mem{s:HS}{i a:Nat}{o o':Ob}(m:iP s i a o o'):(a,o)∈s.cur:=by rw[<-m.get];exact get_mem _ m.lt
theorem iP.cur{s:HS}{i a:Nat}{o o':Ob}(m:iP s i a o o'):(s.cV i o').cur=s.cur.set i (a,o'):=by
 unfold HS.cV;have:=m.get;simp only[eF] at this;rw[this]
theorem iP.there{s:HS}{i a:Nat}{o o':Ob}(m:iP s i a o o'):(a,o')∈(s.cV i o').cur:=by
 rw[m.cur];have hl:i<(s.cur.set i (a,o')).length:=by simpa using m.lt
 have e:(s.cur.set i (a,o'))[i]=(a,o'):=by simp
 have:=List.getElem_mem hl;rw[e] at this;exact this
theorem iP.zh{s:HS}{X:aj}(h:aR s X){i a:Nat}{o o':Ob}(m:iP s i a o o'){y:Nat × Ob}(hy:y∈(s.cV i o').cur):y=(a,o')\/(y∈s.cur/\y.1≠a):=by
 rw[m.cur] at hy;rcases mem_set hy with e|⟨j,hj,hne,e⟩
 ·exact .inl e
 ·right;refine⟨e ▸ List.getElem_mem _,λea=>?_⟩;have e1:s.cur.getD j eF=y:=by simp[List.getD,hj,e]
  obtain⟨_,_,q1,_⟩:=Ob.bF (h.at_ hj).ok;obtain⟨_,_,q2,_⟩:=Ob.bF (h.at_ m.lt).ok;have q1:4<=(s.cur.getD j eF).2.took:=q1;have q2:4<=(s.cur.getD i eF).2.took:=q2;rcases Nat.lt_or_gt_of_ne hne with hl|hl
  ·have:=h.mX hl m.lt;rw[e1] at this q1;rw[m.get] at this;have h1:y.1+y.2.took<=a:=this;omega
  ·have:=h.mX hl hj;rw[e1] at this;rw[m.get] at this q2;have h1:a+o.took<=y.1:=this;have h2:4<=o.took:=q2;omega
theorem iP.L7{s:HS}{i a:Nat}{o o':Ob}(m:iP s i a o o'){y:Nat × Ob}(hy:y∈s.cur)(hne:y.1≠a):y∈(s.cV i o').cur:=by
 rw[m.cur];obtain⟨j,hj,e⟩:=List.getElem_of_mem hy;rw[<-e];refine GG hj (λe2=>hne ?_);subst e2;have:s.cur.getD j eF=y:=by simp[List.getD,hj,e]
 rw[m.get] at this;rw[<-this]
theorem iP.ref{s:HS}(w:WF s){i a:Nat}{o o':Ob}(m:iP s i a o o'){p n:Nat}(h:Ref s p n):Ref (s.cV i o') p n:=by
 rcases h with h|⟨u,hu,e⟩|⟨u,k,hu,e⟩
 ·exact .inl h
 ·by_cases hp:p=a
  ·subst hp;have:=w.Xx _ hu _ m.mem rfl;have e3:u=o:=by cases this;rfl
   exact .inr (.inl ⟨o',m.there,by rw[m.same.2.2.2.2,<-e3];exact e⟩)
  ·exact .inr (.inl ⟨u,m.L7 hu hp,e⟩)
 ·exact .inr (.inr ⟨u,k,hu,e⟩)
theorem iP.live{s:HS}{X:aj}(h:aR s X){i a:Nat}{o o':Ob}(m:iP s i a o o'){p:Nat}{u:Ob}(hl:Live (s.cV i o') p u):(Live s p u/\u.ser≠o.ser\/(Live s p u/\p≠a))\/(p=a/\u=o'):=by
 rcases hl with hl|hl
 ·rcases m.zh h hl with e|⟨h1,h2⟩
  ·cases e;exact .inr ⟨rfl,rfl⟩
  ·exact .inl (.inr ⟨.inl h1,h2⟩)
 ·have hl:(p,u,none)∈s.aV:=hl
  by_cases e:p=a
  ·have:=(h.half.cl:Laid X _ _ _);exfalso;have h1:=h.rE hl;have h2:=h.ig m.mem;obtain⟨_,_,q1,_⟩:=Ob.bF h1.1;obtain⟨_,_,q2,_⟩:=Ob.bF h2.1;have h3:=h.apart;have h4:=h.gh;obtain⟨_,k1,k2⟩:=h1;obtain⟨_,k3,k4,_⟩:=h2;have k1:s.base (!s.u)<=p:=k1;have k2:p+u.took<=s.hZ:=k2;have k3:s.base s.u<=a:=k3;have k4:a+o.took<=s.top:=k4;omega
  ·exact .inl (.inr ⟨.inr hl,e⟩)
theorem iP.sem{s:HS}{X:aj}(h:aR s X)(w:WF s){i a:Nat}{o o':Ob}(m:iP s i a o o')(hp:∀q∈o'.ps,∃n,Ref s q n):Sem (s.cV i o'):=by
 have hc:∀x,x∈(s.cV i o').cur->∃y∈s.cur,y.1=x.1/\y.2.ser=x.2.ser:=λx hx=>by
  rcases m.zh h hx with e|⟨h1,_⟩
  ·subst e;exact⟨_,m.mem,rfl,m.same.2.2.2.2.symm⟩
  ·exact⟨x,h1,rfl,rfl⟩
 refine⟨λx hx=>?_,λx hx=>w.sW x hx,λx hx y hy e=>?_,λx hx y hy e=>w.Om x hx y hy e,λx hx p u hu=>?_,λp u hu q hq=>?_⟩
 ·obtain⟨y,hy,_,e⟩:=hc x hx;rw[<-e];exact w.py y hy
 ·rcases m.zh h hx with e1|⟨h1,h2⟩ <;> rcases m.zh h hy with e2|⟨h3,h4⟩
  ·rw[e1,e2]
  ·subst e1;have:=w.JB _ m.mem _ h3 (by rw[<-e];exact m.same.2.2.2.2.symm);rw[<-this] at h4;exact absurd rfl h4
  ·subst e2;have:=w.JB _ h1 _ m.mem (by rw[e];exact m.same.2.2.2.2);rw[this] at h2;exact absurd rfl h2
  ·exact w.JB x h1 y h3 e
 ·obtain⟨y,hy,_,e⟩:=hc x hx;rw[<-e];exact w.NJ y hy p u hu
 ·have key:∀v,Live s p v->v=u->∃n,Ref (s.cV i o') q n:=λv hv e=>by
   subst e;obtain⟨n,hn⟩:=w.ptr p v hv q hq;exact⟨n,m.ref w hn⟩
  rcases m.live h hu with (⟨hl,_⟩|⟨hl,_⟩)|⟨rfl,rfl⟩
  ·exact key u hl rfl
  ·exact key u hl rfl
  ·obtain⟨n,hn⟩:=hp q hq;exact⟨n,m.ref w hn⟩
structure tO(o o':Ob):Prop where
 p:o'.p=o.p
 d:o'.d=o.d
 wk:o'.wk=o.wk
 fn:o'.fn=o.fn
 fr:o'.fr=o.fr
 ns:o'.ns=o.ns
 pl:o.ps.length=o.p
 pl':o'.ps.length=o.p
theorem tO.refl{o:Ob}(h:o.Ok):tO o o:=⟨rfl,rfl,rfl,rfl,rfl,rfl,h.lp,h.lp⟩
theorem tO.trans{a b c:Ob}(h:tO a b)(k:tO b c):tO a c:=
 ⟨by rw[k.p,h.p],by rw[k.d,h.d],by rw[k.wk,h.wk],by rw[k.fn,h.fn],by rw[k.fr,h.fr],by rw[k.ns,h.ns],h.pl,by rw[k.pl',h.p]⟩
theorem tO.symm{a b:Ob}(h:tO a b):tO b a:=⟨h.p.symm,h.d.symm,h.wk.symm,h.fn.symm,h.fr.symm,h.ns.symm,by rw[h.pl',h.p],by rw[h.pl,h.p]⟩
structure Tw(σ:Nat->Nat)(A B:HS):Prop where
 wa:WF A
 wb:WF B
 still:B.aV=[]
 z:σ 0=0
 rng:∀n,1<=n->n<=B.ser->1<=σ n/\σ n<=A.ser
 inj:∀n m,n<=B.ser->m<=B.ser->σ n=σ m->n=m
 obj:∀n p o,1<=n->n<=B.ser->Live A p o->o.ser=σ n->∃q o',(q,o')∈B.cur/\o'.ser=n/\tO o o'/\∀m,m<o.p->∃k,Ref B (o'.ps.getD m 0) k/\(Ref A (o.ps.getD m 0) (σ k)\/(o.wk=true/\o.ps.getD m 0=0/\∀x u,Live A x u->u.ser≠σ k))
theorem Ref.le{s:HS}(h:WF s){p n:Nat}(h1:Ref s p n):n<=s.ser:=by
 rcases h1 with ⟨p0,rfl⟩|⟨o,ho,rfl⟩|⟨o,k,ho,rfl⟩
 ·omega
 ·exact(h.py _ ho).2
 ·exact(h.sW _ ho).2
theorem Tw.sle{σ:Nat->Nat}{A B:HS}(h:Tw σ A B){n:Nat}(hn:n<=B.ser):σ n<=A.ser:=by
 rcases Nat.eq_zero_or_pos n with rfl|h1
 ·rw[h.z];omega
 ·exact(h.rng n h1 hn).2
theorem Tw.left{σ:Nat->Nat}{A A' B:HS}(h:Tw σ A B)(w:WF A')(hs:A.ser<=A'.ser)(hd:∀x u,Live A' x u->(∃x0 u0,Live A x0 u0/\u0.ser=u.ser)\/A.ser<u.ser)
 (hl:∀p o,Live A' p o->o.ser<=A.ser->∃p0 o0,Live A p0 o0/\tO o0 o/\o0.ser=o.ser/\∀m,m<o.p->(∀k,Ref A (o0.ps.getD m 0) k->Ref A' (o.ps.getD m 0) k\/(o.wk=true/\o.ps.getD m 0=0/\∀x u,Live A' x u->u.ser≠k))/\(o0.wk=true->o0.ps.getD m 0=0->o.ps.getD m 0=0)):Tw σ A' B:=by
 refine⟨w,h.wb,h.still,h.z,λn h1 h2=>⟨(h.rng n h1 h2).1,by have:=(h.rng n h1 h2).2;omega⟩,h.inj,λn p o h1 h2 ho e=>?_⟩;have hle:o.ser<=A.ser:=by rw[e];exact h.sle h2
 obtain⟨p0,o0,h0,lk,es,hm⟩:=hl p o ho hle;obtain⟨q,o',hq,e',lk',Xa⟩:=h.obj n p0 o0 h1 h2 h0 (es.trans e);refine⟨q,o',hq,e',lk.symm.trans lk',λm mlt=>?_⟩;obtain⟨k,jg,gX⟩:=Xa m (by rw[<-lk.p];exact mlt);refine⟨k,jg,?_⟩;obtain⟨ha,hb⟩:=hm m mlt;rcases gX with gX|⟨w1,w2,w3⟩
 ·exact ha _ gX
 ·right;refine⟨by rw[lk.wk];exact w1,hb w1 w2,λx u hu=>?_⟩;rcases hd x u hu with ⟨x0,u0,Xl,eu⟩|hgt
  ·rw[<-eu];exact w3 x0 u0 Xl
  ·have:=h.sle (jg.le h.wb);omega
def GV(A A':HS):Prop:=∀p n,Ref A p n->Ref A' p n
theorem Tw.Gk{σ:Nat->Nat}{A A' B:HS}(h:Tw σ A B)(w:WF A')(hs:A.ser<=A'.ser)
 (hl:∀p o,Live A' p o->(∃p0 o0,Live A p0 o0/\tO o0 o/\o0.ser=o.ser/\∀m,m<o.p->∀k,Ref A (o0.ps.getD m 0) k->Ref A' (o.ps.getD m 0) k)\/A.ser<o.ser) (wz:∀n,Ref A' 0 n->n=0):Tw σ A' B:=by
 refine h.left w hs (λx u hu=>(hl x u hu).imp (λ⟨a,b,c,d,e,f⟩=>⟨a,b,c,e⟩) id) (λp o ho hle=>?_);rcases hl p o ho with ⟨a,b,c,d,e,f⟩|hgt
 ·refine⟨a,b,c,d,e,λm hm=>⟨λk hk=>.inl (f m hm k hk),λ_ e0=>?_⟩⟩;have h1:Ref A' (o.ps.getD m 0) 0:=f m hm 0 (.inl ⟨e0,rfl⟩);exact(h1.pos w).2 rfl
 ·omega
theorem Tw.move{σ:Nat->Nat}{A B:HS}(t:Tw σ A B){X:aj}(h:aR A X){i a:Nat}{o:Ob}(m:eN A i a o):Tw σ (A.move i) B:=by
 have w':=WF.of (h.move m.lt m.get).1 (m.sem h t.wa);refine t.Gk w' (aD _) (λp u hu=>.inl ?_) (λn hn=>(hn.pos w').1 rfl);rcases m.live h hu with hl|⟨rfl,rfl⟩
 ·exact⟨p,u,hl,tO.refl (h.qm hl),rfl,λm' _ k hk=>m.ref t.wa hk⟩
 ·exact⟨a,u,.inr m.mem,tO.refl (h.qm (.inr m.mem)),rfl,λm' _ k hk=>m.ref t.wa hk⟩
theorem Tw.flip{σ:Nat->Nat}{A B:HS}(t:Tw σ A B){X:aj}(h:aR A X)(hm:A.mv=false):Tw σ A.flip B:=by
 have ho:=h.still hm;have w':=WF.of (h.flip hm) (Kl t.wa ho);refine t.Gk w' (aD _) (λp u hu=>.inl ?_) (λn hn=>(hn.pos w').1 rfl);have h0:=(qW ho).1 hu;exact⟨p,u,h0,tO.refl (h.qm h0),rfl,λm _ k hk=>(uu ho).2 hk⟩
theorem Tw.aaV{σ:Nat->Nat}{A B:HS}(t:Tw σ A B){X X':aj}(h:aR A X){i a:Nat}{o o':Ob}(m:iP A i a o o')(h':aR (A.cV i o') X')(lk:tO o o')(hr:∀m,m<o.p->∀k,Ref A (o.ps.getD m 0) k->Ref A (o'.ps.getD m 0) k):Tw σ (A.cV i o') B:=by
 have hp:∀q∈o'.ps,∃n,Ref A q n:=λq hq=>by
  obtain⟨j,hj,rfl⟩:=cX 0 hq;have pK:j<o.p:=by rw[<-lk.pl'];exact hj
  obtain⟨n,hn⟩:=t.wa.ptr a o (.inl m.mem) (o.ps.getD j 0) (get_mem 0 (by rw[lk.pl];exact pK));exact⟨n,hr j pK n hn⟩
 have w':=WF.of h' (m.sem h t.wa hp);refine t.Gk w' (aD _) (λp u hu=>.inl ?_) (λn hn=>(hn.pos w').1 rfl)
 have key:∀v,Live A p v->v=u->∃p0 o0,Live A p0 o0/\tO o0 u/\o0.ser=u.ser/\∀m,m<u.p->∀k,Ref A (o0.ps.getD m 0) k->Ref (A.cV i o') (u.ps.getD m 0) k:=λv hv e=>by
  subst e;exact⟨p,v,hv,tO.refl (h.qm hv),rfl,λm' _ k hk=>m.ref t.wa hk⟩
 rcases m.live h hu with (⟨hl,_⟩|⟨hl,_⟩)|⟨rfl,rfl⟩
 ·exact key u hl rfl
 ·exact key u hl rfl
 ·exact⟨p,o,.inl m.mem,lk,m.same.2.2.2.2.symm,λm' Xa k hk=>m.ref t.wa (hr m' (by rw[<-lk.p];exact Xa) k hk)⟩
theorem oR{s:HS}{p d:Nat}{wk fn:Bool}{x:Nat}{u:Ob}(h:Live (s.alloc p d wk fn) x u):Live s x u\/(x=s.top/\u=Ob.new p d wk fn (s.ser+1)):=by
 rcases h with h|h
 ·rcases cJ.1 (show(x,u)∈s.cur++[(s.top,Ob.new p d wk fn (s.ser+1))] from h) with h|h
  ·exact .inl (.inl h)
  ·simp at h;exact .inr h
 ·exact .inl (.inr h)
theorem qO{s:HS}{p d:Nat}{wk fn:Bool} : GV s (s.alloc p d wk fn):=λx n h=>by
 rcases h with h|⟨u,hu,e⟩|⟨u,k,hu,e⟩
 ·exact .inl h
 ·exact .inr (.inl ⟨u,cJ.2 (.inl hu),e⟩)
 ·exact .inr (.inr ⟨u,k,hu,e⟩)
theorem DO{s:HS}{p d:Nat}{wk fn:Bool} : (s.top,Ob.new p d wk fn (s.ser+1))∈(s.alloc p d wk fn).cur:=cJ.2 (.inr (by simp))
theorem G5{s:HS}(w:WF s){p d:Nat}{wk fn:Bool} : Sem (s.alloc p d wk fn):=by
 have hc:∀x,x∈(s.alloc p d wk fn).cur->x∈s.cur\/x=(s.top,Ob.new p d wk fn (s.ser+1)):=λx hx=>by
  rcases cJ.1 (show x∈s.cur++[(s.top,Ob.new p d wk fn (s.ser+1))] from hx) with h|h
  ·exact .inl h
  ·simp at h;exact .inr h
 have hn:(Ob.new p d wk fn (s.ser+1)).ser=s.ser+1:=rfl;have hs:(s.alloc p d wk fn).ser=s.ser+1:=rfl;refine⟨λx hx=>?_,λx hx=>?_,λx hx y hy e=>?_,λx hx y hy e=>w.Om x hx y hy e,λx hx q u hu=>?_,λq u hu z hz=>?_⟩
 ·rw[hs];rcases hc x hx with hx|rfl
  ·have:=w.py x hx;omega
  ·simp only[hn];omega
 ·rw[hs];have:=w.sW x hx;omega
 ·rcases hc x hx with hx|rfl <;> rcases hc y hy with hy|rfl
  ·exact w.JB x hx y hy e
  ·have:=w.py x hx;simp only[hn] at e;omega
  ·have:=w.py y hy;simp only[hn] at e;omega
  ·rfl
 ·have hu:(q,u,none)∈s.aV:=hu;rcases hc x hx with hx|rfl
  ·exact w.NJ x hx q u hu
  ·have:=w.sW _ hu;simp only[hn] at *;omega
 ·rcases oR hu with hl|⟨rfl,rfl⟩
  ·obtain⟨n,hn⟩:=w.ptr q u hl z hz;exact⟨n,qO _ _ hn⟩
  ·have:z=0:=by simp[Ob.new] at hz;exact hz.2
   exact⟨0,.inl ⟨this,rfl⟩⟩
theorem Tw.DN{σ:Nat->Nat}{A B:HS}(t:Tw σ A B){X X':aj}(h:aR A X){p d:Nat}{wk fn:Bool}(h':aR (A.alloc p d wk fn) X'):Tw σ (A.alloc p d wk fn) B:=by
 have w':=WF.of h' (G5 (p:=p) (d:=d) (wk:=wk) (fn:=fn) t.wa);refine t.Gk w' (Nat.le_succ _) (λq u hu=>?_) (λn hn=>(hn.pos w').1 rfl);rcases oR hu with hl|⟨rfl,rfl⟩
 ·exact .inl ⟨q,u,hl,tO.refl (h.qm hl),rfl,λm _ k hk=>qO _ _ hk⟩
 ·exact .inr (Nat.lt_succ_self _)
section
structure HB where
 hp:Nat
 ap:Nat
 ac:Nat
 v0:aA
 v1:aA
 vw:aA
 vf:aA
def HB.vs(B:HB):List aA:=[B.v0,B.v1,B.vw,B.vf]
def l0(s:HS):aj:=bif s.u then jL s.aV else dL s.cur
def l1(s:HS):aj:=bif s.u then dL s.cur else jL s.aV
def aN(B:HB)(s:HS):List aA:=
 [eL B.ap,vI 1,vI s.n,vI ((bif s.u then s.hZ else s.top:Nat):Int),vI (1+s.n),vI s.n,vI ((bif s.u then s.top else s.hZ:Nat):Int),B.v0,B.v1,
  vI (bif s.u then 1 else 0),.bool s.mv,vI (eQ s.aV:Nat),vI s.scan,vI s.ser,B.vw,B.vf]
def dz(B:HB)(k:Nat):Prop:=k=B.hp\/k=B.ap\/k=B.ac\/∃v∈B.vs,ay v k
structure cz(w:ag)(B:HB)(s:HS)(X:aj):Prop where
 cs:af w B.hp (aN B s)
 ar:Ar w B.ap B.ac X
 r0:aI w 0 B.v0 (nI (l0 s))
 r1:aI w 0 B.v1 (nI (l1 s))
 rw:aI w 0 B.vw (nI s.bI)
 rf:aI w 0 B.vf (nI s.fin)
 rep:aR s X
 cT:B.hp≠B.ap
 kF:B.hp≠B.ac
 apart:B.vs.Pairwise Ot
 none_:∀v∈B.vs,¬ay v B.hp/\¬ay v B.ap/\¬ay v B.ac
abbrev eU(B:HB):aA:=bw B.hp
theorem cz.fr{S:Nat->Prop}{w w':ag}{B:HB}{s:HS}{X:aj}(h:cz w B s X)(f:Fr S w w')(hs:∀k,dz B k->¬S k):cz w' B s X:=by
 have hv:∀v∈B.vs,∀k,ay v k->¬S k:=λv hv k hk=>hs k (.inr (.inr (.inr ⟨v,hv,hk⟩)));exact⟨h.cs.fr f (hs _ (.inl rfl)),h.ar.fr f (hs _ (.inr (.inl rfl))) (hs _ (.inr (.inr (.inl rfl)))),h.r0.dw f (hv _ (by simp[HB.vs])),h.r1.dw f (hv _ (by simp[HB.vs])),h.rw.dw f (hv _ (by simp[HB.vs])),h.rf.dw f (hv _ (by simp[HB.vs])),h.rep,h.cT,h.kF,h.apart,h.none_⟩
theorem cz.calm{w w':ag}{B:HB}{s:HS}{X:aj}(h:cz w B s X)(f:Calm w w'):cz w' B s X:=h.fr f (λ_ _=>id)
theorem cz.lt{w:ag}{B:HB}{s:HS}{X:aj}(h:cz w B s X):∀k,dz B k->k<w.heap.size:=by
 have hc:B.ac<w.heap.size:=by obtain⟨_,⟨t,ht⟩,_⟩:=h.ar;exact(sY.1 ht).1
 rintro k (rfl|rfl|rfl|⟨v,hv,hk⟩)
 ·exact h.cs.lt (by simp[aN])
 ·exact h.ar.lt
 ·exact hc
 ·simp[HB.vs] at hv;rcases hv with rfl|rfl|rfl|rfl
  ·exact(h.r0.lt hk).2
  ·exact(h.r1.lt hk).2
  ·exact(h.rw.lt hk).2
  ·exact(h.rf.lt hk).2
structure bz(w:ag)(B:HB)(w':ag)(B':HB):Prop where
 fr:Fr (dz B) w w'
 new:∀k,dz B' k->dz B k\/w.heap.size<=k
 hp:B'.hp=B.hp
theorem bz.refl(w:ag)(B:HB):bz w B w B:=⟨ah,λ_ h=>.inl h,rfl⟩
theorem bz.calm{w w':ag}(B:HB)(c:Calm w w'):bz w B w' B:=⟨c.any,λ_ h=>.inl h,rfl⟩
theorem bz.trans{w w' w'':ag}{B B' B'':HB}(h:bz w B w' B')(k:bz w' B' w'' B''):bz w B w'' B'':=
 ⟨h.fr.join k.fr (λj hj hb=>(h.new j hb).resolve_right (by omega)),λj hj=>by
  rcases k.new j hj with h1|h1
  ·exact h.new j h1
  ·right;have:=h.fr.size;omega,k.hp.trans h.hp⟩
theorem cz.words{w w':ag}{B:HB}{s s':HS}{X X':aj}(h:cz w B s X)(ar:Ar w' B.ap B.ac X')(f:Fr (λk=>k=B.ac) w w')(rep:aR s' X')(hc:aN B s'=aN B s)(e0:l0 s'=l0 s)(e1:l1 s'=l1 s)(ew:s'.bI=s.bI)(ef:s'.fin=s.fin) :
 cz w' B s' X'/\bz w B w' B:=by
 have hn:∀v∈B.vs,∀k,ay v k->¬k=B.ac:=λv hv k hk e=>(h.none_ v hv).2.2 (e ▸ hk);refine⟨⟨by rw[hc];exact h.cs.fr f h.kF,ar,by rw[e0];exact h.r0.dw f (hn _ (by simp[HB.vs])),by rw[e1];exact h.r1.dw f (hn _ (by simp[HB.vs])),by rw[ew];exact h.rw.dw f (hn _ (by simp[HB.vs])),by rw[ef];exact h.rf.dw f (hn _ (by simp[HB.vs])),rep,h.cT,h.kF,h.apart,h.none_⟩,f.mono (λk _ e=>.inr (.inr (.inl e))),λ_ h=>.inl h,rfl⟩
theorem mi(s:HS)(i:Nat)(o:Ob):dL (s.cV i o).cur=dL s.cur:=by
 show dL (s.cur.set i _)=dL s.cur;simp only[dL,List.map_set];apply List.ext_getElem (by simp);intro j h1 h2;rw[List.getElem_set];split
 ·rename_i e;subst e;have:i<s.cur.length:=by simpa using h2
  simp[List.getD,this]
 ·rfl
theorem I9(B:HB)(s:HS){i:Nat}{o:Ob}(hi:i<s.cur.length)(h:dV (s.cur.getD i eF).2 o):aN B (s.cV i o)=aN B s/\l0 (s.cV i o)=l0 s/\l1 (s.cV i o)=l1 s:=by
 have e1:bZ (s.cV i o).cur=bZ s.cur:=nP _ _ _ hi h.took;have e2:(s.cV i o).top=s.top:=by unfold HS.top;rw[e1];rfl
 refine⟨?_,?_,?_⟩
 ·unfold aN;rw[e2];rfl
 ·unfold l0;rw[mi];rfl
 ·unfold l1;rw[mi];rfl
def Tn(l:List Int):Prop:=∀i j,i<j->j<l.length->l.getD i 0<l.getD j 0
theorem MG{s:HS}{X:aj}(h:aR s X):Tn (nI (dL s.cur)):=by
 intro i j Et hj;have pK:j<s.cur.length:=by simpa using hj
 have nK:i<s.cur.length:=by omega
 obtain⟨p1,_,p2⟩:=h.place nK;obtain⟨r1,_,_⟩:=h.place pK;obtain⟨_,k8,_,_⟩:=Aw.at h.half.cl.lie i nK;obtain⟨_,_,k9,_⟩:=Ob.bF k8;have e1:(nI (dL s.cur)).getD i 0=((s.cur.getD i eF).1:Nat):=by simp[List.getD,nK]
 have e2:(nI (dL s.cur)).getD j 0=((s.cur.getD j eF).1:Nat):=by simp[List.getD,pK]
 have:=lx (s.base s.u) s.cur (show i+1<=j from Et);have h3:cO (s.base s.u) s.cur (i+1)=cO (s.base s.u) s.cur i+(s.cur.getD i (0,Ob.new 0 0 false false 0)).2.took:=rfl;rw[e1,e2,p1,r1];omega
theorem MH{s:HS}{X:aj}(h:aR s X):Tn (nI (jL s.aV)):=by
 intro i j Et hj;have pK:j<s.aV.length:=by simpa using hj
 have nK:i<s.aV.length:=by omega
 have:=h.half.ol.apart i j Et pK;obtain⟨_,_,k8,_⟩:=h.half.ol.at i nK;obtain⟨_,_,k9,_⟩:=Ob.bF k8;have e1:(nI (jL s.aV)).getD i 0=((s.aV.getD i oo).1:Nat):=by simp[List.getD,nK]
 have e2:(nI (jL s.aV)).getD j 0=((s.aV.getD j oo).1:Nat):=by simp[List.getD,pK]
 rw[e1,e2];omega
end
section
theorem O2(x:Int)(w:ag):aJ prog 240 #[vI x] w λe w'=>e=.returned (.bool false)/\w=w':=by
 have hb:(x==x)=true:=by simp
 have tz:(x != x)=false:=by simp
 go_in;go_wp2;go_ret;exact⟨rfl,rfl⟩
theorem QO(x:Int)(w:ag):aJ prog 204 #[vI x] w λe w'=>e=.returned (.bool false)/\w=w':=by
 have hb:(x==x)=true:=by simp
 have tz:(x != x)=false:=by simp
 go_in;go_wp2;go_ret;exact⟨rfl,rfl⟩
theorem Gl(x y:Int)(w:ag):aJ prog 203 #[vI x,vI y] w λe w'=>e=.returned (.bool (decide (x<y)))/\w=w':=by
 go_in;go_wp2_with fail
 refine(O2 x _).mono ?_;rintro e w' ⟨rfl,rfl⟩;go_wp2;go_ret;exact⟨rfl,rfl⟩
def He(l:List Int)(a:Int):Nat:=(l.filter (λx=>decide (x<a))).length
def Ov(w:ag)(l:List Int)(a:Int)(e:Ending)(w':ag):Prop:=e=.returned (.tuple #[vI (He l a:Nat),.bool (decide (a∈l))])/\Calm w w'
set_option maxRecDepth 100000 in
theorem JZ{w:ag}{v:aA}{l:List Int}(hr:Row w v (lj l))(hs:Tn l)(hn:l.length<=1000000)(a:Int)(ha:bX a) :
 aJ prog 159 #[v,vI a] w (Ov w l a):=by
 obtain⟨ra,rc,rfl,hl⟩:=hr.loop;obtain⟨n,AD⟩:=ao l.length;rw[AD] at hn ⊢;replace hl:=hid hl;replace hs:=hid hs;replace AD:=hid AD;have h0:Hid (∀k,k<0->l.getD k 0<a):=λk hk=>by omega
 have h1:Hid (∀k,n<=k->k<n->a<=l.getD k 0):=λk jg gX=>by omega
 clear hr;go_in;go_wp2;go_loopw [7,8] (λi j wr=>∃i0 j0:Nat,i0<=j0/\j0<=n/\i=vI i0/\j=vI j0/\Hid (∀k,k<i0->l.getD k 0<a)/\Hid (∀k,j0<=k->k<n->a<=l.getD k 0)/\Calm w wr) (λi j _=>(intOf j).toNat-(intOf i).toNat)
 case atStart=>exact⟨0,n,bY _,aD _,rfl,rfl,h0,h1,ah⟩
 case round=>
  clear h0 h1;obtain⟨i,j,Et,hj,rfl,rfl,h0,h1,hc⟩:=hrel;rcases fB i j with aM|ic
  ·obtain⟨m,hm⟩:∃m:Nat,((i:Int)+(j:Int)) / 2=(m:Int):=⟨(i+j) / 2,by omega⟩;have m1:i<=m:=by omega
   have m2:m<j:=by omega
   have m3:m<n:=by omega
   obtain⟨rb,Wj,rfl,Oc,hcell⟩:=hl.out m (by rw[AD.out];exact m3);replace hcell:=hc.cellAt (p:=⟨rb,Wj+m,none⟩) hcell id;obtain⟨x,hx⟩:=ao (l.getD m 0);rw[hx] at hcell;replace hx:=hid hx
   by_cases LF:x<a
   ·have hd:decide (x<a)=true:=by simpa using LF
    go_wp2_with (go_at_call 203;refine(Gl x a _).mono ?_;rintro e w' ⟨rfl,rfl⟩)
    go_roundw
    case rel=>
     refine⟨m+1,j,by omega,hj,by go_num,rfl,λk hk=>?_,h1,hc⟩
     by_cases e:k=m
     ·subst e;rw[hx.out];exact LF
     ·have:=hs.out k m (by omega) (by rw[AD.out];exact m3);rw[hx.out] at this;omega
    case measure=>simp[intOf];omega
   ·have hd:decide (x<a)=false:=by simpa using LF
    go_wp2_with (go_at_call 203;refine(Gl x a _).mono ?_;rintro e w' ⟨rfl,rfl⟩)
    go_roundw
    case rel=>
     refine⟨i,m,m1,by omega,rfl,rfl,h0,λk jg gX=>?_,hc⟩
     by_cases e:k=m
     ·subst e;rw[hx.out];omega
     ·have:=hs.out m k (by omega) (by rw[AD.out];exact gX);rw[hx.out] at this;omega
    case measure=>simp[intOf];omega
  ·obtain rfl:i=j:=by omega
   have hix:Hid (He l a=i):=by
    show He l a=i;unfold He;have e1:l=l.take i++l.drop i:=(List.take_append_drop i l).symm;rw[e1,List.filter_append,b_]
    have f1:(l.take i).filter (λx=>decide (x<a))=l.take i:=by
     rw[List.filter_eq_self];intro x hx;obtain⟨k,hk,rfl⟩:=List.getElem_of_mem hx;have gX:k<i:=by simp at hk;omega
     have:=h0.out k gX;simp at hk;simpa[List.getD,show k<l.length by omega] using this
    have f2:(l.drop i).filter (λx=>decide (x<a))=[]:=by
     rw[List.filter_eq_nil_iff];intro x hx;obtain⟨k,hk,rfl⟩:=List.getElem_of_mem hx;simp at hk;have:=h1.out (i+k) (by omega) (by rw[<-AD.out];omega);simp[List.getD,show i+k<l.length by omega] at this;simpa using this
    rw[f1,f2];simp;rw[AD.out];omega
   clear Et;rcases fB i n with aM|Ep
   ·obtain⟨rb,Wj,rfl,Oc,hcell⟩:=hl.out i (by rw[AD.out];exact aM);replace hcell:=hc.cellAt (p:=⟨rb,Wj+i,none⟩) hcell id;obtain⟨x,hx⟩:=ao (l.getD i 0);rw[hx] at hcell;have iK:x∈l:=by rw[<-hx];have:=AD.out;simp[List.getD,show i<l.length by omega]
    by_cases LF:x=a
    ·subst LF;have hd:Hid (decide (x∈l)=true):=decide_eq_true iK;have hb:(x==x)=true:=by simp
     clear hx iK;go_wp2
     go_ret2
     exact⟨by rw[hd.out,hix.out];rfl,hc⟩
    ·have hd:Hid (decide (a∈l)=false):=by
      show _=false;rw[decide_eq_false_iff_not];intro hm;obtain⟨k,hk,e⟩:=List.getElem_of_mem hm;have e2:l.getD k 0=a:=by simp[List.getD,hk,e]
      rcases Nat.lt_trichotomy k i with kT|rfl|kT
      ·have:=h0.out k kT;omega
      ·exact LF (hx.symm.trans e2)
      ·have:=hs.out i k kT hk;have:=h1.out i (aD _) aM;omega
     have hb:(x==a)=false:=by simpa using LF
     clear hx iK;go_wp2_with (go_at_call 204;refine(QO x _).mono ?_;rintro e w' ⟨rfl,rfl⟩)
     go_ret2
     exact⟨by rw[hd.out,hix.out];rfl,hc⟩
   ·have hd:Hid (decide (a∈l)=false):=by
     show _=false;rw[decide_eq_false_iff_not];intro hm;obtain⟨k,hk,e⟩:=List.getElem_of_mem hm;have e2:l.getD k 0=a:=by simp[List.getD,hk,e]
     have:=h0.out k (by have:=AD.out;omega);omega
    go_wp2
    go_ret2
    exact⟨by rw[hd.out,hix.out];rfl,hc⟩
end
section
theorem cz.own{w:ag}{B:HB}{s:HS}{X:aj}(h:cz w B s X){i:Nat}{v:aA}(hv:(aN B s)[i]?=some v):Own w B.hp i v:=h.cs i v hv
theorem cz.jW{w:ag}{B:HB}{s:HS}{X:aj}(h:cz w B s X):B.hp<w.heap.size:=h.lt _ (.inl rfl)
theorem cz.rd{w:ag}{B:HB}{s:HS}{X:aj}(h:cz w B s X)(i:Nat)(v:aA)(hv:(aN B s)[i]?=some v):∀x:a_ w,x.w.cell? ⟨B.hp,i,none⟩=some v:=λx=>x.cell (h.own hv).1
theorem cz.aci{w:ag}{B:HB}{s:HS}{X:aj}(h:cz w B s X):aI w 0 (bif s.u then B.v1 else B.v0) (nI (dL s.cur)):=by
 have h0:=h.r0;have h1:=h.r1;cases hu:s.u
 ·simpa[l0,hu] using h0
 ·simpa[l1,hu] using h1
theorem cz.acj{w:ag}{B:HB}{s:HS}{X:aj}(h:cz w B s X):aI w 0 (bif s.u then B.v0 else B.v1) (nI (jL s.aV)):=by
 have h0:=h.r0;have h1:=h.r1;cases hu:s.u
 ·simpa[l1,hu] using h1
 ·simpa[l0,hu] using h0
theorem aR.nG{s:HS}{X:aj}(h:aR s X):s.cur.length<=4096/\s.aV.length<=4096:=by
 have h1:=h.half.cl.lie.le;have h2:=h.half.ol.le;have h3:=h.gh;have h4:=h.n2;omega
theorem nM{s:HS}{X:aj}(h:aR s X):zU (s.base s.u:Nat) s.n (s.top:Nat):=by
 have h1:=h.gh;have h2:=h.n2;have h3:=h.sep;have h4:=h.len;refine⟨by omega,by omega,by omega,by omega,?_,by omega⟩;unfold HS.top;omega
theorem Gs{s:HS}{X:aj}(h:aR s X):zU (s.base (!s.u):Nat) s.n (s.hZ:Nat):=by
 have h1:=h.gh;have h2:=h.n2;have h3:=h.sep;have h4:=h.len;refine⟨by omega,by omega,by omega,by omega,?_,by omega⟩;unfold HS.hZ;omega
theorem jK{w:ag}{B:HB}{s:HS}{X:aj}(h:cz w B s X) :
 aJ prog 210 #[eU B] w λe w'=>e=.returned (.bool s.mv)/\w=w':=by
 have y:=(h.own (i:=10) (v:=.bool s.mv) rfl).1;clear h;go_in;go_wp2;go_ret;exact⟨rfl,rfl⟩
theorem z_{w:ag}{B:HB}{s:HS}{X:aj}(h:cz w B s X) :
 aJ prog 222 #[eU B] w λe w'=>e=.returned (vI s.room)/\Calm w w':=by
 have gA:=h.rep.room;have rV:=h.rep.n2;have bU:=nM h.rep
 have zG:Hid (((s.n:Int)-((s.top:Nat)-(s.base s.u:Nat)))-(eQ s.aV:Nat)=s.room):=by
  show _=s.room;unfold HS.room HS.top;push_cast;omega
 have hof:(eQ s.aV:Int)<=16384:=by omega
 have mf:=h.rep.gh;have yo:=h.rd 11 (vI (eQ s.aV:Nat)) rfl;have Ej:=jQ s;have fA:IntKind.i64.wrap (((s.n:Int)-((s.top:Nat)-(s.base s.u:Nat)))-(eQ s.aV:Nat))=((s.n:Int)-((s.top:Nat)-(s.base s.u:Nat)))-(eQ s.aV:Nat):=IntWalk.i64_in _ (by rw[zG.out];unfold HS.room;omega);cases hu:s.u
 ·have y9:=h.rd 9 (vI 0) (by simp[aN,hu]);have y1:=h.rd 1 (vI 1) (by simp[aN,hu]);have y2:=h.rd 2 (vI s.n) (by simp[aN,hu]);have y3:=h.rd 3 (vI s.top) (by simp[aN,hu]);have eb:((s.base s.u:Nat):Int)=1:=by rw[(Ej.2 hu).1];rfl
  rw[eb] at bU zG fA;have hle:=hid (λW=>uS _ _ _ W bU);clear h Ej mf bU eb hu;go_in;go_wp2;refine bO (by kernel_rfl) (by kernel_rfl) ?_
  repeat (go_big_quiet_step ((go_at_call 247;exact Calls.dC (hle.out _))))
  refine wpQuiet_nil ?_;intro w2 hw';have c2:=a_.out hw';clear hw' y9 y1 y2 y3 yo fA;go_wp2;go_ret;exact⟨congrArg (λz=>Ending.returned (vI z)) zG.out,c2⟩
 ·have y9:=h.rd 9 (vI 1) (by simp[aN,hu]);have y1:=h.rd 4 (vI (1+s.n)) (by simp[aN,hu]);have y2:=h.rd 5 (vI s.n) (by simp[aN,hu]);have y3:=h.rd 6 (vI s.top) (by simp[aN,hu]);have eb:((s.base s.u:Nat):Int)=1+s.n:=by rw[(Ej.1 hu).1];push_cast;rfl
  rw[eb] at bU zG fA;have hle:=hid (λW=>uS _ _ _ W bU);clear h Ej mf bU eb hu;go_in;go_wp2;refine bO (by kernel_rfl) (by kernel_rfl) ?_
  repeat (go_big_quiet_step ((go_at_call 247;exact Calls.dC (hle.out _))))
  refine wpQuiet_nil ?_;intro w2 hw';have c2:=a_.out hw';clear hw' y9 y1 y2 y3 yo fA;go_wp2;go_ret;exact⟨congrArg (λz=>Ending.returned (vI z)) zG.out,c2⟩
theorem qe{w:ag}{B:HB}{s:HS}{X:aj}(h:cz w B s X)(a:Int)(ha:bX a) :
 aJ prog 88 #[eU B,vI a] w λe w'=>e=.returned (.bool (decide (a∈nI (dL s.cur))))/\Calm w w':=by
 have aP:=h.aci;have uJ:=MG h.rep;have jq:=h.rep.nG;obtain⟨D,hD⟩:=ao (decide (a∈nI (dL s.cur)));obtain⟨bi,Zh⟩:=ao (He (nI (dL s.cur)) a)
 have hb:Hid (∀x:a_ w,aJ prog 159 #[bif s.u then B.v1 else B.v0,vI a] x.w λe w'=>e=.returned (.tuple #[vI (bi:Nat),.bool D])/\Calm x.w w'):=λx=>by
  rw[<-hD,<-Zh];exact JZ (aP.calm x.calm).row uJ (by simp;omega) a ha
 rw[hD];clear hD Zh;have ye:=h.rd 7 B.v0 rfl;have rz:=h.rd 8 B.v1 rfl;cases hu:s.u
 ·have y9:=h.rd 9 (vI 0) (by simp[aN,hu]);rw[hu] at hb;simp only[cond_false] at hb;clear h aP uJ hu;go_in;go_wp2;refine bO (by kernel_rfl) (by kernel_rfl) ?_
  repeat (go_big_quiet_step ((go_at_call 159;exact Calls.dC (hb.out _))))
  refine wpQuiet_nil ?_;intro w2 hw';have c2:=a_.out hw';clear hw' y9 ye rz;go_wp2;go_ret;exact⟨rfl,c2⟩
 ·have y9:=h.rd 9 (vI 1) (by simp[aN,hu]);rw[hu] at hb;simp only[cond_true] at hb;clear h aP uJ hu;go_in;go_wp2;refine bO (by kernel_rfl) (by kernel_rfl) ?_
  repeat (go_big_quiet_step ((go_at_call 159;exact Calls.dC (hb.out _))))
  refine wpQuiet_nil ?_;intro w2 hw';have c2:=a_.out hw';clear hw' y9 ye rz;go_wp2;go_ret;exact⟨rfl,c2⟩
theorem iB{w:ag}{B:HB}{s:HS}{X:aj}(h:cz w B s X)(a:Int)(ha:bX a) :
 aJ prog 190 #[eU B,vI a] w λe w'=>e=.returned (.bool (decide (a∈nI (jL s.aV))))/\Calm w w':=by
 have kU:=hid (jK h);cases hm:s.mv
 ·have ho:=h.rep.still hm;have hd:Hid (decide (a∈nI (jL s.aV))=false):=by show _=false;rw[ho];simp
  rw[hm] at kU;clear h ho hm;go_in;go_wp2_with fail
  refine(kU.out).mono ?_;rintro e w' ⟨rfl,rfl⟩;go_wp2;go_ret;exact⟨by rw[hd.out];rfl,ah⟩
 ·have aP:=h.acj;have uJ:=MH h.rep;have jq:=h.rep.nG;obtain⟨D,hD⟩:=ao (decide (a∈nI (jL s.aV)));obtain⟨bi,Zh⟩:=ao (He (nI (jL s.aV)) a)
  have hb:Hid (∀x:a_ w,aJ prog 159 #[bif s.u then B.v0 else B.v1,vI a] x.w λe w'=>e=.returned (.tuple #[vI (bi:Nat),.bool D])/\Calm x.w w'):=λx=>by
   rw[<-hD,<-Zh];exact JZ (aP.calm x.calm).row uJ (by simp;omega) a ha
  rw[hD];clear hD Zh;have ye:=h.rd 7 B.v0 rfl;have rz:=h.rd 8 B.v1 rfl;rw[hm] at kU;cases hu:s.u
  ·have y9:=h.rd 9 (vI 0) (by simp[aN,hu]);rw[hu] at hb;simp only[cond_false] at hb;clear h aP uJ hu hm;go_in;go_wp2_with fail
   refine(kU.out).mono ?_;rintro e w' ⟨rfl,rfl⟩;go_wp2_with fail
   refine bO (by kernel_rfl) (by kernel_rfl) ?_
   repeat (go_big_quiet_step ((go_at_call 159;exact Calls.dC (hb.out _))))
   refine wpQuiet_nil ?_;intro w2 hw';have c2:=a_.out hw';clear hw' y9 ye rz;go_wp2;go_ret;exact⟨rfl,c2⟩
  ·have y9:=h.rd 9 (vI 1) (by simp[aN,hu]);rw[hu] at hb;simp only[cond_true] at hb;clear h aP uJ hu hm;go_in;go_wp2_with fail
   refine(kU.out).mono ?_;rintro e w' ⟨rfl,rfl⟩;go_wp2_with fail
   refine bO (by kernel_rfl) (by kernel_rfl) ?_
   repeat (go_big_quiet_step ((go_at_call 159;exact Calls.dC (hb.out _))))
   refine wpQuiet_nil ?_;intro w2 hw';have c2:=a_.out hw';clear hw' y9 ye rz;go_wp2;go_ret;exact⟨rfl,c2⟩
end
section
structure aY(s:HS)(i a:Nat)(o:Ob):Prop where
 lt:i<s.cur.length
 get:s.cur.getD i eF=(a,o)
theorem aY.mem{s:HS}{i a:Nat}{o:Ob}(c:aY s i a o):a∈dL s.cur:=by
 have h1:s.cur[i]'c.lt=(a,o):=by have:=c.get;simpa[List.getD,c.lt] using this
 exact List.mem_map.2 ⟨(a,o),h1 ▸ List.getElem_mem _,rfl⟩
theorem aY.at_{s:HS}{X:aj}(h:aR s X){i a:Nat}{o:Ob}(c:aY s i a o):At X a o:=by
 have:=h.at_ c.lt;have e:s.cur.getD i (0,Ob.new 0 0 false false 0)=(a,o):=c.get;rw[e] at this;exact this
theorem aY.im{s:HS}{a:Nat}(h:a∈dL s.cur):∃i o,aY s i a o:=by
 obtain⟨x,hx,rfl⟩:=List.mem_map.1 h;obtain⟨i,hi,e⟩:=List.getElem_of_mem hx;exact⟨i,x.2,hi,by simp[List.getD,hi,e]⟩
theorem gV{a:Nat}{l:aj} : ((a:Nat):Int)∈nI l↔a∈l:=by
 constructor
 ·intro h;obtain⟨x,hx,e⟩:=List.mem_map.1 h;have:x=a:=by omega
  exact this ▸ hx
 ·intro h;exact List.mem_map.2 ⟨a,h,rfl⟩
theorem fy{w:ag}{B:HB}{s:HS}{X:aj}(h:cz w B s X){a:Nat}(hm:a∈dL s.cur)(hb:a<=131072) :
 aJ prog 88 #[eU B,vI a] w λe w'=>e=.returned (.bool true)/\Calm w w':=by
 refine(qe h a ⟨by omega,by omega⟩).mono (λe w' ⟨h1,h2⟩=>⟨?_,h2⟩);rw[h1,decide_eq_true (gV.2 hm)]
theorem ja{w:ag}{B:HB}{s:HS}{X:aj}(h:cz w B s X){a:Int}(ha:bX a)(hm:a∉nI (dL s.cur)) :
 aJ prog 88 #[eU B,vI a] w λe w'=>e=.returned (.bool false)/\Calm w w':=by
 refine(qe h a ha).mono (λe w' ⟨h1,h2⟩=>⟨?_,h2⟩);rw[h1,decide_eq_false hm]
theorem aY.le{s:HS}{X:aj}(h:aR s X){i a:Nat}{o:Ob}(c:aY s i a o):a<=131072:=by
 have h1:=(c.at_ h).lt;have h2:=h.len;have h3:=h.n2;omega
theorem cz.fD{w w':ag}{B:HB}{s:HS}{X X':aj}(h:cz w B s X){i a:Nat}{o o':Ob}(c:aY s i a o)(ar:Ar w' B.ap B.ac X')(f:Fr (λk=>k=B.ac) w w')(hl:X'.length=X.length)(ha:At X' a o')(hs:dV o o')
 (hj:∀j,j<a\/a+o.size<=j->X'.getD j 0=X.getD j 0):cz w' B (s.cV i o') X'/\bz w B w' B:=by
 have hr:=h.rep.cV c.lt (o':=o') hl (by rw[c.get];exact ha) (by rw[c.get];exact hs) (by rw[c.get];exact hj);obtain⟨e1,e2,e3⟩:=I9 B s c.lt (o:=o') (by rw[c.get];exact hs);exact h.words ar f hr e1 e2 e3 rfl rfl
theorem NL{s:HS}{i a:Nat}{o:Ob}(c:aY s i a o):s.cV i o=s:=by
 unfold HS.cV;have e:s.cur.getD i (0,Ob.new 0 0 false false 0)=(a,o):=c.get;rw[e]
 have:s.cur.set i (a,o)=s.cur:=by
  apply List.ext_getElem (by simp);intro j h1 h2;rw[List.getElem_set];split
  ·rename_i e2;subst e2;have:=c.get;simp[List.getD,c.lt] at this;exact this.symm
  ·rfl
 rw[this]
def Ob.Fp(o:Ob)(bp:Bool)(k v:Int):Ob:=bif bp then { o with ns:=o.ns.set k.toNat (zg v) } else o
def Ob.e_(o:Ob)(bp:Bool)(k:Int)(v:Nat):Ob:=bif bp then { o with ps:=o.ps.set k.toNat v } else o
theorem Ob.rJ(o:Ob)(bp:Bool)(k v:Int):dV o (o.Fp bp k v):=by cases bp <;> exact⟨rfl,rfl,rfl,rfl,rfl⟩
theorem Ob.cZ(o:Ob)(bp:Bool)(k:Int)(v:Nat):dV o (o.e_ bp k v):=by cases bp <;> exact⟨rfl,rfl,rfl,rfl,rfl⟩
section
variable {w:ag}{B:HB}{s:HS}{X:aj}
theorem EB(h:cz w B s X){a:Int}(ha:bX a)(hm:a∉nI (dL s.cur)) :
 aJ prog 61 #[eU B,vI a] w λe w'=>e=.returned (.tuple #[vI 0,vI 70])/\Calm w w':=by
 have hh:=hid (ja h ha hm);clear h hm;go_in;go_wp2_with fail
 refine(hh.out).mono ?_;rintro e w1 ⟨rfl,c1⟩;go_wp2
 go_ret2
 exact⟨rfl,c1⟩
theorem P0(h:cz w B s X){a:Int}(ha:bX a)(hm:a∉nI (dL s.cur))(k:Int) :
 aJ prog 143 #[eU B,vI a,vI k] w λe w'=>e=.returned (.tuple #[vI 0,vI 70])/\Calm w w':=by
 have hh:=hid (ja h ha hm);clear h hm;go_in;go_wp2_with fail
 refine(hh.out).mono ?_;rintro e w1 ⟨rfl,c1⟩;go_wp2
 go_ret2
 exact⟨rfl,c1⟩
theorem ED(h:cz w B s X){a:Int}(ha:bX a)(hm:a∉nI (dL s.cur))(k v:Int) :
 aJ prog 145 #[eU B,vI a,vI k,vI v] w λe w'=>e=.returned (vI 70)/\Calm w w':=by
 have hh:=hid (ja h ha hm);clear h hm;go_in;go_wp2_with fail
 refine(hh.out).mono ?_;rintro e w1 ⟨rfl,c1⟩;go_wp2;go_ret;exact⟨rfl,c1⟩
theorem zH(h:cz w B s X){a:Int}(ha:bX a)(hm:a∉nI (dL s.cur))(v:Bool) :
 aJ prog 149 #[eU B,vI a,.bool v] w λe w'=>e=.returned (vI 70)/\Calm w w':=by
 have hh:=hid (ja h ha hm);clear h hm;go_in;go_wp2_with fail
 refine(hh.out).mono ?_;rintro e w1 ⟨rfl,c1⟩;go_wp2;go_ret;exact⟨rfl,c1⟩
theorem wZ(h:cz w B s X){a:Int}(ha:bX a)(hm:a∉nI (dL s.cur))(v:Nat) :
 aJ prog 182 #[eU B,vI a,wV v] w λe w'=>e=.returned (vI 70)/\Calm w w':=by
 have hh:=hid (ja h ha hm);clear h hm;go_in;go_wp2_with fail
 refine(hh.out).mono ?_;rintro e w1 ⟨rfl,c1⟩;go_wp2;go_ret;exact⟨rfl,c1⟩
theorem P2(h:cz w B s X){a:Int}(ha:bX a)(hm:a∉nI (dL s.cur))(k:Int) :
 aJ prog 135 #[eU B,vI a,vI k] w λe w'=>e=.returned (.tuple #[vI 0,vI 70])/\Calm w w':=by
 have hh:=hid (ja h ha hm);clear h hm;go_in;go_wp2_with fail
 refine(hh.out).mono ?_;rintro e w1 ⟨rfl,c1⟩;go_wp2
 go_ret2
 exact⟨rfl,c1⟩
theorem EF(h:cz w B s X){a:Int}(ha:bX a)(hm:a∉nI (dL s.cur))(k v:Int) :
 aJ prog 133 #[eU B,vI a,vI k,vI v] w λe w'=>e=.returned (vI 70)/\Calm w w':=by
 have hh:=hid (ja h ha hm);clear h hm;go_in;go_wp2_with fail
 refine(hh.out).mono ?_;rintro e w1 ⟨rfl,c1⟩;go_wp2;go_ret;exact⟨rfl,c1⟩
theorem Cf(h:cz w B s X){i a:Nat}{o:Ob}(c:aY s i a o) :
 aJ prog 61 #[eU B,vI a] w λe w'=>e=.returned (.tuple #[vI o.ser,vI 0])/\Calm w w':=by
 have hh:=hid (fy h c.mem (c.le h.rep));have y0:=(h.own (i:=0) (v:=eL B.ap) rfl).1;have ha:=hid (c.at_ h.rep);have H:=hid h;clear h;go_in;go_wp2_with fail
 refine(hh.out).mono ?_;rintro e w1 ⟨rfl,c1⟩;replace y0:=c1.cellAt y0 id;replace H:=hid (H.out.calm c1);go_wp2_with fail
 refine(xG H.out.ar ha.out).mono ?_;rintro e w2 ⟨rfl,c2⟩;go_wp2
 go_ret2
 exact⟨rfl,c1.trans c2⟩
theorem PZ(h:cz w B s X){i a:Nat}{o:Ob}(c:aY s i a o){bp:Bool}{k:Int}(hk:Has bp k o.d) :
 aJ prog 143 #[eU B,vI a,vI k] w λe w'=>e=.returned (.tuple #[vI (bif bp then zt (o.ns.getD k.toNat 0) else 0),vI (bif bp then 0 else 71)])/\Calm w w':=by
 replace hk:=hid hk;have hh:=hid (fy h c.mem (c.le h.rep));have y0:=(h.own (i:=0) (v:=eL B.ap) rfl).1;have ha:=hid (c.at_ h.rep);have H:=hid h;clear h;go_in;go_wp2_with fail
 refine(hh.out).mono ?_;rintro e w1 ⟨rfl,c1⟩;replace y0:=c1.cellAt y0 id;replace H:=hid (H.out.calm c1);go_wp2_with fail
 refine(G9 H.out.ar ha.out hk.out).mono ?_;rintro e w2 ⟨rfl,c2⟩;go_wp2
 go_ret2
 exact⟨rfl,c1.trans c2⟩
theorem EC(h:cz w B s X){i a:Nat}{o:Ob}(c:aY s i a o){bp:Bool}{k v:Int}(hk:Has bp k o.d)(hv:bX v) :
 aJ prog 145 #[eU B,vI a,vI k,vI v] w λe w'=>e=.returned (vI (bif bp then 0 else 71))/\∃X',cz w' B (s.cV i (o.Fp bp k v)) X'/\bz w B w' B:=by
 replace hk:=hid hk;replace hv:=hid hv;have hh:=hid (fy h c.mem (c.le h.rep));have y0:=(h.own (i:=0) (v:=eL B.ap) rfl).1;have ha:=hid (c.at_ h.rep);have H:=hid h;clear h;go_in;go_wp2_with fail
 refine(hh.out).mono ?_;rintro e w1 ⟨rfl,c1⟩;replace y0:=c1.cellAt y0 id;replace H:=hid (H.out.calm c1);go_wp2_with fail
 refine(yY H.out.ar ha.out hk.out hv.out).mono ?_;rintro e w2 ⟨rfl,OQ,f2⟩;have ht:=hid (H.out.fD c OQ f2 (o':=o.Fp bp k v) (by cases bp <;> simp) (Has.DQ ha.out hk.out hv.out) (o.rJ bp k v) (λj hj=>by have hk:=hk.out;simp only[Ob.size] at hj;rcases hk with ⟨rfl,h1,h2⟩|⟨rfl,h1⟩ <;> simp only[cond_true,cond_false];rw[dr,if_neg (by omega)]));have fR:=bz.calm B c1;go_wp2;go_ret;exact⟨rfl,_,ht.out.1,fR.trans ht.out.2⟩
theorem wY(h:cz w B s X){i a:Nat}{o:Ob}(c:aY s i a o)(Bp:Bool) :
 aJ prog 149 #[eU B,vI a,.bool Bp] w λe w'=>e=.returned (vI 0)/\∃X',cz w' B (s.cV i ({ o with fr:=Bp })) X'/\bz w B w' B:=by
 have hh:=hid (fy h c.mem (c.le h.rep));have y0:=(h.own (i:=0) (v:=eL B.ap) rfl).1;have ha:=hid (c.at_ h.rep);have H:=hid h;clear h;go_in;go_wp2_with fail
 refine(hh.out).mono ?_;rintro e w1 ⟨rfl,c1⟩;replace y0:=c1.cellAt y0 id;replace H:=hid (H.out.calm c1);go_wp2_with fail
 refine(Bc H.out.ar ha.out Bp).mono ?_;rintro e w2 ⟨rfl,OQ,f2⟩;have ht:=hid (H.out.fD c OQ f2 (o':={ o with fr:=Bp }) (by simp) (ha.out.QM Bp) (⟨rfl,rfl,rfl,rfl,rfl⟩) (λj hj=>by simp only[Ob.size] at hj;rw[dr,if_neg (by omega)]));have fR:=bz.calm B c1;go_wp2;go_ret;exact⟨rfl,_,ht.out.1,fR.trans ht.out.2⟩
theorem uM(h:cz w B s X){i a:Nat}{o:Ob}(c:aY s i a o)(v:Nat) :
 aJ prog 182 #[eU B,vI a,wV v] w λe w'=>e=.returned (vI 0)/\∃X',cz w' B (s.cV i ({ o with snd:=v })) X'/\bz w B w' B:=by
 have hh:=hid (fy h c.mem (c.le h.rep));have y0:=(h.own (i:=0) (v:=eL B.ap) rfl).1;have ha:=hid (c.at_ h.rep);have H:=hid h;clear h;go_in;go_wp2_with fail
 refine(hh.out).mono ?_;rintro e w1 ⟨rfl,c1⟩;replace y0:=c1.cellAt y0 id;replace H:=hid (H.out.calm c1);go_wp2_with fail
 refine(zb H.out.ar ha.out v).mono ?_;rintro e w2 ⟨rfl,OQ,f2⟩;have ht:=hid (H.out.fD c OQ f2 (o':={ o with snd:=v }) (by simp) (ha.out.Wn v) (⟨rfl,rfl,rfl,rfl,rfl⟩) (λj hj=>by simp only[Ob.size] at hj;rw[dr,if_neg (by omega)]));have fR:=bz.calm B c1;go_wp2;go_ret;exact⟨rfl,_,ht.out.1,fR.trans ht.out.2⟩
end
end
