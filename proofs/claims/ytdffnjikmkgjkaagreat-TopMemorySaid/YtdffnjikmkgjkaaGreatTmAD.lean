/- TopMemory: a part of its proof (HeapL HeapA). -/
import Derived.Test.YtdffnjikmkgjkaaGreatTmAA
import Derived.Test.YtdffnjikmkgjkaaGreatTmAC
import Derived.Test.YtdffnjikmkgjkaaGreatTmAB
set_option linter.unusedSimpArgs false
set_option linter.unusedVariables false
set_option maxHeartbeats 1000000
namespace Go.Proofs.YtdffnjikmkgjkaaGreat
section
open Go.RowKit
def SameK (o o':Ob):Prop:=o'.p=o.p∧o'.d=o.d∧o'.wk=o.wk∧o'.fn=o.fn∧o'.ser=o.ser
theorem SameK.refl (o:Ob):SameK o o:=⟨rfl,rfl,rfl,rfl,rfl⟩
theorem SameK.trans {a b c:Ob}(h:SameK a b)(k:SameK b c):SameK a c:=⟨k.1.trans h.1,k.2.1.trans h.2.1,k.2.2.1.trans h.2.2.1,k.2.2.2.1.trans h.2.2.2.1,k.2.2.2.2.trans h.2.2.2.2⟩
theorem SameK.took {a b:Ob}(h:SameK a b):b.took=a.took:=by unfold Ob.took Ob.size;rw[h.1,h.2.1]
structure HS where
  n:Nat
  u:Bool
  mv:Bool
  cur:List (Nat × Ob)
  old:List (Nat × Ob × Option Nat)
  scan:Nat
  ser:Nat
  weak:List Nat
  fin:List Nat
def HS.base (s:HS)(b:Bool):Nat:=bif b then 1+s.n else 1
def tookC:List (Nat × Ob)→Nat | []=>0|(_,o)::l=>o.took+tookC l
def tookO:List (Nat × Ob × Option Nat)→Nat | []=>0|(_,o,_)::l=>o.took+tookO l
def HS.top (s:HS):Nat:=s.base s.u+tookC s.cur
def HS.otop (s:HS):Nat:=s.base (!s.u)+tookO s.old
def HS.room (s:HS):Int:=(s.n:Int)-tookC s.cur-owed s.old
abbrev opl (l:List (Nat × Ob × Option Nat)):List Nat:=l.map (·.1)
theorem tookC_snoc (l:List (Nat × Ob))(x:Nat × Ob):tookC (l++[x])=tookC l+x.2.took:=by
  induction l with
  | nil=>show x.2.took+0=0+x.2.took;omega
  | cons y l ih=>show y.2.took+tookC (l++[x])=y.2.took+tookC l+x.2.took;omega
theorem tookO_fresh (l:List (Nat × Ob)):tookO (l.map fun x=>(x.1,x.2,(none:Option Nat)))=tookC l:=by
  induction l with
  | nil=>rfl
  | cons x l ih=>show x.2.took+_=x.2.took+_;omega
theorem owed_fresh (l:List (Nat × Ob)):owed (l.map fun x=>(x.1,x.2,(none:Option Nat)))=tookC l:=by
  induction l with
  | nil=>rfl
  | cons x l ih=>show x.2.took+_=x.2.took+_;omega
structure HRep (s:HS)(X:List Nat):Prop where
  n1:16≤s.n
  n2:s.n≤16384
  len:X.length=2*s.n+1
  zero:X.getD 0 0=0
  half:Half SameK X (s.base (!s.u)) s.otop s.old (s.base s.u) s.top s.cur
  oroom:tookO s.old≤s.n
  room:tookC s.cur+owed s.old≤s.n
  still:s.mv=false→s.old=[]
  ser:s.ser≤1099511627776
  few:s.weak.length≤100000∧s.fin.length≤100000
theorem HRep.at_ {s:HS}{X:List Nat}(h:HRep s X){i:Nat}(hi:i<s.cur.length):At X (s.cur.getD i (0,Ob.new 0 0 false false 0)).1 (s.cur.getD i (0,Ob.new 0 0 false false 0)).2:=by
  have h1:=h.half.cl.at i hi;rw[←(Lie.at h.half.cl.lie i hi).1] at h1;exact h1
theorem base_sep (s:HS):(s.u=true→s.base s.u=1+s.n∧s.base (!s.u)=1)∧(s.u=false→s.base s.u=1∧s.base (!s.u)=1+s.n):=by
  constructor <;> intro h <;> rw[h] <;> exact⟨rfl,rfl⟩
theorem HRep.sep {s:HS}{X:List Nat}(h:HRep s X):(s.base s.u+s.n≤s.base (!s.u)∨s.base (!s.u)+s.n≤s.base s.u)∧s.base s.u+s.n≤X.length∧s.base (!s.u)+s.n≤X.length∧1≤s.base s.u∧1≤s.base (!s.u):=by
  have h1:=base_sep s;have h2:=h.len;cases hu:s.u
  · obtain⟨e1,e2⟩:=h1.2 hu;rw[hu] at e1 e2;rw[e1,e2];omega
  · obtain⟨e1,e2⟩:=h1.1 hu;rw[hu] at e1 e2;rw[e1,e2];omega
theorem HRep.top_le {s:HS}{X:List Nat}(h:HRep s X):s.top+owed s.old≤s.base s.u+s.n∧s.otop≤s.base (!s.u)+s.n:=by
  have h1:=h.room;have h2:=h.oroom;unfold HS.top HS.otop;omega
def HS.upd (s:HS)(i:Nat)(o:Ob):HS:={ s with cur:=s.cur.set i ((s.cur.getD i (0,Ob.new 0 0 false false 0)).1,o) }
theorem tookC_set:∀ (l:List (Nat × Ob)) (i:Nat) (x:Nat × Ob),i<l.length→x.2.took=(l.getD i (0,Ob.new 0 0 false false 0)).2.took→tookC (l.set i x)=tookC l
  | y::l,0,x,_,h=>by
    have h:x.2.took=y.2.took:=h;show x.2.took+tookC l=y.2.took+tookC l;omega
  | y::l,i+1,x,hi,h=>by
    have:=tookC_set l i x (by simpa using hi) h;show y.2.took+tookC (l.set i x)=y.2.took+tookC l;omega
theorem Half.upd {X X':List Nat}{bo eo bn en:Nat}{old:List (Nat × Ob × Option Nat)}{cur:List (Nat × Ob)}(h:Half SameK X bo eo old bn en cur)(hap:eo≤bn∨en≤bo){i:Nat}(hi:i<cur.length){o':Ob}(hl:X'.length=X.length)
    (ha:At X' (begs bn cur i) o') (hs:SameK (cur.getD i (0,Ob.new 0 0 false false 0)).2 o') (hj:∀j,j<begs bn cur i∨begs bn cur i+o'.took≤j→X'.getD j 0=X.getD j 0) :
    Half SameK X' bo eo old bn en (cur.set i (begs bn cur i,o')):=by
  have hb:=begs_ge bn cur i;obtain⟨_,h8,_,h9⟩:=Lie.at h.cl.lie i hi;have h9:begs bn cur i+(cur.getD i (0,Ob.new 0 0 false false 0)).2.took≤en:=h9;have ht:=hs.took;refine⟨OldL.congr hl h.ol (fun j j1 j2=>hj j (by omega)),Laid.upd hl h.cl hi ha ht hj,fun k hk t ht2=>?_,h.inj⟩;obtain⟨q,q1,q2,q3⟩:=h.gone k hk t ht2;refine⟨q,by simpa using q1,?_,?_⟩
  · rw[←q2]
    have:∀m,m≤cur.length→begs bn (cur.set i (begs bn cur i,o')) m=begs bn cur m:=by
      intro m
      induction m with
      | zero=>intro _;rfl
      | succ m ih=>
        intro hm;show begs bn (cur.set i (begs bn cur i,o')) m+_=begs bn cur m+_;rw[ih (by omega)]
        by_cases e:m=i
        · subst e;rw[getD_set_self _ _ _ hi];show _+o'.took=_;rw[ht]
        · rw[getD_set_ne _ _ _ (Ne.symm e)]
    exact this q (by omega)
  · by_cases e:q=i
    · subst e;rw[getD_set_self _ _ _ hi];exact q3.trans hs
    · rw[getD_set_ne _ _ _ (Ne.symm e)];exact q3
abbrev ob0:Nat × Ob:=(0,Ob.new 0 0 false false 0)
theorem HRep.apart {s:HS}{X:List Nat}(h:HRep s X):s.otop≤s.base s.u∨s.base s.u+s.n≤s.base (!s.u):=by
  have h1:=h.sep;have h2:=h.top_le;omega
theorem HRep.place {s:HS}{X:List Nat}(h:HRep s X){i:Nat}(hi:i<s.cur.length):(s.cur.getD i ob0).1=begs (s.base s.u) s.cur i∧s.base s.u≤(s.cur.getD i ob0).1∧(s.cur.getD i ob0).1+(s.cur.getD i ob0).2.took≤s.top:=by
  obtain⟨h1,_,_,h2⟩:=Lie.at h.half.cl.lie i hi;exact⟨h1,by rw[h1];exact begs_ge _ _ _,by rw[h1];exact h2⟩
theorem HRep.upd {s:HS}{X X':List Nat}(h:HRep s X){i:Nat}(hi:i<s.cur.length){o':Ob}(hl:X'.length=X.length)(ha:At X' (s.cur.getD i ob0).1 o')(hs:SameK (s.cur.getD i ob0).2 o')
    (hj:∀j,j<(s.cur.getD i ob0).1∨(s.cur.getD i ob0).1+(s.cur.getD i ob0).2.size≤j→X'.getD j 0=X.getD j 0):HRep (s.upd i o') X':=by
  obtain⟨hp,hb,ht⟩:=h.place hi;have hsep:=h.sep;have htop:=h.top_le;have hok:=(h.at_ hi).ok;have e1:tookC (s.cur.set i ((s.cur.getD i ob0).1,o'))=tookC s.cur:=tookC_set _ _ _ hi hs.took;obtain⟨_,q2,_,_⟩:=Ob.took_eq hok;have hsz:=hs.took;refine⟨h.n1,h.n2,by rw[hl];exact h.len,by rw[hj 0 (by omega)];exact h.zero,?_,h.oroom,?_,h.still,h.ser,h.few⟩
  · have e2:(s.upd i o').top=s.top:=by unfold HS.top;show s.base s.u+tookC (s.cur.set i ((s.cur.getD i ob0).1,o'))=_;rw[e1]
    rw[e2];have q3:(s.cur.getD i ob0).2.size≤o'.took:=by rw[hsz];exact q2
    have hj':∀j,j<begs (s.base s.u) s.cur i∨begs (s.base s.u) s.cur i+o'.took≤j→X'.getD j 0=X.getD j 0:=fun j k=>hj j (by
      rw[hp];omega)
    have:=Half.upd h.half (by have:=h.apart;omega) hi hl (by rw[←hp];exact ha) hs hj';rw[←hp] at this;exact this
  · show tookC (s.cur.set i ((s.cur.getD i ob0).1,o'))+_≤_;rw[e1];exact h.room
def HS.alloc (s:HS)(p d:Nat)(wk fn:Bool):HS:=
  { s with cur:=s.cur++[(s.top,Ob.new p d wk fn (s.ser+1))],ser:=s.ser+1,weak:=bif wk then s.weak++[s.top] else s.weak,fin:=bif fn then s.fin++[s.top] else s.fin }
theorem HRep.alloc {s:HS}{X:List Nat}(h:HRep s X){p d:Nat}{wk fn:Bool}(hok:okS p d wk fn)(hr:rnd ((3+p+d:Nat):Int)≤s.room)(hs:s.ser<1099511627776)(hf:s.weak.length<100000∧s.fin.length<100000) :
    HRep (s.alloc p d wk fn) (made X s.top p d wk fn (s.ser+1))∧s.top+(3+p+d)≤X.length:=by
  have hO:(Ob.new p d wk fn (s.ser+1)).Ok:=Ob.new_ok hok (by omega);obtain⟨q1,q2,q3,q4⟩:=Ob.took_eq hO;have hsz:(Ob.new p d wk fn (s.ser+1)).size=3+p+d:=rfl;rw[hsz] at q1 q2;have hsep:=h.sep;have htop:=h.top_le;have hap:=h.apart;have hrm:=h.room;have hor:=h.oroom;unfold HS.room at hr;have htk:s.top+(Ob.new p d wk fn (s.ser+1)).took+owed s.old≤s.base s.u+s.n:=by unfold HS.top;omega
  have hb:s.base s.u≤s.top:=by unfold HS.top;omega
  have hX:s.top+(3+p+d)≤X.length:=by omega
  have hg:=made_getD (wk:=wk) (fn:=fn) (ser:=s.ser+1) hX;have hA:=made_at (xs:=X) hok (by omega:s.ser+1≤1099511627776) hX;have hlen:=made_length X s.top p d wk fn (s.ser+1)
  have hout:∀j,j<s.top∨s.top+(3+p+d)≤j→(made X s.top p d wk fn (s.ser+1)).getD j 0=X.getD j 0:=fun j hj=>by
    rw[hg,if_neg (by omega),if_neg (by omega),if_neg (by omega)]
  have e2:(s.alloc p d wk fn).top=s.top+(Ob.new p d wk fn (s.ser+1)).took:=by
    show s.base s.u+tookC (s.cur++[(s.top,Ob.new p d wk fn (s.ser+1))])=_;rw[tookC_snoc];show s.base s.u+(tookC s.cur+(Ob.new p d wk fn (s.ser+1)).took)=s.base s.u+tookC s.cur+(Ob.new p d wk fn (s.ser+1)).took;omega
  refine⟨⟨h.n1,h.n2,by rw[hlen];exact h.len,by rw[hout 0 (by omega)];exact h.zero,⟨?_,?_,fun i hi t ht=>?_,h.half.inj⟩,h.oroom,?_,h.still,by show s.ser+1≤_;omega,?_⟩,hX⟩
  · refine OldL.congr hlen h.half.ol (fun j j1 j2=>hout j ?_);have j1':s.base (!s.u)≤j:=j1;have j2':j<s.otop:=j2;omega
  · rw[e2];exact Laid.snoc (Laid.congr hlen h.half.cl (fun j j1 j2=>hout j (.inl j2))) hA
  · obtain⟨j,k5,k6,k7⟩:=h.half.gone i hi t ht;exact⟨j,by show j<(s.cur++[_]).length;simp;omega,by show begs _ (s.cur++[_]) j=t;rw[begs_snoc _ _ _ (by omega)];exact k6,by show SameK _ ((s.cur++[_]).getD j _).2;rw[getD_snoc _ _ _ k5];exact k7⟩
  · show tookC (s.cur++[_])+owed s.old≤s.n;rw[tookC_snoc];show tookC s.cur+(Ob.new p d wk fn (s.ser+1)).took+owed s.old≤s.n;omega
  · show(bif wk then s.weak++[s.top] else s.weak).length≤_∧(bif fn then s.fin++[s.top] else s.fin).length≤_;cases wk <;> cases fn <;> simp <;> omega
def HS.flip (s:HS):HS:={ s with u:=!s.u,mv:=true,cur:=[],old:=s.cur.map fun x=>(x.1,x.2,none),scan:=s.base (!s.u) }
theorem HRep.flip {s:HS}{X:List Nat}(h:HRep s X)(hm:s.mv=false):HRep s.flip X:=by
  have hold:=h.still hm;have hrm:=h.room;have hb:s.flip.base (!s.flip.u)=s.base s.u:=by show s.base (!!s.u)=_;rw[Bool.not_not]
  refine⟨h.n1,h.n2,h.len,h.zero,?_,?_,?_,(fun e=>by cases e),h.ser,h.few⟩
  · rw[hb]
    have e1:s.flip.otop=s.top:=by
      show s.flip.base (!s.flip.u)+tookO (s.cur.map fun x=>(x.1,x.2,none))=_;rw[hb,tookO_fresh];rfl
    have e2:s.flip.top=s.flip.base s.flip.u:=rfl;rw[e1,e2];exact Half.start h.half.cl
  · show tookO (s.cur.map fun x=>(x.1,x.2,none))≤_;rw[tookO_fresh];show tookC s.cur≤s.n;omega
  · show 0+owed (s.cur.map fun x=>(x.1,x.2,none))≤_;rw[owed_fresh];show 0+tookC s.cur≤s.n;omega
def HS.move (s:HS)(i:Nat):HS:={ s with cur:=s.cur++[(s.top,(s.old.getD i oo).2.1)],old:=s.old.set i ((s.old.getD i oo).1,(s.old.getD i oo).2.1,some s.top) }
theorem tookO_set:∀ (l:List (Nat × Ob × Option Nat)) (i:Nat) (x:Nat × Ob × Option Nat),i<l.length→x.2.1.took=(l.getD i oo).2.1.took→tookO (l.set i x)=tookO l
  | (a,o,m)::l,0,(a',o',m'),_,h=>by
    have h:o'.took=o.took:=h;show o'.took+tookO l=o.took+tookO l;omega
  | (a,o,m)::l,i+1,x,hi,h=>by
    have:=tookO_set l i x (by simpa using hi) h;show o.took+tookO (l.set i x)=o.took+tookO l;omega
theorem HRep.move {s:HS}{X:List Nat}(h:HRep s X){i:Nat}(hi:i<s.old.length){a:Nat}{o:Ob}(hg:s.old.getD i oo=(a,o,none)) :
    HRep (s.move i) (cpd X a s.top o.size)∧At X a o∧s.top+o.took≤s.base s.u+s.n∧owed (s.move i).old+o.took=owed s.old:=by
  have how:=owed_go (t:=s.top) hi hg;have hsep:=h.sep;have hap:=h.apart;have hrm:=h.room;have hn2:=h.n2;have hlen:=h.len;have hb:s.base s.u≤s.top:=by unfold HS.top;omega
  have e0:s.move i = { s with cur:=s.cur++[(s.top,o)],old:=s.old.set i (a,o,some s.top) }:=by unfold HS.move;rw[hg]
  have htk:s.top+o.took≤s.base s.u+s.n:=by unfold HS.top;omega
  obtain⟨h1,h2⟩:=h.half.go SameK.refl hi hg (lim:=s.base s.u+s.n) htk (by omega) hap (by omega) (by omega);obtain⟨q1,q2,q3,q4⟩:=Ob.took_eq h2.ok;obtain⟨k1,k2,_,_⟩:=h.half.ol.at i hi;rw[hg] at k1;have k1:s.base (!s.u)≤a:=k1;have hr:s.top+o.size≤X.length:=by omega
  have e2:(s.move i).top=s.top+o.took:=by
    rw[e0];show s.base s.u+tookC (s.cur++[(s.top,o)])=_;rw[tookC_snoc];show s.base s.u+(tookC s.cur+o.took)=s.base s.u+tookC s.cur+o.took;omega
  have e3:(s.move i).otop=s.otop:=by
    rw[e0];show s.base (!s.u)+tookO (s.old.set i (a,o,some s.top))=_;rw[tookO_set _ _ _ hi (by rw[hg])];rfl
  refine⟨⟨h.n1,h.n2,?_,?_,?_,?_,?_,fun e=>?_,h.ser,h.few⟩,h2,htk,by rw[e0];exact how⟩
  · rw[cpd_length hr];exact h.len
  · rw[cpd_getD hr h2.lt,if_neg (by omega),if_neg (by omega)];exact h.zero
  · rw[e2,e3];rw[e0];exact h1
  · rw[e0];show tookO (s.old.set i (a,o,some s.top))≤s.n;rw[tookO_set _ _ _ hi (by rw[hg])];exact h.oroom
  · rw[e0];show tookC (s.cur++[(s.top,o)])+owed (s.old.set i (a,o,some s.top))≤s.n;rw[tookC_snoc];show tookC s.cur+o.took+_≤_;omega
  · rw[e0] at e;have:=h.still e;rw[this] at hi;simp at hi
def HS.drop (s:HS):HS:={ s with mv:=false,old:=[] }
theorem HRep.drop {s:HS}{X:List Nat}(h:HRep s X):HRep s.drop X:=
  ⟨h.n1,h.n2,h.len,h.zero,⟨rfl,h.half.cl,fun i hi=>by simp[HS.drop] at hi,fun i j t hi=>by simp[HS.drop] at hi⟩,Nat.zero_le _,by have:=h.room;show tookC s.cur+0≤s.n;omega,fun _=>rfl,h.ser,h.few⟩
end
section
open Go.RowKit
def Ref (s:HS)(p n:Nat):Prop:=(p=0∧n=0)∨(∃o,(p,o)∈s.cur∧o.ser=n)∨∃o m,(p,o,m)∈s.old∧o.ser=n
def Live (s:HS)(p:Nat)(o:Ob):Prop:=(p,o)∈s.cur∨(p,o,none)∈s.old
structure WF (s:HS):Prop where
  serC:∀x∈s.cur,1≤x.2.ser∧x.2.ser≤s.ser
  serO:∀x∈s.old,1≤x.2.1.ser∧x.2.1.ser≤s.ser
  unC:∀x∈s.cur,∀y∈s.cur,x.2.ser=y.2.ser→x=y
  unO:∀x∈s.old,∀y∈s.old,x.2.1.ser=y.2.1.ser→x=y
  unM:∀x∈s.cur,∀p o,(p,o,none)∈s.old→x.2.ser≠o.ser
  plC:∀x∈s.cur,∀y∈s.cur,x.1=y.1→x=y
  plO:∀x∈s.old,∀y∈s.old,x.1=y.1→x=y
  plM:∀x∈s.cur,∀y∈s.old,x.1≠y.1
  posC:∀x∈s.cur,1≤x.1
  posO:∀x∈s.old,1≤x.1
  ptr:∀p o,Live s p o→∀q∈o.ps,∃n,Ref s q n
  gone:∀a o t,(a,o,some t)∈s.old→∃o',(t,o')∈s.cur∧SameK o o'
theorem Ref.unique {s:HS}(h:WF s){p n m:Nat}(h1:Ref s p n)(h2:Ref s p m):n=m:=by
  rcases h1 with ⟨p0,rfl⟩|⟨o,ho,rfl⟩|⟨o,k,ho,rfl⟩ <;> rcases h2 with ⟨p0',rfl⟩|⟨o',ho',rfl⟩|⟨o',k',ho',rfl⟩
  · rfl
  · have:=h.posC _ ho';simp only at this;omega
  · have:=h.posO _ ho';simp only at this;omega
  · have:=h.posC _ ho;simp only at this;omega
  · have:=h.plC _ ho _ ho' rfl;cases this;rfl
  · exact absurd rfl (h.plM _ ho _ ho')
  · have:=h.posO _ ho;simp only at this;omega
  · exact absurd rfl (h.plM _ ho' _ ho)
  · have:=h.plO _ ho _ ho' rfl;cases this;rfl
theorem Ref.pos {s:HS}(h:WF s){p n:Nat}(h1:Ref s p n):(p=0↔n=0):=by
  rcases h1 with ⟨p0,rfl⟩|⟨o,ho,rfl⟩|⟨o,k,ho,rfl⟩
  · simp[p0]
  · have:=h.posC _ ho;have:=h.serC _ ho;simp only at *;omega
  · have:=h.posO _ ho;have:=h.serO _ ho;simp only at *;omega
structure Sem (s:HS):Prop where
  serC:∀x∈s.cur,1≤x.2.ser∧x.2.ser≤s.ser
  serO:∀x∈s.old,1≤x.2.1.ser∧x.2.1.ser≤s.ser
  unC:∀x∈s.cur,∀y∈s.cur,x.2.ser=y.2.ser→x=y
  unO:∀x∈s.old,∀y∈s.old,x.2.1.ser=y.2.1.ser→x=y
  unM:∀x∈s.cur,∀p o,(p,o,none)∈s.old→x.2.ser≠o.ser
  ptr:∀p o,Live s p o→∀q∈o.ps,∃n,Ref s q n
theorem mem_get {α:Type}{l:List α}{x:α}(d:α)(h:x∈l):∃i,i<l.length∧l.getD i d=x:=by
  obtain⟨i,hi,e⟩:=List.getElem_of_mem h;exact⟨i,hi,by simp[List.getD,hi,e]⟩
theorem get_mem {α:Type}{l:List α}{i:Nat}(d:α)(h:i<l.length):l.getD i d∈l:=by simp[List.getD,h]
theorem HRep.cur_lt {s:HS}{X:List Nat}(h:HRep s X){i j:Nat}(hij:i<j)(hj:j<s.cur.length):(s.cur.getD i ob0).1+(s.cur.getD i ob0).2.took≤(s.cur.getD j ob0).1:=by
  have hi:i<s.cur.length:=by omega
  obtain⟨p1,_,_⟩:=h.place hi;obtain⟨r1,_,_⟩:=h.place hj;have:=begs_mono (s.base s.u) s.cur (show i+1≤j from hij);have h3:begs (s.base s.u) s.cur (i+1)=begs (s.base s.u) s.cur i+(s.cur.getD i ob0).2.took:=rfl;rw[p1,r1];omega
theorem HRep.cur_ok {s:HS}{X:List Nat}(h:HRep s X){x:Nat × Ob}(hx:x∈s.cur):x.2.Ok∧s.base s.u≤x.1∧x.1+x.2.took≤s.top∧At X x.1 x.2:=by
  obtain⟨i,hi,rfl⟩:=mem_get ob0 hx;obtain⟨_,h1,h2⟩:=h.place hi;exact⟨(h.at_ hi).ok,h1,h2,h.at_ hi⟩
theorem HRep.old_ok {s:HS}{X:List Nat}(h:HRep s X){x:Nat × Ob × Option Nat}(hx:x∈s.old):x.2.1.Ok∧s.base (!s.u)≤x.1∧x.1+x.2.1.took≤s.otop:=by
  obtain⟨i,hi,rfl⟩:=mem_get oo hx;obtain⟨h1,h2,h3,_⟩:=h.half.ol.at i hi;exact⟨h3,h1,h2⟩
theorem WF.of {s:HS}{X:List Nat}(h:HRep s X)(m:Sem s):WF s:=by
  have hap:=h.apart;have hsep:=h.sep;have htop:=h.top_le;refine⟨m.serC,m.serO,m.unC,m.unO,m.unM,fun x hx y hy e=>?_,fun x hx y hy e=>?_,fun x hx y hy e=>?_,fun x hx=>?_,fun x hx=>?_,m.ptr,fun a o t ha=>?_⟩
  · obtain⟨i,hi,rfl⟩:=mem_get ob0 hx;obtain⟨j,hj,rfl⟩:=mem_get ob0 hy;obtain⟨_,_,q1,_⟩:=Ob.took_eq (h.at_ hi).ok;obtain⟨_,_,q2,_⟩:=Ob.took_eq (h.at_ hj).ok;rcases Nat.lt_trichotomy i j with hl|rfl|hl
    · have:=h.cur_lt hl hj;have h3:4≤(s.cur.getD i ob0).2.took:=q1;omega
    · rfl
    · have:=h.cur_lt hl hi;have h3:4≤(s.cur.getD j ob0).2.took:=q2;omega
  · obtain⟨i,hi,rfl⟩:=mem_get oo hx;obtain⟨j,hj,rfl⟩:=mem_get oo hy;obtain⟨_,_,k1,_⟩:=h.half.ol.at i hi;obtain⟨_,_,k2,_⟩:=h.half.ol.at j hj;obtain⟨_,_,q1,_⟩:=Ob.took_eq k1;obtain⟨_,_,q2,_⟩:=Ob.took_eq k2;rcases Nat.lt_trichotomy i j with hl|rfl|hl
    · have:=h.half.ol.apart i j hl hj;omega
    · rfl
    · have:=h.half.ol.apart j i hl hi;omega
  · obtain⟨k1,k2,k3,_⟩:=h.cur_ok hx;obtain⟨l1,l2,l3⟩:=h.old_ok hy;obtain⟨_,_,q1,_⟩:=Ob.took_eq k1;obtain⟨_,_,q2,_⟩:=Ob.took_eq l1;omega
  · have:=(h.cur_ok hx).2.1;omega
  · have:=(h.old_ok hx).2.1;omega
  · obtain⟨i,hi,e⟩:=mem_get oo ha;obtain⟨j,k5,k6,k7⟩:=h.half.gone i hi t (by rw[e]);rw[e] at k7;refine⟨(s.cur.getD j ob0).2,?_,k7⟩;have:=get_mem ob0 k5;have h1:(s.cur.getD j ob0).1=t:=by rw[(h.place k5).1];exact k6
    rw[←h1];exact this
theorem mem_set {α:Type}{l:List α}{i:Nat}{v y:α}(h:y∈l.set i v):y=v∨∃j,∃hj:j<l.length,j≠i∧l[j]=y:=by
  obtain⟨j,hj,e⟩:=List.getElem_of_mem h;rw[List.getElem_set] at e;have hj2:j<l.length:=by simpa using hj
  split at e
  · exact .inl e.symm
  · rename_i hne;exact .inr ⟨j,hj2,fun e2=>hne e2.symm,e⟩
theorem set_mem {α:Type}{l:List α}{i j:Nat}{v:α}(hj:j<l.length)(hne:j≠i):l[j]∈l.set i v:=by
  have:(l.set i v)[j]'(by simpa using hj)=l[j]:=by rw[List.getElem_set,if_neg (Ne.symm hne)]
  rw[←this];exact List.getElem_mem _
structure MoveIn (s:HS)(i a:Nat)(o:Ob):Prop where
  lt:i<s.old.length
  get:s.old.getD i oo=(a,o,none)
theorem MoveIn.mem {s:HS}{i a:Nat}{o:Ob}(m:MoveIn s i a o):(a,o,none)∈s.old:=by rw[←m.get];exact get_mem _ m.lt
theorem MoveIn.cur {s:HS}{i a:Nat}{o:Ob}(m:MoveIn s i a o):(s.move i).cur=s.cur++[(s.top,o)]∧(s.move i).old=s.old.set i (a,o,some s.top):=by
  unfold HS.move;rw[m.get];exact⟨rfl,rfl⟩
theorem MoveIn.old_of {s:HS}{X:List Nat}(h:HRep s X){i a:Nat}{o:Ob}(m:MoveIn s i a o){y:Nat × Ob × Option Nat}(hy:y∈(s.move i).old):y=(a,o,some s.top)∨(y∈s.old∧y.1≠a):=by
  rw[m.cur.2] at hy;rcases mem_set hy with e|⟨j,hj,hne,e⟩
  · exact .inl e
  · right;refine⟨e ▸ List.getElem_mem _,fun ea=>?_⟩;have e1:s.old.getD j oo=y:=by simp[List.getD,hj,e]
    obtain⟨_,_,k1,_⟩:=h.half.ol.at j hj;obtain⟨_,_,k2,_⟩:=h.half.ol.at i m.lt;obtain⟨_,_,q1,_⟩:=Ob.took_eq k1;obtain⟨_,_,q2,_⟩:=Ob.took_eq k2;rcases Nat.lt_or_gt_of_ne hne with hl|hl
    · have:=h.half.ol.apart j i hl m.lt;rw[e1] at this q1;rw[m.get] at this;have h1:y.1+y.2.1.took≤a:=this;omega
    · have:=h.half.ol.apart i j hl hj;rw[e1] at this;rw[m.get] at this q2;have h1:a+o.took≤y.1:=this;have h2:4≤o.took:=q2;omega
theorem MoveIn.of_old {s:HS}{i a:Nat}{o:Ob}(m:MoveIn s i a o){y:Nat × Ob × Option Nat}(hy:y∈s.old)(hne:y.1≠a):y∈(s.move i).old:=by
  rw[m.cur.2];obtain⟨j,hj,e⟩:=List.getElem_of_mem hy;rw[←e];refine set_mem hj (fun e2=>hne ?_);subst e2;have:s.old.getD j oo=y:=by simp[List.getD,hj,e]
  rw[m.get] at this;rw[←this]
theorem MoveIn.there {s:HS}{i a:Nat}{o:Ob}(m:MoveIn s i a o):(a,o,some s.top)∈(s.move i).old:=by
  rw[m.cur.2];have hl:i<(s.old.set i (a,o,some s.top)).length:=by simpa using m.lt
  have e:(s.old.set i (a,o,some s.top))[i]=(a,o,some s.top):=by simp
  have:=List.getElem_mem hl;rw[e] at this;exact this
theorem MoveIn.ref {s:HS}(w:WF s){i a:Nat}{o:Ob}(m:MoveIn s i a o){p n:Nat}(h:Ref s p n):Ref (s.move i) p n:=by
  rcases h with h|⟨u,hu,e⟩|⟨u,k,hu,e⟩
  · exact .inl h
  · exact .inr (.inl ⟨u,by rw[m.cur.1];simp[hu],e⟩)
  · by_cases hp:p=a
    · subst hp;have:=w.plO _ hu _ m.mem rfl;have e3:u=o:=by cases this;rfl
      exact .inr (.inr ⟨o,some s.top,m.there,e3 ▸ e⟩)
    · exact .inr (.inr ⟨u,k,m.of_old hu hp,e⟩)
theorem MoveIn.ref' {s:HS}{i a:Nat}{o:Ob}(m:MoveIn s i a o):Ref (s.move i) s.top o.ser:=.inr (.inl ⟨o,by rw[m.cur.1];simp,rfl⟩)
theorem MoveIn.live {s:HS}{X:List Nat}(h:HRep s X){i a:Nat}{o:Ob}(m:MoveIn s i a o){p:Nat}{u:Ob}(hl:Live (s.move i) p u):Live s p u∨(p=s.top∧u=o):=by
  rcases hl with hl|hl
  · rw[m.cur.1] at hl;rcases List.mem_append.1 hl with hl|hl
    · exact .inl (.inl hl)
    · simp at hl;exact .inr hl
  · rcases m.old_of h hl with e|⟨h1,_⟩
    · cases e
    · exact .inl (.inr h1)
theorem MoveIn.sem {s:HS}{X:List Nat}(h:HRep s X)(w:WF s){i a:Nat}{o:Ob}(m:MoveIn s i a o):Sem (s.move i):=by
  have hmem:=m.mem
  have hc:∀x,x∈(s.move i).cur→x∈s.cur∨x=(s.top,o):=fun x hx=>by
    rw[m.cur.1] at hx;rcases List.mem_append.1 hx with hx|hx
    · exact .inl hx
    · simp at hx;exact .inr hx
  have ho:∀x,x∈(s.move i).old→∃k,(x.1,x.2.1,k)∈s.old:=fun x hx=>by
    rcases m.old_of h hx with e|⟨h1,_⟩
    · subst e;exact⟨none,hmem⟩
    · exact⟨x.2.2,h1⟩
  refine⟨fun x hx=>?_,fun x hx=>?_,fun x hx y hy e=>?_,fun x hx y hy e=>?_,fun x hx p u hu=>?_,fun p u hu q hq=>?_⟩
  · rcases hc x hx with hx|rfl
    · exact w.serC x hx
    · exact w.serO _ hmem
  · obtain⟨k,hk⟩:=ho x hx;exact w.serO (x.1,x.2.1,k) hk
  · rcases hc x hx with hx|rfl <;> rcases hc y hy with hy|rfl
    · exact w.unC x hx y hy e
    · exact absurd e (w.unM x hx _ _ hmem)
    · exact absurd e.symm (w.unM y hy _ _ hmem)
    · rfl
  · rcases m.old_of h hx with e1|⟨h1,h2⟩ <;> rcases m.old_of h hy with e2|⟨h3,h4⟩
    · rw[e1,e2]
    · subst e1;have:=w.unO _ hmem _ h3 e;rw[←this] at h4;exact absurd rfl h4
    · subst e2;have:=w.unO _ h1 _ hmem e;rw[this] at h2;exact absurd rfl h2
    · exact w.unO x h1 y h3 e
  · rcases m.old_of h hu with e1|⟨h1,h2⟩
    · cases e1
    · rcases hc x hx with hx|rfl
      · exact w.unM x hx p u h1
      · intro e;have:=w.unO _ hmem _ h1 e;cases this;exact h2 rfl
  · rcases m.live h hu with hl|⟨rfl,rfl⟩
    · obtain⟨n,hn⟩:=w.ptr p u hl q hq;exact⟨n,m.ref w hn⟩
    · obtain⟨n,hn⟩:=w.ptr a u (.inr hmem) q hq;exact⟨n,m.ref w hn⟩
end
section
open Go.RowKit
theorem HRep.live_ok {s:HS}{X:List Nat}(h:HRep s X){q:Nat}{v:Ob}(hv:Live s q v):v.Ok:=by
  rcases hv with hv|hv
  · exact(h.cur_ok hv).1
  · exact(h.old_ok hv).1
theorem flip_live {s:HS}(ho:s.old=[]){p:Nat}{u:Ob} : Live s.flip p u↔Live s p u:=by
  unfold Live;show((p,u)∈([]:List (Nat × Ob))∨(p,u,none)∈s.cur.map (fun x=>(x.1,x.2,none)))↔_;rw[ho];constructor
  · rintro (h|h)
    · cases h
    · obtain⟨x,hx,e⟩:=List.mem_map.1 h;cases e;exact .inl hx
  · rintro (h|h)
    · exact .inr (List.mem_map.2 ⟨(p,u),h,rfl⟩)
    · cases h
theorem flip_ref {s:HS}(ho:s.old=[]){p n:Nat} : Ref s.flip p n↔Ref s p n:=by
  unfold Ref;show((p=0∧n=0)∨(∃o,(p,o)∈([]:List (Nat × Ob))∧o.ser=n)∨∃o m,(p,o,m)∈s.cur.map (fun x=>(x.1,x.2,none))∧o.ser=n)↔_;rw[ho];constructor
  · rintro (h|⟨o,h,_⟩|⟨o,m,h,e⟩)
    · exact .inl h
    · cases h
    · obtain⟨x,hx,e2⟩:=List.mem_map.1 h;cases e2;exact .inr (.inl ⟨_,hx,e⟩)
  · rintro (h|⟨o,h,e⟩|⟨o,m,h,_⟩)
    · exact .inl h
    · exact .inr (.inr ⟨o,none,List.mem_map.2 ⟨(p,o),h,rfl⟩,e⟩)
    · cases h
theorem flip_sem {s:HS}(w:WF s)(ho:s.old=[]):Sem s.flip:=by
  have hm:∀x,x∈s.flip.old→(x.1,x.2.1)∈s.cur∧x.2.2=none:=fun x hx=>by
    obtain⟨y,hy,e⟩:=List.mem_map.1 (show x∈s.cur.map (fun x=>(x.1,x.2,none)) from hx);subst e;exact⟨hy,rfl⟩
  refine⟨(fun x hx=>by cases hx),fun x hx=>?_,(fun x hx=>by cases hx),fun x hx y hy e=>?_,(fun x hx=>by cases hx),fun p u hu q hq=>?_⟩
  · exact w.serC (x.1,x.2.1) (hm x hx).1
  · have h1:=w.unC _ (hm x hx).1 _ (hm y hy).1 e;have h2:=(hm x hx).2;have h3:=(hm y hy).2;obtain⟨a,b,c⟩:=x;obtain⟨a',b',c'⟩:=y;simp only at h1 h2 h3;cases h1;rw[h2,h3]
  · obtain⟨n,hn⟩:=w.ptr p u ((flip_live ho).1 hu) q hq;exact⟨n,(flip_ref ho).2 hn⟩
structure UpdIn (s:HS)(i a:Nat)(o o':Ob):Prop where
  lt:i<s.cur.length
  get:s.cur.getD i ob0=(a,o)
  same:SameK o o'
theorem UpdIn.mem {s:HS}{i a:Nat}{o o':Ob}(m:UpdIn s i a o o'):(a,o)∈s.cur:=by rw[←m.get];exact get_mem _ m.lt
theorem UpdIn.cur {s:HS}{i a:Nat}{o o':Ob}(m:UpdIn s i a o o'):(s.upd i o').cur=s.cur.set i (a,o'):=by
  unfold HS.upd;have:=m.get;simp only[ob0] at this;rw[this]
theorem UpdIn.there {s:HS}{i a:Nat}{o o':Ob}(m:UpdIn s i a o o'):(a,o')∈(s.upd i o').cur:=by
  rw[m.cur];have hl:i<(s.cur.set i (a,o')).length:=by simpa using m.lt
  have e:(s.cur.set i (a,o'))[i]=(a,o'):=by simp
  have:=List.getElem_mem hl;rw[e] at this;exact this
theorem UpdIn.cur_of {s:HS}{X:List Nat}(h:HRep s X){i a:Nat}{o o':Ob}(m:UpdIn s i a o o'){y:Nat × Ob}(hy:y∈(s.upd i o').cur):y=(a,o')∨(y∈s.cur∧y.1≠a):=by
  rw[m.cur] at hy;rcases mem_set hy with e|⟨j,hj,hne,e⟩
  · exact .inl e
  · right;refine⟨e ▸ List.getElem_mem _,fun ea=>?_⟩;have e1:s.cur.getD j ob0=y:=by simp[List.getD,hj,e]
    obtain⟨_,_,q1,_⟩:=Ob.took_eq (h.at_ hj).ok;obtain⟨_,_,q2,_⟩:=Ob.took_eq (h.at_ m.lt).ok;have q1:4≤(s.cur.getD j ob0).2.took:=q1;have q2:4≤(s.cur.getD i ob0).2.took:=q2;rcases Nat.lt_or_gt_of_ne hne with hl|hl
    · have:=h.cur_lt hl m.lt;rw[e1] at this q1;rw[m.get] at this;have h1:y.1+y.2.took≤a:=this;omega
    · have:=h.cur_lt hl hj;rw[e1] at this;rw[m.get] at this q2;have h1:a+o.took≤y.1:=this;have h2:4≤o.took:=q2;omega
theorem UpdIn.of_cur {s:HS}{i a:Nat}{o o':Ob}(m:UpdIn s i a o o'){y:Nat × Ob}(hy:y∈s.cur)(hne:y.1≠a):y∈(s.upd i o').cur:=by
  rw[m.cur];obtain⟨j,hj,e⟩:=List.getElem_of_mem hy;rw[←e];refine set_mem hj (fun e2=>hne ?_);subst e2;have:s.cur.getD j ob0=y:=by simp[List.getD,hj,e]
  rw[m.get] at this;rw[←this]
theorem UpdIn.ref {s:HS}(w:WF s){i a:Nat}{o o':Ob}(m:UpdIn s i a o o'){p n:Nat}(h:Ref s p n):Ref (s.upd i o') p n:=by
  rcases h with h|⟨u,hu,e⟩|⟨u,k,hu,e⟩
  · exact .inl h
  · by_cases hp:p=a
    · subst hp;have:=w.plC _ hu _ m.mem rfl;have e3:u=o:=by cases this;rfl
      exact .inr (.inl ⟨o',m.there,by rw[m.same.2.2.2.2,←e3];exact e⟩)
    · exact .inr (.inl ⟨u,m.of_cur hu hp,e⟩)
  · exact .inr (.inr ⟨u,k,hu,e⟩)
theorem UpdIn.live {s:HS}{X:List Nat}(h:HRep s X){i a:Nat}{o o':Ob}(m:UpdIn s i a o o'){p:Nat}{u:Ob}(hl:Live (s.upd i o') p u):(Live s p u∧u.ser≠o.ser∨(Live s p u∧p≠a))∨(p=a∧u=o'):=by
  rcases hl with hl|hl
  · rcases m.cur_of h hl with e|⟨h1,h2⟩
    · cases e;exact .inr ⟨rfl,rfl⟩
    · exact .inl (.inr ⟨.inl h1,h2⟩)
  · have hl:(p,u,none)∈s.old:=hl
    by_cases e:p=a
    · have:=(h.half.cl:Laid X _ _ _);exfalso;have h1:=h.old_ok hl;have h2:=h.cur_ok m.mem;obtain⟨_,_,q1,_⟩:=Ob.took_eq h1.1;obtain⟨_,_,q2,_⟩:=Ob.took_eq h2.1;have h3:=h.apart;have h4:=h.top_le;obtain⟨_,k1,k2⟩:=h1;obtain⟨_,k3,k4,_⟩:=h2;have k1:s.base (!s.u)≤p:=k1;have k2:p+u.took≤s.otop:=k2;have k3:s.base s.u≤a:=k3;have k4:a+o.took≤s.top:=k4;omega
    · exact .inl (.inr ⟨.inr hl,e⟩)
theorem UpdIn.sem {s:HS}{X:List Nat}(h:HRep s X)(w:WF s){i a:Nat}{o o':Ob}(m:UpdIn s i a o o')(hp:∀q∈o'.ps,∃n,Ref s q n):Sem (s.upd i o'):=by
  have hc:∀x,x∈(s.upd i o').cur→∃y∈s.cur,y.1=x.1∧y.2.ser=x.2.ser:=fun x hx=>by
    rcases m.cur_of h hx with e|⟨h1,_⟩
    · subst e;exact⟨_,m.mem,rfl,m.same.2.2.2.2.symm⟩
    · exact⟨x,h1,rfl,rfl⟩
  refine⟨fun x hx=>?_,fun x hx=>w.serO x hx,fun x hx y hy e=>?_,fun x hx y hy e=>w.unO x hx y hy e,fun x hx p u hu=>?_,fun p u hu q hq=>?_⟩
  · obtain⟨y,hy,_,e⟩:=hc x hx;rw[←e];exact w.serC y hy
  · rcases m.cur_of h hx with e1|⟨h1,h2⟩ <;> rcases m.cur_of h hy with e2|⟨h3,h4⟩
    · rw[e1,e2]
    · subst e1;have:=w.unC _ m.mem _ h3 (by rw[←e];exact m.same.2.2.2.2.symm);rw[←this] at h4;exact absurd rfl h4
    · subst e2;have:=w.unC _ h1 _ m.mem (by rw[e];exact m.same.2.2.2.2);rw[this] at h2;exact absurd rfl h2
    · exact w.unC x h1 y h3 e
  · obtain⟨y,hy,_,e⟩:=hc x hx;rw[←e];exact w.unM y hy p u hu
  · have key:∀v,Live s p v→v=u→∃n,Ref (s.upd i o') q n:=fun v hv e=>by
      subst e;obtain⟨n,hn⟩:=w.ptr p v hv q hq;exact⟨n,m.ref w hn⟩
    rcases m.live h hu with (⟨hl,_⟩|⟨hl,_⟩)|⟨rfl,rfl⟩
    · exact key u hl rfl
    · exact key u hl rfl
    · obtain⟨n,hn⟩:=hp q hq;exact⟨n,m.ref w hn⟩
end
section
open Go.RowKit
structure Alk (o o':Ob):Prop where
  p:o'.p=o.p
  d:o'.d=o.d
  wk:o'.wk=o.wk
  fn:o'.fn=o.fn
  fr:o'.fr=o.fr
  ns:o'.ns=o.ns
  pl:o.ps.length=o.p
  pl':o'.ps.length=o.p
theorem Alk.refl {o:Ob}(h:o.Ok):Alk o o:=⟨rfl,rfl,rfl,rfl,rfl,rfl,h.lp,h.lp⟩
theorem Alk.trans {a b c:Ob}(h:Alk a b)(k:Alk b c):Alk a c:=
  ⟨by rw[k.p,h.p],by rw[k.d,h.d],by rw[k.wk,h.wk],by rw[k.fn,h.fn],by rw[k.fr,h.fr],by rw[k.ns,h.ns],h.pl,by rw[k.pl',h.p]⟩
theorem Alk.symm {a b:Ob}(h:Alk a b):Alk b a:=⟨h.p.symm,h.d.symm,h.wk.symm,h.fn.symm,h.fr.symm,h.ns.symm,by rw[h.pl',h.p],by rw[h.pl,h.p]⟩
structure Tw (σ:Nat→Nat)(A B:HS):Prop where
  wa:WF A
  wb:WF B
  still:B.old=[]
  z:σ 0=0
  rng:∀n,1≤n→n≤B.ser→1≤σ n∧σ n≤A.ser
  inj:∀n m,n≤B.ser→m≤B.ser→σ n=σ m→n=m
  obj:∀n p o,1≤n→n≤B.ser→Live A p o→o.ser=σ n→∃q o',(q,o')∈B.cur∧o'.ser=n∧Alk o o'∧∀m,m<o.p→∃k,Ref B (o'.ps.getD m 0) k∧(Ref A (o.ps.getD m 0) (σ k)∨(o.wk=true∧o.ps.getD m 0=0∧∀x u,Live A x u→u.ser≠σ k))
theorem Ref.le {s:HS}(h:WF s){p n:Nat}(h1:Ref s p n):n≤s.ser:=by
  rcases h1 with ⟨p0,rfl⟩|⟨o,ho,rfl⟩|⟨o,k,ho,rfl⟩
  · omega
  · exact(h.serC _ ho).2
  · exact(h.serO _ ho).2
theorem Tw.sle {σ:Nat→Nat}{A B:HS}(h:Tw σ A B){n:Nat}(hn:n≤B.ser):σ n≤A.ser:=by
  rcases Nat.eq_zero_or_pos n with rfl|h1
  · rw[h.z];omega
  · exact(h.rng n h1 hn).2
theorem Tw.left {σ:Nat→Nat}{A A' B:HS}(h:Tw σ A B)(w:WF A')(hs:A.ser≤A'.ser)(hd:∀x u,Live A' x u→(∃x0 u0,Live A x0 u0∧u0.ser=u.ser)∨A.ser<u.ser)
    (hl:∀p o,Live A' p o→o.ser≤A.ser→∃p0 o0,Live A p0 o0∧Alk o0 o∧o0.ser=o.ser∧∀m,m<o.p→(∀k,Ref A (o0.ps.getD m 0) k→Ref A' (o.ps.getD m 0) k∨(o.wk=true∧o.ps.getD m 0=0∧∀x u,Live A' x u→u.ser≠k))∧(o0.wk=true→o0.ps.getD m 0=0→o.ps.getD m 0=0)):Tw σ A' B:=by
  refine⟨w,h.wb,h.still,h.z,fun n h1 h2=>⟨(h.rng n h1 h2).1,by have:=(h.rng n h1 h2).2;omega⟩,h.inj,fun n p o h1 h2 ho e=>?_⟩;have hle:o.ser≤A.ser:=by rw[e];exact h.sle h2
  obtain⟨p0,o0,h0,lk,es,hm⟩:=hl p o ho hle;obtain⟨q,o',hq,e',lk',hm'⟩:=h.obj n p0 o0 h1 h2 h0 (es.trans e);refine⟨q,o',hq,e',lk.symm.trans lk',fun m mlt=>?_⟩;obtain⟨k,hk1,hk2⟩:=hm' m (by rw[←lk.p];exact mlt);refine⟨k,hk1,?_⟩;obtain⟨ha,hb⟩:=hm m mlt;rcases hk2 with hk2|⟨w1,w2,w3⟩
  · exact ha _ hk2
  · right;refine⟨by rw[lk.wk];exact w1,hb w1 w2,fun x u hu=>?_⟩;rcases hd x u hu with ⟨x0,u0,hu0,eu⟩|hgt
    · rw[←eu];exact w3 x0 u0 hu0
    · have:=h.sle (hk1.le h.wb);omega
def RefK (A A':HS):Prop:=∀p n,Ref A p n→Ref A' p n
theorem Tw.left' {σ:Nat→Nat}{A A' B:HS}(h:Tw σ A B)(w:WF A')(hs:A.ser≤A'.ser)
    (hl:∀p o,Live A' p o→(∃p0 o0,Live A p0 o0∧Alk o0 o∧o0.ser=o.ser∧∀m,m<o.p→∀k,Ref A (o0.ps.getD m 0) k→Ref A' (o.ps.getD m 0) k)∨A.ser<o.ser) (wz:∀n,Ref A' 0 n→n=0):Tw σ A' B:=by
  refine h.left w hs (fun x u hu=>(hl x u hu).imp (fun⟨a,b,c,d,e,f⟩=>⟨a,b,c,e⟩) id) (fun p o ho hle=>?_);rcases hl p o ho with ⟨a,b,c,d,e,f⟩|hgt
  · refine⟨a,b,c,d,e,fun m hm=>⟨fun k hk=>.inl (f m hm k hk),fun _ e0=>?_⟩⟩;have h1:Ref A' (o.ps.getD m 0) 0:=f m hm 0 (.inl ⟨e0,rfl⟩);exact(h1.pos w).2 rfl
  · omega
theorem Tw.move {σ:Nat→Nat}{A B:HS}(t:Tw σ A B){X:List Nat}(h:HRep A X){i a:Nat}{o:Ob}(m:MoveIn A i a o):Tw σ (A.move i) B:=by
  have w':=WF.of (h.move m.lt m.get).1 (m.sem h t.wa);refine t.left' w' (Nat.le_refl _) (fun p u hu=>.inl ?_) (fun n hn=>(hn.pos w').1 rfl);rcases m.live h hu with hl|⟨rfl,rfl⟩
  · exact⟨p,u,hl,Alk.refl (h.live_ok hl),rfl,fun m' _ k hk=>m.ref t.wa hk⟩
  · exact⟨a,u,.inr m.mem,Alk.refl (h.live_ok (.inr m.mem)),rfl,fun m' _ k hk=>m.ref t.wa hk⟩
theorem Tw.flip {σ:Nat→Nat}{A B:HS}(t:Tw σ A B){X:List Nat}(h:HRep A X)(hm:A.mv=false):Tw σ A.flip B:=by
  have ho:=h.still hm;have w':=WF.of (h.flip hm) (flip_sem t.wa ho);refine t.left' w' (Nat.le_refl _) (fun p u hu=>.inl ?_) (fun n hn=>(hn.pos w').1 rfl);have h0:=(flip_live ho).1 hu;exact⟨p,u,h0,Alk.refl (h.live_ok h0),rfl,fun m _ k hk=>(flip_ref ho).2 hk⟩
theorem Tw.updA {σ:Nat→Nat}{A B:HS}(t:Tw σ A B){X X':List Nat}(h:HRep A X){i a:Nat}{o o':Ob}(m:UpdIn A i a o o')(h':HRep (A.upd i o') X')(lk:Alk o o')(hr:∀m,m<o.p→∀k,Ref A (o.ps.getD m 0) k→Ref A (o'.ps.getD m 0) k):Tw σ (A.upd i o') B:=by
  have hp:∀q∈o'.ps,∃n,Ref A q n:=fun q hq=>by
    obtain⟨j,hj,rfl⟩:=mem_get 0 hq;have hj2:j<o.p:=by rw[←lk.pl'];exact hj
    obtain⟨n,hn⟩:=t.wa.ptr a o (.inl m.mem) (o.ps.getD j 0) (get_mem 0 (by rw[lk.pl];exact hj2));exact⟨n,hr j hj2 n hn⟩
  have w':=WF.of h' (m.sem h t.wa hp);refine t.left' w' (Nat.le_refl _) (fun p u hu=>.inl ?_) (fun n hn=>(hn.pos w').1 rfl)
  have key:∀v,Live A p v→v=u→∃p0 o0,Live A p0 o0∧Alk o0 u∧o0.ser=u.ser∧∀m,m<u.p→∀k,Ref A (o0.ps.getD m 0) k→Ref (A.upd i o') (u.ps.getD m 0) k:=fun v hv e=>by
    subst e;exact⟨p,v,hv,Alk.refl (h.live_ok hv),rfl,fun m' _ k hk=>m.ref t.wa hk⟩
  rcases m.live h hu with (⟨hl,_⟩|⟨hl,_⟩)|⟨rfl,rfl⟩
  · exact key u hl rfl
  · exact key u hl rfl
  · exact⟨p,o,.inl m.mem,lk,m.same.2.2.2.2.symm,fun m' hm' k hk=>m.ref t.wa (hr m' (by rw[←lk.p];exact hm') k hk)⟩
theorem alloc_live {s:HS}{p d:Nat}{wk fn:Bool}{x:Nat}{u:Ob}(h:Live (s.alloc p d wk fn) x u):Live s x u∨(x=s.top∧u=Ob.new p d wk fn (s.ser+1)):=by
  rcases h with h|h
  · rcases List.mem_append.1 (show(x,u)∈s.cur++[(s.top,Ob.new p d wk fn (s.ser+1))] from h) with h|h
    · exact .inl (.inl h)
    · simp at h;exact .inr h
  · exact .inl (.inr h)
theorem alloc_ref {s:HS}{p d:Nat}{wk fn:Bool} : RefK s (s.alloc p d wk fn):=fun x n h=>by
  rcases h with h|⟨u,hu,e⟩|⟨u,k,hu,e⟩
  · exact .inl h
  · exact .inr (.inl ⟨u,List.mem_append.2 (.inl hu),e⟩)
  · exact .inr (.inr ⟨u,k,hu,e⟩)
theorem alloc_here {s:HS}{p d:Nat}{wk fn:Bool} : (s.top,Ob.new p d wk fn (s.ser+1))∈(s.alloc p d wk fn).cur:=List.mem_append.2 (.inr (by simp))
theorem alloc_sem {s:HS}(w:WF s){p d:Nat}{wk fn:Bool} : Sem (s.alloc p d wk fn):=by
  have hc:∀x,x∈(s.alloc p d wk fn).cur→x∈s.cur∨x=(s.top,Ob.new p d wk fn (s.ser+1)):=fun x hx=>by
    rcases List.mem_append.1 (show x∈s.cur++[(s.top,Ob.new p d wk fn (s.ser+1))] from hx) with h|h
    · exact .inl h
    · simp at h;exact .inr h
  have hn:(Ob.new p d wk fn (s.ser+1)).ser=s.ser+1:=rfl;have hs:(s.alloc p d wk fn).ser=s.ser+1:=rfl;refine⟨fun x hx=>?_,fun x hx=>?_,fun x hx y hy e=>?_,fun x hx y hy e=>w.unO x hx y hy e,fun x hx q u hu=>?_,fun q u hu z hz=>?_⟩
  · rw[hs];rcases hc x hx with hx|rfl
    · have:=w.serC x hx;omega
    · simp only[hn];omega
  · rw[hs];have:=w.serO x hx;omega
  · rcases hc x hx with hx|rfl <;> rcases hc y hy with hy|rfl
    · exact w.unC x hx y hy e
    · have:=w.serC x hx;simp only[hn] at e;omega
    · have:=w.serC y hy;simp only[hn] at e;omega
    · rfl
  · have hu:(q,u,none)∈s.old:=hu;rcases hc x hx with hx|rfl
    · exact w.unM x hx q u hu
    · have:=w.serO _ hu;simp only[hn] at *;omega
  · rcases alloc_live hu with hl|⟨rfl,rfl⟩
    · obtain⟨n,hn⟩:=w.ptr q u hl z hz;exact⟨n,alloc_ref _ _ hn⟩
    · have:z=0:=by simp[Ob.new] at hz;exact hz.2
      exact⟨0,.inl ⟨this,rfl⟩⟩
theorem Tw.allocA {σ:Nat→Nat}{A B:HS}(t:Tw σ A B){X X':List Nat}(h:HRep A X){p d:Nat}{wk fn:Bool}(h':HRep (A.alloc p d wk fn) X'):Tw σ (A.alloc p d wk fn) B:=by
  have w':=WF.of h' (alloc_sem (p:=p) (d:=d) (wk:=wk) (fn:=fn) t.wa);refine t.left' w' (Nat.le_succ _) (fun q u hu=>?_) (fun n hn=>(hn.pos w').1 rfl);rcases alloc_live hu with hl|⟨rfl,rfl⟩
  · exact .inl ⟨q,u,hl,Alk.refl (h.live_ok hl),rfl,fun m _ k hk=>alloc_ref _ _ hk⟩
  · exact .inr (Nat.lt_succ_self _)
end
section
open Go.RowKit Go.Shelf
structure HB where
  hp:Nat
  ap:Nat
  ac:Nat
  v0:Value
  v1:Value
  vw:Value
  vf:Value
def HB.vs (B:HB):List Value:=[B.v0,B.v1,B.vw,B.vf]
def l0 (s:HS):List Nat:=bif s.u then opl s.old else plc s.cur
def l1 (s:HS):List Nat:=bif s.u then plc s.cur else opl s.old
def hcells (B:HB)(s:HS):List Value:=
  [arV B.ap,vI 1,vI s.n,vI ((bif s.u then s.otop else s.top:Nat):Int),vI (1+s.n),vI s.n,vI ((bif s.u then s.top else s.otop:Nat):Int),B.v0,B.v1,
   vI (bif s.u then 1 else 0),.bool s.mv,vI (owed s.old:Nat),vI s.scan,vI s.ser,B.vw,B.vf]
def HBlk (B:HB)(k:Nat):Prop:=k=B.hp∨k=B.ap∨k=B.ac∨∃v∈B.vs,InB v k
structure HAt (w:World)(B:HB)(s:HS)(X:List Nat):Prop where
  cs:OwnL w B.hp (hcells B s)
  ar:Ar w B.ap B.ac X
  r0:ORow w 0 B.v0 (nI (l0 s))
  r1:ORow w 0 B.v1 (nI (l1 s))
  rw:ORow w 0 B.vw (nI s.weak)
  rf:ORow w 0 B.vf (nI s.fin)
  rep:HRep s X
  hap:B.hp≠B.ap
  hac:B.hp≠B.ac
  apart:B.vs.Pairwise Aprt
  none_:∀v∈B.vs,¬InB v B.hp∧¬InB v B.ap∧¬InB v B.ac
abbrev hpV (B:HB):Value:=.pointer (some ⟨B.hp,0,none⟩)
theorem HAt.fr {S:Nat→Prop}{w w':World}{B:HB}{s:HS}{X:List Nat}(h:HAt w B s X)(f:Fr S w w')(hs:∀k,HBlk B k→¬S k):HAt w' B s X:=by
  have hv:∀v∈B.vs,∀k,InB v k→¬S k:=fun v hv k hk=>hs k (.inr (.inr (.inr ⟨v,hv,hk⟩)));exact⟨h.cs.fr f (hs _ (.inl rfl)),h.ar.fr f (hs _ (.inr (.inl rfl))) (hs _ (.inr (.inr (.inl rfl)))),h.r0.frB f (hv _ (by simp[HB.vs])),h.r1.frB f (hv _ (by simp[HB.vs])),h.rw.frB f (hv _ (by simp[HB.vs])),h.rf.frB f (hv _ (by simp[HB.vs])),h.rep,h.hap,h.hac,h.apart,h.none_⟩
theorem HAt.calm {w w':World}{B:HB}{s:HS}{X:List Nat}(h:HAt w B s X)(f:Calm w w'):HAt w' B s X:=h.fr f (fun _ _=>id)
theorem HAt.lt {w:World}{B:HB}{s:HS}{X:List Nat}(h:HAt w B s X):∀k,HBlk B k→k<w.heap.size:=by
  have hc:B.ac<w.heap.size:=by obtain⟨_,⟨t,ht⟩,_⟩:=h.ar;exact(Array.getElem?_eq_some_iff.1 ht).1
  rintro k (rfl|rfl|rfl|⟨v,hv,hk⟩)
  · exact h.cs.lt (by simp[hcells])
  · exact h.ar.lt
  · exact hc
  · simp[HB.vs] at hv;rcases hv with rfl|rfl|rfl|rfl
    · exact(h.r0.lt hk).2
    · exact(h.r1.lt hk).2
    · exact(h.rw.lt hk).2
    · exact(h.rf.lt hk).2
structure HKeep (w:World)(B:HB)(w':World)(B':HB):Prop where
  fr:Fr (HBlk B) w w'
  new:∀k,HBlk B' k→HBlk B k∨w.heap.size≤k
  hp:B'.hp=B.hp
theorem HKeep.refl (w:World)(B:HB):HKeep w B w B:=⟨Fr.refl _ _,fun _ h=>.inl h,rfl⟩
theorem HKeep.calm {w w':World}(B:HB)(c:Calm w w'):HKeep w B w' B:=⟨c.any,fun _ h=>.inl h,rfl⟩
theorem HKeep.trans {w w' w'':World}{B B' B'':HB}(h:HKeep w B w' B')(k:HKeep w' B' w'' B''):HKeep w B w'' B'':=
  ⟨h.fr.join k.fr (fun j hj hb=>(h.new j hb).resolve_right (by omega)),fun j hj=>by
    rcases k.new j hj with h1|h1
    · exact h.new j h1
    · right;have:=h.fr.size;omega,k.hp.trans h.hp⟩
theorem HAt.words {w w':World}{B:HB}{s s':HS}{X X':List Nat}(h:HAt w B s X)(ar:Ar w' B.ap B.ac X')(f:Fr (fun k=>k=B.ac) w w')(rep:HRep s' X')(hc:hcells B s'=hcells B s)(e0:l0 s'=l0 s)(e1:l1 s'=l1 s)(ew:s'.weak=s.weak)(ef:s'.fin=s.fin) :
    HAt w' B s' X'∧HKeep w B w' B:=by
  have hn:∀v∈B.vs,∀k,InB v k→¬k=B.ac:=fun v hv k hk e=>(h.none_ v hv).2.2 (e ▸ hk);refine⟨⟨by rw[hc];exact h.cs.fr f h.hac,ar,by rw[e0];exact h.r0.frB f (hn _ (by simp[HB.vs])),by rw[e1];exact h.r1.frB f (hn _ (by simp[HB.vs])),by rw[ew];exact h.rw.frB f (hn _ (by simp[HB.vs])),by rw[ef];exact h.rf.frB f (hn _ (by simp[HB.vs])),rep,h.hap,h.hac,h.apart,h.none_⟩,f.mono (fun k _ e=>.inr (.inr (.inl e))),fun _ h=>.inl h,rfl⟩
theorem plc_upd (s:HS)(i:Nat)(o:Ob):plc (s.upd i o).cur=plc s.cur:=by
  show plc (s.cur.set i _)=plc s.cur;simp only[plc,List.map_set];apply List.ext_getElem (by simp);intro j h1 h2;rw[List.getElem_set];split
  · rename_i e;subst e;have:i<s.cur.length:=by simpa using h2
    simp[List.getD,this]
  · rfl
theorem upd_cells (B:HB)(s:HS){i:Nat}{o:Ob}(hi:i<s.cur.length)(h:SameK (s.cur.getD i ob0).2 o):hcells B (s.upd i o)=hcells B s∧l0 (s.upd i o)=l0 s∧l1 (s.upd i o)=l1 s:=by
  have e1:tookC (s.upd i o).cur=tookC s.cur:=tookC_set _ _ _ hi h.took;have e2:(s.upd i o).top=s.top:=by unfold HS.top;rw[e1];rfl
  refine⟨?_,?_,?_⟩
  · unfold hcells;rw[e2];rfl
  · unfold l0;rw[plc_upd];rfl
  · unfold l1;rw[plc_upd];rfl
def Rise (l:List Int):Prop:=∀i j,i<j→j<l.length→l.getD i 0<l.getD j 0
theorem rise_cur {s:HS}{X:List Nat}(h:HRep s X):Rise (nI (plc s.cur)):=by
  intro i j hij hj;have hj2:j<s.cur.length:=by simpa using hj
  have hi2:i<s.cur.length:=by omega
  obtain⟨p1,_,p2⟩:=h.place hi2;obtain⟨r1,_,_⟩:=h.place hj2;obtain⟨_,k8,_,_⟩:=Lie.at h.half.cl.lie i hi2;obtain⟨_,_,k9,_⟩:=Ob.took_eq k8;have e1:(nI (plc s.cur)).getD i 0=((s.cur.getD i ob0).1:Nat):=by simp[List.getD,hi2]
  have e2:(nI (plc s.cur)).getD j 0=((s.cur.getD j ob0).1:Nat):=by simp[List.getD,hj2]
  have:=begs_mono (s.base s.u) s.cur (show i+1≤j from hij);have h3:begs (s.base s.u) s.cur (i+1)=begs (s.base s.u) s.cur i+(s.cur.getD i (0,Ob.new 0 0 false false 0)).2.took:=rfl;rw[e1,e2,p1,r1];omega
theorem rise_old {s:HS}{X:List Nat}(h:HRep s X):Rise (nI (opl s.old)):=by
  intro i j hij hj;have hj2:j<s.old.length:=by simpa using hj
  have hi2:i<s.old.length:=by omega
  have:=h.half.ol.apart i j hij hj2;obtain⟨_,_,k8,_⟩:=h.half.ol.at i hi2;obtain⟨_,_,k9,_⟩:=Ob.took_eq k8;have e1:(nI (opl s.old)).getD i 0=((s.old.getD i oo).1:Nat):=by simp[List.getD,hi2]
  have e2:(nI (opl s.old)).getD j 0=((s.old.getD j oo).1:Nat):=by simp[List.getD,hj2]
  rw[e1,e2];omega
end
section
open Go.RowKit Go.Shelf
theorem cnan_is (x:Int)(w:World):Calls Tryz.prog 162 #[vI x] w fun e w'=>e = .returned (.bool false)∧w=w':=by
  have hb:(x==x)=true:=by simp
  have hb2:(x != x)=false:=by simp
  go_enter Tryz.func162,Tryz.ntmps162;go_wp2;go_ret;exact⟨rfl,rfl⟩
theorem snan_is (x:Int)(w:World):Calls Tryz.prog 107 #[vI x] w fun e w'=>e = .returned (.bool false)∧w=w':=by
  have hb:(x==x)=true:=by simp
  have hb2:(x != x)=false:=by simp
  go_enter Tryz.func107,Tryz.ntmps107;go_wp2;go_ret;exact⟨rfl,rfl⟩
theorem less_is (x y:Int)(w:World):Calls Tryz.prog 106 #[vI x,vI y] w fun e w'=>e = .returned (.bool (decide (x<y)))∧w=w':=by
  go_enter Tryz.func106,Tryz.ntmps106;go_wp2_with fail
  refine(cnan_is x _).mono ?_;rintro e w' ⟨rfl,rfl⟩;go_wp2;go_ret;exact⟨rfl,rfl⟩
def binI (l:List Int)(a:Int):Nat:=(l.filter (fun x=>decide (x<a))).length
def BinPost (w:World)(l:List Int)(a:Int)(e:Ending)(w':World):Prop:=e = .returned (.tuple #[vI (binI l a:Nat),.bool (decide (a∈l))])∧Calm w w'
set_option maxRecDepth 100000 in
theorem bin_is {w:World}{v:Value}{l:List Int}(hr:Row w v (iVs l))(hs:Rise l)(hn:l.length≤1000000)(a:Int)(ha:I64 a) :
    Calls Tryz.prog 65 #[v,vI a] w (BinPost w l a):=by
  obtain⟨ra,rc,rfl,hl⟩:=hr.loop;obtain⟨n,hnn⟩:∃n,l.length=n:=⟨_,rfl⟩;rw[hnn] at hn ⊢;replace hl:=hid hl;replace hs:=hid hs;replace hnn:=hid hnn;have h0:Hid (∀k,k<0→l.getD k 0<a):=fun k hk=>by omega
  have h1:Hid (∀k,n≤k→k<n→a≤l.getD k 0):=fun k hk1 hk2=>by omega
  clear hr;go_enter Tryz.func65,Tryz.ntmps65;go_wp2;go_loopw [7,8] (fun i j wr=>∃i0 j0:Nat,i0≤j0∧j0≤n∧i=vI i0∧j=vI j0∧Hid (∀k,k<i0→l.getD k 0<a)∧Hid (∀k,j0≤k→k<n→a≤l.getD k 0)∧Calm w wr) (fun i j _=>(intOf j).toNat-(intOf i).toNat)
  case atStart=>exact⟨0,n,Nat.zero_le _,Nat.le_refl _,rfl,rfl,h0,h1,Fr.refl _ _⟩
  case round=>
    clear h0 h1;obtain⟨i,j,hij,hj,rfl,rfl,h0,h1,hc⟩:=hrel;rcases Nat.lt_or_ge i j with hlt|hge
    · obtain⟨m,hm⟩:∃m:Nat,((i:Int)+(j:Int)) / 2=(m:Int):=⟨(i+j) / 2,by omega⟩;have m1:i≤m:=by omega
      have m2:m<j:=by omega
      have m3:m<n:=by omega
      obtain⟨rb,roff,rfl,hrb,hcell⟩:=hl.out m (by rw[hnn.out];exact m3);replace hcell:=hc.cellAt (p:=⟨rb,roff+m,none⟩) hcell id;obtain⟨x,hx⟩:∃x,l.getD m 0=x:=⟨_,rfl⟩;rw[hx] at hcell;replace hx:=hid hx
      by_cases hxa:x<a
      · have hd:decide (x<a)=true:=by simpa using hxa
        go_wp2_with (go_at_call 106;refine(less_is x a _).mono ?_;rintro e w' ⟨rfl,rfl⟩)
        go_roundw
        case rel=>
          refine⟨m+1,j,by omega,hj,by go_num,rfl,fun k hk=>?_,h1,hc⟩
          by_cases e:k=m
          · subst e;rw[hx.out];exact hxa
          · have:=hs.out k m (by omega) (by rw[hnn.out];exact m3);rw[hx.out] at this;omega
        case measure=>simp[intOf];omega
      · have hd:decide (x<a)=false:=by simpa using hxa
        go_wp2_with (go_at_call 106;refine(less_is x a _).mono ?_;rintro e w' ⟨rfl,rfl⟩)
        go_roundw
        case rel=>
          refine⟨i,m,m1,by omega,rfl,rfl,h0,fun k hk1 hk2=>?_,hc⟩
          by_cases e:k=m
          · subst e;rw[hx.out];omega
          · have:=hs.out m k (by omega) (by rw[hnn.out];exact hk2);rw[hx.out] at this;omega
        case measure=>simp[intOf];omega
    · obtain rfl:i=j:=by omega
      have hix:Hid (binI l a=i):=by
        show binI l a=i;unfold binI;have e1:l=l.take i++l.drop i:=(List.take_append_drop i l).symm;rw[e1,List.filter_append,List.length_append]
        have f1:(l.take i).filter (fun x=>decide (x<a))=l.take i:=by
          rw[List.filter_eq_self];intro x hx;obtain⟨k,hk,rfl⟩:=List.getElem_of_mem hx;have hk2:k<i:=by simp at hk;omega
          have:=h0.out k hk2;simp at hk;simpa[List.getD,show k<l.length by omega] using this
        have f2:(l.drop i).filter (fun x=>decide (x<a))=[]:=by
          rw[List.filter_eq_nil_iff];intro x hx;obtain⟨k,hk,rfl⟩:=List.getElem_of_mem hx;simp at hk;have:=h1.out (i+k) (by omega) (by rw[←hnn.out];omega);simp[List.getD,show i+k<l.length by omega] at this;simpa using this
        rw[f1,f2];simp;rw[hnn.out];omega
      clear hij;rcases Nat.lt_or_ge i n with hlt|hge2
      · obtain⟨rb,roff,rfl,hrb,hcell⟩:=hl.out i (by rw[hnn.out];exact hlt);replace hcell:=hc.cellAt (p:=⟨rb,roff+i,none⟩) hcell id;obtain⟨x,hx⟩:∃x,l.getD i 0=x:=⟨_,rfl⟩;rw[hx] at hcell;have hmem:x∈l:=by rw[←hx];have:=hnn.out;simp[List.getD,show i<l.length by omega]
        by_cases hxa:x=a
        · subst hxa;have hd:Hid (decide (x∈l)=true):=decide_eq_true hmem;have hb:(x==x)=true:=by simp
          clear hx hmem;go_wp2
          go_ret2
          exact⟨by rw[hd.out,hix.out];rfl,hc⟩
        · have hd:Hid (decide (a∈l)=false):=by
            show _=false;rw[decide_eq_false_iff_not];intro hm;obtain⟨k,hk,e⟩:=List.getElem_of_mem hm;have e2:l.getD k 0=a:=by simp[List.getD,hk,e]
            rcases Nat.lt_trichotomy k i with hl2|rfl|hl2
            · have:=h0.out k hl2;omega
            · exact hxa (hx.symm.trans e2)
            · have:=hs.out i k hl2 hk;have:=h1.out i (Nat.le_refl _) hlt;omega
          have hb:(x==a)=false:=by simpa using hxa
          clear hx hmem;go_wp2_with (go_at_call 107;refine(snan_is x _).mono ?_;rintro e w' ⟨rfl,rfl⟩)
          go_ret2
          exact⟨by rw[hd.out,hix.out];rfl,hc⟩
      · have hd:Hid (decide (a∈l)=false):=by
          show _=false;rw[decide_eq_false_iff_not];intro hm;obtain⟨k,hk,e⟩:=List.getElem_of_mem hm;have e2:l.getD k 0=a:=by simp[List.getD,hk,e]
          have:=h0.out k (by have:=hnn.out;omega);omega
        go_wp2
        go_ret2
        exact⟨by rw[hd.out,hix.out];rfl,hc⟩
end
section
open Go.RowKit Go.Shelf
theorem HAt.own {w:World}{B:HB}{s:HS}{X:List Nat}(h:HAt w B s X){i:Nat}{v:Value}(hv:(hcells B s)[i]?=some v):Own w B.hp i v:=h.cs i v hv
theorem HAt.lt_hp {w:World}{B:HB}{s:HS}{X:List Nat}(h:HAt w B s X):B.hp<w.heap.size:=h.lt _ (.inl rfl)
theorem HAt.rd {w:World}{B:HB}{s:HS}{X:List Nat}(h:HAt w B s X)(i:Nat)(v:Value)(hv:(hcells B s)[i]?=some v):∀x:Later w,x.w.cell? ⟨B.hp,i,none⟩=some v:=fun x=>x.cell (h.own hv).1
theorem HAt.rowC {w:World}{B:HB}{s:HS}{X:List Nat}(h:HAt w B s X):ORow w 0 (bif s.u then B.v1 else B.v0) (nI (plc s.cur)):=by
  have h0:=h.r0;have h1:=h.r1;cases hu:s.u
  · simpa[l0,hu] using h0
  · simpa[l1,hu] using h1
theorem HAt.rowO {w:World}{B:HB}{s:HS}{X:List Nat}(h:HAt w B s X):ORow w 0 (bif s.u then B.v0 else B.v1) (nI (opl s.old)):=by
  have h0:=h.r0;have h1:=h.r1;cases hu:s.u
  · simpa[l1,hu] using h1
  · simpa[l0,hu] using h0
theorem HRep.few_cur {s:HS}{X:List Nat}(h:HRep s X):s.cur.length≤4096∧s.old.length≤4096:=by
  have h1:=h.half.cl.lie.le;have h2:=h.half.ol.le;have h3:=h.top_le;have h4:=h.n2;omega
theorem okP_cur {s:HS}{X:List Nat}(h:HRep s X):okP (s.base s.u:Nat) s.n (s.top:Nat):=by
  have h1:=h.top_le;have h2:=h.n2;have h3:=h.sep;have h4:=h.len;refine⟨by omega,by omega,by omega,by omega,?_,by omega⟩;unfold HS.top;omega
theorem okP_old {s:HS}{X:List Nat}(h:HRep s X):okP (s.base (!s.u):Nat) s.n (s.otop:Nat):=by
  have h1:=h.top_le;have h2:=h.n2;have h3:=h.sep;have h4:=h.len;refine⟨by omega,by omega,by omega,by omega,?_,by omega⟩;unfold HS.otop;omega
theorem moving_is {w:World}{B:HB}{s:HS}{X:List Nat}(h:HAt w B s X) :
    Calls Tryz.prog 114 #[hpV B] w fun e w'=>e = .returned (.bool s.mv)∧w=w':=by
  have y:=(h.own (i:=10) (v:=.bool s.mv) rfl).1;clear h;go_enter Tryz.func114,Tryz.ntmps114;go_wp2;go_ret;exact⟨rfl,rfl⟩
theorem room_is {w:World}{B:HB}{s:HS}{X:List Nat}(h:HAt w B s X) :
    Calls Tryz.prog 52 #[hpV B] w fun e w'=>e = .returned (vI s.room)∧Calm w w':=by
  have hr1:=h.rep.room;have hr2:=h.rep.n2;have hok:=okP_cur h.rep
  have hrm:Hid (((s.n:Int)-((s.top:Nat)-(s.base s.u:Nat)))-(owed s.old:Nat)=s.room):=by
    show _=s.room;unfold HS.room HS.top;push_cast;omega
  have hof:(owed s.old:Int)≤16384:=by omega
  have htop:=h.rep.top_le;have yo:=h.rd 11 (vI (owed s.old:Nat)) rfl;have hbs:=base_sep s;have hw1:IntKind.i64.wrap (((s.n:Int)-((s.top:Nat)-(s.base s.u:Nat)))-(owed s.old:Nat))=((s.n:Int)-((s.top:Nat)-(s.base s.u:Nat)))-(owed s.old:Nat):=IntWalk.i64_in _ (by rw[hrm.out];unfold HS.room;omega);cases hu:s.u
  · have y9:=h.rd 9 (vI 0) (by simp[hcells,hu]);have y1:=h.rd 1 (vI 1) (by simp[hcells,hu]);have y2:=h.rd 2 (vI s.n) (by simp[hcells,hu]);have y3:=h.rd 3 (vI s.top) (by simp[hcells,hu]);have eb:((s.base s.u:Nat):Int)=1:=by rw[(hbs.2 hu).1];rfl
    rw[eb] at hok hrm hw1;have hle:=hid (fun W=>left_any _ _ _ W hok);clear h hbs htop hok eb hu;go_enter Tryz.func52,Tryz.ntmps52;go_wp2;refine wp_region_calm (by kernel_rfl) (by kernel_rfl) ?_
    repeat (go_big_quiet_step ((go_at_call 73;exact Calls.calm_of (hle.out _))))
    refine wpQuiet_nil ?_;intro w2 hw';have c2:=Later.out hw';clear hw' y9 y1 y2 y3 yo hw1;go_wp2;go_ret;exact⟨congrArg (fun z=>Ending.returned (vI z)) hrm.out,c2⟩
  · have y9:=h.rd 9 (vI 1) (by simp[hcells,hu]);have y1:=h.rd 4 (vI (1+s.n)) (by simp[hcells,hu]);have y2:=h.rd 5 (vI s.n) (by simp[hcells,hu]);have y3:=h.rd 6 (vI s.top) (by simp[hcells,hu]);have eb:((s.base s.u:Nat):Int)=1+s.n:=by rw[(hbs.1 hu).1];push_cast;rfl
    rw[eb] at hok hrm hw1;have hle:=hid (fun W=>left_any _ _ _ W hok);clear h hbs htop hok eb hu;go_enter Tryz.func52,Tryz.ntmps52;go_wp2;refine wp_region_calm (by kernel_rfl) (by kernel_rfl) ?_
    repeat (go_big_quiet_step ((go_at_call 73;exact Calls.calm_of (hle.out _))))
    refine wpQuiet_nil ?_;intro w2 hw';have c2:=Later.out hw';clear hw' y9 y1 y2 y3 yo hw1;go_wp2;go_ret;exact⟨congrArg (fun z=>Ending.returned (vI z)) hrm.out,c2⟩
theorem here_is {w:World}{B:HB}{s:HS}{X:List Nat}(h:HAt w B s X)(a:Int)(ha:I64 a) :
    Calls Tryz.prog 38 #[hpV B,vI a] w fun e w'=>e = .returned (.bool (decide (a∈nI (plc s.cur))))∧Calm w w':=by
  have hrow:=h.rowC;have hrise:=rise_cur h.rep;have hfew:=h.rep.few_cur;obtain⟨D,hD⟩:∃D,decide (a∈nI (plc s.cur))=D:=⟨_,rfl⟩;obtain⟨bi,hbi⟩:∃bi,binI (nI (plc s.cur)) a=bi:=⟨_,rfl⟩
  have hb:Hid (∀x:Later w,Calls Tryz.prog 65 #[bif s.u then B.v1 else B.v0,vI a] x.w fun e w'=>e = .returned (.tuple #[vI (bi:Nat),.bool D])∧Calm x.w w'):=fun x=>by
    rw[←hD,←hbi];exact bin_is (hrow.calm x.calm).row hrise (by simp;omega) a ha
  rw[hD];clear hD hbi;have hv0:=h.rd 7 B.v0 rfl;have hv1:=h.rd 8 B.v1 rfl;cases hu:s.u
  · have y9:=h.rd 9 (vI 0) (by simp[hcells,hu]);rw[hu] at hb;simp only[cond_false] at hb;clear h hrow hrise hu;go_enter Tryz.func38,Tryz.ntmps38;go_wp2;refine wp_region_calm (by kernel_rfl) (by kernel_rfl) ?_
    repeat (go_big_quiet_step ((go_at_call 65;exact Calls.calm_of (hb.out _))))
    refine wpQuiet_nil ?_;intro w2 hw';have c2:=Later.out hw';clear hw' y9 hv0 hv1;go_wp2;go_ret;exact⟨rfl,c2⟩
  · have y9:=h.rd 9 (vI 1) (by simp[hcells,hu]);rw[hu] at hb;simp only[cond_true] at hb;clear h hrow hrise hu;go_enter Tryz.func38,Tryz.ntmps38;go_wp2;refine wp_region_calm (by kernel_rfl) (by kernel_rfl) ?_
    repeat (go_big_quiet_step ((go_at_call 65;exact Calls.calm_of (hb.out _))))
    refine wpQuiet_nil ?_;intro w2 hw';have c2:=Later.out hw';clear hw' y9 hv0 hv1;go_wp2;go_ret;exact⟨rfl,c2⟩
theorem there_is {w:World}{B:HB}{s:HS}{X:List Nat}(h:HAt w B s X)(a:Int)(ha:I64 a) :
    Calls Tryz.prog 165 #[hpV B,vI a] w fun e w'=>e = .returned (.bool (decide (a∈nI (opl s.old))))∧Calm w w':=by
  have hmv:=hid (moving_is h);cases hm:s.mv
  · have ho:=h.rep.still hm;have hd:Hid (decide (a∈nI (opl s.old))=false):=by show _=false;rw[ho];simp
    rw[hm] at hmv;clear h ho hm;go_enter Tryz.func165,Tryz.ntmps165;go_wp2_with fail
    refine(hmv.out).mono ?_;rintro e w' ⟨rfl,rfl⟩;go_wp2;go_ret;exact⟨by rw[hd.out];rfl,Fr.refl _ _⟩
  · have hrow:=h.rowO;have hrise:=rise_old h.rep;have hfew:=h.rep.few_cur;obtain⟨D,hD⟩:∃D,decide (a∈nI (opl s.old))=D:=⟨_,rfl⟩;obtain⟨bi,hbi⟩:∃bi,binI (nI (opl s.old)) a=bi:=⟨_,rfl⟩
    have hb:Hid (∀x:Later w,Calls Tryz.prog 65 #[bif s.u then B.v0 else B.v1,vI a] x.w fun e w'=>e = .returned (.tuple #[vI (bi:Nat),.bool D])∧Calm x.w w'):=fun x=>by
      rw[←hD,←hbi];exact bin_is (hrow.calm x.calm).row hrise (by simp;omega) a ha
    rw[hD];clear hD hbi;have hv0:=h.rd 7 B.v0 rfl;have hv1:=h.rd 8 B.v1 rfl;rw[hm] at hmv;cases hu:s.u
    · have y9:=h.rd 9 (vI 0) (by simp[hcells,hu]);rw[hu] at hb;simp only[cond_false] at hb;clear h hrow hrise hu hm;go_enter Tryz.func165,Tryz.ntmps165;go_wp2_with fail
      refine(hmv.out).mono ?_;rintro e w' ⟨rfl,rfl⟩;go_wp2_with fail
      refine wp_region_calm (by kernel_rfl) (by kernel_rfl) ?_
      repeat (go_big_quiet_step ((go_at_call 65;exact Calls.calm_of (hb.out _))))
      refine wpQuiet_nil ?_;intro w2 hw';have c2:=Later.out hw';clear hw' y9 hv0 hv1;go_wp2;go_ret;exact⟨rfl,c2⟩
    · have y9:=h.rd 9 (vI 1) (by simp[hcells,hu]);rw[hu] at hb;simp only[cond_true] at hb;clear h hrow hrise hu hm;go_enter Tryz.func165,Tryz.ntmps165;go_wp2_with fail
      refine(hmv.out).mono ?_;rintro e w' ⟨rfl,rfl⟩;go_wp2_with fail
      refine wp_region_calm (by kernel_rfl) (by kernel_rfl) ?_
      repeat (go_big_quiet_step ((go_at_call 65;exact Calls.calm_of (hb.out _))))
      refine wpQuiet_nil ?_;intro w2 hw';have c2:=Later.out hw';clear hw' y9 hv0 hv1;go_wp2;go_ret;exact⟨rfl,c2⟩
end
section
open Go.RowKit Go.Shelf
structure CurAt (s:HS)(i a:Nat)(o:Ob):Prop where
  lt:i<s.cur.length
  get:s.cur.getD i ob0=(a,o)
theorem CurAt.mem {s:HS}{i a:Nat}{o:Ob}(c:CurAt s i a o):a∈plc s.cur:=by
  have h1:s.cur[i]'c.lt=(a,o):=by have:=c.get;simpa[List.getD,c.lt] using this
  exact List.mem_map.2 ⟨(a,o),h1 ▸ List.getElem_mem _,rfl⟩
theorem CurAt.at_ {s:HS}{X:List Nat}(h:HRep s X){i a:Nat}{o:Ob}(c:CurAt s i a o):At X a o:=by
  have:=h.at_ c.lt;have e:s.cur.getD i (0,Ob.new 0 0 false false 0)=(a,o):=c.get;rw[e] at this;exact this
theorem CurAt.of_mem {s:HS}{a:Nat}(h:a∈plc s.cur):∃i o,CurAt s i a o:=by
  obtain⟨x,hx,rfl⟩:=List.mem_map.1 h;obtain⟨i,hi,e⟩:=List.getElem_of_mem hx;exact⟨i,x.2,hi,by simp[List.getD,hi,e]⟩
theorem mem_nI {a:Nat}{l:List Nat} : ((a:Nat):Int)∈nI l↔a∈l:=by
  constructor
  · intro h;obtain⟨x,hx,e⟩:=List.mem_map.1 h;have:x=a:=by omega
    exact this ▸ hx
  · intro h;exact List.mem_map.2 ⟨a,h,rfl⟩
theorem here_yes {w:World}{B:HB}{s:HS}{X:List Nat}(h:HAt w B s X){a:Nat}(hm:a∈plc s.cur)(hb:a≤131072) :
    Calls Tryz.prog 38 #[hpV B,vI a] w fun e w'=>e = .returned (.bool true)∧Calm w w':=by
  refine(here_is h a ⟨by omega,by omega⟩).mono (fun e w' ⟨h1,h2⟩=>⟨?_,h2⟩);rw[h1,decide_eq_true (mem_nI.2 hm)]
theorem here_no {w:World}{B:HB}{s:HS}{X:List Nat}(h:HAt w B s X){a:Int}(ha:I64 a)(hm:a∉nI (plc s.cur)) :
    Calls Tryz.prog 38 #[hpV B,vI a] w fun e w'=>e = .returned (.bool false)∧Calm w w':=by
  refine(here_is h a ha).mono (fun e w' ⟨h1,h2⟩=>⟨?_,h2⟩);rw[h1,decide_eq_false hm]
theorem CurAt.le {s:HS}{X:List Nat}(h:HRep s X){i a:Nat}{o:Ob}(c:CurAt s i a o):a≤131072:=by
  have h1:=(c.at_ h).lt;have h2:=h.len;have h3:=h.n2;omega
theorem HAt.turn {w w':World}{B:HB}{s:HS}{X X':List Nat}(h:HAt w B s X){i a:Nat}{o o':Ob}(c:CurAt s i a o)(ar:Ar w' B.ap B.ac X')(f:Fr (fun k=>k=B.ac) w w')(hl:X'.length=X.length)(ha:At X' a o')(hs:SameK o o')
    (hj:∀j,j<a∨a+o.size≤j→X'.getD j 0=X.getD j 0):HAt w' B (s.upd i o') X'∧HKeep w B w' B:=by
  have hr:=h.rep.upd c.lt (o':=o') hl (by rw[c.get];exact ha) (by rw[c.get];exact hs) (by rw[c.get];exact hj);obtain⟨e1,e2,e3⟩:=upd_cells B s c.lt (o:=o') (by rw[c.get];exact hs);exact h.words ar f hr e1 e2 e3 rfl rfl
theorem upd_same {s:HS}{i a:Nat}{o:Ob}(c:CurAt s i a o):s.upd i o=s:=by
  unfold HS.upd;have e:s.cur.getD i (0,Ob.new 0 0 false false 0)=(a,o):=c.get;rw[e]
  have:s.cur.set i (a,o)=s.cur:=by
    apply List.ext_getElem (by simp);intro j h1 h2;rw[List.getElem_set];split
    · rename_i e2;subst e2;have:=c.get;simp[List.getD,c.lt] at this;exact this.symm
    · rfl
  rw[this]
def Ob.setn (o:Ob)(bp:Bool)(k v:Int):Ob:=bif bp then { o with ns:=o.ns.set k.toNat (zg v) } else o
def Ob.setp (o:Ob)(bp:Bool)(k:Int)(v:Nat):Ob:=bif bp then { o with ps:=o.ps.set k.toNat v } else o
theorem Ob.setn_same (o:Ob)(bp:Bool)(k v:Int):SameK o (o.setn bp k v):=by cases bp <;> exact⟨rfl,rfl,rfl,rfl,rfl⟩
theorem Ob.setp_same (o:Ob)(bp:Bool)(k:Int)(v:Nat):SameK o (o.setp bp k v):=by cases bp <;> exact⟨rfl,rfl,rfl,rfl,rfl⟩
section
variable {w:World}{B:HB}{s:HS}{X:List Nat}
theorem hserial_no (h:HAt w B s X){a:Int}(ha:I64 a)(hm:a∉nI (plc s.cur)) :
    Calls Tryz.prog 50 #[hpV B,vI a] w fun e w'=>e = .returned (.tuple #[vI 0,vI 70])∧Calm w w':=by
  have hh:=hid (here_no h ha hm);clear h hm;go_enter Tryz.func50,Tryz.ntmps50;go_wp2_with fail
  refine(hh.out).mono ?_;rintro e w1 ⟨rfl,c1⟩;go_wp2
  go_ret2
  exact⟨rfl,c1⟩
theorem hnum_no (h:HAt w B s X){a:Int}(ha:I64 a)(hm:a∉nI (plc s.cur))(k:Int) :
    Calls Tryz.prog 146 #[hpV B,vI a,vI k] w fun e w'=>e = .returned (.tuple #[vI 0,vI 70])∧Calm w w':=by
  have hh:=hid (here_no h ha hm);clear h hm;go_enter Tryz.func146,Tryz.ntmps146;go_wp2_with fail
  refine(hh.out).mono ?_;rintro e w1 ⟨rfl,c1⟩;go_wp2
  go_ret2
  exact⟨rfl,c1⟩
theorem hsetnum_no (h:HAt w B s X){a:Int}(ha:I64 a)(hm:a∉nI (plc s.cur))(k v:Int) :
    Calls Tryz.prog 148 #[hpV B,vI a,vI k,vI v] w fun e w'=>e = .returned (vI 70)∧Calm w w':=by
  have hh:=hid (here_no h ha hm);clear h hm;go_enter Tryz.func148,Tryz.ntmps148;go_wp2_with fail
  refine(hh.out).mono ?_;rintro e w1 ⟨rfl,c1⟩;go_wp2;go_ret;exact⟨rfl,c1⟩
theorem hsetfreed_no (h:HAt w B s X){a:Int}(ha:I64 a)(hm:a∉nI (plc s.cur))(v:Bool) :
    Calls Tryz.prog 152 #[hpV B,vI a,.bool v] w fun e w'=>e = .returned (vI 70)∧Calm w w':=by
  have hh:=hid (here_no h ha hm);clear h hm;go_enter Tryz.func152,Tryz.ntmps152;go_wp2_with fail
  refine(hh.out).mono ?_;rintro e w1 ⟨rfl,c1⟩;go_wp2;go_ret;exact⟨rfl,c1⟩
theorem hsetsecond_no (h:HAt w B s X){a:Int}(ha:I64 a)(hm:a∉nI (plc s.cur))(v:Nat) :
    Calls Tryz.prog 182 #[hpV B,vI a,wV v] w fun e w'=>e = .returned (vI 70)∧Calm w w':=by
  have hh:=hid (here_no h ha hm);clear h hm;go_enter Tryz.func182,Tryz.ntmps182;go_wp2_with fail
  refine(hh.out).mono ?_;rintro e w1 ⟨rfl,c1⟩;go_wp2;go_ret;exact⟨rfl,c1⟩
theorem hptr_no (h:HAt w B s X){a:Int}(ha:I64 a)(hm:a∉nI (plc s.cur))(k:Int) :
    Calls Tryz.prog 138 #[hpV B,vI a,vI k] w fun e w'=>e = .returned (.tuple #[vI 0,vI 70])∧Calm w w':=by
  have hh:=hid (here_no h ha hm);clear h hm;go_enter Tryz.func138,Tryz.ntmps138;go_wp2_with fail
  refine(hh.out).mono ?_;rintro e w1 ⟨rfl,c1⟩;go_wp2
  go_ret2
  exact⟨rfl,c1⟩
theorem hsetptr_no (h:HAt w B s X){a:Int}(ha:I64 a)(hm:a∉nI (plc s.cur))(k v:Int) :
    Calls Tryz.prog 136 #[hpV B,vI a,vI k,vI v] w fun e w'=>e = .returned (vI 70)∧Calm w w':=by
  have hh:=hid (here_no h ha hm);clear h hm;go_enter Tryz.func136,Tryz.ntmps136;go_wp2_with fail
  refine(hh.out).mono ?_;rintro e w1 ⟨rfl,c1⟩;go_wp2;go_ret;exact⟨rfl,c1⟩
theorem hserial_yes (h:HAt w B s X){i a:Nat}{o:Ob}(c:CurAt s i a o) :
    Calls Tryz.prog 50 #[hpV B,vI a] w fun e w'=>e = .returned (.tuple #[vI o.ser,vI 0])∧Calm w w':=by
  have hh:=hid (here_yes h c.mem (c.le h.rep));have y0:=(h.own (i:=0) (v:=arV B.ap) rfl).1;have ha:=hid (c.at_ h.rep);have H:=hid h;clear h;go_enter Tryz.func50,Tryz.ntmps50;go_wp2_with fail
  refine(hh.out).mono ?_;rintro e w1 ⟨rfl,c1⟩;replace y0:=c1.cellAt y0 id;replace H:=hid (H.out.calm c1);go_wp2_with fail
  refine(at_serial H.out.ar ha.out).mono ?_;rintro e w2 ⟨rfl,c2⟩;go_wp2
  go_ret2
  exact⟨rfl,c1.trans c2⟩
theorem hnum_if (h:HAt w B s X){i a:Nat}{o:Ob}(c:CurAt s i a o){bp:Bool}{k:Int}(hk:Has bp k o.d) :
    Calls Tryz.prog 146 #[hpV B,vI a,vI k] w fun e w'=>e = .returned (.tuple #[vI (bif bp then zt (o.ns.getD k.toNat 0) else 0),vI (bif bp then 0 else 71)])∧Calm w w':=by
  replace hk:=hid hk;have hh:=hid (here_yes h c.mem (c.le h.rep));have y0:=(h.own (i:=0) (v:=arV B.ap) rfl).1;have ha:=hid (c.at_ h.rep);have H:=hid h;clear h;go_enter Tryz.func146,Tryz.ntmps146;go_wp2_with fail
  refine(hh.out).mono ?_;rintro e w1 ⟨rfl,c1⟩;replace y0:=c1.cellAt y0 id;replace H:=hid (H.out.calm c1);go_wp2_with fail
  refine(at_num_if H.out.ar ha.out hk.out).mono ?_;rintro e w2 ⟨rfl,c2⟩;go_wp2
  go_ret2
  exact⟨rfl,c1.trans c2⟩
theorem hsetnum_if (h:HAt w B s X){i a:Nat}{o:Ob}(c:CurAt s i a o){bp:Bool}{k v:Int}(hk:Has bp k o.d)(hv:I64 v) :
    Calls Tryz.prog 148 #[hpV B,vI a,vI k,vI v] w fun e w'=>e = .returned (vI (bif bp then 0 else 71))∧∃X',HAt w' B (s.upd i (o.setn bp k v)) X'∧HKeep w B w' B:=by
  replace hk:=hid hk;replace hv:=hid hv;have hh:=hid (here_yes h c.mem (c.le h.rep));have y0:=(h.own (i:=0) (v:=arV B.ap) rfl).1;have ha:=hid (c.at_ h.rep);have H:=hid h;clear h;go_enter Tryz.func148,Tryz.ntmps148;go_wp2_with fail
  refine(hh.out).mono ?_;rintro e w1 ⟨rfl,c1⟩;replace y0:=c1.cellAt y0 id;replace H:=hid (H.out.calm c1);go_wp2_with fail
  refine(at_setnum_if H.out.ar ha.out hk.out hv.out).mono ?_;rintro e w2 ⟨rfl,ar2,f2⟩;have ht:=hid (H.out.turn c ar2 f2 (o':=o.setn bp k v) (by cases bp <;> simp) (Has.at_num ha.out hk.out hv.out) (o.setn_same bp k v) (fun j hj=>by have hk:=hk.out;simp only[Ob.size] at hj;rcases hk with ⟨rfl,h1,h2⟩|⟨rfl,h1⟩ <;> simp only[cond_true,cond_false];rw[getD_set,if_neg (by omega)]));have hk0:=HKeep.calm B c1;go_wp2;go_ret;exact⟨rfl,_,ht.out.1,hk0.trans ht.out.2⟩
theorem hsetfreed_yes (h:HAt w B s X){i a:Nat}{o:Ob}(c:CurAt s i a o)(fr':Bool) :
    Calls Tryz.prog 152 #[hpV B,vI a,.bool fr'] w fun e w'=>e = .returned (vI 0)∧∃X',HAt w' B (s.upd i ({ o with fr:=fr' })) X'∧HKeep w B w' B:=by
  have hh:=hid (here_yes h c.mem (c.le h.rep));have y0:=(h.own (i:=0) (v:=arV B.ap) rfl).1;have ha:=hid (c.at_ h.rep);have H:=hid h;clear h;go_enter Tryz.func152,Tryz.ntmps152;go_wp2_with fail
  refine(hh.out).mono ?_;rintro e w1 ⟨rfl,c1⟩;replace y0:=c1.cellAt y0 id;replace H:=hid (H.out.calm c1);go_wp2_with fail
  refine(at_setfreed H.out.ar ha.out fr').mono ?_;rintro e w2 ⟨rfl,ar2,f2⟩;have ht:=hid (H.out.turn c ar2 f2 (o':={ o with fr:=fr' }) (by simp) (ha.out.setHead fr') (⟨rfl,rfl,rfl,rfl,rfl⟩) (fun j hj=>by simp only[Ob.size] at hj;rw[getD_set,if_neg (by omega)]));have hk0:=HKeep.calm B c1;go_wp2;go_ret;exact⟨rfl,_,ht.out.1,hk0.trans ht.out.2⟩
theorem hsetsecond_yes (h:HAt w B s X){i a:Nat}{o:Ob}(c:CurAt s i a o)(v:Nat) :
    Calls Tryz.prog 182 #[hpV B,vI a,wV v] w fun e w'=>e = .returned (vI 0)∧∃X',HAt w' B (s.upd i ({ o with snd:=v })) X'∧HKeep w B w' B:=by
  have hh:=hid (here_yes h c.mem (c.le h.rep));have y0:=(h.own (i:=0) (v:=arV B.ap) rfl).1;have ha:=hid (c.at_ h.rep);have H:=hid h;clear h;go_enter Tryz.func182,Tryz.ntmps182;go_wp2_with fail
  refine(hh.out).mono ?_;rintro e w1 ⟨rfl,c1⟩;replace y0:=c1.cellAt y0 id;replace H:=hid (H.out.calm c1);go_wp2_with fail
  refine(at_setsecond H.out.ar ha.out v).mono ?_;rintro e w2 ⟨rfl,ar2,f2⟩;have ht:=hid (H.out.turn c ar2 f2 (o':={ o with snd:=v }) (by simp) (ha.out.setSnd v) (⟨rfl,rfl,rfl,rfl,rfl⟩) (fun j hj=>by simp only[Ob.size] at hj;rw[getD_set,if_neg (by omega)]));have hk0:=HKeep.calm B c1;go_wp2;go_ret;exact⟨rfl,_,ht.out.1,hk0.trans ht.out.2⟩
end
end
end Go.Proofs.YtdffnjikmkgjkaaGreat
