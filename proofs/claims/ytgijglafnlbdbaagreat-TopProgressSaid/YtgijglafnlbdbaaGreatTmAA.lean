import Derived.RangeFuncNested
import Derived.RangeFuncBound
import Derived.WalkSpells
import Derived.WalkLawsBesides
import Derived.Shelf.RegionOpen
import Derived.OwnWalkIn
import Derived.LoopNIn
import Derived.LoopIn
import Derived.StillTailTactics
import Derived.Deep.RegionHeld3
import Derived.Deep.DeepCutAuto
import Derived.Test.YtgijglafnlbdbaaGreatProg
import Derived.Test.YtgijglafnlbdbaaGreatRows
import Derived.ProofKit
import Derived.OpenShut
import Derived.ShutString
import Derived.Test.YtgijglafnlbdbaaGreatChecked
import Derived.Deep.Slices
set_option linter.all false
set_option maxRecDepth 8000
namespace Go.Proofs.YtgijglafnlbdbaaGreat
open RowKit Shelf Proofs.Tryz
open Go renaming World->ag,Value->aA,Calls->aJ
section
theorem hid{p:Prop}(h:p):Hid p:=h
structure Fr(S:Nat->Prop)(w w':ag):Prop where
 os:w'.os=w.os
 tape:w'.tape=w.tape
 output:w'.output=w.output
 size:w.heap.size<=w'.heap.size
 block:∀k,k<w.heap.size->¬S k->w'.heap[k]?=w.heap[k]?
abbrev Calm(w w':ag):Prop:=Fr (λ_=>False) w w'
namespace Fr
variable {S T:Nat->Prop}{a b c w w':ag}
theorem refl(S:Nat->Prop)(w:ag):Fr S w w:=⟨rfl,rfl,rfl,Nat.le_refl _,λ_ _ _=>rfl⟩
theorem trans(h:Fr S a b)(k:Fr S b c):Fr S a c:=
 ⟨k.os.trans h.os,k.tape.trans h.tape,k.output.trans h.output,Nat.le_trans h.size k.size,
  λi hi hs=>(k.block i (Nat.lt_of_lt_of_le hi h.size) hs).trans (h.block i hi hs)⟩
theorem mono(h:Fr S w w')(hs:∀k,k<w.heap.size->S k->T k):Fr T w w':=
 ⟨h.os,h.tape,h.output,h.size,λk hk ht=>h.block k hk (λx=>ht (hs k hk x))⟩
theorem drew(h:Fr S a w):Fr S a w.drew:=⟨h.os,h.tape,h.output,h.size,h.block⟩
theorem drewN(h:Fr S a w)(n:Nat):Fr S a (w.drewN n):=⟨h.os,h.tape,h.output,h.size,h.block⟩
theorem alloc(h:Fr S a w)(o:Obj):Fr S a (w.alloc o):=
 h.trans ⟨rfl,rfl,rfl,by simp,λk hk _=>Below.heap_alloc _ _ _ hk⟩
theorem setCell(h:Fr S a w){p:Addr}(hp:S p.block\/a.heap.size<=p.block)(u:aA):Fr S a (w.setCell p u):=
 ⟨h.os,h.tape,h.output,Nat.le_trans h.size (by simp[World.setCell]),λk hk hs=>by
  rw[Below.heap_setCell _ _ _ _ (by rintro rfl;rcases hp with hp|hp;exact hs hp;omega)];exact h.block k hk hs⟩
theorem putObj(h:Fr S a w){p:Nat}(hp:S p\/a.heap.size<=p)(o:Obj):Fr S a (w.putObj p o):=
 ⟨h.os,h.tape,h.output,Nat.le_trans h.size (by simp),λk hk hs=>by
  rw[World.putObj_heap_other (by rintro rfl;rcases hp with hp|hp;exact hs hp;omega)];exact h.block k hk hs⟩
theorem cell(h:Fr S w w'){p:Addr}(hp:p.block<w.heap.size)(hs:¬S p.block):w'.cell? p=w.cell? p:=World.cell?_of_block (w:=w) (h.block p.block hp hs)
theorem frozen(h:Fr S w w'){p:Addr}(hp:p.block<w.heap.size)(hs:¬S p.block):w'.frozen? p=w.frozen? p:=World.frozen?_of_block (w:=w) (h.block p.block hp hs)
theorem below(h:Fr S w w'){B:Nat}(hB:B<=w.heap.size)(hS:∀k,k<B->¬S k):Below B w w':=
 ⟨h.os,h.tape,h.output,h.size,λk hk=>h.block k (by omega) (hS k hk)⟩
theorem grown(h:Fr S a w){row:Option Nat}(hg:w.grownBy w' row)(hr:∀k,row=some k->S k\/a.heap.size<=k):Fr S a w':=
 ⟨hg.os.trans h.os,hg.tape.trans h.tape,hg.output.trans h.output,Nat.le_trans h.size hg.size,λk hk hs=>by
  rw[hg.block k (Nat.lt_of_lt_of_le hk h.size) (by rintro rfl;rcases hr k rfl with x|x;exact hs x;omega)];exact h.block k hk hs⟩
theorem join(h:Fr S a b)(k:Fr T b c)(hs:∀k,k<a.heap.size->T k->S k):Fr S a c:=
 ⟨k.os.trans h.os,k.tape.trans h.tape,k.output.trans h.output,Nat.le_trans h.size k.size,
  λi hi hS=>(k.block i (Nat.lt_of_lt_of_le hi h.size) (λx=>hS (hs i hi x))).trans (h.block i hi hS)⟩
theorem cellAt(h:Fr S w w'){p:Addr}{v:aA}(hc:w.cell? p=some v)(hs:¬S p.block):w'.cell? p=some v:=(h.cell (World.block_lt_of_cell? w p hc) hs).trans hc
theorem frozenAt(h:Fr S w w'){p:Addr}{v:aA}{f:Bool}(hc:w.cell? p=some v)(hf:w.frozen? p=f)(hs:¬S p.block):w'.frozen? p=f:=(h.frozen (World.block_lt_of_cell? w p hc) hs).trans hf
theorem gT(h:Fr S w w'){b:Nat}{o:Obj}(hc:w.heap[b]?=some o)(hs:¬S b):w'.heap[b]?=some o:=(h.block b (Array.getElem?_eq_some_iff.1 hc).1 hs).trans hc
end Fr
def Own(w:ag)(b i:Nat)(v:aA):Prop:=w.cell? ⟨b,i,none⟩=some v/\w.frozen? ⟨b,i,none⟩=false
theorem Own.fr{S:Nat->Prop}{w w':ag}{b i:Nat}{v:aA}(h:Own w b i v)(f:Fr S w w')(hs:¬S b):Own w' b i v:=⟨f.cellAt (p:=⟨b,i,none⟩) h.1 hs,f.frozenAt (p:=⟨b,i,none⟩) h.1 h.2 hs⟩
theorem Own.lt{w:ag}{b i:Nat}{v:aA}(h:Own w b i v):b<w.heap.size:=World.block_lt_of_cell? w _ h.1
theorem Own.new(w:ag)(c:Array aA)(t:TypeId)(i:Nat){v:aA}(h:c[i]?=some v):Own (w.alloc (.cells c t)) w.heap.size i v:=
 ⟨(World.cell?_alloc_new w c t i).trans h,World.frozen?_alloc_new w c t i⟩
theorem Own.at(w:ag)(c:Array aA)(t:TypeId)(b i:Nat){v:aA}(hb:b=w.heap.size)(h:c[i]?=some v):Own (w.alloc (.cells c t)) b i v:=by subst hb;exact Own.new w c t i h
theorem Own.alloc{w:ag}{b i:Nat}{v:aA}(h:Own w b i v)(o:Obj):Own (w.alloc o) b i v:=h.fr (Fr.alloc (Fr.refl (λ_=>False) w) o) id
theorem Own.drew{w:ag}{b i:Nat}{v:aA}(h:Own w b i v):Own w.drew b i v:=h
theorem Own.set{w:ag}{b i:Nat}{v:aA}(h:Own w b i v)(u:aA):Own (w.setCell ⟨b,i,none⟩ u) b i u:=⟨World.cell?_setCell_same w _ _ h.1,by rw[World.frozen?_setCell];exact h.2⟩
theorem Own.other{w:ag}{b i:Nat}{v:aA}(h:Own w b i v)(p:Addr)(u:aA)(hp:p.block≠b\/p.off≠i):Own (w.setCell p u) b i v:=
 ⟨(World.cell?_setCell_other w p _ u (by rintro rfl;simp at hp)).trans h.1,by rw[World.frozen?_setCell];exact h.2⟩
theorem Own.gL{w:ag}{b i:Nat}{v:aA}(h:Own w b i v)(p:Addr)(u:aA)(hp:p.block≠b):Own (w.setCell p u) b i v:=h.other p u (.inl hp)
theorem Mh{w:ag}{B:Nat}{a b:aA}(h0:Own w B 0 a)(h1:Own w B 1 b)(x y:aA) :
 Own ((w.setCell ⟨B,0,none⟩ x).setCell ⟨B,1,none⟩ y) B 0 x/\Own ((w.setCell ⟨B,0,none⟩ x).setCell ⟨B,1,none⟩ y) B 1 y/\Fr (λk=>k=B) w ((w.setCell ⟨B,0,none⟩ x).setCell ⟨B,1,none⟩ y):=
 ⟨(h0.set x).other _ _ (.inr (by simp)),(h1.other _ _ (.inr (by simp))).set y,((Fr.refl (λk=>k=B) w).setCell (.inl rfl) _).setCell (.inl rfl) _⟩
theorem CN{w:ag}{B:Nat}{a b c:aA}(h0:Own w B 0 a)(h1:Own w B 1 b)(h2:Own w B 2 c)(x y z:aA) :
 Own (((w.setCell ⟨B,0,none⟩ x).setCell ⟨B,1,none⟩ y).setCell ⟨B,2,none⟩ z) B 0 x/\Own (((w.setCell ⟨B,0,none⟩ x).setCell ⟨B,1,none⟩ y).setCell ⟨B,2,none⟩ z) B 1 y /\
 Own (((w.setCell ⟨B,0,none⟩ x).setCell ⟨B,1,none⟩ y).setCell ⟨B,2,none⟩ z) B 2 z/\Fr (λk=>k=B) w (((w.setCell ⟨B,0,none⟩ x).setCell ⟨B,1,none⟩ y).setCell ⟨B,2,none⟩ z):=
 let ⟨p,q,f⟩:=Mh h0 h1 x y
 ⟨p.other _ _ (.inr (by simp)),q.other _ _ (.inr (by simp)),((h2.other _ _ (.inr (by simp))).other _ _ (.inr (by simp))).set z,f.setCell (.inl rfl) _⟩
theorem CO{w:ag}{B:Nat}{a b c d:aA}(h0:Own w B 0 a)(h1:Own w B 1 b)(h2:Own w B 2 c)(h3:Own w B 3 d)(x y z u:aA) :
 Own ((((w.setCell ⟨B,0,none⟩ x).setCell ⟨B,1,none⟩ y).setCell ⟨B,2,none⟩ z).setCell ⟨B,3,none⟩ u) B 0 x/\Own ((((w.setCell ⟨B,0,none⟩ x).setCell ⟨B,1,none⟩ y).setCell ⟨B,2,none⟩ z).setCell ⟨B,3,none⟩ u) B 1 y /\
 Own ((((w.setCell ⟨B,0,none⟩ x).setCell ⟨B,1,none⟩ y).setCell ⟨B,2,none⟩ z).setCell ⟨B,3,none⟩ u) B 2 z/\Own ((((w.setCell ⟨B,0,none⟩ x).setCell ⟨B,1,none⟩ y).setCell ⟨B,2,none⟩ z).setCell ⟨B,3,none⟩ u) B 3 u /\
 Fr (λk=>k=B) w ((((w.setCell ⟨B,0,none⟩ x).setCell ⟨B,1,none⟩ y).setCell ⟨B,2,none⟩ z).setCell ⟨B,3,none⟩ u):=
 let ⟨p,q,r,f⟩:=CN h0 h1 h2 x y z
 ⟨p.other _ _ (.inr (by simp)),q.other _ _ (.inr (by simp)),r.other _ _ (.inr (by simp)),(((h3.other _ _ (.inr (by simp))).other _ _ (.inr (by simp))).other _ _ (.inr (by simp))).set u,f.setCell (.inl rfl) _⟩
def af(w:ag)(B:Nat)(vs:List aA):Prop:=∀i v,vs[i]?=some v->Own w B i v
theorem af.new(w:ag)(vs:List aA)(t:TypeId):af (w.alloc (.cells vs.toArray t)) w.heap.size vs:=λi v h=>Own.new w _ _ i (by simpa using h)
theorem af.at(w:ag)(vs:List aA)(t:TypeId)(b:Nat)(hb:b=w.heap.size):af (w.alloc (.cells vs.toArray t)) b vs:=by subst hb;exact af.new w vs t
theorem af.fr{S:Nat->Prop}{w w':ag}{B:Nat}{vs:List aA}(h:af w B vs)(f:Fr S w w')(hs:¬S B):af w' B vs:=λi v hv=>(h i v hv).fr f hs
theorem af.calm{w w':ag}{B:Nat}{vs:List aA}(h:af w B vs)(f:Calm w w'):af w' B vs:=h.fr f id
theorem af.alloc{w:ag}{B:Nat}{vs:List aA}(h:af w B vs)(o:Obj):af (w.alloc o) B vs:=λi v hv=>(h i v hv).alloc o
theorem af.gL{w:ag}{B:Nat}{vs:List aA}(h:af w B vs)(p:Addr)(u:aA)(hp:p.block≠B):af (w.setCell p u) B vs:=λi v hv=>(h i v hv).gL p u hp
theorem af.lt{w:ag}{B:Nat}{vs:List aA}(h:af w B vs)(hv:0<vs.length):B<w.heap.size:=(h 0 vs[0] (by simp[hv])).lt
theorem af.set{w:ag}{B:Nat}{vs:List aA}(h:af w B vs)(k:Nat)(u:aA)(hk:k<vs.length):af (w.setCell ⟨B,k,none⟩ u) B (vs.set k u):=λi v hv=>by
 by_cases e:i=k
 ·subst e;rw[List.getElem?_set_self hk] at hv;cases hv;exact(h i vs[i] (by simp[hk])).set u
 ·rw[List.getElem?_set_ne (Ne.symm e)] at hv;exact(h i v hv).other _ _ (.inr (by simpa using Ne.symm e))
theorem af.xr{w:ag}{B:Nat}{a b c:aA}(h:af w B [a,b,c])(x y z:aA) :
 af (((w.setCell ⟨B,0,none⟩ x).setCell ⟨B,1,none⟩ y).setCell ⟨B,2,none⟩ z) B [x,y,z]/\Fr (λk=>k=B) w (((w.setCell ⟨B,0,none⟩ x).setCell ⟨B,1,none⟩ y).setCell ⟨B,2,none⟩ z):=
 ⟨((h.set 0 x (by simp)).set 1 y (by simp)).set 2 z (by simp),(((Fr.refl (λk=>k=B) w).setCell (.inl rfl) _).setCell (.inl rfl) _).setCell (.inl rfl) _⟩
theorem af.xt{w:ag}{B:Nat}{a b c d:aA}(h:af w B [a,b,c,d])(x y z u:aA) :
 af ((((w.setCell ⟨B,0,none⟩ x).setCell ⟨B,1,none⟩ y).setCell ⟨B,2,none⟩ z).setCell ⟨B,3,none⟩ u) B [x,y,z,u]/\Fr (λk=>k=B) w ((((w.setCell ⟨B,0,none⟩ x).setCell ⟨B,1,none⟩ y).setCell ⟨B,2,none⟩ z).setCell ⟨B,3,none⟩ u):=
 ⟨(((h.set 0 x (by simp)).set 1 y (by simp)).set 2 z (by simp)).set 3 u (by simp),((((Fr.refl (λk=>k=B) w).setCell (.inl rfl) _).setCell (.inl rfl) _).setCell (.inl rfl) _).setCell (.inl rfl) _⟩
theorem Calm.any{S:Nat->Prop}{w w':ag}(h:Calm w w'):Fr S w w':=Fr.mono h (λ_ _ x=>x.elim)
def Row(w:ag)(v:aA)(xs:List aA):Prop:=
 ∃a cap,v=.slice a xs.length cap/\(xs=[]\/∃b off,a=some ⟨b,off,none⟩/\∀ (i:Nat) (h:i<xs.length),w.cell? ⟨b,off+i,none⟩=some xs[i])
theorem Row.nil(w:ag):Row w (.slice none 0 0) []:=⟨none,0,rfl,.inl rfl⟩
theorem E2{S:Nat->Prop}{w w':ag}{base:Nat}{e:TypeId}{size:Nat}{v:aA}{n:Nat}{xs:List aA}(h:w.ownsRow base e size v n xs)(f:Fr S w w')(hs:∀k,base<=k->¬S k):w'.ownsRow base e size v n xs:=by
 refine⟨h.1,?_⟩;rcases h.2 with hn|⟨g,cap,cur,rfl,hb,ZD,rest⟩
 ·exact .inl hn
 ·exact .inr ⟨g,cap,cur,rfl,hb,f.gT ZD (hs _ hb),rest⟩
theorem Fr.OP{w w':ag}{base:Nat}{e:TypeId}{size:Nat}{v:aA}{n:Nat}{xs:List aA}{o:Obj}(h:w.ownsRow base e size v n xs)(hg:(w.alloc o).grownBy w' v.ownBlock):Fr (λk=>base<=k) w w':=
 Fr.grown (Fr.alloc (Fr.refl _ _) _) hg (λk hk=>.inl (h.lt k hk).1)
theorem Row.Qt{w:ag}{base:Nat}{e:TypeId}{v:aA}{n:Nat}{xs:List aA}(h:w.ownsRow base e 1 v n xs):Row w v xs:=by
 obtain⟨hl,h⟩:=h;rcases h with ⟨rfl,rfl⟩|⟨g,cap,cur,rfl,_,hg,hn,_,kv,hx⟩
 ·simp at hl;subst hl;exact Row.nil w
 ·refine⟨some ⟨g,0,none⟩,cap,by simp[hl],.inr ⟨g,0,rfl,λi hi=>?_⟩⟩;have:w.cell? ⟨g,0+i,none⟩=cur[i]?:=by simp[World.cell?,hg]
  rw[this];have h2:cur.toList[i]?=xs[i]?:=by rw[<-hx,List.getElem?_take];simp;omega
  rw[<-Array.getElem?_toList,h2];simp[hi]
def pk(c n:Int):Int:=(if c<0 then -(c+1) else c) % n
abbrev bX(n:Int):Prop:=-9223372036854775808<=n/\n<=9223372036854775807
structure a_(acs:ag) where
 w:ag
 calm:Calm acs w
instance Oh (w:ag):Nonempty (a_ w):=⟨⟨w,Fr.refl _ _⟩⟩
theorem bO{P:Program}{id:Nat}{Q:Exit->Act->ag->Prop}{a:Act}{w:ag}{l:List Oper}(hm:P.follows .mixedOrders=true)(hB:Region.lexB .any l.toArray=true)
 (h:wpQuiet P l.toArray (λw'=>∃x:a_ w,w'=x.w) (λa'=>∀w',(∃x:a_ w,w'=x.w)->Q .normal a' w') l a):(Code.region id l.toArray true).wp P Q a w:=
 wp_region_quiet (C:=λw'=>∃x:a_ w,w'=x.w) hm hB ⟨⟨w.drew,(Fr.refl _ w).drew⟩,rfl⟩ (by simpa using h)
theorem a_.out{w w':ag}(h:∃x:a_ w,w'=x.w):Calm w w':=by obtain⟨x,rfl⟩:=h;exact x.calm
theorem Calls.dC{P:Program}{f:FuncId}{args:Array aA}{w:ag}{x:a_ w}{v:aA}
 (h:aJ P f args x.w λe w'=>e=.returned v/\Calm x.w w'):aJ P f args x.w λe w''=>e=.returned v/\∃y:a_ w,w''=y.w:=
 h.mono λ_ w' ⟨he,hc⟩=>⟨he,⟨w',x.calm.trans hc⟩,rfl⟩
theorem a_.cell{w:ag}(x:a_ w){b o:Nat}{v:aA}(h:w.cell? ⟨b,o,none⟩=some v):x.w.cell? ⟨b,o,none⟩=some v:=x.calm.cellAt h id
def cE(keep:Nat->Prop)(W W':ag):Prop:=W.heap.size<=W'.heap.size/\∀b,keep b->W'.heap[b]?=W.heap[b]?
theorem cE.refl(keep:Nat->Prop)(W:ag):cE keep W W:=⟨Nat.le_refl _,λ_ _=>rfl⟩
theorem cE.trans{keep:Nat->Prop}{A B C:ag}(h:cE keep A B)(k:cE keep B C):cE keep A C:=
 ⟨Nat.le_trans h.1 k.1,λb hb=>(k.2 b hb).trans (h.2 b hb)⟩
theorem cE.mono{keep SG:Nat->Prop}{A B:ag}(h:cE keep A B)(hk:∀b,SG b->keep b):cE SG A B:=⟨h.1,λb hb=>h.2 b (hk b hb)⟩
theorem cE.yv{keep S:Nat->Prop}{A B:ag}(h:Fr S A B)(hk:∀b,keep b->b<A.heap.size/\¬S b):cE keep A B:=
 ⟨h.size,λb hb=>h.block b (hk b hb).1 (hk b hb).2⟩
def Rp(F:Fence)(n:Nat)(P:Program)(g:Nat)(lb:Array aA)(el:Nat->Array aA)(N:Nat)(fin:Bool)(keep:Nat->Prop)(w0:ag):Prop:=
 ∀ (l:Nat) (J:Nat->ag->Prop) (Jx:ag->Prop) (W:ag),cE keep w0 W->w0.heap.size<=W.heap.size ->
   (∀k A B,J k A->Calm A B->J k B)->(∀A B,Jx A->Calm A B->Jx B)->(fin=false->∀W,¬J N W) ->
   (∀k W1,k<N->J k W1->YieldAt F (n-1) P l (el k) W1 λe W'=>
    (e=.returned (.bool true)/\J (k+1) W'/\cE keep W1 W')\/(e=.returned (.bool false)/\Jx W')) ->
   J 0 W ->
   CallsIn F n P g (#[.func (.yield l) #[] #[]]++lb) W λe W'=>(∃v,e=.returned v)/\(J N W'\/Jx W')
def sx(keep:Nat->Prop)(D:Nat)(I':ag->Prop)(Ix:Code->ag->Prop)(W:ag):Exit->Act->ag->Prop
 | .normal,_,W'=>cE (λb=>keep b\/b=D\/b=D+1) W W'/\I' W'
 | .ret,_,W'=>cE (λb=>b=D\/b=D+1) W W'/\Ix .ret W'
 | .exit id,_,W'=>cE (λb=>b=D\/b=D+1) W W'/\Ix (.exit id) W'
 | .goto t,_,W'=>cE (λb=>b=D\/b=D+1) W W'/\Ix (.goto t) W'
 | .panic _,_,_=>False
 | .outgrown,_,_=>False
variable {F:Fence}{n:Nat}{P:Program}
abbrev ov(D:Nat)(W W':ag):Prop:=Fr (λb=>b=D\/b=D+1) W W'
theorem Au{g:Operand}{ps:Array Tmp}{assign body:Code}{Q:Exit->Act->ag->Prop}{a:Act}{w:ag}
 (hro:F.round=none) (h1:1<=n) {gf:Nat} {lb:Array aA} (hg:a.eval g=.func (.func gf) #[] lb) (hFg:F.fn gf) (eg:∀args w,(callFunc gf args).run P w=.ok (.enter gf args) w)
 {el:Nat->Array aA} {N:Nat} {fin:Bool} {keep:Nat->Prop} {w0:ag} (Vw:Rp F (n-1) P gf lb el N fin keep w0) (fR:cE keep w0 w) (R2:∀b,keep b->b<w.heap.size) (Jt:∀k,(el k).size=ps.size)
 (I:Nat->ag->Prop) (yS:Nat->Act->ag->Prop) (Ix:Code->ag->Prop)
 (hI:∀k A B,I k A->ov w.heap.size A B->I k B) (Bu:∀k a' A B,yS k a' A->ov w.heap.size A B->yS k a' B) (hIx:∀c A B,Ix c A->ov w.heap.size A B->Ix c B)
 (hN:fin=false->∀W,¬I N W) (h0:I 0 w)
 (qb:∀ (l k:Nat) (W:ag),k<N->I k W->w.heap.size+1<W.heap.size ->
  assign.wpIn (F.inRound l) (n-1-1) P (Exit.then (λa' W'=>cE (λb=>keep b\/b=w.heap.size\/b=w.heap.size+1) W W'/\yS k a' W') (λ_ _ _=>False)) { tmps:=(ps.zip (el k)).foldl (λt (p,v)=>t.setIfInBounds p v) a.tmps,defers:=[] } W)
 (BC:∀ (l k:Nat) (a':Act) (W:ag),k<N->yS k a' W->w.heap.size+1<W.heap.size->body.wpIn (F.inRound l) (n-1-1) P (sx keep w.heap.size (I (k+1)) Ix W) a' W)
 (jy:∀ (W:ag),fin=true->I N W->W.heap[w.heap.size]?=some (.deferred (some []))->Q .normal { a with defers:={ target:=.collected w.heap.size,args:=#[] } :: a.defers } W)
 (Cj:∀ (c:Code) (W:ag),Ix c W->W.heap[w.heap.size]?=some (.deferred (some []))->c.wpIn F n P Q { a with defers:={ target:=.collected w.heap.size,args:=#[] } :: a.defers } W) :
 (Code.rangeFunc g ps assign body).wpIn F n P Q a w:=by
 obtain⟨D,hD⟩:∃D,w.heap.size=D:=⟨_,rfl⟩;rw[hD] at hI Bu hIx qb BC jy Cj;refine wpIn_rangeFunc ?_;intro fn hfn;rw[hro];obtain⟨rec,l_⟩:∃rec:LoopState->Option Code->Loop,rec=λst pe=>{ state:=st,pending:=pe,fn,tmps:=a.tmps,params:=ps,assign,body,defers:=w.heap.size }:=⟨_,rfl⟩;obtain⟨W1,gO⟩:∃W1,(w.alloc (.deferred (some []))).alloc (.loop (rec .ready none))=W1:=⟨_,rfl⟩
 have hL1:W1.heap[D+1]?=some (.loop (rec .ready none)):=by
  rw[<-gO,<-hD];have:=World.alloc_heap_new (w.alloc (.deferred (some []))) (.loop (rec .ready none));rwa [World.size_alloc] at this
 have Bv:W1.heap[D]?=some (.deferred (some [])):=by
  rw[<-gO,<-hD];exact(Below.heap_alloc _ _ _ (by simp)).trans (World.alloc_heap_new w _)
 have dN:Calm w W1:=by rw[<-gO];exact((Fr.refl _ w).alloc _).alloc _
 have hI1:I 0 W1:=hI 0 _ _ h0 dN.any;have RO:cE keep w0 W1:=fR.trans ⟨dN.size,λb hb=>dN.block b (R2 b hb) id⟩
 refine⟨w.heap.size+1,[{ target:=.collected w.heap.size,args:=#[] }],W1,{ target:=.fn (.func gf) lb,args:=#[.func (.yield (w.heap.size+1)) #[] #[]] },W1,gf,
  #[.func (.yield (w.heap.size+1)) #[] #[]]++lb,W1,?_,?_,?_,?_,λ_=>h1,?_⟩
 ·rw[<-gO,l_];exact run_enterLoop_outer _ _ _ _ _
 ·simp only[resolve,hg];simp[go_sem]
 ·intro f' Zw;simp[Target.leads] at Zw;subst Zw;exact hFg
 ·simp[invoke,go_sem,eg]
 ·have put:∀ {W:ag} {r:Loop} (o:Obj),W.heap[D+1]?=some (.loop r)->ov D W (W.putObj (D+1) o):=λo _=>(Fr.refl _ _).putObj (.inl (.inr rfl)) o;rw[hD]
  refine(Vw (D+1)
   (λk W=>I k W/\W.heap[D+1]?=some (.loop (rec .ready none))/\W.heap[D]?=some (.deferred (some []))/\∀b,keep b->b<D)
   (λW=>∃c,Ix c W/\W.heap[D+1]?=some (.loop (rec .done (some c)))/\W.heap[D]?=some (.deferred (some [])))
   W1 RO (Nat.le_trans fR.1 dN.size) ?_ ?_ (λhf W h=>hN hf W h.1) ?_ ⟨hI1,hL1,Bv,λb hb=>hD ▸ R2 b hb⟩).mono ?_
  ·rintro k A B ⟨hi,hl,hk,hh⟩ hc;exact⟨hI k A B hi hc.any,(hc.block _ (Array.getElem?_eq_some_iff.1 hl).1 id).trans hl,(hc.block _ (Array.getElem?_eq_some_iff.1 hk).1 id).trans hk,hh⟩
  ·rintro A B ⟨c,hi,hl,hk⟩ hc;exact⟨c,hIx c A B hi hc.any,(hc.block _ (Array.getElem?_eq_some_iff.1 hl).1 id).trans hl,(hc.block _ (Array.getElem?_eq_some_iff.1 hk).1 id).trans hk⟩
  ·rintro k W ZH ⟨hi,hl,hk,hh⟩;have aM:D+1<W.heap.size:=(Array.getElem?_eq_some_iff.1 hl).1;have hy:=run_yield (P:=P) (args:=el k) hl (by rw[l_];exact Jt k);rw[l_] at hy;refine⟨fn,_,assign,body,hy,roundIn_of_wpIn hfn (wpIn_mono (qb (D+1) k W ZH hi aM) ?_)⟩;rintro e a1 Wa hp
   cases e with
   | normal=>
     obtain⟨K_,hia⟩:=hp;have HX:=(K_.2 (D+1) (.inr (.inr rfl))).trans hl;have UZ:=(K_.2 D (.inr (.inl rfl))).trans hk;have Le:D+1<Wa.heap.size:=Nat.lt_of_lt_of_le aM K_.1;refine⟨_,run_beginRound HX (by rw[l_]),?_⟩;have kT:(Wa.putObj (D+1) (.loop { rec .ready none with state:=.busy })).heap[D+1]?=some (.loop { rec .ready none with state:=.busy }):=World.putObj_heap_same Le;have gX:(Wa.putObj (D+1) (.loop { rec .ready none with state:=.busy })).heap[D]?=some (.deferred (some [])):=(World.putObj_heap_other (by omega)).trans UZ;have Ey:∀ (X:ag) (o:Obj),cE keep X (X.putObj (D+1) o):=λX o=>⟨by simp,λb hb=>World.putObj_heap_other (by have:=hh b hb;omega)⟩;refine wpIn_mono (BC (D+1) k a1 _ ZH (Bu k a1 _ _ hia (put _ HX)) (by simp;exact Le)) ?_
     have zm:∀ (jump:Option Code) (W3:ag),cE (λb=>b=D\/b=D+1) (Wa.putObj (D+1) (.loop { rec .ready none with state:=.busy })) W3 ->
      (Instr.endRound (D+1) jump).run P W3=.ok (.bool jump.isNone) (W3.putObj (D+1) (.loop (rec (if jump.isNone then .ready else .done) jump))) /\
      ov D W3 (W3.putObj (D+1) (.loop (rec (if jump.isNone then .ready else .done) jump))) /\
      (W3.putObj (D+1) (.loop (rec (if jump.isNone then .ready else .done) jump))).heap[D+1]?=some (.loop (rec (if jump.isNone then .ready else .done) jump)) /\
      (W3.putObj (D+1) (.loop (rec (if jump.isNone then .ready else .done) jump))).heap[D]?=some (.deferred (some [])):=λjump W3 mL=>by
      have q_:=(mL.2 (D+1) (.inr rfl)).trans kT;have ZJ:=(mL.2 D (.inl rfl)).trans gX;have:=run_endRound (P:=P) jump q_;have Z5:=put (.loop (rec (if jump.isNone then .ready else .done) jump)) q_;rw[l_] at this Z5 ⊢;exact⟨this,Z5,World.putObj_heap_same (Array.getElem?_eq_some_iff.1 q_).1,(World.putObj_heap_other (by omega)).trans ZJ⟩
     rintro e a3 W3 hp
     cases e with
     | normal=>
       obtain⟨mL,zz⟩:=hp;obtain⟨hr,q_,wm,Eu⟩:=zm none W3 (mL.mono (λb hb=>.inr hb));exact⟨_,_,hr,.inl ⟨rfl,⟨hI _ _ _ zz q_,wm,Eu,hh⟩,(K_.mono (λb hb=>.inl hb)).trans ((Ey _ _).trans ((mL.mono (λb hb=>.inl hb)).trans (Ey _ _)))⟩⟩
     | ret=>
       obtain⟨mL,zz⟩:=hp;obtain⟨hr,q_,wm,Eu⟩:=zm (some .ret) W3 mL;exact⟨_,_,hr,.inr ⟨rfl,.ret,hIx _ _ _ zz q_,wm,Eu⟩⟩
     | exit id=>
       obtain⟨mL,zz⟩:=hp;obtain⟨hr,q_,wm,Eu⟩:=zm (some (.exit id)) W3 mL;exact⟨_,_,hr,.inr ⟨rfl,.exit id,hIx _ _ _ zz q_,wm,Eu⟩⟩
     | goto t=>
       obtain⟨mL,zz⟩:=hp;obtain⟨hr,q_,wm,Eu⟩:=zm (some (.goto t)) W3 mL;exact⟨_,_,hr,.inr ⟨rfl,.goto t,hIx _ _ _ zz q_,wm,Eu⟩⟩
     | panic ch=>exact hp.elim
     | outgrown=>exact hp.elim
   | exit id=>exact hp.elim
   | goto t=>exact hp.elim
   | ret=>exact hp.elim
   | panic chain=>exact hp.elim
   | outgrown=>exact hp.elim
  ·rintro e W2 ⟨⟨v,rfl⟩,(⟨hi,hl,hk,_⟩|⟨c,hi,hl,hk⟩)⟩
   ·have bM:fin=true:=by
     cases hf:fin with
     | true=>rfl
     | false=>exact(hN hf _ hi).elim
    exact⟨none,_,by have:=run_endLoop (P:=P) hl (by rw[l_];simp);rw[l_] at this;exact this,jy _ bM (hI _ _ _ hi (put _ hl)) ((World.putObj_heap_other (by omega)).trans hk)⟩
   ·exact⟨some c,_,by have:=run_endLoop (P:=P) hl (by rw[l_];simp);rw[l_] at this;exact this,Cj c _ (hIx c _ _ hi (put _ hl)) ((World.putObj_heap_other (by omega)).trans hk)⟩
end
section
section
variable {P:Program}{ops:Array Oper}{md:Region.Mode}{C:ag->Prop}
def BK(P:Program)(md:Region.Mode)(ops:Array Oper)(C:ag->Prop)(n:Nat)(L:Array Bool->Act->Prop):Nat->Array Bool->Act->Prop
 | 0,done,a=>L done a
 | f+1,done,a=>Region.ready md ops done≠[]/\∀i∈Region.ready md ops done,i<n/\qOp P ops C i (BK P md ops C n L f (done.setIfInBounds i true)) a
theorem pQ{n g:Nat}{L:Array Bool->Act->Prop}{Q:Exit->Act->ag->Prop}(hL:∀done a w,C w->L done a->wpAny P md ops Q g done a w) :
 ∀ (f:Nat) (done:Array Bool) (a:Act) (w:ag),C w->BK P md ops C n L f done a->wpAny P md ops Q (f+g) done a w
 | 0,done,a,w,hw,h=>by rw[Nat.zero_add];exact hL _ _ _ hw h
 | f+1,done,a,w,hw,h=>by
   rw[show f+1+g=(f+g)+1 by omega];exact⟨λh0=>absurd h0 h.1,λi hi=>wpOp_of_qOp hw (λa' w' hw' h'=>pQ hL f _ a' w' hw' h') (h.2 i hi).2⟩
theorem BL{n i:Nat}{oi:Oper}{v:aA}{L:Array Bool->Act->Prop}(hi:ops[i]?=some oi)(f_:∀ (j:Nat) (o:Oper) cs b,ops[j]?=some o->o.op≠.select cs b)
 (hs:Region.sinkB md ops n=true) (hc:Region.chainB md ops n=true) (hn:n<ops.size) (gi:i<n) (jy:∀done a,L done a->∀j∈Region.ready md ops done,n<=j) :
 ∀ (f:Nat) (done:Array Bool) (a:Act),HeadInv md ops n done ->
   (∀j oj,ops[j]?=some oj->j≠i->done.getD j true=false->(∀e∈oj.after,Region.binds md e=true->e.on≠i)->oi.apart ops oj=true) ->
   i∈Region.ready md ops done->YieldsIn P ops C oi v a ->
   BK P md ops C n L f (done.setIfInBounds i true) (a.put oi.dst v)->BK P md ops C n L (f+1) done a:=by
 intro f
 induction f with
 | zero=>
   intro done a inv _ hr hy H;have oH:=(mem_ready.1 hr).1;refine⟨λh=>(by rw[h] at hr;cases hr),λj hj=>?_⟩
   have qh:j<n:=by
    rcases Nat.lt_or_ge j n with h|h
    ·exact h
    ·exact absurd hj (tail_waits hs hc hn inv _ i rfl gi oH j h)
   refine⟨qh,?_⟩
   by_cases rT:j=i
   ·subst rT;exact hy.qOp hi H
   ·have:=jy _ _ H j (ready_mono hj rT);omega
 | succ f ih=>
   intro done a inv rS hr hy H;have oH:=(mem_ready.1 hr).1;refine⟨λh=>(by rw[h] at hr;cases hr),λj hj=>?_⟩
   have qh:j<n:=by
    rcases Nat.lt_or_ge j n with h|h
    ·exact h
    ·exact absurd hj (tail_waits hs hc hn inv _ i rfl gi oH j h)
   refine⟨qh,?_⟩
   by_cases rT:j=i
   ·subst rT;exact hy.qOp hi H
   ·have h1:=(H.2 j (ready_mono hj rT)).2;obtain⟨BU,oj,H_,Ee⟩:=mem_ready.1 hj
    have Lg:∀e∈oj.after,Region.binds md e=true->e.on≠i:=λe he hb heq=>by
     have h1:=Ee e he hb;rw[heq,getD_both oH] at h1;cases h1
    have h2:=qOp_put H_ (rS j oj H_ rT BU Lg) (λcs b=>f_ i oi cs b hi) (λcs b=>f_ j oj cs b H_) hy h1
    have uG:∀k ok,ops[k]?=some ok->k≠i->(done.setIfInBounds j true).getD k true=false ->
     (∀e∈ok.after,Region.binds md e=true->e.on≠i)->oi.apart ops ok=true:=λk ok hk ZI oH rm=>by
     refine rS k ok hk ZI ?_ rm
     by_cases RY:j=k
     ·subst RY;exact BU
     ·rw[getD_set_ne true RY] at oH;exact oH
    refine qOp_mono (λa' h3=>ih (done.setIfInBounds j true) a' (inv.set hj qh) uG (ready_mono hr (Ne.symm rT)) h3.1 ?_) h2;rw[Array.setIfInBounds_comm _ _ rT];exact h3.2
theorem xW{n g:Nat}{Lq:Act->Prop}(f_:Region.noSelect ops=true)(hs:Region.sinkB md ops n=true)(hc:Region.chainB md ops n=true)(hn:n<ops.size) :
 ∀ (l:List Oper) (k:Nat) (done:Array Bool) (a:Act),(∀j,j<l.length->l[j]?=ops[k+j]?)->k+l.length=n->HeadInv md ops n done ->
 Region.lexHead md ops g l.length k done=true->wpQuiet P ops C Lq l a ->
 BK P md ops C n (λxN a'=>Region.seqB md ops g n xN=true/\Lq a') l.length done a
 | [],k,done,a,_,hk,_,hB,h=>by
   have:k=n:=by simpa using hk
   subst this;exact⟨by simpa[Region.lexHead] using hB,h⟩
 | o::l,k,done,a,hl,hk,inv,hB,h=>by
   have h0:ops[k]?=some o:=by simpa using(hl 0 (by simp)).symm
   simp only[List.length_cons,Region.lexHead,Bool.and_eq_true] at hB;obtain⟨⟨hr,hf⟩,D8⟩:=hB;have hkn:k<n:=by simp only[List.length_cons] at hk;omega
   have AE:k∈Region.ready md ops done:=by simpa using hr
   have cM:qOp P ops C k (wpQuiet P ops C Lq l) a:=by unfold qOp;simp only[h0];exact h
   obtain⟨v,hy,hK⟩:=yieldsIn_of_qOp h0 cM
   exact BL h0 (Region.noSelect_spec f_) hs hc hn hkn (λxN a' hL=>seqB_ready hL.1) l.length done a inv (Region.free_spec h0 hf) AE hy
    (xW f_ hs hc hn l (k+1) _ _ (λj hj=>by have:=hl (j+1) (by simp;omega);simpa[Nat.add_assoc,Nat.add_comm 1 j] using this) (by simp only[List.length_cons] at hk;omega) (inv.set AE hkn) D8 hK)
end
theorem sZ{P:Program}{Q:Exit->Act->ag->Prop}{a:Act}{w:ag}{l:List Oper}(n:Nat)(hB:Region.lexTailB .any l.toArray n=true)
 (h:wpQuiet P l.toArray (λw'=>∃x:a_ w,w'=x.w) (λa'=>∀w',(∃x:a_ w,w'=x.w)->wpList P l.toArray Q (l.drop n) a' w') (l.take n) a) :
 wpAny P .any l.toArray Q l.toArray.size (Array.replicate l.toArray.size false) a { w with drawn:=w.drawn+1 }:=by
 simp only[Region.lexTailB,Bool.and_eq_true,decide_eq_true_eq] at hB;obtain⟨⟨⟨⟨f_,hn⟩,hs⟩,hc⟩,U6⟩:=hB;have sP:n<l.length:=by simpa using hn
 have yd:(l.take n).length=n:=by simp;omega
 have BJ:(l.drop n).length=l.toArray.size-n:=by simp
 have uR:HeadInv .any l.toArray n (Array.replicate l.toArray.size false):=
  ⟨by simp,λj oj _ hl=>(by rw[getD_replicate_false] at hl;cases hl),λt _ ht=>getD_in (by simpa using ht) (getD_replicate_false _ _)⟩
 have H:=xW (md:=.any) (g:=l.toArray.size-n) f_ hs hc hn (l.take n) 0 _ a (λj hj=>by
  have BT:j<n:=by rw[yd] at hj;exact hj
  simp[BT]) (by simpa using yd) uR (by rw[yd];exact U6) h
 have:=pQ (Q:=Q) (g:=l.toArray.size-n) (λdone a' w' hw' hL=>by
  have:=wpAny_of_seq (Q':=Q) (l.drop n) n done a' w' (λj=>by simp) (by rw[BJ];exact hL.1) (hL.2 w' hw')
  rwa [BJ] at this) (l.take n).length _ a { w with drawn:=w.drawn+1 } ⟨⟨w.drew,(Fr.refl _ w).drew⟩,rfl⟩ H
 rw[yd] at this;simpa[Nat.add_sub_cancel' (Nat.le_of_lt sP)] using this
theorem bB{P:Program}{id:Nat}{Q:Exit->Act->ag->Prop}{a:Act}{w:ag}{l:List Oper}(n:Nat)(hm:P.follows .mixedOrders=true)(hB:Region.lexTailB .any l.toArray n=true)
 (h:wpQuiet P l.toArray (λw'=>∃x:a_ w,w'=x.w) (λa'=>∀w',(∃x:a_ w,w'=x.w)->wpList P l.toArray Q (l.drop n) a' w') (l.take n) a):(Code.region id l.toArray true).wp P Q a w:=
 wp_region_any hm (sZ n hB h)
end
section
section
variable {P:Program}{ops:Array Oper}{md:Region.Mode}{Q:Exit->Act->ag->Prop}{r n:Nat}
theorem zW{o:Oper}{a:Act}{w:ag}{K:Act->ag->Prop}(hnd:∀c,o.op≠.defer c)(h:o.wp P a w K Q):o.wpIn (Fence.wide.inRound r) n P a w K Q:=by
 unfold Oper.wpIn;refine⟨λ_ _=>trivial,?_⟩;show Oper.uponIn _ _ _ _ _ _ _ ((o.semAt (some r) a.eval).run P w);rw[Oper.semAt_some r _ _ hnd];unfold Oper.wp at h;generalize (execOp a.eval o).run P w=x at *
 cases x with
 | ok x w'=>
   cases x <;> simp only[Oper.upon,Oper.uponIn] at h ⊢
   all_goals first
    | exact h
    | exact⟨λh=>Bool.noConfusion h,callsIn_wide.2 h⟩
    | exact⟨λh=>Bool.noConfusion h,λc cs _=>let ⟨v,w',r,s⟩:=h c cs;⟨v,w',r,stepsIn_wide.2 s⟩⟩
 | halt x w'=>cases x <;> exact h
def zS(ops:Array Oper):Bool:=ops.all λo=>match o.op with | .defer _=>false|_=>true
theorem ER{i:Nat}{o:Oper}(h:zS ops=true)(hi:ops[i]?=some o):∀c,o.op≠.defer c:=by
 intro c hc;have hm:=Array.mem_of_getElem? hi;have:=(Array.all_eq_true_iff_forall_mem.1 h) o hm;rw[hc] at this;exact Bool.noConfusion this
theorem nC(hnd:zS ops=true)(hQ:¬LetsOut Q):∀ (fuel:Nat) (listed:Array Bool) (a:Act) (w:ag),wpAny P md ops Q fuel listed a w->wpAnyIn (Fence.wide.inRound r) n P md ops Q fuel listed a w
 | 0,_,_,_,h=>h
 | fuel+1,listed,a,w,h=>⟨h.1,λi hi=>by
  have h2:=wpOp_mono (λa' w' h'=>nC hnd hQ fuel _ a' w' h') (h.2 i hi);unfold wpOp at h2;unfold wpOpIn
  cases ho:ops[i]? with
  | none=>simpa[ho] using h2
  | some o=>
    simp only[ho] at h2 ⊢
    by_cases hw:Region.wanted o (yielded ops a.tmps)=true
    ·simp only[hw,if_true] at h2 ⊢;rcases h2 with h2|⟨_,h2⟩
     ·exact zW (ER hnd ho) h2
     ·exact(hQ h2).elim
    ·simp only[hw,if_false,Bool.false_eq_true] at h2 ⊢
     exact⟨λ_ _=>trivial,h2⟩⟩
end
theorem Row.at{w:ag}{v:aA}{xs:List aA}(h:Row w v xs):∃a cap,v=.slice a xs.length cap/\∀i (hi:i<xs.length),∃b off,a=some ⟨b,off,none⟩/\w.cell? ⟨b,off+i,none⟩=some xs[i]:=by
 obtain⟨a,cap,hv,h⟩:=h;refine⟨a,cap,hv,λi hi=>?_⟩;rcases h with h|⟨b,off,ha,hc⟩
 ·subst h;simp at hi
 ·exact⟨b,off,ha,hc i hi⟩
def Gj(v:aA)(k:Nat):Prop:=∃off n cap,v=.slice (some ⟨k,off,none⟩) n cap
end
section
section
variable {P:Program}{ops:Array Oper}{Q:Exit->Act->ag->Prop}{md:Region.Mode}{S:ag->Prop}
def fu(P:Program)(md:Region.Mode)(ops:Array Oper)(Q:Exit->Act->ag->Prop)(S:ag->Prop)(n:Nat)(L:Array Bool->Act->ag->Prop):Nat->Array Bool->Act->ag->Prop
 | 0,done,a,w=>L done a w
 | f+1,done,a,w=>Region.ready md ops done≠[]/\∀i∈Region.ready md ops done,i<n/\wpOp P ops Q i (λa' w'=>S w'/\fu P md ops Q S n L f (done.setIfInBounds i true) a' w') a w
theorem dY{n g:Nat}{L:Array Bool->Act->ag->Prop}(hL:∀done a w,L done a w->wpAny P md ops Q g done a w) :
 ∀ (f:Nat) (done:Array Bool) (a:Act) (w:ag),fu P md ops Q S n L f done a w->wpAny P md ops Q (f+g) done a w
 | 0,done,a,w,h=>by rw[Nat.zero_add];exact hL _ _ _ h
 | f+1,done,a,w,h=>by
   rw[show f+1+g=(f+g)+1 by omega];exact⟨λh0=>absurd h0 h.1,λi hi=>wpOp_mono (λa' w' h'=>dY hL f _ a' w' h'.2) (h.2 i hi).2⟩
theorem Em{n i:Nat}{oi:Oper}{v:aA}{L:Array Bool->Act->ag->Prop}(hi:ops[i]?=some oi)(f_:∀ (j:Nat) (o:Oper) cs b,ops[j]?=some o->o.op≠.select cs b)
 (hs:Region.sinkB md ops n=true) (hc:Region.chainB md ops n=true) (hn:n<ops.size) (gi:i<n) (hQ:∀c a w,Q (.panic c) (a.put oi.dst v) w->Q (.panic c) a w)
 (jy:∀done a w,L done a w->∀j∈Region.ready md ops done,n<=j) :
 ∀ (f:Nat) (done:Array Bool) (a:Act) (w:ag),HeadInv md ops n done ->
   (∀j oj,ops[j]?=some oj->j≠i->done.getD j true=false->(∀e∈oj.after,Region.binds md e=true->e.on≠i)->oi.apart ops oj=true) ->
   i∈Region.ready md ops done->YieldsIf P ops S oi v a->S w ->
   fu P md ops Q S n L f (done.setIfInBounds i true) (a.put oi.dst v) w->fu P md ops Q S n L (f+1) done a w:=by
 intro f
 induction f with
 | zero=>
   intro done a w inv _ hr hy hS H;have oH:=(mem_ready.1 hr).1;refine⟨λh=>(by rw[h] at hr;cases hr),λj hj=>?_⟩
   have qh:j<n:=by
    rcases Nat.lt_or_ge j n with h|h
    ·exact h
    ·exact absurd hj (tail_waits hs hc hn inv _ i rfl gi oH j h)
   refine⟨qh,?_⟩
   by_cases rT:j=i
   ·subst rT;exact hy.wpOp hi hS ⟨hS,H⟩
   ·have:=jy _ _ _ H j (ready_mono hj rT);omega
 | succ f ih=>
   intro done a w inv rS hr hy hS H;have oH:=(mem_ready.1 hr).1;refine⟨λh=>(by rw[h] at hr;cases hr),λj hj=>?_⟩
   have qh:j<n:=by
    rcases Nat.lt_or_ge j n with h|h
    ·exact h
    ·exact absurd hj (tail_waits hs hc hn inv _ i rfl gi oH j h)
   refine⟨qh,?_⟩
   by_cases rT:j=i
   ·subst rT;exact hy.wpOp hi hS ⟨hS,H⟩
   ·have h1:=(H.2 j (ready_mono hj rT)).2;obtain⟨BU,oj,H_,Ee⟩:=mem_ready.1 hj
    have Lg:∀e∈oj.after,Region.binds md e=true->e.on≠i:=λe he hb heq=>by
     have h1:=Ee e he hb;rw[heq,getD_both oH] at h1;cases h1
    have h2:=wpOp_putIf H_ (rS j oj H_ rT BU Lg) (λcs b=>f_ i oi cs b hi) (λcs b=>f_ j oj cs b H_) hQ hy h1
    have uG:∀k ok,ops[k]?=some ok->k≠i->(done.setIfInBounds j true).getD k true=false ->
     (∀e∈ok.after,Region.binds md e=true->e.on≠i)->oi.apart ops ok=true:=λk ok hk ZI oH rm=>by
     refine rS k ok hk ZI ?_ rm
     by_cases RY:j=k
     ·subst RY;exact BU
     ·rw[getD_set_ne true RY] at oH;exact oH
    refine wpOp_mono (λa' w' h3=>⟨h3.2.1,ih (done.setIfInBounds j true) a' w' (inv.set hj qh) uG (ready_mono hr (Ne.symm rT)) h3.1 h3.2.1 ?_⟩) h2;rw[Array.setIfInBounds_comm _ _ rT];exact h3.2.2
def bV(P:Program)(ops:Array Oper)(Q:Exit->Act->ag->Prop)(S:ag->Prop):Nat->List Oper->Act->ag->Prop
 | 0,l,a,w=>wpList P ops Q l a w
 | _+1,[],_,_=>False
 | c+1,o::l,a,w=>if Region.wanted o (yielded ops a.tmps) then o.wp P a w (λa' w'=>S w'/\bV P ops Q S c l a' w') Q\/(o.asks P a w/\LetsOut Q) else S w/\bV P ops Q S c l (a.put o.dst undef) w
theorem aQ{c:Nat}{o:Oper}{l:List Oper}{a:Act}{w:ag}(hw:Region.wanted o (yielded ops a.tmps)=true)(h:o.wp P a w (λa' w'=>S w'/\bV P ops Q S c l a' w') Q):bV P ops Q S (c+1) (o::l) a w:=by
 rw[bV,if_pos hw];exact .inl h
def bG(P:Program)(ops:Array Oper)(Q:Exit->Act->ag->Prop)(S:ag->Prop)(c:Nat):Nat->List Oper->Act->ag->Prop
 | 0,l,a,w=>bV P ops Q S c l a w
 | _+1,[],_,_=>False
 | m+1,o::l,a,w=>∃v,YieldsIf P ops S o v a/\(∀c a w,Q (.panic c) (a.put o.dst v) w->Q (.panic c) a w)/\bG P ops Q S c m l (a.put o.dst v) w
theorem ae{c m:Nat}{o:Oper}{l:List Oper}{a:Act}{w:ag}(v:aA)(hw:Region.wanted o (yielded ops a.tmps)=true)(hy:∀w,S w->(execOp a.eval o).run P w=.ok (.value v) w)(hQ:∀c a w,Q (.panic c) (a.put o.dst v) w->Q (.panic c) a w)
 (h:bG P ops Q S c m l (a.put o.dst v) w):bG P ops Q S c (m+1) (o::l) a w:=⟨v,.inl ⟨hw,hy⟩,hQ,h⟩
def Gb(md:Region.Mode)(ops:Array Oper)(m n:Nat):Bool:=
 Region.noSelect ops && decide (m<=n) && decide (n<ops.size) && Region.sinkB md ops n && Region.chainB md ops n && Region.lexHead md ops (ops.size-m) m 0 (Array.replicate ops.size false)
def BM(P:Program)(md:Region.Mode)(ops:Array Oper)(Q:Exit->Act->ag->Prop)(l:List Oper)(n:Nat)(done:Array Bool)(a:Act)(w:ag):Prop:=
 Region.seqB md ops (ops.size-n) n done=true/\wpList P ops Q (l.drop n) a w
theorem BO{l:List Oper}(hl:l.toArray=ops){n:Nat}(hn:n<ops.size):∀ (c k:Nat) (done:Array Bool) (a:Act) (w:ag),k+c=n->Region.seqB md ops (ops.size-k) k done=true ->
 bV P ops Q S c (l.drop k) a w->fu P md ops Q S n (BM P md ops Q l n) c done a w
 | 0,k,done,a,w,hk,hB,h=>by
   obtain rfl:k=n:=by omega
   exact⟨hB,h⟩
 | c+1,k,done,a,w,hk,hB,h=>by
   have ki:k<l.length:=by rw[<-hl] at hn;simp at hn;omega
   have h0:ops[k]?=some l[k]:=by rw[<-hl];simp[ki]
   rw[List.drop_eq_getElem_cons ki] at h;simp only[bV] at h;rw[show ops.size-k=(ops.size-(k+1))+1 by omega] at hB;simp only[Region.seqB,Bool.and_eq_true,decide_eq_true_eq] at hB;refine⟨λh1=>(by rw[hB.1] at h1;cases h1),λi hi=>?_⟩;rw[hB.1] at hi;have RX:i=k:=by simpa using hi
   subst RX;refine⟨by omega,?_⟩;have ih:=λa' w'=>BO hl hn c (i+1) (done.setIfInBounds i true) a' w' (by omega) hB.2;unfold wpOp;simp only[h0];split
   ·rename_i hw;simp only[hw,if_true] at h;exact h.imp (Oper.wp_mono λa' w' h'=>⟨h'.1,ih a' w' h'.2⟩) id
   ·rename_i hw;simp only[hw,if_false,Bool.false_eq_true] at h;exact⟨h.1,ih _ _ h.2⟩
theorem BN{l:List Oper}(hl:l.toArray=ops){n:Nat}(f_:Region.noSelect ops=true)(hs:Region.sinkB md ops n=true)(hc:Region.chainB md ops n=true)(hn:n<ops.size) :
 ∀ (m k:Nat) (done:Array Bool) (a:Act) (w:ag),k+m<=n->HeadInv md ops n done->Region.lexHead md ops (ops.size-(k+m)) m k done=true->S w ->
 bG P ops Q S (n-(k+m)) m (l.drop k) a w->fu P md ops Q S n (BM P md ops Q l n) (n-k) done a w
 | 0,k,done,a,w,hk,_,hB,_,h=>BO hl hn (n-k) k done a w (by omega) (by simpa[Region.lexHead] using hB) (by simpa[bG] using h)
 | m+1,k,done,a,w,hk,inv,hB,hS,h=>by
   have ki:k<l.length:=by rw[<-hl] at hn;simp at hn;omega
   have h0:ops[k]?=some l[k]:=by rw[<-hl];simp[ki]
   rw[List.drop_eq_getElem_cons ki] at h;simp only[bG] at h;obtain⟨v,hy,hQ,h⟩:=h;simp only[Region.lexHead,Bool.and_eq_true] at hB;obtain⟨⟨hr,hf⟩,D8⟩:=hB;have AE:k∈Region.ready md ops done:=by simpa using hr
   rw[show n-k=(n-(k+1))+1 by omega];refine Em h0 (Region.noSelect_spec f_) hs hc hn (by omega) hQ (λxN a' w' hL=>seqB_ready hL.1) _ done a w inv (Region.free_spec h0 hf) AE hy hS ?_;exact BN hl f_ hs hc hn m (k+1) _ _ w (by omega) (inv.set AE (by omega)) (by rw[show k+1+m=k+(m+1) by omega];exact D8) hS (by rw[show k+1+m=k+(m+1) by omega];exact h)
theorem vV{a:Act}{w:ag}{l:List Oper}(m n:Nat)(S:ag->Prop)(hB:Gb .any l.toArray m n=true)(hS:S { w with drawn:=w.drawn+1 })
 (h:bG P l.toArray Q S (n-m) m l a { w with drawn:=w.drawn+1 }) :
 wpAny P .any l.toArray Q l.toArray.size (Array.replicate l.toArray.size false) a { w with drawn:=w.drawn+1 }:=by
 simp only[Gb,Bool.and_eq_true,decide_eq_true_eq] at hB;obtain⟨⟨⟨⟨⟨f_,hmn⟩,hn⟩,hs⟩,hc⟩,U6⟩:=hB
 have uR:HeadInv .any l.toArray n (Array.replicate l.toArray.size false):=
  ⟨by simp,λj oj _ hl=>(by rw[getD_replicate_false] at hl;cases hl),λt _ ht=>getD_in (by simpa using ht) (getD_replicate_false _ _)⟩
 have H:=BN (P:=P) (Q:=Q) (S:=S) (l:=l) rfl f_ hs hc hn m 0 _ a { w with drawn:=w.drawn+1 } (by omega) uR (by simpa using U6) hS (by simpa using h);have BJ:(l.drop n).length=l.toArray.size-n:=by simp
 have:=dY (Q:=Q) (g:=l.toArray.size-n) (λdone a' w' hL=>by
  have:=wpAny_of_seq (Q':=Q) (l.drop n) n done a' w' (λj=>by simp) (by rw[BJ];exact hL.1) hL.2
  rwa [BJ] at this) _ _ _ _ H
 rw[Nat.sub_zero,Nat.add_sub_cancel' (Nat.le_of_lt hn)] at this;exact this
end
theorem gx{P:Program}{r f id:Nat}{Q:Exit->Act->ag->Prop}{a:Act}{w:ag}{l:List Oper}(m n:Nat)(S:ag->Prop)(hnd:zS l.toArray=true)(hQ:¬LetsOut Q)(hm:P.follows .mixedOrders=true)(hB:Gb .any l.toArray m n=true)(hS:S w.drew)
 (h:bG P l.toArray Q S (n-m) m l a w.drew):(Code.region id l.toArray true).wpIn (Fence.wide.inRound r) f P Q a w:=
 wpIn_region_any hm (nC hnd hQ _ _ _ _ (vV m n S hB hS h))
theorem aO{P:Program}{id:Nat}{Q:Exit->Act->ag->Prop}{a:Act}{w:ag}{l:List Oper}(m n:Nat)(S:ag->Prop)(hm:P.follows .mixedOrders=true)(hB:Gb .any l.toArray m n=true)(hS:S w.drew)
 (h:bG P l.toArray Q S (n-m) m l a w.drew):(Code.region id l.toArray true).wp P Q a w:=
 wp_region_any hm (vV m n S hB hS h)
end
@[reducible] def vI(n:Int):aA:=.int .i64 n
theorem af.N1{w:ag}{B:Nat}{a0 a1:aA}{r:List aA}(h:af w B (a0::a1::r)):w.cell? ⟨B,0,none⟩=some a0/\w.cell? ⟨B,1,none⟩=some a1:=⟨(h 0 _ rfl).1,(h 1 _ rfl).1⟩
theorem af.mI{w:ag}{B:Nat}{a0 a1 a2:aA}{r:List aA}(h:af w B (a0::a1::a2::r)):w.cell? ⟨B,0,none⟩=some a0/\w.cell? ⟨B,1,none⟩=some a1/\w.cell? ⟨B,2,none⟩=some a2:=⟨(h 0 _ rfl).1,(h 1 _ rfl).1,(h 2 _ rfl).1⟩
theorem af.Bh{w:ag}{B:Nat}{a0 a1 a2 a3:aA}{r:List aA}(h:af w B (a0::a1::a2::a3::r)):w.cell? ⟨B,0,none⟩=some a0/\w.cell? ⟨B,1,none⟩=some a1/\w.cell? ⟨B,2,none⟩=some a2/\w.cell? ⟨B,3,none⟩=some a3:=⟨(h 0 _ rfl).1,(h 1 _ rfl).1,(h 2 _ rfl).1,(h 3 _ rfl).1⟩
theorem af.Yr{w:ag}{B:Nat}{a0 a1 a2 a3 a4:aA}{r:List aA}(h:af w B (a0::a1::a2::a3::a4::r)):w.cell? ⟨B,0,none⟩=some a0/\w.cell? ⟨B,1,none⟩=some a1/\w.cell? ⟨B,2,none⟩=some a2/\w.cell? ⟨B,3,none⟩=some a3/\w.cell? ⟨B,4,none⟩=some a4:=⟨(h 0 _ rfl).1,(h 1 _ rfl).1,(h 2 _ rfl).1,(h 3 _ rfl).1,(h 4 _ rfl).1⟩
theorem af.Ry{w:ag}{B:Nat}{a0 a1 a2 a3 a4 a5:aA}{r:List aA}(h:af w B (a0::a1::a2::a3::a4::a5::r)):w.cell? ⟨B,0,none⟩=some a0/\w.cell? ⟨B,1,none⟩=some a1/\w.cell? ⟨B,2,none⟩=some a2/\w.cell? ⟨B,3,none⟩=some a3/\w.cell? ⟨B,4,none⟩=some a4/\w.cell? ⟨B,5,none⟩=some a5:=⟨(h 0 _ rfl).1,(h 1 _ rfl).1,(h 2 _ rfl).1,(h 3 _ rfl).1,(h 4 _ rfl).1,(h 5 _ rfl).1⟩
theorem af.Yq{w:ag}{B:Nat}{a0 a1 a2 a3 a4 a5 a6 a7 a8 a9 Rv Rw a12 Rx:aA}{r:List aA}(h:af w B (a0::a1::a2::a3::a4::a5::a6::a7::a8::a9::Rv::Rw::a12::Rx::r)):w.cell? ⟨B,0,none⟩=some a0/\w.cell? ⟨B,1,none⟩=some a1/\w.cell? ⟨B,2,none⟩=some a2/\w.cell? ⟨B,3,none⟩=some a3/\w.cell? ⟨B,4,none⟩=some a4/\w.cell? ⟨B,5,none⟩=some a5/\w.cell? ⟨B,6,none⟩=some a6/\w.cell? ⟨B,7,none⟩=some a7/\w.cell? ⟨B,8,none⟩=some a8/\w.cell? ⟨B,9,none⟩=some a9/\w.cell? ⟨B,10,none⟩=some Rv/\w.cell? ⟨B,11,none⟩=some Rw/\w.cell? ⟨B,12,none⟩=some a12/\w.cell? ⟨B,13,none⟩=some Rx:=⟨(h 0 _ rfl).1,(h 1 _ rfl).1,(h 2 _ rfl).1,(h 3 _ rfl).1,(h 4 _ rfl).1,(h 5 _ rfl).1,(h 6 _ rfl).1,(h 7 _ rfl).1,(h 8 _ rfl).1,(h 9 _ rfl).1,(h 10 _ rfl).1,(h 11 _ rfl).1,(h 12 _ rfl).1,(h 13 _ rfl).1⟩
theorem af.lB{w:ag}{B:Nat}{a0 a1 a2 a3 a4 a5 a6 a7 a8 a9 Rv Rw a12 Rx Yh:aA}{r:List aA}(h:af w B (a0::a1::a2::a3::a4::a5::a6::a7::a8::a9::Rv::Rw::a12::Rx::Yh::r)):w.cell? ⟨B,0,none⟩=some a0/\w.cell? ⟨B,1,none⟩=some a1/\w.cell? ⟨B,2,none⟩=some a2/\w.cell? ⟨B,3,none⟩=some a3/\w.cell? ⟨B,4,none⟩=some a4/\w.cell? ⟨B,5,none⟩=some a5/\w.cell? ⟨B,6,none⟩=some a6/\w.cell? ⟨B,7,none⟩=some a7/\w.cell? ⟨B,8,none⟩=some a8/\w.cell? ⟨B,9,none⟩=some a9/\w.cell? ⟨B,10,none⟩=some Rv/\w.cell? ⟨B,11,none⟩=some Rw/\w.cell? ⟨B,12,none⟩=some a12/\w.cell? ⟨B,13,none⟩=some Rx/\w.cell? ⟨B,14,none⟩=some Yh:=⟨(h 0 _ rfl).1,(h 1 _ rfl).1,(h 2 _ rfl).1,(h 3 _ rfl).1,(h 4 _ rfl).1,(h 5 _ rfl).1,(h 6 _ rfl).1,(h 7 _ rfl).1,(h 8 _ rfl).1,(h 9 _ rfl).1,(h 10 _ rfl).1,(h 11 _ rfl).1,(h 12 _ rfl).1,(h 13 _ rfl).1,(h 14 _ rfl).1⟩
theorem af.pG{w:ag}{B:Nat}{a0 a1 a2:aA}{r:List aA}(h:af w B (a0::a1::a2::r)):w.cell? ⟨B,0,none⟩=some a0/\w.frozen? ⟨B,0,none⟩=false/\w.cell? ⟨B,1,none⟩=some a1/\w.frozen? ⟨B,1,none⟩=false/\w.cell? ⟨B,2,none⟩=some a2/\w.frozen? ⟨B,2,none⟩=false:=⟨(h 0 _ rfl).1,(h 0 _ rfl).2,(h 1 _ rfl).1,(h 1 _ rfl).2,(h 2 _ rfl).1,(h 2 _ rfl).2⟩
theorem af.WJ{w:ag}{B:Nat}{a0 a1 a2 a3:aA}{r:List aA}(h:af w B (a0::a1::a2::a3::r)):w.cell? ⟨B,0,none⟩=some a0/\w.frozen? ⟨B,0,none⟩=false/\w.cell? ⟨B,1,none⟩=some a1/\w.frozen? ⟨B,1,none⟩=false/\w.cell? ⟨B,2,none⟩=some a2/\w.frozen? ⟨B,2,none⟩=false/\w.cell? ⟨B,3,none⟩=some a3/\w.frozen? ⟨B,3,none⟩=false:=⟨(h 0 _ rfl).1,(h 0 _ rfl).2,(h 1 _ rfl).1,(h 1 _ rfl).2,(h 2 _ rfl).1,(h 2 _ rfl).2,(h 3 _ rfl).1,(h 3 _ rfl).2⟩
theorem af.kt{w:ag}{B:Nat}{a0 a1 a2 a3 a4 a5 a6 a7 a8 a9 Rv Rw a12 Rx Yh:aA}{r:List aA}(h:af w B (a0::a1::a2::a3::a4::a5::a6::a7::a8::a9::Rv::Rw::a12::Rx::Yh::r)):w.cell? ⟨B,0,none⟩=some a0/\w.frozen? ⟨B,0,none⟩=false/\w.cell? ⟨B,1,none⟩=some a1/\w.frozen? ⟨B,1,none⟩=false/\w.cell? ⟨B,2,none⟩=some a2/\w.frozen? ⟨B,2,none⟩=false/\w.cell? ⟨B,3,none⟩=some a3/\w.frozen? ⟨B,3,none⟩=false/\w.cell? ⟨B,4,none⟩=some a4/\w.frozen? ⟨B,4,none⟩=false/\w.cell? ⟨B,5,none⟩=some a5/\w.frozen? ⟨B,5,none⟩=false/\w.cell? ⟨B,6,none⟩=some a6/\w.frozen? ⟨B,6,none⟩=false/\w.cell? ⟨B,7,none⟩=some a7/\w.frozen? ⟨B,7,none⟩=false/\w.cell? ⟨B,8,none⟩=some a8/\w.frozen? ⟨B,8,none⟩=false/\w.cell? ⟨B,9,none⟩=some a9/\w.frozen? ⟨B,9,none⟩=false/\w.cell? ⟨B,10,none⟩=some Rv/\w.frozen? ⟨B,10,none⟩=false/\w.cell? ⟨B,11,none⟩=some Rw/\w.frozen? ⟨B,11,none⟩=false/\w.cell? ⟨B,12,none⟩=some a12/\w.frozen? ⟨B,12,none⟩=false/\w.cell? ⟨B,13,none⟩=some Rx/\w.frozen? ⟨B,13,none⟩=false/\w.cell? ⟨B,14,none⟩=some Yh/\w.frozen? ⟨B,14,none⟩=false:=⟨(h 0 _ rfl).1,(h 0 _ rfl).2,(h 1 _ rfl).1,(h 1 _ rfl).2,(h 2 _ rfl).1,(h 2 _ rfl).2,(h 3 _ rfl).1,(h 3 _ rfl).2,(h 4 _ rfl).1,(h 4 _ rfl).2,(h 5 _ rfl).1,(h 5 _ rfl).2,(h 6 _ rfl).1,(h 6 _ rfl).2,(h 7 _ rfl).1,(h 7 _ rfl).2,(h 8 _ rfl).1,(h 8 _ rfl).2,(h 9 _ rfl).1,(h 9 _ rfl).2,(h 10 _ rfl).1,(h 10 _ rfl).2,(h 11 _ rfl).1,(h 11 _ rfl).2,(h 12 _ rfl).1,(h 12 _ rfl).2,(h 13 _ rfl).1,(h 13 _ rfl).2,(h 14 _ rfl).1,(h 14 _ rfl).2⟩
theorem qk{w:ag}{B:Nat}{vs:List aA}(o:af w B vs)(i:Nat){v:aA}(h:vs[i]?=some v):∀x:a_ w,x.w.cell? ⟨B,i,none⟩=some v:=λx=>x.cell (o i v h).1
theorem jR(w:ag)(B k:Nat)(v:aA):Fr (λj=>j=B) w (w.setCell ⟨B,k,none⟩ v):=(Fr.refl (λj=>j=B) w).setCell (p:=⟨B,k,none⟩) (.inl rfl) v
theorem Fr.SX{S:Nat->Prop}{b:Nat}(hb:S b):∀ (vs:List aA) (o:Nat) {a w:ag},Fr S a w->Fr S a (w.setCells b o vs)
 | [],_,_,_,h=>h
 | v::r,o,a,w,h=>Fr.SX hb r (o+1) (h.setCell (p:=⟨b,o,none⟩) (.inl hb) v)
theorem sK(w:ag)(B k:Nat)(vs:List aA):Fr (λj=>j=B) w (w.setCells B k vs):=Fr.SX (S:=λj=>j=B) rfl _ _ (Fr.refl _ _)
theorem mG(w:ag)(vs:List aA)(t:TypeId):Calm w (w.alloc (.cells vs.toArray t))/\af (w.alloc (.cells vs.toArray t)) w.heap.size vs:=⟨(Fr.refl _ _).alloc _,af.new w vs t⟩
theorem lJ(w:ag)(vs:List aA)(t:TypeId):∃W,w.alloc (.cells vs.toArray t)=W/\Calm w W/\af W w.heap.size vs/\W.heap.size=w.heap.size+1:=⟨_,rfl,(Fr.refl _ _).alloc _,af.new w vs t,by simp⟩
theorem Gn(w:ag)(v1:List aA)(t1:TypeId)(v2:List aA)(t2:TypeId):∃W,((w.alloc (.cells v1.toArray t1)).alloc (.cells v2.toArray t2))=W/\Calm w W/\af W (w.heap.size) v1/\af W (w.heap.size+1) v2:=by
 obtain⟨W1,e1,k1,o1,s1⟩:=lJ w v1 t1;obtain⟨W2,e2,k2,o2,s2⟩:=lJ W1 v2 t2;rw[s1] at o2 s2;have c2:=k2;have c1:=k1.trans c2;exact⟨W2,by rw[e1,e2],c1,o1.calm c2,o2⟩
theorem acA(w:ag)(v1:List aA)(t1:TypeId)(v2:List aA)(t2:TypeId)(v3:List aA)(t3:TypeId):∃W,(((w.alloc (.cells v1.toArray t1)).alloc (.cells v2.toArray t2)).alloc (.cells v3.toArray t3))=W/\Calm w W/\af W (w.heap.size) v1/\af W (w.heap.size+1) v2/\af W (w.heap.size+1+1) v3:=by
 obtain⟨W1,e1,k1,o1,s1⟩:=lJ w v1 t1;obtain⟨W2,e2,k2,o2,s2⟩:=lJ W1 v2 t2;rw[s1] at o2 s2;obtain⟨W3,e3,k3,o3,s3⟩:=lJ W2 v3 t3;rw[s2] at o3 s3;have c3:=k3;have c2:=k2.trans c3;have c1:=k1.trans c2;exact⟨W3,by rw[e1,e2,e3],c1,o1.calm c2,o2.calm c3,o3⟩
theorem Gp(w:ag)(v1:List aA)(t1:TypeId)(v2:List aA)(t2:TypeId)(v3:List aA)(t3:TypeId)(v4:List aA)(t4:TypeId):∃W,((((w.alloc (.cells v1.toArray t1)).alloc (.cells v2.toArray t2)).alloc (.cells v3.toArray t3)).alloc (.cells v4.toArray t4))=W/\Calm w W/\af W (w.heap.size) v1/\af W (w.heap.size+1) v2/\af W (w.heap.size+1+1) v3/\af W (w.heap.size+1+1+1) v4:=by
 obtain⟨W1,e1,k1,o1,s1⟩:=lJ w v1 t1;obtain⟨W2,e2,k2,o2,s2⟩:=lJ W1 v2 t2;rw[s1] at o2 s2;obtain⟨W3,e3,k3,o3,s3⟩:=lJ W2 v3 t3;rw[s2] at o3 s3;obtain⟨W4,e4,k4,o4,s4⟩:=lJ W3 v4 t4;rw[s3] at o4 s4;have c4:=k4;have c3:=k3.trans c4;have c2:=k2.trans c3;have c1:=k1.trans c2;exact⟨W4,by rw[e1,e2,e3,e4],c1,o1.calm c2,o2.calm c3,o3.calm c4,o4⟩
theorem dP:∀ (fn:Fn) (first cap:Array aA) (w:ag),(Instr.makeFunc fn first cap).run prog w=.ok (.func fn first cap) w:=λ_ _ _ _=>rfl
theorem ah{b:Nat → Prop}{w:World}:Fr b w w:=Fr.refl _ _
theorem ak{A:Sort _}{B:A → Sort _}{C:∀ a,B a → Sort _}{D:∀ a b,C a b → Prop}(a:A)(b:B a)(c:C a b)(h:D a b c):D a b c:=h
theorem ao{A:Sort _}(a:A):∃ x,a=x:=⟨a,rfl⟩
theorem aS{A:Type _}{l:List A}{i:Nat}{a:A}:l.getD i a=l[i]?.getD a:=List.getD_eq_getElem?_getD
theorem b_{A:Type _}{l m:List A}:(l++m).length=l.length+m.length:=List.length_append
theorem bN{A:Type _}{l:List A}{i:Nat}{a:A}:(l.set i a).length=l.length:=List.length_set
theorem cJ{A:Type _}{a:A}{s t:List A}:a ∈ s++t ↔ a ∈ s ∨ a ∈ t:=List.mem_append
theorem eS{A:Type _}{a:A}:¬ a ∈ ([]:List A):=List.not_mem_nil
theorem iz{A:Type _}{x:A}{l:List A}{a:A}:(x::l).set 0 a=a::l:=rfl
theorem jk{A:Type _}{x:A}{l:List A}{i:Nat}{a:A}:(x::l).set (i+1) a=x::l.set i a:=rfl
theorem lQ{A:Type _}{l:List A}{i:Nat}(h:i<l.length):l[i]?=some l[i]:=List.getElem?_eq_getElem h
theorem rM{A:Type _}{l m:List A}{i:Nat}(h:l.length ≤ i):(l++m)[i]?=m[i-l.length]?:=List.getElem?_append_right h
theorem aD(n:Nat):n ≤ n:=Nat.le_refl n
theorem bY(n:Nat):0 ≤ n:=Nat.zero_le n
theorem gw{a b c:Nat}(h:a ≤ b)(k:b ≤ c):a ≤ c:=Nat.le_trans h k
theorem fB(n m:Nat):n<m ∨ n ≥ m:=Nat.lt_or_ge n m
theorem sY{A:Type _}{i:Nat}{b:A}{l:Array A}:l[i]?=some b ↔ ∃ h:i<l.size,l[i]=b:=Array.getElem?_eq_some_iff
theorem gH{A:Type _}{a b:A}:a ∈ [b] ↔ a=b:=List.mem_singleton
theorem eH{A:Type _}{b:A}{l:List A}{a:A}:a ∈ b::l ↔ a=b ∨ a ∈ l:=List.mem_cons
theorem fM(n:Nat):n+0=n:=rfl
theorem ia(n:Nat):0+n=n:=Nat.zero_add n
theorem acn(a b:Bool):((a && b)=true)=(a=true ∧ b=true):=Bool.and_eq_true a b
theorem nt(w:World)(a:Addr){u:Value}(h:w.cell? a=some u):a.block<w.heap.size:=w.block_lt_of_cell? a h
abbrev bw(a:Nat):Value:=.pointer (some ⟨a,0,none⟩)
abbrev aj:=List Nat
def mk(s d:Nat):Nat:=(2^d-1)*2^s
def gt(W s d:Nat):Nat:=W / 2^s % 2^d
theorem E_{a b:Nat}(h:a<=b):2^a<=2^b:=Nat.pow_le_pow_right (by omega) h
theorem Nz:(2:Nat)^64=18446744073709551616:=by decide
theorem SJ{s d:Nat}(h:s+d<=64):mk s d<18446744073709551616:=by
 have h1:=E_ h;rw[Nat.pow_add,Nz] at h1;have h2:0<2^s:=Nat.two_pow_pos s;have h3:0<2^d:=Nat.two_pow_pos d;unfold mk;have h4:(2^d-1)*2^s+2^s=2^s*2^d:=by rw[Nat.sub_mul,Nat.one_mul,Nat.mul_comm];exact Nat.sub_add_cancel (Nat.le_mul_of_pos_right _ h3)
 omega
theorem Mb{d:Nat}(h1:1<=d)(h:d<=64):18446744073709551615 / 2^(64-d)=2^d-1:=by
 have e:(2:Nat)^64=2^(64-d)*2^d:=by rw[<-Nat.pow_add];congr 1;omega
 rw[Nz] at e;have h2:0<2^(64-d):=Nat.two_pow_pos _;have h3:0<2^d:=Nat.two_pow_pos d
 have:18446744073709551615=(2^(64-d)-1)+2^(64-d)*(2^d-1):=by
  rw[Nat.mul_sub,Nat.mul_one,<-e];have:2^(64-d)<=18446744073709551616:=by rw[<-Nz];exact E_ (by omega)
  omega
 rw[this,Nat.add_mul_div_left _ _ h2,Nat.div_eq_of_lt (by omega),Nat.zero_add]
theorem Qk{s d:Nat}(h1:1<=d)(h:s+d<=64):IntKind.u64.wrap (18446744073709551615 / 2^(64-d)*2^s)=(mk s d:Nat):=by
 have e:(18446744073709551615:Int) / 2^(64-d)*2^s=((mk s d:Nat):Int):=by
  unfold mk;rw[<-Mb h1 (by omega),Int.natCast_mul,Int.natCast_pow,Int.natCast_ediv,Int.natCast_pow];rfl
 rw[e,IntKind.wrap_u64];have:=SJ h;omega
theorem Fx(s d i:Nat):(mk s d).testBit i=decide (s<=i/\i<s+d):=by
 unfold mk;rw[<-Nat.shiftLeft_eq,Nat.testBit_shiftLeft,Nat.testBit_two_pow_sub_one];rw[<-Bool.decide_and,decide_eq_decide];exact⟨λh=>⟨h.1,by omega⟩,λh=>⟨h.1,by omega⟩⟩
theorem Fw(W s d i:Nat):(gt W s d).testBit i=(decide (i<d) && W.testBit (s+i)):=by
 unfold gt;rw[Nat.testBit_mod_two_pow,<-Nat.shiftRight_eq_div_pow,Nat.testBit_shiftRight]
theorem RD(W s d:Nat):gt W s d<2^d:=Nat.mod_lt _ (Nat.two_pow_pos d)
theorem Tq(W s d:Nat):(W &&& mk s d) / 2^s=gt W s d:=by
 apply Nat.eq_of_testBit_eq;intro i;rw[Fw,<-Nat.shiftRight_eq_div_pow,Nat.testBit_shiftRight,Nat.testBit_and,Fx]
 by_cases h:i<d <;> simp[h]
theorem get_eq{W s d:Nat}(h:s+d<=64)(hW:W<18446744073709551616):bits .and .u64 (W:Int) (mk s d:Nat) / 2^s=(gt W s d:Nat):=by
 rw[u64_and_nat W (mk s d) hW (SJ h),<-Tq];push_cast;rfl
abbrev Ml(s wd:Int):aA:=.agg #[.int .i64 s,.int .i64 wd]
abbrev wV(n:Nat):aA:=.int .u64 (n:Int)
theorem yA(s wd:Int)(w:ag)(h1:0<=s)(h2:1<=wd)(h3:s+wd<=64) :
 aJ prog 261 #[Ml s wd] w λe w'=>e=.returned (.bool true)/\Calm w w':=by
 have a1:s<64:=by omega
 have a2:wd<=64:=by omega
 go_in;go_wp2;go_ret;exact⟨rfl,Fr.alloc (Fr.refl _ _) _⟩
theorem LU(s wd:Int)(w:ag)(h1:0<=s)(h2:1<=wd)(h3:s+wd<=64) :
 aJ prog 262 #[Ml s wd] w λe w'=>e=.returned (wV (mk s.toNat wd.toNat))/\Calm w w':=by
 go_in;go_wp2_with fail
 refine(yA s wd _ h1 h2 h3).mono ?_;rintro e w1 ⟨rfl,c1⟩;have b1:=Fr.cellAt c1 ((Own.new w #[.int .i64 s,.int .i64 wd] 330 0 rfl).1) id;have b2:=Fr.cellAt c1 ((Own.new w #[.int .i64 s,.int .i64 wd] 330 1 rfl).1) id;have a1:0<=64-wd:=by omega
 have a2:64-wd<=64:=by omega
 have a3:s<=64:=by omega
 go_wp2_with fail
 go_quiet (fail)
 go_wp2;go_ret;refine⟨?_,(Fr.trans (Fr.alloc (Fr.refl _ _) _) c1).drewN _⟩;obtain⟨S,rfl⟩:=Int.eq_ofNat_of_zero_le h1;obtain⟨D,rfl⟩:=Int.eq_ofNat_of_zero_le (show 0<=wd by omega);have e:=Qk (s:=S) (d:=D) (by omega) (by omega);rw[show(64-(D:Int)).toNat=64-D from by omega,Int.toNat_natCast,Int.toNat_natCast];exact congrArg (λx=>Ending.returned (.int .u64 x)) e
theorem FV(W:Nat)(hW:W<18446744073709551616)(s wd:Int)(w:ag)(h1:0<=s)(h2:1<=wd)(h3:s+wd<=64) :
 aJ prog 257 #[wV W,Ml s wd] w λe w'=>e=.returned (wV (gt W s.toNat wd.toNat))/\Calm w w':=by
 go_in;go_wp2_with fail
 refine(yA s wd _ h1 h2 h3).mono ?_;rintro e w1 ⟨rfl,c1⟩;have b1:=Fr.cellAt c1 ((Own.new w #[.int .i64 s,.int .i64 wd] 330 0 rfl).1) id;have b2:=Fr.cellAt c1 ((Own.new w #[.int .i64 s,.int .i64 wd] 330 1 rfl).1) id;have a3:s<=64:=by omega
 have hz:=c1.size;go_wp2_with fail
 have q1:∀x:a_ w1,x.w.cell? ⟨w.heap.size,0,none⟩=some (.int .i64 s):=λx=>x.cell b1;have q2:∀x:a_ w1,x.w.cell? ⟨w.heap.size,1,none⟩=some (.int .i64 wd):=λx=>x.cell b2;refine bO (by kernel_rfl) (by kernel_rfl) ?_
 repeat (go_big_quiet_step ((go_at_call 262;exact Calls.dC (LU s wd _ h1 h2 h3))))
 refine wpQuiet_nil ?_;intro w2 hw';have c2:=a_.out hw';clear hw';go_wp2;go_ret;refine⟨?_,(Fr.trans (Fr.alloc (Fr.refl _ _) _) c1).trans c2⟩;obtain⟨S,rfl⟩:=Int.eq_ofNat_of_zero_le h1;obtain⟨D,rfl⟩:=Int.eq_ofNat_of_zero_le (show 0<=wd by omega);have e:=get_eq (s:=S) (d:=D) (by omega) hW;rw[Int.toNat_natCast,Int.toNat_natCast];exact congrArg (λx=>Ending.returned (.int .u64 x)) e
section
open Go.ChangeShapes Go.WideShapes Go.ChangeAt Go.RowKit
section
variable {H:Type}{enc:TypeId × aA->H}{P:Program}{w:ag}{base:Nat}{spare:Nat->Bool}{held:Bool}
theorem i64_of_wf{n:Int}(h:(Lit.int .i64 n).wf=true):bX n:=bounds_i64 h
theorem open_row{r:Reach}{b0:Nat}{t e:TypeId}{k:IntKind}{v:aA}{d:DataW H}{p:List MemPlace}(ht:P.underlying t=some (.slice e))(he:P.underlying e=some (.int k))(hE:P.cellsOf e=1)
 (hv:Value.okWide P w r b0 t v) (h:DataW.Trod enc P w base (λ_=>true) held t v d p):∃xs:List Int,Row w v (xs.map (Value.int k))/\(∀x∈xs,(Lit.int k x).wf=true)/\xs.length<=maxLen:=by
 obtain⟨a0,len,cap,rfl⟩:=okWide_slice ht hv;obtain⟨fuel,hf⟩:=h;rcases open_ints ht he hE hf with ⟨hcs,_⟩|⟨x,l,c,zs,hcs,_,hl,hm,hz,_,hcell,hwz⟩
 ·simp[Value.cells] at hcs;obtain⟨rfl,rfl,rfl⟩:=hcs;exact⟨[],Row.nil w,by simp,by simp⟩
 ·simp[Value.cells] at hcs;obtain⟨rfl,rfl,rfl⟩:=hcs;simp at hz;refine⟨zs.take len,⟨some x,cap,by simp;omega,?_⟩,λy hy=>hwz y (List.mem_of_mem_take hy),by simp;omega⟩
  by_cases h0:len=0
  ·left;simp[h0]
  ·right;obtain⟨b,off,spot⟩:=x;have Lx:spot=none:=by simpa[Addr.add] using World.cell?_spot (hcell 0 (by omega))
   subst Lx;refine⟨b,off,rfl,λi hi=>?_⟩;have:=hcell i (by simp at hi;omega);simp at hi;have nK:i<zs.length:=by omega
   by_cases h0:i=0
   ·subst h0;simpa[Addr.add,List.getD,nK] using this
   ·simpa[Addr.add,List.getD,nK,h0] using this
end
end
section
open Go.ChangeShapes Go.WideShapes Go.ChangeAt Go.RowKit Go.Deep
section
variable {H:Type}{enc:TypeId × aA->H}{P:Program}{w:ag}{base:Nat}{held:Bool}
theorem ei{b off n:Nat} : (⟨b,off,none⟩:Addr).add n=⟨b,off+n,none⟩:=by
 unfold Addr.add;split <;> simp_all
theorem nA{t:TypeId}{fuel:Nat}{spare:Nat->Bool}{cs:List aA}{x:DataW H × List MemPlace}(ht:P.underlying t=some (.int .i64))(h:DataW.trod enc P w base spare held fuel t cs=some x):∃n,cs=[vI n]/\bX n:=by
 obtain⟨n,hn,_,hw⟩:=DataW.trod_int ht h;exact⟨n,hn,i64_of_wf hw⟩
end
end
