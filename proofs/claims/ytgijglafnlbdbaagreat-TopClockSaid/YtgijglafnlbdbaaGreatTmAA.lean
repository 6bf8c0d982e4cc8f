import Derived.RangeFuncNested
import Derived.RangeFuncBound
import Derived.WalkSpells
import Derived.WalkLawsBesides
import Derived.Shelf.RegionOpen
import Derived.OwnWalkIn
import Derived.LoopNIn
import Derived.LoopIn
import Derived.StillTailTactics
import Derived.Deep.RegionHeld3
import Derived.Deep.DeepCutAuto
import Derived.Test.YtgijglafnlbdbaaGreatProg
import Derived.Test.YtgijglafnlbdbaaGreatRows
set_option linter.all false
set_option maxHeartbeats 1000000
set_option maxRecDepth 8000
namespace Go.Proofs.YtgijglafnlbdbaaGreat
open Go.RowKit Go.Shelf _root_.Go.Proofs.Tryz
open Go renaming World->aj,Value->aC,Calls->aL
section
theorem af{p:Prop}(h:p):Hid p:=h
structure Fr(S:Nat->Prop)(w w':aj):Prop where
 os:w'.os=w.os
 tape:w'.tape=w.tape
 output:w'.output=w.output
 size:w.heap.size<=w'.heap.size
 block:∀k,k<w.heap.size->¬S k->w'.heap[k]?=w.heap[k]?
abbrev Calm(w w':aj):Prop:=Fr (λ_=>False) w w'
namespace Fr
variable {S T:Nat->Prop}{a b c w w':aj}
theorem refl(S:Nat->Prop)(w:aj):Fr S w w:=⟨rfl,rfl,rfl,Nat.le_refl _,λ_ _ _=>rfl⟩
theorem trans(h:Fr S a b)(k:Fr S b c):Fr S a c:=
 ⟨k.os.trans h.os,k.tape.trans h.tape,k.output.trans h.output,Nat.le_trans h.size k.size,
  λi hi hs=>(k.block i (Nat.lt_of_lt_of_le hi h.size) hs).trans (h.block i hi hs)⟩
theorem mono(h:Fr S w w')(hs:∀k,k<w.heap.size->S k->T k):Fr T w w':=
 ⟨h.os,h.tape,h.output,h.size,λk hk ht=>h.block k hk (λx=>ht (hs k hk x))⟩
theorem drew(h:Fr S a w):Fr S a w.drew:=⟨h.os,h.tape,h.output,h.size,h.block⟩
theorem drewN(h:Fr S a w)(n:Nat):Fr S a (w.drewN n):=⟨h.os,h.tape,h.output,h.size,h.block⟩
theorem alloc(h:Fr S a w)(o:Obj):Fr S a (w.alloc o):=
 h.trans ⟨rfl,rfl,rfl,by simp,λk hk _=>Below.heap_alloc _ _ _ hk⟩
theorem setCell(h:Fr S a w){p:Addr}(hp:S p.block\/a.heap.size<=p.block)(u:aC):Fr S a (w.setCell p u):=
 ⟨h.os,h.tape,h.output,Nat.le_trans h.size (by simp[World.setCell]),λk hk hs=>by
  rw[Below.heap_setCell _ _ _ _ (by rintro rfl;rcases hp with hp|hp;exact hs hp;omega)];exact h.block k hk hs⟩
theorem putObj(h:Fr S a w){p:Nat}(hp:S p\/a.heap.size<=p)(o:Obj):Fr S a (w.putObj p o):=
 ⟨h.os,h.tape,h.output,Nat.le_trans h.size (by simp),λk hk hs=>by
  rw[World.putObj_heap_other (by rintro rfl;rcases hp with hp|hp;exact hs hp;omega)];exact h.block k hk hs⟩
theorem cell(h:Fr S w w'){p:Addr}(hp:p.block<w.heap.size)(hs:¬S p.block):w'.cell? p=w.cell? p:=World.cell?_of_block (w:=w) (h.block p.block hp hs)
theorem frozen(h:Fr S w w'){p:Addr}(hp:p.block<w.heap.size)(hs:¬S p.block):w'.frozen? p=w.frozen? p:=World.frozen?_of_block (w:=w) (h.block p.block hp hs)
theorem below(h:Fr S w w'){B:Nat}(hB:B<=w.heap.size)(hS:∀k,k<B->¬S k):Below B w w':=
 ⟨h.os,h.tape,h.output,h.size,λk hk=>h.block k (by omega) (hS k hk)⟩
theorem grown(h:Fr S a w){row:Option Nat}(hg:w.grownBy w' row)(hr:∀k,row=some k->S k\/a.heap.size<=k):Fr S a w':=
 ⟨hg.os.trans h.os,hg.tape.trans h.tape,hg.output.trans h.output,Nat.le_trans h.size hg.size,λk hk hs=>by
  rw[hg.block k (Nat.lt_of_lt_of_le hk h.size) (by rintro rfl;rcases hr k rfl with x|x;exact hs x;omega)];exact h.block k hk hs⟩
theorem join(h:Fr S a b)(k:Fr T b c)(hs:∀k,k<a.heap.size->T k->S k):Fr S a c:=
 ⟨k.os.trans h.os,k.tape.trans h.tape,k.output.trans h.output,Nat.le_trans h.size k.size,
  λi hi hS=>(k.block i (Nat.lt_of_lt_of_le hi h.size) (λx=>hS (hs i hi x))).trans (h.block i hi hS)⟩
theorem cellAt(h:Fr S w w'){p:Addr}{v:aC}(hc:w.cell? p=some v)(hs:¬S p.block):w'.cell? p=some v:=(h.cell (World.block_lt_of_cell? w p hc) hs).trans hc
theorem frozenAt(h:Fr S w w'){p:Addr}{v:aC}{f:Bool}(hc:w.cell? p=some v)(hf:w.frozen? p=f)(hs:¬S p.block):w'.frozen? p=f:=(h.frozen (World.block_lt_of_cell? w p hc) hs).trans hf
theorem jE(h:Fr S w w'){b:Nat}{o:Obj}(hc:w.heap[b]?=some o)(hs:¬S b):w'.heap[b]?=some o:=(h.block b (Array.getElem?_eq_some_iff.1 hc).1 hs).trans hc
end Fr
def Own(w:aj)(b i:Nat)(v:aC):Prop:=w.cell? ⟨b,i,none⟩=some v/\w.frozen? ⟨b,i,none⟩=false
theorem Own.fr{S:Nat->Prop}{w w':aj}{b i:Nat}{v:aC}(h:Own w b i v)(f:Fr S w w')(hs:¬S b):Own w' b i v:=⟨f.cellAt (p:=⟨b,i,none⟩) h.1 hs,f.frozenAt (p:=⟨b,i,none⟩) h.1 h.2 hs⟩
theorem Own.lt{w:aj}{b i:Nat}{v:aC}(h:Own w b i v):b<w.heap.size:=World.block_lt_of_cell? w _ h.1
theorem Own.new(w:aj)(c:Array aC)(t:TypeId)(i:Nat){v:aC}(h:c[i]?=some v):Own (w.alloc (.cells c t)) w.heap.size i v:=
 ⟨(World.cell?_alloc_new w c t i).trans h,World.frozen?_alloc_new w c t i⟩
theorem Own.at(w:aj)(c:Array aC)(t:TypeId)(b i:Nat){v:aC}(hb:b=w.heap.size)(h:c[i]?=some v):Own (w.alloc (.cells c t)) b i v:=by subst hb;exact Own.new w c t i h
theorem Own.alloc{w:aj}{b i:Nat}{v:aC}(h:Own w b i v)(o:Obj):Own (w.alloc o) b i v:=h.fr (Fr.alloc (Fr.refl (λ_=>False) w) o) id
theorem Own.drew{w:aj}{b i:Nat}{v:aC}(h:Own w b i v):Own w.drew b i v:=h
theorem Own.set{w:aj}{b i:Nat}{v:aC}(h:Own w b i v)(u:aC):Own (w.setCell ⟨b,i,none⟩ u) b i u:=⟨World.cell?_setCell_same w _ _ h.1,by rw[World.frozen?_setCell];exact h.2⟩
theorem Own.other{w:aj}{b i:Nat}{v:aC}(h:Own w b i v)(p:Addr)(u:aC)(hp:p.block≠b\/p.off≠i):Own (w.setCell p u) b i v:=
 ⟨(World.cell?_setCell_other w p _ u (by rintro rfl;simp at hp)).trans h.1,by rw[World.frozen?_setCell];exact h.2⟩
theorem Own.jC{w:aj}{b i:Nat}{v:aC}(h:Own w b i v)(p:Addr)(u:aC)(hp:p.block≠b):Own (w.setCell p u) b i v:=h.other p u (.inl hp)
theorem KJ{w:aj}{B:Nat}{a b:aC}(h0:Own w B 0 a)(h1:Own w B 1 b)(x y:aC) :
 Own ((w.setCell ⟨B,0,none⟩ x).setCell ⟨B,1,none⟩ y) B 0 x/\Own ((w.setCell ⟨B,0,none⟩ x).setCell ⟨B,1,none⟩ y) B 1 y/\Fr (λk=>k=B) w ((w.setCell ⟨B,0,none⟩ x).setCell ⟨B,1,none⟩ y):=
 ⟨(h0.set x).other _ _ (.inr (by simp)),(h1.other _ _ (.inr (by simp))).set y,((Fr.refl (λk=>k=B) w).setCell (.inl rfl) _).setCell (.inl rfl) _⟩
theorem KL{w:aj}{B:Nat}{a b c:aC}(h0:Own w B 0 a)(h1:Own w B 1 b)(h2:Own w B 2 c)(x y z:aC) :
 Own (((w.setCell ⟨B,0,none⟩ x).setCell ⟨B,1,none⟩ y).setCell ⟨B,2,none⟩ z) B 0 x/\Own (((w.setCell ⟨B,0,none⟩ x).setCell ⟨B,1,none⟩ y).setCell ⟨B,2,none⟩ z) B 1 y /\
 Own (((w.setCell ⟨B,0,none⟩ x).setCell ⟨B,1,none⟩ y).setCell ⟨B,2,none⟩ z) B 2 z/\Fr (λk=>k=B) w (((w.setCell ⟨B,0,none⟩ x).setCell ⟨B,1,none⟩ y).setCell ⟨B,2,none⟩ z):=
 let ⟨p,q,f⟩:=KJ h0 h1 x y
 ⟨p.other _ _ (.inr (by simp)),q.other _ _ (.inr (by simp)),((h2.other _ _ (.inr (by simp))).other _ _ (.inr (by simp))).set z,f.setCell (.inl rfl) _⟩
theorem BM{w:aj}{B:Nat}{a b c d:aC}(h0:Own w B 0 a)(h1:Own w B 1 b)(h2:Own w B 2 c)(h3:Own w B 3 d)(x y z u:aC) :
 Own ((((w.setCell ⟨B,0,none⟩ x).setCell ⟨B,1,none⟩ y).setCell ⟨B,2,none⟩ z).setCell ⟨B,3,none⟩ u) B 0 x/\Own ((((w.setCell ⟨B,0,none⟩ x).setCell ⟨B,1,none⟩ y).setCell ⟨B,2,none⟩ z).setCell ⟨B,3,none⟩ u) B 1 y /\
 Own ((((w.setCell ⟨B,0,none⟩ x).setCell ⟨B,1,none⟩ y).setCell ⟨B,2,none⟩ z).setCell ⟨B,3,none⟩ u) B 2 z/\Own ((((w.setCell ⟨B,0,none⟩ x).setCell ⟨B,1,none⟩ y).setCell ⟨B,2,none⟩ z).setCell ⟨B,3,none⟩ u) B 3 u /\
 Fr (λk=>k=B) w ((((w.setCell ⟨B,0,none⟩ x).setCell ⟨B,1,none⟩ y).setCell ⟨B,2,none⟩ z).setCell ⟨B,3,none⟩ u):=
 let ⟨p,q,r,f⟩:=KL h0 h1 h2 x y z
 ⟨p.other _ _ (.inr (by simp)),q.other _ _ (.inr (by simp)),r.other _ _ (.inr (by simp)),(((h3.other _ _ (.inr (by simp))).other _ _ (.inr (by simp))).other _ _ (.inr (by simp))).set u,f.setCell (.inl rfl) _⟩
def ag(w:aj)(B:Nat)(vs:List aC):Prop:=∀i v,vs[i]?=some v->Own w B i v
theorem ag.new(w:aj)(vs:List aC)(t:TypeId):ag (w.alloc (.cells vs.toArray t)) w.heap.size vs:=λi v h=>Own.new w _ _ i (by simpa using h)
theorem ag.at(w:aj)(vs:List aC)(t:TypeId)(b:Nat)(hb:b=w.heap.size):ag (w.alloc (.cells vs.toArray t)) b vs:=by subst hb;exact ag.new w vs t
theorem ag.fr{S:Nat->Prop}{w w':aj}{B:Nat}{vs:List aC}(h:ag w B vs)(f:Fr S w w')(hs:¬S B):ag w' B vs:=λi v hv=>(h i v hv).fr f hs
theorem ag.calm{w w':aj}{B:Nat}{vs:List aC}(h:ag w B vs)(f:Calm w w'):ag w' B vs:=h.fr f id
theorem ag.alloc{w:aj}{B:Nat}{vs:List aC}(h:ag w B vs)(o:Obj):ag (w.alloc o) B vs:=λi v hv=>(h i v hv).alloc o
theorem ag.jC{w:aj}{B:Nat}{vs:List aC}(h:ag w B vs)(p:Addr)(u:aC)(hp:p.block≠B):ag (w.setCell p u) B vs:=λi v hv=>(h i v hv).jC p u hp
theorem ag.lt{w:aj}{B:Nat}{vs:List aC}(h:ag w B vs)(hv:0<vs.length):B<w.heap.size:=(h 0 vs[0] (by simp[hv])).lt
theorem ag.set{w:aj}{B:Nat}{vs:List aC}(h:ag w B vs)(k:Nat)(u:aC)(hk:k<vs.length):ag (w.setCell ⟨B,k,none⟩ u) B (vs.set k u):=λi v hv=>by
 by_cases e:i=k
 ·subst e;rw[List.getElem?_set_self hk] at hv;cases hv;exact(h i vs[i] (by simp[hk])).set u
 ·rw[List.getElem?_set_ne (Ne.symm e)] at hv;exact(h i v hv).other _ _ (.inr (by simpa using Ne.symm e))
theorem ag.O8{w:aj}{B:Nat}{a b c:aC}(h:ag w B [a,b,c])(x y z:aC) :
 ag (((w.setCell ⟨B,0,none⟩ x).setCell ⟨B,1,none⟩ y).setCell ⟨B,2,none⟩ z) B [x,y,z]/\Fr (λk=>k=B) w (((w.setCell ⟨B,0,none⟩ x).setCell ⟨B,1,none⟩ y).setCell ⟨B,2,none⟩ z):=
 ⟨((h.set 0 x (by simp)).set 1 y (by simp)).set 2 z (by simp),(((Fr.refl (λk=>k=B) w).setCell (.inl rfl) _).setCell (.inl rfl) _).setCell (.inl rfl) _⟩
theorem ag.zB{w:aj}{B:Nat}{a b c d:aC}(h:ag w B [a,b,c,d])(x y z u:aC) :
 ag ((((w.setCell ⟨B,0,none⟩ x).setCell ⟨B,1,none⟩ y).setCell ⟨B,2,none⟩ z).setCell ⟨B,3,none⟩ u) B [x,y,z,u]/\Fr (λk=>k=B) w ((((w.setCell ⟨B,0,none⟩ x).setCell ⟨B,1,none⟩ y).setCell ⟨B,2,none⟩ z).setCell ⟨B,3,none⟩ u):=
 ⟨(((h.set 0 x (by simp)).set 1 y (by simp)).set 2 z (by simp)).set 3 u (by simp),((((Fr.refl (λk=>k=B) w).setCell (.inl rfl) _).setCell (.inl rfl) _).setCell (.inl rfl) _).setCell (.inl rfl) _⟩
theorem Calm.any{S:Nat->Prop}{w w':aj}(h:Calm w w'):Fr S w w':=Fr.mono h (λ_ _ x=>x.elim)
def Row(w:aj)(v:aC)(xs:List aC):Prop:=
 ∃a cap,v=.slice a xs.length cap/\(xs=[]\/∃b off,a=some ⟨b,off,none⟩/\∀ (i:Nat) (h:i<xs.length),w.cell? ⟨b,off+i,none⟩=some xs[i])
theorem Row.nil(w:aj):Row w (.slice none 0 0) []:=⟨none,0,rfl,.inl rfl⟩
theorem DQ{S:Nat->Prop}{w w':aj}{base:Nat}{e:TypeId}{size:Nat}{v:aC}{n:Nat}{xs:List aC}(h:w.ownsRow base e size v n xs)(f:Fr S w w')(hs:∀k,base<=k->¬S k):w'.ownsRow base e size v n xs:=by
 refine⟨h.1,?_⟩;rcases h.2 with hn|⟨g,cap,cur,rfl,hb,WK,rest⟩
 ·exact .inl hn
 ·exact .inr ⟨g,cap,cur,rfl,hb,f.jE WK (hs _ hb),rest⟩
theorem Row.OQ{w:aj}{base:Nat}{e:TypeId}{v:aC}{n:Nat}{xs:List aC}(h:w.ownsRow base e 1 v n xs):Row w v xs:=by
 obtain⟨hl,h⟩:=h;rcases h with ⟨rfl,rfl⟩|⟨g,cap,cur,rfl,_,hg,hn,_,mi,hx⟩
 ·simp at hl;subst hl;exact Row.nil w
 ·refine⟨some ⟨g,0,none⟩,cap,by simp[hl],.inr ⟨g,0,rfl,λi hi=>?_⟩⟩;have:w.cell? ⟨g,0+i,none⟩=cur[i]?:=by simp[World.cell?,hg]
  rw[this];have h2:cur.toList[i]?=xs[i]?:=by rw[<-hx,List.getElem?_take];simp;omega
  rw[<-Array.getElem?_toList,h2];simp[hi]
def pk(c n:Int):Int:=(if c<0 then -(c+1) else c) % n
abbrev cL(n:Int):Prop:=-9223372036854775808<=n/\n<=9223372036854775807
structure bS(abh:aj) where
 w:aj
 calm:Calm abh w
instance Ms (w:aj):Nonempty (bS w):=⟨⟨w,Fr.refl _ _⟩⟩
theorem bP{P:Program}{id:Nat}{Q:Exit->Act->aj->Prop}{a:Act}{w:aj}{l:List Oper}(hm:P.follows .mixedOrders=true)(hB:Region.lexB .any l.toArray=true)
 (h:wpQuiet P l.toArray (λw'=>∃x:bS w,w'=x.w) (λa'=>∀w',(∃x:bS w,w'=x.w)->Q .normal a' w') l a):(Code.region id l.toArray true).wp P Q a w:=
 wp_region_quiet (C:=λw'=>∃x:bS w,w'=x.w) hm hB ⟨⟨w.drew,(Fr.refl _ w).drew⟩,rfl⟩ (by simpa using h)
theorem bS.out{w w':aj}(h:∃x:bS w,w'=x.w):Calm w w':=by obtain⟨x,rfl⟩:=h;exact x.calm
theorem Calls.fR{P:Program}{f:FuncId}{args:Array aC}{w:aj}{x:bS w}{v:aC}
 (h:aL P f args x.w λe w'=>e=.returned v/\Calm x.w w'):aL P f args x.w λe w''=>e=.returned v/\∃y:bS w,w''=y.w:=
 h.mono λ_ w' ⟨he,hc⟩=>⟨he,⟨w',x.calm.trans hc⟩,rfl⟩
theorem bS.cell{w:aj}(x:bS w){b o:Nat}{v:aC}(h:w.cell? ⟨b,o,none⟩=some v):x.w.cell? ⟨b,o,none⟩=some v:=x.calm.cellAt h id
def cS(keep:Nat->Prop)(W W':aj):Prop:=W.heap.size<=W'.heap.size/\∀b,keep b->W'.heap[b]?=W.heap[b]?
theorem cS.refl(keep:Nat->Prop)(W:aj):cS keep W W:=⟨Nat.le_refl _,λ_ _=>rfl⟩
theorem cS.trans{keep:Nat->Prop}{A B C:aj}(h:cS keep A B)(k:cS keep B C):cS keep A C:=
 ⟨Nat.le_trans h.1 k.1,λb hb=>(k.2 b hb).trans (h.2 b hb)⟩
theorem cS.mono{keep Qv:Nat->Prop}{A B:aj}(h:cS keep A B)(hk:∀b,Qv b->keep b):cS Qv A B:=⟨h.1,λb hb=>h.2 b (hk b hb)⟩
theorem cS.KA{keep S:Nat->Prop}{A B:aj}(h:Fr S A B)(hk:∀b,keep b->b<A.heap.size/\¬S b):cS keep A B:=
 ⟨h.size,λb hb=>h.block b (hk b hb).1 (hk b hb).2⟩
def PO(F:Fence)(n:Nat)(P:Program)(g:Nat)(lb:Array aC)(el:Nat->Array aC)(N:Nat)(fin:Bool)(keep:Nat->Prop)(w0:aj):Prop:=
 ∀ (l:Nat) (J:Nat->aj->Prop) (Jx:aj->Prop) (W:aj),cS keep w0 W->w0.heap.size<=W.heap.size ->
   (∀k A B,J k A->Calm A B->J k B)->(∀A B,Jx A->Calm A B->Jx B)->(fin=false->∀W,¬J N W) ->
   (∀k W1,k<N->J k W1->YieldAt F (n-1) P l (el k) W1 λe W'=>
    (e=.returned (.bool true)/\J (k+1) W'/\cS keep W1 W')\/(e=.returned (.bool false)/\Jx W')) ->
   J 0 W ->
   CallsIn F n P g (#[.func (.yield l) #[] #[]]++lb) W λe W'=>(∃v,e=.returned v)/\(J N W'\/Jx W')
def rY(keep:Nat->Prop)(D:Nat)(I':aj->Prop)(Ix:Code->aj->Prop)(W:aj):Exit->Act->aj->Prop
 | .normal,_,W'=>cS (λb=>keep b\/b=D\/b=D+1) W W'/\I' W'
 | .ret,_,W'=>cS (λb=>b=D\/b=D+1) W W'/\Ix .ret W'
 | .exit id,_,W'=>cS (λb=>b=D\/b=D+1) W W'/\Ix (.exit id) W'
 | .goto t,_,W'=>cS (λb=>b=D\/b=D+1) W W'/\Ix (.goto t) W'
 | .panic _,_,_=>False
 | .outgrown,_,_=>False
variable {F:Fence}{n:Nat}{P:Program}
abbrev nE(D:Nat)(W W':aj):Prop:=Fr (λb=>b=D\/b=D+1) W W'
theorem zJ{g:Operand}{ps:Array Tmp}{assign body:Code}{Q:Exit->Act->aj->Prop}{a:Act}{w:aj}
 (hro:F.round=none) (h1:1<=n) {gf:Nat} {lb:Array aC} (hg:a.eval g=.func (.func gf) #[] lb) (hFg:F.fn gf) (eg:∀args w,(callFunc gf args).run P w=.ok (.enter gf args) w)
 {el:Nat->Array aC} {N:Nat} {fin:Bool} {keep:Nat->Prop} {w0:aj} (Sy:PO F (n-1) P gf lb el N fin keep w0) (ic:cS keep w0 w) (Qc:∀b,keep b->b<w.heap.size) (Gv:∀k,(el k).size=ps.size)
 (I:Nat->aj->Prop) (xV:Nat->Act->aj->Prop) (Ix:Code->aj->Prop)
 (hI:∀k A B,I k A->nE w.heap.size A B->I k B) (AH:∀k a' A B,xV k a' A->nE w.heap.size A B->xV k a' B) (hIx:∀c A B,Ix c A->nE w.heap.size A B->Ix c B)
 (hN:fin=false->∀W,¬I N W) (h0:I 0 w)
 (pX:∀ (l k:Nat) (W:aj),k<N->I k W->w.heap.size+1<W.heap.size ->
  assign.wpIn (F.inRound l) (n-1-1) P (Exit.then (λa' W'=>cS (λb=>keep b\/b=w.heap.size\/b=w.heap.size+1) W W'/\xV k a' W') (λ_ _ _=>False)) { tmps:=(ps.zip (el k)).foldl (λt (p,v)=>t.setIfInBounds p v) a.tmps,defers:=[] } W)
 (AM:∀ (l k:Nat) (a':Act) (W:aj),k<N->xV k a' W->w.heap.size+1<W.heap.size->body.wpIn (F.inRound l) (n-1-1) P (rY keep w.heap.size (I (k+1)) Ix W) a' W)
 (mj:∀ (W:aj),fin=true->I N W->W.heap[w.heap.size]?=some (.deferred (some []))->Q .normal { a with defers:={ target:=.collected w.heap.size,args:=#[] } :: a.defers } W)
 (Bp:∀ (c:Code) (W:aj),Ix c W->W.heap[w.heap.size]?=some (.deferred (some []))->c.wpIn F n P Q { a with defers:={ target:=.collected w.heap.size,args:=#[] } :: a.defers } W) :
 (Code.rangeFunc g ps assign body).wpIn F n P Q a w:=by
 obtain⟨D,hD⟩:∃D,w.heap.size=D:=⟨_,rfl⟩;rw[hD] at hI AH hIx pX AM mj Bp;refine wpIn_rangeFunc ?_;intro fn hfn;rw[hro];obtain⟨rec,kP⟩:∃rec:LoopState->Option Code->Loop,rec=λst pe=>{ state:=st,pending:=pe,fn,tmps:=a.tmps,params:=ps,assign,body,defers:=w.heap.size }:=⟨_,rfl⟩;obtain⟨W1,iM⟩:∃W1,(w.alloc (.deferred (some []))).alloc (.loop (rec .ready none))=W1:=⟨_,rfl⟩
 have hL1:W1.heap[D+1]?=some (.loop (rec .ready none)):=by
  rw[<-iM,<-hD];have:=World.alloc_heap_new (w.alloc (.deferred (some []))) (.loop (rec .ready none));rwa [World.size_alloc] at this
 have hK1:W1.heap[D]?=some (.deferred (some [])):=by
  rw[<-iM,<-hD];exact(Below.heap_alloc _ _ _ (by simp)).trans (World.alloc_heap_new w _)
 have gC:Calm w W1:=by rw[<-iM];exact((Fr.refl _ w).alloc _).alloc _
 have hI1:I 0 W1:=hI 0 _ _ h0 gC.any;have HM:cS keep w0 W1:=ic.trans ⟨gC.size,λb hb=>gC.block b (Qc b hb) id⟩
 refine⟨w.heap.size+1,[{ target:=.collected w.heap.size,args:=#[] }],W1,{ target:=.fn (.func gf) lb,args:=#[.func (.yield (w.heap.size+1)) #[] #[]] },W1,gf,
  #[.func (.yield (w.heap.size+1)) #[] #[]]++lb,W1,?_,?_,?_,?_,λ_=>h1,?_⟩
 ·rw[<-iM,kP];exact run_enterLoop_outer _ _ _ _ _
 ·simp only[resolve,hg];simp[go_sem]
 ·intro f' WC;simp[Target.leads] at WC;subst WC;exact hFg
 ·simp[invoke,go_sem,eg]
 ·have put:∀ {W:aj} {r:Loop} (o:Obj),W.heap[D+1]?=some (.loop r)->nE D W (W.putObj (D+1) o):=λo _=>(Fr.refl _ _).putObj (.inl (.inr rfl)) o;rw[hD]
  refine(Sy (D+1)
   (λk W=>I k W/\W.heap[D+1]?=some (.loop (rec .ready none))/\W.heap[D]?=some (.deferred (some []))/\∀b,keep b->b<D)
   (λW=>∃c,Ix c W/\W.heap[D+1]?=some (.loop (rec .done (some c)))/\W.heap[D]?=some (.deferred (some [])))
   W1 HM (Nat.le_trans ic.1 gC.size) ?_ ?_ (λhf W h=>hN hf W h.1) ?_ ⟨hI1,hL1,hK1,λb hb=>hD ▸ Qc b hb⟩).mono ?_
  ·rintro k A B ⟨hi,hl,hk,hh⟩ hc;exact⟨hI k A B hi hc.any,(hc.block _ (Array.getElem?_eq_some_iff.1 hl).1 id).trans hl,(hc.block _ (Array.getElem?_eq_some_iff.1 hk).1 id).trans hk,hh⟩
  ·rintro A B ⟨c,hi,hl,hk⟩ hc;exact⟨c,hIx c A B hi hc.any,(hc.block _ (Array.getElem?_eq_some_iff.1 hl).1 id).trans hl,(hc.block _ (Array.getElem?_eq_some_iff.1 hk).1 id).trans hk⟩
  ·rintro k W Mk ⟨hi,hl,hk,hh⟩;have aZ:D+1<W.heap.size:=(Array.getElem?_eq_some_iff.1 hl).1;have hy:=run_yield (P:=P) (args:=el k) hl (by rw[kP];exact Gv k);rw[kP] at hy;refine⟨fn,_,assign,body,hy,roundIn_of_wpIn hfn (wpIn_mono (pX (D+1) k W Mk hi aZ) ?_)⟩;rintro e a1 Wa hp
   cases e with
   | normal=>
     obtain⟨JD,hia⟩:=hp;have JE:=(JD.2 (D+1) (.inr (.inr rfl))).trans hl;have Sd:=(JD.2 D (.inr (.inl rfl))).trans hk;have JF:D+1<Wa.heap.size:=Nat.lt_of_lt_of_le aZ JD.1;refine⟨_,run_beginRound JE (by rw[kP]),?_⟩;have td:(Wa.putObj (D+1) (.loop { rec .ready none with state:=.busy })).heap[D+1]?=some (.loop { rec .ready none with state:=.busy }):=World.putObj_heap_same JF;have gI:(Wa.putObj (D+1) (.loop { rec .ready none with state:=.busy })).heap[D]?=some (.deferred (some [])):=(World.putObj_heap_other (by omega)).trans Sd;have Dl:∀ (X:aj) (o:Obj),cS keep X (X.putObj (D+1) o):=λX o=>⟨by simp,λb hb=>World.putObj_heap_other (by have:=hh b hb;omega)⟩;refine wpIn_mono (AM (D+1) k a1 _ Mk (AH k a1 _ _ hia (put _ JE)) (by simp;exact JF)) ?_
     have yp:∀ (jump:Option Code) (W3:aj),cS (λb=>b=D\/b=D+1) (Wa.putObj (D+1) (.loop { rec .ready none with state:=.busy })) W3 ->
      (Instr.endRound (D+1) jump).run P W3=.ok (.bool jump.isNone) (W3.putObj (D+1) (.loop (rec (if jump.isNone then .ready else .done) jump))) /\
      nE D W3 (W3.putObj (D+1) (.loop (rec (if jump.isNone then .ready else .done) jump))) /\
      (W3.putObj (D+1) (.loop (rec (if jump.isNone then .ready else .done) jump))).heap[D+1]?=some (.loop (rec (if jump.isNone then .ready else .done) jump)) /\
      (W3.putObj (D+1) (.loop (rec (if jump.isNone then .ready else .done) jump))).heap[D]?=some (.deferred (some [])):=λjump W3 lT=>by
      have pC:=(lT.2 (D+1) (.inr rfl)).trans td;have NR:=(lT.2 D (.inl rfl)).trans gI;have:=run_endRound (P:=P) jump pC;have WX:=put (.loop (rec (if jump.isNone then .ready else .done) jump)) pC;rw[kP] at this WX ⊢;exact⟨this,WX,World.putObj_heap_same (Array.getElem?_eq_some_iff.1 pC).1,(World.putObj_heap_other (by omega)).trans NR⟩
     rintro e a3 W3 hp
     cases e with
     | normal=>
       obtain⟨lT,yJ⟩:=hp;obtain⟨hr,pC,vx,Df⟩:=yp none W3 (lT.mono (λb hb=>.inr hb));exact⟨_,_,hr,.inl ⟨rfl,⟨hI _ _ _ yJ pC,vx,Df,hh⟩,(JD.mono (λb hb=>.inl hb)).trans ((Dl _ _).trans ((lT.mono (λb hb=>.inl hb)).trans (Dl _ _)))⟩⟩
     | ret=>
       obtain⟨lT,yJ⟩:=hp;obtain⟨hr,pC,vx,Df⟩:=yp (some .ret) W3 lT;exact⟨_,_,hr,.inr ⟨rfl,.ret,hIx _ _ _ yJ pC,vx,Df⟩⟩
     | exit id=>
       obtain⟨lT,yJ⟩:=hp;obtain⟨hr,pC,vx,Df⟩:=yp (some (.exit id)) W3 lT;exact⟨_,_,hr,.inr ⟨rfl,.exit id,hIx _ _ _ yJ pC,vx,Df⟩⟩
     | goto t=>
       obtain⟨lT,yJ⟩:=hp;obtain⟨hr,pC,vx,Df⟩:=yp (some (.goto t)) W3 lT;exact⟨_,_,hr,.inr ⟨rfl,.goto t,hIx _ _ _ yJ pC,vx,Df⟩⟩
     | panic ch=>exact hp.elim
     | outgrown=>exact hp.elim
   | exit id=>exact hp.elim
   | goto t=>exact hp.elim
   | ret=>exact hp.elim
   | panic chain=>exact hp.elim
   | outgrown=>exact hp.elim
  ·rintro e W2 ⟨⟨v,rfl⟩,(⟨hi,hl,hk,_⟩|⟨c,hi,hl,hk⟩)⟩
   ·have dh:fin=true:=by
     cases hf:fin with
     | true=>rfl
     | false=>exact(hN hf _ hi).elim
    exact⟨none,_,by have:=run_endLoop (P:=P) hl (by rw[kP];simp);rw[kP] at this;exact this,mj _ dh (hI _ _ _ hi (put _ hl)) ((World.putObj_heap_other (by omega)).trans hk)⟩
   ·exact⟨some c,_,by have:=run_endLoop (P:=P) hl (by rw[kP];simp);rw[kP] at this;exact this,Bp c _ (hIx c _ _ hi (put _ hl)) ((World.putObj_heap_other (by omega)).trans hk)⟩
end
section
section
variable {P:Program}{ops:Array Oper}{md:Region.Mode}{C:aj->Prop}
def AQ(P:Program)(md:Region.Mode)(ops:Array Oper)(C:aj->Prop)(n:Nat)(L:Array Bool->Act->Prop):Nat->Array Bool->Act->Prop
 | 0,done,a=>L done a
 | f+1,done,a=>Region.ready md ops done≠[]/\∀i∈Region.ready md ops done,i<n/\qOp P ops C i (AQ P md ops C n L f (done.setIfInBounds i true)) a
theorem pP{n g:Nat}{L:Array Bool->Act->Prop}{Q:Exit->Act->aj->Prop}(hL:∀done a w,C w->L done a->wpAny P md ops Q g done a w) :
 ∀ (f:Nat) (done:Array Bool) (a:Act) (w:aj),C w->AQ P md ops C n L f done a->wpAny P md ops Q (f+g) done a w
 | 0,done,a,w,hw,h=>by rw[Nat.zero_add];exact hL _ _ _ hw h
 | f+1,done,a,w,hw,h=>by
   rw[show f+1+g=(f+g)+1 by omega];exact⟨λh0=>absurd h0 h.1,λi hi=>wpOp_of_qOp hw (λa' w' hw' h'=>pP hL f _ a' w' hw' h') (h.2 i hi).2⟩
theorem AR{n i:Nat}{oi:Oper}{v:aC}{L:Array Bool->Act->Prop}(hi:ops[i]?=some oi)(eI:∀ (j:Nat) (o:Oper) cs b,ops[j]?=some o->o.op≠.select cs b)
 (hs:Region.sinkB md ops n=true) (hc:Region.chainB md ops n=true) (hn:n<ops.size) (gH:i<n) (mj:∀done a,L done a->∀j∈Region.ready md ops done,n<=j) :
 ∀ (f:Nat) (done:Array Bool) (a:Act),HeadInv md ops n done ->
   (∀j oj,ops[j]?=some oj->j≠i->done.getD j true=false->(∀e∈oj.after,Region.binds md e=true->e.on≠i)->oi.apart ops oj=true) ->
   i∈Region.ready md ops done->YieldsIn P ops C oi v a ->
   AQ P md ops C n L f (done.setIfInBounds i true) (a.put oi.dst v)->AQ P md ops C n L (f+1) done a:=by
 intro f
 induction f with
 | zero=>
   intro done a inv _ hr hy H;have nM:=(mem_ready.1 hr).1;refine⟨λh=>(by rw[h] at hr;cases hr),λj hj=>?_⟩
   have qw:j<n:=by
    rcases Nat.lt_or_ge j n with h|h
    ·exact h
    ·exact absurd hj (tail_waits hs hc hn inv _ i rfl gH nM j h)
   refine⟨qw,?_⟩
   by_cases rN:j=i
   ·subst rN;exact hy.qOp hi H
   ·have:=mj _ _ H j (ready_mono hj rN);omega
 | succ f ih=>
   intro done a inv rM hr hy H;have nM:=(mem_ready.1 hr).1;refine⟨λh=>(by rw[h] at hr;cases hr),λj hj=>?_⟩
   have qw:j<n:=by
    rcases Nat.lt_or_ge j n with h|h
    ·exact h
    ·exact absurd hj (tail_waits hs hc hn inv _ i rfl gH nM j h)
   refine⟨qw,?_⟩
   by_cases rN:j=i
   ·subst rN;exact hy.qOp hi H
   ·have h1:=(H.2 j (ready_mono hj rN)).2;obtain⟨AZ,oj,Gt,CY⟩:=mem_ready.1 hj
    have Ba:∀e∈oj.after,Region.binds md e=true->e.on≠i:=λe he hb heq=>by
     have h1:=CY e he hb;rw[heq,getD_both nM] at h1;cases h1
    have h2:=qOp_put Gt (rM j oj Gt rN AZ Ba) (λcs b=>eI i oi cs b hi) (λcs b=>eI j oj cs b Gt) hy h1
    have ur:∀k ok,ops[k]?=some ok->k≠i->(done.setIfInBounds j true).getD k true=false ->
     (∀e∈ok.after,Region.binds md e=true->e.on≠i)->oi.apart ops ok=true:=λk ok hk Se nM qV=>by
     refine rM k ok hk Se ?_ qV
     by_cases HX:j=k
     ·subst HX;exact AZ
     ·rw[getD_set_ne true HX] at nM;exact nM
    refine qOp_mono (λa' h3=>ih (done.setIfInBounds j true) a' (inv.set hj qw) ur (ready_mono hr (Ne.symm rN)) h3.1 ?_) h2;rw[Array.setIfInBounds_comm _ _ rN];exact h3.2
theorem w_{n g:Nat}{Lq:Act->Prop}(eI:Region.noSelect ops=true)(hs:Region.sinkB md ops n=true)(hc:Region.chainB md ops n=true)(hn:n<ops.size) :
 ∀ (l:List Oper) (k:Nat) (done:Array Bool) (a:Act),(∀j,j<l.length->l[j]?=ops[k+j]?)->k+l.length=n->HeadInv md ops n done ->
 Region.lexHead md ops g l.length k done=true->wpQuiet P ops C Lq l a ->
 AQ P md ops C n (λuf a'=>Region.seqB md ops g n uf=true/\Lq a') l.length done a
 | [],k,done,a,_,hk,_,hB,h=>by
   have:k=n:=by simpa using hk
   subst this;exact⟨by simpa[Region.lexHead] using hB,h⟩
 | o::l,k,done,a,hl,hk,inv,hB,h=>by
   have h0:ops[k]?=some o:=by simpa using(hl 0 (by simp)).symm
   simp only[List.length_cons,Region.lexHead,Bool.and_eq_true] at hB;obtain⟨⟨hr,hf⟩,yv⟩:=hB;have hkn:k<n:=by simp only[List.length_cons] at hk;omega
   have ux:k∈Region.ready md ops done:=by simpa using hr
   have cy:qOp P ops C k (wpQuiet P ops C Lq l) a:=by unfold qOp;simp only[h0];exact h
   obtain⟨v,hy,hK⟩:=yieldsIn_of_qOp h0 cy
   exact AR h0 (Region.noSelect_spec eI) hs hc hn hkn (λuf a' hL=>seqB_ready hL.1) l.length done a inv (Region.free_spec h0 hf) ux hy
    (w_ eI hs hc hn l (k+1) _ _ (λj hj=>by have:=hl (j+1) (by simp;omega);simpa[Nat.add_assoc,Nat.add_comm 1 j] using this) (by simp only[List.length_cons] at hk;omega) (inv.set ux hkn) yv hK)
end
theorem sM{P:Program}{Q:Exit->Act->aj->Prop}{a:Act}{w:aj}{l:List Oper}(n:Nat)(hB:Region.lexTailB .any l.toArray n=true)
 (h:wpQuiet P l.toArray (λw'=>∃x:bS w,w'=x.w) (λa'=>∀w',(∃x:bS w,w'=x.w)->wpList P l.toArray Q (l.drop n) a' w') (l.take n) a) :
 wpAny P .any l.toArray Q l.toArray.size (Array.replicate l.toArray.size false) a { w with drawn:=w.drawn+1 }:=by
 simp only[Region.lexTailB,Bool.and_eq_true,decide_eq_true_eq] at hB;obtain⟨⟨⟨⟨eI,hn⟩,hs⟩,hc⟩,Sl⟩:=hB;have H6:n<l.length:=by simpa using hn
 have lq:(l.take n).length=n:=by simp;omega
 have P_:(l.drop n).length=l.toArray.size-n:=by simp
 have qW:HeadInv .any l.toArray n (Array.replicate l.toArray.size false):=
  ⟨by simp,λj oj _ hl=>(by rw[getD_replicate_false] at hl;cases hl),λt _ ht=>getD_in (by simpa using ht) (getD_replicate_false _ _)⟩
 have H:=w_ (md:=.any) (g:=l.toArray.size-n) eI hs hc hn (l.take n) 0 _ a (λj hj=>by
  have De:j<n:=by rw[lq] at hj;exact hj
  simp[De]) (by simpa using lq) qW (by rw[lq];exact Sl) h
 have:=pP (Q:=Q) (g:=l.toArray.size-n) (λdone a' w' hw' hL=>by
  have:=wpAny_of_seq (Q':=Q) (l.drop n) n done a' w' (λj=>by simp) (by rw[P_];exact hL.1) (hL.2 w' hw')
  rwa [P_] at this) (l.take n).length _ a { w with drawn:=w.drawn+1 } ⟨⟨w.drew,(Fr.refl _ w).drew⟩,rfl⟩ H
 rw[lq] at this;simpa[Nat.add_sub_cancel' (Nat.le_of_lt H6)] using this
theorem fM{P:Program}{id:Nat}{Q:Exit->Act->aj->Prop}{a:Act}{w:aj}{l:List Oper}(n:Nat)(hm:P.follows .mixedOrders=true)(hB:Region.lexTailB .any l.toArray n=true)
 (h:wpQuiet P l.toArray (λw'=>∃x:bS w,w'=x.w) (λa'=>∀w',(∃x:bS w,w'=x.w)->wpList P l.toArray Q (l.drop n) a' w') (l.take n) a):(Code.region id l.toArray true).wp P Q a w:=
 wp_region_any hm (sM n hB h)
end
section
section
variable {P:Program}{ops:Array Oper}{md:Region.Mode}{Q:Exit->Act->aj->Prop}{r n:Nat}
theorem zq{o:Oper}{a:Act}{w:aj}{K:Act->aj->Prop}(hnd:∀c,o.op≠.defer c)(h:o.wp P a w K Q):o.wpIn (Fence.wide.inRound r) n P a w K Q:=by
 unfold Oper.wpIn;refine⟨λ_ _=>trivial,?_⟩;show Oper.uponIn _ _ _ _ _ _ _ ((o.semAt (some r) a.eval).run P w);rw[Oper.semAt_some r _ _ hnd];unfold Oper.wp at h;generalize (execOp a.eval o).run P w=x at *
 cases x with
 | ok x w'=>
   cases x <;> simp only[Oper.upon,Oper.uponIn] at h ⊢
   all_goals first
    | exact h
    | exact⟨λh=>Bool.noConfusion h,callsIn_wide.2 h⟩
    | exact⟨λh=>Bool.noConfusion h,λc cs _=>let ⟨v,w',r,s⟩:=h c cs;⟨v,w',r,stepsIn_wide.2 s⟩⟩
 | halt x w'=>cases x <;> exact h
def zh(ops:Array Oper):Bool:=ops.all λo=>match o.op with | .defer _=>false|_=>true
theorem DD{i:Nat}{o:Oper}(h:zh ops=true)(hi:ops[i]?=some o):∀c,o.op≠.defer c:=by
 intro c hc;have hm:=Array.mem_of_getElem? hi;have:=(Array.all_eq_true_iff_forall_mem.1 h) o hm;rw[hc] at this;exact Bool.noConfusion this
theorem mI(hnd:zh ops=true)(hQ:¬LetsOut Q):∀ (fuel:Nat) (listed:Array Bool) (a:Act) (w:aj),wpAny P md ops Q fuel listed a w->wpAnyIn (Fence.wide.inRound r) n P md ops Q fuel listed a w
 | 0,_,_,_,h=>h
 | fuel+1,listed,a,w,h=>⟨h.1,λi hi=>by
  have h2:=wpOp_mono (λa' w' h'=>mI hnd hQ fuel _ a' w' h') (h.2 i hi);unfold wpOp at h2;unfold wpOpIn
  cases ho:ops[i]? with
  | none=>simpa[ho] using h2
  | some o=>
    simp only[ho] at h2 ⊢
    by_cases hw:Region.wanted o (yielded ops a.tmps)=true
    ·simp only[hw,if_true] at h2 ⊢;rcases h2 with h2|⟨_,h2⟩
     ·exact zq (DD hnd ho) h2
     ·exact(hQ h2).elim
    ·simp only[hw,if_false,Bool.false_eq_true] at h2 ⊢
     exact⟨λ_ _=>trivial,h2⟩⟩
end
end
section
section
variable {P:Program}{ops:Array Oper}{Q:Exit->Act->aj->Prop}{md:Region.Mode}{S:aj->Prop}
def dX(P:Program)(md:Region.Mode)(ops:Array Oper)(Q:Exit->Act->aj->Prop)(S:aj->Prop)(n:Nat)(L:Array Bool->Act->aj->Prop):Nat->Array Bool->Act->aj->Prop
 | 0,done,a,w=>L done a w
 | f+1,done,a,w=>Region.ready md ops done≠[]/\∀i∈Region.ready md ops done,i<n/\wpOp P ops Q i (λa' w'=>S w'/\dX P md ops Q S n L f (done.setIfInBounds i true) a' w') a w
theorem cU{n g:Nat}{L:Array Bool->Act->aj->Prop}(hL:∀done a w,L done a w->wpAny P md ops Q g done a w) :
 ∀ (f:Nat) (done:Array Bool) (a:Act) (w:aj),dX P md ops Q S n L f done a w->wpAny P md ops Q (f+g) done a w
 | 0,done,a,w,h=>by rw[Nat.zero_add];exact hL _ _ _ h
 | f+1,done,a,w,h=>by
   rw[show f+1+g=(f+g)+1 by omega];exact⟨λh0=>absurd h0 h.1,λi hi=>wpOp_mono (λa' w' h'=>cU hL f _ a' w' h'.2) (h.2 i hi).2⟩
theorem C2{n i:Nat}{oi:Oper}{v:aC}{L:Array Bool->Act->aj->Prop}(hi:ops[i]?=some oi)(eI:∀ (j:Nat) (o:Oper) cs b,ops[j]?=some o->o.op≠.select cs b)
 (hs:Region.sinkB md ops n=true) (hc:Region.chainB md ops n=true) (hn:n<ops.size) (gH:i<n) (hQ:∀c a w,Q (.panic c) (a.put oi.dst v) w->Q (.panic c) a w)
 (mj:∀done a w,L done a w->∀j∈Region.ready md ops done,n<=j) :
 ∀ (f:Nat) (done:Array Bool) (a:Act) (w:aj),HeadInv md ops n done ->
   (∀j oj,ops[j]?=some oj->j≠i->done.getD j true=false->(∀e∈oj.after,Region.binds md e=true->e.on≠i)->oi.apart ops oj=true) ->
   i∈Region.ready md ops done->YieldsIf P ops S oi v a->S w ->
   dX P md ops Q S n L f (done.setIfInBounds i true) (a.put oi.dst v) w->dX P md ops Q S n L (f+1) done a w:=by
 intro f
 induction f with
 | zero=>
   intro done a w inv _ hr hy hS H;have nM:=(mem_ready.1 hr).1;refine⟨λh=>(by rw[h] at hr;cases hr),λj hj=>?_⟩
   have qw:j<n:=by
    rcases Nat.lt_or_ge j n with h|h
    ·exact h
    ·exact absurd hj (tail_waits hs hc hn inv _ i rfl gH nM j h)
   refine⟨qw,?_⟩
   by_cases rN:j=i
   ·subst rN;exact hy.wpOp hi hS ⟨hS,H⟩
   ·have:=mj _ _ _ H j (ready_mono hj rN);omega
 | succ f ih=>
   intro done a w inv rM hr hy hS H;have nM:=(mem_ready.1 hr).1;refine⟨λh=>(by rw[h] at hr;cases hr),λj hj=>?_⟩
   have qw:j<n:=by
    rcases Nat.lt_or_ge j n with h|h
    ·exact h
    ·exact absurd hj (tail_waits hs hc hn inv _ i rfl gH nM j h)
   refine⟨qw,?_⟩
   by_cases rN:j=i
   ·subst rN;exact hy.wpOp hi hS ⟨hS,H⟩
   ·have h1:=(H.2 j (ready_mono hj rN)).2;obtain⟨AZ,oj,Gt,CY⟩:=mem_ready.1 hj
    have Ba:∀e∈oj.after,Region.binds md e=true->e.on≠i:=λe he hb heq=>by
     have h1:=CY e he hb;rw[heq,getD_both nM] at h1;cases h1
    have h2:=wpOp_putIf Gt (rM j oj Gt rN AZ Ba) (λcs b=>eI i oi cs b hi) (λcs b=>eI j oj cs b Gt) hQ hy h1
    have ur:∀k ok,ops[k]?=some ok->k≠i->(done.setIfInBounds j true).getD k true=false ->
     (∀e∈ok.after,Region.binds md e=true->e.on≠i)->oi.apart ops ok=true:=λk ok hk Se nM qV=>by
     refine rM k ok hk Se ?_ qV
     by_cases HX:j=k
     ·subst HX;exact AZ
     ·rw[getD_set_ne true HX] at nM;exact nM
    refine wpOp_mono (λa' w' h3=>⟨h3.2.1,ih (done.setIfInBounds j true) a' w' (inv.set hj qw) ur (ready_mono hr (Ne.symm rN)) h3.1 h3.2.1 ?_⟩) h2;rw[Array.setIfInBounds_comm _ _ rN];exact h3.2.2
def bW(P:Program)(ops:Array Oper)(Q:Exit->Act->aj->Prop)(S:aj->Prop):Nat->List Oper->Act->aj->Prop
 | 0,l,a,w=>wpList P ops Q l a w
 | _+1,[],_,_=>False
 | c+1,o::l,a,w=>if Region.wanted o (yielded ops a.tmps) then o.wp P a w (λa' w'=>S w'/\bW P ops Q S c l a' w') Q\/(o.asks P a w/\LetsOut Q) else S w/\bW P ops Q S c l (a.put o.dst undef) w
theorem bH{c:Nat}{o:Oper}{l:List Oper}{a:Act}{w:aj}(hw:Region.wanted o (yielded ops a.tmps)=true)(h:o.wp P a w (λa' w'=>S w'/\bW P ops Q S c l a' w') Q):bW P ops Q S (c+1) (o::l) a w:=by
 rw[bW,if_pos hw];exact .inl h
def bG(P:Program)(ops:Array Oper)(Q:Exit->Act->aj->Prop)(S:aj->Prop)(c:Nat):Nat->List Oper->Act->aj->Prop
 | 0,l,a,w=>bW P ops Q S c l a w
 | _+1,[],_,_=>False
 | m+1,o::l,a,w=>∃v,YieldsIf P ops S o v a/\(∀c a w,Q (.panic c) (a.put o.dst v) w->Q (.panic c) a w)/\bG P ops Q S c m l (a.put o.dst v) w
theorem ae{c m:Nat}{o:Oper}{l:List Oper}{a:Act}{w:aj}(v:aC)(hw:Region.wanted o (yielded ops a.tmps)=true)(hy:∀w,S w->(execOp a.eval o).run P w=.ok (.value v) w)(hQ:∀c a w,Q (.panic c) (a.put o.dst v) w->Q (.panic c) a w)
 (h:bG P ops Q S c m l (a.put o.dst v) w):bG P ops Q S c (m+1) (o::l) a w:=⟨v,.inl ⟨hw,hy⟩,hQ,h⟩
def EJ(md:Region.Mode)(ops:Array Oper)(m n:Nat):Bool:=
 Region.noSelect ops && decide (m<=n) && decide (n<ops.size) && Region.sinkB md ops n && Region.chainB md ops n && Region.lexHead md ops (ops.size-m) m 0 (Array.replicate ops.size false)
def AU(P:Program)(md:Region.Mode)(ops:Array Oper)(Q:Exit->Act->aj->Prop)(l:List Oper)(n:Nat)(done:Array Bool)(a:Act)(w:aj):Prop:=
 Region.seqB md ops (ops.size-n) n done=true/\wpList P ops Q (l.drop n) a w
theorem AW{l:List Oper}(hl:l.toArray=ops){n:Nat}(hn:n<ops.size):∀ (c k:Nat) (done:Array Bool) (a:Act) (w:aj),k+c=n->Region.seqB md ops (ops.size-k) k done=true ->
 bW P ops Q S c (l.drop k) a w->dX P md ops Q S n (AU P md ops Q l n) c done a w
 | 0,k,done,a,w,hk,hB,h=>by
   obtain rfl:k=n:=by omega
   exact⟨hB,h⟩
 | c+1,k,done,a,w,hk,hB,h=>by
   have Qe:k<l.length:=by rw[<-hl] at hn;simp at hn;omega
   have h0:ops[k]?=some l[k]:=by rw[<-hl];simp[Qe]
   rw[List.drop_eq_getElem_cons Qe] at h;simp only[bW] at h;rw[show ops.size-k=(ops.size-(k+1))+1 by omega] at hB;simp only[Region.seqB,Bool.and_eq_true,decide_eq_true_eq] at hB;refine⟨λh1=>(by rw[hB.1] at h1;cases h1),λi hi=>?_⟩;rw[hB.1] at hi;have Mi:i=k:=by simpa using hi
   subst Mi;refine⟨by omega,?_⟩;have ih:=λa' w'=>AW hl hn c (i+1) (done.setIfInBounds i true) a' w' (by omega) hB.2;unfold wpOp;simp only[h0];split
   ·rename_i hw;simp only[hw,if_true] at h;exact h.imp (Oper.wp_mono λa' w' h'=>⟨h'.1,ih a' w' h'.2⟩) id
   ·rename_i hw;simp only[hw,if_false,Bool.false_eq_true] at h;exact⟨h.1,ih _ _ h.2⟩
theorem AV{l:List Oper}(hl:l.toArray=ops){n:Nat}(eI:Region.noSelect ops=true)(hs:Region.sinkB md ops n=true)(hc:Region.chainB md ops n=true)(hn:n<ops.size) :
 ∀ (m k:Nat) (done:Array Bool) (a:Act) (w:aj),k+m<=n->HeadInv md ops n done->Region.lexHead md ops (ops.size-(k+m)) m k done=true->S w ->
 bG P ops Q S (n-(k+m)) m (l.drop k) a w->dX P md ops Q S n (AU P md ops Q l n) (n-k) done a w
 | 0,k,done,a,w,hk,_,hB,_,h=>AW hl hn (n-k) k done a w (by omega) (by simpa[Region.lexHead] using hB) (by simpa[bG] using h)
 | m+1,k,done,a,w,hk,inv,hB,hS,h=>by
   have Qe:k<l.length:=by rw[<-hl] at hn;simp at hn;omega
   have h0:ops[k]?=some l[k]:=by rw[<-hl];simp[Qe]
   rw[List.drop_eq_getElem_cons Qe] at h;simp only[bG] at h;obtain⟨v,hy,hQ,h⟩:=h;simp only[Region.lexHead,Bool.and_eq_true] at hB;obtain⟨⟨hr,hf⟩,yv⟩:=hB;have ux:k∈Region.ready md ops done:=by simpa using hr
   rw[show n-k=(n-(k+1))+1 by omega];refine C2 h0 (Region.noSelect_spec eI) hs hc hn (by omega) hQ (λuf a' w' hL=>seqB_ready hL.1) _ done a w inv (Region.free_spec h0 hf) ux hy hS ?_;exact AV hl eI hs hc hn m (k+1) _ _ w (by omega) (inv.set ux (by omega)) (by rw[show k+1+m=k+(m+1) by omega];exact yv) hS (by rw[show k+1+m=k+(m+1) by omega];exact h)
theorem u_{a:Act}{w:aj}{l:List Oper}(m n:Nat)(S:aj->Prop)(hB:EJ .any l.toArray m n=true)(hS:S { w with drawn:=w.drawn+1 })
 (h:bG P l.toArray Q S (n-m) m l a { w with drawn:=w.drawn+1 }) :
 wpAny P .any l.toArray Q l.toArray.size (Array.replicate l.toArray.size false) a { w with drawn:=w.drawn+1 }:=by
 simp only[EJ,Bool.and_eq_true,decide_eq_true_eq] at hB;obtain⟨⟨⟨⟨⟨eI,hmn⟩,hn⟩,hs⟩,hc⟩,Sl⟩:=hB
 have qW:HeadInv .any l.toArray n (Array.replicate l.toArray.size false):=
  ⟨by simp,λj oj _ hl=>(by rw[getD_replicate_false] at hl;cases hl),λt _ ht=>getD_in (by simpa using ht) (getD_replicate_false _ _)⟩
 have H:=AV (P:=P) (Q:=Q) (S:=S) (l:=l) rfl eI hs hc hn m 0 _ a { w with drawn:=w.drawn+1 } (by omega) qW (by simpa using Sl) hS (by simpa using h);have P_:(l.drop n).length=l.toArray.size-n:=by simp
 have:=cU (Q:=Q) (g:=l.toArray.size-n) (λdone a' w' hL=>by
  have:=wpAny_of_seq (Q':=Q) (l.drop n) n done a' w' (λj=>by simp) (by rw[P_];exact hL.1) hL.2
  rwa [P_] at this) _ _ _ _ H
 rw[Nat.sub_zero,Nat.add_sub_cancel' (Nat.le_of_lt hn)] at this;exact this
end
theorem ia{P:Program}{r f id:Nat}{Q:Exit->Act->aj->Prop}{a:Act}{w:aj}{l:List Oper}(m n:Nat)(S:aj->Prop)(hnd:zh l.toArray=true)(hQ:¬LetsOut Q)(hm:P.follows .mixedOrders=true)(hB:EJ .any l.toArray m n=true)(hS:S w.drew)
 (h:bG P l.toArray Q S (n-m) m l a w.drew):(Code.region id l.toArray true).wpIn (Fence.wide.inRound r) f P Q a w:=
 wpIn_region_any hm (mI hnd hQ _ _ _ _ (u_ m n S hB hS h))
theorem a_{P:Program}{id:Nat}{Q:Exit->Act->aj->Prop}{a:Act}{w:aj}{l:List Oper}(m n:Nat)(S:aj->Prop)(hm:P.follows .mixedOrders=true)(hB:EJ .any l.toArray m n=true)(hS:S w.drew)
 (h:bG P l.toArray Q S (n-m) m l a w.drew):(Code.region id l.toArray true).wp P Q a w:=
 wp_region_any hm (u_ m n S hB hS h)
end
@[reducible] def vI(n:Int):aC:=.int .i64 n
theorem ag.lF{w:aj}{B:Nat}{a0 a1:aC}{r:List aC}(h:ag w B (a0::a1::r)):w.cell? ⟨B,0,none⟩=some a0/\w.cell? ⟨B,1,none⟩=some a1:=⟨(h 0 _ rfl).1,(h 1 _ rfl).1⟩
theorem ag.sP{w:aj}{B:Nat}{a0 a1 a2:aC}{r:List aC}(h:ag w B (a0::a1::a2::r)):w.cell? ⟨B,0,none⟩=some a0/\w.cell? ⟨B,1,none⟩=some a1/\w.cell? ⟨B,2,none⟩=some a2:=⟨(h 0 _ rfl).1,(h 1 _ rfl).1,(h 2 _ rfl).1⟩
theorem ag.sQ{w:aj}{B:Nat}{a0 a1 a2 a3:aC}{r:List aC}(h:ag w B (a0::a1::a2::a3::r)):w.cell? ⟨B,0,none⟩=some a0/\w.cell? ⟨B,1,none⟩=some a1/\w.cell? ⟨B,2,none⟩=some a2/\w.cell? ⟨B,3,none⟩=some a3:=⟨(h 0 _ rfl).1,(h 1 _ rfl).1,(h 2 _ rfl).1,(h 3 _ rfl).1⟩
theorem ag.Eu{w:aj}{B:Nat}{a0 a1 a2 a3 a4:aC}{r:List aC}(h:ag w B (a0::a1::a2::a3::a4::r)):w.cell? ⟨B,0,none⟩=some a0/\w.cell? ⟨B,1,none⟩=some a1/\w.cell? ⟨B,2,none⟩=some a2/\w.cell? ⟨B,3,none⟩=some a3/\w.cell? ⟨B,4,none⟩=some a4:=⟨(h 0 _ rfl).1,(h 1 _ rfl).1,(h 2 _ rfl).1,(h 3 _ rfl).1,(h 4 _ rfl).1⟩
theorem ag.t_{w:aj}{B:Nat}{a0 a1 a2 a3 a4 a5:aC}{r:List aC}(h:ag w B (a0::a1::a2::a3::a4::a5::r)):w.cell? ⟨B,0,none⟩=some a0/\w.cell? ⟨B,1,none⟩=some a1/\w.cell? ⟨B,2,none⟩=some a2/\w.cell? ⟨B,3,none⟩=some a3/\w.cell? ⟨B,4,none⟩=some a4/\w.cell? ⟨B,5,none⟩=some a5:=⟨(h 0 _ rfl).1,(h 1 _ rfl).1,(h 2 _ rfl).1,(h 3 _ rfl).1,(h 4 _ rfl).1,(h 5 _ rfl).1⟩
theorem ag.VG{w:aj}{B:Nat}{a0 a1 a2 a3 a4 a5 a6 a7 a8 a9 PR PU PV PX:aC}{r:List aC}(h:ag w B (a0::a1::a2::a3::a4::a5::a6::a7::a8::a9::PR::PU::PV::PX::r)):w.cell? ⟨B,0,none⟩=some a0/\w.cell? ⟨B,1,none⟩=some a1/\w.cell? ⟨B,2,none⟩=some a2/\w.cell? ⟨B,3,none⟩=some a3/\w.cell? ⟨B,4,none⟩=some a4/\w.cell? ⟨B,5,none⟩=some a5/\w.cell? ⟨B,6,none⟩=some a6/\w.cell? ⟨B,7,none⟩=some a7/\w.cell? ⟨B,8,none⟩=some a8/\w.cell? ⟨B,9,none⟩=some a9/\w.cell? ⟨B,10,none⟩=some PR/\w.cell? ⟨B,11,none⟩=some PU/\w.cell? ⟨B,12,none⟩=some PV/\w.cell? ⟨B,13,none⟩=some PX:=⟨(h 0 _ rfl).1,(h 1 _ rfl).1,(h 2 _ rfl).1,(h 3 _ rfl).1,(h 4 _ rfl).1,(h 5 _ rfl).1,(h 6 _ rfl).1,(h 7 _ rfl).1,(h 8 _ rfl).1,(h 9 _ rfl).1,(h 10 _ rfl).1,(h 11 _ rfl).1,(h 12 _ rfl).1,(h 13 _ rfl).1⟩
theorem ag.nY{w:aj}{B:Nat}{a0 a1 a2 a3 a4 a5 a6 a7 a8 a9 PR PU PV PX Vr:aC}{r:List aC}(h:ag w B (a0::a1::a2::a3::a4::a5::a6::a7::a8::a9::PR::PU::PV::PX::Vr::r)):w.cell? ⟨B,0,none⟩=some a0/\w.cell? ⟨B,1,none⟩=some a1/\w.cell? ⟨B,2,none⟩=some a2/\w.cell? ⟨B,3,none⟩=some a3/\w.cell? ⟨B,4,none⟩=some a4/\w.cell? ⟨B,5,none⟩=some a5/\w.cell? ⟨B,6,none⟩=some a6/\w.cell? ⟨B,7,none⟩=some a7/\w.cell? ⟨B,8,none⟩=some a8/\w.cell? ⟨B,9,none⟩=some a9/\w.cell? ⟨B,10,none⟩=some PR/\w.cell? ⟨B,11,none⟩=some PU/\w.cell? ⟨B,12,none⟩=some PV/\w.cell? ⟨B,13,none⟩=some PX/\w.cell? ⟨B,14,none⟩=some Vr:=⟨(h 0 _ rfl).1,(h 1 _ rfl).1,(h 2 _ rfl).1,(h 3 _ rfl).1,(h 4 _ rfl).1,(h 5 _ rfl).1,(h 6 _ rfl).1,(h 7 _ rfl).1,(h 8 _ rfl).1,(h 9 _ rfl).1,(h 10 _ rfl).1,(h 11 _ rfl).1,(h 12 _ rfl).1,(h 13 _ rfl).1,(h 14 _ rfl).1⟩
theorem ag.sR{w:aj}{B:Nat}{a0 a1 a2:aC}{r:List aC}(h:ag w B (a0::a1::a2::r)):w.cell? ⟨B,0,none⟩=some a0/\w.frozen? ⟨B,0,none⟩=false/\w.cell? ⟨B,1,none⟩=some a1/\w.frozen? ⟨B,1,none⟩=false/\w.cell? ⟨B,2,none⟩=some a2/\w.frozen? ⟨B,2,none⟩=false:=⟨(h 0 _ rfl).1,(h 0 _ rfl).2,(h 1 _ rfl).1,(h 1 _ rfl).2,(h 2 _ rfl).1,(h 2 _ rfl).2⟩
theorem ag.Ui{w:aj}{B:Nat}{a0 a1 a2 a3:aC}{r:List aC}(h:ag w B (a0::a1::a2::a3::r)):w.cell? ⟨B,0,none⟩=some a0/\w.frozen? ⟨B,0,none⟩=false/\w.cell? ⟨B,1,none⟩=some a1/\w.frozen? ⟨B,1,none⟩=false/\w.cell? ⟨B,2,none⟩=some a2/\w.frozen? ⟨B,2,none⟩=false/\w.cell? ⟨B,3,none⟩=some a3/\w.frozen? ⟨B,3,none⟩=false:=⟨(h 0 _ rfl).1,(h 0 _ rfl).2,(h 1 _ rfl).1,(h 1 _ rfl).2,(h 2 _ rfl).1,(h 2 _ rfl).2,(h 3 _ rfl).1,(h 3 _ rfl).2⟩
theorem ag.jU{w:aj}{B:Nat}{a0 a1 a2 a3 a4 a5 a6 a7 a8 a9 PR PU PV PX Vr:aC}{r:List aC}(h:ag w B (a0::a1::a2::a3::a4::a5::a6::a7::a8::a9::PR::PU::PV::PX::Vr::r)):w.cell? ⟨B,0,none⟩=some a0/\w.frozen? ⟨B,0,none⟩=false/\w.cell? ⟨B,1,none⟩=some a1/\w.frozen? ⟨B,1,none⟩=false/\w.cell? ⟨B,2,none⟩=some a2/\w.frozen? ⟨B,2,none⟩=false/\w.cell? ⟨B,3,none⟩=some a3/\w.frozen? ⟨B,3,none⟩=false/\w.cell? ⟨B,4,none⟩=some a4/\w.frozen? ⟨B,4,none⟩=false/\w.cell? ⟨B,5,none⟩=some a5/\w.frozen? ⟨B,5,none⟩=false/\w.cell? ⟨B,6,none⟩=some a6/\w.frozen? ⟨B,6,none⟩=false/\w.cell? ⟨B,7,none⟩=some a7/\w.frozen? ⟨B,7,none⟩=false/\w.cell? ⟨B,8,none⟩=some a8/\w.frozen? ⟨B,8,none⟩=false/\w.cell? ⟨B,9,none⟩=some a9/\w.frozen? ⟨B,9,none⟩=false/\w.cell? ⟨B,10,none⟩=some PR/\w.frozen? ⟨B,10,none⟩=false/\w.cell? ⟨B,11,none⟩=some PU/\w.frozen? ⟨B,11,none⟩=false/\w.cell? ⟨B,12,none⟩=some PV/\w.frozen? ⟨B,12,none⟩=false/\w.cell? ⟨B,13,none⟩=some PX/\w.frozen? ⟨B,13,none⟩=false/\w.cell? ⟨B,14,none⟩=some Vr/\w.frozen? ⟨B,14,none⟩=false:=⟨(h 0 _ rfl).1,(h 0 _ rfl).2,(h 1 _ rfl).1,(h 1 _ rfl).2,(h 2 _ rfl).1,(h 2 _ rfl).2,(h 3 _ rfl).1,(h 3 _ rfl).2,(h 4 _ rfl).1,(h 4 _ rfl).2,(h 5 _ rfl).1,(h 5 _ rfl).2,(h 6 _ rfl).1,(h 6 _ rfl).2,(h 7 _ rfl).1,(h 7 _ rfl).2,(h 8 _ rfl).1,(h 8 _ rfl).2,(h 9 _ rfl).1,(h 9 _ rfl).2,(h 10 _ rfl).1,(h 10 _ rfl).2,(h 11 _ rfl).1,(h 11 _ rfl).2,(h 12 _ rfl).1,(h 12 _ rfl).2,(h 13 _ rfl).1,(h 13 _ rfl).2,(h 14 _ rfl).1,(h 14 _ rfl).2⟩
theorem GH{w:aj}{B:Nat}{vs:List aC}(o:ag w B vs)(i:Nat){v:aC}(h:vs[i]?=some v):∀x:bS w,x.w.cell? ⟨B,i,none⟩=some v:=λx=>x.cell (o i v h).1
theorem l_(w:aj)(B k:Nat)(v:aC):Fr (λj=>j=B) w (w.setCell ⟨B,k,none⟩ v):=(Fr.refl (λj=>j=B) w).setCell (p:=⟨B,k,none⟩) (.inl rfl) v
theorem Fr.QL{S:Nat->Prop}{b:Nat}(hb:S b):∀ (vs:List aC) (o:Nat) {a w:aj},Fr S a w->Fr S a (w.setCells b o vs)
 | [],_,_,_,h=>h
 | v::r,o,a,w,h=>Fr.QL hb r (o+1) (h.setCell (p:=⟨b,o,none⟩) (.inl hb) v)
theorem rG(w:aj)(B k:Nat)(vs:List aC):Fr (λj=>j=B) w (w.setCells B k vs):=Fr.QL (S:=λj=>j=B) rfl _ _ (Fr.refl _ _)
theorem gL(w:aj)(vs:List aC)(t:TypeId):Calm w (w.alloc (.cells vs.toArray t))/\ag (w.alloc (.cells vs.toArray t)) w.heap.size vs:=⟨(Fr.refl _ _).alloc _,ag.new w vs t⟩
theorem dy(w:aj)(vs:List aC)(t:TypeId):∃W,w.alloc (.cells vs.toArray t)=W/\Calm w W/\ag W w.heap.size vs/\W.heap.size=w.heap.size+1:=⟨_,rfl,(Fr.refl _ _).alloc _,ag.new w vs t,by simp⟩
theorem rU(w:aj)(v1:List aC)(t1:TypeId)(v2:List aC)(t2:TypeId):∃W,((w.alloc (.cells v1.toArray t1)).alloc (.cells v2.toArray t2))=W/\Calm w W/\ag W (w.heap.size) v1/\ag W (w.heap.size+1) v2:=by
 obtain⟨W1,e1,k1,o1,s1⟩:=dy w v1 t1;obtain⟨W2,e2,k2,o2,s2⟩:=dy W1 v2 t2;rw[s1] at o2 s2;have c2:=k2;have c1:=k1.trans c2;exact⟨W2,by rw[e1,e2],c1,o1.calm c2,o2⟩
theorem abo(w:aj)(v1:List aC)(t1:TypeId)(v2:List aC)(t2:TypeId)(v3:List aC)(t3:TypeId):∃W,(((w.alloc (.cells v1.toArray t1)).alloc (.cells v2.toArray t2)).alloc (.cells v3.toArray t3))=W/\Calm w W/\ag W (w.heap.size) v1/\ag W (w.heap.size+1) v2/\ag W (w.heap.size+1+1) v3:=by
 obtain⟨W1,e1,k1,o1,s1⟩:=dy w v1 t1;obtain⟨W2,e2,k2,o2,s2⟩:=dy W1 v2 t2;rw[s1] at o2 s2;obtain⟨W3,e3,k3,o3,s3⟩:=dy W2 v3 t3;rw[s2] at o3 s3;have c3:=k3;have c2:=k2.trans c3;have c1:=k1.trans c2;exact⟨W3,by rw[e1,e2,e3],c1,o1.calm c2,o2.calm c3,o3⟩
theorem Fh(w:aj)(v1:List aC)(t1:TypeId)(v2:List aC)(t2:TypeId)(v3:List aC)(t3:TypeId)(v4:List aC)(t4:TypeId):∃W,((((w.alloc (.cells v1.toArray t1)).alloc (.cells v2.toArray t2)).alloc (.cells v3.toArray t3)).alloc (.cells v4.toArray t4))=W/\Calm w W/\ag W (w.heap.size) v1/\ag W (w.heap.size+1) v2/\ag W (w.heap.size+1+1) v3/\ag W (w.heap.size+1+1+1) v4:=by
 obtain⟨W1,e1,k1,o1,s1⟩:=dy w v1 t1;obtain⟨W2,e2,k2,o2,s2⟩:=dy W1 v2 t2;rw[s1] at o2 s2;obtain⟨W3,e3,k3,o3,s3⟩:=dy W2 v3 t3;rw[s2] at o3 s3;obtain⟨W4,e4,k4,o4,s4⟩:=dy W3 v4 t4;rw[s3] at o4 s4;have c4:=k4;have c3:=k3.trans c4;have c2:=k2.trans c3;have c1:=k1.trans c2;exact⟨W4,by rw[e1,e2,e3,e4],c1,o1.calm c2,o2.calm c3,o3.calm c4,o4⟩
theorem dm:∀ (fn:Fn) (first cap:Array aC) (w:aj),(Instr.makeFunc fn first cap).run prog w=.ok (.func fn first cap) w:=λ_ _ _ _=>rfl
theorem aq{b:Nat → Prop}{w:World}:Fr b w w:=Fr.refl _ _
theorem ai{A:Sort _}{B:A → Sort _}{C:∀ a,B a → Sort _}{D:∀ a b,C a b → Prop}(a:A)(b:B a)(c:C a b)(h:D a b c):D a b c:=h
theorem au{A:Sort _}(a:A):∃ x,a=x:=⟨a,rfl⟩
theorem aS{A:Type _}{l:List A}{i:Nat}{a:A}:l.getD i a=l[i]?.getD a:=List.getD_eq_getElem?_getD
theorem cX{A:Type _}{l m:List A}:(l++m).length=l.length+m.length:=List.length_append
theorem bE{A:Type _}{l:List A}{i:Nat}{a:A}:(l.set i a).length=l.length:=List.length_set
theorem mD{A:Type _}{a:A}{s t:List A}:a ∈ s++t ↔ a ∈ s ∨ a ∈ t:=List.mem_append
theorem gB{A:Type _}{a:A}:¬ a ∈ ([]:List A):=List.not_mem_nil
theorem qq{A:Type _}{x:A}{l:List A}{a:A}:(x::l).set 0 a=a::l:=rfl
theorem rj{A:Type _}{x:A}{l:List A}{i:Nat}{a:A}:(x::l).set (i+1) a=x::l.set i a:=rfl
theorem jI{A:Type _}{l:List A}{i:Nat}(h:i<l.length):l[i]?=some l[i]:=List.getElem?_eq_getElem h
theorem Cb{A:Type _}{l m:List A}{i:Nat}(h:l.length ≤ i):(l++m)[i]?=m[i-l.length]?:=List.getElem?_append_right h
theorem aM(n:Nat):n ≤ n:=Nat.le_refl n
theorem cK(n:Nat):0 ≤ n:=Nat.zero_le n
theorem fH{a b c:Nat}(h:a ≤ b)(k:b ≤ c):a ≤ c:=Nat.le_trans h k
theorem oZ(n m:Nat):n<m ∨ n ≥ m:=Nat.lt_or_ge n m
theorem wh{A:Type _}{i:Nat}{b:A}{l:Array A}:l[i]?=some b ↔ ∃ h:i<l.size,l[i]=b:=Array.getElem?_eq_some_iff
theorem nu{A:Type _}{a b:A}:a ∈ [b] ↔ a=b:=List.mem_singleton
theorem f_{A:Type _}{b:A}{l:List A}{a:A}:a ∈ b::l ↔ a=b ∨ a ∈ l:=List.mem_cons
theorem fj(n:Nat):n+0=n:=rfl
theorem fk(n:Nat):0+n=n:=Nat.zero_add n
theorem wj(a b:Bool):((a && b)=true)=(a=true ∧ b=true):=Bool.and_eq_true a b
theorem lM(w:World)(a:Addr){u:Value}(h:w.cell? a=some u):a.block<w.heap.size:=w.block_lt_of_cell? a h
abbrev aR(a:Nat):Value:=.pointer (some ⟨a,0,none⟩)
abbrev aE:=List Nat
def mk(s d:Nat):Nat:=(2^d-1)*2^s
def gt(W s d:Nat):Nat:=W / 2^s % 2^d
theorem DS{a b:Nat}(h:a<=b):2^a<=2^b:=Nat.pow_le_pow_right (by omega) h
theorem LU:(2:Nat)^64=18446744073709551616:=by decide
theorem Qx{s d:Nat}(h:s+d<=64):mk s d<18446744073709551616:=by
 have h1:=DS h;rw[Nat.pow_add,LU] at h1;have h2:0<2^s:=Nat.two_pow_pos s;have h3:0<2^d:=Nat.two_pow_pos d;unfold mk;have h4:(2^d-1)*2^s+2^s=2^s*2^d:=by rw[Nat.sub_mul,Nat.one_mul,Nat.mul_comm];exact Nat.sub_add_cancel (Nat.le_mul_of_pos_right _ h3)
 omega
theorem KC{d:Nat}(h1:1<=d)(h:d<=64):18446744073709551615 / 2^(64-d)=2^d-1:=by
 have e:(2:Nat)^64=2^(64-d)*2^d:=by rw[<-Nat.pow_add];congr 1;omega
 rw[LU] at e;have h2:0<2^(64-d):=Nat.two_pow_pos _;have h3:0<2^d:=Nat.two_pow_pos d
 have:18446744073709551615=(2^(64-d)-1)+2^(64-d)*(2^d-1):=by
  rw[Nat.mul_sub,Nat.mul_one,<-e];have:2^(64-d)<=18446744073709551616:=by rw[<-LU];exact DS (by omega)
  omega
 rw[this,Nat.add_mul_div_left _ _ h2,Nat.div_eq_of_lt (by omega),Nat.zero_add]
theorem OC{s d:Nat}(h1:1<=d)(h:s+d<=64):IntKind.u64.wrap (18446744073709551615 / 2^(64-d)*2^s)=(mk s d:Nat):=by
 have e:(18446744073709551615:Int) / 2^(64-d)*2^s=((mk s d:Nat):Int):=by
  unfold mk;rw[<-KC h1 (by omega),Int.natCast_mul,Int.natCast_pow,Int.natCast_ediv,Int.natCast_pow];rfl
 rw[e,IntKind.wrap_u64];have:=Qx h;omega
theorem D9(s d i:Nat):(mk s d).testBit i=decide (s<=i/\i<s+d):=by
 unfold mk;rw[<-Nat.shiftLeft_eq,Nat.testBit_shiftLeft,Nat.testBit_two_pow_sub_one];rw[<-Bool.decide_and,decide_eq_decide];exact⟨λh=>⟨h.1,by omega⟩,λh=>⟨h.1,by omega⟩⟩
theorem D8(W s d i:Nat):(gt W s d).testBit i=(decide (i<d) && W.testBit (s+i)):=by
 unfold gt;rw[Nat.testBit_mod_two_pow,<-Nat.shiftRight_eq_div_pow,Nat.testBit_shiftRight]
theorem P3(W s d:Nat):gt W s d<2^d:=Nat.mod_lt _ (Nat.two_pow_pos d)
theorem Q4(W s d:Nat):(W &&& mk s d) / 2^s=gt W s d:=by
 apply Nat.eq_of_testBit_eq;intro i;rw[D8,<-Nat.shiftRight_eq_div_pow,Nat.testBit_shiftRight,Nat.testBit_and,D9]
 by_cases h:i<d <;> simp[h]
theorem get_eq{W s d:Nat}(h:s+d<=64)(hW:W<18446744073709551616):bits .and .u64 (W:Int) (mk s d:Nat) / 2^s=(gt W s d:Nat):=by
 rw[u64_and_nat W (mk s d) hW (Qx h),<-Q4];push_cast;rfl
abbrev KP(s wd:Int):aC:=.agg #[.int .i64 s,.int .i64 wd]
abbrev wV(n:Nat):aC:=.int .u64 (n:Int)
theorem xH(s wd:Int)(w:aj)(h1:0<=s)(h2:1<=wd)(h3:s+wd<=64) :
 aL prog 261 #[KP s wd] w λe w'=>e=.returned (.bool true)/\Calm w w':=by
 have a1:s<64:=by omega
 have a2:wd<=64:=by omega
 go_in;go_wp2;go_ret;exact⟨rfl,Fr.alloc (Fr.refl _ _) _⟩
theorem Ki(s wd:Int)(w:aj)(h1:0<=s)(h2:1<=wd)(h3:s+wd<=64) :
 aL prog 262 #[KP s wd] w λe w'=>e=.returned (wV (mk s.toNat wd.toNat))/\Calm w w':=by
 go_in;go_wp2_with fail
 refine(xH s wd _ h1 h2 h3).mono ?_;rintro e w1 ⟨rfl,c1⟩;have b1:=Fr.cellAt c1 ((Own.new w #[.int .i64 s,.int .i64 wd] 330 0 rfl).1) id;have b2:=Fr.cellAt c1 ((Own.new w #[.int .i64 s,.int .i64 wd] 330 1 rfl).1) id;have a1:0<=64-wd:=by omega
 have a2:64-wd<=64:=by omega
 have a3:s<=64:=by omega
 go_wp2_with fail
 go_quiet (fail)
 go_wp2;go_ret;refine⟨?_,(Fr.trans (Fr.alloc (Fr.refl _ _) _) c1).drewN _⟩;obtain⟨S,rfl⟩:=Int.eq_ofNat_of_zero_le h1;obtain⟨D,rfl⟩:=Int.eq_ofNat_of_zero_le (show 0<=wd by omega);have e:=OC (s:=S) (d:=D) (by omega) (by omega);rw[show(64-(D:Int)).toNat=64-D from by omega,Int.toNat_natCast,Int.toNat_natCast];exact congrArg (λx=>Ending.returned (.int .u64 x)) e
theorem EE(W:Nat)(hW:W<18446744073709551616)(s wd:Int)(w:aj)(h1:0<=s)(h2:1<=wd)(h3:s+wd<=64) :
 aL prog 257 #[wV W,KP s wd] w λe w'=>e=.returned (wV (gt W s.toNat wd.toNat))/\Calm w w':=by
 go_in;go_wp2_with fail
 refine(xH s wd _ h1 h2 h3).mono ?_;rintro e w1 ⟨rfl,c1⟩;have b1:=Fr.cellAt c1 ((Own.new w #[.int .i64 s,.int .i64 wd] 330 0 rfl).1) id;have b2:=Fr.cellAt c1 ((Own.new w #[.int .i64 s,.int .i64 wd] 330 1 rfl).1) id;have a3:s<=64:=by omega
 have hz:=c1.size;go_wp2_with fail
 have q1:∀x:bS w1,x.w.cell? ⟨w.heap.size,0,none⟩=some (.int .i64 s):=λx=>x.cell b1;have q2:∀x:bS w1,x.w.cell? ⟨w.heap.size,1,none⟩=some (.int .i64 wd):=λx=>x.cell b2;refine bP (by kernel_rfl) (by kernel_rfl) ?_
 repeat (go_big_quiet_step ((go_at_call 262;exact Calls.fR (Ki s wd _ h1 h2 h3))))
 refine wpQuiet_nil ?_;intro w2 hw';have c2:=bS.out hw';clear hw';go_wp2;go_ret;refine⟨?_,(Fr.trans (Fr.alloc (Fr.refl _ _) _) c1).trans c2⟩;obtain⟨S,rfl⟩:=Int.eq_ofNat_of_zero_le h1;obtain⟨D,rfl⟩:=Int.eq_ofNat_of_zero_le (show 0<=wd by omega);have e:=get_eq (s:=S) (d:=D) (by omega) hW;rw[Int.toNat_natCast,Int.toNat_natCast];exact congrArg (λx=>Ending.returned (.int .u64 x)) e
def Whole(w:aj)(c:Nat)(vs:List aC):Prop:=∃t,w.heap[c]?=some (.cells vs.toArray t (0,0))
theorem Whole.own{w:aj}{c:Nat}{vs:List aC}(h:Whole w c vs):ag w c vs:=by
 obtain⟨t,hg⟩:=h;intro i v hv;exact⟨by simp[World.cell?,hg,hv],by simp[World.frozen?,hg]⟩
theorem Whole.fr{S:Nat->Prop}{w w':aj}{c:Nat}{vs:List aC}(h:Whole w c vs)(f:Fr S w w')(hs:¬S c):Whole w' c vs:=by
 obtain⟨t,hg⟩:=h;exact⟨t,f.jE hg hs⟩
theorem Whole.set{w:aj}{c:Nat}{vs:List aC}(h:Whole w c vs)(k:Nat)(u:aC):Whole (w.setCell ⟨c,k,none⟩ u) c (vs.set k u):=by
 obtain⟨t,hg⟩:=h;exact⟨t,by rw[heap_setCell_same _ _ _ _ _ _ hg];simp⟩
def Ar(w:aj)(p c:Nat)(xs:aE):Prop:=
 Own w p 0 (.slice (some ⟨c,0,none⟩) xs.length xs.length)/\Whole w c (xs.map wV)/\p≠c/\xs.length<=65536
abbrev gP(p:Nat):aC:=aR p
theorem Ar.fr{S:Nat->Prop}{w w':aj}{p c:Nat}{xs:aE}(h:Ar w p c xs)(f:Fr S w w')(hp:¬S p)(hc:¬S c):Ar w' p c xs:=
 ⟨h.1.fr f hp,h.2.1.fr f hc,h.2.2⟩
theorem Ar.calm{w w':aj}{p c:Nat}{xs:aE}(h:Ar w p c xs)(f:Calm w w'):Ar w' p c xs:=h.fr f id id
theorem Ar.cell{w:aj}{p c:Nat}{xs:aE}(h:Ar w p c xs){k:Nat}(hk:k<xs.length):Own w c k (wV (xs.getD k 0)):=
 h.2.1.own k _ (by simp[List.getD,hk])
theorem Ar.set{w:aj}{p c:Nat}{xs:aE}(h:Ar w p c xs){k:Nat}(hk:k<xs.length)(v:Nat):Ar (w.setCell ⟨c,k,none⟩ (wV v)) p c (xs.set k v):=by
 obtain⟨h1,h2,h3,h4⟩:=h;refine⟨?_,?_,h3,by simpa using h4⟩
 ·rw[bE];exact h1.jC _ _ (λe=>h3 e.symm)
 ·have:=h2.set k (wV v)
  rwa [<-List.map_set] at this
theorem Ar.lt{w:aj}{p c:Nat}{xs:aE}(h:Ar w p c xs):p<w.heap.size:=h.1.lt
theorem uC(w:aj)(p c:Nat)(xs:aE)(h:Ar w p c xs) :
 aL prog 217 #[gP p] w λe w'=>e=.returned (vI xs.length)/\w'=w:=by
 obtain⟨h1,_,_,h4⟩:=h;have b1:=h1.1;go_in;go_wp2;go_ret;exact⟨rfl,rfl⟩
theorem j8(w:aj)(p c:Nat)(xs:aE)(h:Ar w p c xs)(k:Nat)(hk:k<xs.length) :
 aL prog 167 #[gP p,vI k] w λe w'=>e=.returned (.tuple #[wV (xs.getD k 0),vI 0])/\w'=w:=by
 have b1:=h.1.1;have b2:=(h.cell hk).1;have h4:=h.2.2.2;generalize xs.getD k 0=x at *;have HA:=af h;clear h;go_in;go_wp2_with fail
 refine(uC _ p c xs HA.out).mono ?_;rintro e w' ⟨rfl,rfl⟩;go_wp2;exact bodyPost_ret (v:=.tuple #[wV x,vI 0]) (by simp[results,Tryz.f167,go_sem]) rfl ⟨rfl,rfl⟩
theorem mU(w:aj)(p c:Nat)(xs:aE)(h:Ar w p c xs)(k:Nat)(hk:k<xs.length)(v:Nat) :
 aL prog 249 #[gP p,vI k,wV v] w λe w'=>e=.returned (vI 0)/\w'=w.setCell ⟨c,k,none⟩ (wV v):=by
 have b1:=h.1.1;have b2:=(h.cell hk).1;have b3:=(h.cell hk).2;have h4:=h.2.2.2;generalize xs.getD k 0=x at *;have HA:=af h;clear h;go_in;go_wp2_with fail
 refine(uC _ p c xs HA.out).mono ?_;rintro e w' ⟨rfl,rfl⟩;go_wp2;go_ret;exact⟨rfl,rfl⟩
theorem Ca(w:aj)(p c:Nat)(xs:aE)(h:Ar w p c xs)(at_ n:Nat)(hn:at_+n<=xs.length) :
 aL prog 258 #[gP p,vI at_,vI n] w λe w'=>e=.returned (.bool true)/\w'=w:=by
 have HA:=af h;have h4:=h.2.2.2;have h5:(at_:Int)<=xs.length:=by omega
 have h6:(n:Int)<=xs.length-at_:=by omega
 clear h;go_in;go_wp2_with fail
 refine(uC _ p c xs HA.out).mono ?_;rintro e w' ⟨rfl,rfl⟩;go_wp2_with fail
 refine(uC _ p c xs HA.out).mono ?_;rintro e w' ⟨rfl,rfl⟩;go_wp2;go_ret;exact⟨rfl,rfl⟩
def fl(xs:aE)(at_ v:Nat):Nat->aE
 | 0=>xs
 | k+1=>(fl xs at_ v k).set (at_+k) v
theorem iU(xs:aE)(at_ v:Nat):∀n,(fl xs at_ v n).length=xs.length
 | 0=>rfl
 | n+1=>by simp[fl,iU xs at_ v n]
theorem Ez(xs:aE)(at_ v j:Nat):∀n,at_+n<=xs.length->(fl xs at_ v n).getD j 0=if at_<=j/\j<at_+n then v else xs.getD j 0
 | 0,_=>by rw[if_neg (by omega)];rfl
 | n+1,h=>by
   have ih:=Ez xs at_ v j n (by omega);have hl:=iU xs at_ v n;simp only[fl,List.getD,List.getElem?_set,hl] at ih ⊢
   by_cases hj:at_+n=j
   ·subst hj;rw[if_pos rfl,if_pos (by omega),if_pos (by omega)];rfl
   ·rw[if_neg hj,ih]
    by_cases h2:at_<=j/\j<at_+n
    ·rw[if_pos h2,if_pos (by omega)]
    ·rw[if_neg h2,if_neg (by omega)]
theorem Jd(w:aj)(p c:Nat)(xs:aE)(h:Ar w p c xs)(at_ n v:Nat)(hn:at_+n<=xs.length) :
 aL prog 248 #[gP p,vI at_,vI n,wV v] w λe w'=>e=.returned (vI 0)/\Ar w' p c (fl xs at_ v n)/\Fr (λb=>b=c) w w':=by
 have HA:=af h;have h4:=h.2.2.2;go_in;go_wp2_with fail
 refine(Ca _ p c xs HA.out at_ n hn).mono ?_;rintro e w' ⟨rfl,rfl⟩;clear h;go_wp2_with fail
 go_loopw [16] (λi wr=>∃k:Nat,k<=n/\i=vI k/\Hid (Ar wr p c (fl xs at_ v k))/\Fr (λb=>b=c) w' wr) (λi _=>n-(intOf i).toNat)
 case atStart=>exact⟨0,by omega,rfl,HA,aq⟩
 case round=>
  obtain⟨k,hk,rfl,ha,dM⟩:=hrel;rcases oZ k n with aZ|jL
  ·have hl:=iU xs at_ v k;have b1:=ha.out.1.1;have b2:=(ha.out.cell (k:=at_+k) (by omega)).1;have b3:=(ha.out.cell (k:=at_+k) (by omega)).2;have hs:Hid (Ar (wr.setCell ⟨c,at_+k,none⟩ (wV v)) p c (fl xs at_ v (k+1))):=ha.out.set (k:=at_+k) (by omega) v;rw[hl] at b1;generalize (fl xs at_ v k).getD (at_+k) 0=x at *;replace hl:=af hl;clear HA;go_wp2
   go_roundw
   case rel=>exact⟨k+1,by omega,by go_num,hs,dM.setCell (.inl rfl) _⟩
   case measure=>simp[intOf];omega
  ·obtain rfl:k=n:=by omega
   clear HA;go_wp2;go_ret;exact⟨rfl,ha.out,dM⟩
theorem SP:(prog.info? 252).map (λi=>(i.zero,i.size,i.bytes))=some (some (.int .u64 0),1,8):=by kernel_rfl
theorem DM{w:aj}{base:Nat}{e:TypeId}{g n cap:Nat}{xs:List aC}(h:w.ownsRow base e 1 (.slice (some ⟨g,0,none⟩) n cap) n xs):ag w g xs:=by
 obtain⟨hl,h⟩:=h;rcases h with ⟨h,_⟩|⟨g',aaa,cur,hv,_,hg,hn,_,mi,hx⟩
 ·cases h
 ·cases hv;intro i v hv;have hi:i<xs.length:=(List.getElem?_eq_some_iff.1 hv).1
  have h2:cur[i]?=some v:=by
   rw[<-Array.getElem?_toList,<-hv,<-hx,List.getElem?_take,if_pos (by omega)]
  have EM:i<cur.size:=(wh.1 h2).1;refine⟨by simp[World.cell?,hg,h2],by simp[World.frozen?,hg]⟩
theorem zI{w:aj}{base:Nat}{e:TypeId}{g n:Nat}{xs:List aC}(h:w.ownsRow base e 1 (.slice (some ⟨g,0,none⟩) n n) n xs):Whole w g xs:=by
 obtain⟨hl,h⟩:=h;rcases h with ⟨h,_⟩|⟨g',aaa,cur,hv,_,hg,hn,_,mi,hx⟩
 ·cases h
 ·cases hv
  have:cur=xs.toArray:=by
   rw[<-hx,Nat.mul_one,List.take_of_length_le (by simp;omega)]
  exact⟨e,by rw[hg,this]⟩
theorem OK(n:Nat):(madeCells (Value.int .u64 0).cells (n*1)).toList=(List.replicate n 0).map wV:=by
 rw[Nat.mul_one];apply List.ext_getElem
 ·simp[madeCells]
 ·intro i h1 h2;simp[madeCells,Value.cells,Nat.mod_one]
theorem OI(w:aj)(n:Nat)(h1:1<=n)(h2:n<=65536) :
 aL prog 58 #[vI n] w λe w'=>∃p c,e=.returned (.tuple #[gP p,vI 0])/\Ar w' p c (List.replicate n 0)/\Calm w w'/\w.heap.size<=p/\w.heap.size<=c:=by
 obtain⟨i0,hi,ie,gU,iw⟩:=info_parts SP;go_in;go_wp2_with (at_make;(refine wpList_make_full _ rfl _ _ 200 rfl w.heap.size 252 i0 (.int .u64 0) 1 Tryz.underlying200 hi ie gU .i64 .i64 n n n rfl rfl rfl rfl (by rw[iw];omega) (by unfold maxLen;omega) (aM _) ?_;intro w3 cH eU;rw[OK] at cH;have c3:Hid (Calm w w3):=Fr.grown aq eU (λk hk=>by cases hk);have OL:=af (zI cH);have LT:=af ((DM cH) 0 (wV 0) (by simp[show 0<n by omega])).lt;clear cH eU))
 have lt:=LT.out;refine bodyPost_ret (v:=.tuple #[gP w3.heap.size,vI 0]) (by simp[results,Tryz.f58,go_sem]) rfl ⟨w3.heap.size,w.heap.size,rfl,⟨?_,OL.out.fr (Fr.alloc (Fr.refl (λ_=>False) _) _) id,by omega,by simpa using h2⟩,c3.out.alloc _,by omega,aM _⟩;rw[List.length_replicate];exact Own.new _ _ _ 0 rfl
end Go.Proofs.YtgijglafnlbdbaaGreat
