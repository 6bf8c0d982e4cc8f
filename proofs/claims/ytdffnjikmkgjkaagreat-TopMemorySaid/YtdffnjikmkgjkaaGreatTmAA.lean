/- TopMemory: a part of its proof (Kit Sqz Word Open Open2). -/
import Derived.RangeFuncNested
import Derived.RangeFuncBound
import Derived.RangeFuncCalls
import Derived.RangeFuncLeaves
import Derived.RangeFuncFrom
import Derived.Shelf.Abstract
import Derived.Below
import Derived.WalkKit
import Derived.RegionTactic
import Derived.ChangeAlike
import Derived.BigRegion
import Derived.BigQuiet
import Derived.Deep.QuietTactic
import Derived.Deep.DeepFit
import Derived.Outline
import Derived.Deep.RegionWith
import Derived.WalkSpells
import Derived.WalkLawsBesides
import Derived.Shelf.RegionOpen
import Derived.OwnWalkIn
import Derived.TacticsInMore
import Derived.LoopNIn
import Derived.LoopIn
import Derived.Deep.Draws
import Derived.Deep.Quiet
import Derived.Maps.AppendAt
import Derived.RangeFuncBox
import Derived.StillTailTactics
import Derived.Deep.RegionHeld3
import Derived.Deep.DeepCutAuto
import Derived.StillTail
import Derived.OrdersIn
import Derived.OrdersHeld
import Derived.Test.YtdffnjikmkgjkaaGreatProg
import Derived.Laws.BitsAllLaws
import Derived.Test.YtdffnjikmkgjkaaGreatRows
import Derived.ProofKit
import Derived.OpenShut
import Derived.ShutString
import Derived.ChangeOld
import Derived.Test.YtdffnjikmkgjkaaGreatChecked
import Derived.Deep.Slices
set_option linter.unusedSimpArgs false
set_option linter.unusedVariables false
namespace Go.Proofs.YtdffnjikmkgjkaaGreat
section
open Go.RowKit
theorem hid {p:Prop}(h:p):Hid p:=h
structure Fr (S:Nat→Prop)(w w':World):Prop where
  os:w'.os=w.os
  tape:w'.tape=w.tape
  output:w'.output=w.output
  size:w.heap.size≤w'.heap.size
  block:∀k,k<w.heap.size→¬S k→w'.heap[k]?=w.heap[k]?
abbrev Calm (w w':World):Prop:=Fr (fun _=>False) w w'
namespace Fr
variable {S T:Nat→Prop}{a b c w w':World}
theorem refl (S:Nat→Prop)(w:World):Fr S w w:=⟨rfl,rfl,rfl,Nat.le_refl _,fun _ _ _=>rfl⟩
theorem trans (h:Fr S a b)(k:Fr S b c):Fr S a c:=
  ⟨k.os.trans h.os,k.tape.trans h.tape,k.output.trans h.output,Nat.le_trans h.size k.size,
   fun i hi hs=>(k.block i (Nat.lt_of_lt_of_le hi h.size) hs).trans (h.block i hi hs)⟩
theorem mono (h:Fr S w w')(hs:∀k,k<w.heap.size→S k→T k):Fr T w w':=
  ⟨h.os,h.tape,h.output,h.size,fun k hk ht=>h.block k hk (fun x=>ht (hs k hk x))⟩
theorem drew (h:Fr S a w):Fr S a w.drew:=⟨h.os,h.tape,h.output,h.size,h.block⟩
theorem drewN (h:Fr S a w)(n:Nat):Fr S a (w.drewN n):=⟨h.os,h.tape,h.output,h.size,h.block⟩
theorem alloc (h:Fr S a w)(o:Obj):Fr S a (w.alloc o):=
  h.trans ⟨rfl,rfl,rfl,by simp,fun k hk _=>Below.heap_alloc _ _ _ hk⟩
theorem setCell (h:Fr S a w){p:Addr}(hp:S p.block∨a.heap.size≤p.block)(u:Value):Fr S a (w.setCell p u):=
  ⟨h.os,h.tape,h.output,Nat.le_trans h.size (by simp[World.setCell]),fun k hk hs=>by
    rw[Below.heap_setCell _ _ _ _ (by rintro rfl;rcases hp with hp|hp;exact hs hp;omega)];exact h.block k hk hs⟩
theorem putObj (h:Fr S a w){p:Nat}(hp:S p∨a.heap.size≤p)(o:Obj):Fr S a (w.putObj p o):=
  ⟨h.os,h.tape,h.output,Nat.le_trans h.size (by simp),fun k hk hs=>by
    rw[World.putObj_heap_other (by rintro rfl;rcases hp with hp|hp;exact hs hp;omega)];exact h.block k hk hs⟩
theorem cell (h:Fr S w w'){p:Addr}(hp:p.block<w.heap.size)(hs:¬S p.block):w'.cell? p=w.cell? p:=World.cell?_of_block (w:=w) (h.block p.block hp hs)
theorem frozen (h:Fr S w w'){p:Addr}(hp:p.block<w.heap.size)(hs:¬S p.block):w'.frozen? p=w.frozen? p:=World.frozen?_of_block (w:=w) (h.block p.block hp hs)
theorem below (h:Fr S w w'){B:Nat}(hB:B≤w.heap.size)(hS:∀k,k<B→¬S k):Below B w w':=
  ⟨h.os,h.tape,h.output,h.size,fun k hk=>h.block k (by omega) (hS k hk)⟩
theorem grown (h:Fr S a w){row:Option Nat}(hg:w.grownBy w' row)(hr:∀k,row=some k→S k∨a.heap.size≤k):Fr S a w':=
  ⟨hg.os.trans h.os,hg.tape.trans h.tape,hg.output.trans h.output,Nat.le_trans h.size hg.size,fun k hk hs=>by
    rw[hg.block k (Nat.lt_of_lt_of_le hk h.size) (by rintro rfl;rcases hr k rfl with x|x;exact hs x;omega)];exact h.block k hk hs⟩
theorem join (h:Fr S a b)(k:Fr T b c)(hs:∀k,k<a.heap.size→T k→S k):Fr S a c:=
  ⟨k.os.trans h.os,k.tape.trans h.tape,k.output.trans h.output,Nat.le_trans h.size k.size,
   fun i hi hS=>(k.block i (Nat.lt_of_lt_of_le hi h.size) (fun x=>hS (hs i hi x))).trans (h.block i hi hS)⟩
theorem cellAt (h:Fr S w w'){p:Addr}{v:Value}(hc:w.cell? p=some v)(hs:¬S p.block):w'.cell? p=some v:=(h.cell (World.block_lt_of_cell? w p hc) hs).trans hc
theorem frozenAt (h:Fr S w w'){p:Addr}{v:Value}{f:Bool}(hc:w.cell? p=some v)(hf:w.frozen? p=f)(hs:¬S p.block):w'.frozen? p=f:=(h.frozen (World.block_lt_of_cell? w p hc) hs).trans hf
theorem heapAt (h:Fr S w w'){b:Nat}{o:Obj}(hc:w.heap[b]?=some o)(hs:¬S b):w'.heap[b]?=some o:=(h.block b (Array.getElem?_eq_some_iff.1 hc).1 hs).trans hc
end Fr
def Own (w:World)(b i:Nat)(v:Value):Prop:=w.cell? ⟨b,i,none⟩=some v∧w.frozen? ⟨b,i,none⟩=false
theorem Own.fr {S:Nat→Prop}{w w':World}{b i:Nat}{v:Value}(h:Own w b i v)(f:Fr S w w')(hs:¬S b):Own w' b i v:=⟨f.cellAt (p:=⟨b,i,none⟩) h.1 hs,f.frozenAt (p:=⟨b,i,none⟩) h.1 h.2 hs⟩
theorem Own.lt {w:World}{b i:Nat}{v:Value}(h:Own w b i v):b<w.heap.size:=World.block_lt_of_cell? w _ h.1
theorem Own.new (w:World)(c:Array Value)(t:TypeId)(i:Nat){v:Value}(h:c[i]?=some v):Own (w.alloc (.cells c t)) w.heap.size i v:=
  ⟨(World.cell?_alloc_new w c t i).trans h,World.frozen?_alloc_new w c t i⟩
theorem Own.at (w:World)(c:Array Value)(t:TypeId)(b i:Nat){v:Value}(hb:b=w.heap.size)(h:c[i]?=some v):Own (w.alloc (.cells c t)) b i v:=by subst hb;exact Own.new w c t i h
theorem Own.alloc {w:World}{b i:Nat}{v:Value}(h:Own w b i v)(o:Obj):Own (w.alloc o) b i v:=h.fr (Fr.alloc (Fr.refl (fun _=>False) w) o) id
theorem Own.drew {w:World}{b i:Nat}{v:Value}(h:Own w b i v):Own w.drew b i v:=h
theorem Own.set {w:World}{b i:Nat}{v:Value}(h:Own w b i v)(u:Value):Own (w.setCell ⟨b,i,none⟩ u) b i u:=⟨World.cell?_setCell_same w _ _ h.1,by rw[World.frozen?_setCell];exact h.2⟩
theorem Own.other {w:World}{b i:Nat}{v:Value}(h:Own w b i v)(p:Addr)(u:Value)(hp:p.block≠b∨p.off≠i):Own (w.setCell p u) b i v:=
  ⟨(World.cell?_setCell_other w p _ u (by rintro rfl;simp at hp)).trans h.1,by rw[World.frozen?_setCell];exact h.2⟩
theorem Own.far {w:World}{b i:Nat}{v:Value}(h:Own w b i v)(p:Addr)(u:Value)(hp:p.block≠b):Own (w.setCell p u) b i v:=h.other p u (.inl hp)
theorem own_set2 {w:World}{B:Nat}{a b:Value}(h0:Own w B 0 a)(h1:Own w B 1 b)(x y:Value) :
    Own ((w.setCell ⟨B,0,none⟩ x).setCell ⟨B,1,none⟩ y) B 0 x∧Own ((w.setCell ⟨B,0,none⟩ x).setCell ⟨B,1,none⟩ y) B 1 y∧Fr (fun k=>k=B) w ((w.setCell ⟨B,0,none⟩ x).setCell ⟨B,1,none⟩ y):=
  ⟨(h0.set x).other _ _ (.inr (by simp)),(h1.other _ _ (.inr (by simp))).set y,((Fr.refl (fun k=>k=B) w).setCell (.inl rfl) _).setCell (.inl rfl) _⟩
theorem own_set3 {w:World}{B:Nat}{a b c:Value}(h0:Own w B 0 a)(h1:Own w B 1 b)(h2:Own w B 2 c)(x y z:Value) :
    Own (((w.setCell ⟨B,0,none⟩ x).setCell ⟨B,1,none⟩ y).setCell ⟨B,2,none⟩ z) B 0 x∧Own (((w.setCell ⟨B,0,none⟩ x).setCell ⟨B,1,none⟩ y).setCell ⟨B,2,none⟩ z) B 1 y ∧
    Own (((w.setCell ⟨B,0,none⟩ x).setCell ⟨B,1,none⟩ y).setCell ⟨B,2,none⟩ z) B 2 z∧Fr (fun k=>k=B) w (((w.setCell ⟨B,0,none⟩ x).setCell ⟨B,1,none⟩ y).setCell ⟨B,2,none⟩ z):=
  let ⟨p,q,f⟩:=own_set2 h0 h1 x y
  ⟨p.other _ _ (.inr (by simp)),q.other _ _ (.inr (by simp)),((h2.other _ _ (.inr (by simp))).other _ _ (.inr (by simp))).set z,f.setCell (.inl rfl) _⟩
theorem own_set4 {w:World}{B:Nat}{a b c d:Value}(h0:Own w B 0 a)(h1:Own w B 1 b)(h2:Own w B 2 c)(h3:Own w B 3 d)(x y z u:Value) :
    Own ((((w.setCell ⟨B,0,none⟩ x).setCell ⟨B,1,none⟩ y).setCell ⟨B,2,none⟩ z).setCell ⟨B,3,none⟩ u) B 0 x∧Own ((((w.setCell ⟨B,0,none⟩ x).setCell ⟨B,1,none⟩ y).setCell ⟨B,2,none⟩ z).setCell ⟨B,3,none⟩ u) B 1 y ∧
    Own ((((w.setCell ⟨B,0,none⟩ x).setCell ⟨B,1,none⟩ y).setCell ⟨B,2,none⟩ z).setCell ⟨B,3,none⟩ u) B 2 z∧Own ((((w.setCell ⟨B,0,none⟩ x).setCell ⟨B,1,none⟩ y).setCell ⟨B,2,none⟩ z).setCell ⟨B,3,none⟩ u) B 3 u ∧
    Fr (fun k=>k=B) w ((((w.setCell ⟨B,0,none⟩ x).setCell ⟨B,1,none⟩ y).setCell ⟨B,2,none⟩ z).setCell ⟨B,3,none⟩ u):=
  let ⟨p,q,r,f⟩:=own_set3 h0 h1 h2 x y z
  ⟨p.other _ _ (.inr (by simp)),q.other _ _ (.inr (by simp)),r.other _ _ (.inr (by simp)),(((h3.other _ _ (.inr (by simp))).other _ _ (.inr (by simp))).other _ _ (.inr (by simp))).set u,f.setCell (.inl rfl) _⟩
def OwnL (w:World)(B:Nat)(vs:List Value):Prop:=∀i v,vs[i]?=some v→Own w B i v
theorem OwnL.new (w:World)(vs:List Value)(t:TypeId):OwnL (w.alloc (.cells vs.toArray t)) w.heap.size vs:=fun i v h=>Own.new w _ _ i (by simpa using h)
theorem OwnL.at (w:World)(vs:List Value)(t:TypeId)(b:Nat)(hb:b=w.heap.size):OwnL (w.alloc (.cells vs.toArray t)) b vs:=by subst hb;exact OwnL.new w vs t
theorem OwnL.fr {S:Nat→Prop}{w w':World}{B:Nat}{vs:List Value}(h:OwnL w B vs)(f:Fr S w w')(hs:¬S B):OwnL w' B vs:=fun i v hv=>(h i v hv).fr f hs
theorem OwnL.calm {w w':World}{B:Nat}{vs:List Value}(h:OwnL w B vs)(f:Calm w w'):OwnL w' B vs:=h.fr f id
theorem OwnL.alloc {w:World}{B:Nat}{vs:List Value}(h:OwnL w B vs)(o:Obj):OwnL (w.alloc o) B vs:=fun i v hv=>(h i v hv).alloc o
theorem OwnL.far {w:World}{B:Nat}{vs:List Value}(h:OwnL w B vs)(p:Addr)(u:Value)(hp:p.block≠B):OwnL (w.setCell p u) B vs:=fun i v hv=>(h i v hv).far p u hp
theorem OwnL.lt {w:World}{B:Nat}{vs:List Value}(h:OwnL w B vs)(hv:0<vs.length):B<w.heap.size:=(h 0 vs[0] (by simp[hv])).lt
theorem OwnL.set {w:World}{B:Nat}{vs:List Value}(h:OwnL w B vs)(k:Nat)(u:Value)(hk:k<vs.length):OwnL (w.setCell ⟨B,k,none⟩ u) B (vs.set k u):=fun i v hv=>by
  by_cases e:i=k
  · subst e;rw[List.getElem?_set_self hk] at hv;cases hv;exact(h i vs[i] (by simp[hk])).set u
  · rw[List.getElem?_set_ne (Ne.symm e)] at hv;exact(h i v hv).other _ _ (.inr (by simpa using Ne.symm e))
theorem OwnL.set3 {w:World}{B:Nat}{a b c:Value}(h:OwnL w B [a,b,c])(x y z:Value) :
    OwnL (((w.setCell ⟨B,0,none⟩ x).setCell ⟨B,1,none⟩ y).setCell ⟨B,2,none⟩ z) B [x,y,z]∧Fr (fun k=>k=B) w (((w.setCell ⟨B,0,none⟩ x).setCell ⟨B,1,none⟩ y).setCell ⟨B,2,none⟩ z):=
  ⟨((h.set 0 x (by simp)).set 1 y (by simp)).set 2 z (by simp),(((Fr.refl (fun k=>k=B) w).setCell (.inl rfl) _).setCell (.inl rfl) _).setCell (.inl rfl) _⟩
theorem OwnL.set4 {w:World}{B:Nat}{a b c d:Value}(h:OwnL w B [a,b,c,d])(x y z u:Value) :
    OwnL ((((w.setCell ⟨B,0,none⟩ x).setCell ⟨B,1,none⟩ y).setCell ⟨B,2,none⟩ z).setCell ⟨B,3,none⟩ u) B [x,y,z,u]∧Fr (fun k=>k=B) w ((((w.setCell ⟨B,0,none⟩ x).setCell ⟨B,1,none⟩ y).setCell ⟨B,2,none⟩ z).setCell ⟨B,3,none⟩ u):=
  ⟨(((h.set 0 x (by simp)).set 1 y (by simp)).set 2 z (by simp)).set 3 u (by simp),((((Fr.refl (fun k=>k=B) w).setCell (.inl rfl) _).setCell (.inl rfl) _).setCell (.inl rfl) _).setCell (.inl rfl) _⟩
theorem Calm.any {S:Nat→Prop}{w w':World}(h:Calm w w'):Fr S w w':=Fr.mono h (fun _ _ x=>x.elim)
def Row (w:World)(v:Value)(xs:List Value):Prop:=
  ∃a cap,v = .slice a xs.length cap∧(xs=[]∨∃b off,a=some ⟨b,off,none⟩∧∀ (i:Nat) (h:i<xs.length),w.cell? ⟨b,off+i,none⟩=some xs[i])
theorem Row.nil (w:World):Row w (.slice none 0 0) []:=⟨none,0,rfl,.inl rfl⟩
theorem ownsRow_fr {S:Nat→Prop}{w w':World}{base:Nat}{e:TypeId}{size:Nat}{v:Value}{n:Nat}{xs:List Value}(h:w.ownsRow base e size v n xs)(f:Fr S w w')(hs:∀k,base≤k→¬S k):w'.ownsRow base e size v n xs:=by
  refine⟨h.1,?_⟩;rcases h.2 with hn|⟨g,cap,cur,rfl,hb,hgg,rest⟩
  · exact .inl hn
  · exact .inr ⟨g,cap,cur,rfl,hb,f.heapAt hgg (hs _ hb),rest⟩
theorem Fr.append1 {w w':World}{base:Nat}{e:TypeId}{size:Nat}{v:Value}{n:Nat}{xs:List Value}{o:Obj}(h:w.ownsRow base e size v n xs)(hg:(w.alloc o).grownBy w' v.ownBlock):Fr (fun k=>base≤k) w w':=
  Fr.grown (Fr.alloc (Fr.refl _ _) _) hg (fun k hk=>.inl (h.lt k hk).1)
theorem Row.of_owns {w:World}{base:Nat}{e:TypeId}{v:Value}{n:Nat}{xs:List Value}(h:w.ownsRow base e 1 v n xs):Row w v xs:=by
  obtain⟨hl,h⟩:=h;rcases h with ⟨rfl,rfl⟩|⟨g,cap,cur,rfl,_,hg,hn,_,hcur,hx⟩
  · simp at hl;subst hl;exact Row.nil w
  · refine⟨some ⟨g,0,none⟩,cap,by simp[hl],.inr ⟨g,0,rfl,fun i hi=>?_⟩⟩;have:w.cell? ⟨g,0+i,none⟩=cur[i]?:=by simp[World.cell?,hg]
    rw[this];have h2:cur.toList[i]?=xs[i]?:=by rw[←hx,List.getElem?_take];simp;omega
    rw[←Array.getElem?_toList,h2];simp[hi]
def pk (c n:Int):Int:=(if c<0 then -(c+1) else c) % n
abbrev I64 (n:Int):Prop:=-9223372036854775808≤n∧n≤9223372036854775807
structure Later (w₀:World) where
  w:World
  calm:Calm w₀ w
instance laterNonempty (w:World):Nonempty (Later w):=⟨⟨w,Fr.refl _ _⟩⟩
theorem wp_region_calm {P:Program}{id:Nat}{Q:Exit→Act→World→Prop}{a:Act}{w:World}{l:List Oper}(hm:P.follows .mixedOrders=true)(hB:Region.lexB .any l.toArray=true)
    (h:wpQuiet P l.toArray (fun w'=>∃x:Later w,w'=x.w) (fun a'=>∀w',(∃x:Later w,w'=x.w)→Q .normal a' w') l a):(Code.region id l.toArray true).wp P Q a w:=
  wp_region_quiet (C:=fun w'=>∃x:Later w,w'=x.w) hm hB ⟨⟨w.drew,(Fr.refl _ w).drew⟩,rfl⟩ (by simpa using h)
theorem Later.out {w w':World}(h:∃x:Later w,w'=x.w):Calm w w':=by obtain⟨x,rfl⟩:=h;exact x.calm
theorem Calls.calm_of {P:Program}{f:FuncId}{args:Array Value}{w:World}{x:Later w}{v:Value}
    (h:Calls P f args x.w fun e w'=>e = .returned v∧Calm x.w w'):Calls P f args x.w fun e w''=>e = .returned v∧∃y:Later w,w''=y.w:=
  h.mono fun _ w' ⟨he,hc⟩=>⟨he,⟨w',x.calm.trans hc⟩,rfl⟩
theorem Later.cell {w:World}(x:Later w){b o:Nat}{v:Value}(h:w.cell? ⟨b,o,none⟩=some v):x.w.cell? ⟨b,o,none⟩=some v:=x.calm.cellAt h id
def Keeps (keep:Nat→Prop)(W W':World):Prop:=W.heap.size≤W'.heap.size∧∀b,keep b→W'.heap[b]?=W.heap[b]?
theorem Keeps.refl (keep:Nat→Prop)(W:World):Keeps keep W W:=⟨Nat.le_refl _,fun _ _=>rfl⟩
theorem Keeps.trans {keep:Nat→Prop}{A B C:World}(h:Keeps keep A B)(k:Keeps keep B C):Keeps keep A C:=
  ⟨Nat.le_trans h.1 k.1,fun b hb=>(k.2 b hb).trans (h.2 b hb)⟩
theorem Keeps.mono {keep keep':Nat→Prop}{A B:World}(h:Keeps keep A B)(hk:∀b,keep' b→keep b):Keeps keep' A B:=⟨h.1,fun b hb=>h.2 b (hk b hb)⟩
theorem Keeps.of_fr {keep S:Nat→Prop}{A B:World}(h:Fr S A B)(hk:∀b,keep b→b<A.heap.size∧¬S b):Keeps keep A B:=
  ⟨h.size,fun b hb=>h.block b (hk b hb).1 (hk b hb).2⟩
def SeqAt (F:Fence)(n:Nat)(P:Program)(g:Nat)(lb:Array Value)(el:Nat→Array Value)(N:Nat)(fin:Bool)(keep:Nat→Prop)(w0:World):Prop:=
  ∀ (l:Nat) (J:Nat→World→Prop) (Jx:World→Prop) (W:World),Keeps keep w0 W→w0.heap.size≤W.heap.size →
    (∀k A B,J k A→Calm A B→J k B)→(∀A B,Jx A→Calm A B→Jx B)→(fin=false→∀W,¬J N W) →
    (∀k W1,k<N→J k W1→YieldAt F (n-1) P l (el k) W1 fun e W'=>
      (e = .returned (.bool true)∧J (k+1) W'∧Keeps keep W1 W')∨(e = .returned (.bool false)∧Jx W')) →
    J 0 W →
    CallsIn F n P g (#[.func (.yield l) #[] #[]]++lb) W fun e W'=>(∃v,e = .returned v)∧(J N W'∨Jx W')
def roundPostAt (keep:Nat→Prop)(D:Nat)(I':World→Prop)(Ix:Code→World→Prop)(W:World):Exit→Act→World→Prop
  | .normal,_,W'=>Keeps (fun b=>keep b∨b=D∨b=D+1) W W'∧I' W'
  | .ret,_,W'=>Keeps (fun b=>b=D∨b=D+1) W W'∧Ix .ret W'
  | .exit id,_,W'=>Keeps (fun b=>b=D∨b=D+1) W W'∧Ix (.exit id) W'
  | .goto t,_,W'=>Keeps (fun b=>b=D∨b=D+1) W W'∧Ix (.goto t) W'
  | .panic _,_,_=>False
  | .outgrown,_,_=>False
variable {F:Fence}{n:Nat}{P:Program}
abbrev Loops (D:Nat)(W W':World):Prop:=Fr (fun b=>b=D∨b=D+1) W W'
theorem wpIn_rangeAt {g:Operand}{ps:Array Tmp}{assign body:Code}{Q:Exit→Act→World→Prop}{a:Act}{w:World}
    (hro:F.round=none) (h1:1≤n) {gf:Nat} {lb:Array Value} (hg:a.eval g = .func (.func gf) #[] lb) (hFg:F.fn gf) (eg:∀args w,(callFunc gf args).run P w = .ok (.enter gf args) w)
    {el:Nat→Array Value} {N:Nat} {fin:Bool} {keep:Nat→Prop} {w0:World} (hseq:SeqAt F (n-1) P gf lb el N fin keep w0) (hk0:Keeps keep w0 w) (hkeep:∀b,keep b→b<w.heap.size) (hps:∀k,(el k).size=ps.size)
    (I:Nat→World→Prop) (I₁:Nat→Act→World→Prop) (Ix:Code→World→Prop)
    (hI:∀k A B,I k A→Loops w.heap.size A B→I k B) (hI₁:∀k a' A B,I₁ k a' A→Loops w.heap.size A B→I₁ k a' B) (hIx:∀c A B,Ix c A→Loops w.heap.size A B→Ix c B)
    (hN:fin=false→∀W,¬I N W) (h0:I 0 w)
    (hassign:∀ (l k:Nat) (W:World),k<N→I k W→w.heap.size+1<W.heap.size →
      assign.wpIn (F.inRound l) (n-1-1) P (Exit.then (fun a' W'=>Keeps (fun b=>keep b∨b=w.heap.size∨b=w.heap.size+1) W W'∧I₁ k a' W') (fun _ _ _=>False)) { tmps:=(ps.zip (el k)).foldl (fun t (p,v)=>t.setIfInBounds p v) a.tmps,defers:=[] } W)
    (hbody:∀ (l k:Nat) (a':Act) (W:World),k<N→I₁ k a' W→w.heap.size+1<W.heap.size→body.wpIn (F.inRound l) (n-1-1) P (roundPostAt keep w.heap.size (I (k+1)) Ix W) a' W)
    (hdone:∀ (W:World),fin=true→I N W→W.heap[w.heap.size]?=some (.deferred (some []))→Q .normal { a with defers:={ target:=.collected w.heap.size,args:=#[] } :: a.defers } W)
    (hstop:∀ (c:Code) (W:World),Ix c W→W.heap[w.heap.size]?=some (.deferred (some []))→c.wpIn F n P Q { a with defers:={ target:=.collected w.heap.size,args:=#[] } :: a.defers } W) :
    (Code.rangeFunc g ps assign body).wpIn F n P Q a w:=by
  obtain⟨D,hD⟩:∃D,w.heap.size=D:=⟨_,rfl⟩;rw[hD] at hI hI₁ hIx hassign hbody hdone hstop;refine wpIn_rangeFunc ?_;intro fn hfn;rw[hro];obtain⟨rec,hrec⟩:∃rec:LoopState→Option Code→Loop,rec=fun st pe=>{ state:=st,pending:=pe,fn,tmps:=a.tmps,params:=ps,assign,body,defers:=w.heap.size }:=⟨_,rfl⟩;obtain⟨W1,hW1⟩:∃W1,(w.alloc (.deferred (some []))).alloc (.loop (rec .ready none))=W1:=⟨_,rfl⟩
  have hL1:W1.heap[D+1]?=some (.loop (rec .ready none)):=by
    rw[←hW1,←hD];have:=World.alloc_heap_new (w.alloc (.deferred (some []))) (.loop (rec .ready none));rwa [World.size_alloc] at this
  have hK1:W1.heap[D]?=some (.deferred (some [])):=by
    rw[←hW1,←hD];exact(Below.heap_alloc _ _ _ (by simp)).trans (World.alloc_heap_new w _)
  have hc1:Calm w W1:=by rw[←hW1];exact((Fr.refl _ w).alloc _).alloc _
  have hI1:I 0 W1:=hI 0 _ _ h0 hc1.any;have hb1:Keeps keep w0 W1:=hk0.trans ⟨hc1.size,fun b hb=>hc1.block b (hkeep b hb) id⟩
  refine⟨w.heap.size+1,[{ target:=.collected w.heap.size,args:=#[] }],W1,{ target:=.fn (.func gf) lb,args:=#[.func (.yield (w.heap.size+1)) #[] #[]] },W1,gf,
    #[.func (.yield (w.heap.size+1)) #[] #[]]++lb,W1,?_,?_,?_,?_,fun _=>h1,?_⟩
  · rw[←hW1,hrec];exact run_enterLoop_outer _ _ _ _ _
  · simp only[resolve,hg];simp[go_sem]
  · intro f' hf';simp[Target.leads] at hf';subst hf';exact hFg
  · simp[invoke,go_sem,eg]
  · have put:∀ {W:World} {r:Loop} (o:Obj),W.heap[D+1]?=some (.loop r)→Loops D W (W.putObj (D+1) o):=fun o _=>(Fr.refl _ _).putObj (.inl (.inr rfl)) o;rw[hD]
    refine(hseq (D+1)
      (fun k W=>I k W∧W.heap[D+1]?=some (.loop (rec .ready none))∧W.heap[D]?=some (.deferred (some []))∧∀b,keep b→b<D)
      (fun W=>∃c,Ix c W∧W.heap[D+1]?=some (.loop (rec .done (some c)))∧W.heap[D]?=some (.deferred (some [])))
      W1 hb1 (Nat.le_trans hk0.1 hc1.size) ?_ ?_ (fun hf W h=>hN hf W h.1) ?_ ⟨hI1,hL1,hK1,fun b hb=>hD ▸ hkeep b hb⟩).mono ?_
    · rintro k A B ⟨hi,hl,hk,hh⟩ hc;exact⟨hI k A B hi hc.any,(hc.block _ (Array.getElem?_eq_some_iff.1 hl).1 id).trans hl,(hc.block _ (Array.getElem?_eq_some_iff.1 hk).1 id).trans hk,hh⟩
    · rintro A B ⟨c,hi,hl,hk⟩ hc;exact⟨c,hIx c A B hi hc.any,(hc.block _ (Array.getElem?_eq_some_iff.1 hl).1 id).trans hl,(hc.block _ (Array.getElem?_eq_some_iff.1 hk).1 id).trans hk⟩
    · rintro k W hkN ⟨hi,hl,hk,hh⟩;have hlt:D+1<W.heap.size:=(Array.getElem?_eq_some_iff.1 hl).1;have hy:=run_yield (P:=P) (args:=el k) hl (by rw[hrec];exact hps k);rw[hrec] at hy;refine⟨fn,_,assign,body,hy,roundIn_of_wpIn hfn (wpIn_mono (hassign (D+1) k W hkN hi hlt) ?_)⟩;rintro e a1 Wa hp
      cases e with
      | normal=>
        obtain⟨hka,hia⟩:=hp;have hla:=(hka.2 (D+1) (.inr (.inr rfl))).trans hl;have hka':=(hka.2 D (.inr (.inl rfl))).trans hk;have hlta:D+1<Wa.heap.size:=Nat.lt_of_lt_of_le hlt hka.1;refine⟨_,run_beginRound hla (by rw[hrec]),?_⟩;have hl2:(Wa.putObj (D+1) (.loop { rec .ready none with state:=.busy })).heap[D+1]?=some (.loop { rec .ready none with state:=.busy }):=World.putObj_heap_same hlta;have hk2:(Wa.putObj (D+1) (.loop { rec .ready none with state:=.busy })).heap[D]?=some (.deferred (some [])):=(World.putObj_heap_other (by omega)).trans hka';have hput:∀ (X:World) (o:Obj),Keeps keep X (X.putObj (D+1) o):=fun X o=>⟨by simp,fun b hb=>World.putObj_heap_other (by have:=hh b hb;omega)⟩;refine wpIn_mono (hbody (D+1) k a1 _ hkN (hI₁ k a1 _ _ hia (put _ hla)) (by simp;exact hlta)) ?_
        have fin':∀ (jump:Option Code) (W3:World),Keeps (fun b=>b=D∨b=D+1) (Wa.putObj (D+1) (.loop { rec .ready none with state:=.busy })) W3 →
            (Instr.endRound (D+1) jump).run P W3 = .ok (.bool jump.isNone) (W3.putObj (D+1) (.loop (rec (if jump.isNone then .ready else .done) jump))) ∧
            Loops D W3 (W3.putObj (D+1) (.loop (rec (if jump.isNone then .ready else .done) jump))) ∧
            (W3.putObj (D+1) (.loop (rec (if jump.isNone then .ready else .done) jump))).heap[D+1]?=some (.loop (rec (if jump.isNone then .ready else .done) jump)) ∧
            (W3.putObj (D+1) (.loop (rec (if jump.isNone then .ready else .done) jump))).heap[D]?=some (.deferred (some [])):=fun jump W3 hk3=>by
          have hl3:=(hk3.2 (D+1) (.inr rfl)).trans hl2;have hkk:=(hk3.2 D (.inl rfl)).trans hk2;have:=run_endRound (P:=P) jump hl3;have hp3:=put (.loop (rec (if jump.isNone then .ready else .done) jump)) hl3;rw[hrec] at this hp3 ⊢;exact⟨this,hp3,World.putObj_heap_same (Array.getElem?_eq_some_iff.1 hl3).1,(World.putObj_heap_other (by omega)).trans hkk⟩
        rintro e a3 W3 hp
        cases e with
        | normal=>
          obtain⟨hk3,hi3⟩:=hp;obtain⟨hr,hl3,hl4,hk4⟩:=fin' none W3 (hk3.mono (fun b hb=>.inr hb));exact⟨_,_,hr,.inl ⟨rfl,⟨hI _ _ _ hi3 hl3,hl4,hk4,hh⟩,(hka.mono (fun b hb=>.inl hb)).trans ((hput _ _).trans ((hk3.mono (fun b hb=>.inl hb)).trans (hput _ _)))⟩⟩
        | ret=>
          obtain⟨hk3,hi3⟩:=hp;obtain⟨hr,hl3,hl4,hk4⟩:=fin' (some .ret) W3 hk3;exact⟨_,_,hr,.inr ⟨rfl,.ret,hIx _ _ _ hi3 hl3,hl4,hk4⟩⟩
        | exit id=>
          obtain⟨hk3,hi3⟩:=hp;obtain⟨hr,hl3,hl4,hk4⟩:=fin' (some (.exit id)) W3 hk3;exact⟨_,_,hr,.inr ⟨rfl,.exit id,hIx _ _ _ hi3 hl3,hl4,hk4⟩⟩
        | goto t=>
          obtain⟨hk3,hi3⟩:=hp;obtain⟨hr,hl3,hl4,hk4⟩:=fin' (some (.goto t)) W3 hk3;exact⟨_,_,hr,.inr ⟨rfl,.goto t,hIx _ _ _ hi3 hl3,hl4,hk4⟩⟩
        | panic ch=>exact hp.elim
        | outgrown=>exact hp.elim
      | exit id=>exact hp.elim
      | goto t=>exact hp.elim
      | ret=>exact hp.elim
      | panic chain=>exact hp.elim
      | outgrown=>exact hp.elim
    · rintro e W2 ⟨⟨v,rfl⟩,(⟨hi,hl,hk,_⟩|⟨c,hi,hl,hk⟩)⟩
      · have hfin:fin=true:=by
          cases hf:fin with
          | true=>rfl
          | false=>exact(hN hf _ hi).elim
        exact⟨none,_,by have:=run_endLoop (P:=P) hl (by rw[hrec];simp);rw[hrec] at this;exact this,hdone _ hfin (hI _ _ _ hi (put _ hl)) ((World.putObj_heap_other (by omega)).trans hk)⟩
      · exact⟨some c,_,by have:=run_endLoop (P:=P) hl (by rw[hrec];simp);rw[hrec] at this;exact this,hstop c _ (hIx c _ _ hi (put _ hl)) ((World.putObj_heap_other (by omega)).trans hk)⟩
end
section
open Go.RowKit
section
variable {P:Program}{ops:Array Oper}{md:Region.Mode}{C:World→Prop}
def headQ (P:Program)(md:Region.Mode)(ops:Array Oper)(C:World→Prop)(n:Nat)(L:Array Bool→Act→Prop):Nat→Array Bool→Act→Prop
  | 0,done,a=>L done a
  | f+1,done,a=>Region.ready md ops done≠[]∧∀i∈Region.ready md ops done,i<n∧qOp P ops C i (headQ P md ops C n L f (done.setIfInBounds i true)) a
theorem any_of_headQ {n g:Nat}{L:Array Bool→Act→Prop}{Q:Exit→Act→World→Prop}(hL:∀done a w,C w→L done a→wpAny P md ops Q g done a w) :
    ∀ (f:Nat) (done:Array Bool) (a:Act) (w:World),C w→headQ P md ops C n L f done a→wpAny P md ops Q (f+g) done a w
  | 0,done,a,w,hw,h=>by rw[Nat.zero_add];exact hL _ _ _ hw h
  | f+1,done,a,w,hw,h=>by
    rw[show f+1+g=(f+g)+1 by omega];exact⟨fun h0=>absurd h0 h.1,fun i hi=>wpOp_of_qOp hw (fun a' w' hw' h'=>any_of_headQ hL f _ a' w' hw' h') (h.2 i hi).2⟩
theorem headQ_first {n i:Nat}{oi:Oper}{v:Value}{L:Array Bool→Act→Prop}(hi:ops[i]?=some oi)(hsel:∀ (j:Nat) (o:Oper) cs b,ops[j]?=some o→o.op≠.select cs b)
    (hs:Region.sinkB md ops n=true) (hc:Region.chainB md ops n=true) (hn:n<ops.size) (hin:i<n) (hdone:∀done a,L done a→∀j∈Region.ready md ops done,n≤j) :
    ∀ (f:Nat) (done:Array Bool) (a:Act),HeadInv md ops n done →
      (∀j oj,ops[j]?=some oj→j≠i→done.getD j true=false→(∀e∈oj.after,Region.binds md e=true→e.on≠i)→oi.apart ops oj=true) →
      i∈Region.ready md ops done→YieldsIn P ops C oi v a →
      headQ P md ops C n L f (done.setIfInBounds i true) (a.put oi.dst v)→headQ P md ops C n L (f+1) done a:=by
  intro f
  induction f with
  | zero=>
    intro done a inv _ hr hy H;have hun:=(mem_ready.1 hr).1;refine⟨fun h=>(by rw[h] at hr;cases hr),fun j hj=>?_⟩
    have hjn:j<n:=by
      rcases Nat.lt_or_ge j n with h|h
      · exact h
      · exact absurd hj (tail_waits hs hc hn inv _ i rfl hin hun j h)
    refine⟨hjn,?_⟩
    by_cases hji:j=i
    · subst hji;exact hy.qOp hi H
    · have:=hdone _ _ H j (ready_mono hj hji);omega
  | succ f ih=>
    intro done a inv hfree hr hy H;have hun:=(mem_ready.1 hr).1;refine⟨fun h=>(by rw[h] at hr;cases hr),fun j hj=>?_⟩
    have hjn:j<n:=by
      rcases Nat.lt_or_ge j n with h|h
      · exact h
      · exact absurd hj (tail_waits hs hc hn inv _ i rfl hin hun j h)
    refine⟨hjn,?_⟩
    by_cases hji:j=i
    · subst hji;exact hy.qOp hi H
    · have h1:=(H.2 j (ready_mono hj hji)).2;obtain⟨hjun,oj,hoj,hall⟩:=mem_ready.1 hj
      have hnot:∀e∈oj.after,Region.binds md e=true→e.on≠i:=fun e he hb heq=>by
        have h1:=hall e he hb;rw[heq,getD_both hun] at h1;cases h1
      have h2:=qOp_put hoj (hfree j oj hoj hji hjun hnot) (fun cs b=>hsel i oi cs b hi) (fun cs b=>hsel j oj cs b hoj) hy h1
      have hfree':∀k ok,ops[k]?=some ok→k≠i→(done.setIfInBounds j true).getD k true=false →
          (∀e∈ok.after,Region.binds md e=true→e.on≠i)→oi.apart ops ok=true:=fun k ok hk hki hun hno=>by
        refine hfree k ok hk hki ?_ hno
        by_cases hjk:j=k
        · subst hjk;exact hjun
        · rw[getD_set_ne true hjk] at hun;exact hun
      refine qOp_mono (fun a' h3=>ih (done.setIfInBounds j true) a' (inv.set hj hjn) hfree' (ready_mono hr (Ne.symm hji)) h3.1 ?_) h2;rw[Array.setIfInBounds_comm _ _ hji];exact h3.2
theorem headQ_lex {n g:Nat}{Lq:Act→Prop}(hsel:Region.noSelect ops=true)(hs:Region.sinkB md ops n=true)(hc:Region.chainB md ops n=true)(hn:n<ops.size) :
    ∀ (l:List Oper) (k:Nat) (done:Array Bool) (a:Act),(∀j,j<l.length→l[j]?=ops[k+j]?)→k+l.length=n→HeadInv md ops n done →
    Region.lexHead md ops g l.length k done=true→wpQuiet P ops C Lq l a →
    headQ P md ops C n (fun done' a'=>Region.seqB md ops g n done'=true∧Lq a') l.length done a
  | [],k,done,a,_,hk,_,hB,h=>by
    have:k=n:=by simpa using hk
    subst this;exact⟨by simpa[Region.lexHead] using hB,h⟩
  | o::l,k,done,a,hl,hk,inv,hB,h=>by
    have h0:ops[k]?=some o:=by simpa using(hl 0 (by simp)).symm
    simp only[List.length_cons,Region.lexHead,Bool.and_eq_true] at hB;obtain⟨⟨hr,hf⟩,hB'⟩:=hB;have hkn:k<n:=by simp only[List.length_cons] at hk;omega
    have hr':k∈Region.ready md ops done:=by simpa using hr
    have hst:qOp P ops C k (wpQuiet P ops C Lq l) a:=by unfold qOp;simp only[h0];exact h
    obtain⟨v,hy,hK⟩:=yieldsIn_of_qOp h0 hst
    exact headQ_first h0 (Region.noSelect_spec hsel) hs hc hn hkn (fun done' a' hL=>seqB_ready hL.1) l.length done a inv (Region.free_spec h0 hf) hr' hy
      (headQ_lex hsel hs hc hn l (k+1) _ _ (fun j hj=>by have:=hl (j+1) (by simp;omega);simpa[Nat.add_assoc,Nat.add_comm 1 j] using this) (by simp only[List.length_cons] at hk;omega) (inv.set hr' hkn) hB' hK)
end
theorem wpAny_calm_tail {P:Program}{Q:Exit→Act→World→Prop}{a:Act}{w:World}{l:List Oper}(n:Nat)(hB:Region.lexTailB .any l.toArray n=true)
    (h:wpQuiet P l.toArray (fun w'=>∃x:Later w,w'=x.w) (fun a'=>∀w',(∃x:Later w,w'=x.w)→wpList P l.toArray Q (l.drop n) a' w') (l.take n) a) :
    wpAny P .any l.toArray Q l.toArray.size (Array.replicate l.toArray.size false) a { w with drawn:=w.drawn+1 }:=by
  simp only[Region.lexTailB,Bool.and_eq_true,decide_eq_true_eq] at hB;obtain⟨⟨⟨⟨hsel,hn⟩,hs⟩,hc⟩,hlex⟩:=hB;have hn':n<l.length:=by simpa using hn
  have htl:(l.take n).length=n:=by simp;omega
  have hdl:(l.drop n).length=l.toArray.size-n:=by simp
  have inv0:HeadInv .any l.toArray n (Array.replicate l.toArray.size false):=
    ⟨by simp,fun j oj _ hl=>(by rw[getD_replicate_false] at hl;cases hl),fun t _ ht=>getD_in (by simpa using ht) (getD_replicate_false _ _)⟩
  have H:=headQ_lex (md:=.any) (g:=l.toArray.size-n) hsel hs hc hn (l.take n) 0 _ a (fun j hj=>by
    have hj':j<n:=by rw[htl] at hj;exact hj
    simp[hj']) (by simpa using htl) inv0 (by rw[htl];exact hlex) h
  have:=any_of_headQ (Q:=Q) (g:=l.toArray.size-n) (fun done a' w' hw' hL=>by
    have:=wpAny_of_seq (Q':=Q) (l.drop n) n done a' w' (fun j=>by simp) (by rw[hdl];exact hL.1) (hL.2 w' hw')
    rwa [hdl] at this) (l.take n).length _ a { w with drawn:=w.drawn+1 } ⟨⟨w.drew,(Fr.refl _ w).drew⟩,rfl⟩ H
  rw[htl] at this;simpa[Nat.add_sub_cancel' (Nat.le_of_lt hn')] using this
theorem wp_region_calm_tail {P:Program}{id:Nat}{Q:Exit→Act→World→Prop}{a:Act}{w:World}{l:List Oper}(n:Nat)(hm:P.follows .mixedOrders=true)(hB:Region.lexTailB .any l.toArray n=true)
    (h:wpQuiet P l.toArray (fun w'=>∃x:Later w,w'=x.w) (fun a'=>∀w',(∃x:Later w,w'=x.w)→wpList P l.toArray Q (l.drop n) a' w') (l.take n) a):(Code.region id l.toArray true).wp P Q a w:=
  wp_region_any hm (wpAny_calm_tail n hB h)
end
section
open Go.RowKit
section
variable {P:Program}{ops:Array Oper}{md:Region.Mode}{Q:Exit→Act→World→Prop}{r n:Nat}
theorem oper_wpIn_of {o:Oper}{a:Act}{w:World}{K:Act→World→Prop}(hnd:∀c,o.op≠.defer c)(h:o.wp P a w K Q):o.wpIn (Fence.wide.inRound r) n P a w K Q:=by
  unfold Oper.wpIn;refine⟨fun _ _=>trivial,?_⟩;show Oper.uponIn _ _ _ _ _ _ _ ((o.semAt (some r) a.eval).run P w);rw[Oper.semAt_some r _ _ hnd];unfold Oper.wp at h;generalize (execOp a.eval o).run P w=x at *
  cases x with
  | ok x w'=>
    cases x <;> simp only[Oper.upon,Oper.uponIn] at h ⊢
    all_goals first
      | exact h
      | exact⟨fun h=>Bool.noConfusion h,callsIn_wide.2 h⟩
      | exact⟨fun h=>Bool.noConfusion h,fun c cs _=>let ⟨v,w',r,s⟩:=h c cs;⟨v,w',r,stepsIn_wide.2 s⟩⟩
  | halt x w'=>cases x <;> exact h
def noDefer (ops:Array Oper):Bool:=ops.all fun o=>match o.op with | .defer _=>false|_=>true
theorem noDefer_at {i:Nat}{o:Oper}(h:noDefer ops=true)(hi:ops[i]?=some o):∀c,o.op≠.defer c:=by
  intro c hc;have hm:=Array.mem_of_getElem? hi;have:=(Array.all_eq_true_iff_forall_mem.1 h) o hm;rw[hc] at this;exact Bool.noConfusion this
theorem wpAnyIn_of_any (hnd:noDefer ops=true)(hQ:¬LetsOut Q):∀ (fuel:Nat) (listed:Array Bool) (a:Act) (w:World),wpAny P md ops Q fuel listed a w→wpAnyIn (Fence.wide.inRound r) n P md ops Q fuel listed a w
  | 0,_,_,_,h=>h
  | fuel+1,listed,a,w,h=>⟨h.1,fun i hi=>by
      have h2:=wpOp_mono (fun a' w' h'=>wpAnyIn_of_any hnd hQ fuel _ a' w' h') (h.2 i hi);unfold wpOp at h2;unfold wpOpIn
      cases ho:ops[i]? with
      | none=>simpa[ho] using h2
      | some o=>
        simp only[ho] at h2 ⊢
        by_cases hw:Region.wanted o (yielded ops a.tmps)=true
        · simp only[hw,if_true] at h2 ⊢;rcases h2 with h2|⟨_,h2⟩
          · exact oper_wpIn_of (noDefer_at hnd ho) h2
          · exact(hQ h2).elim
        · simp only[hw,if_false,Bool.false_eq_true] at h2 ⊢
          exact⟨fun _ _=>trivial,h2⟩⟩
end
theorem Row.at {w:World}{v:Value}{xs:List Value}(h:Row w v xs):∃a cap,v = .slice a xs.length cap∧∀i (hi:i<xs.length),∃b off,a=some ⟨b,off,none⟩∧w.cell? ⟨b,off+i,none⟩=some xs[i]:=by
  obtain⟨a,cap,hv,h⟩:=h;refine⟨a,cap,hv,fun i hi=>?_⟩;rcases h with h|⟨b,off,ha,hc⟩
  · subst h;simp at hi
  · exact⟨b,off,ha,hc i hi⟩
def inRow (v:Value)(k:Nat):Prop:=∃off n cap,v = .slice (some ⟨k,off,none⟩) n cap
end
section
open Go.RowKit
section
variable {P:Program}{ops:Array Oper}{Q:Exit→Act→World→Prop}{md:Region.Mode}{S:World→Prop}
def heldHead (P:Program)(md:Region.Mode)(ops:Array Oper)(Q:Exit→Act→World→Prop)(S:World→Prop)(n:Nat)(L:Array Bool→Act→World→Prop):Nat→Array Bool→Act→World→Prop
  | 0,done,a,w=>L done a w
  | f+1,done,a,w=>Region.ready md ops done≠[]∧∀i∈Region.ready md ops done,i<n∧wpOp P ops Q i (fun a' w'=>S w'∧heldHead P md ops Q S n L f (done.setIfInBounds i true) a' w') a w
theorem any_of_heldHead {n g:Nat}{L:Array Bool→Act→World→Prop}(hL:∀done a w,L done a w→wpAny P md ops Q g done a w) :
    ∀ (f:Nat) (done:Array Bool) (a:Act) (w:World),heldHead P md ops Q S n L f done a w→wpAny P md ops Q (f+g) done a w
  | 0,done,a,w,h=>by rw[Nat.zero_add];exact hL _ _ _ h
  | f+1,done,a,w,h=>by
    rw[show f+1+g=(f+g)+1 by omega];exact⟨fun h0=>absurd h0 h.1,fun i hi=>wpOp_mono (fun a' w' h'=>any_of_heldHead hL f _ a' w' h'.2) (h.2 i hi).2⟩
theorem held_first {n i:Nat}{oi:Oper}{v:Value}{L:Array Bool→Act→World→Prop}(hi:ops[i]?=some oi)(hsel:∀ (j:Nat) (o:Oper) cs b,ops[j]?=some o→o.op≠.select cs b)
    (hs:Region.sinkB md ops n=true) (hc:Region.chainB md ops n=true) (hn:n<ops.size) (hin:i<n) (hQ:∀c a w,Q (.panic c) (a.put oi.dst v) w→Q (.panic c) a w)
    (hdone:∀done a w,L done a w→∀j∈Region.ready md ops done,n≤j) :
    ∀ (f:Nat) (done:Array Bool) (a:Act) (w:World),HeadInv md ops n done →
      (∀j oj,ops[j]?=some oj→j≠i→done.getD j true=false→(∀e∈oj.after,Region.binds md e=true→e.on≠i)→oi.apart ops oj=true) →
      i∈Region.ready md ops done→YieldsIf P ops S oi v a→S w →
      heldHead P md ops Q S n L f (done.setIfInBounds i true) (a.put oi.dst v) w→heldHead P md ops Q S n L (f+1) done a w:=by
  intro f
  induction f with
  | zero=>
    intro done a w inv _ hr hy hS H;have hun:=(mem_ready.1 hr).1;refine⟨fun h=>(by rw[h] at hr;cases hr),fun j hj=>?_⟩
    have hjn:j<n:=by
      rcases Nat.lt_or_ge j n with h|h
      · exact h
      · exact absurd hj (tail_waits hs hc hn inv _ i rfl hin hun j h)
    refine⟨hjn,?_⟩
    by_cases hji:j=i
    · subst hji;exact hy.wpOp hi hS ⟨hS,H⟩
    · have:=hdone _ _ _ H j (ready_mono hj hji);omega
  | succ f ih=>
    intro done a w inv hfree hr hy hS H;have hun:=(mem_ready.1 hr).1;refine⟨fun h=>(by rw[h] at hr;cases hr),fun j hj=>?_⟩
    have hjn:j<n:=by
      rcases Nat.lt_or_ge j n with h|h
      · exact h
      · exact absurd hj (tail_waits hs hc hn inv _ i rfl hin hun j h)
    refine⟨hjn,?_⟩
    by_cases hji:j=i
    · subst hji;exact hy.wpOp hi hS ⟨hS,H⟩
    · have h1:=(H.2 j (ready_mono hj hji)).2;obtain⟨hjun,oj,hoj,hall⟩:=mem_ready.1 hj
      have hnot:∀e∈oj.after,Region.binds md e=true→e.on≠i:=fun e he hb heq=>by
        have h1:=hall e he hb;rw[heq,getD_both hun] at h1;cases h1
      have h2:=wpOp_putIf hoj (hfree j oj hoj hji hjun hnot) (fun cs b=>hsel i oi cs b hi) (fun cs b=>hsel j oj cs b hoj) hQ hy h1
      have hfree':∀k ok,ops[k]?=some ok→k≠i→(done.setIfInBounds j true).getD k true=false →
          (∀e∈ok.after,Region.binds md e=true→e.on≠i)→oi.apart ops ok=true:=fun k ok hk hki hun hno=>by
        refine hfree k ok hk hki ?_ hno
        by_cases hjk:j=k
        · subst hjk;exact hjun
        · rw[getD_set_ne true hjk] at hun;exact hun
      refine wpOp_mono (fun a' w' h3=>⟨h3.2.1,ih (done.setIfInBounds j true) a' w' (inv.set hj hjn) hfree' (ready_mono hr (Ne.symm hji)) h3.1 h3.2.1 ?_⟩) h2;rw[Array.setIfInBounds_comm _ _ hji];exact h3.2.2
def heldSeq (P:Program)(ops:Array Oper)(Q:Exit→Act→World→Prop)(S:World→Prop):Nat→List Oper→Act→World→Prop
  | 0,l,a,w=>wpList P ops Q l a w
  | _+1,[],_,_=>False
  | c+1,o::l,a,w=>if Region.wanted o (yielded ops a.tmps) then o.wp P a w (fun a' w'=>S w'∧heldSeq P ops Q S c l a' w') Q∨(o.asks P a w∧LetsOut Q) else S w∧heldSeq P ops Q S c l (a.put o.dst undef) w
theorem heldSeq_step {c:Nat}{o:Oper}{l:List Oper}{a:Act}{w:World}(hw:Region.wanted o (yielded ops a.tmps)=true)(h:o.wp P a w (fun a' w'=>S w'∧heldSeq P ops Q S c l a' w') Q):heldSeq P ops Q S (c+1) (o::l) a w:=by
  rw[heldSeq,if_pos hw];exact .inl h
def heldList (P:Program)(ops:Array Oper)(Q:Exit→Act→World→Prop)(S:World→Prop)(c:Nat):Nat→List Oper→Act→World→Prop
  | 0,l,a,w=>heldSeq P ops Q S c l a w
  | _+1,[],_,_=>False
  | m+1,o::l,a,w=>∃v,YieldsIf P ops S o v a∧(∀c a w,Q (.panic c) (a.put o.dst v) w→Q (.panic c) a w)∧heldList P ops Q S c m l (a.put o.dst v) w
theorem heldList_step {c m:Nat}{o:Oper}{l:List Oper}{a:Act}{w:World}(v:Value)(hw:Region.wanted o (yielded ops a.tmps)=true)(hy:∀w,S w→(execOp a.eval o).run P w = .ok (.value v) w)(hQ:∀c a w,Q (.panic c) (a.put o.dst v) w→Q (.panic c) a w)
    (h:heldList P ops Q S c m l (a.put o.dst v) w):heldList P ops Q S c (m+1) (o::l) a w:=⟨v,.inl ⟨hw,hy⟩,hQ,h⟩
def heldB (md:Region.Mode)(ops:Array Oper)(m n:Nat):Bool:=
  Region.noSelect ops && decide (m≤n) && decide (n<ops.size) && Region.sinkB md ops n && Region.chainB md ops n && Region.lexHead md ops (ops.size-m) m 0 (Array.replicate ops.size false)
def heldLeaf (P:Program)(md:Region.Mode)(ops:Array Oper)(Q:Exit→Act→World→Prop)(l:List Oper)(n:Nat)(done:Array Bool)(a:Act)(w:World):Prop:=
  Region.seqB md ops (ops.size-n) n done=true∧wpList P ops Q (l.drop n) a w
theorem held_seq {l:List Oper}(hl:l.toArray=ops){n:Nat}(hn:n<ops.size):∀ (c k:Nat) (done:Array Bool) (a:Act) (w:World),k+c=n→Region.seqB md ops (ops.size-k) k done=true →
    heldSeq P ops Q S c (l.drop k) a w→heldHead P md ops Q S n (heldLeaf P md ops Q l n) c done a w
  | 0,k,done,a,w,hk,hB,h=>by
    obtain rfl:k=n:=by omega
    exact⟨hB,h⟩
  | c+1,k,done,a,w,hk,hB,h=>by
    have hkl:k<l.length:=by rw[←hl] at hn;simp at hn;omega
    have h0:ops[k]?=some l[k]:=by rw[←hl];simp[hkl]
    rw[List.drop_eq_getElem_cons hkl] at h;simp only[heldSeq] at h;rw[show ops.size-k=(ops.size-(k+1))+1 by omega] at hB;simp only[Region.seqB,Bool.and_eq_true,decide_eq_true_eq] at hB;refine⟨fun h1=>(by rw[hB.1] at h1;cases h1),fun i hi=>?_⟩;rw[hB.1] at hi;have hik:i=k:=by simpa using hi
    subst hik;refine⟨by omega,?_⟩;have ih:=fun a' w'=>held_seq hl hn c (i+1) (done.setIfInBounds i true) a' w' (by omega) hB.2;unfold wpOp;simp only[h0];split
    · rename_i hw;simp only[hw,if_true] at h;exact h.imp (Oper.wp_mono fun a' w' h'=>⟨h'.1,ih a' w' h'.2⟩) id
    · rename_i hw;simp only[hw,if_false,Bool.false_eq_true] at h;exact⟨h.1,ih _ _ h.2⟩
theorem held_lex {l:List Oper}(hl:l.toArray=ops){n:Nat}(hsel:Region.noSelect ops=true)(hs:Region.sinkB md ops n=true)(hc:Region.chainB md ops n=true)(hn:n<ops.size) :
    ∀ (m k:Nat) (done:Array Bool) (a:Act) (w:World),k+m≤n→HeadInv md ops n done→Region.lexHead md ops (ops.size-(k+m)) m k done=true→S w →
    heldList P ops Q S (n-(k+m)) m (l.drop k) a w→heldHead P md ops Q S n (heldLeaf P md ops Q l n) (n-k) done a w
  | 0,k,done,a,w,hk,_,hB,_,h=>held_seq hl hn (n-k) k done a w (by omega) (by simpa[Region.lexHead] using hB) (by simpa[heldList] using h)
  | m+1,k,done,a,w,hk,inv,hB,hS,h=>by
    have hkl:k<l.length:=by rw[←hl] at hn;simp at hn;omega
    have h0:ops[k]?=some l[k]:=by rw[←hl];simp[hkl]
    rw[List.drop_eq_getElem_cons hkl] at h;simp only[heldList] at h;obtain⟨v,hy,hQ,h⟩:=h;simp only[Region.lexHead,Bool.and_eq_true] at hB;obtain⟨⟨hr,hf⟩,hB'⟩:=hB;have hr':k∈Region.ready md ops done:=by simpa using hr
    rw[show n-k=(n-(k+1))+1 by omega];refine held_first h0 (Region.noSelect_spec hsel) hs hc hn (by omega) hQ (fun done' a' w' hL=>seqB_ready hL.1) _ done a w inv (Region.free_spec h0 hf) hr' hy hS ?_;exact held_lex hl hsel hs hc hn m (k+1) _ _ w (by omega) (inv.set hr' (by omega)) (by rw[show k+1+m=k+(m+1) by omega];exact hB') hS (by rw[show k+1+m=k+(m+1) by omega];exact h)
theorem wpAny_held {a:Act}{w:World}{l:List Oper}(m n:Nat)(S:World→Prop)(hB:heldB .any l.toArray m n=true)(hS:S { w with drawn:=w.drawn+1 })
    (h:heldList P l.toArray Q S (n-m) m l a { w with drawn:=w.drawn+1 }) :
    wpAny P .any l.toArray Q l.toArray.size (Array.replicate l.toArray.size false) a { w with drawn:=w.drawn+1 }:=by
  simp only[heldB,Bool.and_eq_true,decide_eq_true_eq] at hB;obtain⟨⟨⟨⟨⟨hsel,hmn⟩,hn⟩,hs⟩,hc⟩,hlex⟩:=hB
  have inv0:HeadInv .any l.toArray n (Array.replicate l.toArray.size false):=
    ⟨by simp,fun j oj _ hl=>(by rw[getD_replicate_false] at hl;cases hl),fun t _ ht=>getD_in (by simpa using ht) (getD_replicate_false _ _)⟩
  have H:=held_lex (P:=P) (Q:=Q) (S:=S) (l:=l) rfl hsel hs hc hn m 0 _ a { w with drawn:=w.drawn+1 } (by omega) inv0 (by simpa using hlex) hS (by simpa using h);have hdl:(l.drop n).length=l.toArray.size-n:=by simp
  have:=any_of_heldHead (Q:=Q) (g:=l.toArray.size-n) (fun done a' w' hL=>by
    have:=wpAny_of_seq (Q':=Q) (l.drop n) n done a' w' (fun j=>by simp) (by rw[hdl];exact hL.1) hL.2
    rwa [hdl] at this) _ _ _ _ H
  rw[Nat.sub_zero,Nat.add_sub_cancel' (Nat.le_of_lt hn)] at this;exact this
end
theorem wpIn_region_held {P:Program}{r f id:Nat}{Q:Exit→Act→World→Prop}{a:Act}{w:World}{l:List Oper}(m n:Nat)(S:World→Prop)(hnd:noDefer l.toArray=true)(hQ:¬LetsOut Q)(hm:P.follows .mixedOrders=true)(hB:heldB .any l.toArray m n=true)(hS:S w.drew)
    (h:heldList P l.toArray Q S (n-m) m l a w.drew):(Code.region id l.toArray true).wpIn (Fence.wide.inRound r) f P Q a w:=
  wpIn_region_any hm (wpAnyIn_of_any hnd hQ _ _ _ _ (wpAny_held m n S hB hS h))
theorem wp_region_helds {P:Program}{id:Nat}{Q:Exit→Act→World→Prop}{a:Act}{w:World}{l:List Oper}(m n:Nat)(S:World→Prop)(hm:P.follows .mixedOrders=true)(hB:heldB .any l.toArray m n=true)(hS:S w.drew)
    (h:heldList P l.toArray Q S (n-m) m l a w.drew):(Code.region id l.toArray true).wp P Q a w:=
  wp_region_any hm (wpAny_held m n S hB hS h)
end
section
open Go.RowKit Go.Shelf
@[reducible] def vI (n:Int):Value:=.int .i64 n
theorem OwnL.ce2 {w:World}{B:Nat}{a0 a1:Value}{r:List Value}(h:OwnL w B (a0::a1::r)):w.cell? ⟨B,0,none⟩=some a0∧w.cell? ⟨B,1,none⟩=some a1:=⟨(h 0 _ rfl).1,(h 1 _ rfl).1⟩
theorem OwnL.ce3 {w:World}{B:Nat}{a0 a1 a2:Value}{r:List Value}(h:OwnL w B (a0::a1::a2::r)):w.cell? ⟨B,0,none⟩=some a0∧w.cell? ⟨B,1,none⟩=some a1∧w.cell? ⟨B,2,none⟩=some a2:=⟨(h 0 _ rfl).1,(h 1 _ rfl).1,(h 2 _ rfl).1⟩
theorem OwnL.ce4 {w:World}{B:Nat}{a0 a1 a2 a3:Value}{r:List Value}(h:OwnL w B (a0::a1::a2::a3::r)):w.cell? ⟨B,0,none⟩=some a0∧w.cell? ⟨B,1,none⟩=some a1∧w.cell? ⟨B,2,none⟩=some a2∧w.cell? ⟨B,3,none⟩=some a3:=⟨(h 0 _ rfl).1,(h 1 _ rfl).1,(h 2 _ rfl).1,(h 3 _ rfl).1⟩
theorem OwnL.ce5 {w:World}{B:Nat}{a0 a1 a2 a3 a4:Value}{r:List Value}(h:OwnL w B (a0::a1::a2::a3::a4::r)):w.cell? ⟨B,0,none⟩=some a0∧w.cell? ⟨B,1,none⟩=some a1∧w.cell? ⟨B,2,none⟩=some a2∧w.cell? ⟨B,3,none⟩=some a3∧w.cell? ⟨B,4,none⟩=some a4:=⟨(h 0 _ rfl).1,(h 1 _ rfl).1,(h 2 _ rfl).1,(h 3 _ rfl).1,(h 4 _ rfl).1⟩
theorem OwnL.ce6 {w:World}{B:Nat}{a0 a1 a2 a3 a4 a5:Value}{r:List Value}(h:OwnL w B (a0::a1::a2::a3::a4::a5::r)):w.cell? ⟨B,0,none⟩=some a0∧w.cell? ⟨B,1,none⟩=some a1∧w.cell? ⟨B,2,none⟩=some a2∧w.cell? ⟨B,3,none⟩=some a3∧w.cell? ⟨B,4,none⟩=some a4∧w.cell? ⟨B,5,none⟩=some a5:=⟨(h 0 _ rfl).1,(h 1 _ rfl).1,(h 2 _ rfl).1,(h 3 _ rfl).1,(h 4 _ rfl).1,(h 5 _ rfl).1⟩
theorem OwnL.ce14 {w:World}{B:Nat}{a0 a1 a2 a3 a4 a5 a6 a7 a8 a9 a10 a11 a12 a13:Value}{r:List Value}(h:OwnL w B (a0::a1::a2::a3::a4::a5::a6::a7::a8::a9::a10::a11::a12::a13::r)):w.cell? ⟨B,0,none⟩=some a0∧w.cell? ⟨B,1,none⟩=some a1∧w.cell? ⟨B,2,none⟩=some a2∧w.cell? ⟨B,3,none⟩=some a3∧w.cell? ⟨B,4,none⟩=some a4∧w.cell? ⟨B,5,none⟩=some a5∧w.cell? ⟨B,6,none⟩=some a6∧w.cell? ⟨B,7,none⟩=some a7∧w.cell? ⟨B,8,none⟩=some a8∧w.cell? ⟨B,9,none⟩=some a9∧w.cell? ⟨B,10,none⟩=some a10∧w.cell? ⟨B,11,none⟩=some a11∧w.cell? ⟨B,12,none⟩=some a12∧w.cell? ⟨B,13,none⟩=some a13:=⟨(h 0 _ rfl).1,(h 1 _ rfl).1,(h 2 _ rfl).1,(h 3 _ rfl).1,(h 4 _ rfl).1,(h 5 _ rfl).1,(h 6 _ rfl).1,(h 7 _ rfl).1,(h 8 _ rfl).1,(h 9 _ rfl).1,(h 10 _ rfl).1,(h 11 _ rfl).1,(h 12 _ rfl).1,(h 13 _ rfl).1⟩
theorem OwnL.ce15 {w:World}{B:Nat}{a0 a1 a2 a3 a4 a5 a6 a7 a8 a9 a10 a11 a12 a13 a14:Value}{r:List Value}(h:OwnL w B (a0::a1::a2::a3::a4::a5::a6::a7::a8::a9::a10::a11::a12::a13::a14::r)):w.cell? ⟨B,0,none⟩=some a0∧w.cell? ⟨B,1,none⟩=some a1∧w.cell? ⟨B,2,none⟩=some a2∧w.cell? ⟨B,3,none⟩=some a3∧w.cell? ⟨B,4,none⟩=some a4∧w.cell? ⟨B,5,none⟩=some a5∧w.cell? ⟨B,6,none⟩=some a6∧w.cell? ⟨B,7,none⟩=some a7∧w.cell? ⟨B,8,none⟩=some a8∧w.cell? ⟨B,9,none⟩=some a9∧w.cell? ⟨B,10,none⟩=some a10∧w.cell? ⟨B,11,none⟩=some a11∧w.cell? ⟨B,12,none⟩=some a12∧w.cell? ⟨B,13,none⟩=some a13∧w.cell? ⟨B,14,none⟩=some a14:=⟨(h 0 _ rfl).1,(h 1 _ rfl).1,(h 2 _ rfl).1,(h 3 _ rfl).1,(h 4 _ rfl).1,(h 5 _ rfl).1,(h 6 _ rfl).1,(h 7 _ rfl).1,(h 8 _ rfl).1,(h 9 _ rfl).1,(h 10 _ rfl).1,(h 11 _ rfl).1,(h 12 _ rfl).1,(h 13 _ rfl).1,(h 14 _ rfl).1⟩
theorem OwnL.cf3 {w:World}{B:Nat}{a0 a1 a2:Value}{r:List Value}(h:OwnL w B (a0::a1::a2::r)):w.cell? ⟨B,0,none⟩=some a0∧w.frozen? ⟨B,0,none⟩=false∧w.cell? ⟨B,1,none⟩=some a1∧w.frozen? ⟨B,1,none⟩=false∧w.cell? ⟨B,2,none⟩=some a2∧w.frozen? ⟨B,2,none⟩=false:=⟨(h 0 _ rfl).1,(h 0 _ rfl).2,(h 1 _ rfl).1,(h 1 _ rfl).2,(h 2 _ rfl).1,(h 2 _ rfl).2⟩
theorem OwnL.cf4 {w:World}{B:Nat}{a0 a1 a2 a3:Value}{r:List Value}(h:OwnL w B (a0::a1::a2::a3::r)):w.cell? ⟨B,0,none⟩=some a0∧w.frozen? ⟨B,0,none⟩=false∧w.cell? ⟨B,1,none⟩=some a1∧w.frozen? ⟨B,1,none⟩=false∧w.cell? ⟨B,2,none⟩=some a2∧w.frozen? ⟨B,2,none⟩=false∧w.cell? ⟨B,3,none⟩=some a3∧w.frozen? ⟨B,3,none⟩=false:=⟨(h 0 _ rfl).1,(h 0 _ rfl).2,(h 1 _ rfl).1,(h 1 _ rfl).2,(h 2 _ rfl).1,(h 2 _ rfl).2,(h 3 _ rfl).1,(h 3 _ rfl).2⟩
theorem OwnL.cf15 {w:World}{B:Nat}{a0 a1 a2 a3 a4 a5 a6 a7 a8 a9 a10 a11 a12 a13 a14:Value}{r:List Value}(h:OwnL w B (a0::a1::a2::a3::a4::a5::a6::a7::a8::a9::a10::a11::a12::a13::a14::r)):w.cell? ⟨B,0,none⟩=some a0∧w.frozen? ⟨B,0,none⟩=false∧w.cell? ⟨B,1,none⟩=some a1∧w.frozen? ⟨B,1,none⟩=false∧w.cell? ⟨B,2,none⟩=some a2∧w.frozen? ⟨B,2,none⟩=false∧w.cell? ⟨B,3,none⟩=some a3∧w.frozen? ⟨B,3,none⟩=false∧w.cell? ⟨B,4,none⟩=some a4∧w.frozen? ⟨B,4,none⟩=false∧w.cell? ⟨B,5,none⟩=some a5∧w.frozen? ⟨B,5,none⟩=false∧w.cell? ⟨B,6,none⟩=some a6∧w.frozen? ⟨B,6,none⟩=false∧w.cell? ⟨B,7,none⟩=some a7∧w.frozen? ⟨B,7,none⟩=false∧w.cell? ⟨B,8,none⟩=some a8∧w.frozen? ⟨B,8,none⟩=false∧w.cell? ⟨B,9,none⟩=some a9∧w.frozen? ⟨B,9,none⟩=false∧w.cell? ⟨B,10,none⟩=some a10∧w.frozen? ⟨B,10,none⟩=false∧w.cell? ⟨B,11,none⟩=some a11∧w.frozen? ⟨B,11,none⟩=false∧w.cell? ⟨B,12,none⟩=some a12∧w.frozen? ⟨B,12,none⟩=false∧w.cell? ⟨B,13,none⟩=some a13∧w.frozen? ⟨B,13,none⟩=false∧w.cell? ⟨B,14,none⟩=some a14∧w.frozen? ⟨B,14,none⟩=false:=⟨(h 0 _ rfl).1,(h 0 _ rfl).2,(h 1 _ rfl).1,(h 1 _ rfl).2,(h 2 _ rfl).1,(h 2 _ rfl).2,(h 3 _ rfl).1,(h 3 _ rfl).2,(h 4 _ rfl).1,(h 4 _ rfl).2,(h 5 _ rfl).1,(h 5 _ rfl).2,(h 6 _ rfl).1,(h 6 _ rfl).2,(h 7 _ rfl).1,(h 7 _ rfl).2,(h 8 _ rfl).1,(h 8 _ rfl).2,(h 9 _ rfl).1,(h 9 _ rfl).2,(h 10 _ rfl).1,(h 10 _ rfl).2,(h 11 _ rfl).1,(h 11 _ rfl).2,(h 12 _ rfl).1,(h 12 _ rfl).2,(h 13 _ rfl).1,(h 13 _ rfl).2,(h 14 _ rfl).1,(h 14 _ rfl).2⟩
theorem lat {w:World}{B:Nat}{vs:List Value}(o:OwnL w B vs)(i:Nat){v:Value}(h:vs[i]?=some v):∀x:Later w,x.w.cell? ⟨B,i,none⟩=some v:=fun x=>x.cell (o i v h).1
theorem frS (w:World)(B k:Nat)(v:Value):Fr (fun j=>j=B) w (w.setCell ⟨B,k,none⟩ v):=(Fr.refl (fun j=>j=B) w).setCell (p:=⟨B,k,none⟩) (.inl rfl) v
theorem Fr.setCs {S:Nat→Prop}{b:Nat}(hb:S b):∀ (vs:List Value) (o:Nat) {a w:World},Fr S a w→Fr S a (w.setCells b o vs)
  | [],_,_,_,h=>h
  | v::r,o,a,w,h=>Fr.setCs hb r (o+1) (h.setCell (p:=⟨b,o,none⟩) (.inl hb) v)
theorem frC (w:World)(B k:Nat)(vs:List Value):Fr (fun j=>j=B) w (w.setCells B k vs):=Fr.setCs (S:=fun j=>j=B) rfl _ _ (Fr.refl _ _)
theorem newL (w:World)(vs:List Value)(t:TypeId):Calm w (w.alloc (.cells vs.toArray t))∧OwnL (w.alloc (.cells vs.toArray t)) w.heap.size vs:=⟨(Fr.refl _ _).alloc _,OwnL.new w vs t⟩
theorem newE (w:World)(vs:List Value)(t:TypeId):∃W,w.alloc (.cells vs.toArray t)=W∧Calm w W∧OwnL W w.heap.size vs∧W.heap.size=w.heap.size+1:=⟨_,rfl,(Fr.refl _ _).alloc _,OwnL.new w vs t,by simp⟩
theorem newE2 (w:World)(v1:List Value)(t1:TypeId)(v2:List Value)(t2:TypeId):∃W,((w.alloc (.cells v1.toArray t1)).alloc (.cells v2.toArray t2))=W∧Calm w W∧OwnL W (w.heap.size) v1∧OwnL W (w.heap.size+1) v2:=by
  obtain⟨W1,e1,k1,o1,s1⟩:=newE w v1 t1;obtain⟨W2,e2,k2,o2,s2⟩:=newE W1 v2 t2;rw[s1] at o2 s2;have c2:=k2;have c1:=k1.trans c2;exact⟨W2,by rw[e1,e2],c1,o1.calm c2,o2⟩
theorem newE3 (w:World)(v1:List Value)(t1:TypeId)(v2:List Value)(t2:TypeId)(v3:List Value)(t3:TypeId):∃W,(((w.alloc (.cells v1.toArray t1)).alloc (.cells v2.toArray t2)).alloc (.cells v3.toArray t3))=W∧Calm w W∧OwnL W (w.heap.size) v1∧OwnL W (w.heap.size+1) v2∧OwnL W (w.heap.size+1+1) v3:=by
  obtain⟨W1,e1,k1,o1,s1⟩:=newE w v1 t1;obtain⟨W2,e2,k2,o2,s2⟩:=newE W1 v2 t2;rw[s1] at o2 s2;obtain⟨W3,e3,k3,o3,s3⟩:=newE W2 v3 t3;rw[s2] at o3 s3;have c3:=k3;have c2:=k2.trans c3;have c1:=k1.trans c2;exact⟨W3,by rw[e1,e2,e3],c1,o1.calm c2,o2.calm c3,o3⟩
theorem newE4 (w:World)(v1:List Value)(t1:TypeId)(v2:List Value)(t2:TypeId)(v3:List Value)(t3:TypeId)(v4:List Value)(t4:TypeId):∃W,((((w.alloc (.cells v1.toArray t1)).alloc (.cells v2.toArray t2)).alloc (.cells v3.toArray t3)).alloc (.cells v4.toArray t4))=W∧Calm w W∧OwnL W (w.heap.size) v1∧OwnL W (w.heap.size+1) v2∧OwnL W (w.heap.size+1+1) v3∧OwnL W (w.heap.size+1+1+1) v4:=by
  obtain⟨W1,e1,k1,o1,s1⟩:=newE w v1 t1;obtain⟨W2,e2,k2,o2,s2⟩:=newE W1 v2 t2;rw[s1] at o2 s2;obtain⟨W3,e3,k3,o3,s3⟩:=newE W2 v3 t3;rw[s2] at o3 s3;obtain⟨W4,e4,k4,o4,s4⟩:=newE W3 v4 t4;rw[s3] at o4 s4;have c4:=k4;have c3:=k3.trans c4;have c2:=k2.trans c3;have c1:=k1.trans c2;exact⟨W4,by rw[e1,e2,e3,e4],c1,o1.calm c2,o2.calm c3,o3.calm c4,o4⟩
theorem run_mf:∀ (fn:Fn) (first cap:Array Value) (w:World),(Instr.makeFunc fn first cap).run Tryz.prog w = .ok (.func fn first cap) w:=fun _ _ _ _=>rfl
end
section
def mk (s d:Nat):Nat:=(2 ^ d-1)*2 ^ s
def gt (W s d:Nat):Nat:=W / 2 ^ s % 2 ^ d
theorem pow_le {a b:Nat}(h:a≤b):2 ^ a≤2 ^ b:=Nat.pow_le_pow_right (by omega) h
theorem two64:(2:Nat) ^ 64=18446744073709551616:=by decide
theorem mk_lt {s d:Nat}(h:s+d≤64):mk s d<18446744073709551616:=by
  have h1:=pow_le h;rw[Nat.pow_add,two64] at h1;have h2:0<2 ^ s:=Nat.two_pow_pos s;have h3:0<2 ^ d:=Nat.two_pow_pos d;unfold mk;have h4:(2 ^ d-1)*2 ^ s+2 ^ s=2 ^ s*2 ^ d:=by rw[Nat.sub_mul,Nat.one_mul,Nat.mul_comm];exact Nat.sub_add_cancel (Nat.le_mul_of_pos_right _ h3)
  omega
theorem ones_div {d:Nat}(h1:1≤d)(h:d≤64):18446744073709551615 / 2 ^ (64-d)=2 ^ d-1:=by
  have e:(2:Nat) ^ 64=2 ^ (64-d)*2 ^ d:=by rw[←Nat.pow_add];congr 1;omega
  rw[two64] at e;have h2:0<2 ^ (64-d):=Nat.two_pow_pos _;have h3:0<2 ^ d:=Nat.two_pow_pos d
  have:18446744073709551615=(2 ^ (64-d)-1)+2 ^ (64-d)*(2 ^ d-1):=by
    rw[Nat.mul_sub,Nat.mul_one,←e];have:2 ^ (64-d)≤18446744073709551616:=by rw[←two64];exact pow_le (by omega)
    omega
  rw[this,Nat.add_mul_div_left _ _ h2,Nat.div_eq_of_lt (by omega),Nat.zero_add]
theorem mask_eq {s d:Nat}(h1:1≤d)(h:s+d≤64):IntKind.u64.wrap (18446744073709551615 / 2 ^ (64-d)*2 ^ s)=(mk s d:Nat):=by
  have e:(18446744073709551615:Int) / 2 ^ (64-d)*2 ^ s=((mk s d:Nat):Int):=by
    unfold mk;rw[←ones_div h1 (by omega),Int.natCast_mul,Int.natCast_pow,Int.natCast_ediv,Int.natCast_pow];rfl
  rw[e,IntKind.wrap_u64];have:=mk_lt h;omega
theorem testBit_mk (s d i:Nat):(mk s d).testBit i=decide (s≤i∧i<s+d):=by
  unfold mk;rw[←Nat.shiftLeft_eq,Nat.testBit_shiftLeft,Nat.testBit_two_pow_sub_one];rw[←Bool.decide_and,decide_eq_decide];exact⟨fun h=>⟨h.1,by omega⟩,fun h=>⟨h.1,by omega⟩⟩
theorem testBit_gt (W s d i:Nat):(gt W s d).testBit i=(decide (i<d) && W.testBit (s+i)):=by
  unfold gt;rw[Nat.testBit_mod_two_pow,←Nat.shiftRight_eq_div_pow,Nat.testBit_shiftRight]
theorem gt_lt (W s d:Nat):gt W s d<2 ^ d:=Nat.mod_lt _ (Nat.two_pow_pos d)
theorem and_mk (W s d:Nat):(W &&& mk s d) / 2 ^ s=gt W s d:=by
  apply Nat.eq_of_testBit_eq;intro i;rw[testBit_gt,←Nat.shiftRight_eq_div_pow,Nat.testBit_shiftRight,Nat.testBit_and,testBit_mk]
  by_cases h:i<d <;> simp[h]
theorem get_eq {W s d:Nat}(h:s+d≤64)(hW:W<18446744073709551616):bits .and .u64 (W:Int) (mk s d:Nat) / 2 ^ s=(gt W s d:Nat):=by
  rw[u64_and_nat W (mk s d) hW (mk_lt h),←and_mk];push_cast;rfl
end
section
open Go.RowKit Go.Shelf
abbrev partV (s wd:Int):Value:=.agg #[.int .i64 s,.int .i64 wd]
abbrev wV (n:Nat):Value:=.int .u64 (n:Int)
theorem right_yes (s wd:Int)(w:World)(h1:0≤s)(h2:1≤wd)(h3:s+wd≤64) :
    Calls Tryz.prog 223 #[partV s wd] w fun e w'=>e = .returned (.bool true)∧Calm w w':=by
  have a1:s<64:=by omega
  have a2:wd≤64:=by omega
  go_enter Tryz.func223,Tryz.ntmps223;go_wp2;go_ret;exact⟨rfl,Fr.alloc (Fr.refl _ _) _⟩
theorem mask_yes (s wd:Int)(w:World)(h1:0≤s)(h2:1≤wd)(h3:s+wd≤64) :
    Calls Tryz.prog 224 #[partV s wd] w fun e w'=>e = .returned (wV (mk s.toNat wd.toNat))∧Calm w w':=by
  go_enter Tryz.func224,Tryz.ntmps224;go_wp2_with fail
  refine(right_yes s wd _ h1 h2 h3).mono ?_;rintro e w1 ⟨rfl,c1⟩;have b1:=Fr.cellAt c1 ((Own.new w #[.int .i64 s,.int .i64 wd] 262 0 rfl).1) id;have b2:=Fr.cellAt c1 ((Own.new w #[.int .i64 s,.int .i64 wd] 262 1 rfl).1) id;have a1:0≤64-wd:=by omega
  have a2:64-wd≤64:=by omega
  have a3:s≤64:=by omega
  go_wp2_with fail
  go_quiet (fail)
  go_wp2;go_ret;refine⟨?_,(Fr.trans (Fr.alloc (Fr.refl _ _) _) c1).drewN _⟩;obtain⟨S,rfl⟩:=Int.eq_ofNat_of_zero_le h1;obtain⟨D,rfl⟩:=Int.eq_ofNat_of_zero_le (show 0≤wd by omega);have e:=mask_eq (s:=S) (d:=D) (by omega) (by omega);rw[show(64-(D:Int)).toNat=64-D from by omega,Int.toNat_natCast,Int.toNat_natCast];exact congrArg (fun x=>Ending.returned (.int .u64 x)) e
theorem get_yes (W:Nat)(hW:W<18446744073709551616)(s wd:Int)(w:World)(h1:0≤s)(h2:1≤wd)(h3:s+wd≤64) :
    Calls Tryz.prog 205 #[wV W,partV s wd] w fun e w'=>e = .returned (wV (gt W s.toNat wd.toNat))∧Calm w w':=by
  go_enter Tryz.func205,Tryz.ntmps205;go_wp2_with fail
  refine(right_yes s wd _ h1 h2 h3).mono ?_;rintro e w1 ⟨rfl,c1⟩;have b1:=Fr.cellAt c1 ((Own.new w #[.int .i64 s,.int .i64 wd] 262 0 rfl).1) id;have b2:=Fr.cellAt c1 ((Own.new w #[.int .i64 s,.int .i64 wd] 262 1 rfl).1) id;have a3:s≤64:=by omega
  have hz:=c1.size;go_wp2_with fail
  have q1:∀x:Later w1,x.w.cell? ⟨w.heap.size,0,none⟩=some (.int .i64 s):=fun x=>x.cell b1;have q2:∀x:Later w1,x.w.cell? ⟨w.heap.size,1,none⟩=some (.int .i64 wd):=fun x=>x.cell b2;refine wp_region_calm (by kernel_rfl) (by kernel_rfl) ?_
  repeat (go_big_quiet_step ((go_at_call 224;exact Calls.calm_of (mask_yes s wd _ h1 h2 h3))))
  refine wpQuiet_nil ?_;intro w2 hw';have c2:=Later.out hw';clear hw';go_wp2;go_ret;refine⟨?_,(Fr.trans (Fr.alloc (Fr.refl _ _) _) c1).trans c2⟩;obtain⟨S,rfl⟩:=Int.eq_ofNat_of_zero_le h1;obtain⟨D,rfl⟩:=Int.eq_ofNat_of_zero_le (show 0≤wd by omega);have e:=get_eq (s:=S) (d:=D) (by omega) hW;rw[Int.toNat_natCast,Int.toNat_natCast];exact congrArg (fun x=>Ending.returned (.int .u64 x)) e
end
section
open Go.ChangeShapes Go.WideShapes Go.ChangeAt Go.RowKit
section
variable {H:Type}{enc:TypeId × Value→H}{P:Program}{w:World}{base:Nat}{spare:Nat→Bool}{held:Bool}
theorem i64_of_wf {n:Int}(h:(Lit.int .i64 n).wf=true):I64 n:=bounds_i64 h
theorem open_row {r:Reach}{b0:Nat}{t e:TypeId}{k:IntKind}{v:Value}{d:DataW H}{p:List MemPlace}(ht:P.underlying t=some (.slice e))(he:P.underlying e=some (.int k))(hE:P.cellsOf e=1)
    (hv:Value.okWide P w r b0 t v) (h:DataW.Trod enc P w base (fun _=>true) held t v d p):∃xs:List Int,Row w v (xs.map (Value.int k))∧(∀x∈xs,(Lit.int k x).wf=true)∧xs.length≤maxLen:=by
  obtain⟨a0,len,cap,rfl⟩:=okWide_slice ht hv;obtain⟨fuel,hf⟩:=h;rcases open_ints ht he hE hf with ⟨hcs,_⟩|⟨x,l,c,zs,hcs,_,hl,hm,hz,_,hcell,hwz⟩
  · simp[Value.cells] at hcs;obtain⟨rfl,rfl,rfl⟩:=hcs;exact⟨[],Row.nil w,by simp,by simp⟩
  · simp[Value.cells] at hcs;obtain⟨rfl,rfl,rfl⟩:=hcs;simp at hz;refine⟨zs.take len,⟨some x,cap,by simp;omega,?_⟩,fun y hy=>hwz y (List.mem_of_mem_take hy),by simp;omega⟩
    by_cases h0:len=0
    · left;simp[h0]
    · right;obtain⟨b,off,spot⟩:=x;have hspot:spot=none:=by simpa[Addr.add] using World.cell?_spot (hcell 0 (by omega))
      subst hspot;refine⟨b,off,rfl,fun i hi=>?_⟩;have:=hcell i (by simp at hi;omega);simp at hi;have hi2:i<zs.length:=by omega
      by_cases h0:i=0
      · subst h0;simpa[Addr.add,List.getD,hi2] using this
      · simpa[Addr.add,List.getD,hi2,h0] using this
end
end
section
open Go.ChangeShapes Go.WideShapes Go.ChangeAt Go.RowKit Go.Deep
section
variable {H:Type}{enc:TypeId × Value→H}{P:Program}{w:World}{base:Nat}{held:Bool}
theorem addr_add {b off n:Nat} : (⟨b,off,none⟩:Addr).add n=⟨b,off+n,none⟩:=by
  unfold Addr.add;split <;> simp_all
theorem trod_i64 {t:TypeId}{fuel:Nat}{spare:Nat→Bool}{cs:List Value}{x:DataW H × List MemPlace}(ht:P.underlying t=some (.int .i64))(h:DataW.trod enc P w base spare held fuel t cs=some x):∃n,cs=[vI n]∧I64 n:=by
  obtain⟨n,hn,_,hw⟩:=DataW.trod_int ht h;exact⟨n,hn,i64_of_wf hw⟩
end
end
end Go.Proofs.YtdffnjikmkgjkaaGreat
