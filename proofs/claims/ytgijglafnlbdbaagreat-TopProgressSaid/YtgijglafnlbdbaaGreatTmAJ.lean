import Derived.Test.YtgijglafnlbdbaaGreatTmAI
set_option linter.all false
set_option maxHeartbeats 4000000
set_option maxRecDepth 8000
namespace Go.Proofs.YtgijglafnlbdbaaGreat
open RowKit Shelf Proofs.Tryz
open Go renaming World->ag,Value->aA,Calls->aJ
theorem SN(c n:Int)(hn:0<n):0<=pk c n/\pk c n<n:=⟨Int.emod_nonneg _ (by omega),Int.emod_lt_of_pos _ hn⟩
def xD(w:ag)(n:Int)(e:Ending)(w':ag):Prop:=(∃v:Int,e=.returned (vI v)/\0<=v/\v<n)/\w=w'
theorem cR(c n:Int)(w:ag)(hc:bX c)(hn:0<n) :
 aJ prog 34 #[vI c,vI n] w (xD w n):=by
 obtain⟨h1,h2⟩:=hc;have wU:(n==0)=false:=by simp;omega
 have Sg:=SN c n hn
 by_cases h:c<0
 ·have h0:0<=-(c+1):=by omega
  have hp:Hid (pk c n=(-(c+1)) % n):=by unfold pk;rw[if_pos h];rfl
  go_in;go_wp2;go_ret;refine⟨⟨pk c n,?_,Sg⟩,rfl⟩;show Ending.returned (vI (-(Int.tmod (c+1) n)))=_;rw[hp.out,<-Int.neg_tmod,Int.tmod_eq_emod_of_nonneg h0]
 ·have h0:0<=c:=by omega
  have hp:Hid (pk c n=c % n):=by unfold pk;rw[if_neg h];rfl
  go_in;go_wp2;go_ret;exact⟨⟨pk c n,by rw[hp.out];rfl,Sg⟩,rfl⟩
structure Dd where
 k:Int
 a:Int
 b:Int
 i:Int
 n:Int
def fW(d:Dd):List aA:=[vI d.k,vI d.a,vI d.b,vI d.i,vI d.n]
def fX(d:Dd):aA:=.agg #[vI d.k,vI d.a,vI d.b,vI d.i,vI d.n]
theorem tj(d:Dd):(fW d).length=5:=rfl
abbrev dD:Dd:=⟨0,0,0,0,0⟩
def R6(x:Int):Prop:=0<=x/\x<=5
def R8(x:Int):Prop:=0<=x/\x<=7
def R5(x:Int):Prop:=0<=x/\x<=4
def RM(x:Int):Prop:=-1000000<=x/\x<=1000000
def Dd.Rt(d:Dd):Prop:=
 (d.k=1/\R6 d.a/\d.b=0/\R5 d.i/\R5 d.n)\/(d.k=2/\R6 d.a/\d.b=0/\R5 d.i/\R5 d.n) \/
 (d.k=3/\R6 d.a/\R6 d.b/\d.i=0/\d.n=0)\/(d.k=4/\R6 d.a/\R6 d.b/\R8 d.i/\d.n=0) \/
 (d.k=5/\R6 d.a/\R6 d.b/\R8 d.i/\d.n=0)\/(d.k=6/\R6 d.a/\d.b=0/\R8 d.i/\d.n=0) \/
 (d.k=7/\R6 d.a/\d.b=0/\R8 d.i/\RM d.n)\/(d.k=8/\R6 d.a/\d.b=0/\d.i=0/\d.n=0) \/
 (d.k=9/\R6 d.a/\R6 d.b/\d.i=0/\d.n=0)\/(d.k=10/\R6 d.a/\d.b=0/\d.i=0/\d.n=0) \/
 (d.k=11/\R6 d.a/\R6 d.b/\d.i=0/\d.n=0)\/(d.k=12/\R6 d.a/\R6 d.b/\d.i=0/\d.n=0) \/
 (d.k=13/\R6 d.a/\d.b=0/\d.i=0/\d.n=0)\/(d.k=14/\d.a=0/\d.b=0/\d.i=0/\d.n=0)
def JI(w:ag)(e:Ending)(w':ag):Prop:=(∃d:Dd,e=.returned (fX d)/\d.Rt)/\Calm w w'
structure Dd.Ok(d:Dd):Prop where
 k:bX d.k
 a:bX d.a
 b:bX d.b
 i:bX d.i
 n:bX d.n
theorem TU(w:ag)(d:Dd)(h:d.Ok):aJ prog 16 #[fX d] w (JI w):=by
 obtain⟨dk,da,db,di,dn⟩:=d;obtain⟨hk,ha,hb,hi,hn⟩:=h;simp only[] at hk ha hb hi hn;simp only[fX];go_in;go_wp2_with fail
 refine(cR dk 14 _ hk (by decide)).mono ?_;rintro e w1 ⟨⟨v,rfl,v1,v2⟩,rfl⟩;rcases(by omega:v=0\/v=1\/v=2\/v=3\/v=4\/v=5\/v=6\/v=7\/v=8\/v=9\/v=10\/v=11\/v=12\/v=13) with rfl|rfl|rfl|rfl|rfl|rfl|rfl|rfl|rfl|rfl|rfl|rfl|rfl|rfl
 ·go_wp2_with fail
  refine(cR da 6 _ ha (by decide)).mono ?_;rintro e w1 ⟨⟨xa,rfl,a1,a2⟩,rfl⟩;go_wp2_with fail
  refine(cR di 5 _ hi (by decide)).mono ?_;rintro e w1 ⟨⟨xi,rfl,i1,i2⟩,rfl⟩;go_wp2_with fail
  refine(cR dn 5 _ hn (by decide)).mono ?_;rintro e w1 ⟨⟨xn,rfl,n1,n2⟩,rfl⟩;go_wp2;refine bodyPost_ret (v:=fX ⟨1,xa,0,xi,xn⟩) ?_ rfl ⟨⟨⟨1,xa,0,xi,xn⟩,rfl,?_⟩,((ah.alloc _).alloc _).alloc _⟩
  ·simp[results,Tryz.f16,go_sem,fX]
  ·simp[Dd.Rt,R6,R5,R8,RM] <;> omega
 ·go_wp2_with fail
  refine(cR da 6 _ ha (by decide)).mono ?_;rintro e w1 ⟨⟨xa,rfl,a1,a2⟩,rfl⟩;go_wp2_with fail
  refine(cR di 5 _ hi (by decide)).mono ?_;rintro e w1 ⟨⟨xi,rfl,i1,i2⟩,rfl⟩;go_wp2_with fail
  refine(cR dn 5 _ hn (by decide)).mono ?_;rintro e w1 ⟨⟨xn,rfl,n1,n2⟩,rfl⟩;go_wp2;refine bodyPost_ret (v:=fX ⟨2,xa,0,xi,xn⟩) ?_ rfl ⟨⟨⟨2,xa,0,xi,xn⟩,rfl,?_⟩,((ah.alloc _).alloc _).alloc _⟩
  ·simp[results,Tryz.f16,go_sem,fX]
  ·simp[Dd.Rt,R6,R5,R8,RM] <;> omega
 ·go_wp2_with fail
  refine(cR da 6 _ ha (by decide)).mono ?_;rintro e w1 ⟨⟨xa,rfl,a1,a2⟩,rfl⟩;go_wp2_with fail
  refine(cR db 6 _ hb (by decide)).mono ?_;rintro e w1 ⟨⟨xb,rfl,b1,b2⟩,rfl⟩;go_wp2;refine bodyPost_ret (v:=fX ⟨3,xa,xb,0,0⟩) ?_ rfl ⟨⟨⟨3,xa,xb,0,0⟩,rfl,?_⟩,((ah.alloc _).alloc _).alloc _⟩
  ·simp[results,Tryz.f16,go_sem,fX]
  ·simp[Dd.Rt,R6,R5,R8,RM] <;> omega
 ·go_wp2_with fail
  refine(cR da 6 _ ha (by decide)).mono ?_;rintro e w1 ⟨⟨xa,rfl,a1,a2⟩,rfl⟩;go_wp2_with fail
  refine(cR db 6 _ hb (by decide)).mono ?_;rintro e w1 ⟨⟨xb,rfl,b1,b2⟩,rfl⟩;go_wp2_with fail
  refine(cR di 8 _ hi (by decide)).mono ?_;rintro e w1 ⟨⟨xi,rfl,i1,i2⟩,rfl⟩;go_wp2;refine bodyPost_ret (v:=fX ⟨4,xa,xb,xi,0⟩) ?_ rfl ⟨⟨⟨4,xa,xb,xi,0⟩,rfl,?_⟩,((ah.alloc _).alloc _).alloc _⟩
  ·simp[results,Tryz.f16,go_sem,fX]
  ·simp[Dd.Rt,R6,R5,R8,RM] <;> omega
 ·go_wp2_with fail
  refine(cR da 6 _ ha (by decide)).mono ?_;rintro e w1 ⟨⟨xa,rfl,a1,a2⟩,rfl⟩;go_wp2_with fail
  refine(cR db 6 _ hb (by decide)).mono ?_;rintro e w1 ⟨⟨xb,rfl,b1,b2⟩,rfl⟩;go_wp2_with fail
  refine(cR di 8 _ hi (by decide)).mono ?_;rintro e w1 ⟨⟨xi,rfl,i1,i2⟩,rfl⟩;go_wp2;refine bodyPost_ret (v:=fX ⟨5,xa,xb,xi,0⟩) ?_ rfl ⟨⟨⟨5,xa,xb,xi,0⟩,rfl,?_⟩,((ah.alloc _).alloc _).alloc _⟩
  ·simp[results,Tryz.f16,go_sem,fX]
  ·simp[Dd.Rt,R6,R5,R8,RM] <;> omega
 ·go_wp2_with fail
  refine(cR da 6 _ ha (by decide)).mono ?_;rintro e w1 ⟨⟨xa,rfl,a1,a2⟩,rfl⟩;go_wp2_with fail
  refine(cR di 8 _ hi (by decide)).mono ?_;rintro e w1 ⟨⟨xi,rfl,i1,i2⟩,rfl⟩;go_wp2;refine bodyPost_ret (v:=fX ⟨6,xa,0,xi,0⟩) ?_ rfl ⟨⟨⟨6,xa,0,xi,0⟩,rfl,?_⟩,((ah.alloc _).alloc _).alloc _⟩
  ·simp[results,Tryz.f16,go_sem,fX]
  ·simp[Dd.Rt,R6,R5,R8,RM] <;> omega
 ·go_wp2_with fail
  refine(cR da 6 _ ha (by decide)).mono ?_;rintro e w1 ⟨⟨xa,rfl,a1,a2⟩,rfl⟩;go_wp2_with fail
  refine(cR di 8 _ hi (by decide)).mono ?_;rintro e w1 ⟨⟨xi,rfl,i1,i2⟩,rfl⟩;go_wp2_with fail
  refine(cR dn 2000001 _ hn (by decide)).mono ?_;rintro e w1 ⟨⟨xn,rfl,n1,n2⟩,rfl⟩;go_wp2;refine bodyPost_ret (v:=fX ⟨7,xa,0,xi,(xn-1000000)⟩) ?_ rfl ⟨⟨⟨7,xa,0,xi,(xn-1000000)⟩,rfl,?_⟩,((ah.alloc _).alloc _).alloc _⟩
  ·simp[results,Tryz.f16,go_sem,fX]
  ·simp[Dd.Rt,R6,R5,R8,RM] <;> omega
 ·go_wp2_with fail
  refine(cR da 6 _ ha (by decide)).mono ?_;rintro e w1 ⟨⟨xa,rfl,a1,a2⟩,rfl⟩;go_wp2;refine bodyPost_ret (v:=fX ⟨8,xa,0,0,0⟩) ?_ rfl ⟨⟨⟨8,xa,0,0,0⟩,rfl,?_⟩,((ah.alloc _).alloc _).alloc _⟩
  ·simp[results,Tryz.f16,go_sem,fX]
  ·simp[Dd.Rt,R6,R5,R8,RM] <;> omega
 ·go_wp2_with fail
  refine(cR da 6 _ ha (by decide)).mono ?_;rintro e w1 ⟨⟨xa,rfl,a1,a2⟩,rfl⟩;go_wp2_with fail
  refine(cR db 6 _ hb (by decide)).mono ?_;rintro e w1 ⟨⟨xb,rfl,b1,b2⟩,rfl⟩;go_wp2;refine bodyPost_ret (v:=fX ⟨9,xa,xb,0,0⟩) ?_ rfl ⟨⟨⟨9,xa,xb,0,0⟩,rfl,?_⟩,((ah.alloc _).alloc _).alloc _⟩
  ·simp[results,Tryz.f16,go_sem,fX]
  ·simp[Dd.Rt,R6,R5,R8,RM] <;> omega
 ·go_wp2_with fail
  refine(cR da 6 _ ha (by decide)).mono ?_;rintro e w1 ⟨⟨xa,rfl,a1,a2⟩,rfl⟩;go_wp2;refine bodyPost_ret (v:=fX ⟨10,xa,0,0,0⟩) ?_ rfl ⟨⟨⟨10,xa,0,0,0⟩,rfl,?_⟩,((ah.alloc _).alloc _).alloc _⟩
  ·simp[results,Tryz.f16,go_sem,fX]
  ·simp[Dd.Rt,R6,R5,R8,RM] <;> omega
 ·go_wp2_with fail
  refine(cR da 6 _ ha (by decide)).mono ?_;rintro e w1 ⟨⟨xa,rfl,a1,a2⟩,rfl⟩;go_wp2_with fail
  refine(cR db 6 _ hb (by decide)).mono ?_;rintro e w1 ⟨⟨xb,rfl,b1,b2⟩,rfl⟩;go_wp2;refine bodyPost_ret (v:=fX ⟨11,xa,xb,0,0⟩) ?_ rfl ⟨⟨⟨11,xa,xb,0,0⟩,rfl,?_⟩,((ah.alloc _).alloc _).alloc _⟩
  ·simp[results,Tryz.f16,go_sem,fX]
  ·simp[Dd.Rt,R6,R5,R8,RM] <;> omega
 ·go_wp2_with fail
  refine(cR da 6 _ ha (by decide)).mono ?_;rintro e w1 ⟨⟨xa,rfl,a1,a2⟩,rfl⟩;go_wp2_with fail
  refine(cR db 6 _ hb (by decide)).mono ?_;rintro e w1 ⟨⟨xb,rfl,b1,b2⟩,rfl⟩;go_wp2;refine bodyPost_ret (v:=fX ⟨12,xa,xb,0,0⟩) ?_ rfl ⟨⟨⟨12,xa,xb,0,0⟩,rfl,?_⟩,((ah.alloc _).alloc _).alloc _⟩
  ·simp[results,Tryz.f16,go_sem,fX]
  ·simp[Dd.Rt,R6,R5,R8,RM] <;> omega
 ·go_wp2_with fail
  refine(cR da 6 _ ha (by decide)).mono ?_;rintro e w1 ⟨⟨xa,rfl,a1,a2⟩,rfl⟩;go_wp2;refine bodyPost_ret (v:=fX ⟨13,xa,0,0,0⟩) ?_ rfl ⟨⟨⟨13,xa,0,0,0⟩,rfl,?_⟩,((ah.alloc _).alloc _).alloc _⟩
  ·simp[results,Tryz.f16,go_sem,fX]
  ·simp[Dd.Rt,R6,R5,R8,RM] <;> omega
 ·go_wp2;refine bodyPost_ret (v:=fX ⟨14,0,0,0,0⟩) ?_ rfl ⟨⟨⟨14,0,0,0,0⟩,rfl,?_⟩,((ah.alloc _).alloc _).alloc _⟩
  ·simp[results,Tryz.f16,go_sem,fX]
  ·simp[Dd.Rt,R6,R5,R8,RM] <;> omega
def gz(T:Nat->Prop)(w:ag)(v:aA)(l:List Dd):Prop:=
 ∃a c,v=.slice a l.length c/\∀i,i<l.length->∃g o,a=some ⟨g,o,none⟩/\T g/\∀j u,(fW (l.getD i dD))[j]?=some u->w.cell? ⟨g,o+i*5+j,none⟩=some u
def gy(T:Nat->Prop)(w:ag)(v:aA)(P:List (List Dd)):Prop:=
 ∃a c,v=.slice a P.length c/\∀i,i<P.length->∃g o u,a=some ⟨g,o,none⟩/\T g/\w.cell? ⟨g,o+i,none⟩=some u/\gz T w u (P.getD i [])
def ed(T:Nat->Prop)(w:ag)(v:aA)(Q:List (List (List Dd))):Prop:=
 ∃a c,v=.slice a Q.length c/\∀i,i<Q.length->∃g o u,a=some ⟨g,o,none⟩/\T g/\w.cell? ⟨g,o+i,none⟩=some u/\gy T w u (Q.getD i [])
theorem gz.fr{T S:Nat->Prop}{w w':ag}{v:aA}{l:List Dd}(h:gz T w v l)(f:Fr S w w')(hs:∀b,T b->¬S b):gz T w' v l:=by
 obtain⟨a,c,hv,h⟩:=h;refine⟨a,c,hv,λi hi=>?_⟩;obtain⟨g,o,e,t,hc⟩:=h i hi;exact⟨g,o,e,t,λj u hu=>f.cellAt (hc j u hu) (hs g t)⟩
theorem gy.fr{T S:Nat->Prop}{w w':ag}{v:aA}{l:List (List Dd)}(h:gy T w v l)(f:Fr S w w')(hs:∀b,T b->¬S b):gy T w' v l:=by
 obtain⟨a,c,hv,h⟩:=h;refine⟨a,c,hv,λi hi=>?_⟩;obtain⟨g,o,u,e,t,hc,hd⟩:=h i hi;exact⟨g,o,u,e,t,f.cellAt hc (hs g t),hd.fr f hs⟩
theorem ed.fr{T S:Nat->Prop}{w w':ag}{v:aA}{l:List (List (List Dd))}(h:ed T w v l)(f:Fr S w w')(hs:∀b,T b->¬S b):ed T w' v l:=by
 obtain⟨a,c,hv,h⟩:=h;refine⟨a,c,hv,λi hi=>?_⟩;obtain⟨g,o,u,e,t,hc,hd⟩:=h i hi;exact⟨g,o,u,e,t,f.cellAt hc (hs g t),hd.fr f hs⟩
theorem gz.calm{T:Nat->Prop}{w w':ag}{v:aA}{l:List Dd}(h:gz T w v l)(f:Calm w w'):gz T w' v l:=h.fr f λ_ _=>id
theorem gy.calm{T:Nat->Prop}{w w':ag}{v:aA}{l:List (List Dd)}(h:gy T w v l)(f:Calm w w'):gy T w' v l:=h.fr f λ_ _=>id
theorem ed.calm{T:Nat->Prop}{w w':ag}{v:aA}{l:List (List (List Dd))}(h:ed T w v l)(f:Calm w w'):ed T w' v l:=h.fr f λ_ _=>id
theorem gz.mono{T T':Nat->Prop}{w:ag}{v:aA}{l:List Dd}(h:gz T w v l)(ht:∀b,b<w.heap.size->T b->T' b):gz T' w v l:=by
 obtain⟨a,c,hv,h⟩:=h;refine⟨a,c,hv,λi hi=>?_⟩;obtain⟨g,o,e,t,hc⟩:=h i hi;exact⟨g,o,e,ht g (nt w ⟨g,o+i*5+0,none⟩ (hc 0 _ rfl)) t,hc⟩
theorem gy.mono{T T':Nat->Prop}{w:ag}{v:aA}{l:List (List Dd)}(h:gy T w v l)(ht:∀b,b<w.heap.size->T b->T' b):gy T' w v l:=by
 obtain⟨a,c,hv,h⟩:=h;refine⟨a,c,hv,λi hi=>?_⟩;obtain⟨g,o,u,e,t,hc,hd⟩:=h i hi;exact⟨g,o,u,e,ht g (nt w ⟨g,o+i,none⟩ hc) t,hc,hd.mono ht⟩
theorem ed.mono{T T':Nat->Prop}{w:ag}{v:aA}{l:List (List (List Dd))}(h:ed T w v l)(ht:∀b,b<w.heap.size->T b->T' b):ed T' w v l:=by
 obtain⟨a,c,hv,h⟩:=h;refine⟨a,c,hv,λi hi=>?_⟩;obtain⟨g,o,u,e,t,hc,hd⟩:=h i hi;exact⟨g,o,u,e,ht g (nt w ⟨g,o+i,none⟩ hc) t,hc,hd.mono ht⟩
structure tX(Q:List (List (List Dd))):Prop where
 n:1<=Q.length/\Q.length<=4
 b:∀t,t<Q.length->(Q.getD t []).length<=3
 d:∀t,t<Q.length->∀b,b<(Q.getD t []).length->1<=((Q.getD t []).getD b []).length/\((Q.getD t []).getD b []).length<=6
 r:∀t,t<Q.length->∀b,b<(Q.getD t []).length->∀d∈(Q.getD t []).getD b [],d.Rt
section
theorem giD:GI 50 52 5:=by
 obtain⟨i0,hi,iR,iT,jm⟩:=info_parts (show(prog.info? 52).map (λi=>(i.zero,i.size,i.bytes))=some (some (.agg #[vI 0,vI 0,vI 0,vI 0,vI 0]),5,40) by kernel_rfl);exact⟨Tryz.underlying50,i0,_,_,hi,iR,iT,jm,rfl,by decide,by decide⟩
theorem giB:GI 38 50 1:=by
 obtain⟨i0,hi,iR,iT,jm⟩:=info_parts (show(prog.info? 50).map (λi=>(i.zero,i.size,i.bytes))=some (some (.slice none 0 0),1,24) by kernel_rfl);exact⟨Tryz.underlying38,i0,_,_,hi,iR,iT,jm,rfl,by decide,by decide⟩
theorem giQ:GI 22 38 1:=by
 obtain⟨i0,hi,iR,iT,jm⟩:=info_parts (show(prog.info? 38).map (λi=>(i.zero,i.size,i.bytes))=some (some (.slice none 0 0),1,24) by kernel_rfl);exact⟨Tryz.underlying22,i0,_,_,hi,iR,iT,jm,rfl,by decide,by decide⟩
structure xB{α:Type}(In:(Nat->Prop)->ag->aA->α->Prop):Prop where
 fr:∀ {T S:Nat->Prop} {w w':ag} {v:aA} {l:α},In T w v l->Fr S w w'->(∀b,T b->¬S b)->In T w' v l
 mono:∀ {T T':Nat->Prop} {w:ag} {v:aA} {l:α},In T w v l->(∀b,b<w.heap.size->T b->T' b)->In T' w v l
theorem Qb:xB gz:=⟨λh f s=>h.fr f s,λh m=>h.mono m⟩
theorem VP:xB gy:=⟨λh f s=>h.fr f s,λh m=>h.mono m⟩
def RIn{α:Type}(In:(Nat->Prop)->ag->aA->α->Prop)(d:α)(T:Nat->Prop)(w:ag)(v:aA)(P:List α):Prop:=
 ∃a c,v=.slice a P.length c/\∀i,i<P.length->∃g o u,a=some ⟨g,o,none⟩/\T g/\w.cell? ⟨g,o+i,none⟩=some u/\In T w u (P.getD i d)
def jf{α:Type}(In:(Nat->Prop)->ag->aA->α->Prop)(d:α)(ety:TypeId)(T:Nat->Prop)(w:ag)(u:aA)(P:List α):Prop:=
 ∃us:List aA,w.ownsRow 0 ety 1 u P.length us/\(∀b,ay u b->T b)/\∀i,i<P.length->In (λb=>T b/\¬ay u b) w (us.getD i .nilFunc) (P.getD i d)
section
variable {α:Type}{In:(Nat->Prop)->ag->aA->α->Prop}{d:α}{oK ety:TypeId}{T:Nat->Prop}{w w':ag}{u:aA}{P:List α}
theorem jf.nil(w:ag):jf In d ety T w (.slice none 0 0) []:=⟨[],⟨by simp,.inl ⟨rfl,rfl⟩⟩,λb h=>absurd h (ay.nil b),λi h=>absurd h (Nat.not_lt_zero i)⟩
theorem jf.fr(L:xB In)(h:jf In d ety T w u P){S:Nat->Prop}(f:Fr S w w')(hs:∀b,T b->¬S b):jf In d ety T w' u P:=by
 obtain⟨us,h1,h2,h3⟩:=h;exact⟨us,aw h1 f (λb hb=>hs b (h2 b hb)),h2,λi hi=>L.fr (h3 i hi) f (λb hb=>hs b hb.1)⟩
theorem jf.calm(L:xB In)(h:jf In d ety T w u P)(c:Calm w w'):jf In d ety T w' u P:=h.fr L c λ_ _=>id
theorem jf.Wi(L:xB In)(h:jf In d ety T w u P):RIn In d T w u P:=by
 obtain⟨us,h1,h2,h3⟩:=h;obtain⟨a,c,hv⟩:=aF h1;refine⟨a,c,hv,λi hi=>?_⟩;obtain⟨g,c',wC,hc⟩:=ji h1 (by decide) hi;rw[hv] at wC;injection wC with e1 e2 e3
 refine⟨g,0,us.getD i .nilFunc,e1,h2 g (by rw[hv,e1];exact ay.mk.2 rfl),?_,L.mono (h3 i hi) (λb _ hb=>hb.1)⟩;have:=(hc 0 (by decide)).1;simpa using this
theorem jf.slice(h:jf In d ety T w u P):∃a c,u=.slice a P.length c:=by
 obtain⟨us,h1,h2,h3⟩:=h;exact aF h1
theorem kQ(G:GI oK ety 1)(L:xB In){ops:Array Oper}{rest:List Oper}{o:Oper}{a:Act}{Q:Exit->Act->ag->Prop}(pH:o.guard=none)(s x:Operand)
 (ho:o.op=.call { callee:=.builtin .append,args:=#[s,x],argTypes:=#[oK,oK] })
 (v:aA) (P:List α) (h:jf In d ety T w v P) (hs:a.eval s=v) (y:aA) (l:α) (nb c:Nat) (hx:a.eval x=.slice (some ⟨nb,0,none⟩) 1 c) (hc:w.cell? ⟨nb,0,none⟩=some y) (h1:y.oneCell'=true)
 (hy:In (λb=>T b/\¬ay v b) w y l) (hT:∀b,w.heap.size<=b->T b) (hl:P.length<=1000000)
 (k:∀g c w',jf In d ety T w' (.slice (some ⟨g,0,none⟩) (P.length+1) c) (P++[l])->Fr (ay v) w w'->wpList prog ops Q rest (a.put o.dst (.slice (some ⟨g,0,none⟩) (P.length+1) c)) w') :
 wpList prog ops Q (o::rest) a w:=by
 obtain⟨us,h2,h3,h4⟩:=h;refine sG G pH s x ho v P.length us h2 hs [y] rfl (by simpa using h1) ⟨nb,0,none⟩ c hx (λj u hj=>?_) hl ?_
 ·match j,hj with
  | 0,hj=>
    rw[dM];simp only[fM];rw[hc];simpa using hj
 intro g c' w' H9 f hg;have hul:us.length=P.length:=by have:=vz h2;simpa using this
 have hT':∀b,b<w.heap.size->T b/\¬ay v b->T b/\¬ay (.slice (some ⟨g,0,none⟩) (P.length+1) c') b:=λb hb hh=>⟨hh.1,λe=>by
  obtain rfl:=ay.fJ e;rcases hg with hg|hg
  ·exact hh.2 hg
  ·omega⟩
 refine k g c' w' ⟨us++[y],by rw[b_];exact H9,λb hb=>?_,λi hi=>?_⟩ f
 ·obtain rfl:=ay.fJ hb;rcases hg with hg|hg
  ·exact h3 _ hg
  ·exact hT _ (by omega)
 ·rw[b_] at hi;have hi:i<P.length+1:=hi
  by_cases e:i<P.length
  ·have e1:(us++[y]).getD i .nilFunc=us.getD i .nilFunc:=by
    rw[aS,aS,List.getElem?_append_left (by omega)]
   have e2:(P++[l]).getD i d=P.getD i d:=by
    rw[aS,aS,List.getElem?_append_left e]
   rw[e1,e2];exact L.fr (L.mono (h4 i e) (λb hb hh=>(⟨hT' b hb hh,hh.2⟩:(T b/\¬ay (.slice (some ⟨g,0,none⟩) (P.length+1) c') b)/\¬ay v b))) f (λb hb=>hb.2) |> λq=>L.mono q (λb _ hh=>hh.1)
  ·have WZ:i=P.length:=by omega
   have e1:(us++[y]).getD i .nilFunc=y:=by
    rw[aS,rM (by omega)];simp[WZ,hul]
   have e2:(P++[l]).getD i d=l:=by
    rw[aS,rM (by omega)];simp[WZ]
   rw[e1,e2];exact L.fr (L.mono hy (λb hb hh=>(⟨hT' b hb hh,hh.2⟩:(T b/\¬ay (.slice (some ⟨g,0,none⟩) (P.length+1) c') b)/\¬ay v b))) f (λb hb=>hb.2) |> λq=>L.mono q (λb _ hh=>hh.1)
end
def qN(T:Nat->Prop)(w:ag)(v:aA)(ds:List Dd):Prop:=w.ownsRow 0 52 5 v ds.length (ds.flatMap fW)/\∀b,ay v b->T b
theorem qN.nil(T:Nat->Prop)(w:ag):qN T w (.slice none 0 0) []:=⟨⟨by simp,.inl ⟨rfl,rfl⟩⟩,λb h=>absurd h (ay.nil b)⟩
theorem qN.calm{T:Nat->Prop}{w w':ag}{v:aA}{ds:List Dd}(h:qN T w v ds)(c:Calm w w'):qN T w' v ds:=⟨aw h.1 c (λ_ _=>id),h.2⟩
theorem qN.Wi{T:Nat->Prop}{w:ag}{v:aA}{ds:List Dd}(h:qN T w v ds):gz T w v ds:=by
 obtain⟨a,c,hv⟩:=aF h.1;refine⟨a,c,hv,λi hi=>?_⟩;obtain⟨g,c',wC,hg⟩:=bT tj (by decide) h.1 dD hi;rw[hv] at wC;injection wC with e1 e2 e3
 exact⟨g,0,e1,h.2 g (by rw[hv,e1];exact ay.mk.2 rfl),λj u hu=>by have:=(hg j u hu).1;simpa using this⟩
theorem qN.slice{T:Nat->Prop}{w:ag}{v:aA}{ds:List Dd}(h:qN T w v ds):∃a c,v=.slice a ds.length c:=aF h.1
theorem wI(w:ag)(ys:List aA)(t:TypeId):∀j u,ys[j]?=some u->(w.alloc (.cells ys.toArray t)).cell? ((⟨w.heap.size,0,none⟩:Addr).add j)=some u:=by
 intro j u hj;rw[show((⟨w.heap.size,0,none⟩:Addr).add j)=⟨w.heap.size,j,none⟩ by rw[dM];simp];rw[World.cell?_alloc_new];simpa using hj
theorem jf.lt{α:Type}{In:(Nat->Prop)->ag->aA->α->Prop}{d:α}{ety:TypeId}{T:Nat->Prop}{w:ag}{u:aA}{P:List α}(h:jf In d ety T w u P){b:Nat}(hb:ay u b):b<w.heap.size:=by
 obtain⟨us,h1,h2,h3⟩:=h;exact(World.ownsRow.lt h1 b hb).2
theorem jf.own{α:Type}{In:(Nat->Prop)->ag->aA->α->Prop}{d:α}{ety:TypeId}{T:Nat->Prop}{w:ag}{u:aA}{P:List α}(h:jf In d ety T w u P){b:Nat}(hb:ay u b):T b:=by
 obtain⟨us,h1,h2,h3⟩:=h;exact h2 b hb
end
def mB(t b n k e v:Int):List aA:=[vI t,vI b,vI n,vI k,vI e,vI v]
structure En where
 t:Int
 b:Int
 n:Int
 k:Int
 e:Int
 v:Int
def En.c(x:En):List aA:=mB x.t x.b x.n x.k x.e x.v
structure xy where
 v:aA
 H:List En
instance:Coe xy aA:=⟨xy.v⟩
section
noncomputable def nr(f:Ob->Nat)(A:HS)(a:Nat):Nat:=open Classical in if h:∃o,(a,o)∈A.cur then f h.choose else 0
theorem gM{f:Ob->Nat}{A:HS}(hw:HW A){i a:Nat}{o:Ob}(c:aY A i a o):nr f A a=f o:=by
 unfold nr;have h:∃o,(a,o)∈A.cur:=⟨o,c.eP⟩;rw[dif_pos h];have:=hw.wf.Xx _ h.choose_spec _ c.eP rfl;have e:h.choose=o:=congrArg Prod.snd this;rw[e]
theorem vt{f:Ob->Nat}{A:HS}{a:Nat}(h:a∉dL A.cur):nr f A a=0:=by
 unfold nr;rw[dif_neg];rintro ⟨o,ho⟩;exact h (List.mem_map.2 ⟨_,ho,rfl⟩)
theorem L5{f:Ob->Nat}{A:HS}{X:aj}(hw:HW A){i a:Nat}{o o':Ob}(c:aY A i a o)(hw':HW (A.cV i o'))(p:Nat)(h:p=a->f o'=f o):nr f (A.cV i o') p=nr f A p:=by
 rcases dZ A p with ⟨j,u,d⟩|hm
 ·have:=aY.cV (u':=o') d c;rw[gM hw' this,gM hw d]
  by_cases e:j=i
  ·subst e;rw[if_pos rfl];have e1:(p,u)=(a,o):=by rw[<-d.get,<-c.get]
   obtain⟨e2,e3⟩:=Prod.mk.inj e1;rw[h e2,e3]
  ·rw[if_neg e]
 ·rw[vt hm,vt (by rw[mi];exact hm)]
theorem CD{f:Ob->Nat}{A:HS}{i a:Nat}{o o':Ob}(c:aY A i a o)(hw':HW (A.cV i o')):nr f (A.cV i o') a=f o':=by
 have:=aY.cV (u':=o') c c;rw[if_pos rfl] at this;exact gM hw' this
structure Still(P:Nat->Prop)(A A':HS):Prop where
 pl:dL A'.cur=dL A.cur
 sr:∀p,nr Ob.ser A' p=nr Ob.ser A p
 sn:∀p,¬P p->nr Ob.snd A' p=nr Ob.snd A p
 room:A'.room=A.room
 n:A'.n=A.n
 ser:A'.ser=A.ser
 mv:A'.mv=A.mv
 lv:∀p o,Live A' p o->∃o0,Live A p o0/\o0.ser=o.ser/\(¬P p->o0.snd=o.snd)
 fi:A'.fin=A.fin
theorem Still.refl(P:Nat->Prop)(A:HS):Still P A A:=⟨rfl,λ_=>rfl,λ_ _=>rfl,rfl,rfl,rfl,rfl,λp o h=>⟨o,h,rfl,λ_=>rfl⟩,rfl⟩
theorem Still.trans{P:Nat->Prop}{A B C:HS}(h:Still P A B)(k:Still P B C):Still P A C:=
 ⟨k.pl.trans h.pl,λp=>(k.sr p).trans (h.sr p),λp hp=>(k.sn p hp).trans (h.sn p hp),k.room.trans h.room,k.n.trans h.n,k.ser.trans h.ser,k.mv.trans h.mv,λp o hl=>by
  obtain⟨o1,l1,e1,f1⟩:=k.lv p o hl;obtain⟨o0,l0,e0,f0⟩:=h.lv p o1 l1
  exact⟨o0,l0,e0.trans e1,λhp=>(f0 hp).trans (f1 hp)⟩,k.fi.trans h.fi⟩
theorem Still.mono{P Q:Nat->Prop}{A B:HS}(h:Still P A B)(hq:∀p,P p->Q p):Still Q A B:=⟨h.pl,h.sr,λp hp=>h.sn p (λe=>hp (hq p e)),h.room,h.n,h.ser,h.mv,λp o hl=>by
 obtain⟨o0,l0,e0,f0⟩:=h.lv p o hl
 exact⟨o0,l0,e0,λhp=>f0 (λe=>hp (hq p e))⟩,h.fi⟩
theorem Still.Lv{P:Nat->Prop}{A B:HS}(h:Still P A B)(hP:∀p,¬P p):Lv A B:=λp o hl=>by
 obtain⟨o0,l0,e0,f0⟩:=h.lv p o hl;exact⟨p,o0,l0,e0,f0 (hP p)⟩
theorem Still.cV{P:Nat->Prop}{A:HS}{X:aj}(hw:HW A){i a:Nat}{o o':Ob}(c:aY A i a o)(hs:dV o o')(hw':HW (A.cV i o'))(hn:o'.snd=o.snd\/P a):Still P A (A.cV i o'):=by
 refine⟨mi _ _ _,λp=>L5 (X:=X) hw c hw' p (λ_=>hs.2.2.2.2),λp hp=>L5 (X:=X) hw c hw' p (λe=>?_),?_,rfl,rfl,rfl,λp u hl=>?_,rfl⟩
 ·rcases hn with h|h
  ·exact h
  ·exact absurd (e ▸ h) hp
 ·have:=I6 c hs;unfold HS.room;rw[this];rfl
 ·rcases hl with hl|hl
  ·rcases zP c hl with h|⟨rfl,rfl⟩
   ·exact⟨u,.inl h,rfl,λ_=>rfl⟩
   ·refine⟨o,.inl c.eP,hs.2.2.2.2.symm,λhp=>?_⟩;rcases hn with h|h
    ·exact h.symm
    ·exact absurd h hp
  ·exact⟨u,.inr hl,rfl,λ_=>rfl⟩
structure oM(A A':HS):Prop where
 pl:∀p∈dL A.cur,p∈dL A'.cur
 sr:∀p∈dL A.cur,nr Ob.ser A' p=nr Ob.ser A p
 sn:∀p∈dL A.cur,nr Ob.snd A' p=nr Ob.snd A p
 n:A'.n=A.n
 ser:A'.ser=A.ser
 mv:A'.mv=A.mv
 lv:Lv A A'
 fi:A'.fin=A.fin
theorem oM.refl(A:HS):oM A A:=⟨λ_ h=>h,λ_ _=>rfl,λ_ _=>rfl,rfl,rfl,rfl,.refl A,rfl⟩
theorem Still.grow{P:Nat->Prop}{A A':HS}(h:Still P A A')(hP:∀p,¬P p):oM A A':=⟨λp hp=>by rw[h.pl];exact hp,λp _=>h.sr p,λp _=>h.sn p (hP p),h.n,h.ser,h.mv,h.Lv hP,h.fi⟩
theorem oM.trans{A B C:HS}(h:oM A B)(k:oM B C):oM A C:=
 ⟨λp hp=>k.pl p (h.pl p hp),λp hp=>(k.sr p (h.pl p hp)).trans (h.sr p hp),λp hp=>(k.sn p (h.pl p hp)).trans (h.sn p hp),k.n.trans h.n,k.ser.trans h.ser,k.mv.trans h.mv,h.lv.trans k.lv,k.fi.trans h.fi⟩
theorem oM.goes{A A':HS}(hw:HW A)(hw':HW A'){p q:Nat}(g:Goes A p A' q):oM A A':=by
 have hs:=g.same
 have hc:∀x∈dL A.cur,∃i o,aY A i x o/\aY A' i x o:=λx hx=>by
  obtain⟨i,o,c⟩:=aY.im hx;exact⟨i,o,c,g.cur c⟩
 refine⟨λx hx=>?_,λx hx=>?_,λx hx=>?_,hs.1,hs.2.2.2.2.1,hs.2.2.1,.goes g,hs.2.2.2.2.2.2.1⟩
 ·obtain⟨i,o,_,d⟩:=hc x hx;exact d.mem
 ·obtain⟨i,o,c,d⟩:=hc x hx;rw[gM hw' d,gM hw c]
 ·obtain⟨i,o,c,d⟩:=hc x hx;rw[gM hw' d,gM hw c]
theorem Ph{A A':HS}{X X':aj}(h:aR A X)(h':aR A' X'){p q:Nat}(hp:p<=131072)(g:Goes A p A' q):q<=131072:=by
 cases g with
 | stay h=>exact hp
 | gone c=>exact h.mh (dB.uw h c)
 | move c=>exact h'.mh (by rw[yq];simp)
theorem Kp{A A':HS}{X:aj}(h:aR A X){l l':aj}(g:cK A l A' l')(hl:∀p∈l,p<=131072):∀q∈l',q<=131072:=by
 induction g with
 | nil=>intro q hq;cases hq
 | snoc h0 g0 ih=>
   intro q hq;rcases cJ.1 hq with hq|hq
   ·exact ih (λp hp=>hl p (cJ.2 (.inl hp))) q hq
   ·rw[gH.1 hq];obtain⟨X1,h1⟩:=h0.rep h;obtain⟨X2,h2⟩:=g0.rep h1;exact Ph h1 h2 (hl _ (cJ.2 (.inr (gH.2 rfl)))) g0
def AX(A A':HS):Prop:=∀p,1<=nr Ob.ser A p->nr Ob.ser A' p=nr Ob.ser A p
theorem AX.of{A A':HS}(h:∀p∈dL A.cur,nr Ob.ser A' p=nr Ob.ser A p):AX A A':=λp hp=>by
 by_cases hm:p∈dL A.cur
 ·exact h p hm
 ·rw[vt hm] at hp;omega
theorem iI.vK{A A':HS}(h:iI A A')(hw:HW A)(hw':HW A'):AX A A':=.of λp hp=>by
 obtain⟨i,o,c⟩:=aY.im hp;obtain⟨o',c',e⟩:=h i p o c;rw[gM hw' c',gM hw c,e]
theorem Still.vK{P:Nat->Prop}{A A':HS}(h:Still P A A'):AX A A':=λp _=>h.sr p
theorem oM.vK{A A':HS}(h:oM A A'):AX A A':=.of h.sr
section
variable {w:ag}{B:HB}{A:HS}{X:aj}
theorem EA(h:cz w B A X){a:Int}(ha:bX a)(hm:a∉nI (dL A.cur)) :
 aJ prog 178 #[eU B,vI a] w λe w'=>e=.returned (.tuple #[wV 0,vI 70])/\Calm w w':=by
 have hh:=hid (ja h ha hm);clear h;go_in;go_wp2_with fail
 refine(hh.out).mono ?_;rintro e w1 ⟨rfl,c1⟩;go_wp2
 go_ret2
 exact⟨rfl,c1⟩
theorem Ce(h:cz w B A X){i a:Nat}{o:Ob}(c:aY A i a o) :
 aJ prog 178 #[eU B,vI a] w λe w'=>e=.returned (.tuple #[wV o.snd,vI 0])/\Calm w w':=by
 have hh:=hid (fy h c.mem (c.le h.rep));have y0:=(h.own (i:=0) (v:=eL B.ap) rfl).1;have ha:=hid (c.at_ h.rep);have H:=hid h;clear h;go_in;go_wp2_with fail
 refine(hh.out).mono ?_;rintro e w1 ⟨rfl,c1⟩;replace y0:=c1.cellAt y0 id;replace H:=hid (H.out.calm c1);go_wp2_with fail
 refine(Hb H.out.ar ha.out).mono ?_;rintro e w2 ⟨rfl,c2⟩;go_wp2
 go_ret2
 exact⟨rfl,c1.trans c2⟩
theorem rX(h:cz w B A X)(hw:HW A){a:Nat}(ha:a<=131072) :
 aJ prog 178 #[eU B,vI a] w λe w'=>(∃x:Int,e=.returned (.tuple #[wV (nr Ob.snd A a),vI x]))/\Calm w w':=by
 rcases dZ A a with ⟨i,o,c⟩|hm
 ·exact(Ce h c).mono (λe w' ⟨h1,h2⟩=>⟨⟨0,by rw[h1,gM hw c]⟩,h2⟩)
 ·exact(EA h (uQ ha) (kW hm)).mono (λe w' ⟨h1,h2⟩=>⟨⟨70,by rw[h1,vt hm]⟩,h2⟩)
theorem uN(h:cz w B A X)(hw:HW A){a:Nat}(ha:a<=131072) :
 aJ prog 99 #[eU B,vI a] w λe w'=>Calm w w'/\((a∉dL A.cur/\e=.returned (.tuple #[mz 0 0 false false,.bool false,vI 70]))\/∃i o,aY A i a o/\e=.returned (.tuple #[mz o.p o.d o.wk o.fn,.bool o.fr,vI 0])):=by
 rcases dZ A a with ⟨i,o,c⟩|hm
 ·exact(EG h c).mono (λe w' ⟨h1,h2⟩=>⟨h2,.inr ⟨i,o,c,h1⟩⟩)
 ·exact(Ie h (uQ ha) (kW hm)).mono (λe w' ⟨h1,h2⟩=>⟨h2,.inl ⟨hm,h1⟩⟩)
theorem wX(h:cz w B A X)(hw:HW A){a:Nat}(ha:a<=131072)(fr:Bool) :
 aJ prog 149 #[eU B,vI a,.bool fr] w λe w'=>∃ (x:Int) (A':HS),e=.returned (vI x)/\(x=0\/x=70)/\Av w B w' A'/\Still (λ_=>False) A A':=by
 rcases dZ A a with ⟨i,o,c⟩|hm
 ·refine(wY h c fr).mono (λe w' ⟨h1,X',h2,h3⟩=>?_);have hw':=hw.cV h.rep c (o':={ o with fr:=fr }) ⟨rfl,rfl,rfl,rfl,rfl⟩ h2.rep (λq hq=>.inl hq);exact⟨0,_,h1,.inl rfl,⟨B,X',h2,h3,hw'⟩,Still.cV (X:=X) hw c ⟨rfl,rfl,rfl,rfl,rfl⟩ hw' (.inl rfl)⟩
 ·exact(zH h (uQ ha) (kW hm) fr).mono (λe w' ⟨h1,h2⟩=>⟨70,A,h1,.inr rfl,Av.calm h hw h2,Still.refl _ _⟩)
theorem mZ(h:cz w B A X)(hw:HW A){a:Nat}(ha:a<=131072)(v:Nat) :
 aJ prog 182 #[eU B,vI a,wV v] w λe w'=>∃ (x:Int) (A':HS),e=.returned (vI x)/\(x=0\/x=70)/\Av w B w' A'/\Still (λk=>k=a) A A'/\(a∈dL A.cur->nr Ob.snd A' a=v)/\Je A A' (λs w=>s=nr Ob.ser A a/\w=v/\1<=s)/\∀p o,Live A' p o->o.ser=nr Ob.ser A a->o.snd=v:=by
 rcases dZ A a with ⟨i,o,c⟩|hm
 ·refine(uM h c v).mono (λe w' ⟨h1,X',h2,h3⟩=>?_);have hw':=hw.cV h.rep c (o':={ o with snd:=v }) ⟨rfl,rfl,rfl,rfl,rfl⟩ h2.rep (λq hq=>.inl hq);refine⟨0,_,h1,.inl rfl,⟨B,X',h2,h3,hw'⟩,Still.cV (X:=X) hw c ⟨rfl,rfl,rfl,rfl,rfl⟩ hw' (.inr rfl),λ_=>CD c hw',?_,λp u hl e=>?_⟩
  ·rw[gM hw c];exact λp u hl=>(Je.cV c p u hl).imp id (λ⟨e1,e2⟩=>⟨e1,e2,by rw[e1];exact(hw.wf.py _ c.eP).1⟩)
  ·rw[gM hw c] at e
   have hm:(a,{ o with snd:=v })∈(A.cV i { o with snd:=v }).cur:=by
    have:=aY.cV (u':={ o with snd:=v }) c c;rw[if_pos rfl] at this;exact this.eP
   rcases hl with hl|hl
   ·have:=hw'.wf.JB _ hl _ hm e;rw[(Prod.mk.inj this).2]
   ·exact absurd e.symm (hw'.wf.NJ _ hm p u hl)
 ·refine(wZ h (uQ ha) (kW hm) v).mono (λe w' ⟨h1,h2⟩=>⟨70,A,h1,.inr rfl,Av.calm h hw h2,Still.refl _ _,λe=>absurd e hm,(Lv.refl A).x _,λp o hl e=>?_⟩);rw[vt hm] at e;rcases hl with hl|hl
  ·have:=(hw.wf.py _ hl).1;simp only at this;omega
  ·have:=(hw.wf.sW _ hl).1;simp only at this;omega
theorem Uu(k:Int)(p:Nat):∃bp,Has bp k p:=by
 rcases(by omega:(0<=k/\k<p)\/k<0\/(p:Int)<=k) with h|h|h
 ·exact⟨true,.lt h.1 h.2⟩
 ·exact⟨false,.neg h⟩
 ·exact⟨false,.ge h⟩
def nU(x:Int):Prop:=x=0\/x=70\/x=71
theorem Lj(h:cz w B A X)(hw:HW A){a:Nat}(ha:a<=131072)(k:Int) :
 aJ prog 143 #[eU B,vI a,vI k] w λe w'=>∃v x:Int,e=.returned (.tuple #[vI v,vI x])/\bX v/\nU x/\Calm w w':=by
 rcases dZ A a with ⟨i,o,c⟩|hm
 ·obtain⟨bp,hb⟩:=Uu k o.d;refine(PZ h c hb).mono (λe w' ⟨h1,h2⟩=>⟨_,_,h1,?_,?_,h2⟩)
  ·cases bp
   ·show bX 0;exact⟨by decide,by decide⟩
   ·have bU:o.Ok:=(h.rep.ig c.eP).1;rcases hb with ⟨_,h3,h4⟩|⟨h3,_⟩
    ·exact aaX (bU.ns _ (eO 0 (by rw[bU.ln];omega)))
    ·cases h3
  ·cases bp
   ·exact .inr (.inr rfl)
   ·exact .inl rfl
 ·exact(P0 h (uQ ha) (kW hm) k).mono (λe w' ⟨h1,h2⟩=>⟨0,70,h1,⟨by decide,by decide⟩,.inr (.inl rfl),h2⟩)
theorem Cg(h:cz w B A X)(hw:HW A){a:Nat}(ha:a<=131072)(k v:Int)(hv:bX v) :
 aJ prog 145 #[eU B,vI a,vI k,vI v] w λe w'=>∃ (x:Int) (A':HS),e=.returned (vI x)/\nU x/\Av w B w' A'/\Still (λ_=>False) A A':=by
 rcases dZ A a with ⟨i,o,c⟩|hm
 ·obtain⟨bp,hb⟩:=Uu k o.d;refine(EC h c hb hv).mono (λe w' ⟨h1,X',h2,h3⟩=>?_);have hp:(o.Fp bp k v).ps=o.ps:=by unfold Ob.Fp;cases bp <;> rfl
  have hn:(o.Fp bp k v).snd=o.snd:=by unfold Ob.Fp;cases bp <;> rfl
  have hw':=hw.cV h.rep c (o.rJ bp k v) h2.rep (λq hq=>.inl (by rw[hp] at hq;exact hq));refine⟨_,_,h1,?_,⟨B,X',h2,h3,hw'⟩,Still.cV (X:=X) hw c (o.rJ bp k v) hw' (.inl hn)⟩;cases bp
  ·exact .inr (.inr rfl)
  ·exact .inl rfl
 ·exact(ED h (uQ ha) (kW hm) k v).mono (λe w' ⟨h1,h2⟩=>⟨70,A,h1,.inr (.inl rfl),Av.calm h hw h2,Still.refl _ _⟩)
theorem Ci(h:cz w B A X){i a:Nat}{o:Ob}(c:aY A i a o){v:Nat}(h0:v≠0)(hv:v<=131072)(hm:v∉dL A.cur)(k:Int) :
 aJ prog 133 #[eU B,vI a,vI k,vI v] w λe w'=>e=.returned (vI 70)/\Calm w w':=by
 have hh:=hid (fy h c.mem (c.le h.rep));have hn:=hid (λW (cw:Calm w W)=>ja (h.calm cw) (uQ hv) (kW hm));have b0:(((v:Nat):Int) != 0)=true:=by simp;omega
 clear h;go_in;go_wp2_with fail
 refine(hh.out).mono ?_;rintro e w1 ⟨rfl,c1⟩;go_wp2_with fail
 refine(hn.out _ c1).mono ?_;rintro e w2 ⟨rfl,c2⟩;go_wp2;go_ret;exact⟨rfl,c1.trans c2⟩
theorem Ch(h:cz w B A X)(hw:HW A){a v:Nat}(ha:a<=131072)(hv:v<=131072)(k:Int) :
 aJ prog 133 #[eU B,vI a,vI k,vI v] w λe w'=>∃ (x:Int) (A':HS),e=.returned (vI x)/\nU x/\Av w B w' A'/\Still (λ_=>False) A A':=by
 rcases dZ A a with ⟨i,o,c⟩|hm
 ·by_cases hp:v=0\/v∈dL A.cur
  ·obtain⟨bp,hb⟩:=Uu k o.p;refine(EE h c hb hp hv).mono (λe w' ⟨h1,X',h2,h3⟩=>?_);have hn:(o.e_ bp k v).snd=o.snd:=by unfold Ob.e_;cases bp <;> rfl
   have hw':=hw.cV h.rep c (o.cZ bp k v) h2.rep (λq hq=>by
    cases bp
    ·exact .inl hq
    ·have hq:q∈o.ps.set k.toNat v:=hq;rcases List.mem_or_eq_of_mem_set hq with h4|h4
     ·exact .inl h4
     ·exact .inr (h4 ▸ hp))
   refine⟨_,_,h1,?_,⟨B,X',h2,h3,hw'⟩,Still.cV (X:=X) hw c (o.cZ bp k v) hw' (.inl hn)⟩;cases bp
   ·exact .inr (.inr rfl)
   ·exact .inl rfl
  ·exact(Ci h c (λe=>hp (.inl e)) hv (λe=>hp (.inr e)) k).mono (λe w' ⟨h1,h2⟩=>⟨70,A,h1,.inr (.inl rfl),Av.calm h hw h2,Still.refl _ _⟩)
 ·exact(EF h (uQ ha) (kW hm) k v).mono (λe w' ⟨h1,h2⟩=>⟨70,A,h1,.inr (.inl rfl),Av.calm h hw h2,Still.refl _ _⟩)
theorem Lm(h:cz w B A X)(hw:HW A){a:Nat}(ha:a<=131072)(k:Int) :
 aJ prog 135 #[eU B,vI a,vI k] w λe w'=>∃ (q:Nat) (x:Int) (A':HS),e=.returned (.tuple #[vI (q:Nat),vI x])/\nU x/\q<=131072/\cH A' q/\Av w B w' A'/\oM A A':=by
 rcases dZ A a with ⟨i,o,c⟩|hm
 ·rcases(by omega:(0<=k/\k<o.p)\/(k<0\/(o.p:Int)<=k)) with hk|hk
  ·obtain⟨K,rfl⟩:=Int.eq_ofNat_of_zero_le hk.1;have bU:o.Ok:=(h.rep.ig c.eP).1;have kI:=hw.place (.inl c.eP) (eO 0 (show K<o.ps.length by rw[bU.lp];omega));refine(Ln h c (by omega) kI).mono (λe w' ⟨s',q,g,h1,B',X',h2,h3⟩=>?_);obtain⟨hw',hq⟩:=hw.ptr h.rep c (by omega) g h2.rep;obtain⟨X1,gA⟩:=g.rep h.rep;have fA:=hw.goes h.rep g;refine⟨q,0,_,h1,.inl rfl,?_,hq,⟨B',X',h2,h3,hw'⟩,(oM.goes hw fA g).trans (Still.grow (Still.cV (X:=X1) fA (g.cur c) (o.cZ true K q) hw' (.inl rfl)) (λ_=>id))⟩;rcases hq with e|e
   ·omega
   ·exact h2.rep.mh e
  ·exact(Ex h c hk).mono (λe w' ⟨h1,h2⟩=>⟨0,71,A,h1,.inr (.inr rfl),by omega,.inl rfl,Av.calm h hw h2,oM.refl A⟩)
 ·exact(P2 h (uQ ha) (kW hm) k).mono (λe w' ⟨h1,h2⟩=>⟨0,70,A,h1,.inr (.inl rfl),by omega,.inl rfl,Av.calm h hw h2,oM.refl A⟩)
structure FG(A A':HS)(a:Nat)(sz:Int):Prop where
 grow:∀p∈dL A.cur,p∈dL A'.cur/\nr Ob.ser A' p=nr Ob.ser A p/\nr Ob.snd A' p=nr Ob.snd A p
 here:a∈dL A'.cur
 le:a<=131072
 room:A'.room=A.room-ju sz
 ser:A'.ser=A.ser+1
 n:A'.n=A.n
 mv:A'.mv=A.mv
 fit:ju sz<=A.room
 lv:Je A A' λs w=>s=A.ser+1/\w=0
 fi:A'.fin.length<=A.fin.length+1
 new:nr Ob.ser A' a=A.ser+1
theorem Ef(h:cz w B A X)(hw:HW A){p d:Nat}{wk fn:Bool}(bU:sV p d wk fn)(hs:A.ser<100000) :
 aJ prog 183 #[eU B,mz p d wk fn] w λe w'=>
  (∃ (a:Nat) (A':HS),e=.returned (.tuple #[vI (a:Nat),vI 0])/\Av w B w' A'/\FG A A' a ((3+p+d:Nat):Int))\/(e=.returned (.tuple #[vI 0,vI 100])/\A.room<ju ((3+p+d:Nat):Int)/\Calm w w'):=by
 rcases Int.lt_or_le A.room (ju ((3+p+d:Nat):Int)) with hr|hr
 ·exact(Hy h bU hr).mono (λe w' ⟨h1,h2⟩=>.inr ⟨h1,hr,h2⟩)
 ·have hf:=hw.co.mJ;refine(Eg h bU hr (by omega) ⟨by omega,by omega⟩).mono (λe w' ⟨h1,B',X',h2,h3⟩=>.inl ⟨A.top,_,h1,⟨B',X',h2,h3,hw.alloc h.rep h2.rep⟩,?_⟩);have hw':=hw.alloc h.rep h2.rep;have kv:(A.alloc p d wk fn).cur=A.cur++[(A.top,Ob.new p d wk fn (A.ser+1))]:=rfl
  have hc:∀x∈dL A.cur,∃i o,aY A i x o/\aY (A.alloc p d wk fn) i x o:=λx hx=>by
   obtain⟨i,o,c⟩:=aY.im hx;refine⟨i,o,c,⟨by rw[kv,b_];have:=c.lt;omega,?_⟩⟩;rw[kv,fH _ _ _ c.lt];exact c.get
  have mf:A.top∈dL (A.alloc p d wk fn).cur:=by rw[kv];simp[dL]
  have kK:bZ (A.alloc p d wk fn).cur=bZ A.cur+(Ob.new p d wk fn (A.ser+1)).took:=by rw[kv,gW]
  have hrs:=iw (n:=((3+p+d:Nat):Int)) (by have:=bU.1;have:=bU.2.1;omega);refine⟨λx hx=>?_,mf,h2.rep.mh mf,?_,rfl,rfl,rfl,hr,Je.alloc,?_,?_⟩
  ·obtain⟨i,o,c,d⟩:=hc x hx;exact⟨d.mem,by rw[gM hw' d,gM hw c],by rw[gM hw' d,gM hw c]⟩
  ·show((A.alloc p d wk fn).n:Int)-bZ (A.alloc p d wk fn).cur-eQ (A.alloc p d wk fn).aV=_;rw[kK]
   have e1:((Ob.new p d wk fn (A.ser+1)).took:Int)=ju ((3+p+d:Nat):Int):=by
    have:(Ob.new p d wk fn (A.ser+1)).took=(ju ((3+p+d:Nat):Int)).toNat:=rfl;rw[this,Int.toNat_of_nonneg (by omega)]
   push_cast
   rw[e1];show(A.n:Int)-(bZ A.cur+_)-eQ A.aV=A.room-_;unfold HS.room
   push_cast
   omega
  ·show(bif fn then A.fin++[A.top] else A.fin).length<=_;cases fn
   ·exact Nat.le_succ _
   ·simp
  ·have aM:A.cur.length<(A.cur++[(A.top,Ob.new p d wk fn (A.ser+1))]).length:=by simp
   have d0:aY (A.alloc p d wk fn) A.cur.length A.top (Ob.new p d wk fn (A.ser+1)):=⟨by rw[kv];exact aM,by rw[kv];simp[List.getD]⟩;rw[gM hw' d0];rfl
end
end
section
attribute [local go_sem ↓] Go.wp_at_zero Go.wp_at_succ
def OA(w:ag)(l:List Int)(a:Int)(e:Ending)(w':ag):Prop:=∃x:Int,e=.returned (vI x)/\((0<=x/\a∈l)\/(x = -1/\a∉l))/\w=w'
theorem IV{w:ag}{v:aA}{l:List Int}(hr:Row w v (lj l))(hn:l.length<=1000000)(a:Int):aJ prog 254 #[v,vI a] w (OA w l a):=by
 obtain⟨va,vc,rfl,qg⟩:=hr.loop;obtain⟨n,hN⟩:=ao l.length;rw[hN] at hn;rw[hN];replace hN:=hid hN;replace qg:=hid qg;clear hr;go_in;go_wp2_with fail
 go_loopw [8] (λi wr=>∃k:Nat,k<=n/\i=vI k/\Hid (∀j,j<k->l.getD j 0≠a)/\wr=w) (λi _=>n-(intOf i).toNat)
 case atStart=>exact⟨0,by omega,rfl,hid (λj hj=>absurd hj (by omega)),rfl⟩
 case round=>
  obtain⟨k,hk,rfl,hne,rfl⟩:=hrel;rcases fB k n with aM|ic
  ·have g1:(k:Int)<n:=by omega
   have ki:k<l.length:=by rw[hN.out];exact aM
   obtain⟨b,off,rfl,xV,hc⟩:=qg.out k ki;have iK:l.getD k 0∈l:=by simp[List.getD,ki]
   obtain⟨y,hy⟩:=ao (l.getD k 0);rw[hy] at hc iK;replace hy:=hid hy;replace iK:=hid iK
   by_cases e:a=y
   ·have b1:(a==y)=true:=by simp[e]
    replace e:=hid e;go_wp2;go_ret;exact⟨_,rfl,.inl ⟨by omega,by rw[e.out];exact iK.out⟩,rfl⟩
   ·have b1:(a==y)=false:=by simp[e]
    replace e:=hid e;go_wp2
    go_roundw
    case rel=>exact⟨k+1,by omega,by go_num,hid (λj hj=>by
     rcases fB j k with h|h
     ·exact hne.out j h
     ·obtain rfl:j=k:=by omega
      rw[hy.out];exact λh2=>e.out h2.symm),by trivial⟩
    case measure=>simp[intOf];omega
  ·obtain rfl:k=n:=by omega
   have g1:¬((k:Int)<k):=by omega
   go_wp2;go_ret;refine⟨_,rfl,.inr ⟨rfl,λhm=>?_⟩,rfl⟩;obtain⟨j,hj,e⟩:=cX 0 hm;exact hne.out j (by rw[hN.out] at hj;exact hj) e
theorem Aa{w:ag}{v:aA}{l:List Int}(hr:Row w v (lj l))(hn:l.length<=1000000)(a:Int):aJ prog 231 #[v,vI a] w λe w'=>e=.returned (.bool (decide (a∈l)))/\w=w':=by
 have hi:=hid (IV hr hn a);clear hr;go_in;go_wp2_with fail
 refine(hi.out).mono ?_;rintro e w1 ⟨x,rfl,hx,rfl⟩;rcases hx with ⟨h1,h2⟩|⟨rfl,h2⟩
 ·replace h2:=hid h2;go_wp2;go_ret;exact⟨by rw[decide_eq_true h2.out];simp[h1],rfl⟩
 ·replace h2:=hid h2;go_wp2;go_ret;exact⟨by rw[decide_eq_false h2.out];rfl,rfl⟩
def my(l:aj)(a:Nat)(eI:Int):aj:=if a∈l\/eI<=l.length then l else l++[a]
def JP(w:ag)(lp i:Nat)(vs:List aA)(v:aA)(l:aj)(a:Nat)(eI:Int)(e:Ending)(w':ag):Prop:=
 ∃v',e=.returned (.bool (decide (a∈l) || decide ((l.length:Int)<eI)))/\af w' lp (vs.set i v')/\aI w' 0 v' (nI (my l a eI))/\Fr (λk=>k=lp\/ay v k) w w'/\∀k,ay v' k->ay v k\/w.heap.size<=k
theorem Gq{w:ag}{lp i:Nat}{vs:List aA}{v:aA}{l:aj}(h:af w lp vs)(hv:vs[i]?=some v)(hr:aI w 0 v (nI l))(hn:¬ay v lp)(hl:l.length<=100000)(a:Nat)(eI:Int) :
 aJ prog 193 #[.pointer (some ⟨lp,i,none⟩),vI a,vI eI] w (JP w lp i vs v l a eI):=by
 have hvi:i<vs.length:=by rcases fB i vs.length with h|h;exact h;rw[List.getElem?_eq_none h] at hv;cases hv
 have y0:=(h i v hv).1;have y1:=(h i v hv).2;have oC:lp<w.heap.size:=nt w _ y0;obtain⟨va,vn,vc,rfl⟩:=hr.letters;have pL:vn=l.length:=by obtain⟨a',c',e⟩:=hr.slice;injection e with _ e2 _;simpa using e2
 have mF:vs.set i (.slice va vn vc)=vs:=by
  apply List.ext_getElem (by simp);intro j h1 h2;rw[List.getElem_set];split
  ·rename_i e;subst e;rw[lQ hvi] at hv;exact(Option.some.inj hv).symm
  ·rfl
 have hct:=hid (Aa hr.row (by simp;omega) (a:Int))
 have iK:decide ((a:Int)∈nI l)=decide (a∈l):=by
  by_cases hm:a∈l
  ·rw[decide_eq_true hm,decide_eq_true (gV.2 hm)]
  ·rw[decide_eq_false hm,decide_eq_false (λe=>hm (gV.1 e))]
 have uI:=hid hr;have H:=hid h;subst pL;replace hn:=hid hn;replace mF:=hid mF;replace iK:=hid iK;replace hv:=hid hv;replace hvi:=hid hvi;clear h hr;go_in;go_wp2_with fail
 refine(hct.out).mono ?_;rintro e w1 ⟨rfl,rfl⟩;rw[iK.out]
 by_cases hm:a∈l
 ·rw[decide_eq_true hm];replace hm:=hid hm;go_wp2;go_ret;refine⟨_,by rw[decide_eq_true hm.out];rfl,by rw[mF.out];exact H.out,by unfold my;rw[if_pos (.inl hm.out)];exact uI.out,ah,λk hk=>.inl hk⟩
 ·rw[decide_eq_false hm];replace hm:=hid hm;rcases Int.lt_or_le (l.length:Int) eI with aM|ic
  ·have g1:¬((l.length:Int)>=eI):=by omega
   have EO:lp≠w.heap.size:=by omega
   go_wp2_with (at_builtin;go_must (refine cU rfl _ _ rfl 0 (.slice va l.length vc) (nI l) uI.out rfl (a:Int) rfl (by simp;omega) (by omega) ?_);intro g gc w3 fp f3 hg;have q0:=f3.cellAt y0 hn.out;have q1:=f3.frozenAt y0 y1 hn.out;have hH:=hid (H.out.fr f3 hn.out);replace fp:=hid fp;replace f3:=hid f3;replace hg:=hid hg)
   have f4:Fr (λk=>k=lp\/ay (.slice va l.length vc) k) w (w3.setCell ⟨lp,i,none⟩ (.slice (some ⟨g,0,none⟩) (l.length+1) gc)):=(f3.out.mono (λk _ e=>.inr e)).setCell (p:=⟨lp,i,none⟩) (.inl (.inl rfl)) _
   have US:g≠lp:=by
    rintro rfl;rcases hg.out with h|h
    ·exact hn.out h
    ·omega
   go_wp2;go_ret;refine⟨.slice (some ⟨g,0,none⟩) (l.length+1) gc,by rw[decide_eq_false hm.out,decide_eq_true aM];rfl,hH.out.set i _ hvi.out,?_,f4,λk hk=>?_⟩
   ·unfold my;rw[if_neg (λe=>e.elim hm.out (λe=>by omega))];have:=fp.out.dw ((Fr.refl (λb=>b=lp) w3).setCell (p:=⟨lp,i,none⟩) (.inl rfl) (.slice (some ⟨g,0,none⟩) (l.length+1) gc)) (λk hk e=>US ((ay.fJ hk).symm.trans e));simpa using this
   ·rw[ay.fJ hk];exact hg.out
  ·have g1:((l.length:Int)>=eI):=by omega
   go_wp2;go_ret;refine⟨_,by rw[decide_eq_false hm.out,decide_eq_false (by omega)];rfl,by rw[mF.out];exact H.out,by unfold my;rw[if_pos (.inr ic)];exact uI.out,ah,λk hk=>.inl hk⟩
structure Hd where
 at_:Nat
 dm:Int
structure Ud where
 kind:Int
 at_:Nat
 i:Int
 aV:Int
def wM(x:Hd):List aA:=[vI x.at_,vI x.dm]
def qL(x:Ud):List aA:=[vI x.kind,vI x.at_,vI x.i,vI x.aV]
structure cd where
 mr:Int
 mu:Int
 vr:aA
 vk:aA
 vh:aA
 vu:aA
 reads:aj
 keeps:aj
 holds:List Hd
 az:List Ud
def A0(v:aA)(l:List Hd):tQ:=fU 219 2 v l.length (l.flatMap wM)
def A_(v:aA)(l:List Ud):tQ:=fU 231 4 v l.length (l.flatMap qL)
structure cg(M:Mem)(g lp:Nat)(L:cd):Prop where
 c:M (g+1)=bD lp (vI L.mr) [vI L.mu,L.vr,L.vk,L.vh,L.vu]
 r:M (g+2)=fV L.vr (nI L.reads)
 k:M (g+3)=fV L.vk (nI L.keeps)
 h:M (g+4)=A0 L.vh L.holds
 u:M (g+5)=A_ L.vu L.az
theorem cg.only{M M':Mem}{g lp:Nat}{L:cd}{P:Nat->Prop}(h:cg M g lp L)(o:Mem.cf P M M')(hp:∀t,g+1<=t->t<=g+5->¬P t):cg M' g lp L:=
 ⟨(o _ (hp _ (by omega) (by omega))).trans h.c,(o _ (hp _ (by omega) (by omega))).trans h.r,(o _ (hp _ (by omega) (by omega))).trans h.k,(o _ (hp _ (by omega) (by omega))).trans h.h,(o _ (hp _ (by omega) (by omega))).trans h.u⟩
section
variable {w:ag}{τ:Nat->Nat}{M:Mem}{g lp:Nat}{L:cd}
theorem cg.cells(h:bE w τ M)(hl:cg M g lp L):af w lp [vI L.mr,vI L.mu,L.vr,L.vk,L.vh,L.vu]:=by have:=h.at_ (g+1);rw[hl.c] at this;exact this
theorem cg.QI(h:bE w τ M)(hl:cg M g lp L):aI w 0 L.vr (nI L.reads):=by have:=h.at_ (g+2);rw[hl.r] at this;exact this
theorem cg.Wk(h:bE w τ M)(hl:cg M g lp L):aI w 0 L.vk (nI L.keeps):=by have:=h.at_ (g+3);rw[hl.k] at this;exact this
theorem cg.QH(h:bE w τ M)(hl:cg M g lp L):w.ownsRow 0 219 2 L.vh L.holds.length (L.holds.flatMap wM):=by have:=h.at_ (g+4);rw[hl.h] at this;exact this
theorem cg.QJ(h:bE w τ M)(hl:cg M g lp L):w.ownsRow 0 231 4 L.vu L.az.length (L.az.flatMap qL):=by have:=h.at_ (g+5);rw[hl.u] at this;exact this
theorem cg.nV(hl:cg M g lp L):(M (g+1)).dh=λk=>k=lp:=by rw[hl.c];rfl
theorem cg.OS(hl:cg M g lp L):(M (g+2)).dh=ay L.vr:=by rw[hl.r];rfl
theorem cg.OU(hl:cg M g lp L):(M (g+3)).dh=ay L.vk:=by rw[hl.k];rfl
theorem cg.OV(hl:cg M g lp L):(M (g+4)).dh=ay L.vh:=by rw[hl.h];rfl
theorem cg.OX(hl:cg M g lp L):(M (g+5)).dh=ay L.vu:=by rw[hl.u];rfl
def AR(w:ag)(τ:Nat->Nat)(M:Mem)(g lp:Nat)(L:cd)(a:Nat)(e:Ending)(w':ag):Prop:=
 ∃v' aL M',e=.returned (.bool (decide (a∈L.reads) || decide ((L.reads.length:Int)<L.mr)))/\bE w' aL M' /\
  cg M' g lp { L with vr:=v',reads:=my L.reads a L.mr } /\ Mem.cf (λt=>g+1<=t/\t<=g+5) M M'/\aC w τ w' aL
theorem Iq(h:bE w τ M)(hl:cg M g lp L)(hg:g<=400)(jq:L.reads.length<=100000)(a:Nat) :
 aJ prog 192 #[pV lp,vI a] w (AR w τ M g lp L a):=by
 have hc:=hl.cells h;have y0:=(hc 0 _ rfl).1;have hr:=hl.QI h;have hn:¬ay L.vr lp:=λe=>h.apart (t:=g+1) (u:=g+2) (by omega) (k:=lp) (by rw[hl.nV]) (by rw[hl.OS];exact e);have Ve:=hid (λW (cw:Calm w W)=>Gq (i:=2) (hc.calm cw) rfl (hr.calm cw) hn jq a L.mr);have H:=hid h;have HL:=hid hl;obtain⟨mr,ZX⟩:=ao L.mr;rw[ZX] at y0 Ve;clear h hl hc hr hn;go_in;go_wp2_with fail
 go_region_held3 (λw'=>w'.cell? ⟨lp,0,none⟩=some (vI mr)) (go_keep)
  (first|(go_at_call 193;refine(Ve.out _ (by first|exact ah|exact ah.drew)).mono ?_;rintro e w2 ⟨v',rfl,hC,hR,hF,hN⟩;have ka:Fr (λk=>k=lp\/ay L.vr k) w w2:=Fr.trans (by first|exact ah|exact ah.drew) hF;have q0:w2.cell? ⟨lp,0,none⟩=some (vI mr):=(hC 0 _ rfl).1;replace hC:=hid hC;replace hR:=hid hR;replace hF:=hid hF;replace hN:=hid hN;replace ka:=hid ka))
 subst ZX
 obtain⟨aL,h1,h2⟩:=H.out.xm (t:=g+1) (u:=g+2) (by omega) (a:=bD lp (vI L.mr) [vI L.mu,v',L.vk,L.vh,L.vu]) (b:=fV v' (nI (my L.reads a L.mr))) (by rw[HL.out.nV,HL.out.OS];exact ka.out) hC.out hR.out (λk hk=>by rw[HL.out.nV];exact hk) (λk hk=>by
  rw[HL.out.OS];rcases hN.out k hk with e|e
  ·exact .inl e
  ·right;exact e) (by omega) (by omega)
 have hP:Hid (AR w τ M g lp L a (.returned (.bool (decide (a∈L.reads) || decide ((L.reads.length:Int)<L.mr)))) w2):=by
  refine⟨v',aL,_,rfl,h1,⟨?_,?_,?_,?_,?_⟩,?_,h2⟩
  ·rw[Mem.aB _ _ (by omega),Mem.aG]
  ·rw[Mem.aG]
  ·rw[Mem.aB _ _ (by omega),Mem.aB _ _ (by omega)];exact HL.out.k
  ·rw[Mem.aB _ _ (by omega),Mem.aB _ _ (by omega)];exact HL.out.h
  ·rw[Mem.aB _ _ (by omega),Mem.aB _ _ (by omega)];exact HL.out.u
  ·exact(Mem.cf.put M _ ⟨by omega,by omega⟩).trans (Mem.cf.put _ _ ⟨by omega,by omega⟩)
 clear hC hR hF hN ka h1 h2 Ve;go_wp2;go_ret;exact hP.out
def AU(w:ag)(τ:Nat->Nat)(M:Mem)(g lp:Nat)(L:cd)(a:Nat)(e:Ending)(w':ag):Prop:=
 ∃v' aL M',e=.returned (.bool (decide (a∈L.keeps) || decide ((L.keeps.length:Int)<L.mr)))/\bE w' aL M' /\
  cg M' g lp { L with vk:=v',keeps:=my L.keeps a L.mr } /\ Mem.cf (λt=>g+1<=t/\t<=g+5) M M'/\aC w τ w' aL
theorem Ir(h:bE w τ M)(hl:cg M g lp L)(hg:g<=400)(jq:L.keeps.length<=100000)(a:Nat) :
 aJ prog 138 #[pV lp,vI a] w (AU w τ M g lp L a):=by
 have hc:=hl.cells h;have y0:=(hc 0 _ rfl).1;have hr:=hl.Wk h;have hn:¬ay L.vk lp:=λe=>h.apart (t:=g+1) (u:=g+3) (by omega) (k:=lp) (by rw[hl.nV]) (by rw[hl.OU];exact e);have Ve:=hid (λW (cw:Calm w W)=>Gq (i:=3) (hc.calm cw) rfl (hr.calm cw) hn jq a L.mr);have H:=hid h;have HL:=hid hl;obtain⟨mr,ZX⟩:=ao L.mr;rw[ZX] at y0 Ve;clear h hl hc hr hn;go_in;go_wp2_with fail
 go_region_held3 (λw'=>w'.cell? ⟨lp,0,none⟩=some (vI mr)) (go_keep)
  (first|(go_at_call 193;refine(Ve.out _ (by first|exact ah|exact ah.drew)).mono ?_;rintro e w2 ⟨v',rfl,hC,hR,hF,hN⟩;have ka:Fr (λk=>k=lp\/ay L.vk k) w w2:=Fr.trans (by first|exact ah|exact ah.drew) hF;have q0:w2.cell? ⟨lp,0,none⟩=some (vI mr):=(hC 0 _ rfl).1;replace hC:=hid hC;replace hR:=hid hR;replace hF:=hid hF;replace hN:=hid hN;replace ka:=hid ka))
 subst ZX
 obtain⟨aL,h1,h2⟩:=H.out.xm (t:=g+1) (u:=g+3) (by omega) (a:=bD lp (vI L.mr) [vI L.mu,L.vr,v',L.vh,L.vu]) (b:=fV v' (nI (my L.keeps a L.mr))) (by rw[HL.out.nV,HL.out.OU];exact ka.out) hC.out hR.out (λk hk=>by rw[HL.out.nV];exact hk) (λk hk=>by
  rw[HL.out.OU];rcases hN.out k hk with e|e
  ·exact .inl e
  ·right;exact e) (by omega) (by omega)
 have hP:Hid (AU w τ M g lp L a (.returned (.bool (decide (a∈L.keeps) || decide ((L.keeps.length:Int)<L.mr)))) w2):=by
  refine⟨v',aL,_,rfl,h1,⟨?_,?_,?_,?_,?_⟩,?_,h2⟩
  ·rw[Mem.aB _ _ (by omega),Mem.aG]
  ·rw[Mem.aB _ _ (by omega),Mem.aB _ _ (by omega)];exact HL.out.r
  ·rw[Mem.aG]
  ·rw[Mem.aB _ _ (by omega),Mem.aB _ _ (by omega)];exact HL.out.h
  ·rw[Mem.aB _ _ (by omega),Mem.aB _ _ (by omega)];exact HL.out.u
  ·exact(Mem.cf.put M _ ⟨by omega,by omega⟩).trans (Mem.cf.put _ _ ⟨by omega,by omega⟩)
 clear hC hR hF hN ka h1 h2 Ve;go_wp2;go_ret;exact hP.out
theorem kH(x:Hd):(wM x).length=2:=rfl
theorem ml(x:Ud):(qL x).length=4:=rfl
abbrev dH:Hd:=⟨0,0⟩
abbrev dU:Ud:=⟨0,0,0,0⟩
theorem iV(w:ag)(xs:List aA)(t:TypeId)(j:Nat){u:aA}(hj:xs[j]?=some u):(w.alloc (.cells xs.toArray t)).cell? ⟨w.heap.size,j,none⟩=some u:=by
 rw[World.cell?_alloc_new];simpa using hj
def xT(l:List Hd)(a:Nat):Bool:=l.any λx=>x.at_==a
theorem KG{l:List Hd}{a:Nat}(h:∀j,j<l.length->(l.getD j dH).at_≠a):xT l a=false:=by
 unfold xT;rw[List.any_eq_false];intro x hx;obtain⟨j,hj,e⟩:=cX dH hx;have:=h j hj;rw[e] at this;simpa using this
theorem Hz{l:List Hd}{a j:Nat}(hj:j<l.length)(h:(l.getD j dH).at_=a):xT l a=true:=by
 unfold xT;rw[List.any_eq_true];exact⟨_,get_mem dH hj,by simpa using h⟩
def mQ(w:ag)(τ:Nat->Nat)(M:Mem)(g lp:Nat)(L:cd)(x:Hd)(e:Ending)(w':ag):Prop:=
 ∃b v' aL M',e=.returned (.bool b)/\b=(!xT L.holds x.at_ && decide ((L.holds.length:Int)<L.mu))/\bE w' aL M' /\
  cg M' g lp { L with vh:=v',holds:=bif b then L.holds++[x] else L.holds } /\ Mem.cf (λt=>g+1<=t/\t<=g+5) M M'/\aC w τ w' aL
theorem mQ.no{w w':ag}(h:bE w τ M)(hl:cg M g lp L){x:Hd}(c:Calm w w')(hb:(!xT L.holds x.at_ && decide ((L.holds.length:Int)<L.mu))=false):mQ w τ M g lp L x (.returned (.bool false)) w':=
 ⟨false,L.vh,τ,M,rfl,hb.symm,h.calm c,hl,Mem.cf.refl _ _,aC.calm τ c⟩
theorem LL(h:bE w τ M)(hl:cg M g lp L)(hg:g<=400)(jq:L.holds.length<=100000)(x:Hd) :
 aJ prog 184 #[pV lp,.agg #[vI x.at_,vI x.dm]] w (mQ w τ M g lp L x):=by
 have hc:=hl.cells h;have y1:=(hc 1 _ rfl).1;have y4:=(hc 4 _ rfl).1;have z4:=(hc 4 _ rfl).2;have oC:lp<w.heap.size:=nt w _ y1;have hr:=hl.QH h;have hn:¬ay L.vh lp:=λe=>h.apart (t:=g+1) (u:=g+4) (by omega) (k:=lp) (by rw[hl.nV]) (by rw[hl.OV];exact e);obtain⟨sa,sc,hv⟩:=aF hr;have gG:=hid (λi (hi:i<L.holds.length)=>bT kH (by decide) hr dH hi);obtain⟨n,hN⟩:=ao L.holds.length;have Vd:=hid (λ(w':ag) (c:Calm w w') hb=>mQ.no (x:=x) h hl c hb);rw[hv] at y4 hn;rw[hN] at y4 jq hn;have H:=hid h;have HL:=hid hl;replace hr:=hid hr;obtain⟨mu,U_⟩:=ao L.mu;rw[U_] at y1;replace hc:=hid hc;replace hN:=hid hN;replace hv:=hid hv;replace hn:=hid hn;clear h hl;go_in;go_wp2_with fail
 have k0:Calm w (w.alloc (.cells #[vI x.at_,vI x.dm] 219)):=ah.alloc _;have o3:=af.new w [vI x.at_,vI x.dm] 219;have EH:(w.alloc (.cells #[vI x.at_,vI x.dm] 219)).heap.size=w.heap.size+1:=by simp
 generalize gF:w.alloc (.cells #[vI x.at_,vI x.dm] 219)=W0 at *;generalize w.heap.size=P at *;clear gF;go_loopw [14] (λi wr=>∃k:Nat,k<=n/\i=vI k/\Hid (∀j,j<k->(L.holds.getD j dH).at_≠x.at_)/\Calm W0 wr) (λi _=>n-(intOf i).toNat)
 case atStart=>exact⟨0,by omega,rfl,hid (λj hj=>absurd hj (by omega)),ah⟩
 case round=>
  obtain⟨k,hk,rfl,hne,kr⟩:=hrel;have k1:=k0.trans kr;have o4:=o3.calm kr;obtain⟨u0,u1⟩:=af.N1 o4;have RI:=o4.lt (by simp);rcases fB k n with aM|ic
  ·have g1:(k:Int)<n:=by omega
   obtain⟨b,c',dK,hcs⟩:=gG.out k (by rw[hN.out];exact aM);rw[hv.out] at dK;injection dK with e1 e2 e3
   subst e1;have q0:=k1.cellAt (hcs 0 _ rfl).1 id;have q1:=k1.cellAt (hcs 1 _ rfl).1 id;rw[fM] at q0;clear e2 e3 hcs;obtain⟨y,hy⟩:=ao (L.holds.getD k dH);rw[hy] at q0 q1;replace hy:=hid hy
   by_cases e:y.at_=x.at_
   ·have b1:(((y.at_:Nat):Int)==((x.at_:Nat):Int))=true:=by simp[e]
    have hb:Hid (xT L.holds x.at_=true):=Hz (j:=k) (by rw[hN.out];exact aM) (by rw[hy.out];exact e);have k2:=hid (k1.alloc (.cells #[vI y.at_,vI y.dm] 219));clear e o3 o4 k0;go_wp2;go_ret;exact Vd.out _ k2.out (by rw[hb.out];rfl)
   ·have b1:(((y.at_:Nat):Int)==((x.at_:Nat):Int))=false:=by simp;omega
    have k2:=hid (kr.alloc (.cells #[vI y.at_,vI y.dm] 219));replace e:=hid e;go_wp2
    go_roundw
    case rel=>exact⟨k+1,by omega,by go_num,hid (λj hj=>by
     rcases fB j k with h|h
     ·exact hne.out j h
     ·obtain rfl:j=k:=by omega
      rw[hy.out];exact e.out),k2.out⟩
    case measure=>simp[intOf];omega
  ·obtain rfl:k=n:=by omega
   have g1:¬((k:Int)<k):=by omega
   have hb:Hid (xT L.holds x.at_=false):=KG (λj hj=>hne.out j (by rw[hN.out] at hj;exact hj));have w1:=k1.cellAt y1 id;have w4:=k1.cellAt y4 id;have f4:=k1.frozenAt y4 z4 id;clear ic hk hne gG;go_wp2_with fail
   go_region
   by_cases aM:(k:Int)<mu
   ·have g2:¬((k:Int)>=mu):=by omega
    have kd:Calm w wr.drew:=k1.trans (ah.drew);have od:=o4.calm (ah.drew:Calm wr wr.drew);have iG:Hid (w.heap.size<=wr.drew.heap.size):=kd.size;have v1:=kd.cellAt y1 id;have v4:=kd.cellAt y4 id;have r4:=kd.frozenAt y4 z4 id;obtain⟨v0,v0'⟩:=af.N1 od;have gA:=hid (aw hr.out kd (λ_ _=>id));have hlW:lp<wr.drew.heap.size:=nt _ _ v1;have hPW:P<wr.drew.heap.size:=od.lt (by simp);rw[hv.out,hN.out] at gA;clear u0 u1 w1 w4 f4 o4 o3 k0 kr k1 Vd;generalize wr.drew=W1 at *;go_wp2_with fail
    go_region_law
     ((refine gu giH rfl _ _ rfl (.slice sa k sc) k (L.holds.flatMap wM) (aw gA.out (by first|exact ah.alloc _|exact(ah.drew).alloc _|exact(ah.alloc _).drew:Calm W1 _) (λ_ _=>id)) rfl (wM x) rfl (by simp[wM,Value.oneCell']) ⟨W1.heap.size,0,none⟩ 1 rfl (λj u hj=>by rw[dM];simp only[ia];exact iV _ _ _ _ hj) (by omega) ?_;intro q gc W3 fp f3 BR;have ka:Fr (ay (.slice sa k sc)) W1 W3:=Fr.trans (by first|exact ah.alloc _|exact(ah.drew).alloc _|exact(ah.alloc _).drew) f3;have q4:=ka.cellAt v4 hn.out;have p4:=ka.frozenAt v4 r4 hn.out;replace fp:=hid fp;replace BR:=hid BR;replace f3:=hid f3;replace ka:=hid ka))
    all_goals
     have hP:Hid (mQ w τ M g lp L x (.returned (.bool true)) (W3.setCell ⟨lp,4,none⟩ (.slice (some ⟨q,0,none⟩) (k+1) gc))):=by
      have hs:=iG.out;have abI:lp<w.heap.size:=nt w _ y1
      have qZ:ay (.slice sa k sc) q\/w.heap.size<=q:=by
       rcases BR.out with e|e
       ·exact .inl e
       ·right;simp at e;omega
      have hqx:q≠lp:=by
       rintro rfl;rcases qZ with e|e
       ·exact hn.out e
       ·omega
      have f4:Fr (λk'=>k'=lp\/ay (.slice sa k sc) k') w (W3.setCell ⟨lp,4,none⟩ (.slice (some ⟨q,0,none⟩) (k+1) gc)):=((Calm.any kd:Fr (λk'=>k'=lp\/ay (.slice sa k sc) k') _ _).trans (ka.out.mono (λk' _ e=>.inr e))).setCell (p:=⟨lp,4,none⟩) (.inl (.inl rfl)) _;have hC:=(((hc.out.calm kd).fr ka.out hn.out).set 4 (.slice (some ⟨q,0,none⟩) (k+1) gc) (by simp));have hR:=aw fp.out ((Fr.refl (λb=>b=lp) W3).setCell (p:=⟨lp,4,none⟩) (.inl rfl) (.slice (some ⟨q,0,none⟩) (k+1) gc)) (λk' zB e=>hqx ((ay.fJ zB).symm.trans e));have hlen:(L.holds++[x]).length=k+1:=by rw[b_,hN.out];rfl
      have qG:(L.holds++[x]).flatMap wM=L.holds.flatMap wM++wM x:=by simp
      obtain⟨aL,h1,h2⟩:=H.out.xm (t:=g+1) (u:=g+4) (by omega) (a:=bD lp (vI L.mr) [vI L.mu,L.vr,L.vk,.slice (some ⟨q,0,none⟩) (k+1) gc,L.vu]) (b:=A0 (.slice (some ⟨q,0,none⟩) (k+1) gc) (L.holds++[x])) (by rw[HL.out.nV,HL.out.OV,hv.out,hN.out];exact f4) hC (by show World.ownsRow _ _ _ _ _ _ _;rw[hlen,qG];exact hR) (λk' zB=>by rw[HL.out.nV];exact zB) (λk' zB=>by
       rw[HL.out.OV,hv.out,hN.out];have zB:ay (.slice (some ⟨q,0,none⟩) (k+1) gc) k':=zB
       rw[ay.fJ zB];exact qZ) (by omega) (by omega)
      refine⟨true,.slice (some ⟨q,0,none⟩) (k+1) gc,aL,_,rfl,by rw[hb.out,hN.out,U_];simp[aM],h1,⟨?_,?_,?_,?_,?_⟩,?_,h2⟩
      ·rw[Mem.aB _ _ (by omega),Mem.aG]
      ·rw[Mem.aB _ _ (by omega),Mem.aB _ _ (by omega)];exact HL.out.r
      ·rw[Mem.aB _ _ (by omega),Mem.aB _ _ (by omega)];exact HL.out.k
      ·rw[Mem.aG];rfl
      ·rw[Mem.aB _ _ (by omega),Mem.aB _ _ (by omega)];exact HL.out.u
      ·exact(Mem.cf.put M _ ⟨by omega,by omega⟩).trans (Mem.cf.put _ _ ⟨by omega,by omega⟩)
     clear fp BR f3 ka q4 p4 v0 v0' v1 v4 r4;go_wp2;go_ret;exact hP.out
   ·have g2:((k:Int)>=mu):=by omega
    go_wp2;go_ret;exact Vd.out _ (k1.trans (ah.drew)) (by rw[hb.out,hN.out,U_];simp;omega)
end
section
variable {w:ag}{τ:Nat->Nat}{M:Mem}{g lp:Nat}{L:cd}
def uf(w:ag)(τ:Nat->Nat)(M:Mem)(g lp:Nat)(L:cd)(x:Ud)(e:Ending)(w':ag):Prop:=
 ∃b v' aL M',e=.returned (.bool b)/\b=decide ((L.az.length:Int)<L.mu)/\bE w' aL M' /\
  cg M' g lp { L with vu:=v',az:=bif b then L.az++[x] else L.az } /\ Mem.cf (λt=>g+1<=t/\t<=g+5) M M'/\aC w τ w' aL
theorem LM(h:bE w τ M)(hl:cg M g lp L)(hg:g<=400)(jq:L.az.length<=100000)(x:Ud) :
 aJ prog 148 #[pV lp,.agg #[vI x.kind,vI x.at_,vI x.i,vI x.aV]] w (uf w τ M g lp L x):=by
 have hc:=hl.cells h;have y1:=(hc 1 _ rfl).1;have y5:=(hc 5 _ rfl).1;have z5:=(hc 5 _ rfl).2;have oC:lp<w.heap.size:=nt w _ y1;have hr:=hl.QJ h;have hn:¬ay L.vu lp:=λe=>h.apart (t:=g+1) (u:=g+5) (by omega) (k:=lp) (by rw[hl.nV]) (by rw[hl.OX];exact e);obtain⟨sa,sc,hv⟩:=aF hr;obtain⟨n,hN⟩:=ao L.az.length;rw[hv] at y5 hn;rw[hN] at y5 jq hn;have H:=hid h;have HL:=hid hl;replace hr:=hid hr;obtain⟨mu,U_⟩:=ao L.mu;rw[U_] at y1;replace hc:=hid hc;replace hN:=hid hN;replace hv:=hid hv;replace hn:=hid hn;clear h hl;go_in;go_wp2_with fail
 have k0:Calm w (w.alloc (.cells #[vI x.kind,vI x.at_,vI x.i,vI x.aV] 231)):=ah.alloc _;have o3:=af.new w [vI x.kind,vI x.at_,vI x.i,vI x.aV] 231;obtain⟨P,Jo⟩:=ao w.heap.size;rw[Jo] at o3 ⊢;have x1:=k0.cellAt y1 id;have x5:=k0.cellAt y5 id;generalize gF:w.alloc (.cells #[vI x.kind,vI x.at_,vI x.i,vI x.aV] 231)=W0 at *;replace Jo:=hid Jo;clear gF
 go_region
 have kd:Calm w W0.drew:=k0.trans (ah.drew)
 by_cases aM:(n:Int)<mu
 ·have g2:¬((n:Int)>=mu):=by omega
  have od:=o3.calm (ah.drew:Calm W0 W0.drew);have iG:Hid (w.heap.size<=W0.drew.heap.size):=kd.size;have v1:=kd.cellAt y1 id;have v4:=kd.cellAt y5 id;have r4:=kd.frozenAt y5 z5 id;obtain⟨va,vb,vc,vd⟩:=af.Bh od;have gA:=hid (aw hr.out kd (λ_ _=>id));have hlW:lp<W0.drew.heap.size:=nt _ _ v1;have hPW:P<W0.drew.heap.size:=od.lt (by simp);rw[hv.out,hN.out] at gA;clear x1 x5 o3 k0 oC;generalize W0.drew=W1 at *;go_wp2_with fail
  go_region_law
   ((refine gu giU rfl _ _ rfl (.slice sa n sc) n (L.az.flatMap qL) (aw gA.out (by first|exact ah.alloc _|exact(ah.drew).alloc _|exact(ah.alloc _).drew:Calm W1 _) (λ_ _=>id)) rfl (qL x) rfl (by simp[qL,Value.oneCell']) ⟨W1.heap.size,0,none⟩ 1 rfl (λj u hj=>by rw[dM];simp only[ia];exact iV _ _ _ _ hj) (by omega) ?_;intro q gc W3 fp f3 BR;have ka:Fr (ay (.slice sa n sc)) W1 W3:=Fr.trans (by first|exact ah.alloc _|exact(ah.drew).alloc _|exact(ah.alloc _).drew) f3;have q4:=ka.cellAt v4 hn.out;have p4:=ka.frozenAt v4 r4 hn.out;replace fp:=hid fp;replace BR:=hid BR;replace f3:=hid f3;replace ka:=hid ka))
  all_goals
   have hP:Hid (uf w τ M g lp L x (.returned (.bool true)) (W3.setCell ⟨lp,5,none⟩ (.slice (some ⟨q,0,none⟩) (n+1) gc))):=by
    have hs:=iG.out;have abI:lp<w.heap.size:=nt w _ y1
    have qZ:ay (.slice sa n sc) q\/w.heap.size<=q:=by
     rcases BR.out with e|e
     ·exact .inl e
     ·right;simp at e;omega
    have hqx:q≠lp:=by
     rintro rfl;rcases qZ with e|e
     ·exact hn.out e
     ·omega
    have f4:Fr (λk'=>k'=lp\/ay (.slice sa n sc) k') w (W3.setCell ⟨lp,5,none⟩ (.slice (some ⟨q,0,none⟩) (n+1) gc)):=((Calm.any kd:Fr (λk'=>k'=lp\/ay (.slice sa n sc) k') _ _).trans (ka.out.mono (λk' _ e=>.inr e))).setCell (p:=⟨lp,5,none⟩) (.inl (.inl rfl)) _;have hC:=(((hc.out.calm kd).fr ka.out hn.out).set 5 (.slice (some ⟨q,0,none⟩) (n+1) gc) (by simp));have hR:=aw fp.out ((Fr.refl (λb=>b=lp) W3).setCell (p:=⟨lp,5,none⟩) (.inl rfl) (.slice (some ⟨q,0,none⟩) (n+1) gc)) (λk' zB e=>hqx ((ay.fJ zB).symm.trans e));have hlen:(L.az++[x]).length=n+1:=by rw[b_,hN.out];rfl
    have qG:(L.az++[x]).flatMap qL=L.az.flatMap qL++qL x:=by simp
    obtain⟨aL,h1,h2⟩:=H.out.xm (t:=g+1) (u:=g+5) (by omega) (a:=bD lp (vI L.mr) [vI L.mu,L.vr,L.vk,L.vh,.slice (some ⟨q,0,none⟩) (n+1) gc]) (b:=A_ (.slice (some ⟨q,0,none⟩) (n+1) gc) (L.az++[x])) (by rw[HL.out.nV,HL.out.OX,hv.out,hN.out];exact f4) hC (by show World.ownsRow _ _ _ _ _ _ _;rw[hlen,qG];exact hR) (λk' zB=>by rw[HL.out.nV];exact zB) (λk' zB=>by
     rw[HL.out.OX,hv.out,hN.out];have zB:ay (.slice (some ⟨q,0,none⟩) (n+1) gc) k':=zB
     rw[ay.fJ zB];exact qZ) (by omega) (by omega)
    refine⟨true,.slice (some ⟨q,0,none⟩) (n+1) gc,aL,_,rfl,by rw[hN.out,U_];simp[aM],h1,⟨?_,?_,?_,?_,?_⟩,?_,h2⟩
    ·rw[Mem.aB _ _ (by omega),Mem.aG]
    ·rw[Mem.aB _ _ (by omega),Mem.aB _ _ (by omega)];exact HL.out.r
    ·rw[Mem.aB _ _ (by omega),Mem.aB _ _ (by omega)];exact HL.out.k
    ·rw[Mem.aB _ _ (by omega),Mem.aB _ _ (by omega)];exact HL.out.h
    ·rw[Mem.aG];rfl
    ·exact(Mem.cf.put M _ ⟨by omega,by omega⟩).trans (Mem.cf.put _ _ ⟨by omega,by omega⟩)
   clear fp BR f3 ka q4 p4 va vb vc vd v1 v4 r4;go_wp2;go_ret;exact hP.out
 ·have g2:((n:Int)>=mu):=by omega
  have hP:Hid (uf w τ M g lp L x (.returned (.bool false)) W0.drew):=⟨false,L.vu,τ,M,rfl,by rw[hN.out,U_];simp;omega,H.out.calm kd,HL.out,Mem.cf.refl _ _,aC.calm τ kd⟩;go_wp2;go_ret;exact hP.out
def cd.empty(L:cd):cd:={ L with vr:=.slice none 0 0,vk:=.slice none 0 0,vh:=.slice none 0 0,vu:=.slice none 0 0,reads:=[],keeps:=[],holds:=[],az:=[] }
def xE(w:ag)(τ:Nat->Nat)(M:Mem)(g lp:Nat)(L:cd)(e:Ending)(w':ag):Prop:=
 ∃M',e=.returned (.tuple #[])/\bE w' τ M'/\cg M' g lp L.empty/\Mem.cf (λt=>g+1<=t/\t<=g+5) M M'/\aC w τ w' τ
theorem qs(w:ag)(base:Nat)(e:TypeId)(k:Nat):w.ownsRow base e k (.slice none 0 0) 0 []:=World.ownsRow_nil _ _ _ _
theorem Iu(h:bE w τ M)(hl:cg M g lp L)(hg:g<=400) :
 aJ prog 177 #[pV lp] w (xE w τ M g lp L):=by
 have hc:=hl.cells h;have y2:=(hc 2 _ rfl).1;have y3:=(hc 3 _ rfl).1;have y4:=(hc 4 _ rfl).1;have y5:=(hc 5 _ rfl).1;have z2:=(hc 2 _ rfl).2;have z3:=(hc 3 _ rfl).2;have z4:=(hc 4 _ rfl).2;have z5:=(hc 5 _ rfl).2;have hC:=(((hc.set 2 (.slice none 0 0) (by simp)).set 3 (.slice none 0 0) (by simp)).set 4 (.slice none 0 0) (by simp)).set 5 (.slice none 0 0) (by simp)
 have fr:Fr (λk=>k=lp) w ((((w.setCell ⟨lp,2,none⟩ (.slice none 0 0)).setCell ⟨lp,3,none⟩ (.slice none 0 0)).setCell ⟨lp,4,none⟩ (.slice none 0 0)).setCell ⟨lp,5,none⟩ (.slice none 0 0)):=
  ((((Fr.refl (λk=>k=lp) w).setCell (p:=⟨lp,2,none⟩) (.inl rfl) _).setCell (p:=⟨lp,3,none⟩) (.inl rfl) _).setCell (p:=⟨lp,4,none⟩) (.inl rfl) _).setCell (p:=⟨lp,5,none⟩) (.inl rfl) _
 have h1:=h.put' (t:=g+1) (a:=bD lp (vI L.mr) [vI L.mu,.slice none 0 0,.slice none 0 0,.slice none 0 0,.slice none 0 0]) (by rw[hl.nV];exact fr) hC (λk hk=>by rw[hl.nV];exact hk);have h2:=h1.put' (t:=g+2) (a:=fV (.slice none 0 0) []) ah (aI.nil _ _) (λk hk=>(ay.nil k hk).elim);have h3:=h2.put' (t:=g+3) (a:=fV (.slice none 0 0) []) ah (aI.nil _ _) (λk hk=>(ay.nil k hk).elim);have h4:=h3.put' (t:=g+4) (a:=A0 (.slice none 0 0) []) ah (qs _ _ _ _) (λk hk=>(ay.nil k hk).elim);have h5:=h4.put' (t:=g+5) (a:=A_ (.slice none 0 0) []) ah (qs _ _ _ _) (λk hk=>(ay.nil k hk).elim)
 have hP:Hid (xE w τ M g lp L (.returned (.tuple #[])) ((((w.setCell ⟨lp,2,none⟩ (.slice none 0 0)).setCell ⟨lp,3,none⟩ (.slice none 0 0)).setCell ⟨lp,4,none⟩ (.slice none 0 0)).setCell ⟨lp,5,none⟩ (.slice none 0 0))):=by
  refine⟨_,rfl,h5,⟨?_,?_,?_,?_,?_⟩,?_,aC.piece h (t:=g+1) (by rw[hl.nV];exact fr) (by omega)⟩
  ·rw[Mem.aB _ _ (by omega),Mem.aB _ _ (by omega),Mem.aB _ _ (by omega),Mem.aB _ _ (by omega),Mem.aG];rfl
  ·rw[Mem.aB _ _ (by omega),Mem.aB _ _ (by omega),Mem.aB _ _ (by omega),Mem.aG];rfl
  ·rw[Mem.aB _ _ (by omega),Mem.aB _ _ (by omega),Mem.aG];rfl
  ·rw[Mem.aB _ _ (by omega),Mem.aG];rfl
  ·rw[Mem.aG];rfl
  ·exact((((Mem.cf.put M _ ⟨by omega,by omega⟩).trans (Mem.cf.put _ _ ⟨by omega,by omega⟩)).trans (Mem.cf.put _ _ ⟨by omega,by omega⟩)).trans (Mem.cf.put _ _ ⟨by omega,by omega⟩)).trans (Mem.cf.put _ _ ⟨by omega,by omega⟩)
 clear h1 h2 h3 h4 h5 hC fr hc h hl;go_in;go_wp2
 go_end0
 exact hP.out
end
end
