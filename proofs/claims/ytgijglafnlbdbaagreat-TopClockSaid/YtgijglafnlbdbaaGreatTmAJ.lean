import Derived.Test.YtgijglafnlbdbaaGreatTmAI
set_option linter.all false
set_option maxHeartbeats 2000000
set_option maxRecDepth 8000
namespace Go.Proofs.YtgijglafnlbdbaaGreat
open RowKit Shelf Proofs.Tryz
open Go renaming World->aj,Value->aC,Calls->aL
structure PT where
 live:Bool
 start:Nat
 reads:aE
 holds:List Hd
 aQ:List Ud
structure PS where
 ob:Nat->Option Ob
 ser:Nat
 now:Nat
 tx:Nat->PT
def PS.cN(σ:PS)(a:Nat)(o:Ob):PS:={ σ with ob:=λp=>if p=a then some o else σ.ob p }
def PS.aO(σ:PS)(t:Nat)(x:PT):PS:={ σ with tx:=λu=>if u=t then x else σ.tx u }
theorem kl(σ:PS)(a:Nat)(o:Ob):(σ.cN a o).ob a=some o:=if_pos rfl
theorem kW(σ:PS){a b:Nat}(o:Ob)(h:b≠a):(σ.cN a o).ob b=σ.ob b:=if_neg h
theorem aV(σ:PS)(t:Nat)(x:PT):(σ.aO t x).tx t=x:=if_pos rfl
theorem bN(σ:PS){t u:Nat}(x:PT)(h:u≠t):(σ.aO t x).tx u=σ.tx u:=if_neg h
def sg(u:Ud)(a:Nat)(o:Ob):Ob:=
 if u.at_=a then (if u.kind=1 then { o with ps:=o.ps.set u.i.toNat u.cC.toNat } else if u.kind=2 then { o with ns:=o.ns.set u.i.toNat (zg u.cC) } else { o with fr:=decide (u.cC≠0) }) else o
def pj(l:List Ud)(a:Nat)(o:Ob):Ob:=l.foldr (λu o=>sg u a o) o
def PS.fh(σ:PS)(p:Nat):Nat:=match σ.ob p with|some o=>o.ser|none=>0
def PS.lay(σ:PS)(a:Nat)(o:Ob):PS:={ σ with ob:=λp=>if p=a then some o else σ.ob p,ser:=σ.ser+1 }
def gO(σ:PS)(t:Nat)(o:Ob):Prop:=o.snd=2*t+1\/∃v,o.snd=2*v/\v<=(σ.tx t).start
structure sj(σ:PS)(t:Nat)(σ':PS):Prop where
 lv:(σ.tx t).live=true
 se:σ'.ser=σ.ser
 ot:∀u,u≠t->σ'.tx u=σ.tx u
 tl:(σ'.tx t).live=false
 th:(σ'.tx t).holds=[]
 tu:(σ'.tx t).aQ=[]
 tr:(σ'.tx t).reads=[]
 o1:∀p o,σ.ob p=some o->o.snd≠2*t+1->σ'.ob p=some o
 o4:∀p,σ.ob p=none->σ'.ob p=none
structure PD(σ:PS)(t:Nat)(σ':PS):Prop extends sj σ t σ' where
 nw:σ'.now=σ.now
 o2:∀h∈(σ.tx t).holds,∀o,σ.ob h.at_=some o->1<=h.bt->σ'.ob h.at_=some { pj (σ.tx t).aQ h.at_ o with snd:=2*h.bt.toNat }
 o3:∀h∈(σ.tx t).holds,∀o,σ.ob h.at_=some o->h.bt=0->σ'.ob h.at_=some { pj (σ.tx t).aQ h.at_ o with snd:=0,fr:=true }
structure YL(σ:PS)(t:Nat)(σ':PS):Prop extends sj σ t σ' where
 nw:σ'.now=σ.now+1
 rd:∀a∈(σ.tx t).reads,∀o,σ.ob a=some o->gO σ t o
 o2:∀h∈(σ.tx t).holds,∀o,σ.ob h.at_=some o->σ'.ob h.at_=some { o with snd:=2*(σ.now+1) }
def fO(o:Ob)(k i:Int):Int:=if o.fr=true then 142 else if k=8 then 0 else if o.wk≠(k==9) then 144 else if (if k=6\/k=7 then (o.d:Int) else (o.p:Int))<=i then 71 else 0
def atR(d:Dd)(R:aE):Nat:=if d.k=3\/d.k=4\/d.k=9 then R.getD d.b.toNat 0 else R.getD d.a.toNat 0
def Aq(d:Dd)(b:Nat)(o:Ob):Ob:=if d.k=5 then { o with ps:=o.ps.set d.i.toNat b } else if d.k=7 then { o with ns:=o.ns.set d.i.toNat (zg d.n) } else { o with fr:=true }
def zN(d:Dd)(a:Nat)(o:Ob):Ud:=if d.k=5 then ⟨1,a,d.i,(o.ps.getD d.i.toNat 0:Nat)⟩ else if d.k=7 then ⟨2,a,d.i,zt (o.ns.getD d.i.toNat 0)⟩ else ⟨3,a,0,0⟩
inductive DN (σ:PS) (t:Nat) (d:Dd) (R:aE):PS->aE->Int->Int->Prop
 | reg (R':aE) (v:Int) (h:(d.k=10/\R'=R.set d.a.toNat 0/\v=0)\/(d.k=11/\R'=R/\v=if R.getD d.a.toNat 0=R.getD d.b.toNat 0 then 1 else 0)\/(d.k=12/\R'=R.set d.a.toNat (R.getD d.b.toNat 0)/\v=0)\/(d.k=13/\R'=R.set d.a.toNat 0/\v=0)):DN σ t d R σ R' v 0
 | nil (hk:3<=d.k/\d.k<=9) (h:atR d R=0):DN σ t d R σ R 0 143
 | bad (hk:4<=d.k/\d.k<=9) (o:Ob) (ho:σ.ob (atR d R)=some o) (ow:gO σ t o) (l:aE) (hl:∀x∈(σ.tx t).reads,x∈l) (ha:atR d R∈l) (hf:fO o d.k d.i≠0):DN σ t d R (σ.aO t { σ.tx t with reads:=l }) R 0 (fO o d.k d.i)
 | get (hk:d.k=4\/d.k=9) (o:Ob) (ho:σ.ob (atR d R)=some o) (ow:gO σ t o) (l:aE) (hl:∀x∈(σ.tx t).reads,x∈l) (ha:atR d R∈l) (hf:fO o d.k d.i=0):DN σ t d R (σ.aO t { σ.tx t with reads:=l }) (R.set d.a.toNat (o.ps.getD d.i.toNat 0)) (σ.fh (o.ps.getD d.i.toNat 0):Nat) 0
 | read (hk:d.k=6) (o:Ob) (ho:σ.ob (atR d R)=some o) (ow:gO σ t o) (l:aE) (hl:∀x∈(σ.tx t).reads,x∈l) (ha:atR d R∈l) (hf:fO o d.k d.i=0):DN σ t d R (σ.aO t { σ.tx t with reads:=l }) R (zt (o.ns.getD d.i.toNat 0)) 0
 | chg (hk:d.k=5\/d.k=7\/d.k=8) (o:Ob) (ho:σ.ob (atR d R)=some o) (ow:gO σ t o) (l:aE) (hl:∀x∈(σ.tx t).reads,x∈l) (ha:atR d R∈l) (hf:fO o d.k d.i=0) (x':PT)
  (x1:x'.live=true) (x2:x'.start=(σ.tx t).start) (x3:x'.reads=l) (x4:x'.aQ=(σ.tx t).aQ++[zN d (atR d R) o])
  (x5:(o.snd=2*t+1/\x'.holds=(σ.tx t).holds)\/(∃v:Nat,o.snd=2*v/\x'.holds=(σ.tx t).holds++[⟨atR d R,v⟩])) :
  DN σ t d R ((σ.cN (atR d R) { Aq d (R.getD d.b.toNat 0) o with snd:=2*t+1 }).aO t x') R 0 0
 | lay (hk:d.k=1\/d.k=2\/d.k=3) (a:Nat) (no:σ.ob a=none) (a0:a≠0) (h3:d.k=3->∃q,σ.ob (R.getD d.b.toNat 0)=some q) (x':PT)
  (x1:x'.live=true) (x2:x'.start=(σ.tx t).start) (x3:x'.reads=(σ.tx t).reads) (x4:x'.aQ=(σ.tx t).aQ) (x5:x'.holds=(σ.tx t).holds++[⟨a,0⟩]) :
  DN σ t d R ((σ.lay a (if d.k=3 then ⟨1,0,true,false,false,2*t+1,σ.ser+1,[R.getD d.b.toNat 0],[]⟩ else { Ob.new d.i.toNat d.n.toNat false (d.k==2) (σ.ser+1) with snd:=2*t+1 })).aO t x') (R.set d.a.toNat a) (σ.ser+1:Nat) 0
inductive Co (σ:PS) (t:Nat):PS->Prop
 | refl:Co σ t σ
 | rd (l:aE) (hl:∀x∈(σ.tx t).reads,x∈l):Co σ t (σ.aO t { σ.tx t with reads:=l })
 | hold (l:aE) (hl:∀x∈(σ.tx t).reads,x∈l) (a:Nat) (o:Ob) (v:Nat) (ho:σ.ob a=some o) (hv:o.snd=2*v) (hs:v<=(σ.tx t).start):Co σ t ((σ.cN a { o with snd:=2*t+1 }).aO t { σ.tx t with reads:=l,holds:=(σ.tx t).holds++[⟨a,v⟩] })
 | junk (a:Nat) (o:Ob) (no:σ.ob a=none) (a0:a≠0) (Bj:o.ser=σ.ser+1) (lp:o.ps.length=o.p) (ln:o.ns.length=o.d) (hp:∀p∈o.ps,p=0) (hs:o.snd=0):Co σ t ((σ.lay a o).aO t (σ.tx t))
def PT.beg(x:PT)(n:Nat):PT:=⟨true,n,x.reads,x.holds,x.aQ⟩
def fZ(σ:PS)(n:Nat):Nat:=(List.range n).countP λu=>(σ.tx u).live
def PS.mod(σ:PS)(a:Nat)(g:Ob->Ob):PS:={ σ with ob:=ni σ.ob a g }
def PS.nz(σ:PS)(u:Ud):PS:=
 if u.kind=1 then { σ with ob:=Lo σ.ob u.at_ u.i u.cC.toNat } else if u.kind=2 then σ.mod u.at_ (λo=>o.oU (okF u.i o.d) u.i u.cC) else if u.kind=3 then σ.mod u.at_ (λo=>{ o with fr:=decide (u.cC≠0) }) else σ
def PS.rel(σ:PS)(h:Hd):PS:=if h.bt=0 then (σ.mod h.at_ (λo=>{ o with snd:=2*h.bt.toNat })).mod h.at_ (λo=>{ o with fr:=true }) else σ.mod h.at_ (λo=>{ o with snd:=2*h.bt.toNat })
def PT.fin(x:PT):PT:=⟨false,x.start,[],[],[]⟩
def PS.fin(σ:PS)(t:Nat):PS:=σ.aO t (σ.tx t).fin
def PS.wM(σ:PS)(t:Nat):PS:=((σ.tx t).holds.foldl PS.rel ((σ.tx t).aQ.foldr (λu σ=>σ.nz u) σ)).fin t
def PS.Re(σ:PS)(t:Nat):PS:=((σ.tx t).holds.foldl (λ(σ':PS) (h:Hd)=>σ'.mod h.at_ (λo=>{ o with snd:=2*(σ.now+1) })) { σ with now:=σ.now+1 }).fin t
section
structure It where
 at_:Nat
 seq:Int
def GG(x:It):List aC:=[vI x.at_,vI x.seq]
def sq(v:aC)(l:List It):si:=dK 123 2 v l.length (l.flatMap GG)
structure HD where
 B:HB
 A:HS
 c:Nat
def aH(D:HD):si:=⟨λk=>lX D.B k,λw=>∃X,dB w D.B D.A X,
 λh f hs=>by
  obtain⟨X,h⟩:=h
  exact⟨X,h.fr f (λk hk=>hs k hk)⟩,
 λh k hk=>by
  obtain⟨X,h⟩:=h
  exact h.lt k hk⟩
structure lD where
 xp:Nat
 live:Bool
 start:Int
 seen:Int
 lp:Nat
 tv:aC
 took:List It
 L:iB
def dT:lD:=⟨0,false,0,0,0,.slice none 0 0,[],iB.new 0 0⟩
def lD.cs(t:Nat)(x:lD):List aC:=[vI t,.bool x.live,vI x.start,vI x.seen,pV x.lp,x.tv]
structure IE(M:Mem)(g t:Nat)(x:lD):Prop where
 c:M g=bD x.xp (vI t) [.bool x.live,vI x.start,vI x.seen,pV x.lp,x.tv]
 l:cG M g x.lp x.L
 k:M (g+6)=sq x.tv x.took
structure aY where
 D:HD
 ck:Nat
 now:Nat
 aW:Int
 sp:Nat
 wu:aC
 bB:List lD
 qv:aC
 qu:List It
 next:Nat
 bM:Int
 bt:Nat
 lv:aC
 cv:aC
def aY.tx(S:aY)(t:Nat):lD:=S.bB.getD t dT
def aY.cs(S:aY):List aC:=[pV S.D.B.hp,pV S.D.c,pV S.ck,S.wu,S.qv,vI S.next,vI S.bM,vI S.bt,S.lv,S.cv]
structure vG(M:Mem)(S:aY):Prop where
 h:M 0=aH S.D
 c:M 2=bD S.sp (pV S.D.B.hp) [pV S.D.c,pV S.ck,S.wu,S.qv,vI S.next,vI S.bM,vI S.bt,S.lv,S.cv]
 k:M 3=bD S.ck (vI S.now) [vI S.aW]
 t:M 4=dK 110 1 S.wu S.bB.length (S.bB.map λx=>pV x.xp)
 q:M 5=sq S.qv S.qu
 x:∀t,t<S.bB.length->IE M (10+8*t) t (S.tx t)
 z:∀t,500<=t->M t=lZ
structure IF(x:lD):Prop where
 l:Vi x.L
 f:x.L.reads.length<=200/\x.L.keeps.length<=200/\x.L.holds.length<=200/\x.L.aQ.length<=200
 m:0<=x.L.mr/\x.L.mr<=200/\0<=x.L.mu/\x.L.mu<=200
 i:cL x.start/\cL x.seen
 k:∀i∈x.took,i.at_<=131072/\cL i.seq
def lD.pt(x:lD):PT:=⟨x.live,x.start.toNat,x.L.reads,x.L.holds,x.L.aQ⟩
def vw(S:aY):PS:=⟨S.D.A.ob,S.D.A.ser,S.now,λt=>(S.tx t).pt⟩
structure Inv(S:aY):Prop where
 sn:∀a o,S.D.A.ob a=some o->(∃t,t<8/\o.snd=2*t+1)\/∃v,v<=S.now/\o.snd=2*v
 vs:∀t,∀h∈(S.tx t).L.holds,0<=h.bt/\h.bt<=S.now
 st:∀t,(S.tx t).live=true->0<=(S.tx t).start/\(S.tx t).start<=S.now
 qu:S.qu=[]
 tk:∀t,(S.tx t).took=[]
 ve:S.bt<=S.now
 nx:S.next=0
structure tO(s:Nat)(S:aY):Prop where
 he:HE S.D.A
 se:S.D.A.ser<=s
 ck:FK S.now S.aW
 n:S.bB.length<=8
 x:∀t,t<S.bB.length->IF (S.tx t)
 ho:cL S.bM
 iv:Inv S
def St(w:aj)(τ:Nat->Nat)(s:Nat)(S:aY):Prop:=∃M,bF w τ M/\vG M S/\tO s S
structure Fix(S S':aY):Prop where
 sp:S'.sp=S.sp
 hp:S'.D.B.hp=S.D.B.hp
 c:S'.D.c=S.D.c
 ck:S'.ck=S.ck
 n:S'.D.A.n=S.D.A.n
 len:S'.bB.length=S.bB.length
 xp:∀t,(S'.tx t).xp=(S.tx t).xp
 lp:∀t,(S'.tx t).lp=(S.tx t).lp
 nw:S.now<=S'.now
 mo:S'.aW=S.aW
theorem Fix.refl(S:aY):Fix S S:=⟨rfl,rfl,rfl,rfl,rfl,rfl,λ_=>rfl,λ_=>rfl,aM _,rfl⟩
theorem Fix.trans{A B C:aY}(h:Fix A B)(k:Fix B C):Fix A C:=⟨k.sp.trans h.sp,k.hp.trans h.hp,k.c.trans h.c,k.ck.trans h.ck,k.n.trans h.n,k.len.trans h.len,λt=>(k.xp t).trans (h.xp t),λt=>(k.lp t).trans (h.lp t),fH h.nw k.nw,k.mo.trans h.mo⟩
def aY.cj(S:aY)(t:Nat)(x:lD):aY:={ S with bB:=S.bB.set t x }
theorem qN{α:Type}{l:List α}{t:Nat}(ht:t<l.length)(x d:α):(l.set t x).getD t d=x:=by
 rw[aS,List.getElem?_set_self ht];rfl
theorem wW{α:Type}{l:List α}{t u:Nat}(h:u≠t)(x d:α):(l.set t x).getD u d=l.getD u d:=by
 rw[aS,List.getElem?_set_ne (by omega),<-aS]
theorem aY.jJ{S:aY}{t:Nat}(ht:t<S.bB.length)(x:lD):(S.cj t x).tx t=x:=qN ht x dT
theorem aY.mH{S:aY}{t u:Nat}(h:u≠t)(x:lD):(S.cj t x).tx u=S.tx u:=wW h x dT
theorem kR{α β:Type}(f:α->β)(d x:α):∀ (l:List α) (t:Nat),t<l.length->f x=f (l.getD t d)->(l.set t x).map f=l.map f
 | [],_,h,_=>by simp at h
 | y::l,0,_,e=>by simp only[qq,List.map_cons];rw[e];rfl
 | y::l,t+1,h,e=>by simp only[rj,List.map_cons];rw[kR f d x l t (by simpa using h) e]
theorem IE.only{P:Nat->Prop}{M M':Mem}{g t:Nat}{x:lD}(h:IE M g t x)(o:Mem.cM P M M')(hp:∀j,g<=j->j<=g+6->¬P j):IE M' g t x:=
 ⟨(o g (hp _ (by omega) (by omega))).trans h.c,h.l.only o (λj h1 h2=>hp j (by omega) (by omega)),(o (g+6) (hp _ (by omega) (by omega))).trans h.k⟩
theorem vG.cj{M M':Mem}{S:aY}{t:Nat}{x':lD}(h:vG M S)(ht:t<S.bB.length)(h8:S.bB.length<=8)(o:Mem.cM (λj=>10+8*t<=j/\j<=10+8*t+6) M M')(hx:IE M' (10+8*t) t x')(hxp:x'.xp=(S.tx t).xp):vG M' (S.cj t x'):=by
 refine⟨(o 0 (by omega)).trans h.h,(o 2 (by omega)).trans h.c,(o 3 (by omega)).trans h.k,(o 4 (by omega)).trans ?_,(o 5 (by omega)).trans h.q,?_,λu hu=>(o u (by omega)).trans (h.z u hu)⟩
 ·rw[h.t];show dK _ 1 S.wu S.bB.length _=dK _ 1 S.wu (S.bB.set t x').length ((S.bB.set t x').map _);rw[bE,kR _ dT x' S.bB t ht (by rw[hxp];rfl)]
 ·intro u hu;have Oh:u<S.bB.length:=by simpa[aY.cj] using hu
  by_cases e:u=t
  ·subst e;rw[show(S.cj u x').tx u=x' from aY.jJ ht x'];exact hx
  ·rw[show(S.cj t x').tx u=S.tx u from aY.mH e x'];exact(h.x u Oh).only o (λj h1 h2=>by omega)
theorem Inv.cj{S:aY}{t:Nat}{x':lD}(h:Inv S)(ht:t<S.bB.length)(hs:x'.live=true->0<=x'.start/\x'.start<=S.now)(hk:x'.took=[])(hv:∀h∈x'.L.holds,0<=h.bt/\h.bt<=S.now):Inv (S.cj t x'):=by
 refine⟨h.sn,λu=>?_,λu=>?_,h.qu,λu=>?_,h.ve,h.nx⟩
 ·by_cases e:u=t
  ·subst e;rw[show(S.cj u x').tx u=x' from aY.jJ ht x'];exact hv
  ·rw[show(S.cj t x').tx u=S.tx u from aY.mH e x'];exact h.vs u
 ·by_cases e:u=t
  ·subst e;rw[show(S.cj u x').tx u=x' from aY.jJ ht x'];exact hs
  ·rw[show(S.cj t x').tx u=S.tx u from aY.mH e x'];exact h.st u
 ·by_cases e:u=t
  ·subst e;rw[show(S.cj u x').tx u=x' from aY.jJ ht x'];exact hk
  ·rw[show(S.cj t x').tx u=S.tx u from aY.mH e x'];exact h.tk u
theorem jz{S:aY}{t:Nat}(ht:t<S.bB.length)(x':lD):vw (S.cj t x')=(vw S).aO t x'.pt:=by
 unfold vw PS.aO
 congr 1
 funext u
 by_cases e:u=t
 ·subst e;rw[show(S.cj u x').tx u=x' from aY.jJ ht x'];simp
 ·rw[show(S.cj t x').tx u=S.tx u from aY.mH e x'];simp[e]
theorem tO.cj{s:Nat}{S:aY}{t:Nat}{x':lD}(h:tO s S)(ht:t<S.bB.length)(hx:IF x')(hi:Inv (S.cj t x')):tO s (S.cj t x'):=by
 refine⟨h.he,h.se,h.ck,by simpa[aY.cj] using h.n,?_,h.ho,hi⟩;intro u hu;have Oh:u<S.bB.length:=by simpa[aY.cj] using hu
 by_cases e:u=t
 ·subst e;rw[show(S.cj u x').tx u=x' from aY.jJ ht x'];exact hx
 ·rw[show(S.cj t x').tx u=S.tx u from aY.mH e x'];exact h.x u Oh
theorem Fix.cj{S:aY}{t:Nat}{x':lD}(ht:t<S.bB.length)(h1:x'.xp=(S.tx t).xp)(h2:x'.lp=(S.tx t).lp):Fix S (S.cj t x'):=by
 refine⟨rfl,rfl,rfl,rfl,rfl,by simp[aY.cj],λu=>?_,λu=>?_,aM _,rfl⟩
 ·by_cases e:u=t
  ·subst e;rw[show(S.cj u x').tx u=x' from aY.jJ ht x'];exact h1
  ·rw[show(S.cj t x').tx u=S.tx u from aY.mH e x']
 ·by_cases e:u=t
  ·subst e;rw[show(S.cj u x').tx u=x' from aY.jJ ht x'];exact h2
  ·rw[show(S.cj t x').tx u=S.tx u from aY.mH e x']
def aY.jr(S:aY)(B':HB)(A':HS):aY:={ S with D:={ S.D with B:=B',A:=A' } }
theorem Inv.jr{S:aY}(B':HB){A':HS}(h:Inv S)(hv:∀a o,A'.ob a=some o->(∃t,t<8/\o.snd=2*t+1)\/∃v,v<=S.now/\o.snd=2*v):Inv (S.jr B' A'):=⟨hv,h.vs,h.st,h.qu,h.tk,h.ve,h.nx⟩
theorem Inv.mod{S:aY}{A':HS}{a:Nat}{g:Ob->Ob}(h:Inv S)(e:A'.ob=ni S.D.A.ob a g)(hg:∀o,S.D.A.ob a=some o->(g o).snd=o.snd\/(∃t,t<8/\(g o).snd=2*t+1)\/∃v,v<=S.now/\(g o).snd=2*v):∀a o,A'.ob a=some o->(∃t,t<8/\o.snd=2*t+1)\/∃v,v<=S.now/\o.snd=2*v:=λb o ho=>by
 rw[e] at ho;unfold ni at ho;split at ho
 ·rename_i eb;subst eb
  cases hb:S.D.A.ob b with
  | none=>rw[hb] at ho;cases ho
  | some u=>
    rw[hb] at ho;injection ho with ho
    subst ho;rcases hg u hb with e1|e1
    ·rw[e1];exact h.sn b u hb
    ·exact e1
 ·exact h.sn b o ho
theorem vG.abe{M M':Mem}{S:aY}{D':HD}(h:vG M S)(o:Mem.cM (λj=>j=0) M M')(h0:M' 0=aH D')(h1:D'.B.hp=S.D.B.hp)(h2:D'.c=S.D.c):vG M' { S with D:=D' }:=
 ⟨h0,by rw[o 2 (by omega),h.c,h1,h2],(o 3 (by omega)).trans h.k,(o 4 (by omega)).trans h.t,(o 5 (by omega)).trans h.q,λt ht=>(h.x t ht).only o (λj h1 h2=>by omega),λu hu=>(o u (by omega)).trans (h.z u hu)⟩
section
variable {w:aj}{τ:Nat->Nat}{s:Nat}{S:aY}
theorem St.calm{w':aj}(h:St w τ s S)(c:Calm w w'):St w' τ s S:=by
 obtain⟨M,h1,h2,h3⟩:=h;exact⟨M,h1.calm c,h2,h3⟩
theorem St.ok(h:St w τ s S):tO s S:=by obtain⟨M,h1,h2,h3⟩:=h;exact h3
theorem St.cells(h:St w τ s S):ag w S.sp S.cs:=by
 obtain⟨M,h1,h2,h3⟩:=h;have:=h1.at_ 2;rw[h2.c] at this;exact this
theorem St.YO(h:St w τ s S):ag w S.ck [vI S.now,vI S.aW]:=by
 obtain⟨M,h1,h2,h3⟩:=h;have:=h1.at_ 3;rw[h2.k] at this;exact this
theorem St.ny(h:St w τ s S){t:Nat}(ht:t<S.bB.length):ag w (S.tx t).xp (lD.cs t (S.tx t)):=by
 obtain⟨M,h1,h2,h3⟩:=h;have:=h1.at_ (10+8*t);rw[(h2.x t ht).c] at this;exact this
theorem St.Yz(h:St w τ s S):w.ownsRow 0 110 1 S.wu S.bB.length (S.bB.map λx=>pV x.xp):=by
 obtain⟨M,h1,h2,h3⟩:=h;have:=h1.at_ 4;rw[h2.t] at this;exact this
theorem St.que(h:St w τ s S):w.ownsRow 0 123 2 S.qv S.qu.length (S.qu.flatMap GG):=by
 obtain⟨M,h1,h2,h3⟩:=h;have:=h1.at_ 5;rw[h2.q] at this;exact this
theorem St.tok(h:St w τ s S){t:Nat}(ht:t<S.bB.length):w.ownsRow 0 123 2 (S.tx t).tv (S.tx t).took.length ((S.tx t).took.flatMap GG):=by
 obtain⟨M,h1,h2,h3⟩:=h;have:=h1.at_ (10+8*t+6);rw[(h2.x t ht).k] at this;exact this
theorem St.kE(h:St w τ s S):∃X,dB w S.D.B S.D.A X:=by
 obtain⟨M,h1,h2,h3⟩:=h;have:=h1.at_ 0;rw[h2.h] at this;exact this
theorem St.gH{w':aj}{A':HS}{s':Nat}(h:St w τ s S)(hi:Ei w S.D.B w' A')(hs:A'.ser<=s')(sZ:∀B',Inv (S.jr B' A')) :
 ∃B' aX,St w' aX s' (S.jr B' A')/\aF w τ w' aX/\B'.hp=S.D.B.hp:=by
 obtain⟨M,h1,h2,h3⟩:=h;obtain⟨B',X',k1,k2,k3⟩:=hi;have hb:(M 0).bU=λk=>lX S.D.B k:=by rw[h2.h];rfl
 obtain⟨aX,j1,j2⟩:=h1.put (t:=0) (a:=aH { S.D with B:=B',A:=A' }) (k2.fr.mono (λk _ e=>by rw[hb];exact e)) ⟨X',k1⟩ (by
  intro k hk;rw[hb]
  exact k2.new k hk) (by decide)
 refine⟨B',aX,⟨_,j1,h2.abe (D':={ S.D with B:=B',A:=A' }) (Mem.cM.put M _ rfl) (Mem.aP _ _ _) k2.hp rfl,?_⟩,j2,k2.hp⟩;exact⟨k3,hs,h3.ck,h3.n,h3.x,h3.ho,sZ B'⟩
theorem Fix.jr{S:aY}{B':HB}{A':HS}(h:B'.hp=S.D.B.hp)(hn:A'.n=S.D.A.n):Fix S (S.jr B' A'):=⟨rfl,h,rfl,rfl,hn,rfl,λ_=>rfl,λ_=>rfl,aM _,rfl⟩
theorem tO.mono{s':Nat}(h:tO s S)(hs:s<=s'):tO s' S:=⟨h.he,by have:=h.se;omega,h.ck,h.n,h.x,h.ho,h.iv⟩
theorem zH(S:aY)(B':HB)(A':HS):vw (S.jr B' A') = { vw S with ob:=A'.ob,ser:=A'.ser }:=rfl
theorem St.kj{w':aj}{aX:Nat->Nat}{M M':Mem}{t:Nat}{L':iB}(h2:vG M S)(h3:tO s S)(ht:t<S.bB.length)(k1:bF w' aX M')(k2:cG M' (10+8*t) (S.tx t).lp L')(k3:Mem.cM (λj=>10+8*t+1<=j/\j<=10+8*t+5) M M')
 (hx:IF { S.tx t with L:=L' }) (hi:Inv (S.cj t { S.tx t with L:=L' })):St w' aX s (S.cj t { S.tx t with L:=L' }):=by
 refine⟨M',k1,h2.cj ht h3.n (k3.mono (λj hj=>by omega)) ⟨?_,k2,?_⟩ rfl,h3.cj ht hx hi⟩
 ·rw[k3 _ (by omega)];exact(h2.x t ht).c
 ·rw[k3 _ (by omega)];exact(h2.x t ht).k
theorem St.abd{w':aj}{M:Mem}{t:Nat}{x':lD}(h1:bF w τ M)(h2:vG M S)(h3:tO s S)(ht:t<S.bB.length)(f:Fr (λb=>b=(S.tx t).xp) w w')(hc:ag w' (S.tx t).xp (lD.cs t x'))
 (e1:x'.xp=(S.tx t).xp) (e2:x'.lp=(S.tx t).lp) (e3:x'.tv=(S.tx t).tv) (e4:x'.took=(S.tx t).took) (e5:x'.L=(S.tx t).L) (hx:IF x') (hi:Inv (S.cj t x')):St w' τ s (S.cj t x')/\aF w τ w' τ:=by
 have hb:(M (10+8*t)).bU=λk=>k=(S.tx t).xp:=by rw[(h2.x t ht).c];rfl
 have f':Fr (M (10+8*t)).bU w w':=f.mono (λk _ e=>by rw[hb];exact e);have k1:=h1.put' (t:=10+8*t) (a:=bD (S.tx t).xp (vI t) [.bool x'.live,vI x'.start,vI x'.seen,pV x'.lp,x'.tv]) f' hc (λk hk=>by rw[hb];exact hk);have o:=Mem.cM.put M (P:=λj=>j=10+8*t) (bD (S.tx t).xp (vI t) [.bool x'.live,vI x'.start,vI x'.seen,pV x'.lp,x'.tv]) rfl;have hn:=h3.n;refine⟨⟨_,k1,h2.cj ht h3.n (o.mono (λj hj=>by omega)) ⟨?_,?_,?_⟩ e1,h3.cj ht hx hi⟩,aF.piece h1 f' (by omega)⟩
 ·rw[Mem.aP,e1]
 ·have:=(h2.x t ht).l.only o (λj g1 g2 (e:j=10+8*t)=>by omega);rw[<-e5,<-e2] at this;exact this
 ·rw[Mem.aA _ _ (by omega),e3,e4];exact(h2.x t ht).k
theorem St.aO{w':aj}{M:Mem}{t:Nat}{x':lD}(h1:bF w τ M)(h2:vG M S)(h3:tO s S)(ht:t<S.bB.length)(f:Fr (λb=>b=(S.tx t).xp\/aB (S.tx t).tv b) w w')(hc:ag w' (S.tx t).xp (lD.cs t x'))
 (ho:w'.ownsRow 0 123 2 x'.tv x'.took.length (x'.took.flatMap GG)) (iE:∀b,aB x'.tv b->aB (S.tx t).tv b\/w.heap.size<=b)
 (e1:x'.xp=(S.tx t).xp) (e2:x'.lp=(S.tx t).lp) (e5:x'.L=(S.tx t).L) (hx:IF x') (hi:Inv (S.cj t x')):∃aX,St w' aX s (S.cj t x')/\aF w τ w' aX:=by
 have hn:=h3.n;have hb:(M (10+8*t)).bU=λk=>k=(S.tx t).xp:=by rw[(h2.x t ht).c];rfl
 have kF:(M (10+8*t+6)).bU=aB (S.tx t).tv:=by rw[(h2.x t ht).k];rfl
 obtain⟨aX,k1,k2⟩:=h1.DT (t:=10+8*t) (u:=10+8*t+6) (by omega) (a:=bD (S.tx t).xp (vI t) [.bool x'.live,vI x'.start,vI x'.seen,pV x'.lp,x'.tv]) (b:=sq x'.tv x'.took)
  (by rw[hb,kF];exact f) hc ho (λk hk=>by rw[hb];exact hk) (λk hk=>by rw[kF];exact iE k hk) (by omega) (by omega)
 have o:=(Mem.cM.put M (P:=λj=>j=10+8*t\/j=10+8*t+6) (bD (S.tx t).xp (vI t) [.bool x'.live,vI x'.start,vI x'.seen,pV x'.lp,x'.tv]) (.inl rfl)).trans (Mem.cM.put _ (sq x'.tv x'.took) (.inr rfl));refine⟨aX,⟨_,k1,h2.cj ht h3.n (o.mono (λj hj=>by omega)) ⟨?_,?_,?_⟩ e1,h3.cj ht hx hi⟩,k2⟩
 ·rw[Mem.aA _ _ (by omega),Mem.aP,e1]
 ·have:=(h2.x t ht).l.only o (λj g1 g2 (e:j=10+8*t\/j=10+8*t+6)=>by omega);rw[<-e5,<-e2] at this;exact this
 ·rw[Mem.aP]
end
end
section
theorem BN{n W:Nat}(h:(∃t,t<8/\W=2*t+1)\/∃v,v<=n/\W=2*v)(hn:n<=1099511627776)(w:aj):aL prog 179 #[wV W] w λe w'=>
 ((∃t:Nat,W=2*t+1/\e=.returned (.tuple #[vI (t:Nat),vI 0,.bool true]))\/(∃v:Nat,W=2*v/\v<=n/\e=.returned (.tuple #[vI 0,vI (v:Nat),.bool false])))/\w=w':=by
 rcases h with ⟨t,hk,rfl⟩|⟨v,hv,rfl⟩
 ·refine(DP t hk w).mono ?_;rintro e w' ⟨rfl,rfl⟩;exact⟨.inl ⟨t,rfl,rfl⟩,rfl⟩
 ·refine(DO v (by omega) w).mono ?_;rintro e w' ⟨rfl,rfl⟩;exact⟨.inr ⟨v,rfl,hv,rfl⟩,rfl⟩
variable {w:aj}{τ:Nat->Nat}{s:Nat}{S:aY}
def MP(w:aj)(S:aY)(t:Int)(e:Ending)(w':aj):Prop:=
 ((∃k:Nat,t=k/\k<S.bB.length/\e=.returned (pV (S.tx k).xp))\/((t<0\/(S.bB.length:Int)<=t)/\e=.returned (.pointer none)))/\w'=w
theorem xM(h:St w τ s S)(t:Int)(ht:cL t):aL prog 118 #[pV S.sp,vI t] w (MP w S t):=by
 have hc:=h.cells;have c3:w.cell? ⟨S.sp,3,none⟩=some S.wu:=(hc 3 _ rfl).1;have hn:=h.ok.n;have hr:=h.Yz
 by_cases h0:t<0
 ·go_in;go_wp2;go_ret;exact⟨.inr ⟨.inl h0,rfl⟩,rfl⟩
 ·obtain⟨k,rfl⟩:∃k:Nat,t=k:=⟨t.toNat,by omega⟩;obtain⟨a,c,hv⟩:=aG hr
  by_cases hk:k<S.bB.length
  ·obtain⟨g,c',Oi,ho⟩:=ke hr (by decide) hk;have h1:=(ho 0 (by decide)).1;rw[show k*1+0=k by omega] at h1;have e1:(S.bB.map λx=>pV x.xp).getD k .nilFunc=pV (S.tx k).xp:=by simp[aY.tx,aS,hk]
   rw[e1] at h1;rw[Oi] at c3;obtain⟨N,hN⟩:∃N,N=S.bB.length:=⟨_,rfl⟩;rw[<-hN] at c3 hk;replace hN:=af hN;clear hv hr;go_in;go_wp2;go_ret;exact⟨.inl ⟨k,rfl,hN.out ▸ hk,rfl⟩,rfl⟩
  ·rw[hv] at c3;have gI:(S.bB.length:Int)<=(k:Int):=by omega
   obtain⟨N,hN⟩:∃N,N=S.bB.length:=⟨_,rfl⟩;rw[<-hN] at c3 hk gI;replace hN:=af hN;clear hv hr;go_in;go_wp2;go_ret;exact⟨.inr ⟨.inr (hN.out ▸ gI),rfl⟩,rfl⟩
def MN(w:aj)(S:aY)(t:Int)(e:Ending)(w':aj):Prop:=
 ((∃k:Nat,t=k/\k<S.bB.length/\(S.tx k).live=true/\e=.returned (pV (S.tx k).xp))\/((∀k:Nat,t=k->k<S.bB.length->(S.tx k).live=false)/\e=.returned (.pointer none)))/\w'=w
theorem oT(h:St w τ s S)(t:Int)(ht:cL t):aL prog 120 #[pV S.sp,vI t] w (MN w S t):=by
 go_in;go_wp2_with fail
 refine(xM h t ht).mono ?_;rintro e w' ⟨(⟨k,rfl,hk,rfl⟩|⟨hn,rfl⟩),rfl⟩
 ·have hx:=h.ny hk;have c1:=(hx 1 _ rfl).1
  cases hl:(S.tx k).live with
  | true=>
    rw[hl] at c1;go_wp2;go_ret;exact⟨.inl ⟨k,rfl,hk,hl,rfl⟩,rfl⟩
  | false=>
    rw[hl] at c1;go_wp2;go_ret;exact⟨.inr ⟨λk' e _=>by rw[<-Int.ofNat.inj e];exact hl,rfl⟩,rfl⟩
 ·go_wp2;go_ret;exact⟨.inr ⟨λk' e zP=>by omega,rfl⟩,rfl⟩
theorem QK(h:St w τ s S)(a:Nat):(∃t,t<8/\S.D.A.sn a=2*t+1)\/∃v,v<=S.now/\S.D.A.sn a=2*v:=by
 unfold HS.sn
 cases e:S.D.A.ob a with
 | none=>exact .inr ⟨0,cK _,rfl⟩
 | some o=>exact h.ok.iv.sn a o e
theorem DE(h:St w τ s S):S.now<=1099511627776:=by have:=h.ok.ck;unfold FK at this;omega
theorem Fw{A:HS}{a:Nat}{o:Ob}(h:A.ob a=some o):A.sn a=o.snd:=by unfold HS.sn;rw[h]
theorem ue(h:St w τ s S){t:Nat}(ht:t<S.bB.length)(hl:(S.tx t).live=true){a:Nat}(ha:a<=131072):aL prog 126 #[pV S.sp,pV (S.tx t).xp,vI a] w λe w'=>(∃b:Bool,e=.returned (.bool b)/\(b=false->∀o,S.D.A.ob a=some o->gO (vw S) t o))/\Calm w w':=by
 have jX:=(h.cells 0 _ rfl).1;obtain⟨X,hh⟩:=h.kE;have hx:=h.ny ht;have Sw:=af (QK h a);have hn:=af (DE h);have cy:=af (h.ok.iv.st t hl);go_in;go_wp2_with fail
 refine(rQ hh ha).mono ?_;rintro e w1 ⟨⟨x,rfl⟩,k1⟩;have c0:=k1.cellAt (hx 0 _ rfl).1 id;have c2:=k1.cellAt (hx 2 _ rfl).1 id;go_wp2_with fail
 refine(BN Sw.out hn.out _).mono ?_;rintro e w2 ⟨(⟨u,hu,rfl⟩|⟨v,hv,hle,rfl⟩),rfl⟩
 ·go_wp2;go_ret;refine⟨⟨_,rfl,λhb o ho=>?_⟩,k1⟩;have hb:(u:Int)=t:=by simpa using hb
  rw[Fw ho] at hu;exact .inl (by omega)
 ·go_wp2;go_ret;refine⟨⟨_,rfl,λhb o ho=>?_⟩,k1⟩;have hb:(v:Int)<=(S.tx t).start:=by simpa using hb
  rw[Fw ho] at hv;have:=cy.out;exact .inr ⟨v,hv,by show v<=(S.tx t).start.toNat;omega⟩
theorem aF.dp{w w':aj}{τ aX eY:Nat->Nat}(h:aF w aX w' eY)(t:nV w τ aX):aF w τ w' eY:=⟨h.fr.mono (λk hk e=>by rw[t k hk] at e;exact e),λk hk=>(h.tg k hk).trans (t k hk)⟩
def Nx(w:aj)(τ:Nat->Nat)(s:Nat)(S:aY)(w':aj)(R:aY->Prop):Prop:=∃aX S',St w' aX s S'/\aF w τ w' aX/\Fix S S'/\R S'
def Hp(S S':aY):Prop:=∃B' A',S'=S.jr B' A'
theorem Hp.refl(S:aY):Hp S S:=⟨S.D.B,S.D.A,rfl⟩
theorem Hp.trans{A B C:aY}(h:Hp A B)(k:Hp B C):Hp A C:=by
 obtain⟨b,a,rfl⟩:=h;obtain⟨b',a',rfl⟩:=k;exact⟨b',a',rfl⟩
structure z_(S S':aY):Prop where
 ho:S'.bM=S.bM
 ve:S'.bt=S.bt
theorem Hp.NV{S S':aY}(h:Hp S S'):z_ S S':=by obtain⟨b,a,rfl⟩:=h;exact⟨rfl,rfl⟩
theorem Hp.bB{S S':aY}(h:Hp S S'):S'.bB=S.bB:=by obtain⟨b,a,rfl⟩:=h;rfl
theorem Hp.tx{S S':aY}(h:Hp S S')(t:Nat):S'.tx t=S.tx t:=by obtain⟨b,a,rfl⟩:=h;rfl
theorem Hp.now{S S':aY}(h:Hp S S'):S'.now=S.now:=by obtain⟨b,a,rfl⟩:=h;rfl
theorem z_.refl(S:aY):z_ S S:=⟨rfl,rfl⟩
theorem z_.trans{A B C:aY}(h:z_ A B)(k:z_ B C):z_ A C:=⟨k.ho.trans h.ho,k.ve.trans h.ve⟩
theorem zG{S:aY}{B':HB}{A':HS}{a:Nat}{g:Ob->Ob}(k:HK S.D.A A')(e:A'.ob=ni S.D.A.ob a g):vw (S.jr B' A')=(vw S).mod a g:=by
 rw[zH,e,k.ser];rfl
theorem KH(h:St w τ s S){t:Nat}(ht:t<S.bB.length){a:Nat}(ha:a<=131072):aL prog 185 #[pV S.sp,pV (S.tx t).xp,vI a] w λe w'=>e=.returned (.tuple #[])/\Nx w τ s S w' λS'=>Hp S S'/\vw S'=(vw S).mod a λo=>{ o with snd:=2*t+1 }:=by
 have jX:=(h.cells 0 _ rfl).1;obtain⟨X,hh⟩:=h.kE;have hx:=h.ny ht;have c0:=(hx 0 _ rfl).1;have hn:=h.ok.n;go_in;go_wp2_with fail
 refine(uq (t:Nat) (by omega) (by omega) _).mono ?_;rintro e w1 ⟨rfl,rfl⟩;go_wp2_with fail
 refine(mq hh h.ok.he ha _).mono ?_;rintro e w2 ⟨x,A',rfl,_,hi,hk,ho⟩;have hI:∀B',Inv (S.jr B' A'):=λB'=>h.ok.iv.jr B' (h.ok.iv.mod ho λo _=>.inr (.inl ⟨t,by omega,rfl⟩));obtain⟨B',aX,k1,k2,k3⟩:=h.gH hi (s':=s) (by rw[hk.ser];exact h.ok.se) hI;go_wp2
 go_end0
 refine⟨rfl,aX,_,k1,k2,Fix.jr k3 hk.n,⟨B',A',rfl⟩,?_⟩;exact zG hk ho
theorem oR(h:St w τ s S){a:Nat}(ha:a<=131072){n:Nat}(hn:n<=S.now):aL prog 128 #[pV S.sp,vI a,vI n] w λe w'=>e=.returned (.tuple #[])/\Nx w τ s S w' λS'=>Hp S S'/\vw S'=(vw S).mod a λo=>{ o with snd:=2*n }:=by
 have jX:=(h.cells 0 _ rfl).1;obtain⟨X,hh⟩:=h.kE;have hN:=DE h;go_in;go_wp2_with fail
 refine(pW (n:Nat) (by omega) (by omega) _).mono ?_;rintro e w1 ⟨rfl,rfl⟩;go_wp2_with fail
 refine(mq hh h.ok.he ha _).mono ?_;rintro e w2 ⟨x,A',rfl,_,hi,hk,ho⟩;have hI:∀B',Inv (S.jr B' A'):=λB'=>h.ok.iv.jr B' (h.ok.iv.mod ho λo _=>.inr (.inr ⟨n,hn,rfl⟩));obtain⟨B',aX,k1,k2,k3⟩:=h.gH hi (s':=s) (by rw[hk.ser];exact h.ok.se) hI;go_wp2
 go_end0
 refine⟨rfl,aX,_,k1,k2,Fix.jr k3 hk.n,⟨B',A',rfl⟩,?_⟩;exact zG hk ho
theorem xy{l:aE}{a:Nat}{m:Int}(hl:l.length<=200)(hm:m<=200):(je l a m).length<=200:=by
 unfold je;split
 ·exact hl
 ·rename_i h;simp only[cX,List.length_singleton];have:=λe=>h (.inr e);omega
theorem Bz{l:aE}{a:Nat}{m:Int}(hl:∀p∈l,p<=131072)(ha:a<=131072):∀p∈je l a m,p<=131072:=by
 unfold je;split
 ·exact hl
 ·intro p hp;rcases mD.1 hp with hp|hp
  ·exact hl p hp
  ·rw[nu.1 hp];exact ha
theorem Fix.lg{t:Nat}{S:aY}(ht:t<S.bB.length)(L':iB):Fix S (S.cj t { S.tx t with L:=L' }):=Fix.cj ht rfl rfl
theorem Kh(h:St w τ s S){t:Nat}(ht:t<S.bB.length){a:Nat}(ha:a<=131072):aL prog 192 #[pV (S.tx t).lp,vI a] w λe w'=>∃b:Bool,e=.returned (.bool b)/\Nx w τ s S w' λS'=>z_ S S'/\∃l,(∀x∈(S.tx t).L.reads,x∈l)/\(b=true->a∈l)/\vw S'=(vw S).aO t { (vw S).tx t with reads:=l }:=by
 obtain⟨M,h1,h2,h3⟩:=h;have hx:=h3.x t ht;have hn:=h3.n;refine(GK h1 (h2.x t ht).l (by omega) (by have:=hx.f;omega) a).mono ?_;rintro e w' ⟨v',aX,M',rfl,k1,k2,k3,k4⟩;refine⟨_,rfl,aX,_,St.kj h2 h3 ht k1 k2 k3 ⟨⟨Bz hx.l.r ha,hx.l.k,hx.l.h,hx.l.u⟩,⟨xy hx.f.1 hx.m.2.1,hx.f.2⟩,hx.m,hx.i,hx.k⟩ (h3.iv.cj ht (h3.iv.st t) (h3.iv.tk t) (h3.iv.vs t)),k4,Fix.lg ht _,⟨rfl,rfl⟩,je (S.tx t).L.reads a (S.tx t).L.mr,λx dg=>?_,λhb=>?_,jz ht _⟩
 ·unfold je;split
  ·exact dg
  ·exact List.mem_append_left _ dg
 ·unfold je;split
  ·rename_i h5;rcases h5 with h5|h5
   ·exact h5
   ·have hb:a∈(S.tx t).L.reads\/((S.tx t).L.reads.length:Int)<(S.tx t).L.mr:=by simpa using hb
    rcases hb with hb|hb
    ·exact hb
    ·omega
  ·simp
theorem mT(σ:PS)(t:Nat):σ.aO t (σ.tx t)=σ:=by
 unfold PS.aO
 congr 1
 funext u
 by_cases e:u=t
 ·simp[e]
 ·simp[e]
theorem Kd(h:St w τ s S){t:Nat}(ht:t<S.bB.length){a:Nat}(ha:a<=131072):aL prog 138 #[pV (S.tx t).lp,vI a] w λe w'=>∃b:Bool,e=.returned (.bool b)/\Nx w τ s S w' λS'=>z_ S S'/\vw S'=vw S:=by
 obtain⟨M,h1,h2,h3⟩:=h;have hx:=h3.x t ht;have hn:=h3.n;refine(GL h1 (h2.x t ht).l (by omega) (by have:=hx.f;omega) a).mono ?_;rintro e w' ⟨v',aX,M',rfl,k1,k2,k3,k4⟩;refine⟨_,rfl,aX,_,St.kj h2 h3 ht k1 k2 k3 ⟨⟨hx.l.r,Bz hx.l.k ha,hx.l.h,hx.l.u⟩,⟨hx.f.1,xy hx.f.2.1 hx.m.2.1,hx.f.2.2⟩,hx.m,hx.i,hx.k⟩ (h3.iv.cj ht (h3.iv.st t) (h3.iv.tk t) (h3.iv.vs t)),k4,Fix.lg ht _,⟨rfl,rfl⟩,(jz ht _).trans (mT _ _)⟩
theorem Bv(h:St w τ s S){t:Nat}(ht:t<S.bB.length){a:Nat}(ha:a<=131072){n:Int}(aaL:cL n)(yN:0<=n/\n<=S.now):aL prog 184 #[pV (S.tx t).lp,.agg #[vI a,vI n]] w λe w'=>∃b:Bool,e=.returned (.bool b)/\Nx w τ s S w' λS'=>z_ S S'/\(b=true->vw S'=(vw S).aO t { (vw S).tx t with holds:=(S.tx t).L.holds++[⟨a,n⟩] })/\(b=false->vw S'=vw S):=by
 obtain⟨M,h1,h2,h3⟩:=h;have hx:=h3.x t ht;have hn:=h3.n;refine(Kf h1 (h2.x t ht).l (by omega) (by have:=hx.f;omega) ⟨a,n⟩).mono ?_;rintro e w' ⟨b,v',aX,M',rfl,hb,k1,k2,k3,k4⟩;refine⟨_,rfl,aX,_,St.kj h2 h3 ht k1 k2 k3 ⟨⟨hx.l.r,hx.l.k,?_,hx.l.u⟩,⟨hx.f.1,hx.f.2.1,?_,hx.f.2.2.2⟩,hx.m,hx.i,hx.k⟩ (h3.iv.cj ht (h3.iv.st t) (h3.iv.tk t) (λz hz=>?_)),k4,Fix.lg ht _,⟨rfl,rfl⟩,λvt=>?_,λvt=>?_⟩
 ·cases b with
  | false=>exact hx.l.h
  | true=>
    intro x dg;rcases mD.1 dg with dg|dg
    ·exact hx.l.h x dg
    ·rw[nu.1 dg];exact⟨ha,aaL⟩
 ·cases b with
  | false=>exact hx.f.2.2.1
  | true=>
    have h5:(((S.tx t).L.holds.length:Int)<(S.tx t).L.mu):=by
     have:=hb.symm;simp only[wj,decide_eq_true_eq] at this;exact this.2
    have:=hx.m.2.2.2;show((S.tx t).L.holds++[_]).length<=200;simp only[cX,List.length_singleton];omega
 ·cases b with
  | false=>exact h3.iv.vs t z hz
  | true=>
    rcases mD.1 hz with hz|hz
    ·exact h3.iv.vs t z hz
    ·rw[nu.1 hz];exact yN
 ·subst vt;exact jz ht _
 ·subst vt;exact(jz ht _).trans (mT _ _)
theorem uE(h:St w τ s S){t:Nat}(ht:t<S.bB.length){u:Ud}(hu:Q2 u/\cL u.kind/\cL u.i):aL prog 148 #[pV (S.tx t).lp,.agg #[vI u.kind,vI u.at_,vI u.i,vI u.cC]] w λe w'=>∃b:Bool,e=.returned (.bool b)/\Nx w τ s S w' λS'=>z_ S S'/\(b=true->vw S'=(vw S).aO t { (vw S).tx t with aQ:=(S.tx t).L.aQ++[u] })/\(b=false->vw S'=vw S):=by
 obtain⟨M,h1,h2,h3⟩:=h;have hx:=h3.x t ht;have hn:=h3.n;refine(Kg h1 (h2.x t ht).l (by omega) (by have:=hx.f;omega) u).mono ?_;rintro e w' ⟨b,v',aX,M',rfl,hb,k1,k2,k3,k4⟩;refine⟨_,rfl,aX,_,St.kj h2 h3 ht k1 k2 k3 ⟨⟨hx.l.r,hx.l.k,hx.l.h,?_⟩,⟨hx.f.1,hx.f.2.1,hx.f.2.2.1,?_⟩,hx.m,hx.i,hx.k⟩ (h3.iv.cj ht (h3.iv.st t) (h3.iv.tk t) (h3.iv.vs t)),k4,Fix.lg ht _,⟨rfl,rfl⟩,λvt=>?_,λvt=>?_⟩
 ·cases b with
  | false=>exact hx.l.u
  | true=>
    intro x dg;rcases mD.1 dg with dg|dg
    ·exact hx.l.u x dg
    ·rw[nu.1 dg];exact hu
 ·cases b with
  | false=>exact hx.f.2.2.2
  | true=>
    have h5:(((S.tx t).L.aQ.length:Int)<(S.tx t).L.mu):=by simpa using hb.symm
    have:=hx.m.2.2.2;show((S.tx t).L.aQ++[_]).length<=200;simp only[cX,List.length_singleton];omega
 ·subst vt;exact jz ht _
 ·subst vt;exact(jz ht _).trans (mT _ _)
theorem Vi.empty(L:iB):Vi L.empty:=by
 refine⟨?_,?_,?_,?_⟩ <;> · intro x h;cases h
theorem GP(h:St w τ s S){t:Nat}(ht:t<S.bB.length):aL prog 177 #[pV (S.tx t).lp] w λe w'=>e=.returned (.tuple #[])/\St w' τ s (S.cj t { S.tx t with L:=(S.tx t).L.empty })/\aF w τ w' τ:=by
 obtain⟨M,h1,h2,h3⟩:=h;have hx:=h3.x t ht;have hn:=h3.n;refine(GN h1 (h2.x t ht).l (by omega)).mono ?_;rintro e w' ⟨M',rfl,k1,k2,k3,k4⟩;exact⟨rfl,St.kj h2 h3 ht k1 k2 k3 ⟨Vi.empty _,⟨cK _,cK _,cK _,cK _⟩,hx.m,hx.i,hx.k⟩ (h3.iv.cj ht (h3.iv.st t) (h3.iv.tk t) (λz hz=>by cases hz)),k4⟩
end
section
variable {w:aj}{τ:Nat->Nat}{s:Nat}{S:aY}
theorem Nx.calm{w':aj}{R:aY->Prop}(h:St w τ s S)(c:Calm w w')(r:R S):Nx w τ s S w' R:=⟨τ,S,h.calm c,aF.calm τ c,Fix.refl S,r⟩
theorem Nx.step{w1 w2:aj}{gi:Nat->Nat}{S1:aY}{s':Nat}{R:aY->Prop}(n:Nx w1 gi s' S1 w2 R)(k2:aF w τ w1 gi)(k3:Fix S S1):Nx w τ s' S w2 R:=by
 obtain⟨eY,S2,a,b,c,d⟩:=n;exact⟨eY,S2,a,k2.trans b,k3.trans c,d⟩
theorem Nx.l5{w1 w2:aj}{s':Nat}{R:aY->Prop}(n:Nx w1 τ s' S w2 R)(c:Calm w w1):Nx w τ s' S w2 R:=n.step (aF.calm τ c) (Fix.refl S)
theorem Nx.IP{w1 w2:aj}{s':Nat}{R:aY->Prop}(n:Nx w τ s' S w1 R)(c:Calm w1 w2):Nx w τ s' S w2 R:=by
 obtain⟨eY,S2,a,b,d,e⟩:=n;exact⟨eY,S2,a.calm c,b.trans (aF.calm eY c),d,e⟩
theorem Nx.mono{w':aj}{s' s2:Nat}{R R':aY->Prop}(n:Nx w τ s' S w' R)(hs:s'<=s2)(hr:∀S',R S'->R' S'):Nx w τ s2 S w' R':=by
 obtain⟨eY,S2,⟨M,a1,a2,a3⟩,b,d,e⟩:=n;exact⟨eY,S2,⟨M,a1,a2,a3.mono hs⟩,b,d,hr _ e⟩
def QV(t a:Nat)(b:Bool)(σ σ':PS):Prop:=∀o,σ.ob a=some o->(b=false/\σ'=σ)\/(b=true/\(∃u,o.snd=2*u+1)/\σ'=σ)\/(b=true/\∃v:Nat,o.snd=2*v/\σ'=(σ.cN a { o with snd:=2*t+1 }).aO t { σ.tx t with holds:=(σ.tx t).holds++[⟨a,v⟩] })
theorem yO(h:St w τ s S){t:Nat}(ht:t<S.bB.length){a:Nat}(ha:a<=131072):aL prog 147 #[pV S.sp,pV (S.tx t).xp,vI a] w λe w'=>∃b:Bool,e=.returned (.bool b)/\Nx w τ s S w' λS'=>z_ S S'/\QV t a b (vw S) (vw S'):=by
 have jX:=(h.cells 0 _ rfl).1;obtain⟨X,hh⟩:=h.kE;have hx:=h.ny ht;have Sw:=af (QK h a);have hn:=af (DE h);go_in;go_wp2_with fail
 refine(rQ hh ha).mono ?_;rintro e w1 ⟨⟨x,rfl⟩,k1⟩;have c4:=k1.cellAt (hx 4 _ rfl).1 id;go_wp2_with fail
 refine(BN Sw.out hn.out _).mono ?_;rintro e w2 ⟨(⟨u,hu,rfl⟩|⟨v,hv,hle,rfl⟩),rfl⟩
 ·go_wp2;go_ret;exact⟨_,rfl,Nx.calm h k1 ⟨.refl S,λo ho=>.inr (.inl ⟨rfl,⟨u,by rw[<-Fw ho];exact hu⟩,rfl⟩)⟩⟩
 ·have h1:=h.calm k1;have yN:=hn.out;go_wp2_with fail
  refine(Bv h1 ht ha (n:=(v:Nat)) ⟨by omega,by omega⟩ ⟨by omega,by omega⟩).mono ?_;rintro e w3 ⟨b2,rfl,Hs,S3,m1,m2,m3,m4,m5,m6⟩;replace m5:=af m5;replace m6:=af m6
  cases b2 with
  | false=>
    go_wp2;go_ret;exact⟨_,rfl,Hs,S3,m1,(aF.calm τ k1).trans m2,m3,m4,λo ho=>.inl ⟨rfl,m6.out (by simp)⟩⟩
  | true=>
    have o:=KH m1 (m3.len ▸ ht) (t:=t) ha;rw[m3.sp,m3.xp] at o;go_wp2_with fail
    refine(o).mono ?_;rintro e w4 ⟨rfl,τ4,S4,n1,n2,n3,n4,n5⟩;go_wp2;go_ret;refine⟨_,rfl,τ4,S4,n1,((aF.calm τ k1).trans m2).trans n2,m3.trans n3,m4.trans n4.NV,λo ho=>.inr (.inr ⟨rfl,v,?_,?_⟩)⟩
    ·rw[<-Fw (show S.D.A.ob a=some o from ho)];exact hv
    ·rw[n5,m5.out (by simp)];unfold PS.mod PS.cN PS.aO;simp only[PS.mk.injEq];exact⟨j9 _ ho,trivial,trivial,rfl⟩
theorem St.fresh(h:St w τ s S):∃τ0,St w τ0 s S/\nV w τ τ0/\∀k,w.heap.size<=k->τ0 k=1000:=by
 obtain⟨M,h1,h2,h3⟩:=h;obtain⟨τ0,k1,k2,k3⟩:=h1.fresh 1000;exact⟨τ0,⟨M,k1,h2,h3⟩,k2,k3⟩
theorem St.jC{w':aj}{T:Nat->Prop}(h:St w τ s S)(f:Fr T w w')(hT:∀b,T b->500<=τ b):St w' τ s S:=by
 obtain⟨M,h1,h2,h3⟩:=h;refine⟨M,h1.frame f (λt k hk gI=>?_),h2,h3⟩;have e1:=h1.tag t k hk;have e2:=hT k gI;rw[h2.z t (by omega)] at hk;exact hk
theorem aF.own{w':aj}{aX:Nat->Nat}(k:aF w τ w' aX){b i:Nat}{v:aC}(h:Own w b i v)(hb:500<=τ b):Own w' b i v:=h.fr k.fr (by omega)
theorem aF.bw{w':aj}{aX:Nat->Nat}(k:aF w τ w' aX){b:Nat}{vs:List aC}(h:ag w b vs)(hb:500<=τ b):ag w' b vs:=h.fr k.fr (by omega)
theorem Nx.fin{W2 W3 W4:aj}{τ0:Nat->Nat}{s':Nat}{R:aY->Prop}{T:Nat->Prop}(n:Nx W2 τ0 s' S W3 R)(c:Calm w W2)(tk:nV w τ τ0)(fr:∀k,w.heap.size<=k->τ0 k=1000)
 (f:Fr T W3 W4) (hT:∀b,T b->w.heap.size<=b/\b<W2.heap.size):Nx w τ s' S W4 R:=by
 obtain⟨Hs,S3,m1,m2,m3,m4⟩:=n;refine⟨Hs,S3,m1.jC f (λb hb=>?_),?_,m3,m4⟩
 ·rw[m2.tg b (hT b hb).2,fr b (hT b hb).1];omega
 ·have k:aF w τ W3 Hs:=((aF.calm τ0 c).trans m2).dp tk;exact⟨k.fr.join f (λj hj e=>by have:=(hT j e).1;omega),k.tg⟩
abbrev Mz(p d:Nat)(wk fn:Bool):List aC:=[vI p,vI d,.bool wk,.bool fn]
def Vj(t a p d:Nat)(wk fn:Bool)(x:Int)(σ σ':PS):Prop:=
 (x=143/\a=0/\σ'=σ)\/(x=70/\(a≠0/\σ.ob a=none)/\σ'=σ)\/(x=141/\σ'=σ)\/(x=130/\∃l,(∀y∈(σ.tx t).reads,y∈l)/\σ'=σ.aO t { σ.tx t with reads:=l }) \/
 ∃o l,σ.ob a=some o/\gO σ t o/\(∀y∈(σ.tx t).reads,y∈l)/\a∈l/\σ'=σ.aO t { σ.tx t with reads:=l } /\ a≠0/\((x=142/\o.fr=true)\/(x=0/\o.fr=false/\p=o.p/\d=o.d/\wk=o.wk/\fn=o.fn))
def IB(w:aj)(τ:Nat->Nat)(s:Nat)(S:aY)(t a:Nat)(e:Ending)(w':aj):Prop:=
 ∃ (p d:Nat) (wk fn:Bool) (x:Int),e=.returned (.tuple #[lV p d wk fn,vI x])/\cL x/\Nx w τ s S w' λS'=>z_ S S'/\Vj t a p d wk fn x (vw S) (vw S')
theorem yY(h:St w τ s S){t:Nat}(ht:t<S.bB.length)(hl:(S.tx t).live=true){a:Nat}(ha:a<=131072):aL prog 137 #[pV S.sp,pV (S.tx t).xp,vI a] w (IB w τ s S t a):=by
 have jX:=(h.cells 0 _ rfl).1;obtain⟨X,hh⟩:=h.kE;have hx:=h.ny ht;have gN:=(hx 4 _ rfl).1
 by_cases h0:a=0
 ·subst h0;go_in;go_wp2;refine bodyPost_ret (v:=.tuple #[lV 0 0 false false,vI 143]) ?_ rfl ⟨0,0,false,false,143,rfl,by decide,Nx.calm h (aq.alloc _) ⟨.refl S,.inl ⟨rfl,rfl,rfl⟩⟩⟩;simp[results,Tryz.f137,go_sem]
 ·obtain⟨τ0,hf,tk,fr⟩:=h.fresh;have hz:((a:Int)==0)=false:=by simp;omega
  have k0:Calm w (w.alloc (.cells #[vI 0,vI 0,.bool false,.bool false] 179)):=aq.alloc _;have mX:ag (w.alloc (.cells #[vI 0,vI 0,.bool false,.bool false] 179)) w.heap.size (Mz 0 0 false false):=ag.new w (Mz 0 0 false false) 179;have Su:w.heap.size<(w.alloc (.cells #[vI 0,vI 0,.bool false,.bool false] 179)).heap.size:=by simp
  obtain⟨W0,gS⟩:=au (w.alloc (.cells #[vI 0,vI 0,.bool false,.bool false] 179));rw[gS] at mX k0 Su;have hh0:=hh.calm k0;have abF:=k0.cellAt jX id;go_in;go_wp2_with fail
  clear gS;refine(Du hh0 ha).mono ?_;rintro e w1 ⟨k1,⟨hm,rfl⟩|⟨o,kL,rfl⟩⟩
  ·have g:=(mX.calm k1).alloc (.cells #[vI 0,vI 0,.bool false,.bool false] 179);have k2:Calm W0 (w1.alloc (.cells #[vI 0,vI 0,.bool false,.bool false] 179)):=k1.alloc _;have XC:=k0.trans k2;have aZ:w.heap.size<(w1.alloc (.cells #[vI 0,vI 0,.bool false,.bool false] 179)).heap.size:=by have:=k2.size;omega
   obtain⟨y0,z0,y1,z1,y2,z2,y3,z3⟩:=ag.Ui g;go_wp2;obtain⟨T,fT⟩:=g.zB (vI 0) (vI 0) (.bool false) (.bool false);refine bodyPost_ret (v:=.tuple #[lV 0 0 false false,vI 70]) ?_ rfl ⟨0,0,false,false,70,rfl,by decide,Nx.fin (Nx.calm (hf.calm XC) aq ⟨.refl S,.inr (.inl ⟨rfl,⟨h0,hm⟩,rfl⟩)⟩) XC tk fr fT (by rintro b rfl;exact⟨aM _,aZ⟩)⟩;simp[results,Tryz.f137,go_sem,(T 0 _ rfl).1,(T 1 _ rfl).1,(T 2 _ rfl).1,(T 3 _ rfl).1]
  ·have g:=(mX.calm k1).alloc (.cells #[vI o.p,vI o.d,.bool o.wk,.bool o.fn] 179);have k2:Calm W0 (w1.alloc (.cells #[vI o.p,vI o.d,.bool o.wk,.bool o.fn] 179)):=k1.alloc _;have g8:ag (w1.alloc (.cells #[vI o.p,vI o.d,.bool o.wk,.bool o.fn] 179)) w1.heap.size (Mz o.p o.d o.wk o.fn):=ag.new w1 (Mz o.p o.d o.wk o.fn) _;have Sg:w1.heap.size<(w1.alloc (.cells #[vI o.p,vI o.d,.bool o.wk,.bool o.fn] 179)).heap.size:=by simp
   obtain⟨W2,iA⟩:=au (w1.alloc (.cells #[vI o.p,vI o.d,.bool o.wk,.bool o.fn] 179));rw[iA] at g k2 g8 Sg;have XC:=k0.trans k2;have aZ:w.heap.size<W2.heap.size:=by have:=k2.size;omega
   have aaW:w.heap.size<=w1.heap.size:=by have:=k0.size;have:=k1.size;omega
   have abP:w1.heap.size≠w.heap.size:=by have:=k1.size;omega
   go_wp2_with fail
   clear iA;refine(ue (hf.calm XC) ht hl ha).mono ?_;rintro e w3 ⟨⟨b,rfl,sW⟩,k3⟩;replace sW:=af sW;replace g:=g.calm k3;replace g8:=g8.calm k3;have SU:=XC.trans k3;have yL:w.heap.size<w3.heap.size:=by have:=k3.size;omega
   cases b with
   | true=>
     obtain⟨y0,z0,y1,z1,y2,z2,y3,z3⟩:=ag.Ui g;go_wp2;obtain⟨T,fT⟩:=g.zB (vI 0) (vI 0) (.bool false) (.bool false);refine bodyPost_ret (v:=.tuple #[lV 0 0 false false,vI 141]) ?_ rfl ⟨0,0,false,false,141,rfl,by decide,Nx.fin (Nx.calm (hf.calm SU) aq ⟨.refl S,.inr (.inr (.inl ⟨rfl,rfl⟩))⟩) SU tk fr fT (by rintro b rfl;exact⟨aM _,yL⟩)⟩;simp[results,Tryz.f137,go_sem,(T 0 _ rfl).1,(T 1 _ rfl).1,(T 2 _ rfl).1,(T 3 _ rfl).1]
   | false=>
     have sX:=SU.cellAt gN id;go_wp2_with fail
     refine(Kh (hf.calm SU) ht ha).mono ?_;have how:=af (sW.out (by simp) o kL);replace kL:=af kL;rintro e w4 ⟨b2,rfl,n4⟩;have n5:=n4;replace n4:=af n4;obtain⟨τ4,S4,m1,m2,m3,m4⟩:=n5;clear m4;replace g:=m2.bw g (by rw[fr _ (aM _)];omega);replace g8:=m2.bw g8 (by rw[fr _ aaW];omega)
     cases b2 with
     | false=>
       obtain⟨y0,z0,y1,z1,y2,z2,y3,z3⟩:=ag.Ui g;go_wp2;obtain⟨T,fT⟩:=g.zB (vI 0) (vI 0) (.bool false) (.bool false);refine bodyPost_ret (v:=.tuple #[lV 0 0 false false,vI 130]) ?_ rfl ⟨0,0,false,false,130,rfl,by decide,Nx.fin (n4.out.mono (aM _) λS' ⟨h1,l,h2,_,h3⟩=>⟨h1,.inr (.inr (.inr (.inl ⟨rfl,l,h2,h3⟩)))⟩) SU tk fr fT (by rintro b rfl;exact⟨aM _,yL⟩)⟩;simp[results,Tryz.f137,go_sem,(T 0 _ rfl).1,(T 1 _ rfl).1,(T 2 _ rfl).1,(T 3 _ rfl).1]
     | true=>
       cases dM:o.fr with
       | true=>
         obtain⟨y0,z0,y1,z1,y2,z2,y3,z3⟩:=ag.Ui g;go_wp2;obtain⟨T,fT⟩:=g.zB (vI 0) (vI 0) (.bool false) (.bool false);refine bodyPost_ret (v:=.tuple #[lV 0 0 false false,vI 142]) ?_ rfl ⟨0,0,false,false,142,rfl,by decide,Nx.fin (n4.out.mono (aM _) λS' ⟨h1,l,h2,h4,h3⟩=>⟨h1,.inr (.inr (.inr (.inr ⟨o,l,kL.out,how.out,h2,h4 (by simp),h3,h0,.inl ⟨rfl,dM⟩⟩)))⟩) SU tk fr fT (by rintro b rfl;exact⟨aM _,yL⟩)⟩;simp[results,Tryz.f137,go_sem,(T 0 _ rfl).1,(T 1 _ rfl).1,(T 2 _ rfl).1,(T 3 _ rfl).1]
       | false=>
         obtain⟨a0,c0,a1,c1,a2,c2,a3,c3⟩:=ag.Ui g8;obtain⟨y0,z0,y1,z1,y2,z2,y3,z3⟩:=ag.Ui g;go_wp2;obtain⟨T,fT⟩:=g.zB (vI o.p) (vI o.d) (.bool o.wk) (.bool o.fn);refine bodyPost_ret (v:=.tuple #[lV o.p o.d o.wk o.fn,vI 0]) ?_ rfl ⟨o.p,o.d,o.wk,o.fn,0,rfl,by decide,Nx.fin (n4.out.mono (aM _) λS' ⟨h1,l,h2,h4,h3⟩=>⟨h1,.inr (.inr (.inr (.inr ⟨o,l,kL.out,how.out,h2,h4 (by simp),h3,h0,.inr ⟨rfl,dM,rfl,rfl,rfl,rfl⟩⟩)))⟩) SU tk fr fT (by rintro b rfl;exact⟨aM _,yL⟩)⟩;simp[results,Tryz.f137,go_sem,(T 0 _ rfl).1,(T 1 _ rfl).1,(T 2 _ rfl).1,(T 3 _ rfl).1]
end
section
variable {w:aj}{τ:Nat->Nat}{s:Nat}{S:aY}
theorem Nx.gH{w':aj}{A':HS}{R:aY->Prop}{s':Nat}(h:St w τ s S)(hi:Ei w S.D.B w' A')(hs:A'.ser<=s')(hn:A'.n=S.D.A.n)(hI:∀B',Inv (S.jr B' A'))(r:∀B',R (S.jr B' A')):Nx w τ s' S w' R:=by
 obtain⟨B',aX,k1,k2,k3⟩:=h.gH hi hs hI;exact⟨aX,_,k1,k2,Fix.jr k3 hn,r B'⟩
theorem okW{S:aY}(h:Inv S){A':HS}{a:Nat}{o:Ob}(e:A'.ob=λp=>if p=a then some o else S.D.A.ob p)(ho:o.snd=0):∀a o,A'.ob a=some o->(∃t,t<8/\o.snd=2*t+1)\/∃v,v<=S.now/\o.snd=2*v:=λb u hu=>by
 rw[e] at hu;have hu:(if b=a then some o else S.D.A.ob b)=some u:=hu;split at hu
 ·injection hu with hu;subst hu;exact .inr ⟨0,cK _,ho⟩
 ·exact h.sn b u hu
def U7(p d:Nat)(wk fn:Bool)(v x:Int)(σ σ':PS):Prop:=
 (x=0/\∃a:Nat,v=a/\a<=131072/\σ.ob a=none/\a≠0/\σ'=σ.lay a (Ob.new p d wk fn (σ.ser+1)))\/(x=100/\v=0/\σ'=σ)
theorem G0(h:St w τ s S)(hs:s<100000){p d:Nat}{wk fn:Bool}(df:sK p d wk fn):aL prog 183 #[pV S.D.B.hp,lV p d wk fn] w λe w'=>
 ∃v x:Int,e=.returned (.tuple #[vI v,vI x])/\cL x/\Nx w τ (s+1) S w' (λS'=>Hp S S'/\U7 p d wk fn v x (vw S) (vw S')):=by
 obtain⟨X,hh⟩:=h.kE;have hse:=h.ok.se;refine(CZ hh h.ok.he df (by omega)).mono ?_;rintro e w' (⟨a,A',rfl,h1,h2,h3,hi,h4,h5,h6⟩|⟨rfl,c⟩)
 ·exact⟨_,_,rfl,by decide,Nx.gH h hi (by rw[h5];omega) h4 (λB'=>h.ok.iv.jr B' (okW h.ok.iv h6 rfl)) (λB'=>⟨⟨B',A',rfl⟩,.inl ⟨rfl,a,rfl,h1,h3,by omega,by rw[zH,h6,h5];rfl⟩⟩)⟩
 ·exact⟨_,_,rfl,by decide,(Nx.calm (R:=λS'=>Hp S S'/\U7 p d wk fn 0 100 (vw S) (vw S')) h c ⟨.refl S,.inr ⟨rfl,rfl,rfl⟩⟩).mono (Nat.le_succ _) λ_ h=>h⟩
theorem iP(h:St w τ s S){a:Nat}(ha:a<=131072)(fr:Bool):aL prog 149 #[pV S.D.B.hp,vI a,.bool fr] w λe w'=>∃x:Int,e=.returned (vI x)/\pK x/\(S.D.A.ob a≠none->x=0)/\Nx w τ s S w' λS'=>Hp S S'/\vw S'=(vw S).mod a λo=>{ o with fr:=fr }:=by
 obtain⟨X,hh⟩:=h.kE;refine(vQ hh h.ok.he ha fr).mono ?_;rintro e w' ⟨x,A',rfl,hx,hz,hi,hk,ho⟩;exact⟨x,rfl,hx,hz,Nx.gH h hi (by rw[hk.ser];exact h.ok.se) hk.n (λB'=>h.ok.iv.jr B' (h.ok.iv.mod ho λo _=>.inl rfl)) (λB'=>⟨⟨B',A',rfl⟩,zG hk ho⟩)⟩
theorem uW(h:St w τ s S){a:Nat}(ha:a<=131072)(k v:Int)(hv:cL v):aL prog 145 #[pV S.D.B.hp,vI a,vI k,vI v] w λe w'=>∃x:Int,e=.returned (vI x)/\pK x/\(∀o,S.D.A.ob a=some o->okF k o.d=true->x=0)/\Nx w τ s S w' λS'=>Hp S S'/\vw S'=(vw S).mod a λo=>o.oU (okF k o.d) k v:=by
 obtain⟨X,hh⟩:=h.kE;refine(Bm hh h.ok.he ha k v hv).mono ?_;rintro e w' ⟨x,A',rfl,hx,hz,hi,hk,ho⟩;exact⟨x,rfl,hx,hz,Nx.gH h hi (by rw[hk.ser];exact h.ok.se) hk.n (λB'=>h.ok.iv.jr B' (h.ok.iv.mod ho λo _=>.inl (by unfold Ob.oU;cases okF k o.d <;> rfl))) (λB'=>⟨⟨B',A',rfl⟩,zG hk ho⟩)⟩
theorem oY(h:St w τ s S){a v:Nat}(ha:a<=131072)(hv:v<=131072)(k:Int):aL prog 133 #[pV S.D.B.hp,vI a,vI k,vI v] w λe w'=>∃x:Int,e=.returned (vI x)/\pK x/\(∀o,S.D.A.ob a=some o->okF k o.p=true->(v=0\/S.D.A.ob v≠none)->x=0)/\Nx w τ s S w' λS'=>Hp S S'/\vw S' = { vw S with ob:=Lo S.D.A.ob a k v }:=by
 obtain⟨X,hh⟩:=h.kE;refine(Bn hh h.ok.he ha hv k).mono ?_;rintro e w' ⟨x,A',rfl,hx,hz,hi,hk,ho⟩;refine⟨x,rfl,hx,hz,Nx.gH h hi (by rw[hk.ser];exact h.ok.se) hk.n (λB'=>h.ok.iv.jr B' ?_) (λB'=>⟨⟨B',A',rfl⟩,by rw[zH,ho,hk.ser];rfl⟩)⟩;unfold Lo at ho;split at ho
 ·exact h.ok.iv.mod ho λo _=>.inl (by unfold Ob.np;cases okF k o.p <;> rfl)
 ·rw[ho];exact h.ok.iv.sn
theorem zD(h:St w τ s S){a:Nat}(ha:a<=131072)(k:Int):aL prog 135 #[pV S.D.B.hp,vI a,vI k] w λe w'=>∃ (v:Nat) (x:Int),e=.returned (.tuple #[vI (v:Nat),vI x])/\v<=131072/\pK x/\Calm w w'/\∀o,S.D.A.ob a=some o->v=(bif okF k o.p then o.ps.getD k.toNat 0 else 0)/\x=bif okF k o.p then 0 else 71:=by
 obtain⟨X,hh⟩:=h.kE;refine(JP hh h.ok.he ha k).mono ?_;rintro e w' ⟨v,x,rfl,hx,hv,c,ho⟩;exact⟨v,x,rfl,hv,hx,c,ho⟩
theorem Fx(h:St w τ s S){a:Nat}(ha:a<=131072)(k:Int):aL prog 143 #[pV S.D.B.hp,vI a,vI k] w λe w'=>∃ (v x:Int),e=.returned (.tuple #[vI v,vI x])/\cL v/\pK x/\Calm w w'/\∀o,S.D.A.ob a=some o->v=(bif okF k o.d then zt (o.ns.getD k.toNat 0) else 0)/\x=bif okF k o.d then 0 else 71:=by
 obtain⟨X,hh⟩:=h.kE;exact JJ hh ha k
def tK(t a:Nat)(x:Int)(σ σ':PS):Prop:=
 (x=143/\a=0/\σ'=σ)\/(x=70/\(a≠0/\σ.ob a=none)/\σ'=σ)\/(x=141/\σ'=σ)\/(x=130/\∃l,(∀y∈(σ.tx t).reads,y∈l)/\σ'=σ.aO t { σ.tx t with reads:=l }) \/
 ∃o l,σ.ob a=some o/\gO σ t o/\(∀y∈(σ.tx t).reads,y∈l)/\a∈l/\σ'=σ.aO t { σ.tx t with reads:=l } /\ a≠0/\((x=142/\o.fr=true)\/(x=144/\o.fr=false/\o.wk=true)\/(x=0/\o.fr=false/\o.wk=false))
def MI(w:aj)(τ:Nat->Nat)(s:Nat)(S:aY)(t a:Nat)(e:Ending)(w':aj):Prop:=∃x:Int,e=.returned (vI x)/\cL x/\Nx w τ s S w' λS'=>z_ S S'/\tK t a x (vw S) (vw S')
theorem mM(h:St w τ s S){t:Nat}(ht:t<S.bB.length)(hl:(S.tx t).live=true){a:Nat}(ha:a<=131072):aL prog 188 #[pV S.sp,pV (S.tx t).xp,vI a] w (MI w τ s S t a):=by
 go_in;go_wp2_with fail
 refine(yY h ht hl ha).mono ?_;rintro e w1 ⟨p,d,wk,fn,x,rfl,hx,n1⟩;have y2:=(ag.new w1 (Mz p d wk fn) 179 2 _ rfl).1;have k1:Calm w1 (w1.alloc (.cells #[vI p,vI d,.bool wk,.bool fn] 179)):=aq.alloc _
 by_cases h0:x=0
 ·subst h0
  have n2:=n1.mono (aM _) (R':=λS'=>z_ S S'/\∃o l,(vw S).ob a=some o/\gO (vw S) t o/\(∀y∈((vw S).tx t).reads,y∈l)/\a∈l/\vw S'=(vw S).aO t { (vw S).tx t with reads:=l } /\ a≠0/\o.fr=false/\wk=o.wk) λS' ⟨h1,h2⟩=>by
   rcases h2 with ⟨e,_⟩|⟨e,_⟩|⟨e,_⟩|⟨e,_⟩|⟨o,l,h3,h4,h5,h6,h7,RF,⟨e,_⟩|⟨_,e1,_,_,e2,_⟩⟩
   ·omega
   ·omega
   ·omega
   ·omega
   ·omega
   ·exact⟨h1,o,l,h3,h4,h5,h6,h7,RF,e1,e2⟩
  cases wk with
  | true=>
    go_wp2;go_ret;exact⟨144,rfl,by decide,(n2.mono (aM _) λS' ⟨h1,o,l,h3,h4,h5,h6,h7,RF,h8,h9⟩=>⟨h1,.inr (.inr (.inr (.inr ⟨o,l,h3,h4,h5,h6,h7,RF,.inr (.inl ⟨rfl,h8,h9.symm⟩)⟩)))⟩).IP k1⟩
  | false=>
    go_wp2;go_ret;exact⟨0,rfl,by decide,(n2.mono (aM _) λS' ⟨h1,o,l,h3,h4,h5,h6,h7,RF,h8,h9⟩=>⟨h1,.inr (.inr (.inr (.inr ⟨o,l,h3,h4,h5,h6,h7,RF,.inr (.inr ⟨rfl,h8,h9.symm⟩)⟩)))⟩).IP k1⟩
 ·have hz:(x==0)=false:=by simpa using h0
  go_wp2;go_ret;refine⟨x,rfl,hx,(n1.mono (aM _) λS' ⟨h1,h2⟩=>⟨h1,?_⟩).IP k1⟩;rcases h2 with h2|h2|h2|h2|⟨o,l,h3,h4,h5,h6,h7,RF,⟨e,e2⟩|⟨e,_⟩⟩
  ·exact .inl h2
  ·exact .inr (.inl h2)
  ·exact .inr (.inr (.inl h2))
  ·exact .inr (.inr (.inr (.inl h2)))
  ·exact .inr (.inr (.inr (.inr ⟨o,l,h3,h4,h5,h6,h7,RF,.inl ⟨e,e2⟩⟩)))
  ·exact absurd e h0
def lD.ended(x:lD):lD:={ x with live:=false,tv:=.slice none 0 0,took:=[],L:=x.L.empty }
theorem nZ(h:St w τ s S){t:Nat}(ht:t<S.bB.length):aL prog 124 #[pV S.sp,pV (S.tx t).xp] w λe w'=>e=.returned (.tuple #[])/\Nx w τ s S w' (λS'=>z_ S S'/\vw S'=(vw S).fin t):=by
 have hx:=h.ny ht;have c4:=(hx 4 _ rfl).1;go_in;go_wp2_with fail
 refine(GP h ht).mono ?_;rintro e w1 ⟨rfl,h1,k1⟩;have Ic:=h1.ny (t:=t) (by simpa[aY.cj] using ht);rw[aY.jJ ht] at Ic;have y1:Own w1 (S.tx t).xp 1 (.bool (S.tx t).live):=Ic 1 _ rfl;have y5:Own w1 (S.tx t).xp 5 (S.tx t).tv:=Ic 5 _ rfl;have xR:=y1.1;have xS:=y1.2;have z51:=y5.1;have z52:=y5.2;go_wp2;have hC:ag ((w1.setCell ⟨(S.tx t).xp,5,none⟩ (.slice none 0 0)).setCell ⟨(S.tx t).xp,1,none⟩ (.bool false)) (S.tx t).xp (lD.cs t (S.tx t).ended):=(Ic.set 5 (.slice none 0 0) (by simp[lD.cs])).set 1 (.bool false) (by simp[lD.cs]);have hF:Fr (λb=>b=(S.tx t).xp) w1 ((w1.setCell ⟨(S.tx t).xp,5,none⟩ (.slice none 0 0)).setCell ⟨(S.tx t).xp,1,none⟩ (.bool false)):=((Fr.refl (λb=>b=(S.tx t).xp) w1).setCell (p:=⟨(S.tx t).xp,5,none⟩) (.inl rfl) _).setCell (p:=⟨(S.tx t).xp,1,none⟩) (.inl rfl) _;obtain⟨M,g1,g2,g3⟩:=h1;have hox:=h.ok.x t ht;have pE:t<(S.cj t { S.tx t with L:=(S.tx t).L.empty }).bB.length:=by simpa[aY.cj] using ht
 have e0:(S.cj t { S.tx t with L:=(S.tx t).L.empty }).tx t = { S.tx t with L:=(S.tx t).L.empty }:=aY.jJ ht _;have e9:(S.cj t { S.tx t with L:=(S.tx t).L.empty }).cj t (S.tx t).ended=S.cj t (S.tx t).ended:=by simp[aY.cj,List.set_set]
 obtain⟨aX,j1,j2⟩:=St.aO (x':=(S.tx t).ended) g1 g2 g3 pE (by rw[e0];exact hF.mono (λb _ e=>.inl e)) (by rw[e0];exact hC) (qi _ _ _ _) (λb hb=>(aB.nil b hb).elim) (by rw[e0];rfl) (by rw[e0];rfl) (by rw[e0];rfl)
  ⟨Vi.empty _,⟨cK _,cK _,cK _,cK _⟩,hox.m,hox.i,λi hi=>by cases hi⟩ (by rw[e9];exact h.ok.iv.cj ht (λe=>by cases e) rfl (λz hz=>by cases hz))
 rw[e9] at j1
 go_end0
 exact⟨rfl,aX,_,j1,k1.trans j2,Fix.cj ht rfl rfl,⟨rfl,rfl⟩,jz ht _⟩
end
section
variable {w:aj}{τ:Nat->Nat}{s:Nat}{S:aY}
def QW(t p d:Nat)(wk fn:Bool)(v x:Int)(σ σ':PS):Prop:=
 (x=0/\∃a:Nat,v=a/\a<=131072/\σ.ob a=none/\a≠0/\σ'=(σ.lay a { Ob.new p d wk fn (σ.ser+1) with snd:=2*t+1 }).aO t { σ.tx t with holds:=(σ.tx t).holds++[⟨a,0⟩] })\/(x=100/\v=0/\σ'=σ)\/(x=130/\v=0/\∃a:Nat,σ.ob a=none/\a≠0/\σ'=σ.lay a { Ob.new p d wk fn (σ.ser+1) with fr:=true })
def IA(w:aj)(τ:Nat->Nat)(s:Nat)(S:aY)(t p d:Nat)(wk fn:Bool)(e:Ending)(w':aj):Prop:=
 ∃v x:Int,e=.returned (.tuple #[vI v,vI x])/\Nx w τ (s+1) S w' (λS'=>z_ S S'/\QW t p d wk fn v x (vw S) (vw S'))
theorem E2{σ:PS}{a:Nat}{o:Ob}(g:Ob->Ob):(σ.lay a o).mod a g=σ.lay a (g o):=by
 unfold PS.lay PS.mod;simp only[PS.mk.injEq,and_true,true_and];funext p;unfold ni
 by_cases e:p=a
 ·subst e;simp
 ·simp[e]
theorem Ta(h:St w τ s S)(hs:s<100000){t:Nat}(ht:t<S.bB.length){p d:Nat}{wk fn:Bool}(df:sK p d wk fn) :
 aL prog 131 #[pV S.sp,pV (S.tx t).xp,lV p d wk fn] w (IA w τ s S t p d wk fn):=by
 obtain⟨τ0,hf,tk,fr⟩:=h.fresh;have k0:Calm w (w.alloc (.cells #[vI p,vI d,.bool wk,.bool fn] 179)):=aq.alloc _;have mX:ag (w.alloc (.cells #[vI p,vI d,.bool wk,.bool fn] 179)) w.heap.size (Mz p d wk fn):=ag.new w (Mz p d wk fn) 179;have Su:w.heap.size<(w.alloc (.cells #[vI p,vI d,.bool wk,.bool fn] 179)).heap.size:=by simp
 obtain⟨W0,gS⟩:=au (w.alloc (.cells #[vI p,vI d,.bool wk,.bool fn] 179));rw[gS] at mX k0 Su;have jX:=k0.cellAt (h.cells 0 _ rfl).1 id;obtain⟨y0,y1,y2,y3⟩:=ag.sQ mX;have Wo:=af (λW (cw:Calm W0 W)=>G0 (hf.calm (k0.trans cw)) hs df);have sI:500<=τ0 w.heap.size:=by rw[fr _ (aM _)];omega
 have hBr:Hid (∀ {W w2:aj} {eY:Nat->Nat} {S2:aY},Calm W0 W->St w2 eY (s+1) S2->aF W τ0 w2 eY->Fix S S2->w2.cell? ⟨S.sp,0,none⟩=some (pV S.D.B.hp)/\ag w2 w.heap.size (Mz p d wk fn)):=by
  intro W w2 eY S2 c m1 m2 m3;have:=(m1.cells 0 _ rfl).1;rw[m3.sp,m3.hp] at this;exact⟨this,m2.bw (mX.calm c) sI⟩
 go_in;go_wp2_with fail
 clear gS
 go_region_held3 (λw'=>w'.cell? ⟨S.sp,0,none⟩=some (pV S.D.B.hp)/\w'.cell? ⟨w.heap.size,0,none⟩=some (vI p)/\w'.cell? ⟨w.heap.size,1,none⟩=some (vI d)/\w'.cell? ⟨w.heap.size,2,none⟩=some (.bool wk)/\w'.cell? ⟨w.heap.size,3,none⟩=some (.bool fn)) (go_keep)
  (first|(go_at_call 183;refine(Wo.out _ (by first|exact aq|exact aq.drew)).mono ?_;rintro e w2 ⟨v,x,rfl,hx,eY,S2,m1,m2,m3,m4⟩;obtain⟨q0,q1⟩:=hBr.out (by first|exact aq|exact aq.drew) m1 m2 m3;have r0:=(q1 0 _ rfl).1;have r1:=(q1 1 _ rfl).1;have r2:=(q1 2 _ rfl).1;have r3:=(q1 3 _ rfl).1;have km:Hid (aF W0 τ0 w2 eY):=(by first|exact m2|exact(aF.calm τ0 (aq.drew)).trans m2);clear m2))
 rename_i hHeld;clear hHeld r0 r1 r2 r3 q1 hBr Wo;have kf:aF w τ w2 eY:=((aF.calm τ0 k0).trans km.out).dp tk;have yS:t<S2.bB.length:=m3.len ▸ ht;have c4:=(m1.ny yS 4 _ rfl).1;rw[m3.xp,m3.lp] at c4;clear km y0 y1 y2 y3 jX mX k0 fr tk hf sI Su;obtain⟨r4,m4⟩:=m4;rcases m4 with ⟨rfl,a,rfl,hL,qV,ha0,hv⟩|⟨rfl,rfl,eD⟩
 ·have o:=Bv m1 yS hL (n:=0) (by decide) ⟨by omega,by omega⟩;rw[m3.lp] at o;go_wp2_with fail
  refine(o).mono ?_;rintro e w3 ⟨b,rfl,Hs,S3,n1,n2,n3,n4,n6,n7⟩;have Xo:t<S3.bB.length:=n3.len ▸ yS
  cases b with
  | false=>
    have c0:=(n1.cells 0 _ rfl).1;rw[n3.sp,n3.hp,m3.sp,m3.hp] at c0;have o2:=iP n1 hL true;rw[n3.hp,m3.hp] at o2;go_wp2_with fail
    refine(o2).mono ?_;rintro e w4 ⟨x,rfl,_,_,n5⟩;go_wp2
    go_ret2
    refine⟨0,130,rfl,(n5.step (kf.trans n2) (m3.trans n3)).mono (aM _) λS' ⟨h1,h2⟩=>⟨(r4.NV.trans n4).trans h1.NV,.inr (.inr ⟨rfl,rfl,a,qV,ha0,?_⟩)⟩⟩;rw[h2,n7 (by simp),hv,E2]
  | true=>
    have o2:=KH n1 Xo hL;rw[n3.sp,m3.sp,n3.xp,m3.xp] at o2;go_wp2_with fail
    refine(o2).mono ?_;rintro e w4 ⟨rfl,n5⟩;go_wp2
    go_ret2
    refine⟨a,0,rfl,(n5.step (kf.trans n2) (m3.trans n3)).mono (aM _) λS' ⟨h1,h2⟩=>⟨(r4.NV.trans n4).trans h1.NV,.inl ⟨rfl,a,rfl,hL,qV,ha0,?_⟩⟩⟩;rw[h2,n6 (by simp),hv,<-E2 (o:=Ob.new p d wk fn ((vw S).ser+1)) (λo=>{ o with snd:=2*t+1 })]
    have e:(S2.tx t).L.holds=((vw S).tx t).holds:=by
     have:=congrArg (λσ:PS=>(σ.tx t).holds) hv;exact this
    rw[e];rfl
 ·go_wp2
  go_ret2
  exact⟨0,100,rfl,eY,S2,m1,kf,m3,r4.NV,.inr (.inl ⟨rfl,rfl,eD⟩)⟩
end
def udV(u:Ud):aC:=.agg #[vI u.kind,vI u.at_,vI u.i,vI u.cC]
structure ZW(cb:Nat)(v:aC)(l:List Ud)(W:aj):Prop where
 c:W.cell? ⟨cb,0,none⟩=some v
 r:∃g,∀j,j<l.length->(∃c,v=.slice (some ⟨g,0,none⟩) l.length c)/\∀i u,(wC (l.getD j dU))[i]?=some u->W.cell? ⟨g,j*4+i,none⟩=some u
 s:∃a c,v=.slice a l.length c
def IL(l:List Ud)(k:Nat):Array aC:=#[vI ((l.length:Int)-1-k),udV (l.getD (l.length-1-k) dU)]
theorem II(n:Nat)(hn:1<=n)(w0:aj)(cb:Nat)(v:aC)(l:List Ud)(hl:l.length<=100000) :
 ID (ZW cb v l) Fence.wide n prog 236 #[aR cb] (IL l) l.length true w0:=λy J Jx W hkW hQ hJ hG hJx hN hY h0=>by
 have q0:=hQ _ _ _ h0;obtain⟨a,c,hv⟩:=q0.s;have y1:=q0.c;rw[hv] at y1;have Oi:=af hv;have RD:=af h0;replace hQ:=af hQ;replace hJ:=af hJ;replace hG:=af hG;replace hJx:=af hJx;replace hN:=af hN;replace hY:=af hY;clear q0 h0 hv;refine callsIn_of_wp func236 rfl trivial ?_ rfl;simp only[ntmps236,List.size_toArray,List.length_cons,List.length_nil,Nat.reduceAdd,Nat.reduceSub,Array.replicate_succ,Array.replicate_zero,List.push_toArray,List.append_toArray,List.nil_append,List.cons_append,Array.append_empty]
 gi_wp2_with fail
 gi_loopw [3] (λp wr=>∃k:Nat,k<=l.length/\p=vI ((l.length:Int)-1-k)/\Hid (J (λ_=>False) k wr)) (λp _=>(intOf p+1).toNat)
 case atStart=>exact⟨0,by omega,by go_num,RD⟩
 case round=>
  obtain⟨k,hk,rfl,hj⟩:=hrel;clear y1 RD;rcases oZ k l.length with aZ|jL
  ·have g1:(0:Int)<=(l.length:Int)-1-k:=by omega
   have qa:=hQ.out _ _ _ hj.out;have pa:=qa.c;obtain⟨g,hg⟩:=qa.r;obtain⟨⟨c2,dW⟩,hcell⟩:=hg (l.length-1-k) (by omega);rw[dW] at pa;have e0:((l.length:Int)-1-k).toNat=l.length-1-k:=by omega
   obtain⟨m,hm⟩:=au (l.length-1-k);have em:(l.length:Int)-1-k=(m:Int):=by omega
   rw[hm] at hcell;have x0:=hcell 0 _ rfl;rw[fj] at x0;have x1:=hcell 1 _ rfl;have x2:=hcell 2 _ rfl;have x3:=hcell 3 _ rfl;have hYk:=hY.out _ k wr aZ hj.out;have e1:IL l k = #[vI (m:Int),.agg #[vI (l.getD m dU).kind,vI (l.getD m dU).at_,vI (l.getD m dU).i,vI (l.getD m dU).cC]]:=by unfold IL;rw[em,hm];rfl
   rw[e1] at hYk;obtain⟨fn,tmps,assign,body,hy,hR⟩:=hYk;have hmn:(m:Int)<l.length:=by omega
   rw[em];rw[em] at g1;generalize l.getD m dU=U at *;clear e1 qa hg dW e0
   gi_wp2
   refine hR.mono ?_;rintro e W2 (⟨rfl,Wc,-⟩|⟨rfl,Ic⟩)
   ·replace Wc:=af Wc;clear pa x0 x1 x2 x3
    gi_wp2
    exact⟨⟨k+1,by omega,by rw[show(m:Int)-1=(l.length:Int)-1-(k+1:Nat) by omega],Wc⟩,by simp[intOf]⟩
   ·replace Ic:=af Ic
    gi_wp2
    exact bodyPost_ret (v:=.tuple #[]) (by simp[results,Tryz.f236,go_sem]) rfl ⟨⟨_,rfl⟩,.inr Ic.out⟩
  ·obtain rfl:k=l.length:=by omega
   have g1:¬((0:Int)<=(l.length:Int)-1-l.length):=by omega
   have qw:=hj;clear jL hk hj
   gi_wp2
   exact bodyPost_end (v:=.tuple #[]) (by simp[results,Tryz.f236,go_sem]) rfl ⟨⟨_,rfl⟩,.inl ⟨_,qw.out⟩⟩
