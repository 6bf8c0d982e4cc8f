import Derived.Test.YtgijglafnlbdbaaGreatTmAX
import Derived.Test.YtgijglafnlbdbaaGreatTmAY
set_option linter.all false
set_option maxHeartbeats 4000000
set_option maxRecDepth 8000
namespace Go.Proofs.YtgijglafnlbdbaaGreat
open RowKit Shelf Proofs.Tryz
open Go renaming World->aj,Value->aC,Calls->aL
section
theorem qD.of{σ:PS}(hw:PW σ){t:Nat}(hl:(σ.tx t).live=true):qD σ t:=⟨hl,λh hh=>(hw.hs t h hh).2,hw.nd t,hw.us t⟩
section
variable {Q:Pg}{aW:Nat}{S S':aY}{M:Nat->FM}{X:List bT}{r:Rd}{i t:Nat}{wt:Nat->Nat}{x':bT}{k e v:Int}
theorem L6.ms(h:CI Q aW (vw S) M X r i wt)(ht:t<Q.length)(hS:S.bB.length=Q.length)(H5:S.aW=(aW:Nat))(hs:L6 S t (Q.getD t []) (X.getD t d0) x' k e v S')(hk:k≠0):MS Q aW (vw S) t (X.getD t d0) (vw S') x' k e v:=by
 obtain⟨_,_,_,jk,_,_,sJ⟩:=h.th t ht;obtain⟨x,hx⟩:=au (X.getD t d0);rw[hx] at hs jk sJ ⊢;rcases hs with h0|⟨rfl,hl,hb,h1,h2,h3⟩|⟨rfl,hl,hb,hp,h1⟩|⟨rfl,hl,hb,hp,h1⟩
 ·exact absurd h0.1 hk
 ·rcases h3 with ⟨rfl,g1,g2⟩|⟨rfl,g1,g2⟩
  ·obtain⟨rfl,rfl⟩:=h2 (by decide);rw[g1];exact .no hb hl
  ·obtain⟨rfl,rfl⟩:=h1 rfl;rw[g2];exact .beg hb hl (by rw[H5,hS] at g1;omega)
 ·have lv:((vw S).tx t).live=true:=by rw[<-jk];exact hl
  have hE:=qD.of h.pw lv
  have Di:x.p=((bU Q t x.b).length:Nat):=by
   rcases sJ with ⟨g,_⟩|⟨_,q,_,g2,_,g4,g5,_,_,g8,_⟩
   ·rw[hl] at g;cases g
   ·have:=(h.tr q g2).al.1;rw[g4,g5] at this;have hp:((bU Q t x.b).length:Int)<=x.p:=hp;omega
  rcases h1 with ⟨rfl,rfl,h1⟩|⟨rfl,rfl,rfl,g⟩
  ·rcases h1 with ⟨_,rfl,g1,g2⟩|⟨_,e,_⟩|⟨_,rfl,g1,g2⟩
   ·rw[g2];exact .cm0 _ hl Di g1 hE.fin rfl
   ·exact absurd e (by decide)
   ·rw[g2];exact .cm _ hl Di (hE.Re g1)
  ·rw[g];exact .cmx _ hl Di hE.wM
 ·have lv:((vw S).tx t).live=true:=by rw[<-jk];exact hl
  rcases h1 with ⟨_,R',hd,rfl⟩|⟨hf,rfl,rfl,dE,hm,g⟩|⟨hk,rfl,rfl,rfl,g⟩
  ·exact .dd _ R' v e hl hp hd
  ·have m:=hm.law h.pw h.gm lv;rw[g];exact .ft dE _ e hl hp hm (qD.of m.pw m.lv).wM (by unfold Fatal at hf;omega)
  ·rw[g];exact .ab _ hl hp hk (qD.of h.pw lv).wM
theorem Rd.BX{Q:Pg}{e:En}{r':Rd} : ∀ (H:List En) (i:Nat) (r0 r:Rd),Rd.run Q H i r0=some r->r.take Q (i+H.length) e=some r'->Rd.run Q (H++[e]) i r0=some r'
 | [],i,r0,r,h,h2=>by
   injection h with h;subst h
   show(match r0.take Q i e with|none=>none|some r'=>some r')=_;rw[show r0.take Q i e=some r' from h2]
 | a::H,i,r0,r,h,h2=>by
   unfold Rd.run at h;show(match r0.take Q i a with|none=>none|some r'=>Rd.run Q (H++[e]) (i+1) r')=_
   cases e1:r0.take Q i a with
   | none=>rw[e1] at h;cases h
   | some r1=>
     rw[e1] at h;exact Rd.BX H (i+1) r1 r h (by rw[show i+1+H.length=i+(a::H).length by simp;omega];exact h2)
theorem J9{σ:PS}{n t:Nat}(ht:t<n)(hl:(σ.tx t).live=true):1<=fZ σ n:=
 List.countP_pos_iff.2 ⟨t,List.mem_range.2 ht,hl⟩
def Bt(σ:PS)(t n:Nat):Nat:=(List.range n).countP λu=>(σ.tx u).live && decide (u≠t)
theorem Bu(σ:PS){t n:Nat}(ht:t<n):Bt σ t n+(if (σ.tx t).live then 1 else 0)=fZ σ n:=by
 have e:=jZ (σ:=σ) (σ':=σ.aO t ⟨false,0,[],[],[]⟩) (t:=t) n ht (λu hu=>by rw[bN _ _ hu])
 have e2:fZ (σ.aO t ⟨false,0,[],[],[]⟩) n=Bt σ t n:=by
  unfold fZ Bt;refine List.countP_congr λu hu=>?_
  by_cases h:u=t
  ·subst h;rw[aV];simp
  ·rw[bN _ _ h];simp[h]
 rw[e2,aV] at e;simpa using e
theorem J_{σ σ':PS}{t:Nat}(h:∀u,u≠t->(σ'.tx u).live=(σ.tx u).live)(n:Nat):Bt σ' t n=Bt σ t n:=by
 unfold Bt;refine List.countP_congr λu hu=>?_
 by_cases e:u=t
 ·simp[e]
 ·rw[h u e]
theorem Ka(σ:PS)(t n:Nat):Bt σ t (n+1)=Bt σ t n+(if (σ.tx n).live && decide (n≠t) then 1 else 0):=by
 unfold Bt;rw[List.range_succ,List.countP_append,List.countP_cons,List.countP_nil];simp
theorem Rp(o:Ob)(k i:Int):fO o k i≠120:=by
 unfold fO;split
 ·decide
 ·split
  ·decide
  ·split
   ·decide
   ·by_cases e:(if k=6\/k=7 then (o.d:Int) else (o.p:Int))<=i
    ·rw[if_pos e];decide
    ·rw[if_neg e];decide
theorem DN.aac{σ σ':PS}{t:Nat}{d:Dd}{R R':aE}{v e:Int}(h:DN σ t d R σ' R' v e):e≠120:=by
 cases h with
 | bad=>exact Rp _ _ _
 | _=>decide
structure Eo(Q:Pg)(aW:Nat)(S:aY)(H:List En)(X:List bT):Prop where
 ci:∃M r wt,CI Q aW (vw S) M X r H.length wt/\Rd.run Q H 0 (Rd.start Q)=some r
 n:S.bB.length=Q.length
 mo:S.aW=(aW:Nat)
 k:∀x∈H,x.k≠4/\x.k≠5
theorem Eo.start(hn:Ae S)(h1:S.bB.length=Q.length)(h2:S.aW=(aW:Nat)):Eo Q aW S [] (List.replicate Q.length d6):=
 ⟨⟨_,_,_,CI.start Q aW _ rfl (vw S) hn.ob hn.nw (λt=>hn.tx t),rfl⟩,h1,h2,λx hx=>by cases hx⟩
theorem MS.kk{σ σ':PS}{x:bT}(h:MS Q aW σ t x σ' x' k e v):k≠4/\k≠5:=by cases h <;> decide
theorem Eo.rgd{H:List En}(h:Eo Q aW S H X)(ht:t<Q.length):wL S (X.getD t d0)/\(X.getD t d0).live=(S.tx t).live/\((S.tx t).live=true->(S.now:Int)<S.aW):=by
 obtain⟨M,r,wt,hc,_⟩:=h.ci;obtain⟨_,_,_,jk,_,_,sJ⟩:=hc.th t ht;refine⟨⟨hc.pw.z,λp hp=>?_⟩,jk,λhl=>?_⟩
 ·rcases sJ with ⟨_,_,g,_⟩|⟨_,q,_,_,_,_,_,_,_,_,_,_,_,g⟩
  ·exact(g p hp).here
  ·exact(g.kr p hp).here hc.pw
 ·have h1:=hc.cn;have h2:=J9 (σ:=vw S) ht hl;rw[h.mo];have h3:(vw S).now=S.now:=rfl;omega
theorem Eo.step{H:List En}(hQ:∀t b,∀d∈bU Q t b,d.Rt)(h:Eo Q aW S H X)(ht:t<Q.length)(hX:X.length=Q.length)(hf:Fix S S')(hs:L6 S t (Q.getD t []) (X.getD t d0) x' k e v S'):Eo Q aW S' (if k=0 then H else H++[⟨t,(X.getD t d0).b,(X.getD t d0).p,k,e,v⟩]) (X.set t x'):=by
 obtain⟨M,r,wt,hc,hr⟩:=h.ci
 by_cases hk:k=0
 ·rw[if_pos hk];rcases hs with ⟨_,_,_,rfl,g,_⟩|⟨g,_⟩|⟨g,_⟩|⟨g,_⟩
  ·refine⟨⟨M,r,wt,?_,hr⟩,hf.len.trans h.n,hf.mo.trans h.mo,h.k⟩;rw[g,B0 (by omega)];exact hc
  ·omega
  ·omega
  ·omega
 ·rw[if_neg hk];have hm:=hs.ms hc ht h.n h.mo hk;obtain⟨M',r',wt',h1,h2⟩:=hc.step hQ ht hm;refine⟨⟨M',r',wt',by rw[cX];exact h2,Rd.BX H 0 _ r hr (by rw[fk];exact h1)⟩,hf.len.trans h.n,hf.mo.trans h.mo,λy hy=>?_⟩;rcases mD.1 hy with hy|hy
  ·exact h.k y hy
  ·rw[nu.1 hy];exact hm.kk
theorem Eo.ask{H:List En}(h:Eo Q aW S H X)(h':Eo Q aW S' (if k=0 then H else H++[⟨t,(X.getD t d0).b,(X.getD t d0).p,k,e,v⟩]) (X.set t x'))(ht:t<Q.length)(hX:X.length=Q.length)(hs:L6 S t (Q.getD t []) (X.getD t d0) x' k e v S') :
 (k=1->(e=0↔(Bt (vw S') t Q.length:Int)+1<=aW-S'.now))/\(e=120->k=1/\x'.b=((Q.getD t []).length:Nat)/\(x'.ser (vw S')).R=((X.getD t d0).ser (vw S)).R)/\(S'.now:Int)<=aW:=by
 obtain⟨M,r,wt,hc,_⟩:=h.ci;obtain⟨M',r',wt',Nz,_⟩:=h'.ci;obtain⟨x,hx⟩:=au (X.getD t d0);obtain⟨_,_,_,jk,_,_,sJ⟩:=hc.th t ht;rw[hx] at hs jk sJ ⊢;refine⟨λhk=>?_,λhe=>?_,?_⟩
 ·rcases hs with ⟨g,_⟩|⟨rfl,hl,hb,h1,h2,h3⟩|⟨g,_⟩|⟨g,_⟩
  ·omega
  ·have ld:((vw S).tx t).live=false:=by rw[<-jk];exact hl
   rcases h3 with ⟨rfl,g1,g2⟩|⟨rfl,g1,g2⟩
   ·rw[h.mo,h.n] at g2;have e1:S'.now=(vw S).now:=by rw[<-g1];rfl
    have e3:=Bu (vw S) ht;rw[ld] at e3;simp only[Bool.false_eq_true,if_false] at e3;rw[g1,e1];omega
   ·rw[h.mo,h.n] at g1;have e1:S'.now=(vw S).now:=by show(vw S').now=_;rw[g2];rfl
    have e3:=Bu (vw S) ht;rw[ld] at e3;simp only[Bool.false_eq_true,if_false] at e3;rw[g2,J_ (σ:=vw S) (σ':=(vw S).aO t (((vw S).tx t).beg (vw S).now)) (t:=t) (λu hu=>by rw[bN _ _ hu]) Q.length,e1];omega
  ·omega
  ·omega
 ·rcases hs with ⟨_,g,_⟩|⟨rfl,hl,hb,h1,h2,h3⟩|⟨rfl,_,_,_,h1⟩|⟨rfl,hl,hb,hp,h1⟩
  ·omega
  ·rcases h3 with ⟨rfl,g1,g2⟩|⟨rfl,g1,g2⟩
   ·obtain⟨rfl,rfl⟩:=h2 (by decide);exact⟨rfl,rfl,by rw[g1];rfl⟩
   ·omega
  ·rcases h1 with ⟨g,_⟩|⟨g,_⟩ <;> omega
  ·rcases h1 with ⟨hf,R',hd,rfl⟩|⟨hf,rfl,rfl,dE,hm,g⟩|⟨hk,g,_⟩
   ·have:=hd.aac;omega
   ·unfold Fatal at hf;omega
   ·omega
 ·have:=Nz.cn;have e:(vw S').now=S'.now:=rfl;omega
end
end
theorem Ay(w:aj)(x:Int):aL prog 84 #[vI x] w λe w'=>e=.returned (.bool (n_ x))/\w'=w:=by
 unfold n_;rcases(by omega:x=141\/x=100\/x=130\/(x≠141/\x≠100/\x≠130)) with rfl|rfl|rfl|⟨h1,h2,h3⟩
 ·go_in;go_wp2;go_ret;exact⟨rfl,rfl⟩
 ·go_in;go_wp2;go_ret;exact⟨rfl,rfl⟩
 ·go_in;go_wp2;go_ret;exact⟨rfl,rfl⟩
 ·have e1:(x==141)=false:=by simp[h1]
  have e2:(x==100)=false:=by simp[h2]
  have e3:(x==130)=false:=by simp[h3]
  have hr:Hid ((x==141 || x==100 || x==130)=false):=by show _=_;rw[e1,e2,e3];rfl
  clear h1 h2 h3;rw[hr.out];go_in;go_wp2;go_ret;exact⟨rfl,rfl⟩
theorem O7(w:aj)(a:Option Addr)(c:Nat)(s at_:Int):aL prog 86 #[.slice a 0 c,vI s,vI at_] w λe w'=>e=.returned (.bool false)/\w'=w:=by
 go_in;go_wp2_with fail
 go_loopw [11] (λz w'=>z=vI 0/\w'=w) (λz _=>0)
 case atStart=>exact⟨rfl,rfl⟩
 case round=>
  obtain⟨rfl,rfl⟩:=hrel;go_wp2;go_ret;exact⟨rfl,rfl⟩
theorem kS(w:aj)(v1:List aC)(t1:TypeId)(v2:List aC)(t2:TypeId)(v3:List aC)(t3:TypeId):∃W,(((w.alloc (.cells v1.toArray t1)).alloc (.cells v2.toArray t2)).alloc (.cells v3.toArray t3))=W/\Calm w W/\ag W w.heap.size v1/\ag W (w.heap.size+1) v2/\ag W (w.heap.size+1+1) v3:=by
 obtain⟨W1,e1,k1,o1,s1⟩:=dy w v1 t1;obtain⟨W2,e2,k2,o2,s2⟩:=dy W1 v2 t2;obtain⟨W3,e3,k3,o3,s3⟩:=dy W2 v3 t3;rw[s1] at o2;rw[s2,s1] at o3;exact⟨W3,by rw[e1,e2,e3],(k1.trans k2).trans k3,(o1.calm k2).calm k3,o2.calm k3,o3⟩
def jO(w:aj)(x:Int)(e:Ending)(w':aj):Prop:=e=.returned (vI x)/\Calm w w'
theorem ug{T:Nat->Prop}{w:aj}{v qv:aC}{ms:List fW}(h:bL T w v ms)(hl:ms.length<=100000)(fresh:Int){k i n:Int}{a b:Nat}(ha:a<6)(hb:b<6)(hk:k=1\/k=2)(r0 r1 r2 r3 r4 r5:Int) :
 aL prog 156 #[.agg #[v,qv],.agg #[vI r0,vI r1,vI r2,vI r3,vI r4,vI r5],.agg #[vI k,vI (a:Int),vI (b:Int),vI i,vI n],vI fresh] w (jO w (lays (ms.map (·.x)) fresh)):=by
 obtain⟨W0,e0,k0,o1,o2,o3⟩:=kS w [v,qv] 92 [vI r0,vI r1,vI r2,vI r3,vI r4,vI r5] 29 [vI k,vI (a:Int),vI (b:Int),vI i,vI n] 52;have op:=jw (qv:=qv) (h.calm k0) hl fresh;obtain⟨y0,y1⟩:=ag.lF o1;obtain⟨d0,d1⟩:=ag.lF o3
 obtain⟨ra,lU⟩:∃x:Int,W0.cell? ⟨w.heap.size+1,a,none⟩=some (vI x):=by
  match a,ha with
  | 0,_=>exact⟨_,(o2 0 _ rfl).1⟩
  | 1,_=>exact⟨_,(o2 1 _ rfl).1⟩
  | 2,_=>exact⟨_,(o2 2 _ rfl).1⟩
  | 3,_=>exact⟨_,(o2 3 _ rfl).1⟩
  | 4,_=>exact⟨_,(o2 4 _ rfl).1⟩
  | 5,_=>exact⟨_,(o2 5 _ rfl).1⟩
 have a0:(0:Int)<=(a:Int):=by omega
 have a1:(a:Int)<6:=by omega
 replace k0:=af k0;clear h o1 o2 o3;rcases hk with rfl|rfl
 all_goals
  go_in;go_wp2_with fail
  refine op.mono ?_;rintro e w1 ⟨rfl,c1⟩;have hP:jO w (lays (ms.map (·.x)) fresh) (.returned (vI (lays (ms.map (·.x)) fresh))) w1:=⟨rfl,k0.out.trans c1⟩;replace hP:=af hP;clear op c1;go_wp2;go_ret;exact hP.out
theorem fy{w:aj}{B a:Nat}{r0 r1 r2 r3 r4 r5:Int}(o:ag w B [vI r0,vI r1,vI r2,vI r3,vI r4,vI r5])(ha:a<6):w.cell? ⟨B,a,none⟩=some (vI ([r0,r1,r2,r3,r4,r5].getD a 0)):=by
 match a,ha with
 | 0,_=>exact(o 0 _ rfl).1
 | 1,_=>exact(o 1 _ rfl).1
 | 2,_=>exact(o 2 _ rfl).1
 | 3,_=>exact(o 3 _ rfl).1
 | 4,_=>exact(o 4 _ rfl).1
 | 5,_=>exact(o 5 _ rfl).1
theorem i_{T:Nat->Prop}{w:aj}{v qv:aC}{ms:List fW}(h:bL T w v ms)(hl:ms.length<=100000)(fresh:Int){k i n:Int}{a b:Nat}(ha:a<6)(hb:b<6)(hk:k=10\/k=11\/k=12\/k=13\/k=14)(r0 r1 r2 r3 r4 r5:Int) :
 aL prog 156 #[.agg #[v,qv],.agg #[vI r0,vI r1,vI r2,vI r3,vI r4,vI r5],.agg #[vI k,vI (a:Int),vI (b:Int),vI i,vI n],vI fresh] w (jO w (0)):=by
 obtain⟨W0,e0,k0,o1,o2,o3⟩:=kS w [v,qv] 92 [vI r0,vI r1,vI r2,vI r3,vI r4,vI r5] 29 [vI k,vI (a:Int),vI (b:Int),vI i,vI n] 52;obtain⟨y0,y1⟩:=ag.lF o1;obtain⟨d0,d1,d2,d3⟩:=ag.sQ o3;have lU:=fy o2 ha;have jl:=fy o2 hb;have a0:(0:Int)<=(a:Int):=by omega
 have a1:(a:Int)<6:=by omega
 have b0:(0:Int)<=(b:Int):=by omega
 have b1:(b:Int)<6:=by omega
 obtain⟨ra,gz⟩:=au (([r0,r1,r2,r3,r4,r5]:List Int).getD a 0);rw[gz] at lU;have hP:jO w 0 (.returned (vI 0)) W0:=⟨rfl,k0⟩;replace hP:=af hP;clear h o1 o2 o3 k0 gz jl;rcases hk with rfl|rfl|rfl|rfl|rfl
 all_goals
  go_in;go_wp2;go_ret;exact hP.out
theorem I4{T:Nat->Prop}{w:aj}{v qv:aC}{ms:List fW}(h:bL T w v ms)(hl:ms.length<=100000)(fresh:Int){i n:Int}{a b:Nat}(ha:a<6)(hb:b<6)(r0 r1 r2 r3 r4 r5:Int) :
 aL prog 156 #[.agg #[v,qv],.agg #[vI r0,vI r1,vI r2,vI r3,vI r4,vI r5],.agg #[vI 3,vI (a:Int),vI (b:Int),vI i,vI n],vI fresh] w (jO w (cZ (ms.map (·.x)) ([r0,r1,r2,r3,r4,r5].getD b 0) 3 i fresh)):=by
 obtain⟨W0,e0,k0,o1,o2,o3⟩:=kS w [v,qv] 92 [vI r0,vI r1,vI r2,vI r3,vI r4,vI r5] 29 [vI 3,vI (a:Int),vI (b:Int),vI i,vI n] 52;obtain⟨y0,y1⟩:=ag.lF o1;obtain⟨d0,d1,d2,d3⟩:=ag.sQ o3;have lU:=fy o2 ha;have jl:=fy o2 hb;have a0:(0:Int)<=(a:Int):=by omega
 have a1:(a:Int)<6:=by omega
 have b0:(0:Int)<=(b:Int):=by omega
 have b1:(b:Int)<6:=by omega
 obtain⟨ra,gz⟩:=au (([r0,r1,r2,r3,r4,r5]:List Int).getD a 0);obtain⟨rb,gZ⟩:=au (([r0,r1,r2,r3,r4,r5]:List Int).getD b 0);rw[gz] at lU;rw[gZ] at jl
 try rw[gz]
 try rw[gZ]
 have h0:=h.calm k0;have op:=af (λs W (c:Calm W0 W)=>dZ (h0.calm c) hl s);have ol:=af (λW (c:Calm W0 W)=>jw (qv:=qv) (h0.calm c) hl fresh);obtain⟨va,vc,rfl,hg⟩:=h0;have dQ:=af hg;replace k0:=af k0;clear h o1 o2 o3 hg gz gZ;obtain⟨s,hs⟩:=au (rb:Int);subst hs;obtain⟨p,hp⟩:=au (gQ (ms.map (·.x)) rb 0);have ml:=fc rb (ms.map (·.x)) 0;rw[hp,List.length_map] at ml;rcases(by omega:(rb=0\/p<0)\/(rb≠0/\0<=p/\p<ms.length)) with hc|⟨s0,p0,p1⟩
 ·have hr:cZ (ms.map (·.x)) rb 3 i fresh=143:=by unfold cZ;rw[hp,if_pos hc]
  rw[hr];have o1:=op.out rb W0 aq;rw[hp] at o1;clear hr ml hp;go_in;go_wp2_with fail
  refine o1.mono ?_;rintro e w1 ⟨rfl,c1⟩;have hP:jO w 143 (.returned (vI 143)) w1:=⟨rfl,k0.out.trans c1⟩;replace hP:=af hP;clear o1 c1;rcases hc with hc|hc
  ·go_wp2;go_ret;exact hP.out
  ·first|(have hd:decide (p<0)=true:=decide_eq_true hc)|skip
   go_wp2
   all_goals
    go_ret;exact hP.out
 ·obtain⟨j,rfl⟩:=Int.eq_ofNat_of_zero_le p0;obtain⟨g,o,e1,-,du,⟨pa,pc,py,-⟩,⟨na,nc,env,-⟩⟩:=dQ.out j (by omega);have hx:(ms.map (·.x)).getD ((j:Int)).toNat jB=(ms.getD j bV).x:=ss (·.x) ms bV j;obtain⟨⟨x,pv,nv⟩,hm⟩:∃m,ms.getD j bV=m:=⟨_,rfl⟩;rw[hm] at du py env hx;simp only at py env hx;subst e1;subst py;subst env
  have hr:cZ (ms.map (·.x)) rb 3 i fresh=if (3:Int)=3 then lays (ms.map (·.x)) fresh else if x.fr=true then 142 else if (3:Int)=8 then 0 else if x.wk≠((3:Int)==9) then 144 else if (if (3:Int)=6\/(3:Int)=7 then (x.ns.length:Int) else (x.ps.length:Int))<=i then 71 else 0:=by
   unfold cZ;rw[hp,if_neg (by omega),hx]
  rw[hr];obtain⟨Z,hZ⟩:=au ((if (3:Int)=3 then lays (ms.map (·.x)) fresh else if x.fr=true then 142 else if (3:Int)=8 then 0 else if x.wk≠((3:Int)==9) then 144 else if (if (3:Int)=6\/(3:Int)=7 then (x.ns.length:Int) else (x.ps.length:Int))<=i then 71 else 0:Int));rw[hZ];replace hZ:=af hZ;have o1:=op.out rb W0 aq;rw[hp] at o1;simp only[eF] at du;have q0:=du 0 _ rfl;have q1:=du 1 _ rfl;have q2:=du 2 _ rfl;have q3:=du 3 _ rfl;have q4:=du 4 _ rfl;have q5:=du 5 _ rfl;have q6:=du 6 _ rfl;have q7:=du 7 _ rfl;rw[fj] at q0;have hj:j<ms.length:=by omega
  replace hm:=af hm;clear hr ml hp hx du dQ op p0 p1;have e0:(rb==0)=false:=by simp[s0]
  have ej:decide ((j:Int)<0)=false:=decide_eq_false (by omega);go_in;go_wp2_with fail
  refine o1.mono ?_;rintro e w1 ⟨rfl,c1⟩;clear o1;have o2:=ol.out w1 c1;have y0':=c1.cellAt y0 id;have y1':=c1.cellAt y1 id;have d0':=c1.cellAt d0 id;clear ol q0 q1 q2 q3 q4 q5 q6 q7;go_wp2_with fail
  refine o2.mono ?_;rintro e w2 ⟨rfl,c2⟩;have hP:jO w Z (.returned (vI (lays (ms.map (·.x)) fresh))) w2:=⟨by rw[<-hZ.out];simp,(k0.out.trans c1).trans c2⟩;replace hP:=af hP;clear o2 c2 c1;go_wp2;go_ret;exact hP.out
theorem I5{T:Nat->Prop}{w:aj}{v qv:aC}{ms:List fW}(h:bL T w v ms)(hl:ms.length<=100000)(fresh:Int){i n:Int}{a b:Nat}(ha:a<6)(hb:b<6)(r0 r1 r2 r3 r4 r5:Int) :
 aL prog 156 #[.agg #[v,qv],.agg #[vI r0,vI r1,vI r2,vI r3,vI r4,vI r5],.agg #[vI 4,vI (a:Int),vI (b:Int),vI i,vI n],vI fresh] w (jO w (cZ (ms.map (·.x)) ([r0,r1,r2,r3,r4,r5].getD b 0) 4 i fresh)):=by
 obtain⟨W0,e0,k0,o1,o2,o3⟩:=kS w [v,qv] 92 [vI r0,vI r1,vI r2,vI r3,vI r4,vI r5] 29 [vI 4,vI (a:Int),vI (b:Int),vI i,vI n] 52;obtain⟨y0,y1⟩:=ag.lF o1;obtain⟨d0,d1,d2,d3⟩:=ag.sQ o3;have lU:=fy o2 ha;have jl:=fy o2 hb;have a0:(0:Int)<=(a:Int):=by omega
 have a1:(a:Int)<6:=by omega
 have b0:(0:Int)<=(b:Int):=by omega
 have b1:(b:Int)<6:=by omega
 obtain⟨ra,gz⟩:=au (([r0,r1,r2,r3,r4,r5]:List Int).getD a 0);obtain⟨rb,gZ⟩:=au (([r0,r1,r2,r3,r4,r5]:List Int).getD b 0);rw[gz] at lU;rw[gZ] at jl
 try rw[gz]
 try rw[gZ]
 have h0:=h.calm k0;have op:=af (λs W (c:Calm W0 W)=>dZ (h0.calm c) hl s);have ol:=af (λW (c:Calm W0 W)=>jw (qv:=qv) (h0.calm c) hl fresh);obtain⟨va,vc,rfl,hg⟩:=h0;have dQ:=af hg;replace k0:=af k0;clear h o1 o2 o3 hg gz gZ;obtain⟨s,hs⟩:=au (rb:Int);subst hs;obtain⟨p,hp⟩:=au (gQ (ms.map (·.x)) rb 0);have ml:=fc rb (ms.map (·.x)) 0;rw[hp,List.length_map] at ml;rcases(by omega:(rb=0\/p<0)\/(rb≠0/\0<=p/\p<ms.length)) with hc|⟨s0,p0,p1⟩
 ·have hr:cZ (ms.map (·.x)) rb 4 i fresh=143:=by unfold cZ;rw[hp,if_pos hc]
  rw[hr];have o1:=op.out rb W0 aq;rw[hp] at o1;clear hr ml hp;go_in;go_wp2_with fail
  refine o1.mono ?_;rintro e w1 ⟨rfl,c1⟩;have hP:jO w 143 (.returned (vI 143)) w1:=⟨rfl,k0.out.trans c1⟩;replace hP:=af hP;clear o1 c1;rcases hc with hc|hc
  ·go_wp2;go_ret;exact hP.out
  ·first|(have hd:decide (p<0)=true:=decide_eq_true hc)|skip
   go_wp2
   all_goals
    go_ret;exact hP.out
 ·obtain⟨j,rfl⟩:=Int.eq_ofNat_of_zero_le p0;obtain⟨g,o,e1,-,du,⟨pa,pc,py,-⟩,⟨na,nc,env,-⟩⟩:=dQ.out j (by omega);have hx:(ms.map (·.x)).getD ((j:Int)).toNat jB=(ms.getD j bV).x:=ss (·.x) ms bV j;obtain⟨⟨x,pv,nv⟩,hm⟩:∃m,ms.getD j bV=m:=⟨_,rfl⟩;rw[hm] at du py env hx;simp only at py env hx;subst e1;subst py;subst env
  have hr:cZ (ms.map (·.x)) rb 4 i fresh=if (4:Int)=3 then lays (ms.map (·.x)) fresh else if x.fr=true then 142 else if (4:Int)=8 then 0 else if x.wk≠((4:Int)==9) then 144 else if (if (4:Int)=6\/(4:Int)=7 then (x.ns.length:Int) else (x.ps.length:Int))<=i then 71 else 0:=by
   unfold cZ;rw[hp,if_neg (by omega),hx]
  rw[hr];obtain⟨Z,hZ⟩:=au ((if (4:Int)=3 then lays (ms.map (·.x)) fresh else if x.fr=true then 142 else if (4:Int)=8 then 0 else if x.wk≠((4:Int)==9) then 144 else if (if (4:Int)=6\/(4:Int)=7 then (x.ns.length:Int) else (x.ps.length:Int))<=i then 71 else 0:Int));rw[hZ];replace hZ:=af hZ;have o1:=op.out rb W0 aq;rw[hp] at o1;simp only[eF] at du;have q0:=du 0 _ rfl;have q1:=du 1 _ rfl;have q2:=du 2 _ rfl;have q3:=du 3 _ rfl;have q4:=du 4 _ rfl;have q5:=du 5 _ rfl;have q6:=du 6 _ rfl;have q7:=du 7 _ rfl;rw[fj] at q0;have hj:j<ms.length:=by omega
  replace hm:=af hm;clear hr ml hp hx du dQ op p0 p1;have e0:(rb==0)=false:=by simp[s0]
  have ej:decide ((j:Int)<0)=false:=decide_eq_false (by omega);go_in;go_wp2_with fail
  refine o1.mono ?_;rintro e w1 ⟨rfl,c1⟩;clear o1;clear ol;have kw:=af (k0.out.trans c1);replace q0:=c1.cellAt q0 id;replace q1:=c1.cellAt q1 id;replace q2:=c1.cellAt q2 id;replace q3:=c1.cellAt q3 id;replace q4:=c1.cellAt q4 id;replace q5:=c1.cellAt q5 id;replace q6:=c1.cellAt q6 id;replace q7:=c1.cellAt q7 id;replace y0:=c1.cellAt y0 id;replace d0:=c1.cellAt d0 id;replace d3:=c1.cellAt d3 id;clear d1 d2 lU jl k0 a0 a1 b0 b1 c1
  cases dM:x.fr with
  | true=>
    rw[dM] at q7;have hz:Hid (Z=142):=by show Z=142;rw[<-hZ.out];simp[dM]
    clear dM;go_wp2;go_ret;exact⟨by rw[hz.out];rfl,kw.out.trans (aq.alloc _)⟩
  | false=>
    rw[dM] at q7
    cases iF:x.wk with
    | true=>
      rw[iF] at q3;have hz:Hid (Z=144):=by show Z=144;rw[<-hZ.out];simp[dM,iF]
      clear dM iF;have kA:Calm w1 (w1.alloc (.cells #[vI x.ser,vI x.p,vI x.d,.bool true,.bool x.fn,.slice pa x.ps.length pc,.slice na x.ns.length nc,.bool false] 240)):=aq.alloc _;have CO:=kA.cellAt d0 id;have CP:=kA.cellAt d3 id;go_wp2;go_ret;exact⟨by rw[hz.out];rfl,kw.out.trans (aq.alloc _)⟩
    | false=>
      rw[iF] at q3
      by_cases hp:(x.ps.length:Int)<=i
      ·have hz:Hid (Z=71):=by show Z=71;rw[<-hZ.out];simp[dM,iF,hp]
       have hd:decide (i>=(x.ps.length:Int))=true:=decide_eq_true hp;clear dM iF;have kA:Calm w1 (w1.alloc (.cells #[vI x.ser,vI x.p,vI x.d,.bool false,.bool x.fn,.slice pa x.ps.length pc,.slice na x.ns.length nc,.bool false] 240)):=aq.alloc _;have CO:=kA.cellAt d0 id;have CP:=kA.cellAt d3 id;go_wp2;go_ret;exact⟨by rw[hz.out];rfl,kw.out.trans (aq.alloc _)⟩
      ·have hz:Hid (Z=0):=by show Z=0;rw[<-hZ.out];simp[dM,iF,hp]
       have hd:decide (i>=(x.ps.length:Int))=false:=decide_eq_false hp;clear dM iF;have kA:Calm w1 (w1.alloc (.cells #[vI x.ser,vI x.p,vI x.d,.bool false,.bool x.fn,.slice pa x.ps.length pc,.slice na x.ns.length nc,.bool false] 240)):=aq.alloc _;have CO:=kA.cellAt d0 id;have CP:=kA.cellAt d3 id;go_wp2;go_ret;exact⟨by rw[hz.out];rfl,kw.out.trans (aq.alloc _)⟩
theorem I6{T:Nat->Prop}{w:aj}{v qv:aC}{ms:List fW}(h:bL T w v ms)(hl:ms.length<=100000)(fresh:Int){i n:Int}{a b:Nat}(ha:a<6)(hb:b<6)(r0 r1 r2 r3 r4 r5:Int) :
 aL prog 156 #[.agg #[v,qv],.agg #[vI r0,vI r1,vI r2,vI r3,vI r4,vI r5],.agg #[vI 5,vI (a:Int),vI (b:Int),vI i,vI n],vI fresh] w (jO w (cZ (ms.map (·.x)) ([r0,r1,r2,r3,r4,r5].getD a 0) 5 i fresh)):=by
 obtain⟨W0,e0,k0,o1,o2,o3⟩:=kS w [v,qv] 92 [vI r0,vI r1,vI r2,vI r3,vI r4,vI r5] 29 [vI 5,vI (a:Int),vI (b:Int),vI i,vI n] 52;obtain⟨y0,y1⟩:=ag.lF o1;obtain⟨d0,d1,d2,d3⟩:=ag.sQ o3;have lU:=fy o2 ha;have jl:=fy o2 hb;have a0:(0:Int)<=(a:Int):=by omega
 have a1:(a:Int)<6:=by omega
 have b0:(0:Int)<=(b:Int):=by omega
 have b1:(b:Int)<6:=by omega
 obtain⟨ra,gz⟩:=au (([r0,r1,r2,r3,r4,r5]:List Int).getD a 0);obtain⟨rb,gZ⟩:=au (([r0,r1,r2,r3,r4,r5]:List Int).getD b 0);rw[gz] at lU;rw[gZ] at jl
 try rw[gz]
 try rw[gZ]
 have h0:=h.calm k0;have op:=af (λs W (c:Calm W0 W)=>dZ (h0.calm c) hl s);have ol:=af (λW (c:Calm W0 W)=>jw (qv:=qv) (h0.calm c) hl fresh);obtain⟨va,vc,rfl,hg⟩:=h0;have dQ:=af hg;replace k0:=af k0;clear h o1 o2 o3 hg gz gZ;obtain⟨s,hs⟩:=au (ra:Int);subst hs;obtain⟨p,hp⟩:=au (gQ (ms.map (·.x)) ra 0);have ml:=fc ra (ms.map (·.x)) 0;rw[hp,List.length_map] at ml;rcases(by omega:(ra=0\/p<0)\/(ra≠0/\0<=p/\p<ms.length)) with hc|⟨s0,p0,p1⟩
 ·have hr:cZ (ms.map (·.x)) ra 5 i fresh=143:=by unfold cZ;rw[hp,if_pos hc]
  rw[hr];have o1:=op.out ra W0 aq;rw[hp] at o1;clear hr ml hp;go_in;go_wp2_with fail
  refine o1.mono ?_;rintro e w1 ⟨rfl,c1⟩;have hP:jO w 143 (.returned (vI 143)) w1:=⟨rfl,k0.out.trans c1⟩;replace hP:=af hP;clear o1 c1;rcases hc with hc|hc
  ·go_wp2;go_ret;exact hP.out
  ·first|(have hd:decide (p<0)=true:=decide_eq_true hc)|skip
   go_wp2
   all_goals
    go_ret;exact hP.out
 ·obtain⟨j,rfl⟩:=Int.eq_ofNat_of_zero_le p0;obtain⟨g,o,e1,-,du,⟨pa,pc,py,-⟩,⟨na,nc,env,-⟩⟩:=dQ.out j (by omega);have hx:(ms.map (·.x)).getD ((j:Int)).toNat jB=(ms.getD j bV).x:=ss (·.x) ms bV j;obtain⟨⟨x,pv,nv⟩,hm⟩:∃m,ms.getD j bV=m:=⟨_,rfl⟩;rw[hm] at du py env hx;simp only at py env hx;subst e1;subst py;subst env
  have hr:cZ (ms.map (·.x)) ra 5 i fresh=if (5:Int)=3 then lays (ms.map (·.x)) fresh else if x.fr=true then 142 else if (5:Int)=8 then 0 else if x.wk≠((5:Int)==9) then 144 else if (if (5:Int)=6\/(5:Int)=7 then (x.ns.length:Int) else (x.ps.length:Int))<=i then 71 else 0:=by
   unfold cZ;rw[hp,if_neg (by omega),hx]
  rw[hr];obtain⟨Z,hZ⟩:=au ((if (5:Int)=3 then lays (ms.map (·.x)) fresh else if x.fr=true then 142 else if (5:Int)=8 then 0 else if x.wk≠((5:Int)==9) then 144 else if (if (5:Int)=6\/(5:Int)=7 then (x.ns.length:Int) else (x.ps.length:Int))<=i then 71 else 0:Int));rw[hZ];replace hZ:=af hZ;have o1:=op.out ra W0 aq;rw[hp] at o1;simp only[eF] at du;have q0:=du 0 _ rfl;have q1:=du 1 _ rfl;have q2:=du 2 _ rfl;have q3:=du 3 _ rfl;have q4:=du 4 _ rfl;have q5:=du 5 _ rfl;have q6:=du 6 _ rfl;have q7:=du 7 _ rfl;rw[fj] at q0;have hj:j<ms.length:=by omega
  replace hm:=af hm;clear hr ml hp hx du dQ op p0 p1;have e0:(ra==0)=false:=by simp[s0]
  have ej:decide ((j:Int)<0)=false:=decide_eq_false (by omega);go_in;go_wp2_with fail
  refine o1.mono ?_;rintro e w1 ⟨rfl,c1⟩;clear o1;clear ol;have kw:=af (k0.out.trans c1);replace q0:=c1.cellAt q0 id;replace q1:=c1.cellAt q1 id;replace q2:=c1.cellAt q2 id;replace q3:=c1.cellAt q3 id;replace q4:=c1.cellAt q4 id;replace q5:=c1.cellAt q5 id;replace q6:=c1.cellAt q6 id;replace q7:=c1.cellAt q7 id;replace y0:=c1.cellAt y0 id;replace d0:=c1.cellAt d0 id;replace d3:=c1.cellAt d3 id;clear d1 d2 lU jl k0 a0 a1 b0 b1 c1
  cases dM:x.fr with
  | true=>
    rw[dM] at q7;have hz:Hid (Z=142):=by show Z=142;rw[<-hZ.out];simp[dM]
    clear dM;go_wp2;go_ret;exact⟨by rw[hz.out];rfl,kw.out.trans (aq.alloc _)⟩
  | false=>
    rw[dM] at q7
    cases iF:x.wk with
    | true=>
      rw[iF] at q3;have hz:Hid (Z=144):=by show Z=144;rw[<-hZ.out];simp[dM,iF]
      clear dM iF;have kA:Calm w1 (w1.alloc (.cells #[vI x.ser,vI x.p,vI x.d,.bool true,.bool x.fn,.slice pa x.ps.length pc,.slice na x.ns.length nc,.bool false] 240)):=aq.alloc _;have CO:=kA.cellAt d0 id;have CP:=kA.cellAt d3 id;go_wp2;go_ret;exact⟨by rw[hz.out];rfl,kw.out.trans (aq.alloc _)⟩
    | false=>
      rw[iF] at q3
      by_cases hp:(x.ps.length:Int)<=i
      ·have hz:Hid (Z=71):=by show Z=71;rw[<-hZ.out];simp[dM,iF,hp]
       have hd:decide (i>=(x.ps.length:Int))=true:=decide_eq_true hp;clear dM iF;have kA:Calm w1 (w1.alloc (.cells #[vI x.ser,vI x.p,vI x.d,.bool false,.bool x.fn,.slice pa x.ps.length pc,.slice na x.ns.length nc,.bool false] 240)):=aq.alloc _;have CO:=kA.cellAt d0 id;have CP:=kA.cellAt d3 id;go_wp2;go_ret;exact⟨by rw[hz.out];rfl,kw.out.trans (aq.alloc _)⟩
      ·have hz:Hid (Z=0):=by show Z=0;rw[<-hZ.out];simp[dM,iF,hp]
       have hd:decide (i>=(x.ps.length:Int))=false:=decide_eq_false hp;clear dM iF;have kA:Calm w1 (w1.alloc (.cells #[vI x.ser,vI x.p,vI x.d,.bool false,.bool x.fn,.slice pa x.ps.length pc,.slice na x.ns.length nc,.bool false] 240)):=aq.alloc _;have CO:=kA.cellAt d0 id;have CP:=kA.cellAt d3 id;go_wp2;go_ret;exact⟨by rw[hz.out];rfl,kw.out.trans (aq.alloc _)⟩
theorem I7{T:Nat->Prop}{w:aj}{v qv:aC}{ms:List fW}(h:bL T w v ms)(hl:ms.length<=100000)(fresh:Int){i n:Int}{a b:Nat}(ha:a<6)(hb:b<6)(r0 r1 r2 r3 r4 r5:Int) :
 aL prog 156 #[.agg #[v,qv],.agg #[vI r0,vI r1,vI r2,vI r3,vI r4,vI r5],.agg #[vI 6,vI (a:Int),vI (b:Int),vI i,vI n],vI fresh] w (jO w (cZ (ms.map (·.x)) ([r0,r1,r2,r3,r4,r5].getD a 0) 6 i fresh)):=by
 obtain⟨W0,e0,k0,o1,o2,o3⟩:=kS w [v,qv] 92 [vI r0,vI r1,vI r2,vI r3,vI r4,vI r5] 29 [vI 6,vI (a:Int),vI (b:Int),vI i,vI n] 52;obtain⟨y0,y1⟩:=ag.lF o1;obtain⟨d0,d1,d2,d3⟩:=ag.sQ o3;have lU:=fy o2 ha;have jl:=fy o2 hb;have a0:(0:Int)<=(a:Int):=by omega
 have a1:(a:Int)<6:=by omega
 have b0:(0:Int)<=(b:Int):=by omega
 have b1:(b:Int)<6:=by omega
 obtain⟨ra,gz⟩:=au (([r0,r1,r2,r3,r4,r5]:List Int).getD a 0);obtain⟨rb,gZ⟩:=au (([r0,r1,r2,r3,r4,r5]:List Int).getD b 0);rw[gz] at lU;rw[gZ] at jl
 try rw[gz]
 try rw[gZ]
 have h0:=h.calm k0;have op:=af (λs W (c:Calm W0 W)=>dZ (h0.calm c) hl s);have ol:=af (λW (c:Calm W0 W)=>jw (qv:=qv) (h0.calm c) hl fresh);obtain⟨va,vc,rfl,hg⟩:=h0;have dQ:=af hg;replace k0:=af k0;clear h o1 o2 o3 hg gz gZ;obtain⟨s,hs⟩:=au (ra:Int);subst hs;obtain⟨p,hp⟩:=au (gQ (ms.map (·.x)) ra 0);have ml:=fc ra (ms.map (·.x)) 0;rw[hp,List.length_map] at ml;rcases(by omega:(ra=0\/p<0)\/(ra≠0/\0<=p/\p<ms.length)) with hc|⟨s0,p0,p1⟩
 ·have hr:cZ (ms.map (·.x)) ra 6 i fresh=143:=by unfold cZ;rw[hp,if_pos hc]
  rw[hr];have o1:=op.out ra W0 aq;rw[hp] at o1;clear hr ml hp;go_in;go_wp2_with fail
  refine o1.mono ?_;rintro e w1 ⟨rfl,c1⟩;have hP:jO w 143 (.returned (vI 143)) w1:=⟨rfl,k0.out.trans c1⟩;replace hP:=af hP;clear o1 c1;rcases hc with hc|hc
  ·go_wp2;go_ret;exact hP.out
  ·first|(have hd:decide (p<0)=true:=decide_eq_true hc)|skip
   go_wp2
   all_goals
    go_ret;exact hP.out
 ·obtain⟨j,rfl⟩:=Int.eq_ofNat_of_zero_le p0;obtain⟨g,o,e1,-,du,⟨pa,pc,py,-⟩,⟨na,nc,env,-⟩⟩:=dQ.out j (by omega);have hx:(ms.map (·.x)).getD ((j:Int)).toNat jB=(ms.getD j bV).x:=ss (·.x) ms bV j;obtain⟨⟨x,pv,nv⟩,hm⟩:∃m,ms.getD j bV=m:=⟨_,rfl⟩;rw[hm] at du py env hx;simp only at py env hx;subst e1;subst py;subst env
  have hr:cZ (ms.map (·.x)) ra 6 i fresh=if (6:Int)=3 then lays (ms.map (·.x)) fresh else if x.fr=true then 142 else if (6:Int)=8 then 0 else if x.wk≠((6:Int)==9) then 144 else if (if (6:Int)=6\/(6:Int)=7 then (x.ns.length:Int) else (x.ps.length:Int))<=i then 71 else 0:=by
   unfold cZ;rw[hp,if_neg (by omega),hx]
  rw[hr];obtain⟨Z,hZ⟩:=au ((if (6:Int)=3 then lays (ms.map (·.x)) fresh else if x.fr=true then 142 else if (6:Int)=8 then 0 else if x.wk≠((6:Int)==9) then 144 else if (if (6:Int)=6\/(6:Int)=7 then (x.ns.length:Int) else (x.ps.length:Int))<=i then 71 else 0:Int));rw[hZ];replace hZ:=af hZ;have o1:=op.out ra W0 aq;rw[hp] at o1;simp only[eF] at du;have q0:=du 0 _ rfl;have q1:=du 1 _ rfl;have q2:=du 2 _ rfl;have q3:=du 3 _ rfl;have q4:=du 4 _ rfl;have q5:=du 5 _ rfl;have q6:=du 6 _ rfl;have q7:=du 7 _ rfl;rw[fj] at q0;have hj:j<ms.length:=by omega
  replace hm:=af hm;clear hr ml hp hx du dQ op p0 p1;have e0:(ra==0)=false:=by simp[s0]
  have ej:decide ((j:Int)<0)=false:=decide_eq_false (by omega);go_in;go_wp2_with fail
  refine o1.mono ?_;rintro e w1 ⟨rfl,c1⟩;clear o1;clear ol;have kw:=af (k0.out.trans c1);replace q0:=c1.cellAt q0 id;replace q1:=c1.cellAt q1 id;replace q2:=c1.cellAt q2 id;replace q3:=c1.cellAt q3 id;replace q4:=c1.cellAt q4 id;replace q5:=c1.cellAt q5 id;replace q6:=c1.cellAt q6 id;replace q7:=c1.cellAt q7 id;replace y0:=c1.cellAt y0 id;replace d0:=c1.cellAt d0 id;replace d3:=c1.cellAt d3 id;clear d1 d2 lU jl k0 a0 a1 b0 b1 c1
  cases dM:x.fr with
  | true=>
    rw[dM] at q7;have hz:Hid (Z=142):=by show Z=142;rw[<-hZ.out];simp[dM]
    clear dM;go_wp2;go_ret;exact⟨by rw[hz.out];rfl,kw.out.trans (aq.alloc _)⟩
  | false=>
    rw[dM] at q7
    cases iF:x.wk with
    | true=>
      rw[iF] at q3;have hz:Hid (Z=144):=by show Z=144;rw[<-hZ.out];simp[dM,iF]
      clear dM iF;have kA:Calm w1 (w1.alloc (.cells #[vI x.ser,vI x.p,vI x.d,.bool true,.bool x.fn,.slice pa x.ps.length pc,.slice na x.ns.length nc,.bool false] 240)):=aq.alloc _;have CO:=kA.cellAt d0 id;have CP:=kA.cellAt d3 id;go_wp2;go_ret;exact⟨by rw[hz.out];rfl,kw.out.trans (aq.alloc _)⟩
    | false=>
      rw[iF] at q3
      by_cases hp:(x.ns.length:Int)<=i
      ·have hz:Hid (Z=71):=by show Z=71;rw[<-hZ.out];simp[dM,iF,hp]
       have hd:decide (i>=(x.ns.length:Int))=true:=decide_eq_true hp;clear dM iF;have kA:Calm w1 (w1.alloc (.cells #[vI x.ser,vI x.p,vI x.d,.bool false,.bool x.fn,.slice pa x.ps.length pc,.slice na x.ns.length nc,.bool false] 240)):=aq.alloc _;have CO:=kA.cellAt d0 id;have CP:=kA.cellAt d3 id;go_wp2;go_ret;exact⟨by rw[hz.out];rfl,kw.out.trans (aq.alloc _)⟩
      ·have hz:Hid (Z=0):=by show Z=0;rw[<-hZ.out];simp[dM,iF,hp]
       have hd:decide (i>=(x.ns.length:Int))=false:=decide_eq_false hp;clear dM iF;have kA:Calm w1 (w1.alloc (.cells #[vI x.ser,vI x.p,vI x.d,.bool false,.bool x.fn,.slice pa x.ps.length pc,.slice na x.ns.length nc,.bool false] 240)):=aq.alloc _;have CO:=kA.cellAt d0 id;have CP:=kA.cellAt d3 id;go_wp2;go_ret;exact⟨by rw[hz.out];rfl,kw.out.trans (aq.alloc _)⟩
theorem I8{T:Nat->Prop}{w:aj}{v qv:aC}{ms:List fW}(h:bL T w v ms)(hl:ms.length<=100000)(fresh:Int){i n:Int}{a b:Nat}(ha:a<6)(hb:b<6)(r0 r1 r2 r3 r4 r5:Int) :
 aL prog 156 #[.agg #[v,qv],.agg #[vI r0,vI r1,vI r2,vI r3,vI r4,vI r5],.agg #[vI 7,vI (a:Int),vI (b:Int),vI i,vI n],vI fresh] w (jO w (cZ (ms.map (·.x)) ([r0,r1,r2,r3,r4,r5].getD a 0) 7 i fresh)):=by
 obtain⟨W0,e0,k0,o1,o2,o3⟩:=kS w [v,qv] 92 [vI r0,vI r1,vI r2,vI r3,vI r4,vI r5] 29 [vI 7,vI (a:Int),vI (b:Int),vI i,vI n] 52;obtain⟨y0,y1⟩:=ag.lF o1;obtain⟨d0,d1,d2,d3⟩:=ag.sQ o3;have lU:=fy o2 ha;have jl:=fy o2 hb;have a0:(0:Int)<=(a:Int):=by omega
 have a1:(a:Int)<6:=by omega
 have b0:(0:Int)<=(b:Int):=by omega
 have b1:(b:Int)<6:=by omega
 obtain⟨ra,gz⟩:=au (([r0,r1,r2,r3,r4,r5]:List Int).getD a 0);obtain⟨rb,gZ⟩:=au (([r0,r1,r2,r3,r4,r5]:List Int).getD b 0);rw[gz] at lU;rw[gZ] at jl
 try rw[gz]
 try rw[gZ]
 have h0:=h.calm k0;have op:=af (λs W (c:Calm W0 W)=>dZ (h0.calm c) hl s);have ol:=af (λW (c:Calm W0 W)=>jw (qv:=qv) (h0.calm c) hl fresh);obtain⟨va,vc,rfl,hg⟩:=h0;have dQ:=af hg;replace k0:=af k0;clear h o1 o2 o3 hg gz gZ;obtain⟨s,hs⟩:=au (ra:Int);subst hs;obtain⟨p,hp⟩:=au (gQ (ms.map (·.x)) ra 0);have ml:=fc ra (ms.map (·.x)) 0;rw[hp,List.length_map] at ml;rcases(by omega:(ra=0\/p<0)\/(ra≠0/\0<=p/\p<ms.length)) with hc|⟨s0,p0,p1⟩
 ·have hr:cZ (ms.map (·.x)) ra 7 i fresh=143:=by unfold cZ;rw[hp,if_pos hc]
  rw[hr];have o1:=op.out ra W0 aq;rw[hp] at o1;clear hr ml hp;go_in;go_wp2_with fail
  refine o1.mono ?_;rintro e w1 ⟨rfl,c1⟩;have hP:jO w 143 (.returned (vI 143)) w1:=⟨rfl,k0.out.trans c1⟩;replace hP:=af hP;clear o1 c1;rcases hc with hc|hc
  ·go_wp2;go_ret;exact hP.out
  ·first|(have hd:decide (p<0)=true:=decide_eq_true hc)|skip
   go_wp2
   all_goals
    go_ret;exact hP.out
 ·obtain⟨j,rfl⟩:=Int.eq_ofNat_of_zero_le p0;obtain⟨g,o,e1,-,du,⟨pa,pc,py,-⟩,⟨na,nc,env,-⟩⟩:=dQ.out j (by omega);have hx:(ms.map (·.x)).getD ((j:Int)).toNat jB=(ms.getD j bV).x:=ss (·.x) ms bV j;obtain⟨⟨x,pv,nv⟩,hm⟩:∃m,ms.getD j bV=m:=⟨_,rfl⟩;rw[hm] at du py env hx;simp only at py env hx;subst e1;subst py;subst env
  have hr:cZ (ms.map (·.x)) ra 7 i fresh=if (7:Int)=3 then lays (ms.map (·.x)) fresh else if x.fr=true then 142 else if (7:Int)=8 then 0 else if x.wk≠((7:Int)==9) then 144 else if (if (7:Int)=6\/(7:Int)=7 then (x.ns.length:Int) else (x.ps.length:Int))<=i then 71 else 0:=by
   unfold cZ;rw[hp,if_neg (by omega),hx]
  rw[hr];obtain⟨Z,hZ⟩:=au ((if (7:Int)=3 then lays (ms.map (·.x)) fresh else if x.fr=true then 142 else if (7:Int)=8 then 0 else if x.wk≠((7:Int)==9) then 144 else if (if (7:Int)=6\/(7:Int)=7 then (x.ns.length:Int) else (x.ps.length:Int))<=i then 71 else 0:Int));rw[hZ];replace hZ:=af hZ;have o1:=op.out ra W0 aq;rw[hp] at o1;simp only[eF] at du;have q0:=du 0 _ rfl;have q1:=du 1 _ rfl;have q2:=du 2 _ rfl;have q3:=du 3 _ rfl;have q4:=du 4 _ rfl;have q5:=du 5 _ rfl;have q6:=du 6 _ rfl;have q7:=du 7 _ rfl;rw[fj] at q0;have hj:j<ms.length:=by omega
  replace hm:=af hm;clear hr ml hp hx du dQ op p0 p1;have e0:(ra==0)=false:=by simp[s0]
  have ej:decide ((j:Int)<0)=false:=decide_eq_false (by omega);go_in;go_wp2_with fail
  refine o1.mono ?_;rintro e w1 ⟨rfl,c1⟩;clear o1;clear ol;have kw:=af (k0.out.trans c1);replace q0:=c1.cellAt q0 id;replace q1:=c1.cellAt q1 id;replace q2:=c1.cellAt q2 id;replace q3:=c1.cellAt q3 id;replace q4:=c1.cellAt q4 id;replace q5:=c1.cellAt q5 id;replace q6:=c1.cellAt q6 id;replace q7:=c1.cellAt q7 id;replace y0:=c1.cellAt y0 id;replace d0:=c1.cellAt d0 id;replace d3:=c1.cellAt d3 id;clear d1 d2 lU jl k0 a0 a1 b0 b1 c1
  cases dM:x.fr with
  | true=>
    rw[dM] at q7;have hz:Hid (Z=142):=by show Z=142;rw[<-hZ.out];simp[dM]
    clear dM;go_wp2;go_ret;exact⟨by rw[hz.out];rfl,kw.out.trans (aq.alloc _)⟩
  | false=>
    rw[dM] at q7
    cases iF:x.wk with
    | true=>
      rw[iF] at q3;have hz:Hid (Z=144):=by show Z=144;rw[<-hZ.out];simp[dM,iF]
      clear dM iF;have kA:Calm w1 (w1.alloc (.cells #[vI x.ser,vI x.p,vI x.d,.bool true,.bool x.fn,.slice pa x.ps.length pc,.slice na x.ns.length nc,.bool false] 240)):=aq.alloc _;have CO:=kA.cellAt d0 id;have CP:=kA.cellAt d3 id;go_wp2;go_ret;exact⟨by rw[hz.out];rfl,kw.out.trans (aq.alloc _)⟩
    | false=>
      rw[iF] at q3
      by_cases hp:(x.ns.length:Int)<=i
      ·have hz:Hid (Z=71):=by show Z=71;rw[<-hZ.out];simp[dM,iF,hp]
       have hd:decide (i>=(x.ns.length:Int))=true:=decide_eq_true hp;clear dM iF;have kA:Calm w1 (w1.alloc (.cells #[vI x.ser,vI x.p,vI x.d,.bool false,.bool x.fn,.slice pa x.ps.length pc,.slice na x.ns.length nc,.bool false] 240)):=aq.alloc _;have CO:=kA.cellAt d0 id;have CP:=kA.cellAt d3 id;go_wp2;go_ret;exact⟨by rw[hz.out];rfl,kw.out.trans (aq.alloc _)⟩
      ·have hz:Hid (Z=0):=by show Z=0;rw[<-hZ.out];simp[dM,iF,hp]
       have hd:decide (i>=(x.ns.length:Int))=false:=decide_eq_false hp;clear dM iF;have kA:Calm w1 (w1.alloc (.cells #[vI x.ser,vI x.p,vI x.d,.bool false,.bool x.fn,.slice pa x.ps.length pc,.slice na x.ns.length nc,.bool false] 240)):=aq.alloc _;have CO:=kA.cellAt d0 id;have CP:=kA.cellAt d3 id;go_wp2;go_ret;exact⟨by rw[hz.out];rfl,kw.out.trans (aq.alloc _)⟩
theorem I9{T:Nat->Prop}{w:aj}{v qv:aC}{ms:List fW}(h:bL T w v ms)(hl:ms.length<=100000)(fresh:Int){i n:Int}{a b:Nat}(ha:a<6)(hb:b<6)(r0 r1 r2 r3 r4 r5:Int) :
 aL prog 156 #[.agg #[v,qv],.agg #[vI r0,vI r1,vI r2,vI r3,vI r4,vI r5],.agg #[vI 8,vI (a:Int),vI (b:Int),vI i,vI n],vI fresh] w (jO w (cZ (ms.map (·.x)) ([r0,r1,r2,r3,r4,r5].getD a 0) 8 i fresh)):=by
 obtain⟨W0,e0,k0,o1,o2,o3⟩:=kS w [v,qv] 92 [vI r0,vI r1,vI r2,vI r3,vI r4,vI r5] 29 [vI 8,vI (a:Int),vI (b:Int),vI i,vI n] 52;obtain⟨y0,y1⟩:=ag.lF o1;obtain⟨d0,d1,d2,d3⟩:=ag.sQ o3;have lU:=fy o2 ha;have jl:=fy o2 hb;have a0:(0:Int)<=(a:Int):=by omega
 have a1:(a:Int)<6:=by omega
 have b0:(0:Int)<=(b:Int):=by omega
 have b1:(b:Int)<6:=by omega
 obtain⟨ra,gz⟩:=au (([r0,r1,r2,r3,r4,r5]:List Int).getD a 0);obtain⟨rb,gZ⟩:=au (([r0,r1,r2,r3,r4,r5]:List Int).getD b 0);rw[gz] at lU;rw[gZ] at jl
 try rw[gz]
 try rw[gZ]
 have h0:=h.calm k0;have op:=af (λs W (c:Calm W0 W)=>dZ (h0.calm c) hl s);have ol:=af (λW (c:Calm W0 W)=>jw (qv:=qv) (h0.calm c) hl fresh);obtain⟨va,vc,rfl,hg⟩:=h0;have dQ:=af hg;replace k0:=af k0;clear h o1 o2 o3 hg gz gZ;obtain⟨s,hs⟩:=au (ra:Int);subst hs;obtain⟨p,hp⟩:=au (gQ (ms.map (·.x)) ra 0);have ml:=fc ra (ms.map (·.x)) 0;rw[hp,List.length_map] at ml;rcases(by omega:(ra=0\/p<0)\/(ra≠0/\0<=p/\p<ms.length)) with hc|⟨s0,p0,p1⟩
 ·have hr:cZ (ms.map (·.x)) ra 8 i fresh=143:=by unfold cZ;rw[hp,if_pos hc]
  rw[hr];have o1:=op.out ra W0 aq;rw[hp] at o1;clear hr ml hp;go_in;go_wp2_with fail
  refine o1.mono ?_;rintro e w1 ⟨rfl,c1⟩;have hP:jO w 143 (.returned (vI 143)) w1:=⟨rfl,k0.out.trans c1⟩;replace hP:=af hP;clear o1 c1;rcases hc with hc|hc
  ·go_wp2;go_ret;exact hP.out
  ·first|(have hd:decide (p<0)=true:=decide_eq_true hc)|skip
   go_wp2
   all_goals
    go_ret;exact hP.out
 ·obtain⟨j,rfl⟩:=Int.eq_ofNat_of_zero_le p0;obtain⟨g,o,e1,-,du,⟨pa,pc,py,-⟩,⟨na,nc,env,-⟩⟩:=dQ.out j (by omega);have hx:(ms.map (·.x)).getD ((j:Int)).toNat jB=(ms.getD j bV).x:=ss (·.x) ms bV j;obtain⟨⟨x,pv,nv⟩,hm⟩:∃m,ms.getD j bV=m:=⟨_,rfl⟩;rw[hm] at du py env hx;simp only at py env hx;subst e1;subst py;subst env
  have hr:cZ (ms.map (·.x)) ra 8 i fresh=if (8:Int)=3 then lays (ms.map (·.x)) fresh else if x.fr=true then 142 else if (8:Int)=8 then 0 else if x.wk≠((8:Int)==9) then 144 else if (if (8:Int)=6\/(8:Int)=7 then (x.ns.length:Int) else (x.ps.length:Int))<=i then 71 else 0:=by
   unfold cZ;rw[hp,if_neg (by omega),hx]
  rw[hr];obtain⟨Z,hZ⟩:=au ((if (8:Int)=3 then lays (ms.map (·.x)) fresh else if x.fr=true then 142 else if (8:Int)=8 then 0 else if x.wk≠((8:Int)==9) then 144 else if (if (8:Int)=6\/(8:Int)=7 then (x.ns.length:Int) else (x.ps.length:Int))<=i then 71 else 0:Int));rw[hZ];replace hZ:=af hZ;have o1:=op.out ra W0 aq;rw[hp] at o1;simp only[eF] at du;have q0:=du 0 _ rfl;have q1:=du 1 _ rfl;have q2:=du 2 _ rfl;have q3:=du 3 _ rfl;have q4:=du 4 _ rfl;have q5:=du 5 _ rfl;have q6:=du 6 _ rfl;have q7:=du 7 _ rfl;rw[fj] at q0;have hj:j<ms.length:=by omega
  replace hm:=af hm;clear hr ml hp hx du dQ op p0 p1;have e0:(ra==0)=false:=by simp[s0]
  have ej:decide ((j:Int)<0)=false:=decide_eq_false (by omega);go_in;go_wp2_with fail
  refine o1.mono ?_;rintro e w1 ⟨rfl,c1⟩;clear o1;clear ol;have kw:=af (k0.out.trans c1);replace q0:=c1.cellAt q0 id;replace q1:=c1.cellAt q1 id;replace q2:=c1.cellAt q2 id;replace q3:=c1.cellAt q3 id;replace q4:=c1.cellAt q4 id;replace q5:=c1.cellAt q5 id;replace q6:=c1.cellAt q6 id;replace q7:=c1.cellAt q7 id;replace y0:=c1.cellAt y0 id;replace d0:=c1.cellAt d0 id;replace d3:=c1.cellAt d3 id;clear d1 d2 lU jl k0 a0 a1 b0 b1 c1
  cases dM:x.fr with
  | true=>
    rw[dM] at q7;have hz:Hid (Z=142):=by show Z=142;rw[<-hZ.out];simp[dM]
    clear dM;go_wp2;go_ret;exact⟨by rw[hz.out];rfl,kw.out.trans (aq.alloc _)⟩
  | false=>
    rw[dM] at q7;have hz:Hid (Z=0):=by show Z=0;rw[<-hZ.out];simp[dM]
    clear dM;have kA:Calm w1 (w1.alloc (.cells #[vI x.ser,vI x.p,vI x.d,.bool x.wk,.bool x.fn,.slice pa x.ps.length pc,.slice na x.ns.length nc,.bool false] 240)):=aq.alloc _;have CO:=kA.cellAt d0 id;have CP:=kA.cellAt d3 id;go_wp2;go_ret;exact⟨by rw[hz.out];rfl,kw.out.trans (aq.alloc _)⟩
theorem I_{T:Nat->Prop}{w:aj}{v qv:aC}{ms:List fW}(h:bL T w v ms)(hl:ms.length<=100000)(fresh:Int){i n:Int}{a b:Nat}(ha:a<6)(hb:b<6)(r0 r1 r2 r3 r4 r5:Int) :
 aL prog 156 #[.agg #[v,qv],.agg #[vI r0,vI r1,vI r2,vI r3,vI r4,vI r5],.agg #[vI 9,vI (a:Int),vI (b:Int),vI i,vI n],vI fresh] w (jO w (cZ (ms.map (·.x)) ([r0,r1,r2,r3,r4,r5].getD b 0) 9 i fresh)):=by
 obtain⟨W0,e0,k0,o1,o2,o3⟩:=kS w [v,qv] 92 [vI r0,vI r1,vI r2,vI r3,vI r4,vI r5] 29 [vI 9,vI (a:Int),vI (b:Int),vI i,vI n] 52;obtain⟨y0,y1⟩:=ag.lF o1;obtain⟨d0,d1,d2,d3⟩:=ag.sQ o3;have lU:=fy o2 ha;have jl:=fy o2 hb;have a0:(0:Int)<=(a:Int):=by omega
 have a1:(a:Int)<6:=by omega
 have b0:(0:Int)<=(b:Int):=by omega
 have b1:(b:Int)<6:=by omega
 obtain⟨ra,gz⟩:=au (([r0,r1,r2,r3,r4,r5]:List Int).getD a 0);obtain⟨rb,gZ⟩:=au (([r0,r1,r2,r3,r4,r5]:List Int).getD b 0);rw[gz] at lU;rw[gZ] at jl
 try rw[gz]
 try rw[gZ]
 have h0:=h.calm k0;have op:=af (λs W (c:Calm W0 W)=>dZ (h0.calm c) hl s);have ol:=af (λW (c:Calm W0 W)=>jw (qv:=qv) (h0.calm c) hl fresh);obtain⟨va,vc,rfl,hg⟩:=h0;have dQ:=af hg;replace k0:=af k0;clear h o1 o2 o3 hg gz gZ;obtain⟨s,hs⟩:=au (rb:Int);subst hs;obtain⟨p,hp⟩:=au (gQ (ms.map (·.x)) rb 0);have ml:=fc rb (ms.map (·.x)) 0;rw[hp,List.length_map] at ml;rcases(by omega:(rb=0\/p<0)\/(rb≠0/\0<=p/\p<ms.length)) with hc|⟨s0,p0,p1⟩
 ·have hr:cZ (ms.map (·.x)) rb 9 i fresh=143:=by unfold cZ;rw[hp,if_pos hc]
  rw[hr];have o1:=op.out rb W0 aq;rw[hp] at o1;clear hr ml hp;go_in;go_wp2_with fail
  refine o1.mono ?_;rintro e w1 ⟨rfl,c1⟩;have hP:jO w 143 (.returned (vI 143)) w1:=⟨rfl,k0.out.trans c1⟩;replace hP:=af hP;clear o1 c1;rcases hc with hc|hc
  ·go_wp2;go_ret;exact hP.out
  ·first|(have hd:decide (p<0)=true:=decide_eq_true hc)|skip
   go_wp2
   all_goals
    go_ret;exact hP.out
 ·obtain⟨j,rfl⟩:=Int.eq_ofNat_of_zero_le p0;obtain⟨g,o,e1,-,du,⟨pa,pc,py,-⟩,⟨na,nc,env,-⟩⟩:=dQ.out j (by omega);have hx:(ms.map (·.x)).getD ((j:Int)).toNat jB=(ms.getD j bV).x:=ss (·.x) ms bV j;obtain⟨⟨x,pv,nv⟩,hm⟩:∃m,ms.getD j bV=m:=⟨_,rfl⟩;rw[hm] at du py env hx;simp only at py env hx;subst e1;subst py;subst env
  have hr:cZ (ms.map (·.x)) rb 9 i fresh=if (9:Int)=3 then lays (ms.map (·.x)) fresh else if x.fr=true then 142 else if (9:Int)=8 then 0 else if x.wk≠((9:Int)==9) then 144 else if (if (9:Int)=6\/(9:Int)=7 then (x.ns.length:Int) else (x.ps.length:Int))<=i then 71 else 0:=by
   unfold cZ;rw[hp,if_neg (by omega),hx]
  rw[hr];obtain⟨Z,hZ⟩:=au ((if (9:Int)=3 then lays (ms.map (·.x)) fresh else if x.fr=true then 142 else if (9:Int)=8 then 0 else if x.wk≠((9:Int)==9) then 144 else if (if (9:Int)=6\/(9:Int)=7 then (x.ns.length:Int) else (x.ps.length:Int))<=i then 71 else 0:Int));rw[hZ];replace hZ:=af hZ;have o1:=op.out rb W0 aq;rw[hp] at o1;simp only[eF] at du;have q0:=du 0 _ rfl;have q1:=du 1 _ rfl;have q2:=du 2 _ rfl;have q3:=du 3 _ rfl;have q4:=du 4 _ rfl;have q5:=du 5 _ rfl;have q6:=du 6 _ rfl;have q7:=du 7 _ rfl;rw[fj] at q0;have hj:j<ms.length:=by omega
  replace hm:=af hm;clear hr ml hp hx du dQ op p0 p1;have e0:(rb==0)=false:=by simp[s0]
  have ej:decide ((j:Int)<0)=false:=decide_eq_false (by omega);go_in;go_wp2_with fail
  refine o1.mono ?_;rintro e w1 ⟨rfl,c1⟩;clear o1;clear ol;have kw:=af (k0.out.trans c1);replace q0:=c1.cellAt q0 id;replace q1:=c1.cellAt q1 id;replace q2:=c1.cellAt q2 id;replace q3:=c1.cellAt q3 id;replace q4:=c1.cellAt q4 id;replace q5:=c1.cellAt q5 id;replace q6:=c1.cellAt q6 id;replace q7:=c1.cellAt q7 id;replace y0:=c1.cellAt y0 id;replace d0:=c1.cellAt d0 id;replace d3:=c1.cellAt d3 id;clear d1 d2 lU jl k0 a0 a1 b0 b1 c1
  cases dM:x.fr with
  | true=>
    rw[dM] at q7;have hz:Hid (Z=142):=by show Z=142;rw[<-hZ.out];simp[dM]
    clear dM;go_wp2;go_ret;exact⟨by rw[hz.out];rfl,kw.out.trans (aq.alloc _)⟩
  | false=>
    rw[dM] at q7
    cases iF:x.wk with
    | false=>
      rw[iF] at q3;have hz:Hid (Z=144):=by show Z=144;rw[<-hZ.out];simp[dM,iF]
      clear dM iF;have kA:Calm w1 (w1.alloc (.cells #[vI x.ser,vI x.p,vI x.d,.bool false,.bool x.fn,.slice pa x.ps.length pc,.slice na x.ns.length nc,.bool false] 240)):=aq.alloc _;have CO:=kA.cellAt d0 id;have CP:=kA.cellAt d3 id;go_wp2;go_ret;exact⟨by rw[hz.out];rfl,kw.out.trans (aq.alloc _)⟩
    | true=>
      rw[iF] at q3
      by_cases hp:(x.ps.length:Int)<=i
      ·have hz:Hid (Z=71):=by show Z=71;rw[<-hZ.out];simp[dM,iF,hp]
       have hd:decide (i>=(x.ps.length:Int))=true:=decide_eq_true hp;clear dM iF;have kA:Calm w1 (w1.alloc (.cells #[vI x.ser,vI x.p,vI x.d,.bool true,.bool x.fn,.slice pa x.ps.length pc,.slice na x.ns.length nc,.bool false] 240)):=aq.alloc _;have CO:=kA.cellAt d0 id;have CP:=kA.cellAt d3 id;go_wp2;go_ret;exact⟨by rw[hz.out];rfl,kw.out.trans (aq.alloc _)⟩
      ·have hz:Hid (Z=0):=by show Z=0;rw[<-hZ.out];simp[dM,iF,hp]
       have hd:decide (i>=(x.ps.length:Int))=false:=decide_eq_false hp;clear dM iF;have kA:Calm w1 (w1.alloc (.cells #[vI x.ser,vI x.p,vI x.d,.bool true,.bool x.fn,.slice pa x.ps.length pc,.slice na x.ns.length nc,.bool false] 240)):=aq.alloc _;have CO:=kA.cellAt d0 id;have CP:=kA.cellAt d3 id;go_wp2;go_ret;exact⟨by rw[hz.out];rfl,kw.out.trans (aq.alloc _)⟩
def iy(R:List Int):List aC:=[vI (R.getD 0 0),vI (R.getD 1 0),vI (R.getD 2 0),vI (R.getD 3 0),vI (R.getD 4 0),vI (R.getD 5 0)]
def Ip(R:List Int):aC:=.agg #[vI (R.getD 0 0),vI (R.getD 1 0),vI (R.getD 2 0),vI (R.getD 3 0),vI (R.getD 4 0),vI (R.getD 5 0)]
theorem fU(R:List Int):(iy R).length=6:=rfl
theorem cD(R:List Int){a:Nat}(ha:a<6):(iy R)[a]?=some (vI (R.getD a 0)):=by
 rcases(by omega:a=0\/a=1\/a=2\/a=3\/a=4\/a=5) with rfl|rfl|rfl|rfl|rfl|rfl <;> rfl
theorem iO{R:List Int}(h:R.length=6){a:Nat}(ha:a<6)(v:Int):(iy R).set a (vI v)=iy (R.set a v):=by
 match R,h with
 | [r0,r1,r2,r3,r4,r5],_=>
   rcases(by omega:a=0\/a=1\/a=2\/a=3\/a=4\/a=5) with rfl|rfl|rfl|rfl|rfl|rfl <;> rfl
theorem I3{T:Nat->Prop}{w:aj}{v qv:aC}{ms:List fW}(h:bL T w v ms)(hl:ms.length<=100000)(fresh:Int){d:Dd}(hd:d.Rt){R:List Int}(hR:R.length=6) :
 aL prog 156 #[.agg #[v,qv],Ip R,e_ d,vI fresh] w (jO w (CS (ms.map (·.x)) R d fresh)):=by
 have n6:∀y:Int,R6 y->∃a:Nat,y=a/\a<6:=λy ⟨h1,h2⟩=>⟨y.toNat,by omega,by omega⟩;have z6:(0:Nat)<6:=by decide
 match R,hR with
 | [r0,r1,r2,r3,r4,r5],_=>
   obtain⟨k,a,b,i,n⟩:=d;simp only[Dd.Rt] at hd;rcases hd with ⟨rfl,h1,rfl,h3,h4⟩|⟨rfl,h1,rfl,h3,h4⟩|⟨rfl,h1,h2,rfl,rfl⟩|⟨rfl,h1,h2,h3,rfl⟩|⟨rfl,h1,h2,h3,rfl⟩|⟨rfl,h1,rfl,h3,rfl⟩|⟨rfl,h1,rfl,h3,h4⟩|⟨rfl,h1,rfl,rfl,rfl⟩|⟨rfl,h1,h2,rfl,rfl⟩|⟨rfl,h1,rfl,rfl,rfl⟩|⟨rfl,h1,h2,rfl,rfl⟩|⟨rfl,h1,h2,rfl,rfl⟩|⟨rfl,h1,rfl,rfl,rfl⟩|⟨rfl,rfl,rfl,rfl,rfl⟩
   ·obtain⟨a,rfl,ha⟩:=n6 a h1;exact ug (b:=0) h hl fresh ha z6 (.inl rfl) r0 r1 r2 r3 r4 r5
   ·obtain⟨a,rfl,ha⟩:=n6 a h1;exact ug (b:=0) h hl fresh ha z6 (.inr rfl) r0 r1 r2 r3 r4 r5
   ·obtain⟨a,rfl,ha⟩:=n6 a h1;obtain⟨b,rfl,hb⟩:=n6 b h2;exact I4 h hl fresh ha hb r0 r1 r2 r3 r4 r5
   ·obtain⟨a,rfl,ha⟩:=n6 a h1;obtain⟨b,rfl,hb⟩:=n6 b h2;exact I5 h hl fresh ha hb r0 r1 r2 r3 r4 r5
   ·obtain⟨a,rfl,ha⟩:=n6 a h1;obtain⟨b,rfl,hb⟩:=n6 b h2;exact I6 h hl fresh ha hb r0 r1 r2 r3 r4 r5
   ·obtain⟨a,rfl,ha⟩:=n6 a h1;exact I7 (b:=0) h hl fresh ha z6 r0 r1 r2 r3 r4 r5
   ·obtain⟨a,rfl,ha⟩:=n6 a h1;exact I8 (b:=0) h hl fresh ha z6 r0 r1 r2 r3 r4 r5
   ·obtain⟨a,rfl,ha⟩:=n6 a h1;exact I9 (b:=0) h hl fresh ha z6 r0 r1 r2 r3 r4 r5
   ·obtain⟨a,rfl,ha⟩:=n6 a h1;obtain⟨b,rfl,hb⟩:=n6 b h2;exact I_ h hl fresh ha hb r0 r1 r2 r3 r4 r5
   ·obtain⟨a,rfl,ha⟩:=n6 a h1;exact i_ (b:=0) h hl fresh ha z6 (.inl rfl) r0 r1 r2 r3 r4 r5
   ·obtain⟨a,rfl,ha⟩:=n6 a h1;obtain⟨b,rfl,hb⟩:=n6 b h2;exact i_ h hl fresh ha hb (.inr (.inl rfl)) r0 r1 r2 r3 r4 r5
   ·obtain⟨a,rfl,ha⟩:=n6 a h1;obtain⟨b,rfl,hb⟩:=n6 b h2;exact i_ h hl fresh ha hb (.inr (.inr (.inl rfl))) r0 r1 r2 r3 r4 r5
   ·obtain⟨a,rfl,ha⟩:=n6 a h1;exact i_ (b:=0) h hl fresh ha z6 (.inr (.inr (.inr (.inl rfl)))) r0 r1 r2 r3 r4 r5
   ·exact i_ (a:=0) (b:=0) h hl fresh z6 z6 (.inr (.inr (.inr (.inr rfl)))) r0 r1 r2 r3 r4 r5
section
attribute [local irreducible] Oper.wp
def Af{α:Type}(f:α->List aC)(k:Nat)(d:α)(T:Nat->Prop)(w:aj)(v:aC)(l:List α):Prop:=
 ∃a c,v=.slice a l.length c/\∀i,i<l.length->∃g o,a=some ⟨g,o,none⟩/\T g/\∀j u,(f (l.getD i d))[j]?=some u->w.cell? ⟨g,o+i*k+j,none⟩=some u
section
variable {α:Type}{f:α->List aC}{k:Nat}{d:α}{T:Nat->Prop}{w w':aj}{v:aC}{l:List α}
theorem Af.fr{S:Nat->Prop}(h:Af f k d T w v l)(c:Fr S w w')(hs:∀b,T b->¬S b):Af f k d T w' v l:=by
 obtain⟨a,cc,e,h⟩:=h;exact⟨a,cc,e,λi hi=>by obtain⟨g,o,e1,t,h⟩:=h i hi;exact⟨g,o,e1,t,λj u hu=>c.cellAt (h j u hu) (hs g t)⟩⟩
theorem Af.calm(h:Af f k d T w v l)(c:Calm w w'):Af f k d T w' v l:=h.fr c λ_ _=>id
theorem Af.of{ety:TypeId}(hf:∀a,(f a).length=k)(hk:0<k)(h:w.ownsRow 0 ety k v l.length (l.flatMap f))(hT:∀b,aB v b->T b):Af f k d T w v l:=by
 obtain⟨a,c,e⟩:=aG h;refine⟨a,c,e,λi hi=>?_⟩;obtain⟨g,c2,e2,hg⟩:=bz hf hk h d hi;have hb:aB v g:=by rw[e2];exact aB.mk.2 rfl
 rw[e] at e2;injection e2 with e3 e4 e5
 exact⟨g,0,e3,hT g hb,λj u hu=>by rw[fk];exact(hg j u hu).1⟩
end
abbrev aD:Ac:=⟨0,0,0⟩
theorem O6(d:Dd)(a:Ac)(R:List Int):(uR d a R).length=R.length:=by
 unfold uR;repeat' split
 all_goals simp
theorem BV(Q:List Dd)(a:Ac):∀ (l:List Ac) (i:Nat) (R:List Int),rX Q (l++[a]) i R=uR (Q.getD (i+l.length) dD) a (rX Q l i R)
 | [],i,R=>rfl
 | b::l,i,R=>by
   show rX Q (l++[a]) (i+1) _=_;rw[BV Q a l (i+1)];rw[show i+(b::l).length=i+1+l.length by simp;omega];rfl
theorem zw(Q:List Dd):∀ (l:List Ac) (i:Nat) (R:List Int),(rX Q l i R).length=R.length
 | [],_,_=>rfl
 | a::l,i,R=>(zw Q l (i+1) _).trans (O6 _ _ _)
theorem iW{α:Type}{l:List α}{i:Nat}(h:i<l.length)(d:α):l.take (i+1)=l.take i++[l.getD i d]:=by
 rw[List.take_succ_eq_append_getElem h];simp[aS,h]
end
def nk(Q:List Dd)(l:List Ac)(x:List Mo × List Int):Nat->List Mo × List Int
 | 0=>x
 | i+1=>((gj (nk Q l x i).1 (nk Q l x i).2 (Q.getD i dD) (l.getD i aD).v).1,(gj (nk Q l x i).1 (nk Q l x i).2 (Q.getD i dD) (l.getD i aD).v).2.1)
theorem BQ{Q:List Dd}{l:List Ac}{x y:List Mo × List Int}(h:fN Q l 0 x=some y):∀k,k<=l.length->fN Q (l.drop k) k (nk Q l x k)=some y/\∀i,i<k->(gj (nk Q l x i).1 (nk Q l x i).2 (Q.getD i dD) (l.getD i aD).v).2.2.1=(l.getD i aD).v/\(gj (nk Q l x i).1 (nk Q l x i).2 (Q.getD i dD) (l.getD i aD).v).2.2.2=(l.getD i aD).e
 | 0,_=>⟨h,λi hi=>absurd hi (Nat.not_lt_zero i)⟩
 | k+1,hk=>by
   obtain⟨h1,h2⟩:=BQ h k (by omega);have e:l.drop k=l.getD k aD::l.drop (k+1):=by rw[List.drop_eq_getElem_cons (by omega)];simp[aS,show k<l.length by omega]
   rw[e] at h1;unfold fN at h1;split at h1
   ·rename_i hc;refine⟨h1,λi hi=>?_⟩
    by_cases ei:i=k
    ·subst ei;exact hc
    ·exact h2 i (by omega)
   ·cases h1
theorem KU{Q:List Dd}{l:List Ac}{x y:List Mo × List Int}(h:fN Q l 0 x=some y):nk Q l x l.length=y/\∀i,i<l.length->(gj (nk Q l x i).1 (nk Q l x i).2 (Q.getD i dD) (l.getD i aD).v).2.2.1=(l.getD i aD).v/\(gj (nk Q l x i).1 (nk Q l x i).2 (Q.getD i dD) (l.getD i aD).v).2.2.2=(l.getD i aD).e:=by
 obtain⟨h1,h2⟩:=BQ h l.length (aM _);rw[List.drop_length] at h1;exact⟨by injection h1,h2⟩
def MO(l:List Mo):Prop:=∀o∈l,o.ps.length<=100/\o.ns.length<=100
theorem Ex(l:List Mo)(R:List Int)(d:Dd)(v:Int):(gj l R d v).1.length<=l.length+1/\l.length<=(gj l R d v).1.length/\(gj l R d v).2.1.length=R.length:=by
 unfold gj
 repeat' split
 all_goals simp
theorem E_(l:List Mo)(v:Int):n_ (lays l v)=false:=by unfold lays;split <;> rfl
theorem Rv(l:List Mo)(R:List Int)(d:Dd)(v:Int):n_ (CS l R d v)=false:=by
 have hO:∀s k i,n_ (cZ l s k i v)=false:=λs k i=>by
  unfold cZ;split
  ·rfl
  ·split
   ·exact E_ l v
   ·split
    ·rfl
    ·split
     ·rfl
     ·split
      ·rfl
      ·split <;> split <;> rfl
 unfold CS;split
 ·exact E_ l v
 ·split
  ·exact hO _ _ _
  ·split
   ·exact hO _ _ _
   ·rfl
theorem Ri(l:List Mo)(R:List Int)(d:Dd)(v:Int):n_ (gj l R d v).2.2.2=false:=by
 unfold gj;split
 ·exact Rv l R d v
 ·repeat' split
  all_goals rfl
theorem Tc(d:Dd)(b:Int){o:Mo}(h:o.ps.length<=100/\o.ns.length<=100):(Fe d b o).ps.length<=100/\(Fe d b o).ns.length<=100:=by
 unfold Fe;split
 ·simpa using h
 ·split
  ·simpa using h
  ·exact h
theorem Ey{l:List Mo}(h:MO l)(R:List Int){d:Dd}(hd:d.Rt)(v:Int):MO (gj l R d v).1:=by
 have hn:(d.k=1\/d.k=2\/d.k=3)->∀b,(xw d v b).ps.length<=100/\(xw d v b).ns.length<=100:=λhk b=>by
  unfold xw
  by_cases h3:d.k=3
  ·rw[if_pos h3];exact⟨by simp,by simp⟩
  ·rw[if_neg h3];unfold Dd.Rt R5 at hd;have:d.i<=4/\d.n<=4:=by omega
   simp only[List.length_replicate];omega
 have hs:∀j y,(y.ps.length<=100/\y.ns.length<=100)->MO (l.set j y):=λj y hy o ho=>by
  rcases List.mem_or_eq_of_mem_set ho with h1|h1
  ·exact h o h1
  ·rw[h1];exact hy
 have hg:∀j,(l.getD j jB).ps.length<=100/\(l.getD j jB).ns.length<=100:=λj=>by
  by_cases hj:j<l.length
  ·exact h _ (get_mem _ hj)
  ·rw[aS,List.getElem?_eq_none (by omega)];exact⟨cK _,cK _⟩
 unfold gj;split
 ·exact h
 ·split
  ·rename_i hk;intro o ho;rcases mD.1 ho with h1|h1
   ·exact h o h1
   ·rw[nu.1 h1];exact hn hk _
  ·split
   ·exact h
   ·split
    ·exact h
    ·split
     ·exact hs _ _ (Tc _ _ (hg _))
     ·repeat' split
      all_goals exact h
section
def iz(tr:List Tr)(i:Nat):aE:=(List.range i).filter λk=>lh (tr.getD k aK)
theorem rD(tr:List Tr)(i:Nat):iz tr (i+1)=iz tr i++(if lh (tr.getD i aK)=true then [i] else []):=by
 unfold iz;rw[List.range_succ,List.filter_append]
 congr 1
 by_cases h:lh (tr.getD i aK)=true
 ·rw[if_pos h,List.filter_cons_of_pos (p:=λk=>lh (tr.getD k aK)) (a:=i) (l:=[]) h];rfl
 ·rw[if_neg h,List.filter_cons_of_neg (p:=λk=>lh (tr.getD k aK)) (a:=i) (l:=[]) h];rfl
theorem qt{tr:List Tr}{i k:Nat} : k∈iz tr i↔k<i/\lh (tr.getD k aK)=true:=by
 unfold iz;rw[List.mem_filter,List.mem_range]
theorem vg(tr:List Tr)(i:Nat):(iz tr i).length<=i:=by
 have:=List.length_filter_le (λk=>lh (tr.getD k aK)) (List.range i);rw[List.length_range] at this;exact this
theorem FF(tr:List Tr)(f:Int):∀i,i<=tr.length->(iz tr i).countP (λk=>decide ((tr.getD k aK).dr<f))=cw (tr.take i) f
 | 0,_=>rfl
 | i+1,h=>by
   rw[rD,List.countP_append,FF tr f i (by omega),iW (by omega) aK];unfold cw;rw[List.countP_append]
   congr 1
   by_cases hw:lh (tr.getD i aK)=true
   ·rw[if_pos hw,List.countP_cons,List.countP_nil,List.countP_cons,List.countP_nil,hw,Bool.true_and]
   ·rw[if_neg hw,List.countP_cons,List.countP_nil,List.countP_nil,Bool.eq_false_iff.2 hw,Bool.false_and];rfl
theorem L3(tr:List Tr)(f:Int):(iz tr tr.length).countP (λk=>decide ((tr.getD k aK).dr<f))=cw tr f:=by
 rw[FF tr f _ (aM _),List.take_length]
abbrev allT:Nat->Prop:=λ_=>True
def qy(l:aE):List Int:=l.map (λk:Nat=>(k:Int))
theorem DF{l:aE}{i:Nat}(h:i<l.length):(qy l).getD i 0=((l.getD i 0:Nat):Int):=by
 unfold qy;simp[aS,h]
def lj(T:Nat->Prop)(w:aj)(cz:aC)(tr:List Tr):Prop:=
 ∃ms:List rE,ms.map (·.x)=tr/\Af rz 10 eP T w cz ms/\∀k,k<ms.length->Af Er 3 aD T w (ms.getD k eP).av (ms.getD k eP).x.aJ/\cB T w (ms.getD k eP).tv (ms.getD k eP).x.gF
structure iC(T:Nat->Prop)(w:aj)(Q:Pg)(tr:List Tr)(pv cz wv rv:aC):Prop where
 p:dJ T w pv Q
 t:lj T w cz tr
 ws:cB T w wv (qy (iz tr tr.length))
 r:Af iy 6 [] T w rv ((List.range tr.length).map λk=>gA Q (tr.take k) (tr.getD k aK).th.toNat)
abbrev UR(pv cz wv rv:aC):aC:=.agg #[pv,cz,wv,rv,.slice none 0 0,.slice none 0 0]
section
variable {T S:Nat->Prop}{w w':aj}{Q:Pg}{tr:List Tr}{pv cz wv rv:aC}
theorem lj.fr(h:lj T w cz tr)(c:Fr S w w')(hs:∀b,T b->¬S b):lj T w' cz tr:=by
 obtain⟨ms,h2,h3,h4⟩:=h;exact⟨ms,h2,h3.fr c hs,λk hk=>⟨(h4 k hk).1.fr c hs,(h4 k hk).2.fr c hs⟩⟩
theorem iC.fr(h:iC T w Q tr pv cz wv rv)(c:Fr S w w')(hs:∀b,T b->¬S b):iC T w' Q tr pv cz wv rv:=⟨h.p.fr c hs,h.t.fr c hs,h.ws.fr c hs,h.r.fr c hs⟩
theorem lj.calm(h:lj T w cz tr)(c:Calm w w'):lj T w' cz tr:=h.fr c λ_ _=>id
theorem iC.calm(h:iC T w Q tr pv cz wv rv)(c:Calm w w'):iC T w' Q tr pv cz wv rv:=h.fr c λ_ _=>id
theorem lj.get(h:lj T w cz tr):∃a c,cz=.slice a tr.length c/\∀k,k<tr.length->∃g o av tv,a=some ⟨g,o,none⟩/\(∀W,Calm w W->∀j u,(rz ⟨tr.getD k aK,av,tv⟩)[j]?=some u->W.cell? ⟨g,o+k*10+j,none⟩=some u)/\Af Er 3 aD T w av (tr.getD k aK).aJ/\cB T w tv (tr.getD k aK).gF:=by
 obtain⟨ms,h1,⟨a,c,e,h2⟩,h3⟩:=h;have hl:ms.length=tr.length:=by rw[<-h1,List.length_map]
 refine⟨a,c,by rw[<-hl];exact e,λk hk=>?_⟩;rw[<-hl] at hk;obtain⟨g,o,e1,_,h4⟩:=h2 k hk;have ex:(ms.getD k eP).x=tr.getD k aK:=by rw[<-h1];exact(ss (λm:rE=>m.x) ms eP k).symm
 obtain⟨h5,h6⟩:=h3 k hk;rw[ex] at h5 h6;refine⟨g,o,(ms.getD k eP).av,(ms.getD k eP).tv,e1,λW c j u hu=>c.cellAt (h4 j u ?_) id,h5,h6⟩;rw[<-ex] at hu;exact hu
theorem xQ(w:aj)(th bl st se fr dr en bt:Int)(av tv:aC):aL prog 28 #[.agg #[vI th,vI bl,vI st,vI se,vI fr,vI dr,av,tv,vI en,vI bt]] w (λe w'=>e=.returned (.bool (en==1 && decide (1<=bt)))/\Calm w w'):=by
 obtain⟨W1,e1,k1,o1,s1⟩:=dy w [vI th,vI bl,vI st,vI se,vI fr,vI dr,av,tv,vI en,vI bt] 89;have y8:=(o1 8 _ rfl).1;have y9:=(o1 9 _ rfl).1;clear o1 s1;have k1:=af k1
 by_cases h1:en=1
 ·have b1:(en==1)=true:=by simp[h1]
  by_cases h2:1<=bt
  ·have b2:decide (bt>0)=true:=decide_eq_true (by omega);have hr:(en==1 && decide (1<=bt))=true:=by simp[h1,h2]
   rw[hr];clear h1 h2 hr;go_in;go_wp2;go_ret;exact⟨rfl,k1.out⟩
  ·have b2:decide (bt>0)=false:=decide_eq_false (by omega);have hr:(en==1 && decide (1<=bt))=false:=by simp[h2]
   rw[hr];clear h1 h2 hr;go_in;go_wp2;go_ret;exact⟨rfl,k1.out⟩
 ·have b1:(en==1)=false:=by simp[h1]
  have hr:(en==1 && decide (1<=bt))=false:=by simp[h1]
  rw[hr];clear h1 hr;go_in;go_wp2;go_ret;exact⟨rfl,k1.out⟩
theorem I0(h:iC T w Q tr pv cz wv rv)(hn:tr.length<=1000)(f:Int):aL prog 26 #[UR pv cz wv rv,vI f] w (λe w'=>e=.returned (vI (cw tr f:Nat))/\Calm w w'):=by
 obtain⟨ta,tc,qx,jG⟩:=h.t.get;obtain⟨wa,wc,vy,GF⟩:=h.ws;have qP:=L3 tr f;obtain⟨L,hL⟩:=au (iz tr tr.length);have Nt:∀k∈L,k<tr.length:=λk hk=>by rw[<-hL] at hk;exact(qt.1 hk).1
 have Wd:L.length<=1000:=by rw[<-hL];exact fH (vg _ _) hn
 rw[hL] at vy GF qP;have uu:(qy L).length=L.length:=List.length_map _;rw[uu] at vy GF;obtain⟨N,hN⟩:=au tr.length;obtain⟨NL,Gj⟩:=au L.length;obtain⟨C,hC⟩:=au ((λi=>(L.take i).countP (λk=>decide ((tr.getD k aK).dr<f))):Nat->Nat);have HH:∀i,(L.take i).countP (λk=>decide ((tr.getD k aK).dr<f))=C i:=λi=>by rw[<-hC]
 have hg:Hid (∀i,i<NL->∃g o g2 o2 k t,k<N/\wa=some ⟨g,o,none⟩/\ta=some ⟨g2,o2,none⟩/\(∀W,Calm w W->W.cell? ⟨g,o+i,none⟩=some (vI ((k:Nat):Int))/\W.cell? ⟨g2,o2+k*10+5,none⟩=some (vI t))/\C (i+1)=C i+(if t<f then 1 else 0)/\C i<=1000):=λi hi=>by
  obtain⟨g,o,e1,_,h1⟩:=GF i (by omega);rw[DF (by omega)] at h1;have hk:L.getD i 0<tr.length:=Nt _ (get_mem 0 (by omega));obtain⟨g2,o2,av,tv,e2,h2,_⟩:=jG _ hk;refine⟨g,o,g2,o2,L.getD i 0,(tr.getD (L.getD i 0) aK).dr,by omega,e1,e2,λW c=>⟨c.cellAt h1 id,h2 W c 5 _ rfl⟩,?_,?_⟩
  ·rw[<-HH,<-HH,iW (by omega) 0,List.countP_append,List.countP_cons,List.countP_nil];simp
  ·rw[<-HH];exact fH List.countP_le_length (by rw[List.length_take];omega)
 have dh:Hid (C NL=cw tr f):=by show _=_;rw[<-HH,List.take_of_length_le (by omega),qP]
 have h0:C 0=0:=by rw[<-HH];rfl
 rw[hN] at qx;rw[Gj] at vy Wd;subst qx vy;clear hC HH qP GF jG Nt hL uu h;replace hN:=af hN;replace Gj:=af Gj;replace hn:=af hn;obtain⟨W1,e1,k1,o1,s1⟩:=dy w [pv,.slice ta N tc,.slice wa NL wc,rv,.slice none 0 0,.slice none 0 0] 81;have y1:=(o1 1 _ rfl).1;have y2:=(o1 2 _ rfl).1;have k1:=af k1;clear o1 s1;go_in;go_wp2_with fail
 go_loopw [5,11] (λx5 x11 wr=>∃i:Nat,i<=NL/\x11=vI i/\x5=vI ((C i:Nat):Int)/\wr=W1) (λ_ x _=>NL-(intOf x).toNat)
 case atStart=>exact⟨0,by omega,rfl,by rw[h0];rfl,rfl⟩
 case round=>
  obtain⟨i,hi,rfl,rfl,rfl⟩:=hrel;clear e1
  by_cases aZ:i<NL
  ·obtain⟨g,o,g2,o2,k,t,hk,rfl,rfl,hc,cy,hCb⟩:=hg.out i aZ;obtain⟨z0,z1⟩:=hc _ k1.out;have d0:decide ((i:Int)<NL)=true:=decide_eq_true (by omega);obtain⟨c,EH⟩:=au (C i);rw[EH] at cy hCb ⊢;clear hc
   by_cases ht:t<f
   ·have d1:decide (t<f)=true:=decide_eq_true ht;rw[if_pos ht] at cy;have cy:=af cy;clear ht EH;go_wp2;exact⟨⟨i+1,by omega,by simp,by rw[cy.out];simp,trivial⟩,by simp[intOf] <;> omega⟩
   ·have d1:decide (t<f)=false:=decide_eq_false ht;rw[if_neg ht] at cy;have cy:=af cy;clear ht EH;go_wp2;exact⟨⟨i+1,by omega,by simp,by rw[cy.out];simp,trivial⟩,by simp[intOf] <;> omega⟩
  ·obtain rfl:i=NL:=by omega
   have d0:decide ((i:Int)<i)=false:=decide_eq_false (by omega);rw[dh.out];go_wp2;go_ret;exact⟨rfl,k1.out⟩
def MV(tr:List Tr):aE->Int->Int
 | [],_=>-1
 | k::l,f=>if f<(tr.getD k aK).dr then (k:Int) else MV tr l f
theorem Ga(h:iC T w Q tr pv cz wv rv){v:aC}{L:aE}{T2:Nat->Prop}(hv:cB T2 w v (qy L))(Nt:∀k∈L,k<tr.length)(Wd:L.length<=1000)(hn:tr.length<=1000)(f:Int):aL prog 48 #[UR pv cz wv rv,v,vI f] w (λe w'=>e=.returned (vI (MV tr L f))/\Calm w w'):=by
 obtain⟨ta,tc,qx,jG⟩:=h.t.get;obtain⟨wa,wc,vy,GF⟩:=hv;have uu:(qy L).length=L.length:=List.length_map _;rw[uu] at vy GF;obtain⟨N,hN⟩:=au tr.length;obtain⟨NL,Gj⟩:=au L.length;obtain⟨C,hC⟩:=au ((λi=>MV tr (L.drop i) f):Nat->Int);have HH:∀i,MV tr (L.drop i) f=C i:=λi=>by rw[<-hC]
 have hg:Hid (∀i,i<NL->∃g o g2 o2 k t,k<N/\wa=some ⟨g,o,none⟩/\ta=some ⟨g2,o2,none⟩/\(∀W,Calm w W->W.cell? ⟨g,o+i,none⟩=some (vI ((k:Nat):Int))/\W.cell? ⟨g2,o2+k*10+5,none⟩=some (vI t))/\C i=if f<t then (k:Int) else C (i+1)):=λi hi=>by
  obtain⟨g,o,e1,_,h1⟩:=GF i (by omega);rw[DF (by omega)] at h1;have hk:L.getD i 0<tr.length:=Nt _ (get_mem 0 (by omega));obtain⟨g2,o2,av,tv,e2,h2,_⟩:=jG _ hk;refine⟨g,o,g2,o2,L.getD i 0,(tr.getD (L.getD i 0) aK).dr,by omega,e1,e2,λW c=>⟨c.cellAt h1 id,h2 W c 5 _ rfl⟩,?_⟩;rw[<-HH,<-HH];have e:L.drop i=L.getD i 0::L.drop (i+1):=by rw[List.drop_eq_getElem_cons (by omega)];simp[aS,show i<L.length by omega]
  rw[e];rfl
 have dh:Hid (C NL = -1):=by show _=_;rw[<-HH,List.drop_eq_nil_of_le (by omega)];rfl
 have h0:C 0=MV tr L f:=by rw[<-HH];rfl
 rw[<-h0];rw[hN] at qx;rw[Gj] at vy Wd;subst qx vy;clear hC HH GF jG Nt uu h h0;replace hN:=af hN;replace Gj:=af Gj;replace hn:=af hn;obtain⟨W1,e1,k1,o1,s1⟩:=dy w [pv,.slice ta N tc,wv,rv,.slice none 0 0,.slice none 0 0] 81;have y1:=(o1 1 _ rfl).1;have k1:=af k1;clear o1 s1;obtain⟨r,hr⟩:=au (C 0);rw[hr];go_in;go_wp2_with fail
 go_loopw [11] (λx11 wr=>∃i:Nat,i<=NL/\x11=vI i/\C i=r/\wr=W1) (λx _=>NL-(intOf x).toNat)
 case atStart=>exact⟨0,by omega,rfl,hr,rfl⟩
 case round=>
  obtain⟨i,hi,rfl,rL,rfl⟩:=hrel;clear e1 hr
  by_cases aZ:i<NL
  ·obtain⟨g,o,g2,o2,k,t,hk,rfl,rfl,hc,cy⟩:=hg.out i aZ;obtain⟨z0,z1⟩:=hc _ k1.out;have d0:decide ((i:Int)<NL)=true:=decide_eq_true (by omega);rw[rL] at cy;clear hc rL
   by_cases ht:f<t
   ·have d1:decide (t>f)=true:=decide_eq_true ht;rw[if_pos ht] at cy;subst cy;clear ht;go_wp2;go_ret;exact⟨rfl,k1.out⟩
   ·have d1:decide (t>f)=false:=decide_eq_false ht;rw[if_neg ht] at cy;have cy:=af cy;clear ht;go_wp2;exact⟨⟨i+1,by omega,by simp,cy.out.symm,trivial⟩,by simp[intOf] <;> omega⟩
  ·obtain rfl:i=NL:=by omega
   have d0:decide ((i:Int)<i)=false:=decide_eq_false (by omega);have e:=af (rL.symm.trans dh.out);clear rL;go_wp2;go_ret;exact⟨by rw[e.out];rfl,k1.out⟩
end
end
