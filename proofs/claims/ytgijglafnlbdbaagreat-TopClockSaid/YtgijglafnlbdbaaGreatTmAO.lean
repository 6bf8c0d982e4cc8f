import Derived.Test.YtgijglafnlbdbaaGreatTmAN
set_option linter.all false
set_option maxHeartbeats 2000000
set_option maxRecDepth 8000
namespace Go.Proofs.YtgijglafnlbdbaaGreat
open RowKit Shelf Proofs.Tryz
open Go renaming World->aj,Value->aC,Calls->aL
section
section
variable {σ:PS}{M:Nat->FM}{t a:Nat}{o o':Ob}{x':PT}
theorem kZ{a:Nat}{o:Ob} : ∀ (m l:List Ud),(∀u∈m,u.at_≠a)->pj (l++m) a o=pj l a o
 | [],l,_=>by rw[List.append_nil]
 | u::m,l,h=>by
   rw[show l++u::m=(l++[u])++m by simp,kZ m (l++[u]) (λx hx=>h x (.tail _ hx)),Cg,Ee (h u (.head _))]
theorem GM.dN(hg:GM σ M)(hw:PW σ)(h:tQ σ t a o o' x')
 (hd:∀y∈x'.holds,y.at_=a->0<=y.bt/\y.bt<=(σ.tx t).start/\(y.bt=0->∀u,u<=σ.now->M u o.ser=none)/\(1<=y.bt->∀u:Nat,y.bt<=u->u<=σ.now->M u o.ser=some (σ.mo (pj x'.aQ a o')))) :
 GM ((σ.cN a o').aO t x') M:=by
 have sk:=h.r_;have hz:=h.z hw;have Cf:∀u,u≠t->((σ.cN a o').aO t x').tx u=σ.tx u:=λu hu=>bN _ _ hu;have txt:((σ.cN a o').aO t x').tx t=x':=aV _ _ _;have mo:∀q:Ob,(∀p∈q.ps,p=0\/∃q',σ.ob p=some q')->((σ.cN a o').aO t x').mo q=σ.mo q:=λq hq=>sk.mo hw.z hz hq
 have Gv:∀ (l:List Ud) (b:Nat) (q:Ob),(∀p∈q.ps,p=0\/∃q',σ.ob p=some q')->(∀u∈l,u.kind=1->u.cC=0\/∃q',σ.ob u.cC.toNat=some q')->∀p∈(pj l b q).ps,p=0\/∃q',σ.ob p=some q':=by
  intro l b q hq
  induction l with
  | nil=>exact λ_=>hq
  | cons u l ih=>
    intro hu p hp;have ih:=ih (λv hv=>hu v (.tail _ hv));have hp:p∈(sg u b (pj l b q)).ps:=hp;unfold sg at hp;split at hp
    ·split at hp
     ·rename_i hk;rcases List.mem_or_eq_of_mem_set hp with h1|h1
      ·exact ih p h1
      ·rcases hu u (.head _) hk with h2|h2
       ·left;rw[h1,h2];rfl
       ·right;rw[h1];exact h2
     ·split at hp <;> exact ih p hp
    ·exact ih p hp
 have JZ:∀v,∀u∈(σ.tx v).aQ,u.kind=1->u.cC=0\/∃q',σ.ob u.cC.toNat=some q':=λv u hu hk=>by
  obtain⟨k,k1,k2,k3⟩:=hw.us v u hu;obtain⟨_,q,hq,_⟩:=hw.hs v k k1;rcases k3 q hq with h1|h1|h1
  ·exact h1.2.2.2.2
  ·omega
  ·omega
 refine⟨λb q v hq hs=>?_,λb q u hq hs=>?_,λu y hy q hq=>?_,hg.cl,hg.mm,λu hu s hs=>?_⟩
 ·rcases h.back hq with ⟨rfl,rfl⟩|⟨_,h1⟩
  ·have:=h.snd;omega
  ·obtain⟨g1,g2,g3⟩:=hg.un b q v h1 hs;exact⟨g1,g2,λh3 u h4 h5=>by rw[g3 h3 u h4 h5,mo q (hw.ps b q h1)]⟩
 ·rcases h.back hq with ⟨rfl,rfl⟩|⟨e,h1⟩
  ·have:u=t:=by have:=h.snd;omega
   subst this;rw[txt];exact h.ha
  ·obtain⟨k,k1,k2⟩:=hg.ex b q u h1 hs
   by_cases e1:u=t
   ·subst e1;rw[txt];exact⟨k,h.h0 k k1,k2⟩
   ·rw[Cf u e1];exact⟨k,k1,k2⟩
 ·by_cases e1:u=t
  ·subst e1;rw[txt] at hy ⊢;obtain⟨l,l1,l2⟩:=h.ud;rcases h.back hq with ⟨e,rfl⟩|⟨e,h1⟩
   ·obtain⟨g1,g2,g3,g4⟩:=hd y hy e;rw[h.xs,h.ser];refine⟨g1,g2,g3,λh3 v h4 h5=>?_⟩;rw[g4 h3 v h4 h5,e,mo _ (Gv _ _ _ h.ps (λz hz hk=>?_))];rw[l1] at hz;rcases mD.1 hz with hz|hz
    ·exact JZ u z hz hk
    ·rcases(l2 z hz).2 with h6|h6|h6
     ·exact h6.2.2.2.2
     ·omega
     ·omega
   ·rcases h.h1 y hy with h2|h2
    ·obtain⟨g1,g2,g3,g4⟩:=hg.hd u y h2 q h1;rw[h.xs];refine⟨g1,g2,g3,λh3 v h4 h5=>?_⟩;rw[g4 h3 v h4 h5,l1,kZ l _ (λz hz e3=>e (by rw[<-e3];exact(l2 z hz).1)),mo _ (Gv _ _ _ (hw.ps _ q h1) (JZ u))]
    ·exact absurd h2 e
  ·rw[Cf u e1] at hy ⊢;rcases h.back hq with ⟨e,rfl⟩|⟨e,h1⟩
   ·exact absurd e (h.other hw e1 hy)
   ·obtain⟨g1,g2,g3,g4⟩:=hg.hd u y hy q h1;exact⟨g1,g2,g3,λh3 v h4 h5=>by rw[g4 h3 v h4 h5,mo _ (Gv _ _ _ (hw.ps _ q h1) (JZ u))]⟩
 ·obtain⟨b,q,h1,h2⟩:=hg.mf u hu s hs;obtain⟨q',h3,h4⟩:=sk b q h1;exact⟨b,q',h3,by rw[h4];exact h2⟩
theorem tQ.GW{R V:aE}{Q:List Dd}{aJ:List Ac}(h:tQ σ t a o o' x')(hw:PW σ){u:Nat}(hu:u≠t)(hi:TI σ M u R V Q aJ):TI ((σ.cN a o').aO t x') M u R V Q aJ:=
 hi.frame hw (h.z hw) (bN _ _ hu) h.r_ (λy hy=>kW _ _ (h.other hw hu hy)) rfl
theorem tQ.kn(h:tQ σ t a o o' x'){p:Nat}(k:Kn σ M t p):Kn ((σ.cN a o').aO t x') M t p:=by
 have txt:((σ.cN a o').aO t x').tx t=x':=aV _ _ _;rcases k with k|⟨y,h1,h2,h3⟩
 ·exact .inl (by rw[txt,h.xs];exact h.r_.km k)
 ·exact .inr ⟨y,by rw[txt];exact h.h0 y h1,h2,h3⟩
theorem tQ.ov(h:tQ σ t a o o' x')(hw:PW σ)(f:FM):((σ.cN a o').aO t x').ov t f=(σ.ov t f).put o.ser (σ.mo o'):=by
 have txt:((σ.cN a o').aO t x').tx t=x':=aV _ _ _;have hw':=hw.dN h;have mo:∀q:Ob,(∀p∈q.ps,p=0\/∃q',σ.ob p=some q')->((σ.cN a o').aO t x').mo q=σ.mo q:=λq hq=>h.r_.mo hw.z hw'.z hq;funext s
 by_cases e:s=(o.ser:Int)
 ·subst e;obtain⟨k,k1,k2⟩:=h.ha;have ha:((σ.cN a o').aO t x').ob k.at_=some o':=by rw[k2];exact kl _ _ _
  have:=j_ hw' f (by rw[txt];exact k1) ha;rw[h.ser] at this;rw[this,FM.BT,mo o' h.ps]
 ·rw[FM.KV _ _ e]
  by_cases e2:∃q,(∃y∈(σ.tx t).holds,σ.ob y.at_=some q)/\(q.ser:Int)=s
  ·obtain⟨q,⟨y,hy,hq⟩,rfl⟩:=e2;have ne:y.at_≠a:=λe3=>by rw[e3,h.ho] at hq;injection hq with hq;subst hq;exact e rfl
   rw[j_ hw f hy hq,j_ hw' f (by rw[txt];exact h.h0 y hy) ((kW _ _ ne).trans hq),mo q (hw.ps _ _ hq)]
  ·rw[lz f (λy hy q hq he=>e2 ⟨q,⟨y,hy,hq⟩,he⟩),lz f (λy hy q hq he=>?_)];rw[txt] at hy;rcases h.back hq with ⟨_,rfl⟩|⟨e3,h1⟩
   ·exact e (by rw[<-he,h.ser])
   ·rcases h.h1 y hy with h2|h2
    ·exact e2 ⟨q,⟨y,h2,h1⟩,he⟩
    ·exact e3 h2
theorem tQ.cp(h:tQ σ t a o o' x'){f:FM}(c:Cp ((σ.cN a o').aO t x') M t f):Cp σ M t f:=by
 have txt:((σ.cN a o').aO t x').tx t=x':=aV _ _ _;obtain⟨c1,c2,c3⟩:=c;rw[txt,h.xs] at c1 c2;rw[txt] at c3;rw[h.xr] at c2;refine⟨c1,λb hb q hq hs=>?_,λy hy q hq=>?_⟩
 ·obtain⟨q',h1,h2⟩:=h.r_ b q hq;have:=c2 b hb q' h1 (by rw[h2];exact hs)
  rwa [h2] at this
 ·obtain⟨q',h1,h2⟩:=h.r_ _ q hq;have:=c3 y (h.h0 y hy) q' h1
  rwa [h2,h.xs] at this
theorem TI.dN{R V:aE}{Q:List Dd}{aJ:List Ac}(hi:TI σ M t R V Q aJ)(hw:PW σ)(h:tQ σ t a o o' x')(hn:∀p∈o'.ps,Kn σ M t p) :
 (∀p∈R,Kn ((σ.cN a o').aO t x') M t p)/\(∀p∈V,KM ((σ.cN a o').aO t x') (M (((σ.cN a o').aO t x').tx t).start) p)/\(∀y∈(((σ.cN a o').aO t x').tx t).holds,∀q,((σ.cN a o').aO t x').ob y.at_=some q->∀p∈q.ps,Kn ((σ.cN a o').aO t x') M t p) /\
 ∀f,Cp ((σ.cN a o').aO t x') M t f->Cp σ M t f/\dV Q aJ 0 (f,V.map λp=>(((σ.cN a o').aO t x').fh p:Int))=some (σ.ov t f,R.map λp=>(((σ.cN a o').aO t x').fh p:Int)):=by
 have txt:((σ.cN a o').aO t x').tx t=x':=aV _ _ _;refine⟨λp hp=>h.kn (hi.kr p hp),λp hp=>by rw[txt,h.xs];exact h.r_.km (hi.kv p hp),λy hy q hq p hp=>?_,λf hf=>?_⟩
 ·rw[txt] at hy;rcases h.back hq with ⟨_,rfl⟩|⟨e,h1⟩
  ·exact h.kn (hn p hp)
  ·rcases h.h1 y hy with h2|h2
   ·exact h.kn (hi.kh y h2 q h1 p hp)
   ·exact absurd h2 e
 ·have c:=h.cp hf;refine⟨c,?_⟩;rw[h.r_.map hw.z (h.z hw) (λp hp=>(hi.kv p hp).here),h.r_.map hw.z (h.z hw) (λp hp=>(hi.kr p hp).here hw)];exact hi.MA f c
end
end
section
structure jP(σ:PS)(t a:Nat)(o:Ob)(x':PT):Prop where
 no:σ.ob a=none
 a0:a≠0
 lv:(σ.tx t).live=true
 ser:o.ser=σ.ser+1
 lp:o.ps.length=o.p
 ln:o.ns.length=o.d
 ps:∀p∈o.ps,p=0\/∃q,σ.ob p=some q
 xl:x'.live=true
 xs:x'.start=(σ.tx t).start
 xr:x'.reads=(σ.tx t).reads
 xu:x'.aQ=(σ.tx t).aQ
 hd:(o.snd=2*t+1/\x'.holds=(σ.tx t).holds++[⟨a,0⟩])\/(o.snd=0/\x'.holds=(σ.tx t).holds)
section
variable {σ:PS}{M:Nat->FM}{t a:Nat}{o:Ob}{x':PT}
theorem jP.back{b:Nat}{q:Ob}(hq:((σ.lay a o).aO t x').ob b=some q):(b=a/\q=o)\/(b≠a/\σ.ob b=some q):=by
 have hq:(if b=a then some o else σ.ob b)=some q:=hq
 by_cases e:b=a
 ·rw[if_pos e] at hq;injection hq with hq;exact .inl ⟨e,hq.symm⟩
 ·rw[if_neg e] at hq;exact .inr ⟨e,hq⟩
theorem jP.ne(h:jP σ t a o x'){b:Nat}{q:Ob}(hq:σ.ob b=some q):b≠a:=λe=>by rw[e,h.no] at hq;cases hq
theorem jP.to(h:jP σ t a o x'){b:Nat}{q:Ob}(hq:σ.ob b=some q):((σ.lay a o).aO t x').ob b=some q:=(if_neg (h.ne hq)).trans hq
theorem jP.self:((σ.lay a o).aO t x').ob a=some o:=if_pos rfl
theorem jP.r_(h:jP σ t a o x'):qE σ ((σ.lay a o).aO t x'):=λb q hq=>⟨q,h.to hq,rfl⟩
theorem jP.z(h:jP σ t a o x')(hw:PW σ):((σ.lay a o).aO t x').ob 0=none:=(if_neg (Ne.symm h.a0)).trans hw.z
theorem jP.hold(h:jP σ t a o x'){y:Hd}(hy:y∈x'.holds):y∈(σ.tx t).holds\/(y=⟨a,0⟩/\o.snd=2*t+1):=by
 rcases h.hd with ⟨h1,h2⟩|⟨_,h2⟩
 ·rw[h2] at hy;rcases mD.1 hy with h3|h3
  ·exact .inl h3
  ·exact .inr ⟨by simpa using h3,h1⟩
 ·rw[h2] at hy;exact .inl hy
theorem jP.cC(h:jP σ t a o x'){y:Hd}(hy:y∈(σ.tx t).holds):y∈x'.holds:=by
 rcases h.hd with ⟨h1,h2⟩|⟨_,h2⟩
 ·rw[h2];exact List.mem_append_left _ hy
 ·rw[h2];exact hy
theorem PW.lay(hw:PW σ)(h:jP σ t a o x'):PW ((σ.lay a o).aO t x'):=by
 have sk:=h.r_;have Cf:∀u,u≠t->((σ.lay a o).aO t x').tx u=σ.tx u:=λu hu=>bN _ _ hu;have txt:((σ.lay a o).aO t x').tx t=x':=aV _ _ _;refine⟨h.z hw,λb q hq=>?_,λb c q r hq hr e=>?_,λb q hq p hp=>?_,λb q hq=>?_,λu y hy=>?_,λu y hy y' xh e=>?_,λu y hy=>?_,λu hu=>?_,λu hu=>?_⟩
 ·show 1<=q.ser/\q.ser<=σ.ser+1;rcases jP.back hq with ⟨rfl,rfl⟩|⟨_,h1⟩
  ·have:=h.ser;omega
  ·have:=hw.sr b q h1;omega
 ·rcases jP.back hq with ⟨rfl,rfl⟩|⟨_,h1⟩
  ·rcases jP.back hr with ⟨rfl,rfl⟩|⟨_,h2⟩
   ·rfl
   ·have:=hw.sr c r h2;have:=h.ser;omega
  ·rcases jP.back hr with ⟨rfl,rfl⟩|⟨_,h2⟩
   ·have:=hw.sr b q h1;have:=h.ser;omega
   ·exact hw.inj b c q r h1 h2 e
 ·have:p=0\/∃q,σ.ob p=some q:=by
   rcases jP.back hq with ⟨rfl,rfl⟩|⟨_,h1⟩
   ·exact h.ps p hp
   ·exact hw.ps b q h1 p hp
  rcases this with e|⟨r,hr⟩
  ·exact .inl e
  ·exact .inr ⟨r,h.to hr⟩
 ·rcases jP.back hq with ⟨rfl,rfl⟩|⟨_,h1⟩
  ·exact⟨h.lp,h.ln⟩
  ·exact hw.ln b q h1
 ·by_cases e:u=t
  ·subst e;rw[txt] at hy ⊢;refine⟨h.xl,?_⟩;rcases h.hold hy with h1|⟨rfl,h1⟩
   ·obtain⟨_,q,h2,h3⟩:=hw.hs u y h1;exact⟨q,h.to h2,h3⟩
   ·exact⟨o,jP.self,h1⟩
  ·rw[Cf u e] at hy ⊢;obtain⟨h1,q,h2,h3⟩:=hw.hs u y hy;exact⟨h1,q,h.to h2,h3⟩
 ·by_cases e1:u=t
  ·subst e1;rw[txt] at hy xh
   have at_:∀z∈(σ.tx u).holds,z.at_≠a:=λz hz=>by
    obtain⟨_,q,h2,h3⟩:=hw.hs u z hz;exact h.ne h2
   rcases h.hold hy with h1|⟨h1,_⟩ <;> rcases h.hold xh with h2|⟨h2,_⟩
   ·exact hw.nd u y h1 y' h2 e
   ·subst h2;exact absurd e (at_ y h1)
   ·subst h1;exact absurd e.symm (at_ y' h2)
   ·rw[h1,h2]
  ·rw[Cf u e1] at hy xh;exact hw.nd u y hy y' xh e
 ·have key:∀v,∀y∈(σ.tx v).aQ,∃k∈(σ.tx v).holds,k.at_=y.at_/\∀q,((σ.lay a o).aO t x').ob k.at_=some q->nF ((σ.lay a o).aO t x') q y:=λv y hy=>by
   obtain⟨k,k1,k2,k3⟩:=hw.us v y hy;obtain⟨_,q,h2,h3⟩:=hw.hs v k k1;refine⟨k,k1,k2,λr hr=>?_⟩;rw[h.to h2] at hr;injection hr with hr
   subst hr;exact(k3 q h2).mono sk rfl rfl
  by_cases e1:u=t
  ·subst e1;rw[txt] at hy ⊢;rw[h.xu] at hy;obtain⟨k,k1,k2⟩:=key u y hy;exact⟨k,h.cC k1,k2⟩
  ·rw[Cf u e1] at hy ⊢;exact key u y hy
 ·by_cases e1:u=t
  ·subst e1;rw[txt,h.xl] at hu;cases hu
  ·rw[Cf u e1] at hu ⊢;exact hw.lv u hu
 ·by_cases e1:u=t
  ·subst e1;rw[txt,h.xs];exact hw.st u h.lv
  ·rw[Cf u e1] at hu ⊢;exact hw.st u hu
theorem PW.Hm(hw:PW σ)(v:Nat){b:Nat}{q:Ob}(hq:σ.ob b=some q):∀p∈(pj (σ.tx v).aQ b q).ps,p=0\/∃q',σ.ob p=some q':=by
 have JZ:∀u∈(σ.tx v).aQ,u.kind=1->u.cC=0\/∃q',σ.ob u.cC.toNat=some q':=λu hu hk=>by
  obtain⟨k,k1,k2,k3⟩:=hw.us v u hu;obtain⟨_,q,hq,_⟩:=hw.hs v k k1;rcases k3 q hq with h1|h1|h1
  ·exact h1.2.2.2.2
  ·omega
  ·omega
 revert JZ
 generalize (σ.tx v).aQ=l
 induction l with
 | nil=>exact λ_=>hw.ps b q hq
 | cons u l ih=>
   intro hu p hp;have ih:=ih (λv hv=>hu v (.tail _ hv));have hp:p∈(sg u b (pj l b q)).ps:=hp;unfold sg at hp;split at hp
   ·split at hp
    ·rename_i hk;rcases List.mem_or_eq_of_mem_set hp with h1|h1
     ·exact ih p h1
     ·rcases hu u (.head _) hk with h2|h2
      ·left;rw[h1,h2];rfl
      ·right;rw[h1];exact h2
    ·split at hp <;> exact ih p hp
   ·exact ih p hp
theorem GM.new(hg:GM σ M)(hw:PW σ){u:Nat}(hu:u<=σ.now):M u ((σ.ser+1:Nat):Int)=none:=Classical.byContradiction λe=>by
 obtain⟨b,q,h1,h2⟩:=hg.mf u hu _ e;have:=hw.sr b q h1;omega
theorem GM.lay(hg:GM σ M)(hw:PW σ)(h:jP σ t a o x'):GM ((σ.lay a o).aO t x') M:=by
 have sk:=h.r_;have hz:=h.z hw;have Cf:∀u,u≠t->((σ.lay a o).aO t x').tx u=σ.tx u:=λu hu=>bN _ _ hu;have txt:((σ.lay a o).aO t x').tx t=x':=aV _ _ _;have mo:∀q:Ob,(∀p∈q.ps,p=0\/∃q',σ.ob p=some q')->((σ.lay a o).aO t x').mo q=σ.mo q:=λq hq=>sk.mo hw.z hz hq;have new:∀u,u<=σ.now->M u o.ser=none:=λu hu=>by rw[h.ser];exact hg.new hw hu
 have hold:∀u,∀y∈(σ.tx u).holds,∀q,((σ.lay a o).aO t x').ob y.at_=some q->σ.ob y.at_=some q:=λu y hy q hq=>by
  obtain⟨_,r,h1,h2⟩:=hw.hs u y hy;rw[h.to h1] at hq;rw[h1];exact hq
 refine⟨λb q v hq hs=>?_,λb q u hq hs=>?_,λu y hy q hq=>?_,hg.cl,hg.mm,λu hu s hs=>?_⟩
 ·rcases jP.back hq with ⟨rfl,rfl⟩|⟨_,h1⟩
  ·rcases h.hd with ⟨h2,_⟩|⟨h2,_⟩
   ·omega
   ·have:v=0:=by omega
    subst this;exact⟨cK _,λ_ u hu=>new u hu,λh=>by omega⟩
  ·obtain⟨g1,g2,g3⟩:=hg.un b q v h1 hs;exact⟨g1,g2,λh3 u h4 h5=>by rw[g3 h3 u h4 h5,mo q (hw.ps b q h1)]⟩
 ·rcases jP.back hq with ⟨rfl,rfl⟩|⟨e,h1⟩
  ·rcases h.hd with ⟨h2,h3⟩|⟨h2,h3⟩
   ·have:u=t:=by omega
    subst this;rw[txt,h3];exact⟨⟨b,0⟩,by simp,rfl⟩
   ·omega
  ·obtain⟨k,k1,k2⟩:=hg.ex b q u h1 hs
   by_cases e1:u=t
   ·subst e1;rw[txt];exact⟨k,h.cC k1,k2⟩
   ·rw[Cf u e1];exact⟨k,k1,k2⟩
 ·by_cases e1:u=t
  ·subst e1;rw[txt] at hy ⊢;rw[h.xs,h.xu];rcases h.hold hy with h1|⟨rfl,h1⟩
   ·have JQ:=hold u y h1 q hq;obtain⟨g1,g2,g3,g4⟩:=hg.hd u y h1 q JQ;exact⟨g1,g2,g3,λh3 v h4 h5=>by rw[g4 h3 v h4 h5,mo _ (hw.Hm u JQ)]⟩
   ·rw[jP.self] at hq;injection hq with hq;subst hq
    exact⟨Int.le_refl _,by show(0:Int)<=_;omega,λ_=>new,λh=>by have h:(1:Int)<=0:=h;omega⟩
  ·rw[Cf u e1] at hy ⊢;have JQ:=hold u y hy q hq;obtain⟨g1,g2,g3,g4⟩:=hg.hd u y hy q JQ;exact⟨g1,g2,g3,λh3 v h4 h5=>by rw[g4 h3 v h4 h5,mo _ (hw.Hm u JQ)]⟩
 ·obtain⟨b,q,h1,h2⟩:=hg.mf u hu s hs;exact⟨b,q,h.to h1,h2⟩
theorem jP.GW{R V:aE}{Q:List Dd}{aJ:List Ac}(h:jP σ t a o x')(hw:PW σ){u:Nat}(hu:u≠t)(hi:TI σ M u R V Q aJ):TI ((σ.lay a o).aO t x') M u R V Q aJ:=
 hi.frame hw (h.z hw) (bN _ _ hu) h.r_ (λy hy=>by
  obtain⟨_,r,h1,h2⟩:=hw.hs u y hy
  rw[h.to h1,h1]) rfl
theorem jP.kn(h:jP σ t a o x'){p:Nat}(k:Kn σ M t p):Kn ((σ.lay a o).aO t x') M t p:=by
 have txt:((σ.lay a o).aO t x').tx t=x':=aV _ _ _;rcases k with k|⟨y,h1,h2,h3⟩
 ·exact .inl (by rw[txt,h.xs];exact h.r_.km k)
 ·exact .inr ⟨y,by rw[txt];exact h.cC h1,h2,h3⟩
theorem jP.ov(h:jP σ t a o x')(hw:PW σ)(hs:o.snd=2*t+1)(f:FM):((σ.lay a o).aO t x').ov t f=(σ.ov t f).put o.ser (σ.mo o):=by
 have txt:((σ.lay a o).aO t x').tx t=x':=aV _ _ _;have hw':=hw.lay h
 have hold:x'.holds=(σ.tx t).holds++[⟨a,0⟩]:=by
  rcases h.hd with ⟨_,h2⟩|⟨h2,_⟩
  ·exact h2
  ·omega
 have mo:∀q:Ob,(∀p∈q.ps,p=0\/∃q',σ.ob p=some q')->((σ.lay a o).aO t x').mo q=σ.mo q:=λq hq=>h.r_.mo hw.z hw'.z hq;funext s
 by_cases e:s=(o.ser:Int)
 ·subst e;have:=j_ hw' f (h:=⟨a,0⟩) (by rw[txt,hold];simp) jP.self;rw[this,FM.BT,mo o h.ps]
 ·rw[FM.KV _ _ e]
  by_cases e2:∃q,(∃y∈(σ.tx t).holds,σ.ob y.at_=some q)/\(q.ser:Int)=s
  ·obtain⟨q,⟨y,hy,hq⟩,rfl⟩:=e2;rw[j_ hw f hy hq,j_ hw' f (by rw[txt];exact h.cC hy) (h.to hq),mo q (hw.ps _ _ hq)]
  ·rw[lz f (λy hy q hq he=>e2 ⟨q,⟨y,hy,hq⟩,he⟩),lz f (λy hy q hq he=>?_)];rw[txt] at hy;rcases h.hold hy with h1|⟨rfl,_⟩
   ·obtain⟨_,r,h3,_⟩:=hw.hs t y h1;rw[h.to h3] at hq;injection hq with hq;subst hq
    exact e2 ⟨_,⟨y,h1,h3⟩,he⟩
   ·rw[jP.self] at hq;injection hq with hq;subst hq
    exact e he.symm
theorem jP.cp(h:jP σ t a o x')(hw:PW σ){f:FM}(c:Cp ((σ.lay a o).aO t x') M t f):Cp σ M t f/\(o.snd=2*t+1->f o.ser=none):=by
 have txt:((σ.lay a o).aO t x').tx t=x':=aV _ _ _;obtain⟨c1,c2,c3⟩:=c;rw[txt,h.xs] at c1 c2;rw[txt] at c3;rw[h.xr] at c2;refine⟨⟨c1,λb hb q hq hs=>c2 b hb q (h.to hq) hs,λy hy q hq=>?_⟩,λhs=>?_⟩
 ·have:=c3 y (h.cC hy) q (h.to hq)
  rwa [h.xs] at this
 ·rcases h.hd with ⟨_,h2⟩|⟨h2,_⟩
  ·exact(c3 ⟨a,0⟩ (by rw[h2];simp) o jP.self).1 rfl
  ·omega
end
end
section
section
variable {σ:PS}{M:Nat->FM}{t:Nat}{R V:aE}{Q:List Dd}{aJ:List Ac}
theorem XL(σ:PS){o:Ob}{p:Nat}(h:p∈o.ps):(σ.fh p:Int)∈(σ.mo o).ps:=List.mem_map.2 ⟨p,h,rfl⟩
theorem TI.see(hi:TI σ M t R V Q aJ)(hw:PW σ)(hg:GM σ M)(hl:(σ.tx t).live=true){a:Nat}(ka:Kn σ M t a){o:Ob}(ho:σ.ob a=some o)(ow:gO σ t o) :
 (∀f,Cp σ M t f->(a∈(σ.tx t).reads)->σ.ov t f o.ser=some (σ.mo o))/\(∀p∈o.ps,Kn σ M t p)/\(∀v,o.snd=2*v->M (σ.tx t).start o.ser=some (σ.mo o)/\1<=v):=by
 have cy:=hw.st t hl;rcases ow with hs|⟨v,hs,hv⟩
 ·obtain⟨y,y1,y2⟩:=hg.ex a o t ho hs;subst y2;exact⟨λf _ _=>j_ hw f y1 ho,hi.kh y y1 o ho,λv hv=>by omega⟩
 ·have hk:M (σ.tx t).start o.ser≠none:=by
   rcases ka with k|⟨y,y1,y2,_⟩
   ·rcases k with rfl|⟨o',h1,h2⟩
    ·rw[hw.z] at ho;cases ho
    ·rw[ho] at h1;injection h1 with h1;subst h1;exact h2
   ·obtain⟨_,o',h1,h2⟩:=hw.hs t y y1;rw[y2,ho] at h1;injection h1 with h1;subst h1;omega
  obtain⟨g1,g2,g3⟩:=hg.un a o v ho hs
  have v1:1<=v:=by
   rcases Nat.eq_zero_or_pos v with e|e
   ·exact absurd (g2 e _ cy) hk
   ·exact e
  have hm:=g3 v1 _ hv cy;refine⟨λf hf hr=>?_,λp hp=>?_,λv' Oi=>⟨hm,by omega⟩⟩
  ·rw[lz f (λy hy q hq he=>?_),hf.r a hr o ho hk,hm];obtain⟨_,q',h1,h2⟩:=hw.hs t y hy;rw[hq] at h1;injection h1 with h1;subst h1
   have e:=hw.inj _ _ _ _ hq ho (by omega);rw[e,ho] at hq;injection hq with hq;subst hq
   omega
  ·rcases hw.ps a o ho p hp with e|⟨o',h1⟩
   ·exact .inl (.inl e)
   ·refine .inl (.inr ⟨o',h1,?_⟩);rcases hg.cl _ cy _ _ hm _ (XL σ hp) with e|e
    ·rw[PS.h_ h1] at e;have:=(hw.sr p o' h1).1;omega
    ·rwa [PS.h_ h1] at e
theorem Cp.start(hw:PW σ)(hg:GM σ M)(hl:(σ.tx t).live=true):Cp σ M t (M (σ.tx t).start):=
 ⟨λ_ h=>h,λ_ _ _ _ _=>rfl,λy hy o ho=>⟨λh=>(hg.hd t y hy o ho).2.2.1 h _ (hw.st t hl),λ_=>rfl⟩⟩
theorem Cp.now(hw:PW σ)(hg:GM σ M)(hl:(σ.tx t).live=true)(hr:∀a∈(σ.tx t).reads,∀o,σ.ob a=some o->gO σ t o):Cp σ M t (M σ.now):=by
 have cy:=hw.st t hl
 have key:∀y∈(σ.tx t).holds,∀o,σ.ob y.at_=some o->1<=y.bt->M σ.now o.ser=M (σ.tx t).start o.ser:=λy hy o ho hv=>by
  obtain⟨_,g2,_,g4⟩:=hg.hd t y hy o ho;rw[g4 hv _ (by omega) (aM _),g4 hv _ g2 cy]
 refine⟨λs hs=>hg.mm _ _ cy (aM _) s hs,λa ha o ho hs=>?_,λy hy o ho=>⟨λh=>(hg.hd t y hy o ho).2.2.1 h _ (aM _),key y hy o ho⟩⟩;rcases hr a ha o ho with h1|⟨v,h1,h2⟩
 ·obtain⟨y,y1,y2⟩:=hg.ex a o t ho h1;subst y2;obtain⟨g1,g2,g3,_⟩:=hg.hd t y y1 o ho;rcases Int.lt_or_eq_of_le g1 with e|e
  ·exact key y y1 o ho (by omega)
  ·exact absurd (g3 e.symm _ cy) hs
 ·obtain⟨g1,g2,g3⟩:=hg.un a o v ho h1;rcases Nat.eq_zero_or_pos v with e|e
  ·exact absurd (g2 e _ cy) hs
  ·rw[g3 e _ (by omega) (aM _),g3 e _ h2 cy]
def EdO(σ:PS)(t:Nat)(G:Hd->Ob->Ob->Prop)(σ':PS):Prop:=∀p q,σ'.ob p=some q->(σ.ob p=some q/\q.snd≠2*t+1)\/∃h∈(σ.tx t).holds,h.at_=p/\∃o,σ.ob p=some o/\G h o q
theorem sj.cases{σ':PS}(h:sj σ t σ')(hg:GM σ M)(G:Hd->Ob->Ob->Prop)(h2:∀h∈(σ.tx t).holds,∀o,σ.ob h.at_=some o->∃q,σ'.ob h.at_=some q/\G h o q):EdO σ t G σ':=λp q hq=>by
 cases e:σ.ob p with
 | none=>rw[h.o4 p e] at hq;cases hq
 | some o=>
   by_cases hs:o.snd=2*t+1
   ·obtain⟨y,y1,y2⟩:=hg.ex p o t e hs;subst y2;obtain⟨q',k1,k2⟩:=h2 y y1 o e;rw[hq] at k1;injection k1 with k1;subst k1
    exact .inr ⟨y,y1,rfl,o,e.symm ▸ rfl,k2⟩
   ·rw[h.o1 p o e hs] at hq;injection hq with hq;subst hq
    exact .inl ⟨rfl,hs⟩
theorem sj.r_{σ':PS}(h:sj σ t σ')(hg:GM σ M)(h2:∀h∈(σ.tx t).holds,∀o,σ.ob h.at_=some o->∃q,σ'.ob h.at_=some q/\q.ser=o.ser):qE σ σ':=λp o ho=>by
 by_cases hs:o.snd=2*t+1
 ·obtain⟨y,y1,y2⟩:=hg.ex p o t ho hs;subst y2;obtain⟨q,k1,k2⟩:=h2 y y1 o ho;exact⟨q,k1,k2⟩
 ·exact⟨o,h.o1 p o ho hs,rfl⟩
theorem PW.ended{σ':PS}{G:Hd->Ob->Ob->Prop}(hw:PW σ)(h:sj σ t σ')(sk:qE σ σ')(he:EdO σ t G σ')(hn:σ.now<=σ'.now)(hG:∀y o q,G y o q->q.ser=o.ser/\q.ps.length=o.ps.length/\q.ns.length=o.ns.length/\q.p=o.p/\q.d=o.d)(hp:∀y∈(σ.tx t).holds,∀o q,σ.ob y.at_=some o->G y o q->∀p∈q.ps,p=0\/∃r,σ.ob p=some r):PW σ':=by
 have D4:∀p q,σ'.ob p=some q->∃o,σ.ob p=some o/\o.ser=q.ser:=λp q hq=>by
  rcases he p q hq with ⟨h1,_⟩|⟨y,_,_,o,h1,h2⟩
  ·exact⟨q,h1,rfl⟩
  ·exact⟨o,h1,(hG _ _ _ h2).1.symm⟩
 have hold:∀u,u≠t->∀y∈(σ.tx u).holds,∃q,σ.ob y.at_=some q/\σ'.ob y.at_=some q/\q.snd=2*u+1:=λu hu y hy=>by
  obtain⟨_,q,h1,h2⟩:=hw.hs u y hy;exact⟨q,h1,h.o1 _ q h1 (by omega),h2⟩
 refine⟨h.o4 0 hw.z,λb q hq=>?_,λb c q r hq hr e=>?_,λb q hq p UE=>?_,λb q hq=>?_,λu y hy=>?_,λu y hy y' xh e=>?_,λu y hy=>?_,λu hu=>?_,λu hu=>?_⟩
 ·obtain⟨o,h1,h2⟩:=D4 b q hq;rw[<-h2,h.se];exact hw.sr b o h1
 ·obtain⟨o,h1,h2⟩:=D4 b q hq;obtain⟨o',h3,h4⟩:=D4 c r hr;exact hw.inj b c o o' h1 h3 (by omega)
 ·have:p=0\/∃r,σ.ob p=some r:=by
   rcases he b q hq with ⟨h1,_⟩|⟨y,y1,y2,o,h1,h2⟩
   ·exact hw.ps b q h1 p UE
   ·subst y2;exact hp y y1 o q h1 h2 p UE
  rcases this with e|⟨r,hr⟩
  ·exact .inl e
  ·obtain⟨r',k1,_⟩:=sk p r hr;exact .inr ⟨r',k1⟩
 ·rcases he b q hq with ⟨h1,_⟩|⟨y,y1,y2,o,h1,h2⟩
  ·exact hw.ln b q h1
  ·obtain⟨g1,g2,g3,g4,g5⟩:=hG _ _ _ h2;rw[g2,g3,g4,g5];exact hw.ln b o h1
 ·by_cases e:u=t
  ·subst e;rw[h.th] at hy;cases hy
  ·rw[h.ot u e] at hy ⊢;obtain⟨q,_,k2,k3⟩:=hold u e y hy;exact⟨(hw.hs u y hy).1,q,k2,k3⟩
 ·by_cases e1:u=t
  ·subst e1;rw[h.th] at hy;cases hy
  ·rw[h.ot u e1] at hy xh;exact hw.nd u y hy y' xh e
 ·by_cases e:u=t
  ·subst e;rw[h.tu] at hy;cases hy
  ·rw[h.ot u e] at hy ⊢;obtain⟨k,k1,k2,k3⟩:=hw.us u y hy;refine⟨k,k1,k2,λr hr=>?_⟩;obtain⟨q,l1,l2,_⟩:=hold u e k k1;rw[l2] at hr;injection hr with hr;subst hr
   exact(k3 q l1).mono sk rfl rfl
 ·by_cases e:u=t
  ·subst e;exact⟨h.th,h.tu,h.tr⟩
  ·rw[h.ot u e] at hu ⊢;exact hw.lv u hu
 ·by_cases e:u=t
  ·subst e;rw[h.tl] at hu;cases hu
  ·rw[h.ot u e] at hu ⊢;exact fH (hw.st u hu) hn
theorem sj.GW{σ':PS}{M':Nat->FM}(h:sj σ t σ')(hw:PW σ)(sk:qE σ σ'){u:Nat}(hu:u≠t){R V:aE}{Q:List Dd}{aJ:List Ac}(hm:M' (σ.tx u).start=M (σ.tx u).start)(hi:TI σ M u R V Q aJ):TI σ' M' u R V Q aJ:=
 hi.frame hw (h.o4 0 hw.z) (h.ot u hu) sk (λy hy=>by
  obtain⟨_,q,h1,h2⟩:=hw.hs u y hy
  rw[h.o1 _ q h1 (by omega),h1]) hm
theorem PD.law{σ':PS}(h:PD σ t σ')(hw:PW σ)(hg:GM σ M):PW σ'/\GM σ' M/\qE σ σ':=by
 have h2:∀y∈(σ.tx t).holds,∀o,σ.ob y.at_=some o->∃q,σ'.ob y.at_=some q/\((1<=y.bt/\q = { pj (σ.tx t).aQ y.at_ o with snd:=2*y.bt.toNat })\/(y.bt=0/\q = { pj (σ.tx t).aQ y.at_ o with snd:=0,fr:=true })):=λy hy o ho=>by
  rcases Int.lt_or_eq_of_le (hg.hd t y hy o ho).1 with e|e
  ·exact⟨_,h.o2 y hy o ho (by omega),.inl ⟨by omega,rfl⟩⟩
  ·exact⟨_,h.o3 y hy o ho e.symm,.inr ⟨e.symm,rfl⟩⟩
 have hG:∀ (y:Hd) (o q:Ob),((1<=y.bt/\q = { pj (σ.tx t).aQ y.at_ o with snd:=2*y.bt.toNat })\/(y.bt=0/\q = { pj (σ.tx t).aQ y.at_ o with snd:=0,fr:=true }))->q.ser=o.ser/\q.ps.length=o.ps.length/\q.ns.length=o.ns.length/\q.p=o.p/\q.d=o.d/\q.ps=(pj (σ.tx t).aQ y.at_ o).ps:=λy o q e=>by
  have s:=uY (σ.tx t).aQ y.at_ o;rcases e with ⟨_,rfl⟩|⟨_,rfl⟩ <;> exact⟨s.ser,s.lp,s.ln,s.p,s.d,rfl⟩
 have he:=h.tosj.cases hg _ h2
 have sk:=h.tosj.r_ hg (λy hy o ho=>by
  obtain⟨q,k1,k2⟩:=h2 y hy o ho
  exact⟨q,k1,(hG y o q k2).1⟩)
 have hw':=hw.ended h.tosj sk he (Nat.le_of_eq h.nw.symm) (λy o q e=>⟨(hG y o q e).1,(hG y o q e).2.1,(hG y o q e).2.2.1,(hG y o q e).2.2.2.1,(hG y o q e).2.2.2.2.1⟩) (λy hy o q ho e p hp=>by
  rw[(hG y o q e).2.2.2.2.2] at hp
  exact hw.Hm t ho p hp)
 have mo:∀q:Ob,(∀p∈q.ps,p=0\/∃q',σ.ob p=some q')->σ'.mo q=σ.mo q:=λq hq=>sk.mo hw.z hw'.z hq;refine⟨hw',⟨λa o v ho hs=>?_,λa o u ho hs=>?_,λu y hy o ho=>?_,by rw[h.nw];exact hg.cl,by rw[h.nw];exact hg.mm,λu hu s hs=>?_⟩,sk⟩
 ·rw[h.nw];rcases he a o ho with ⟨h1,_⟩|⟨y,y1,y2,o0,h1,h3⟩
  ·obtain⟨g1,g2,g3⟩:=hg.un a o v h1 hs;exact⟨g1,g2,λe u h4 h5=>by rw[g3 e u h4 h5,mo o (hw.ps a o h1)]⟩
  ·subst y2;obtain⟨g1,g2,g3,g4⟩:=hg.hd t y y1 o0 h1;have cy:=hw.st t h.lv;have hse:=(hG y o0 o h3).1;rcases h3 with ⟨k1,rfl⟩|⟨k1,rfl⟩
   ·have hv:v=y.bt.toNat:=by have hs:2*y.bt.toNat=2*v:=hs;omega
    subst hv;rw[hse];exact⟨by omega,λe=>by omega,λ_ u h4 h5=>by rw[g4 k1 u (by omega) h5];exact congrArg some (mo _ (hw.Hm t h1)).symm⟩
   ·have hv:v=0:=by have hs:0=2*v:=hs;omega
    subst hv;rw[hse];exact⟨cK _,λ_=>g3 k1,λe=>by omega⟩
 ·rcases he a o ho with ⟨h1,h3⟩|⟨y,y1,y2,o0,h1,h3⟩
  ·have e:u≠t:=λe=>h3 (e ▸ hs);rw[h.ot u e];exact hg.ex a o u h1 hs
  ·rcases h3 with ⟨_,rfl⟩|⟨_,rfl⟩
   ·have hs:2*y.bt.toNat=2*u+1:=hs;omega
   ·have hs:0=2*u+1:=hs;omega
 ·have e:u≠t:=λe=>by subst e;rw[h.th] at hy;cases hy
  rw[h.ot u e] at hy ⊢;obtain⟨_,q,k1,k2⟩:=hw.hs u y hy;rw[h.o1 _ q k1 (by omega)] at ho;injection ho with ho;subst ho
  obtain⟨g1,g2,g3,g4⟩:=hg.hd u y hy _ k1;rw[h.nw];exact⟨g1,g2,g3,λe v h4 h5=>by rw[g4 e v h4 h5,mo _ (hw.Hm u k1)]⟩
 ·rw[h.nw] at hu;obtain⟨b,q,h1,h3⟩:=hg.mf u hu s hs;obtain⟨q',k1,k2⟩:=sk b q h1;exact⟨b,q',k1,by rw[k2];exact h3⟩
theorem xC(σ:PS)(t:Nat){f:FM}{s:Int}(h:f s≠none):σ.ov t f s≠none:=by
 unfold PS.ov;split
 ·intro e;cases e
 ·exact h
theorem YL.law{σ':PS}(h:YL σ t σ')(hw:PW σ)(hg:GM σ M)(hkh:∀y∈(σ.tx t).holds,∀o,σ.ob y.at_=some o->∀p∈o.ps,Kn σ M t p) :
 PW σ'/\GM σ' (λu=>if u=σ.now+1 then σ.ov t (M σ.now) else M u)/\qE σ σ':=by
 have h2:∀y∈(σ.tx t).holds,∀o,σ.ob y.at_=some o->∃q,σ'.ob y.at_=some q/\q = { o with snd:=2*(σ.now+1) }:=λy hy o ho=>⟨_,h.o2 y hy o ho,rfl⟩;have he:=h.tosj.cases hg _ h2;have sk:=h.tosj.r_ hg (λy hy o ho=>⟨_,h.o2 y hy o ho,rfl⟩);have hw':=hw.ended h.tosj sk he (by rw[h.nw];omega) (λy o q e=>by subst e;exact⟨rfl,rfl,rfl,rfl,rfl⟩) (λy hy o q ho e p hp=>by subst e;exact hw.ps _ o ho p hp);have mo:∀q:Ob,(∀p∈q.ps,p=0\/∃q',σ.ob p=some q')->σ'.mo q=σ.mo q:=λq hq=>sk.mo hw.z hw'.z hq;have cy:=hw.st t h.lv;have lo:∀u,u<=σ.now->(if u=σ.now+1 then σ.ov t (M σ.now) else M u)=M u:=λu hu=>if_neg (by omega);have hi:(if σ.now+1=σ.now+1 then σ.ov t (M σ.now) else M (σ.now+1))=σ.ov t (M σ.now):=if_pos rfl
 have ovn:∀a o,σ.ob a=some o->o.snd≠2*t+1->∀f:FM,σ.ov t f o.ser=f o.ser:=λa o ho hs f=>lz f λy hy q hq e=>by
  obtain⟨_,q',k1,k2⟩:=hw.hs t y hy;rw[hq] at k1;injection k1 with k1;subst k1
  have:=hw.inj _ _ _ _ hq ho (by omega);rw[this,ho] at hq;injection hq with hq;subst hq
  exact hs k2
 refine⟨hw',⟨λa o v ho hs=>?_,λa o u ho hs=>?_,λu y hy o ho=>?_,λu hu s m hm q hq=>?_,λu u' h1 h3 s hs=>?_,λu hu s hs=>?_⟩,sk⟩
 ·rw[h.nw];rcases he a o ho with ⟨h1,hne⟩|⟨y,y1,y2,o0,h1,rfl⟩
  ·obtain⟨g1,g2,g3⟩:=hg.un a o v h1 hs;refine⟨by omega,λe u hu=>?_,λe u h4 h5=>?_⟩
   ·rcases Nat.lt_or_eq_of_le hu with k|rfl
    ·rw[lo u (by omega)];exact g2 e u (by omega)
    ·rw[hi,ovn a o h1 hne];exact g2 e _ (aM _)
   ·rw[mo o (hw.ps a o h1)];rcases Nat.lt_or_eq_of_le h5 with k|rfl
    ·rw[lo u (by omega)];exact g3 e u h4 (by omega)
    ·rw[hi,ovn a o h1 hne];exact g3 e _ g1 (aM _)
  ·have hv:v=σ.now+1:=by have hs:2*(σ.now+1)=2*v:=hs;omega
   subst hv;refine⟨aM _,λe=>by omega,λ_ u h4 h5=>?_⟩;have:u=σ.now+1:=by omega
   subst this;subst y2;have:=j_ hw (M σ.now) y1 h1;rw[hi];show σ.ov t (M σ.now) o0.ser=_;rw[this];show some (σ.mo o0)=some (σ'.mo o0);rw[mo _ (hw.ps _ o0 h1)]
 ·rcases he a o ho with ⟨h1,h3⟩|⟨y,y1,y2,o0,h1,rfl⟩
  ·have e:u≠t:=λe=>h3 (e ▸ hs);rw[h.ot u e];exact hg.ex a o u h1 hs
  ·have hs:2*(σ.now+1)=2*u+1:=hs;omega
 ·have e:u≠t:=λe=>by subst e;rw[h.th] at hy;cases hy
  rw[h.ot u e] at hy ⊢;obtain⟨hl,q,k1,k2⟩:=hw.hs u y hy;rw[h.o1 _ q k1 (by omega)] at ho;injection ho with ho;subst ho
  obtain⟨g1,g2,g3,g4⟩:=hg.hd u y hy _ k1;have hsu:=hw.st u hl;have hne:=ovn _ _ k1 (show q.snd≠2*t+1 by omega);rw[h.nw];refine⟨g1,g2,λe v hv=>?_,λe v h4 h5=>?_⟩
  ·rcases Nat.lt_or_eq_of_le hv with k|rfl
   ·rw[lo v (by omega)];exact g3 e v (by omega)
   ·rw[hi,hne];exact g3 e _ (aM _)
  ·rw[mo _ (hw.Hm u k1)];rcases Nat.lt_or_eq_of_le h5 with k|rfl
   ·rw[lo v (by omega)];exact g4 e v h4 (by omega)
   ·rw[hi,hne];exact g4 e _ (by omega) (aM _)
 ·rw[h.nw] at hu;rcases Nat.lt_or_eq_of_le hu with k|rfl
  ·rw[lo u (by omega)] at hm ⊢;exact hg.cl u (by omega) s m hm q hq
  ·rw[hi] at hm ⊢
   by_cases e:∃o,(∃h∈(σ.tx t).holds,σ.ob h.at_=some o)/\(o.ser:Int)=s
   ·obtain⟨o,⟨y,hy,ho⟩,rfl⟩:=e;rw[j_ hw _ hy ho] at hm;injection hm with hm;subst hm
    obtain⟨p,hp,rfl⟩:=List.mem_map.1 hq;rcases hkh y hy o ho p hp with k|⟨y',k1,k2,k3⟩
    ·rcases k with rfl|⟨o',k1,k2⟩
     ·left;show(σ.fh 0:Int)=0;rw[PS.oX hw.z];rfl
     ·right;rw[PS.h_ k1];exact xC σ t (hg.mm _ _ cy (aM _) _ k2)
    ·right;obtain⟨_,o',k4,_⟩:=hw.hs t y' k1;rw[<-k2,PS.h_ k4,j_ hw _ k1 k4];intro e;cases e
   ·rw[lz _ (λy hy o ho he=>e ⟨o,⟨y,hy,ho⟩,he⟩)] at hm;rcases hg.cl σ.now (aM _) s m hm q hq with k|k
    ·exact .inl k
    ·exact .inr (xC σ t k)
 ·rw[h.nw] at h3;rcases Nat.lt_or_eq_of_le h3 with k|rfl
  ·rw[lo u (by omega)] at hs;rw[lo u' (by omega)];exact hg.mm u u' h1 (by omega) s hs
  ·rw[hi];rcases Nat.lt_or_eq_of_le h1 with k|rfl
   ·rw[lo u (by omega)] at hs;exact xC σ t (hg.mm u σ.now (by omega) (aM _) s hs)
   ·rw[hi] at hs;exact hs
 ·rw[h.nw] at hu
  have:∃a o,σ.ob a=some o/\(o.ser:Int)=s:=by
   rcases Nat.lt_or_eq_of_le hu with k|rfl
   ·rw[lo u (by omega)] at hs;exact hg.mf u (by omega) s hs
   ·rw[hi] at hs
    by_cases e:∃o,(∃h∈(σ.tx t).holds,σ.ob h.at_=some o)/\(o.ser:Int)=s
    ·obtain⟨o,⟨y,hy,ho⟩,e2⟩:=e;exact⟨_,o,ho,e2⟩
    ·rw[lz _ (λy hy o ho he=>e ⟨o,⟨y,hy,ho⟩,he⟩)] at hs;exact hg.mf _ (aM _) s hs
  obtain⟨a,o,h1,h3⟩:=this;obtain⟨q',k1,k2⟩:=sk a o h1;exact⟨a,q',k1,by rw[k2];exact h3⟩
end
end
theorem abk(n:Int):zt (zg n)=n:=by
 unfold zt zg;split
 ·split <;> omega
 ·split <;> omega
theorem abj(W:Nat):zg (zt W)=W:=by
 unfold zt zg;split
 ·split <;> omega
 ·split <;> omega
theorem VR(σ:PS){o:Ob}(hl:o.ps.length=o.p/\o.ns.length=o.d){s:Int}(hs:s≠0)(k i:Int):fE (some (σ.mo o)) s k i=fO o k i:=by
 unfold fE fO PS.mo;rw[if_neg hs];simp only[List.length_map,hl.1,hl.2]
theorem fC{α:Type}(l:List α)(i:Nat)(d:α)(h:i<l.length):l.getD i d∈l:=by
 rw[aS,jI h];exact List.getElem_mem h
theorem IQ(d:Dd)(b:Nat)(o:Ob):pL o (Aq d b o):=by
 unfold Aq;split
 ·exact⟨rfl,rfl,rfl,rfl,rfl,rfl,bE,rfl⟩
 ·split
  ·exact⟨rfl,rfl,rfl,rfl,rfl,rfl,rfl,bE⟩
  ·exact⟨rfl,rfl,rfl,rfl,rfl,rfl,rfl,rfl⟩
theorem uT{α:Type} : ∀ (l:List α) (i:Nat) (d x:α),i<l.length->(l.set i x).set i (l.getD i d)=l
 | y::l,0,d,x,_=>rfl
 | y::l,i+1,d,x,h=>by
   show y::(l.set i x).set i (l.getD i d)=_;rw[uT l i d x (by simpa using h)]
theorem yn{o:Ob}{k i:Int}(h:fO o k i=0):o.fr=false/\(k≠8->o.wk=(k==9)/\(if k=6\/k=7 then (o.d:Int) else (o.p:Int))>i):=by
 unfold fO at h;split at h
 ·cases h
 ·rename_i h1;refine⟨by simpa using h1,λhk=>?_⟩;rw[if_neg hk] at h;split at h
  ·cases h
  ·rename_i h2
   by_cases h3:(if k=6\/k=7 then (o.d:Int) else (o.p:Int))<=i
   ·rw[if_pos h3] at h;exact absurd h (by decide)
   ·exact⟨Classical.byContradiction λe=>h2 e,by omega⟩
theorem Q_(d:Dd)(hk:d.k=5\/d.k=7\/d.k=8)(hi:0<=d.i)(a b:Nat){o:Ob}(hl:o.ps.length=o.p/\o.ns.length=o.d)(hf:fO o d.k d.i=0)(n:Nat):sg (zN d a o) a { Aq d b o with snd:=n } = { o with snd:=n }:=by
 have h:=yn hf;unfold sg zN Aq;rcases hk with e|e|e
 ·have h3:=(h.2 (by omega)).2;rw[if_neg (by omega)] at h3;simp only[e,if_true];simp;have:=uT o.ps d.i.toNat 0 b (by omega);simpa using this
 ·have h3:=(h.2 (by omega)).2;rw[if_pos (by omega)] at h3;simp only[e,if_true];simp;have:=uT o.ns d.i.toNat 0 (zg d.n) (by omega);simp at this;rw[abj];exact this
 ·simp[e,h.1]
section
structure QU(σ:PS)(M:Nat->FM)(t:Nat)(V:aE)(Q:List Dd)(aJ:List Ac)(σ':PS)(R':aE)(v e:Int):Prop where
 pw:PW σ'
 gm:GM σ' M
 ti:TI σ' M t R' V Q (aJ++[⟨2,e,v⟩])
 lv:(σ'.tx t).live=true
 st:(σ'.tx t).start=(σ.tx t).start
 nw:σ'.now=σ.now
 ot:∀u,u≠t->σ'.tx u=σ.tx u
 sk:qE σ σ'
 oi:∀u,u≠t->∀R V Q aJ,TI σ M u R V Q aJ->TI σ' M u R V Q aJ
def kH(d:Dd)(R:List Int):Int:=if d.k=3\/d.k=4\/d.k=9 then R.getD d.b.toNat 0 else R.getD d.a.toNat 0
theorem Nd{f:FM}{R:List Int}{d:Dd}{fr:Int}(hk:3<=d.k/\d.k<=9)(h:kH d R=0):l9 f R d fr=(f,R,0,143):=by
 unfold kH at h
 unfold l9;have e:d.k=3\/d.k=4\/d.k=5\/d.k=6\/d.k=7\/d.k=8\/d.k=9:=by omega
 rcases e with e|e|e|e|e|e|e <;> simp only[e] at h ⊢ <;> simp at h <;> simp[h,fE]
theorem M_{f:FM}{R:List Int}{d:Dd}{fr:Int}(hk:4<=d.k/\d.k<=9)(h:fE (f (kH d R)) (kH d R) d.k d.i≠0):l9 f R d fr=(f,R,0,fE (f (kH d R)) (kH d R) d.k d.i):=by
 unfold kH at h ⊢
 unfold l9;have e:d.k=4\/d.k=5\/d.k=6\/d.k=7\/d.k=8\/d.k=9:=by omega
 rcases e with e|e|e|e|e|e <;> simp only[e] at h ⊢ <;> simp at h <;> simp[h]
theorem Nb{f:FM}{R:List Int}{d:Dd}{fr:Int}(hk:d.k=4\/d.k=9)(h:fE (f (kH d R)) (kH d R) d.k d.i=0):l9 f R d fr=(f,R.set d.a.toNat ((oG (f (kH d R))).ps.getD d.i.toNat 0),(oG (f (kH d R))).ps.getD d.i.toNat 0,0):=by
 unfold kH at h ⊢
 unfold l9;rcases hk with e|e <;> simp only[e] at h ⊢ <;> simp at h <;> simp[h]
theorem Ja{f:FM}{R:List Int}{d:Dd}{fr:Int}(hk:d.k=6)(h:fE (f (kH d R)) (kH d R) d.k d.i=0):l9 f R d fr=(f,R,(oG (f (kH d R))).ns.getD d.i.toNat 0,0):=by
 unfold kH at h ⊢
 unfold l9;simp only[hk] at h ⊢;simp at h;simp[h]
theorem Na{f:FM}{R:List Int}{d:Dd}{fr:Int}(hk:d.k=5\/d.k=7\/d.k=8)(h:fE (f (kH d R)) (kH d R) d.k d.i=0):l9 f R d fr=(f.put (kH d R) (Fe d (R.getD d.b.toNat 0) (oG (f (kH d R)))),R,0,0):=by
 unfold kH at h ⊢
 unfold l9;rcases hk with e|e|e <;> simp only[e] at h ⊢ <;> simp at h <;> simp[h]
theorem Nc{f:FM}{R:List Int}{d:Dd}{fr:Int}(hk:d.k=1\/d.k=2\/d.k=3)(h1:1<=fr)(h2:f fr=none)(h3:d.k=3->R.getD d.b.toNat 0≠0/\f (R.getD d.b.toNat 0)≠none):l9 f R d fr=(f.put fr (xw d fr (if d.k=3 then R.getD d.b.toNat 0 else 0)),R.set d.a.toNat fr,fr,0):=by
 unfold l9;have:¬fr<1:=by omega
 rcases hk with e|e|e
 ·simp[e,h2,this]
 ·simp[e,h2,this]
 ·have:=h3 e;simp only[e];simp at this;simp[h2,this];omega
section
variable {σ:PS}{M:Nat->FM}{t:Nat}{R V:aE}{Q:List Dd}{aJ:List Ac}{d:Dd}
theorem kQ(hw:PW σ)(l:aE)(i:Nat):(l.map λp=>(σ.fh p:Int)).getD i 0=(σ.fh (l.getD i 0):Int):=by
 have:=ss (λp=>(σ.fh p:Int)) l 0 i;simp only[PS.oX hw.z] at this;exact this
theorem Es(hw:PW σ):kH d (R.map λp=>(σ.fh p:Int))=(σ.fh (atR d R):Int):=by
 unfold kH atR;split <;> exact kQ hw _ _
theorem xZ(hr:d.Rt)(h6:R.length=6)(hk:3<=d.k/\d.k<=9):atR d R∈R:=by
 unfold Dd.Rt R6 R8 R5 RM at hr;unfold atR;split
 ·exact fC _ _ _ (by omega)
 ·exact fC _ _ _ (by omega)
theorem TI.at_(hi:TI σ M t R V Q aJ)(hw:PW σ)(hg:GM σ M)(hl:(σ.tx t).live=true)(hr:d.Rt)(h6:R.length=6)(hk:3<=d.k/\d.k<=9){o:Ob}(ho:σ.ob (atR d R)=some o)(ow:gO σ t o){f:FM}(hf:Cp σ M t f)(ha:atR d R∈(σ.tx t).reads) :
 σ.ov t f (kH d (R.map λp=>(σ.fh p:Int)))=some (σ.mo o)/\kH d (R.map λp=>(σ.fh p:Int))=o.ser/\fE (some (σ.mo o)) o.ser d.k d.i=fO o d.k d.i:=by
 have h1:=(hi.see hw hg hl (hi.kr _ (xZ hr h6 hk)) ho ow).1 f hf ha;rw[Es hw,PS.h_ ho];have:=(hw.sr _ o ho).1;exact⟨h1,rfl,VR σ (hw.ln _ o ho) (by omega) _ _⟩
theorem QU.look(hi:TI σ M t R V Q aJ)(hw:PW σ)(hg:GM σ M)(hl:(σ.tx t).live=true){l:aE}(uu:∀x∈(σ.tx t).reads,x∈l){R':aE}{v e:Int}(hk:∀p∈R',Kn σ M t p)
 (hs:∀f,Cp (σ.aO t { σ.tx t with reads:=l }) M t f->l9 (σ.ov t f) (R.map λp=>(σ.fh p:Int)) (Q.getD aJ.length dD) v=(σ.ov t f,R'.map λp=>(σ.fh p:Int),v,e)) :
 QU σ M t V Q aJ (σ.aO t { σ.tx t with reads:=l }) R' v e:=by
 have h1:=hi.rd uu;have et:(σ.aO t { σ.tx t with reads:=l }).tx t = { σ.tx t with reads:=l }:=aV _ _ _;refine⟨hw.rd hl l,hg.rd l,⟨λp hp=>?_,h1.kv,h1.kh,λf hf=>?_⟩,by rw[et];exact hl,by rw[et],rfl,λu hu=>bN _ _ hu,λa o h=>⟨o,h,rfl⟩,λu hu R V Q aJ hi=>hi.frame hw hw.z (bN _ _ hu) (λa o h=>⟨o,h,rfl⟩) (λ_ _=>rfl) rfl⟩
 ·have:=hk p hp;unfold Kn at this ⊢;rw[et];exact this
 ·have h2:=h1.MA f hf;have e:(σ.aO t { σ.tx t with reads:=l }).ov t f=σ.ov t f:=by unfold PS.ov;rw[et];rfl
  rw[e] at h2 ⊢;exact ja h2 (hs f hf)
theorem rh{R:aE}{i x p:Nat}(h:p∈R.set i x):p∈R\/p=x:=List.mem_or_eq_of_mem_set h
theorem DN.law{σ':PS}{R':aE}{v e:Int}(hi:TI σ M t R V Q aJ)(hw:PW σ)(hg:GM σ M)(hl:(σ.tx t).live=true)(hr:d.Rt)(h6:R.length=6)(hd:Q.getD aJ.length dD=d)(h:DN σ t d R σ' R' v e):QU σ M t V Q aJ σ' R' v e:=by
 have k0:Kn σ M t 0:=.inl (.inl rfl)
 have same:∀ {R':aE} {v e:Int},(∀p∈R',Kn σ M t p)->(∀f,Cp σ M t f->l9 (σ.ov t f) (R.map λp=>(σ.fh p:Int)) d v=(σ.ov t f,R'.map λp=>(σ.fh p:Int),v,e))->QU σ M t V Q aJ σ R' v e:=λhk hs=>
  ⟨hw,hg,⟨hk,hi.kv,hi.kh,λf hf=>ja (hi.MA f hf) (by rw[hd];exact hs f hf)⟩,hl,rfl,rfl,λ_ _=>rfl,.refl σ,λ_ _ _ _ _ _ h=>h⟩
 have et:∀l,(σ.aO t { σ.tx t with reads:=l }).tx t = { σ.tx t with reads:=l }:=λl=>aV _ _ _;have z0:(σ.fh 0:Int)=0:=by rw[PS.oX hw.z];rfl
 cases h with
 | reg R' v h=>
   rcases h with ⟨hk,rfl,rfl⟩|⟨hk,e1,rfl⟩|⟨hk,rfl,rfl⟩|⟨hk,rfl,rfl⟩
   ·refine same (λp hp=>?_) λf hf=>?_
    ·rcases rh hp with h1|rfl
     ·exact hi.kr p h1
     ·exact k0
    ·unfold l9;simp only[hk,List.map_set,z0];simp
   ·rw[e1];refine same hi.kr λf hf=>?_
    have key:R.getD d.a.toNat 0=R.getD d.b.toNat 0↔(σ.fh (R.getD d.a.toNat 0):Int)=(σ.fh (R.getD d.b.toNat 0):Int):=by
     refine⟨λe=>by rw[e],λe=>?_⟩;have ha:R.getD d.a.toNat 0∈R:=fC _ _ _ (by unfold Dd.Rt R6 at hr;omega);have hb:R.getD d.b.toNat 0∈R:=fC _ _ _ (by unfold Dd.Rt R6 at hr;omega);rcases(hi.kr _ ha).here hw with e1|⟨o1,e1⟩ <;> rcases(hi.kr _ hb).here hw with e2|⟨o2,e2⟩
     ·rw[e1,e2]
     ·rw[e1,z0,PS.h_ e2] at e;have:=(hw.sr _ _ e2).1;omega
     ·rw[e2,z0,PS.h_ e1] at e;have:=(hw.sr _ _ e1).1;omega
     ·rw[PS.h_ e1,PS.h_ e2] at e;exact hw.inj _ _ _ _ e1 e2 (by omega)
    unfold l9;simp only[hk,kQ hw];simp only[key];simp
   ·refine same (λp hp=>?_) λf hf=>?_
    ·rcases rh hp with h1|rfl
     ·exact hi.kr p h1
     ·exact hi.kr _ (fC _ _ _ (by unfold Dd.Rt R6 at hr;omega))
    ·unfold l9;simp only[hk,List.map_set,kQ hw];simp
   ·refine same (λp hp=>?_) λf hf=>?_
    ·rcases rh hp with h1|rfl
     ·exact hi.kr p h1
     ·exact k0
    ·unfold l9;simp only[hk,List.map_set,z0];simp
 | nil hk h=>
   refine same hi.kr λf hf=>Nd hk ?_;rw[Es hw,h,z0]
 | bad hk o ho ow l uu ha hf=>
   refine QU.look hi hw hg hl uu hi.kr λf Mg=>?_;obtain⟨h1,h2,h3⟩:=(hi.rd uu).at_ (hw.rd hl l) (hg.rd l) (by rw[et];exact hl) hr h6 (by omega) ho (by unfold gO at ow ⊢;rw[et];exact ow) Mg (by rw[et];exact ha);have e:(σ.aO t { σ.tx t with reads:=l }).ov t f=σ.ov t f:=by unfold PS.ov;rw[et];rfl
   rw[e] at h1;have h1:σ.ov t f (kH d (R.map λp=>(σ.fh p:Int)))=some (σ.mo o):=h1;have h2:kH d (R.map λp=>(σ.fh p:Int))=o.ser:=h2;have h4:fE (σ.ov t f (kH d (R.map λp=>(σ.fh p:Int)))) (kH d (R.map λp=>(σ.fh p:Int))) d.k d.i=fO o d.k d.i:=by rw[h1,h2];exact h3
   rw[hd,M_ hk (by rw[h4];exact hf),h4]
 | get hk o ho ow l uu ha hf=>
   refine QU.look hi hw hg hl uu (λp hp=>?_) λf Mg=>?_
   ·rcases rh hp with h1|rfl
    ·exact hi.kr p h1
    ·have h2:=yn hf;have h3:=(h2.2 (by omega)).2;rw[if_neg (by omega)] at h3;have:=(hw.ln _ o ho).1;have sy:0<=d.i:=by unfold Dd.Rt R8 at hr;omega
     exact(hi.see hw hg hl (hi.kr _ (xZ hr h6 (by omega))) ho ow).2.1 _ (fC _ _ _ (by omega))
   obtain⟨h1,h2,h3⟩:=(hi.rd uu).at_ (hw.rd hl l) (hg.rd l) (by rw[et];exact hl) hr h6 (by omega) ho (by unfold gO at ow ⊢;rw[et];exact ow) Mg (by rw[et];exact ha);have e:(σ.aO t { σ.tx t with reads:=l }).ov t f=σ.ov t f:=by unfold PS.ov;rw[et];rfl
   rw[e] at h1;have h1:σ.ov t f (kH d (R.map λp=>(σ.fh p:Int)))=some (σ.mo o):=h1;have h2:kH d (R.map λp=>(σ.fh p:Int))=o.ser:=h2;have h4:fE (σ.ov t f (kH d (R.map λp=>(σ.fh p:Int)))) (kH d (R.map λp=>(σ.fh p:Int))) d.k d.i=fO o d.k d.i:=by rw[h1,h2];exact h3
   rw[hd,Nb hk (by rw[h4];exact hf),h1,List.map_set];have:(oG (some (σ.mo o))).ps.getD d.i.toNat 0=(σ.fh (o.ps.getD d.i.toNat 0):Int):=kQ hw o.ps _;rw[this]
 | read hk o ho ow l uu ha hf=>
   refine QU.look hi hw hg hl uu hi.kr λf Mg=>?_;obtain⟨h1,h2,h3⟩:=(hi.rd uu).at_ (hw.rd hl l) (hg.rd l) (by rw[et];exact hl) hr h6 (by omega) ho (by unfold gO at ow ⊢;rw[et];exact ow) Mg (by rw[et];exact ha);have e:(σ.aO t { σ.tx t with reads:=l }).ov t f=σ.ov t f:=by unfold PS.ov;rw[et];rfl
   rw[e] at h1;have h1:σ.ov t f (kH d (R.map λp=>(σ.fh p:Int)))=some (σ.mo o):=h1;have h2:kH d (R.map λp=>(σ.fh p:Int))=o.ser:=h2;have h4:fE (σ.ov t f (kH d (R.map λp=>(σ.fh p:Int)))) (kH d (R.map λp=>(σ.fh p:Int))) d.k d.i=fO o d.k d.i:=by rw[h1,h2];exact h3
   rw[hd,Ja hk (by rw[h4];exact hf),h1];have:(oG (some (σ.mo o))).ns.getD d.i.toNat 0=zt (o.ns.getD d.i.toNat 0):=ss zt o.ns 0 d.i.toNat;rw[this]
 | chg hk o ho ow l uu ha hf x' x1 x2 x3 x4 x5=>
   have Qb:=hi.rd uu;have fL:=hw.rd hl l;have pz:=hg.rd (t:=t) l;obtain⟨dE,e1⟩:∃dE,σ.aO t { σ.tx t with reads:=l } = dE:=⟨_,rfl⟩;have I1:=et l;rw[e1] at Qb fL pz I1;have GV:dE.ob=σ.ob:=by rw[<-e1];rfl
   have nw1:dE.now=σ.now:=by rw[<-e1];rfl
   have sr1:∀p,dE.fh p=σ.fh p:=λp=>by unfold PS.fh;rw[GV]
   have ot1:∀u,u≠t->dE.tx u=σ.tx u:=λu hu=>by rw[<-e1];exact bN _ _ hu
   have eS:((σ.cN (atR d R) { Aq d (R.getD d.b.toNat 0) o with snd:=2*t+1 }).aO t x')=((dE.cN (atR d R) { Aq d (R.getD d.b.toNat 0) o with snd:=2*t+1 }).aO t x'):=by
    rw[<-e1];unfold PS.cN PS.aO;simp only[PS.mk.injEq,true_and];funext u
    by_cases e:u=t <;> simp[e]
   rw[eS];clear eS;have NU:(dE.tx t).live=true:=by rw[I1];exact hl
   have xe:dE.ob (atR d R)=some o:=by rw[GV];exact ho
   have ZD:gO dE t o:=by unfold gO at ow ⊢;rw[I1];exact ow
   have NR:3<=d.k/\d.k<=9:=by clear x5 ow ZD;omega
   have sy:0<=d.i:=by unfold Dd.Rt R8 at hr;omega
   have ka:=Qb.kr _ (xZ hr h6 NR);have Xh:=Qb.see fL pz NU ka xe ZD;have HZ:=fL.ln _ o xe;have hb:R.getD d.b.toNat 0∈R:=fC _ _ _ (by unfold Dd.Rt R6 at hr;omega);have cs:=IQ d (R.getD d.b.toNat 0) o;obtain⟨o',eo⟩:∃o',{ Aq d (R.getD d.b.toNat 0) o with snd:=2*t+1 } = o':=⟨_,rfl⟩;rw[eo]
   have Gv:∀p∈o'.ps,Kn dE M t p:=λp hp=>by
    rw[<-eo] at hp;have hp:p∈(Aq d (R.getD d.b.toNat 0) o).ps:=hp;unfold Aq at hp;split at hp
    ·rcases rh hp with h1|rfl
     ·exact Xh.2.1 p h1
     ·exact Qb.kr _ hb
    ·split at hp <;> exact Xh.2.1 p hp
   have nM:sg (zN d (atR d R) o) (atR d R) o' = { o with snd:=2*t+1 }:=by rw[<-eo];exact Q_ d hk sy _ _ HZ hf _
   have cu:(zN d (atR d R) o).at_=atR d R:=by unfold zN;split;rfl;split <;> rfl
   have Ba:∀v,o.snd=2*v->∀y∈(dE.tx t).holds,y.at_≠atR d R:=λv hv y hy e=>by
    obtain⟨_,q,h1,h2⟩:=fL.hs t y hy;rw[e,xe] at h1;injection h1 with h1;subst h1;omega
   have tr:tQ dE t (atR d R) o o' x':=by
    refine⟨xe,?_,NU,by rw[<-eo];exact cs.ser,by rw[<-eo];exact cs.p,by rw[<-eo];exact cs.d,by rw[<-eo];exact cs.lp.trans (HZ.1.trans cs.p.symm),by rw[<-eo];exact cs.ln.trans (HZ.2.trans cs.d.symm),by rw[<-eo],λp hp=>(Gv p hp).here fL,x1,by rw[I1];exact x2,by rw[I1];exact x3,λy hy=>?_,λy hy=>?_,?_,λy hy y' xh e e'=>?_,⟨[zN d (atR d R) o],by rw[I1];exact x4,λu hu=>?_⟩⟩
    ·rcases x5 with ⟨h,_⟩|⟨v,h,_⟩
     ·exact .inr h
     ·exact .inl ⟨v,h⟩
    ·rw[I1] at hy;rcases x5 with ⟨_,h⟩|⟨v,_,h⟩
     ·rw[h];exact hy
     ·rw[h];exact List.mem_append_left _ hy
    ·rw[I1];rcases x5 with ⟨_,h⟩|⟨v,_,h⟩
     ·rw[h] at hy;exact .inl hy
     ·rw[h] at hy;rcases mD.1 hy with h1|h1
      ·exact .inl h1
      ·right;rw[nu.1 h1]
    ·rcases x5 with ⟨h1,h⟩|⟨v,_,h⟩
     ·obtain⟨y,y1,y2⟩:=hg.ex _ o t ho h1;exact⟨y,by rw[h];exact y1,y2⟩
     ·exact⟨⟨atR d R,v⟩,by rw[h];simp,rfl⟩
    ·rcases x5 with ⟨_,h⟩|⟨v,hv,h⟩
     ·rw[h] at hy xh;exact hw.nd t y hy y' xh (e.trans e'.symm)
     ·rw[h] at hy xh;have hn:=Ba v hv;rw[I1] at hn;rcases mD.1 hy with h1|h1
      ·exact absurd e (hn y h1)
      ·rcases mD.1 xh with h2|h2
       ·exact absurd e' (hn y' h2)
       ·rw[nu.1 h1,nu.1 h2]
    ·rw[nu.1 hu];refine⟨cu,?_⟩;have h2:=yn hf;have ep:o'.p=o.p:=by rw[<-eo];exact cs.p
     have ed:o'.d=o.d:=by rw[<-eo];exact cs.d
     unfold zN;rcases hk with e|e|e
     ·have h3:=(h2.2 (by omega)).2;rw[if_neg (by omega)] at h3;rw[if_pos e];refine .inl ⟨rfl,sy,by rw[ep];exact h3,by show(0:Int)<=((o.ps.getD d.i.toNat 0:Nat):Int);omega,?_⟩;rcases fL.ps _ o xe (o.ps.getD d.i.toNat 0) (fC _ _ _ (by omega)) with h4|h4
      ·left;show((o.ps.getD d.i.toNat 0:Nat):Int)=0;rw[h4];rfl
      ·right;exact h4
     ·have h3:=(h2.2 (by omega)).2;rw[if_pos (by omega)] at h3;rw[if_neg (by omega),if_pos e];exact .inr (.inl ⟨rfl,sy,by rw[ed];exact h3⟩)
     ·rw[if_neg (by omega),if_neg (by omega)];exact .inr (.inr rfl)
   have Uy:GM ((dE.cN (atR d R) o').aO t x') M:=by
    refine pz.dN fL tr λy hy e=>?_;rw[x4,Cg,nM,FD];show 0<=y.bt/\_/\_/\(_->∀u:Nat,_->_->M u o.ser=some (dE.mo (pj (σ.tx t).aQ (atR d R) o)));have same:(dE.tx t).aQ=(σ.tx t).aQ/\(dE.tx t).holds=(σ.tx t).holds:=by rw[I1];exact⟨rfl,rfl⟩
    rcases x5 with ⟨h1,h⟩|⟨v,hv,h⟩
    ·rw[h] at hy;have h3:=pz.hd t y (by rw[same.2];exact hy) o (by rw[e];exact xe);rw[same.1,e] at h3;exact h3
    ·rw[h] at hy;have hn:=Ba v hv;rcases mD.1 hy with h2|h2
     ·exact absurd e (hn y (by rw[same.2];exact h2))
     ·rw[nu.1 h2];obtain⟨g1,g2,g3⟩:=pz.un _ o v xe hv
      have XV:∀u∈(σ.tx t).aQ,u.at_≠atR d R:=λu hu e=>by
       obtain⟨k,k1,k2,_⟩:=fL.us t u (by rw[same.1];exact hu);exact hn k k1 (k2.trans e)
      have Xy:v<=(dE.tx t).start:=by
       rcases ZD with h5|⟨v',h5,h6⟩ <;> omega
      refine⟨by show(0:Int)<=(v:Nat);omega,by show((v:Nat):Int)<=_;omega,λh5=>g2 (by have h5:((v:Nat):Int)=0:=h5;omega),λh5 u h6 h7=>?_⟩;have:=kZ (o:=o) (σ.tx t).aQ [] XV;rw[List.nil_append] at this;rw[this];have h6:((v:Nat):Int)<=u:=h6;exact g3 (by have h5:(1:Int)<=(v:Nat):=h5;omega) u (by omega) h7
   obtain⟨t1,t2,t3,t4⟩:=Qb.dN fL tr Gv;have sk:qE σ ((dE.cN (atR d R) o').aO t x'):=λa q hq=>tr.r_ a q (by rw[GV];exact hq)
   have mp:∀l:aE,(∀p∈l,Kn dE M t p\/KM dE (M (dE.tx t).start) p)->l.map (λp=>((((dE.cN (atR d R) o').aO t x').fh p:Nat):Int))=l.map (λp=>(dE.fh p:Int)):=λl hl=>tr.r_.map fL.z (tr.z fL) λp hp=>by
    rcases hl p hp with h|h
    ·exact h.here fL
    ·exact h.here
   have txt:((dE.cN (atR d R) o').aO t x').tx t=x':=aV _ _ _;refine⟨fL.dN tr,Uy,⟨t1,t2,t3,λf Mg=>?_⟩,by rw[txt];exact x1,by rw[txt];exact x2,nw1,λu hu=>(bN _ _ hu).trans (ot1 u hu),sk,λu hu R V Q aJ hi=>tr.GW fL hu (hi.frame hw fL.z (ot1 u hu) (λa q hq=>⟨q,by rw[GV];exact hq,rfl⟩) (λy _=>by rw[GV]) rfl)⟩;obtain⟨c,hp⟩:=t4 f Mg;have Me:atR d R∈(dE.tx t).reads:=by rw[I1];exact ha
   obtain⟨h1,h2,h3⟩:=Qb.at_ fL pz NU hr h6 NR xe ZD c Me;refine ja hp ?_;show l9 (dE.ov t f) (R.map λp=>((((dE.cN (atR d R) o').aO t x').fh p:Nat):Int)) (Q.getD aJ.length dD) 0=(_,_,0,0);rw[hd,mp R (λp hp=>.inl (Qb.kr p hp))];have h4:fE (dE.ov t f (kH d (R.map λp=>(dE.fh p:Int)))) (kH d (R.map λp=>(dE.fh p:Int))) d.k d.i=fO o d.k d.i:=by rw[h1,h2];exact h3
   rw[Na hk (by rw[h4];exact hf),h1,h2,tr.ov fL,kQ fL]
   have em:Fe d (dE.fh (R.getD d.b.toNat 0):Int) (oG (some (dE.mo o)))=dE.mo o':=by
    rw[<-eo];unfold Fe Aq oG PS.mo;rcases hk with e|e|e
    ·simp[e,List.map_set]
    ·simp[e,List.map_set,abk]
    ·simp[e]
   rw[em]
 | lay hk a no a0 h3 x' x1 x2 x3 x4 x5=>
   obtain⟨o,eo⟩:=au ((if d.k=3 then ⟨1,0,true,false,false,2*t+1,σ.ser+1,[R.getD d.b.toNat 0],[]⟩ else { Ob.new d.i.toNat d.n.toNat false (d.k==2) (σ.ser+1) with snd:=2*t+1 } : Ob):Ob);rw[eo]
   have f1:o.ser=σ.ser+1/\o.ps.length=o.p/\o.ns.length=o.d/\o.snd=2*t+1:=by
    rw[<-eo];split
    ·exact⟨rfl,rfl,rfl,rfl⟩
    ·simp[Ob.new]
   have hb:R.getD d.b.toNat 0∈R:=fC _ _ _ (by unfold Dd.Rt R6 at hr;omega)
   have Gv:∀p∈o.ps,Kn σ M t p:=λp hp=>by
    rw[<-eo] at hp;split at hp
    ·rw[nu.1 hp];exact hi.kr _ hb
    ·have hp:p∈List.replicate d.i.toNat 0:=hp;rw[List.eq_of_mem_replicate hp];exact k0
   have ly:jP σ t a o x':=⟨no,a0,hl,f1.1,f1.2.1,f1.2.2.1,λp hp=>(Gv p hp).here hw,x1,x2,x3,x4,.inl ⟨f1.2.2.2,x5⟩⟩;have txt:((σ.lay a o).aO t x').tx t=x':=aV _ _ _;have hw':=hw.lay ly;have mp:∀l:aE,(∀p∈l,p=0\/∃o,σ.ob p=some o)->l.map (λp=>((((σ.lay a o).aO t x').fh p:Nat):Int))=l.map (λp=>(σ.fh p:Int)):=λl hl=>ly.r_.map hw.z hw'.z hl;refine⟨hw',hg.lay hw ly,⟨λp hp=>?_,λp hp=>by rw[txt,x2];exact ly.r_.km (hi.kv p hp),λy hy q hq p hp=>?_,λf Mg=>?_⟩,by rw[txt];exact x1,by rw[txt];exact x2,rfl,λu hu=>bN _ _ hu,ly.r_,λu hu R V Q aJ hi=>ly.GW hw hu hi⟩
   ·rcases rh hp with h1|rfl
    ·exact ly.kn (hi.kr p h1)
    ·exact .inr ⟨⟨p,0⟩,by rw[txt,x5];simp,rfl,rfl⟩
   ·rw[txt] at hy;rcases ly.hold hy with h1|⟨rfl,_⟩
    ·obtain⟨_,r,h2,_⟩:=hw.hs t y h1;rw[ly.to h2] at hq;injection hq with hq;subst hq
     exact ly.kn (hi.kh y h1 _ h2 p hp)
    ·rw[jP.self] at hq;injection hq with hq;subst hq
     exact ly.kn (Gv p hp)
   ·obtain⟨c,hn⟩:=ly.cp hw Mg;have hn:=hn f1.2.2.2;have hp:=hi.MA f c;rw[mp V (λp hp=>(hi.kv p hp).here),List.map_set,mp R (λp hp=>(hi.kr p hp).here hw)];refine ja hp ?_;have ha:((σ.lay a o).aO t x').fh a=o.ser:=PS.h_ jP.self
    have aaO:σ.ov t f ((σ.ser+1:Nat):Int)=none:=by
     rw[lz f (λy hy q hq e=>?_),<-f1.1]
     ·exact hn
     ·have:=hw.sr _ q hq;omega
    show l9 (σ.ov t f) (R.map λp=>(σ.fh p:Int)) (Q.getD aJ.length dD) ((σ.ser+1:Nat):Int)=(_,_,((σ.ser+1:Nat):Int),0);rw[hd,Nc hk (by omega) aaO (λe=>?_),ly.ov hw f1.2.2.2,ha,f1.1,kQ hw]
    ·have em:xw d ((σ.ser+1:Nat):Int) (if d.k=3 then (σ.fh (R.getD d.b.toNat 0):Int) else 0)=σ.mo o:=by
      rw[<-eo];unfold xw PS.mo;have RZ:d.k≠3->0<=d.i/\0<=d.n:=λe=>by unfold Dd.Rt R5 at hr;omega
      by_cases e:d.k=3
      ·simp[e]
      ·have:=RZ e;rw[if_neg e,if_neg e];simp[Ob.new,PS.oX hw.z,zt];omega
     rw[em]
    ·obtain⟨q,hq⟩:=h3 e;rw[kQ hw,PS.h_ hq];have:=(hw.sr _ q hq).1;refine⟨by omega,?_⟩;rcases hi.kr _ hb with k|⟨y,y1,y2,y3⟩
     ·rcases k with k|⟨q',k1,k2⟩
      ·rw[k,hw.z] at hq;cases hq
      ·rw[hq] at k1;injection k1 with k1;subst k1
       exact xC σ t (c.d _ k2)
     ·rw[<-y2] at hq;rw[j_ hw f y1 hq];intro e;cases e
end
end
def uR(d:Dd)(a:Ac)(R:List Int):List Int:=
 if a.e≠0 then R else if d.k=1\/d.k=2\/d.k=3\/d.k=4\/d.k=9\/d.k=10 then R.set d.a.toNat a.v else if d.k=12 then R.set d.a.toNat (R.getD d.b.toNat 0) else if d.k=13 then R.set d.a.toNat 0 else R
def rX(Q:List Dd):List Ac->Nat->List Int->List Int
 | [],_,R=>R
 | a::l,i,R=>rX Q l (i+1) (uR (Q.getD i dD) a R)
theorem Rs{f f':FM}{R R':List Int}{d:Dd}{a:Ac}(hr:d.Rt)(h:l9 f R d a.v=(f',R',a.v,a.e)):R'=uR d a R:=by
 unfold l9 at h;unfold uR;unfold Dd.Rt at hr;have e0:∀ {x y:FM × List Int × Int × Int},x=y->x.1=y.1/\x.2.1=y.2.1/\x.2.2.1=y.2.2.1/\x.2.2.2=y.2.2.2:=λe=>by subst e;exact⟨rfl,rfl,rfl,rfl⟩
 rcases hr with g|g|g|g|g|g|g|g|g|g|g|g|g|g <;> obtain⟨hk,g⟩:=g <;> simp only[hk] at h ⊢ <;> simp at h ⊢
 ·split at h <;> have:=e0 h <;> simp at this <;> first|(simp[<-this.2.1,<-this.2.2.2];done)|(simp[<-this.2.1,<-this.2.2];done)
 ·split at h <;> have:=e0 h <;> simp at this <;> first|(simp[<-this.2.1,<-this.2.2.2];done)|(simp[<-this.2.1,<-this.2.2];done)
 ·split at h
  ·have:=e0 h;simp at this;simp[<-this.2.1,<-this.2.2.2]
  ·split at h <;> have:=e0 h <;> simp at this <;> first|(simp[<-this.2.1,<-this.2.2.2];done)|(simp[<-this.2.1,<-this.2.2];done)
 ·split at h
  ·have:=e0 h;simp at this;simp[<-this.2.1,<-this.2.2.1,<-this.2.2.2]
  ·rename_i hf;have:=e0 h;simp at this;simp[<-this.2.1,<-this.2.2.2,hf]
 ·split at h
  ·have:=e0 h;simp at this;simp[<-this.2.1,<-this.2.2.2]
  ·have:=e0 h;simp at this;simp[<-this.2.1]
 ·split at h
  ·have:=e0 h;simp at this;simp[<-this.2.1,<-this.2.2.2]
  ·have:=e0 h;simp at this;simp[<-this.2.1]
 ·split at h
  ·have:=e0 h;simp at this;simp[<-this.2.1,<-this.2.2.2]
  ·have:=e0 h;simp at this;simp[<-this.2.1]
 ·split at h
  ·have:=e0 h;simp at this;simp[<-this.2.1,<-this.2.2.2]
  ·have:=e0 h;simp at this;simp[<-this.2.1]
 ·split at h
  ·have:=e0 h;simp at this;simp[<-this.2.1,<-this.2.2.1,<-this.2.2.2]
  ·rename_i hf;have:=e0 h;simp at this;simp[<-this.2.1,<-this.2.2.2,hf]
 ·simp[<-h.2.1,<-h.2.2.1,<-h.2.2.2]
 ·simp[<-h.2.1,<-h.2.2.2]
 ·simp[<-h.2.1,<-h.2.2.2]
 ·simp[<-h.2.1,<-h.2.2.2]
 ·simp[<-h.2.1,<-h.2.2.2]
theorem uh{Q:List Dd}(hQ:∀d∈Q,d.Rt):∀ (l:List Ac) (i:Nat) (f f':FM) (R R':List Int),i+l.length<=Q.length->dV Q l i (f,R)=some (f',R')->R'=rX Q l i R
 | [],i,f,f',R,R',_,h=>by injection h with h;injection h with _ h;exact h.symm
 | a::l,i,f,f',R,R',hl,h=>by
   unfold dV at h;split at h
   ·rename_i hh;have hi:i<Q.length:=by simp at hl;omega
    have h1:=Rs (f:=f) (R:=R) (a:=a) (hQ _ (fC Q i dD hi)) (show l9 f R (Q.getD i dD) a.v=((l9 f R (Q.getD i dD) a.v).1,(l9 f R (Q.getD i dD) a.v).2.1,a.v,a.e) from Prod.ext rfl (Prod.ext rfl (Prod.ext hh.1 hh.2)));show R'=rX Q l (i+1) (uR (Q.getD i dD) a R);rw[<-h1];exact uh hQ l (i+1) _ _ _ _ (by simp at hl;omega) h
   ·cases h
def gA(Q:Pg)(l:List Tr)(t:Nat):List Int:=l.foldl (λR x=>if x.th=(t:Int)/\x.en=1 then rX (bU Q x.th x.bl) x.aJ 0 R else R) [0,0,0,0,0,0]
theorem ki(Q:Pg)(l:List Tr)(x:Tr)(t:Nat):gA Q (l++[x]) t=if x.th=(t:Int)/\x.en=1 then rX (bU Q x.th x.bl) x.aJ 0 (gA Q l t) else gA Q l t:=by
 unfold gA;rw[List.foldl_append];rfl
theorem Az{α β:Type}(g:β->α->β){d x:α} : ∀ (l:List α) (k:Nat) (b:β),(∀b,g b (l.getD k d)=b)->(∀b,g b x=b)->(l.set k x).foldl g b=l.foldl g b
 | [],_,_,_,_=>rfl
 | y::l,0,b,h1,h2=>by
   show l.foldl g (g b x)=l.foldl g (g b y);rw[h2,show g b y=b from h1 b]
 | y::l,k+1,b,h1,h2=>Az g l k (g b y) h1 h2
theorem Fu{Q:Pg}{l:List Tr}{k t u:Nat}{x:Tr}(h1:(l.getD k aK).th=(t:Int))(h2:x.th=(t:Int))(hu:u≠t):gA Q (l.set k x) u=gA Q l u:=
 Az _ l k _ (λb=>by rw[if_neg];rintro ⟨e,_⟩;rw[h1] at e;omega) (λb=>by rw[if_neg];rintro ⟨e,_⟩;rw[h2] at e;omega)
theorem Fs{Q:Pg}{t:Nat} : ∀ (m l:List Tr),(∀x∈m,x.th≠(t:Int))->gA Q (l++m) t=gA Q l t
 | [],l,_=>by rw[List.append_nil]
 | x::m,l,h=>by
   rw[show l++x::m=(l++[x])++m by simp,Fs m (l++[x]) (λy hy=>h y (.tail _ hy)),ki,if_neg (λe=>h x (.head _) e.1)]
theorem qm{Q:Pg}{l:List Tr}{k t:Nat}{x:Tr}(hk:k<l.length)(h2:x.th=(t:Int))(ha:∀j,k<j->j<l.length->(l.getD j aK).th≠(t:Int)):gA Q (l.set k x) t=if x.en=1 then rX (bU Q x.th x.bl) x.aJ 0 (gA Q (l.take k) t) else gA Q (l.take k) t:=by
 rw[List.set_eq_take_append_cons_drop,if_pos hk,show l.take k++x::l.drop (k+1)=(l.take k++[x])++l.drop (k+1) by simp,Fs _ _ (λy hy=>?_),ki]
 ·by_cases e:x.en=1
  ·rw[if_pos ⟨h2,e⟩,if_pos e]
  ·rw[if_neg (λh=>e h.2),if_neg e]
 ·obtain⟨j,hj,rfl⟩:=List.getElem_of_mem hy;rw[List.getElem_drop];have hj:j<l.length-(k+1):=by simpa using hj
  have:=ha (k+1+j) (by omega) (by omega);rw[aS,jI (by omega)] at this;exact this
def lh(x:Tr):Bool:=x.en==1 && decide (1<=x.bt)
def cw(l:List Tr)(f:Int):Nat:=l.countP λx=>lh x && decide (x.dr<f)
theorem MX{l:List Tr}{x:Tr}(h:lh x=false)(f:Int):cw (l++[x]) f=cw l f:=by
 unfold cw;rw[List.countP_append];simp[h]
theorem rF{α:Type}(p:α->Bool){d x:α} : ∀ (l:List α) (k:Nat),k<l.length->(l.set k x).countP p+(if p (l.getD k d) then 1 else 0)=l.countP p+(if p x then 1 else 0)
 | [],_,h=>by simp at h
 | y::l,0,_=>by
   simp only[qq,List.countP_cons,List.getD_cons_zero];omega
 | y::l,k+1,h=>by
   have:=rF p (d:=d) (x:=x) l k (by simpa using h);simp only[rj,List.countP_cons,List.getD_cons_succ];omega
theorem CN{l:List Tr}{k:Nat}{x:Tr}(hk:k<l.length)(f:Int)(h0:lh (l.getD k aK)=false):cw (l.set k x) f=cw l f+(if lh x && decide (x.dr<f) then 1 else 0):=by
 have:=rF (λx=>lh x && decide (x.dr<f)) (d:=aK) (x:=x) l k hk;unfold cw;simp only[h0,Bool.false_and,Bool.false_eq_true,if_false] at this;omega
section
variable {w:aj}{τ:Nat->Nat}{s:Nat}{S:aY}
theorem Ha(h:St w τ s S){t:Nat}(ht:t<S.bB.length)(hl:(S.tx t).live=true):aL prog 81 #[pV S.sp,vI (t:Int)] w λe w'=>e=.returned (vI 0)/\Nx w τ s S w' λS'=>vw S'=(vw S).wM t:=by
 have hr:=oT h (t:Int) ⟨by have:=h.ok.n;omega,by have:=h.ok.n;omega⟩;go_in;go_wp2_with fail
 refine hr.mono ?_;rintro e w' ⟨⟨k,ek,hk,eW,rfl⟩|⟨hn,rfl⟩,rfl⟩
 ·obtain rfl:t=k:=by omega
  have ha:=Ai h hk;go_wp2_with fail
  refine ha.mono ?_;rintro e w1 ⟨rfl,n1⟩;replace n1:=af n1;clear ha hr;go_wp2;go_ret;exact⟨rfl,n1.out⟩
 ·have:=hn t rfl ht;rw[hl] at this;cases this
theorem LN(h:St w τ s S){t:Nat}(ht:t<S.bB.length)(hl:(S.tx t).live=true):aL prog 65 #[pV S.sp,vI (t:Int)] w λe w'=>(∃b:Bool,e=.returned (.tuple #[vI (S.tx t).start,.bool b]))/\w'=w:=by
 have hr:=oT h (t:Int) ⟨by have:=h.ok.n;omega,by have:=h.ok.n;omega⟩;go_in;go_wp2_with fail
 refine hr.mono ?_;rintro e w' ⟨⟨k,ek,hk,eW,rfl⟩|⟨hn,rfl⟩,rfl⟩
 ·obtain rfl:t=k:=by omega
  have c2:=(h.ny hk 2 _ rfl).1;clear hr;go_wp2
  go_ret2
  exact⟨⟨_,rfl⟩,rfl⟩
 ·have:=hn t rfl ht;rw[hl] at this;cases this
theorem uV(h:St w τ s S){a:Nat}(ha:a<=131072):aL prog 40 #[pV S.sp,vI (a:Int)] w λe w'=>(∃x:Int,e=.returned (.tuple #[vI (sr S.D.A a:Nat),vI x]))/\Calm w w':=by
 have c0:=(h.cells 0 _ rfl).1;obtain⟨X,hh⟩:=h.kE;have hs:=Bk hh ha;go_in;go_wp2_with fail
 refine hs.mono ?_;rintro e w' ⟨⟨x,rfl⟩,c⟩;clear hs;go_wp2
 go_ret2
 exact⟨⟨_,rfl⟩,c⟩
end
