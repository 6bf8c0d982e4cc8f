import Derived.Lib.AppendZerosOnto
import Derived.Test.YtgijglafnlbdbaaGreatTmAL
set_option linter.all false
set_option maxHeartbeats 2000000
set_option maxRecDepth 8000
namespace Go.Proofs.YtgijglafnlbdbaaGreat
open RowKit Shelf Proofs.Tryz
open Go renaming World->ag,Value->aA,Calls->aJ
section
variable {w:ag}{τ:Nat->Nat}{s q:Nat}{S:aE}
theorem Nx.calm{w':ag}{R:aE->Prop}(h:St w τ s q S)(c:Calm w w')(r:R S):Nx w τ s q S w' R:=⟨τ,S,h.calm c,aC.calm τ c,Fix.refl S,r⟩
theorem Nx.step{w1 w2:ag}{gI:Nat->Nat}{S1:aE}{s' q':Nat}{R:aE->Prop}(n:Nx w1 gI s' q' S1 w2 R)(k2:aC w τ w1 gI)(k3:Fix S S1):Nx w τ s' q' S w2 R:=by
 obtain⟨fj,S2,a,b,c,d⟩:=n;exact⟨fj,S2,a,k2.trans b,k3.trans c,d⟩
theorem Nx.lA{w1 w2:ag}{s' q':Nat}{R:aE->Prop}(n:Nx w1 τ s' q' S w2 R)(c:Calm w w1):Nx w τ s' q' S w2 R:=n.step (aC.calm τ c) (Fix.refl S)
theorem Nx.J4{w1 w2:ag}{s' q':Nat}{R:aE->Prop}(n:Nx w τ s' q' S w1 R)(c:Calm w1 w2):Nx w τ s' q' S w2 R:=by
 obtain⟨fj,S2,a,b,d,e⟩:=n;exact⟨fj,S2,a.calm c,b.trans (aC.calm fj c),d,e⟩
theorem Nx.mono{w':ag}{s' q' s2 q2:Nat}{R R':aE->Prop}(n:Nx w τ s' q' S w' R)(hs:s'<=s2)(hq:q'<=q2)(hr:∀S',R S'->R' S'):Nx w τ s2 q2 S w' R':=by
 obtain⟨fj,S2,⟨M,a1,a2,a3⟩,b,d,e⟩:=n;exact⟨fj,S2,⟨M,a1,a2,a3.mono hs hq⟩,b,d,hr _ e⟩
abbrev JQ(w:ag)(τ:Nat->Nat)(s q:Nat)(S:aE)(w':ag):Prop:=Nx w τ s q S w' (Rn S)
theorem Nx.any{w':ag}{s' q':Nat}{R:aE->Prop}(n:Nx w τ s' q' S w' R)(hr:∀S',R S'->Rn S S'):JQ w τ s' q' S w':=n.mono (aD _) (aD _) hr
theorem Nx.go0{w1 w2:ag}{gI:Nat->Nat}{S1:aE}{s' q':Nat}(n:JQ w1 gI s' q' S1 w2)(k2:aC w τ w1 gI)(k3:Fix S S1)(r:Rn S S1):JQ w τ s' q' S w2:=by
 obtain⟨fj,S2,a,b,c,d⟩:=n;exact⟨fj,S2,a,k2.trans b,k3.trans c,r.trans d⟩
def Ec(S:aE)(t:Nat)(x:Int):Prop:=x≠100/\x≠140/\(x=141->¬Lone S t)
theorem Ec.of{t:Nat}{x:Int}(h:x≠100/\x≠140/\x≠141):Ec S t x:=⟨h.1,h.2.1,λe=>absurd e h.2.2⟩
theorem Rn.h_(S:aE)(B':HB)(A':HS):Rn S (S.h_ B' A'):=⟨λ_=>rfl,λ_=>rfl,rfl,rfl⟩
theorem zF(h:St w τ s q S){t:Nat}(ht:t<S.aW.length)(hl:(S.tx t).live=true){a:Nat}(ha:a<=131072):aJ prog 147 #[pV S.sp,pV (S.tx t).xp,vI a] w λe w'=>(∃b:Bool,e=.returned (.bool b))/\JQ w τ s q S w':=by
 have jT:=(h.cells 0 _ rfl).1;obtain⟨X,hh⟩:=h.iW;have hx:=h.lW ht;have Vv:=hid (SW h.ok.hw h.ok.iv.hv a);have h8:=hid (Rf h);have hn:=hid (ES h);go_in;go_wp2_with fail
 refine(rX hh h.ok.hw ha).mono ?_;rintro e w1 ⟨⟨x,rfl⟩,k1⟩;have c4:=k1.cellAt (hx 4 _ rfl).1 id;go_wp2_with fail
 refine(CP Vv.out h8.out hn.out _).mono ?_;rintro e w2 ⟨(⟨u,hu,hk,rfl⟩|⟨v,hv,hle,rfl⟩),rfl⟩
 ·go_wp2;go_ret;exact⟨⟨_,rfl⟩,Nx.calm h k1 (.refl S)⟩
 ·have h1:=h.calm k1;have AD:=hn.out;go_wp2_with fail
  refine(Cr h1 ht ha (n:=(v:Nat)) ⟨by omega,by omega⟩ ⟨by omega,by omega⟩).mono ?_;rintro e w3 ⟨b2,rfl,Tf,S3,m1,m2,m3,m4,m5⟩;have r3:=m4.rn ht
  cases b2 with
  | false=>
    go_wp2;go_ret;exact⟨⟨_,rfl⟩,(Nx.calm m1 ah (.refl _)).go0 ((aC.calm τ k1).trans m2) m3 r3⟩
  | true=>
    have o:=Mg m1 (m3.len ▸ ht) ha ((r3.lv t).trans hl) (m5 rfl);rw[m3.sp,m3.xp] at o;go_wp2_with fail
    refine(o).mono ?_;rintro e w4 ⟨rfl,n4⟩;go_wp2;go_ret;exact⟨⟨_,rfl⟩,(n4.any (λS' ⟨_,B',A',e⟩=>e ▸ Rn.h_ _ _ _)).go0 ((aC.calm τ k1).trans m2) m3 r3⟩
theorem gR.fresh{I:aE->Prop}(h:gR I w τ s q S):∃τ0,gR I w τ0 s q S/\oO w τ τ0/\∀k,w.heap.size<=k->τ0 k=1000:=by
 obtain⟨M,h1,h2,h3⟩:=h;obtain⟨τ0,k1,k2,k3⟩:=h1.fresh 1000;exact⟨τ0,⟨M,k1,h2,h3⟩,k2,k3⟩
theorem St.gL{w':ag}{T:Nat->Prop}(h:St w τ s q S)(f:Fr T w w')(hT:∀b,T b->500<=τ b):St w' τ s q S:=by
 obtain⟨M,h1,h2,h3⟩:=h;refine⟨M,h1.frame f (λt k hk gX=>?_),h2,h3⟩;have e1:=h1.tag t k hk;have e2:=hT k gX;rw[h2.z t (by omega)] at hk;exact hk
theorem aC.own{w':ag}{aL:Nat->Nat}(k:aC w τ w' aL){b i:Nat}{v:aA}(h:Own w b i v)(hb:500<=τ b):Own w' b i v:=h.fr k.fr (by omega)
theorem aC.bH{w':ag}{aL:Nat->Nat}(k:aC w τ w' aL){b:Nat}{vs:List aA}(h:af w b vs)(hb:500<=τ b):af w' b vs:=h.fr k.fr (by omega)
theorem Nx.fin{W2 W3 W4:ag}{τ0:Nat->Nat}{s' q':Nat}{R:aE->Prop}{T:Nat->Prop}(n:Nx W2 τ0 s' q' S W3 R)(c:Calm w W2)(tk:oO w τ τ0)(fr:∀k,w.heap.size<=k->τ0 k=1000)
 (f:Fr T W3 W4) (hT:∀b,T b->w.heap.size<=b/\b<W2.heap.size):Nx w τ s' q' S W4 R:=by
 obtain⟨Tf,S3,m1,m2,m3,m4⟩:=n;refine⟨Tf,S3,m1.gL f (λb hb=>?_),?_,m3,m4⟩
 ·rw[m2.tg b (hT b hb).2,fr b (hT b hb).1];omega
 ·have k:aC w τ W3 Tf:=((aC.calm τ0 c).trans m2).dE tk;exact⟨k.fr.join f (λj hj e=>by have:=(hT j e).1;omega),k.tg⟩
abbrev Ol(p d:Nat)(wk fn:Bool):List aA:=[vI p,vI d,.bool wk,.bool fn]
def JM(w:ag)(τ:Nat->Nat)(s q:Nat)(S:aE)(t:Nat)(e:Ending)(w':ag):Prop:=
 ∃ (p d:Nat) (wk fn:Bool) (x:Int),e=.returned (.tuple #[mz p d wk fn,vI x])/\bX x/\Ec S t x/\JQ w τ s q S w'
theorem zN(h:St w τ s q S){t:Nat}(ht:t<S.aW.length){a:Nat}(ha:a<=131072):aJ prog 137 #[pV S.sp,pV (S.tx t).xp,vI a] w (JM w τ s q S t):=by
 have jT:=(h.cells 0 _ rfl).1;obtain⟨X,hh⟩:=h.iW;have hx:=h.lW ht;have jC:=(hx 4 _ rfl).1
 by_cases h0:a=0
 ·subst h0;go_in;go_wp2;refine bodyPost_ret (v:=.tuple #[mz 0 0 false false,vI 143]) ?_ rfl ⟨0,0,false,false,143,rfl,by decide,.of (by decide),Nx.calm h (ah.alloc _) (.refl S)⟩;simp[results,Tryz.f137,go_sem]
 ·obtain⟨τ0,hf,tk,fr⟩:=h.fresh;have hz:((a:Int)==0)=false:=by simp;omega
  have k0:Calm w (w.alloc (.cells #[vI 0,vI 0,.bool false,.bool false] 179)):=ah.alloc _;have qE:af (w.alloc (.cells #[vI 0,vI 0,.bool false,.bool false] 179)) w.heap.size (Ol 0 0 false false):=af.new w (Ol 0 0 false false) 179;have Vt:w.heap.size<(w.alloc (.cells #[vI 0,vI 0,.bool false,.bool false] 179)).heap.size:=by simp
  obtain⟨W0,gF⟩:=ao (w.alloc (.cells #[vI 0,vI 0,.bool false,.bool false] 179));rw[gF] at qE k0 Vt;have hh0:=hh.calm k0;have acM:=k0.cellAt jT id;go_in;go_wp2_with fail
  clear gF;refine(uN hh0 h.ok.hw ha).mono ?_;rintro e w1 ⟨k1,⟨hm,rfl⟩|⟨i,o,ku,rfl⟩⟩
  ·have g:=(qE.calm k1).alloc (.cells #[vI 0,vI 0,.bool false,.bool false] 179);have k2:Calm W0 (w1.alloc (.cells #[vI 0,vI 0,.bool false,.bool false] 179)):=k1.alloc _;have k02:=k0.trans k2;have aM:w.heap.size<(w1.alloc (.cells #[vI 0,vI 0,.bool false,.bool false] 179)).heap.size:=by have:=k2.size;omega
   obtain⟨y0,z0,y1,z1,y2,z2,y3,z3⟩:=af.WJ g;go_wp2;obtain⟨T,fT⟩:=g.xt (vI 0) (vI 0) (.bool false) (.bool false);refine bodyPost_ret (v:=.tuple #[mz 0 0 false false,vI 70]) ?_ rfl ⟨0,0,false,false,70,rfl,by decide,.of (by decide),Nx.fin (Nx.calm (hf.calm k02) ah (Rn.refl S)) k02 tk fr fT (by rintro b rfl;exact⟨aD _,aM⟩)⟩;simp[results,Tryz.f137,go_sem,(T 0 _ rfl).1,(T 1 _ rfl).1,(T 2 _ rfl).1,(T 3 _ rfl).1]
  ·have g:=(qE.calm k1).alloc (.cells #[vI o.p,vI o.d,.bool o.wk,.bool o.fn] 179);have k2:Calm W0 (w1.alloc (.cells #[vI o.p,vI o.d,.bool o.wk,.bool o.fn] 179)):=k1.alloc _;have g8:af (w1.alloc (.cells #[vI o.p,vI o.d,.bool o.wk,.bool o.fn] 179)) w1.heap.size (Ol o.p o.d o.wk o.fn):=af.new w1 (Ol o.p o.d o.wk o.fn) _;have Oa:w1.heap.size<(w1.alloc (.cells #[vI o.p,vI o.d,.bool o.wk,.bool o.fn] 179)).heap.size:=by simp
   obtain⟨W2,fI⟩:=ao (w1.alloc (.cells #[vI o.p,vI o.d,.bool o.wk,.bool o.fn] 179));rw[fI] at g k2 g8 Oa;have k02:=k0.trans k2;have aM:w.heap.size<W2.heap.size:=by have:=k2.size;omega
   have ab7:w.heap.size<=w1.heap.size:=by have:=k0.size;have:=k1.size;omega
   have acY:w1.heap.size≠w.heap.size:=by have:=k1.size;omega
   go_wp2_with fail
   clear fI;refine(uq (hf.calm k02) ht ha).mono ?_;rintro e w3 ⟨⟨b,rfl,xV⟩,k3⟩;replace g:=g.calm k3;replace g8:=g8.calm k3;have VT:=k02.trans k3;have wS:w.heap.size<w3.heap.size:=by have:=k3.size;omega
   cases b with
   | true=>
     obtain⟨y0,z0,y1,z1,y2,z2,y3,z3⟩:=af.WJ g;go_wp2;obtain⟨T,fT⟩:=g.xt (vI 0) (vI 0) (.bool false) (.bool false);refine bodyPost_ret (v:=.tuple #[mz 0 0 false false,vI 141]) ?_ rfl ⟨0,0,false,false,141,rfl,by decide,⟨by decide,by decide,λ_=>by simpa using xV⟩,Nx.fin (Nx.calm (hf.calm VT) ah (Rn.refl S)) VT tk fr fT (by rintro b rfl;exact⟨aD _,wS⟩)⟩;simp[results,Tryz.f137,go_sem,(T 0 _ rfl).1,(T 1 _ rfl).1,(T 2 _ rfl).1,(T 3 _ rfl).1]
   | false=>
     have Ga:=VT.cellAt jC id;go_wp2_with fail
     refine(LN (hf.calm VT) ht ha).mono ?_;rintro e w4 ⟨⟨b2,rfl⟩,n4⟩;have n5:=n4;obtain⟨τ4,S4,m1,m2,m3,m4⟩:=n5;replace g:=m2.bH g (by rw[fr _ (aD _)];omega);replace g8:=m2.bH g8 (by rw[fr _ ab7];omega)
     cases b2 with
     | false=>
       obtain⟨y0,z0,y1,z1,y2,z2,y3,z3⟩:=af.WJ g;go_wp2;obtain⟨T,fT⟩:=g.xt (vI 0) (vI 0) (.bool false) (.bool false);refine bodyPost_ret (v:=.tuple #[mz 0 0 false false,vI 130]) ?_ rfl ⟨0,0,false,false,130,rfl,by decide,.of (by decide),Nx.fin (n4.any λS' h=>h.rn ht) VT tk fr fT (by rintro b rfl;exact⟨aD _,wS⟩)⟩;simp[results,Tryz.f137,go_sem,(T 0 _ rfl).1,(T 1 _ rfl).1,(T 2 _ rfl).1,(T 3 _ rfl).1]
     | true=>
       cases oX:o.fr with
       | true=>
         obtain⟨y0,z0,y1,z1,y2,z2,y3,z3⟩:=af.WJ g;go_wp2;obtain⟨T,fT⟩:=g.xt (vI 0) (vI 0) (.bool false) (.bool false);refine bodyPost_ret (v:=.tuple #[mz 0 0 false false,vI 142]) ?_ rfl ⟨0,0,false,false,142,rfl,by decide,.of (by decide),Nx.fin (n4.any λS' h=>h.rn ht) VT tk fr fT (by rintro b rfl;exact⟨aD _,wS⟩)⟩;simp[results,Tryz.f137,go_sem,(T 0 _ rfl).1,(T 1 _ rfl).1,(T 2 _ rfl).1,(T 3 _ rfl).1]
       | false=>
         obtain⟨a0,c0,a1,c1,a2,c2,a3,c3⟩:=af.WJ g8;obtain⟨y0,z0,y1,z1,y2,z2,y3,z3⟩:=af.WJ g;go_wp2;obtain⟨T,fT⟩:=g.xt (vI o.p) (vI o.d) (.bool o.wk) (.bool o.fn);refine bodyPost_ret (v:=.tuple #[mz o.p o.d o.wk o.fn,vI 0]) ?_ rfl ⟨o.p,o.d,o.wk,o.fn,0,rfl,by decide,.of (by decide),Nx.fin (n4.any λS' h=>h.rn ht) VT tk fr fT (by rintro b rfl;exact⟨aD _,wS⟩)⟩;simp[results,Tryz.f137,go_sem,(T 0 _ rfl).1,(T 1 _ rfl).1,(T 2 _ rfl).1,(T 3 _ rfl).1]
end
section
variable {w:ag}{τ:Nat->Nat}{s q:Nat}{S:aE}
theorem Nx.gi{w':ag}{A':HS}{R:aE->Prop}{s':Nat}(h:St w τ s q S)(hi:Av w S.D.B w' A')(hm:A'.mv=S.D.A.mv)(hs:A'.ser<=s')(hn:A'.n=S.D.A.n)(hI:∀B',Inv (S.h_ B' A'))(hf:A'.fin.length+S.D.A.ser<=S.D.A.fin.length+A'.ser)(r:∀B',R (S.h_ B' A')):Nx w τ s' q S w' R:=by
 obtain⟨B',aL,k1,k2,k3⟩:=h.gi hi hm hs hI;exact⟨aL,_,k1,k2,Fix.h_ k3 hn hf,r B'⟩
theorem FG.vK{A A':HS}{a:Nat}{sz:Int}(h:FG A A' a sz):AX A A':=.of λp hp=>(h.grow p hp).2.1
def JD(S:aE)(p d:Nat)(v x:Int)(S':aE):Prop:=
 (x=0/\∃a:Nat,v=a/\FG S.D.A S'.D.A a ((3+p+d:Nat):Int))\/(x=100/\v=0/\S.D.A.room<ju ((3+p+d:Nat):Int)/\S'.D=S.D)
theorem II(h:St w τ s q S)(hs:s<100000){p d:Nat}{wk fn:Bool}(bU:sV p d wk fn):aJ prog 183 #[pV S.D.B.hp,mz p d wk fn] w λe w'=>
 ∃v x:Int,e=.returned (.tuple #[vI v,vI x])/\bX x/\Nx w τ (s+1) q S w' (λS'=>JD S p d v x S'/\Rn S S'):=by
 obtain⟨X,hh⟩:=h.iW;have hse:=h.ok.se;refine(Ef hh h.ok.hw bU (by omega)).mono ?_;rintro e w' (⟨a,A',rfl,hi,hl⟩|⟨rfl,hr,c⟩)
 ·exact⟨_,_,rfl,by decide,Nx.gi h hi hl.mv (by rw[hl.ser];omega) hl.n (λB'=>h.ok.iv.h_ hl.vK (h.ok.iv.hv.lvx hl.lv λz y ⟨_,e⟩=>.inr ⟨0,by omega,bY _⟩)) (by have:=hl.fi;rw[hl.ser];omega) (λB'=>⟨.inl ⟨rfl,a,rfl,hl⟩,Rn.h_ _ _ _⟩)⟩
 ·exact⟨_,_,rfl,by decide,(Nx.calm (R:=λS'=>JD S p d 0 100 S'/\Rn S S') h c ⟨.inr ⟨rfl,rfl,hr,rfl⟩,.refl S⟩).mono (Nat.le_succ _) (aD _) λ_ h=>h⟩
def ie(S S':aE):Prop:=Still (λ_=>True) S.D.A S'.D.A/\S'.aW=S.aW/\S'.aK=S.aK/\S'.qu=S.qu/\S'.qv=S.qv/\S'.now=S.now/\S'.dm=S.dm
theorem ie.rn{S S':aE}(h:ie S S'):Rn S S':=⟨λu=>by unfold aE.tx;rw[h.2.1],λu=>by unfold aE.tx;rw[h.2.1],h.2.2.2.2.2.1,h.2.2.2.2.2.2⟩
def yU(S S':aE):Prop:=ie S S'/\Lv S.D.A S'.D.A
theorem jF(h:St w τ s q S){a:Nat}(ha:a<=131072)(fr:Bool):aJ prog 149 #[pV S.D.B.hp,vI a,.bool fr] w λe w'=>∃x:Int,e=.returned (vI x)/\nU x/\Nx w τ s q S w' (yU S):=by
 obtain⟨X,hh⟩:=h.iW;refine(wX hh h.ok.hw ha fr).mono ?_;rintro e w' ⟨x,A',rfl,hx,hi,hs⟩;exact⟨x,rfl,by unfold nU;omega,Nx.gi h hi hs.mv (by rw[hs.ser];exact h.ok.se) hs.n (λB'=>h.ok.iv.lv hs.vK (hs.Lv λ_=>id)) (by rw[hs.fi,hs.ser];omega) (λB'=>⟨⟨hs.mono (λ_ _=>trivial),rfl,rfl,rfl,rfl,rfl,rfl⟩,hs.Lv λ_=>id⟩)⟩
theorem vQ(h:St w τ s q S){a:Nat}(ha:a<=131072)(k v:Int)(hv:bX v):aJ prog 145 #[pV S.D.B.hp,vI a,vI k,vI v] w λe w'=>∃x:Int,e=.returned (vI x)/\nU x/\Nx w τ s q S w' (yU S):=by
 obtain⟨X,hh⟩:=h.iW;refine(Cg hh h.ok.hw ha k v hv).mono ?_;rintro e w' ⟨x,A',rfl,hx,hi,hs⟩;exact⟨x,rfl,hx,Nx.gi h hi hs.mv (by rw[hs.ser];exact h.ok.se) hs.n (λB'=>h.ok.iv.lv hs.vK (hs.Lv λ_=>id)) (by rw[hs.fi,hs.ser];omega) (λB'=>⟨⟨hs.mono (λ_ _=>trivial),rfl,rfl,rfl,rfl,rfl,rfl⟩,hs.Lv λ_=>id⟩)⟩
theorem pC(h:St w τ s q S){a v:Nat}(ha:a<=131072)(hv:v<=131072)(k:Int):aJ prog 133 #[pV S.D.B.hp,vI a,vI k,vI v] w λe w'=>∃x:Int,e=.returned (vI x)/\nU x/\Nx w τ s q S w' (yU S):=by
 obtain⟨X,hh⟩:=h.iW;refine(Ch hh h.ok.hw ha hv k).mono ?_;rintro e w' ⟨x,A',rfl,hx,hi,hs⟩;exact⟨x,rfl,hx,Nx.gi h hi hs.mv (by rw[hs.ser];exact h.ok.se) hs.n (λB'=>h.ok.iv.lv hs.vK (hs.Lv λ_=>id)) (by rw[hs.fi,hs.ser];omega) (λB'=>⟨⟨hs.mono (λ_ _=>trivial),rfl,rfl,rfl,rfl,rfl,rfl⟩,hs.Lv λ_=>id⟩)⟩
theorem Ag(h:St w τ s q S){a:Nat}(ha:a<=131072)(k:Int):aJ prog 135 #[pV S.D.B.hp,vI a,vI k] w λe w'=>∃ (v:Nat) (x:Int),e=.returned (.tuple #[vI (v:Nat),vI x])/\v<=131072/\nU x/\JQ w τ s q S w':=by
 obtain⟨X,hh⟩:=h.iW;refine(Lm hh h.ok.hw ha k).mono ?_;rintro e w' ⟨v,x,A',rfl,hx,hv,_,hi,hs⟩;exact⟨v,x,rfl,hv,hx,Nx.gi h hi hs.mv (by rw[hs.ser];exact h.ok.se) hs.n (λB'=>h.ok.iv.lv hs.vK hs.lv) (by rw[hs.fi,hs.ser];omega) (λB'=>Rn.h_ _ _ _)⟩
theorem GH(h:St w τ s q S){a:Nat}(ha:a<=131072)(k:Int):aJ prog 143 #[pV S.D.B.hp,vI a,vI k] w λe w'=>∃ (v x:Int),e=.returned (.tuple #[vI v,vI x])/\bX v/\nU x/\JQ w τ s q S w':=by
 obtain⟨X,hh⟩:=h.iW;refine(Lj hh h.ok.hw ha k).mono ?_;rintro e w' ⟨v,x,rfl,hv,hx,c⟩;exact⟨v,x,rfl,hv,hx,Nx.calm h c (.refl S)⟩
def Oz(w:ag)(τ:Nat->Nat)(s q:Nat)(S:aE)(t:Nat)(e:Ending)(w':ag):Prop:=∃x:Int,e=.returned (vI x)/\bX x/\Ec S t x/\JQ w τ s q S w'
theorem nH(h:St w τ s q S){t:Nat}(ht:t<S.aW.length){a:Nat}(ha:a<=131072):aJ prog 188 #[pV S.sp,pV (S.tx t).xp,vI a] w (Oz w τ s q S t):=by
 go_in;go_wp2_with fail
 refine(zN h ht ha).mono ?_;rintro e w1 ⟨p,d,wk,fn,x,rfl,hx,ft,n1⟩;have y2:=(af.new w1 (Ol p d wk fn) 179 2 _ rfl).1;have k1:Calm w1 (w1.alloc (.cells #[vI p,vI d,.bool wk,.bool fn] 179)):=ah.alloc _
 by_cases h0:x=0
 ·subst h0
  cases wk with
  | true=>
    go_wp2;go_ret;exact⟨144,rfl,by decide,.of (by decide),n1.J4 k1⟩
  | false=>
    go_wp2;go_ret;exact⟨0,rfl,by decide,.of (by decide),n1.J4 k1⟩
 ·have hz:(x==0)=false:=by simpa using h0
  go_wp2;go_ret;exact⟨x,rfl,hx,ft,n1.J4 k1⟩
def gl.ended(x:gl):gl:={ x with live:=false,tv:=.slice none 0 0,took:=[],L:=x.L.empty }
theorem oU(h:St w τ s q S){t:Nat}(ht:t<S.aW.length)(hK:iJ S.D.A (λu z=>S.K u z/\u≠t) S.now)(hl:(S.tx t).live=true)(UT:S.aK≠t):aJ prog 124 #[pV S.sp,pV (S.tx t).xp] w λe w'=>e=.returned (.tuple #[])/\Nx w τ s q S w' (λS'=>S'=S.aU t (S.tx t).ended):=by
 have hx:=h.lW ht;have c4:=(hx 4 _ rfl).1;go_in;go_wp2_with fail
 refine(Iw h ht hK hl).mono ?_;rintro e w1 ⟨rfl,h1,k1⟩;have ft:=h1.lW (t:=t) (by simpa[aE.aU] using ht);rw[aE.dS ht] at ft;have y1:Own w1 (S.tx t).xp 1 (.bool (S.tx t).live):=ft 1 _ rfl;have y5:Own w1 (S.tx t).xp 5 (S.tx t).tv:=ft 5 _ rfl;have sI:=y1.1;have z12:=y1.2;have z51:=y5.1;have z52:=y5.2;go_wp2;have hC:af ((w1.setCell ⟨(S.tx t).xp,5,none⟩ (.slice none 0 0)).setCell ⟨(S.tx t).xp,1,none⟩ (.bool false)) (S.tx t).xp (gl.cs t (S.tx t).ended):=(ft.set 5 (.slice none 0 0) (by simp[gl.cs])).set 1 (.bool false) (by simp[gl.cs]);have hF:Fr (λb=>b=(S.tx t).xp) w1 ((w1.setCell ⟨(S.tx t).xp,5,none⟩ (.slice none 0 0)).setCell ⟨(S.tx t).xp,1,none⟩ (.bool false)):=((Fr.refl (λb=>b=(S.tx t).xp) w1).setCell (p:=⟨(S.tx t).xp,5,none⟩) (.inl rfl) _).setCell (p:=⟨(S.tx t).xp,1,none⟩) (.inl rfl) _;obtain⟨M,g1,g2,g3⟩:=h1;have hox:=h.ok.x t ht;have kV:t<(S.aU t { S.tx t with L:=(S.tx t).L.empty }).aW.length:=by simpa[aE.aU] using ht
 have e0:(S.aU t { S.tx t with L:=(S.tx t).L.empty }).tx t = { S.tx t with L:=(S.tx t).L.empty }:=aE.dS ht _;have e9:(S.aU t { S.tx t with L:=(S.tx t).L.empty }).aU t (S.tx t).ended=S.aU t (S.tx t).ended:=by simp[aE.aU,List.set_set]
 obtain⟨aL,j1,j2⟩:=gR.QN (x':=(S.tx t).ended) g1 g2 g3 kV (by rw[e0];exact hF.mono (λb _ e=>.inl e)) (by rw[e0];exact hC) (qs _ _ _ _) (λb hb=>(ay.nil b hb).elim) (by rw[e0];rfl) (by rw[e0];rfl) (by rw[e0];rfl)
  ⟨JK.empty _,⟨bY _,bY _,bY _,bY _⟩,hox.m,hox.i,λi hi=>by cases hi⟩ (by
   rw[e9];have:=S.kN (x':=(S.tx t).ended) ht;have:=h.ok.tt;have e:(S.tx t).ended.took.length=0:=rfl
   omega) (by rw[e9];exact h.ok.iv.yG ht hK (λe=>by cases e) (λe=>absurd e UT) (λz hz=>by cases hz))
 rw[e9] at j1
 go_end0
 exact⟨rfl,aL,_,j1,k1.trans j2,Fix.aU ht rfl rfl,rfl⟩
end
section
variable {w:ag}{τ:Nat->Nat}{s q:Nat}{S:aE}
def wH(S:aE)(p d:Nat)(v x:Int)(S':aE):Prop:=
 (x=0/\∃a:Nat,v=a/\a<=131072/\S'.D.A.room=S.D.A.room-ju ((3+p+d:Nat):Int)/\ju ((3+p+d:Nat):Int)<=S.D.A.room)\/(x=100/\v=0/\S.D.A.room<ju ((3+p+d:Nat):Int)/\S'.D=S.D)\/(x=130/\v=0)
def JL(w:ag)(τ:Nat->Nat)(s q:Nat)(S:aE)(p d:Nat)(e:Ending)(w':ag):Prop:=
 ∃v x:Int,e=.returned (.tuple #[vI v,vI x])/\Nx w τ (s+1) q S w' (λS'=>wH S p d v x S'/\Rn S S')
theorem VX(h:St w τ s q S)(hs:s<100000){t:Nat}(ht:t<S.aW.length)(hl:(S.tx t).live=true){p d:Nat}{wk fn:Bool}(bU:sV p d wk fn) :
 aJ prog 131 #[pV S.sp,pV (S.tx t).xp,mz p d wk fn] w (JL w τ s q S p d):=by
 obtain⟨τ0,hf,tk,fr⟩:=h.fresh;have k0:Calm w (w.alloc (.cells #[vI p,vI d,.bool wk,.bool fn] 179)):=ah.alloc _;have qE:af (w.alloc (.cells #[vI p,vI d,.bool wk,.bool fn] 179)) w.heap.size (Ol p d wk fn):=af.new w (Ol p d wk fn) 179;have Vt:w.heap.size<(w.alloc (.cells #[vI p,vI d,.bool wk,.bool fn] 179)).heap.size:=by simp
 obtain⟨W0,gF⟩:=ao (w.alloc (.cells #[vI p,vI d,.bool wk,.bool fn] 179));rw[gF] at qE k0 Vt;have jT:=k0.cellAt (h.cells 0 _ rfl).1 id;obtain⟨y0,y1,y2,y3⟩:=af.Bh qE;have Ut:=hid (λW (cw:Calm W0 W)=>II (hf.calm (k0.trans cw)) hs bU);have gU:500<=τ0 w.heap.size:=by rw[fr _ (aD _)];omega
 have hBr:Hid (∀ {W w2:ag} {fj:Nat->Nat} {S2:aE},Calm W0 W->St w2 fj (s+1) q S2->aC W τ0 w2 fj->Fix S S2->w2.cell? ⟨S.sp,0,none⟩=some (pV S.D.B.hp)/\af w2 w.heap.size (Ol p d wk fn)):=by
  intro W w2 fj S2 c m1 m2 m3;have:=(m1.cells 0 _ rfl).1;rw[m3.sp,m3.hp] at this;exact⟨this,m2.bH (qE.calm c) gU⟩
 go_in;go_wp2_with fail
 clear gF
 go_region_held3 (λw'=>w'.cell? ⟨S.sp,0,none⟩=some (pV S.D.B.hp)/\w'.cell? ⟨w.heap.size,0,none⟩=some (vI p)/\w'.cell? ⟨w.heap.size,1,none⟩=some (vI d)/\w'.cell? ⟨w.heap.size,2,none⟩=some (.bool wk)/\w'.cell? ⟨w.heap.size,3,none⟩=some (.bool fn)) (go_keep)
  (first|(go_at_call 183;refine(Ut.out _ (by first|exact ah|exact ah.drew)).mono ?_;rintro e w2 ⟨v,x,rfl,hx,fj,S2,m1,m2,m3,m4⟩;obtain⟨q0,q1⟩:=hBr.out (by first|exact ah|exact ah.drew) m1 m2 m3;have r0:=(q1 0 _ rfl).1;have r1:=(q1 1 _ rfl).1;have r2:=(q1 2 _ rfl).1;have r3:=(q1 3 _ rfl).1;have km:Hid (aC W0 τ0 w2 fj):=(by first|exact m2|exact(aC.calm τ0 (ah.drew)).trans m2);clear m2))
 rename_i hHeld;clear hHeld r0 r1 r2 r3 q1 hBr Ut;have kf:aC w τ w2 fj:=((aC.calm τ0 k0).trans km.out).dE tk;have Cl:t<S2.aW.length:=m3.len ▸ ht;have c4:=(m1.lW Cl 4 _ rfl).1;rw[m3.xp,m3.lp] at c4;clear km y0 y1 y2 y3 jT qE k0 fr tk hf gU Vt;obtain⟨m4,r4⟩:=m4;rcases m4 with ⟨rfl,a,rfl,hL⟩|⟨rfl,rfl,hr,eD⟩
 ·have o:=Cr m1 Cl hL.le (n:=0) (by decide) ⟨by omega,by omega⟩;rw[m3.lp] at o;go_wp2_with fail
  refine(o).mono ?_;rintro e w3 ⟨b,rfl,Tf,S3,n1,n2,n3,n4,n6⟩;have hD3:=n4.D;have ht3:t<S3.aW.length:=n3.len ▸ Cl;have r3:=r4.trans (n4.rn Cl)
  cases b with
  | false=>
    have c0:=(n1.cells 0 _ rfl).1;rw[n3.sp,n3.hp,m3.sp,m3.hp] at c0;have o2:=jF n1 hL.le true;rw[n3.hp,m3.hp] at o2;go_wp2_with fail
    refine(o2).mono ?_;rintro e w4 ⟨x,rfl,_,n5⟩;go_wp2
    go_ret2
    exact⟨0,130,rfl,(n5.step (kf.trans n2) (m3.trans n3)).mono (aD _) (aD _) λS' hS=>⟨.inr (.inr ⟨rfl,rfl⟩),r3.trans hS.1.rn⟩⟩
  | true=>
    have o2:=Mg n1 ht3 hL.le ((r3.lv t).trans hl) (n6 rfl);rw[n3.sp,m3.sp,n3.xp,m3.xp] at o2;go_wp2_with fail
    refine(o2).mono ?_;rintro e w4 ⟨rfl,n5⟩;go_wp2
    go_ret2
    refine⟨a,0,rfl,(n5.step (kf.trans n2) (m3.trans n3)).mono (aD _) (aD _) λS' hS=>⟨.inl ⟨rfl,a,rfl,hL.le,?_,hL.fit⟩,r3.trans (by obtain⟨_,B',A',e⟩:=hS;exact e ▸ Rn.h_ _ _ _)⟩⟩;rw[hS.1.room,hD3,hL.room]
 ·go_wp2
  go_ret2
  exact⟨0,100,rfl,fj,S2,m1,kf,m3,.inr (.inl ⟨rfl,rfl,hr,eD⟩),r4⟩
end
theorem bE.add{w:ag}{τ:Nat->Nat}{A:Mem}(h:bE w τ A)(t:Nat)(a:tQ)(ha:a.at_ w)(hn:∀j k,a.dh k->¬(A j).dh k) :
 ∃aL,bE w aL (A.put t a)/\(∀k,¬a.dh k->aL k=τ k)/\∀k,a.dh k->aL k=t:=by
 classical
 refine⟨λk=>if a.dh k then t else τ k,⟨λj=>?_,λj k hk=>?_⟩,λk hk=>if_neg hk,λk hk=>if_pos hk⟩
 ·by_cases e:j=t
  ·subst e;rw[Mem.aG];exact ha
  ·rw[Mem.aB _ _ e];exact h.at_ j
 ·by_cases e:j=t
  ·subst e;rw[Mem.aG] at hk;exact if_pos hk
  ·rw[Mem.aB _ _ e] at hk;rw[if_neg (λh2=>hn j k h2 hk)];exact h.tag j k hk
theorem bE.yX{w:ag}{τ:Nat->Nat}{A:Mem}(h:bE w τ A)(t:Nat)(a:tQ)(ha:a.at_ w)(he:∀k,¬a.dh k):bE w τ (A.put t a):=by
 refine⟨λj=>?_,λj k hk=>?_⟩
 ·by_cases e:j=t
  ·subst e;rw[Mem.aG];exact ha
  ·rw[Mem.aB _ _ e];exact h.at_ j
 ·by_cases e:j=t
  ·subst e;rw[Mem.aG] at hk;exact absurd hk (he k)
  ·rw[Mem.aB _ _ e] at hk;exact h.tag j k hk
abbrev nS:aA:=.slice none 0 0
def D0(B:HB)(n c:Nat):HD:=⟨B,HS.start n,c,0,nS,nS,[],[]⟩
def S0(B:HB)(n c ck:Nat)(m:Int)(sp:Nat):aE:=⟨D0 B n c,ck,0,m,sp,nS,[],nS,[],0,-1,0,nS,[],nS,[]⟩
theorem iY(w:ag)(e:TypeId)(k:Nat):w.ownsRow 0 e k nS 0 []:=⟨by simp,.inl ⟨rfl,rfl⟩⟩
theorem JR(B:HB)(n c ck:Nat)(m:Int)(sp t:Nat):(S0 B n c ck m sp).tx t=dT:=by simp[S0,aE.tx]
theorem VR(B:HB)(n c ck:Nat)(m:Int)(sp:Nat):Inv (S0 B n c ck m sp):=
 ⟨iJ.start n _,aD _,λt h=>(by rw[JR] at h;cases h),λt z hz=>(by rw[JR] at hz;cases hz),.inl rfl⟩
structure yT(S:aE):Prop where
 lv:∀t,(S.tx t).live=false
 lo:S.lost=[]
 ca:S.bK=[]
 fi:S.D.A.fin=[]
 se:S.D.A.ser=0
 ph:S.D.ph=0
theorem V4(B:HB)(n c ck:Nat)(m:Int)(sp:Nat):yT (S0 B n c ck m sp):=⟨λt=>(by rw[JR];rfl),rfl,rfl,rfl,rfl,rfl⟩
def M0:Mem:=λ_=>rQ
theorem bE.none(w:ag):bE w (λ_=>1000) M0:=⟨λ_=>trivial,λ_ _ h=>h.elim⟩
theorem MU{w:ag}{B:HB}{n c ck sp:Nat}{m:Int}{X:aj}(hA:cz w B (HS.start n) X)(hC:af w c [pV B.hp,.nilFunc,nS,nS])(hK:af w ck [vI (0:Nat),vI m])(hS:af w sp [pV B.hp,pV c,pV ck,nS,nS,vI (0:Nat),vI (-1),vI (0:Nat),nS,nS])
 (h1:¬dz B c) (h2:¬dz B ck) (h3:¬dz B sp) (h4:c≠ck) (h5:c≠sp) (h6:ck≠sp) (m1:0<=m) (m2:m<=1099511627776) {b0:Nat} (l1:∀k,dz B k->b0<=k) (l2:b0<=c) (l3:b0<=ck) (l4:b0<=sp) :
 ∃τ,St w τ 0 0 (S0 B n c ck m sp)/\∀b,b<b0->τ b=1000:=by
 have hCy:fP w 0 c B.hp 0 nS nS [] []:=⟨hC,aI.nil _ _,aI.nil _ _,λh=>ay.nil _ h,λh=>ay.nil _ h,λb h=>absurd h (ay.nil _),bY _⟩
 have hCB:∀k,v_ c nS nS k->k=c:=λk hk=>by
  rcases hk with hk|hk|hk
  ·exact hk
  ·exact absurd hk (ay.nil _)
  ·exact absurd hk (ay.nil _)
 have KL:CH w 0 c B (HS.start n) X 0 nS nS [] []:=⟨hA,hCy,λk hk=>by rw[hCB k hk];exact h1⟩;obtain⟨gI,k1,n1,t1⟩:=(bE.none w).add 0 (aH (D0 B n c)) ⟨X,KL⟩ (λj k _ h=>h)
 have b1:∀k,(aH (D0 B n c)).dh k->dz B k\/k=c:=λk hk=>by
  rcases hk with hk|hk
  ·exact .inl hk
  ·exact .inr (hCB k hk)
 have g1:∀j k,((M0.put 0 (aH (D0 B n c))) j).dh k->dz B k\/k=c:=λj k hk=>by
  by_cases e:j=0
  ·subst e;rw[Mem.aG] at hk;exact b1 k hk
  ·rw[Mem.aB _ _ e] at hk;exact hk.elim
 obtain⟨fj,k2,n2,t2⟩:=k1.add 2 (bD sp (pV B.hp) [pV c,pV ck,nS,nS,vI (0:Nat),vI (-1),vI (0:Nat),nS,nS]) hS (λj k hk h=>by
  have e:k=sp:=hk;subst e;rcases g1 j _ h with h|h
  ·exact h3 h
  ·exact h5 h.symm)
 have g2:∀j k,(((M0.put 0 (aH (D0 B n c))).put 2 (bD sp (pV B.hp) [pV c,pV ck,nS,nS,vI (0:Nat),vI (-1),vI (0:Nat),nS,nS])) j).dh k->(dz B k\/k=c)\/k=sp:=λj k hk=>by
  by_cases e:j=2
  ·subst e;rw[Mem.aG] at hk;exact .inr hk
  ·rw[Mem.aB _ _ e] at hk;exact .inl (g1 j k hk)
 obtain⟨Tf,k3,n3,t3⟩:=k2.add 3 (bD ck (vI (0:Nat)) [vI m]) hK (λj k hk h=>by
  have e:k=ck:=hk;subst e;rcases g2 j _ h with (h|h)|h
  ·exact h2 h
  ·exact h4 h.symm
  ·exact h6 h)
 have k4:=k3.yX 4 (fU 110 1 nS 0 []) (iY _ _ _) (λk=>ay.nil k);have k5:=k4.yX 5 (pP nS []) (iY _ _ _) (λk=>ay.nil k);have k6:=k5.yX 6 (fV nS (nI [])) (aI.nil _ _) (λk=>ay.nil k);have k7:=k6.yX 7 (fV nS (nI [])) (aI.nil _ _) (λk=>ay.nil k);refine⟨Tf,⟨_,k7,⟨?_,?_,?_,?_,?_,?_,?_,?_,?_⟩,?_⟩,λb hb=>?_⟩
 ·simp[Mem.put,M0,S0]
 ·simp[Mem.put,M0,S0,D0]
 ·simp[Mem.put,M0,S0]
 ·simp[Mem.put,M0,S0]
 ·simp[Mem.put,M0,S0]
 ·simp[Mem.put,M0,S0]
 ·simp[Mem.put,M0,S0]
 ·intro t ht;exact absurd ht (Nat.not_lt_zero t)
 ·intro t ht;have e7:t≠7:=by omega
  have e6:t≠6:=by omega
  have e5:t≠5:=by omega
  have e4:t≠4:=by omega
  have e3:t≠3:=by omega
  have e2:t≠2:=by omega
  have e0:t≠0:=by omega
  rw[Mem.aB _ _ e7,Mem.aB _ _ e6,Mem.aB _ _ e5,Mem.aB _ _ e4,Mem.aB _ _ e3,Mem.aB _ _ e2,Mem.aB _ _ e0];rfl
 ·exact⟨HW.start n,⟨λ_=>rfl,λ_=>rfl⟩,bY _,aD _,rfl,rfl,⟨m1,m2,bY _⟩,bY _,λt ht=>absurd ht (Nat.not_lt_zero t),λi hi=>(by cases hi),aD _,aD _,(show bX (-1) from⟨by decide,by decide⟩),bY _,aD _,aD _,VR _ _ _ _ _ _⟩
 ·have q3:¬(bD ck (vI (0:Nat)) [vI m]).dh b:=λe=>by have e:b=ck:=e;omega
  have q2:¬(bD sp (pV B.hp) [pV c,pV ck,nS,nS,vI (0:Nat),vI (-1),vI (0:Nat),nS,nS]).dh b:=λe=>by have e:b=sp:=e;omega
  rw[n3 b q3,n2 b q2,n1 b (λe=>by
   rcases b1 b e with h|h
   ·have:=l1 b h;omega
   ·omega)]
def AL(xp lp:Nat)(mr mu:Int):gl:=⟨xp,false,0,0,lp,nS,[],cd.new mr mu⟩
def aE.more(S:aE)(v:aA)(x:gl):aE:={ S with mj:=v,aW:=S.aW++[x] }
theorem tG(S:aE)(v:aA)(x:gl)(t:Nat):(t<S.aW.length/\(S.more v x).tx t=S.tx t)\/(t=S.aW.length/\(S.more v x).tx t=x)\/(S.more v x).tx t=dT:=by
 unfold aE.tx aE.more;rcases Nat.lt_trichotomy t S.aW.length with h|h|h
 ·exact .inl ⟨h,by rw[aS,aS,List.getElem?_append_left h]⟩
 ·exact .inr (.inl ⟨h,by rw[aS,rM (by omega),h,Nat.sub_self];rfl⟩)
 ·exact .inr (.inr (by rw[aS,List.getElem?_eq_none (by simp;omega)];rfl))
theorem Inv.more{S:aE}(h:Inv S)(v:aA)(xp lp:Nat)(mr mu:Int):Inv (S.more v (AL xp lp mr mu)):=by
 have gL:∀t,(S.tx t).live=true->(S.more v (AL xp lp mr mu)).tx t=S.tx t:=λt ht=>by
  have:=aE.pX ht;rcases tG S v (AL xp lp mr mu) t with ⟨_,e⟩|⟨e,_⟩|e
  ·exact e
  ·omega
  ·rw[show(S.more v (AL xp lp mr mu)).tx t=S.tx t from by unfold aE.tx aE.more;rw[aS,aS,List.getElem?_append_left this]]
 refine⟨h.hv.mono (λt s hk=>?_) (aD _),h.ve,λt ht=>?_,λt z hz=>?_,?_⟩
 ·obtain⟨h1,h2⟩:=hk;unfold aE.K;rw[gL t h1];exact⟨h1,h2⟩
 ·rcases tG S v (AL xp lp mr mu) t with ⟨_,e⟩|⟨_,e⟩|e
  ·rw[e] at ht ⊢;exact h.st t ht
  ·rw[e] at ht;cases ht
  ·rw[e] at ht;cases ht
 ·rcases tG S v (AL xp lp mr mu) t with ⟨_,e⟩|⟨_,e⟩|e
  ·rw[e] at hz;exact h.vs t z hz
  ·rw[e] at hz;cases hz
  ·rw[e] at hz;cases hz
 ·rcases h.ho with e|⟨t,e,hl⟩
  ·exact .inl e
  ·exact .inr ⟨t,e,by rw[gL t hl];exact hl⟩
theorem yT.more{S:aE}(h:yT S)(v:aA)(xp lp:Nat)(mr mu:Int):yT (S.more v (AL xp lp mr mu)):=⟨λt=>by
 rcases tG S v (AL xp lp mr mu) t with ⟨_,e⟩|⟨_,e⟩|e
 ·rw[e];exact h.lv t
 ·rw[e];rfl
 ·rw[e];rfl
 ,h.lo,h.ca,h.fi,h.se,h.ph⟩
theorem St.more{w w':ag}{τ:Nat->Nat}{s q:Nat}{S:aE}(h:St w τ s q S)(hn:S.aW.length<=7){v':aA}{xp lp:Nat}{mr mu:Int}(f:Fr (λb=>b=S.sp\/ay S.mj b) w w')
 (hc:af w' S.sp (aE.more S v' (AL xp lp mr mu)).cs) (ho:w'.ownsRow 0 110 1 v' (S.aW.length+1) ((S.aW.map λx=>pV x.xp)++[pV xp])) (fZ:∀b,ay v' b->ay S.mj b\/w.heap.size<=b)
 (hx:af w' xp (gl.cs S.aW.length (AL xp lp mr mu))) (hl:af w' lp [vI mr,vI mu,nS,nS,nS,nS]) (x1:w.heap.size<=xp) (x2:w.heap.size<=lp) (x3:xp≠lp) (x4:¬ay v' xp) (x5:¬ay v' lp)
 (m:0<=mr/\mr<=200/\0<=mu/\mu<=200):∃aL,St w' aL s q (aE.more S v' (AL xp lp mr mu))/\∀b,b<w.heap.size->aL b=τ b:=by
 obtain⟨M,h1,h2,h3⟩:=h;have tz:(M 2).dh=λk=>k=S.sp:=by rw[h2.c];rfl
 have KH:(M 4).dh=ay S.mj:=by rw[h2.t];rfl
 obtain⟨N,hN⟩:=ao S.aW.length
 obtain⟨gI,k1,kt1⟩:=h1.xm (t:=2) (u:=4) (by decide) (a:=bD S.sp (pV S.D.B.hp) [pV S.D.c,pV S.ck,v',S.qv,vI S.next,vI S.aK,vI S.dm,S.lv,S.cv]) (b:=fU 110 1 v' (S.aW.length+1) ((S.aW.map λx=>pV x.xp)++[pV xp]))
  (by rw[tz,KH];exact f) hc ho (λk hk=>by rw[tz];exact hk) (λk hk=>by rw[KH];exact fZ k hk) (by decide) (by decide)
 generalize Pr:(M.put 2 (bD S.sp (pV S.D.B.hp) [pV S.D.c,pV S.ck,v',S.qv,vI S.next,vI S.aK,vI S.dm,S.lv,S.cv])).put 4 (fU 110 1 v' (S.aW.length+1) ((S.aW.map λx=>pV x.xp)++[pV xp]))=M1 at k1;have p4:M1 4=fU 110 1 v' (S.aW.length+1) ((S.aW.map λx=>pV x.xp)++[pV xp]):=by rw[<-Pr,Mem.aG]
 have p2:M1 2=bD S.sp (pV S.D.B.hp) [pV S.D.c,pV S.ck,v',S.qv,vI S.next,vI S.aK,vI S.dm,S.lv,S.cv]:=by rw[<-Pr,Mem.aB _ _ (by decide),Mem.aG]
 have pO:∀j,j≠2->j≠4->M1 j=M j:=λj e2 e4=>by rw[<-Pr,Mem.aB _ _ e4,Mem.aB _ _ e2]
 have gL:∀k,w.heap.size<=k->¬ay v' k->∀j,¬(M1 j).dh k:=λk hk hv j hj=>by
  by_cases e4:j=4
  ·subst e4;rw[p4] at hj;exact hv hj
  ·by_cases e2:j=2
   ·subst e2;rw[p2] at hj;have e:k=S.sp:=hj;have:=h1.lt 2 (k:=S.sp) (by rw[tz]);omega
   ·rw[pO j e2 e4] at hj;have:=h1.lt j hj;omega
 obtain⟨fj,k2,n2,t2⟩:=k1.add (10+8*N) (bD xp (vI N) [.bool false,vI 0,vI 0,pV lp,nS]) (by rw[<-hN];exact hx) (λj k hk=>by have e:k=xp:=hk;rw[e];exact gL xp x1 x4 j)
 obtain⟨Tf,k3,n3,t3⟩:=k2.add (10+8*N+1) (bD lp (vI mr) [vI mu,nS,nS,nS,nS]) hl (λj k hk h=>by
  have e:k=lp:=hk;rw[e] at h
  by_cases ej:j=10+8*N
  ·subst ej;rw[Mem.aG] at h;exact x3 (Eq.symm h)
  ·rw[Mem.aB _ _ ej] at h;exact gL lp x2 x5 j h)
 have k4:=k3.yX (10+8*N+2) (fV nS (nI [])) (aI.nil _ _) (λk=>ay.nil k);have k5:=k4.yX (10+8*N+3) (fV nS (nI [])) (aI.nil _ _) (λk=>ay.nil k);have k6:=k5.yX (10+8*N+4) (A0 nS []) (iY _ _ _) (λk=>ay.nil k);have k7:=k6.yX (10+8*N+5) (A_ nS []) (iY _ _ _) (λk=>ay.nil k);have k8:=k7.yX (10+8*N+6) (pP nS []) (iY _ _ _) (λk=>ay.nil k);generalize RH:(((((((M1.put (10+8*N) (bD xp (vI N) [.bool false,vI 0,vI 0,pV lp,nS])).put (10+8*N+1) (bD lp (vI mr) [vI mu,nS,nS,nS,nS])).put (10+8*N+2) (fV nS (nI []))).put (10+8*N+3) (fV nS (nI []))).put (10+8*N+4) (A0 nS [])).put (10+8*N+5) (A_ nS [])).put (10+8*N+6) (pP nS []))=M8 at k8
 have o8:Mem.cf (λj=>10+8*N<=j/\j<=10+8*N+6) M1 M8:=by
  rw[<-RH];exact((((((Mem.cf.put M1 _ (by omega)).trans (Mem.cf.put _ _ (by omega))).trans (Mem.cf.put _ _ (by omega))).trans (Mem.cf.put _ _ (by omega))).trans (Mem.cf.put _ _ (by omega))).trans (Mem.cf.put _ _ (by omega))).trans (Mem.cf.put _ _ (by omega))
 have g0:M8 (10+8*N)=bD xp (vI N) [.bool false,vI 0,vI 0,pV lp,nS]:=by rw[<-RH];simp[Mem.put]
 have g1:M8 (10+8*N+1)=bD lp (vI mr) [vI mu,nS,nS,nS,nS]:=by rw[<-RH];simp[Mem.put]
 have g2:M8 (10+8*N+2)=fV nS (nI []):=by rw[<-RH];simp[Mem.put]
 have g3:M8 (10+8*N+3)=fV nS (nI []):=by rw[<-RH];simp[Mem.put]
 have g4:M8 (10+8*N+4)=A0 nS []:=by rw[<-RH];simp[Mem.put]
 have g5:M8 (10+8*N+5)=A_ nS []:=by rw[<-RH];simp[Mem.put]
 have g6:M8 (10+8*N+6)=pP nS []:=by rw[<-RH];simp[Mem.put]
 have txO:∀t,t<N->(aE.more S v' (AL xp lp mr mu)).tx t=S.tx t:=λt ht=>by
  show(S.aW++[_]).getD t dT=S.aW.getD t dT;rw[aS,aS,List.getElem?_append_left (by omega)]
 have txN:(aE.more S v' (AL xp lp mr mu)).tx N=AL xp lp mr mu:=by
  show(S.aW++[_]).getD N dT=_;rw[aS,rM (by omega),hN,Nat.sub_self];rfl
 have Xb:(aE.more S v' (AL xp lp mr mu)).aW.length=N+1:=by show(S.aW++[_]).length=_;rw[b_,hN];rfl
 refine⟨Tf,⟨M8,k8,⟨?_,?_,?_,?_,?_,?_,?_,?_,?_⟩,?_⟩,λb hb=>?_⟩
 ·rw[o8 0 (by omega),pO 0 (by decide) (by decide)];exact h2.h
 ·rw[o8 2 (by omega),p2];rfl
 ·rw[o8 3 (by omega),pO 3 (by decide) (by decide)];exact h2.k
 ·rw[o8 4 (by omega),p4,Xb,hN];show fU _ 1 v' (N+1) _=fU _ 1 v' (N+1) ((S.aW++[AL xp lp mr mu]).map λx=>pV x.xp);rw[List.map_append];rfl
 ·rw[o8 5 (by omega),pO 5 (by decide) (by decide)];exact h2.q
 ·rw[o8 6 (by omega),pO 6 (by decide) (by decide)];exact h2.l
 ·rw[o8 7 (by omega),pO 7 (by decide) (by decide)];exact h2.m
 ·intro t ht;rw[Xb] at ht
  by_cases e:t=N
  ·subst e;rw[txN];exact⟨g0,⟨g1,g2,g3,g4,g5⟩,g6⟩
  ·rw[txO t (by omega)];exact((h2.x t (by omega)).only (P:=λj=>j=2\/j=4) (λj hj=>pO j (λe=>hj (.inl e)) (λe=>hj (.inr e))) (λj h1 h2=>by omega)).only o8 (λj h1 h2=>by omega)
 ·intro t ht;rw[o8 t (by omega),pO t (by omega) (by omega)];exact h2.z t ht
 ·refine⟨h3.hw,h3.ph,h3.p2,h3.se,h3.rd,h3.ls,h3.ck,by rw[Xb];omega,λt ht=>?_,h3.qu,?_,h3.nx,h3.ho,h3.ve,h3.lo,h3.ca,h3.iv.more _ _ _ _ _⟩
  ·rw[Xb] at ht
   by_cases e:t=N
   ·subst e;rw[txN];exact⟨⟨λp hp=>(by cases hp),λp hp=>(by cases hp),λp hp=>(by cases hp),λp hp=>(by cases hp)⟩,⟨bY _,bY _,bY _,bY _⟩,m,⟨(show bX 0 from⟨by decide,by decide⟩),(show bX 0 from⟨by decide,by decide⟩)⟩,λi hi=>(by cases hi)⟩
   ·rw[txO t (by omega)];exact h3.x t (by omega)
  ·have:=h3.tt;unfold aE.tM at this ⊢;show S.qu.length+((S.aW++[AL xp lp mr mu]).map λx=>x.took.length).sum<=q;rw[List.map_append,List.sum_append];simpa[AL] using this
 ·rw[n3 b (λe=>by have e:b=lp:=e;omega),n2 b (λe=>by have e:b=xp:=e;omega)];exact kt1.tg b hb
def udV(u:Ud):aA:=.agg #[vI u.kind,vI u.at_,vI u.i,vI u.aV]
structure BkQ(cb:Nat)(v:aA)(l:List Ud)(W:ag):Prop where
 c:W.cell? ⟨cb,0,none⟩=some v
 r:∃g,∀j,j<l.length->(∃c,v=.slice (some ⟨g,0,none⟩) l.length c)/\∀i u,(qL (l.getD j dU))[i]?=some u->W.cell? ⟨g,j*4+i,none⟩=some u
 s:∃a c,v=.slice a l.length c
def J0(l:List Ud)(k:Nat):Array aA:=#[vI ((l.length:Int)-1-k),udV (l.getD (l.length-1-k) dU)]
theorem JX(n:Nat)(hn:1<=n)(w0:ag)(cb:Nat)(v:aA)(l:List Ud)(hl:l.length<=100000) :
 t_ (BkQ cb v l) Fence.wide n prog 236 #[bw cb] (J0 l) l.length true w0:=λy J Jx W hkW hQ hJ hG WT hN hY h0=>by
 have q0:=hQ _ _ _ h0;obtain⟨a,c,hv⟩:=q0.s;have y1:=q0.c;rw[hv] at y1;have wC:=hid hv;have Ua:=hid h0;replace hQ:=hid hQ;replace hJ:=hid hJ;replace hG:=hid hG;replace WT:=hid WT;replace hN:=hid hN;replace hY:=hid hY;clear q0 h0 hv;refine callsIn_of_wp func236 rfl trivial ?_ rfl;simp only[ntmps236,List.size_toArray,List.length_cons,List.length_nil,Nat.reduceAdd,Nat.reduceSub,Array.replicate_succ,Array.replicate_zero,List.push_toArray,List.append_toArray,List.nil_append,List.cons_append,Array.append_empty]
 gi_wp2_with fail
 gi_loopw [3] (λp wr=>∃k:Nat,k<=l.length/\p=vI ((l.length:Int)-1-k)/\Hid (J (λ_=>False) k wr)) (λp _=>(intOf p+1).toNat)
 case atStart=>exact⟨0,by omega,by go_num,Ua⟩
 case round=>
  obtain⟨k,hk,rfl,hj⟩:=hrel;clear y1 Ua;rcases fB k l.length with aM|ic
  ·have g1:(0:Int)<=(l.length:Int)-1-k:=by omega
   have qa:=hQ.out _ _ _ hj.out;have pa:=qa.c;obtain⟨g,hg⟩:=qa.r;obtain⟨⟨c2,dJ⟩,hcell⟩:=hg (l.length-1-k) (by omega);rw[dJ] at pa;have e0:((l.length:Int)-1-k).toNat=l.length-1-k:=by omega
   obtain⟨m,hm⟩:=ao (l.length-1-k);have em:(l.length:Int)-1-k=(m:Int):=by omega
   rw[hm] at hcell;have x0:=hcell 0 _ rfl;rw[fM] at x0;have x1:=hcell 1 _ rfl;have x2:=hcell 2 _ rfl;have x3:=hcell 3 _ rfl;have Bx:=hY.out _ k wr aM hj.out;have e1:J0 l k = #[vI (m:Int),.agg #[vI (l.getD m dU).kind,vI (l.getD m dU).at_,vI (l.getD m dU).i,vI (l.getD m dU).aV]]:=by unfold J0;rw[em,hm];rfl
   rw[e1] at Bx;obtain⟨fn,tmps,assign,body,hy,hR⟩:=Bx;have hmn:(m:Int)<l.length:=by omega
   rw[em];rw[em] at g1;generalize l.getD m dU=U at *;clear e1 qa hg dJ e0
   gi_wp2
   refine hR.mono ?_;rintro e W2 (⟨rfl,uy,-⟩|⟨rfl,ft⟩)
   ·replace uy:=hid uy;clear pa x0 x1 x2 x3
    gi_wp2
    exact⟨⟨k+1,by omega,by rw[show(m:Int)-1=(l.length:Int)-1-(k+1:Nat) by omega],uy⟩,by simp[intOf]⟩
   ·replace ft:=hid ft
    gi_wp2
    exact bodyPost_ret (v:=.tuple #[]) (by simp[results,Tryz.f236,go_sem]) rfl ⟨⟨_,rfl⟩,.inr ft.out⟩
  ·obtain rfl:k=l.length:=by omega
   have g1:¬((0:Int)<=(l.length:Int)-1-l.length):=by omega
   have qh:=hj;clear ic hk hj
   gi_wp2
   exact bodyPost_end (v:=.tuple #[]) (by simp[results,Tryz.f236,go_sem]) rfl ⟨⟨_,rfl⟩,.inl ⟨_,qh.out⟩⟩
theorem xq{oK ety:TypeId}{k:Nat}(G:GI oK ety k){w:ag}{v:aA}{n:Nat}{xs:List aA}(bS:w.ownsRow 0 ety k v n xs)(ty:TypeId)(c:Nat):(Builtin.append_ #[oK,oK] ty #[v,.slice none 0 c]).run prog w=.ok v w:=by
 obtain⟨i0,z,bytes,hi,iR,iT,jm,Og,hk,hb⟩:=G.info;rcases bS.2 with ⟨rfl,_⟩|⟨g,cap,cur,rfl,_,_,hn,_⟩
 ·simp[Builtin.append_,run_underlying G.und,sizeOf,typeInfo,hi,Builtin.lenOf,Builtin.firstCells]
 ·simp[Builtin.append_,run_underlying G.und,sizeOf,typeInfo,hi,Builtin.lenOf,Builtin.firstCells,hn,storeCells]
theorem mn{oK ety:TypeId}{k:Nat}(G:GI oK ety k){ops:Array Oper}{rest:List Oper}{o:Oper}{a:Act}{Q:Exit->Act->ag->Prop}{w:ag}(pH:o.guard=none)(s x:Operand)
 (ho:o.op=.call { callee:=.builtin .append,args:=#[s,x],argTypes:=#[oK,oK] })
 (v:aA) (n:Nat) (xs:List aA) (bS:w.ownsRow 0 ety k v n xs) (hs:a.eval s=v) (u:aA) (m:Nat) (ys:List aA) (hy:w.ownsRow 0 ety k u m ys) (hx:a.eval x=u) (h1:∀u∈ys,u.oneCell'=true) (hl:n+m<=1000000)
 (h:∀v' w',w'.ownsRow 0 ety k v' (n+m) (xs++ys)->Fr (ay v) w w'->(∀b,ay v' b->ay v b\/w.heap.size<=b)->wpList prog ops Q rest (a.put o.dst v') w') :
 wpList prog ops Q (o::rest) a w:=by
 by_cases hn:u=.slice none 0 0
 ·subst hn
  have h0:m=0:=by
   rcases hy.2 with ⟨_,h0⟩|⟨g,cap,cur,hv,_⟩
   ·exact h0
   ·cases hv
  subst h0;have Qa:ys=[]:=by have:=vz hy;simpa using this
  subst Qa;refine wpList_plain pH λK hK=>?_;have mE:=xq G bS o.type 0;unfold Oper.wp execOp;simp only[ho,resolve,invoke,builtin,Sem.run_bind,Sem.run_pure,Result.andThen_ok,List.map_toArray,List.map_cons,List.map_nil,hs,hx,mE];exact hK _ _ (h v w (by simpa using bS) ah (λb hb=>.inl hb))
 ·obtain⟨g,c,rfl,hc⟩:=iX hy hn;refine fh G pH s x ho v n xs bS hs ⟨g,0,none⟩ m c ys hx (vz hy) h1 (λj u hj=>by rw[dM];simp only[ia];exact hc j u hj) hl h
theorem size_drew(w:ag):w.drew.heap.size=w.heap.size:=rfl
theorem Dn{ops:Array Oper}{rest:List Oper}{o:Oper}{a:Act}{Q:Exit->Act->ag->Prop}{w:ag}(pH:o.guard=none)(s x:Operand)
 (ho:o.op=.call { callee:=.builtin .append,args:=#[s,x],argTypes:=#[79,3] })
 (hs:a.eval s=.slice none 0 0) (n:Nat) (h0:0<n) (hn:n<=1000000) (hx:a.eval x=vI n)
 (h:∀C w',n<=C->w'.ownsRow 0 123 2 (.slice (some ⟨w.heap.size,0,none⟩) 0 C) 0 []->Calm w w'->wpList prog ops Q rest (a.put o.dst (.slice (some ⟨w.heap.size,0,none⟩) n C)) w') :
 wpList prog ops Q (o::rest) a w:=by
 obtain⟨i0,z,bytes,hi,iR,iT,jm,Og,hk,hb⟩:=Pf.info;have cT:=λty=>Lib.run_append_nil_zeros (P:=prog) w 79 3 ty 123 i0 z .i64 .i64 Pf.und (by kernel_rfl) hi iR n h0 (by rw[iT];decide) (by omega) (by rw[jm];exact gw (Nat.mul_le_mul hn hb) (by omega));have ic:=grownCap_ge w n 0 123;have hle:=grownCap_le_maxLen w n 0 123 (by unfold maxLen;omega);refine wpList_plain pH λK hK=>?_;unfold Oper.wp execOp;simp only[ho,resolve,invoke,builtin,Sem.run_bind,Sem.run_pure,Result.andThen_ok,List.map_toArray,List.map_cons,List.map_nil,hs,hx,cT];refine hK _ _ (h _ _ ic ?_ (ah.drew.alloc _));generalize grownCap w n 0 123=C at *
 have iG:(Builtin.zeroCells z.cells n++Builtin.zeroCells z.cells (C-n)).size=C*2:=by
  rw[Array.size_append,size_zeroCells,size_zeroCells,Og,<-Nat.add_mul,show n+(C-n)=C by omega]
 generalize Builtin.zeroCells z.cells n++Builtin.zeroCells z.cells (C-n)=Z at *;have hN:=World.alloc_heap_new w.drew (.cells Z 123);rw[size_drew] at hN;exact⟨rfl,.inr ⟨w.heap.size,C,Z,rfl,bY _,hN,bY _,hle,iG,by simp⟩⟩
def AQ(w:ag)(e:Ending)(w':ag):Prop:=∃v,e=.returned v/\w'.ownsRow 0 123 2 v 0 []/\(∀b,ay v b->w.heap.size<=b)/\Calm w w'
theorem Pk(w:ag)(n:Nat)(hn:n<=1000000):aJ prog 238 #[.slice none 0 0,vI n] w (AQ w):=by
 by_cases h0:n=0
 ·subst h0;have hP:Hid (AQ w (.returned (.slice none 0 0)) w):=⟨_,rfl,qs _ _ _ _,λb hb=>(ay.nil b hb).elim,ah⟩;go_in;go_wp2;go_ret;exact hP.out
 ·have hw:wrap64 (n:Int)=n:=by rw[<-IntWalk.i64_left];exact IntWalk.i64_in _ (by omega)
  have g0:¬((n:Int)<0):=by omega
  have g1:((n:Int)>0):=by omega
  go_in;go_wp2_with (at_builtin;go_must (refine Dn rfl _ _ rfl rfl n (by omega) hn rfl ?_);intro C w1 hC hr c1;replace hr:=hid hr;replace c1:=hid c1)
  go_ret;exact⟨_,rfl,hr.out,λb hb=>by rw[ay.fJ hb];exact aD _,c1.out⟩
theorem zL(l:List It):∀u∈l.flatMap iH,u.oneCell'=true:=by
 intro u hu;obtain⟨x,_,hx⟩:=List.mem_flatMap.1 hu;simp only[iH,eH,eS,or_false] at hx;rcases hx with rfl|rfl <;> rfl
def xk(a b:List It):Nat->List It|0=>[]|1=>a|_=>a++b
def Ox(w:ag)(a b:List It)(e:Ending)(w':ag):Prop:=∃v,e=.returned v/\w'.ownsRow 0 123 2 v (a++b).length ((a++b).flatMap iH)/\(∀k,ay v k->w.heap.size<=k)/\Calm w w'
theorem Hj{w:ag}{B:Nat}{va vb:aA}{a b:List It}(hB:af w B [va,vb])(ha:w.ownsRow 0 123 2 va a.length (a.flatMap iH))(hb:w.ownsRow 0 123 2 vb b.length (b.flatMap iH))(hl:a.length+b.length<=1000000) :
 aJ prog 199 #[.slice (some ⟨B,0,none⟩) 2 2] w (Ox w a b):=by
 obtain⟨ax,ac,rfl⟩:=aF ha;obtain⟨bx,bc,rfl⟩:=aF hb;obtain⟨y0,y1⟩:=af.N1 hB;have HA:=hid ha;have HB:=hid hb;have fA:wrap64 (0+(a.length:Int))=a.length:=by rw[Int.zero_add,<-IntWalk.i64_left];exact IntWalk.i64_in _ (by omega)
 have nL:wrap64 ((a.length:Int)+b.length)=((a.length+b.length:Nat):Int):=by rw[<-IntWalk.i64_left];rw[IntWalk.i64_in _ (by omega)];omega
 clear ha hb;go_in;go_wp2_with fail
 go_loopw [3,11] (λn q wr=>∃k:Nat,k<=2/\q=vI k/\n=vI ((if k=0 then 0 else if k=1 then a.length else a.length+b.length:Nat):Int)/\wr=w) (λ_ q _=>2-(intOf q).toNat)
 case atStart=>exact⟨0,by omega,rfl,rfl,rfl⟩
 case round=>
  obtain⟨k,hk,rfl,rfl,hwr⟩:=hrel;subst wr;rcases(by omega:k=0\/k=1\/k=2) with rfl|rfl|rfl
  ·go_wp2;exact⟨⟨1,by omega,rfl,by simp,trivial⟩,by simp[intOf]⟩
  ·go_wp2;exact⟨⟨2,by omega,rfl,by simp,trivial⟩,by simp[intOf]⟩
  ·go_wp2_with fail
   rw[show((a.length:Int)+b.length)=((a.length+b.length:Nat):Int) by omega];refine(Pk _ _ hl).mono ?_;rintro e w1 ⟨v,rfl,g1,g2,g3⟩;have q0:=g3.cellAt y0 id;have q1:=g3.cellAt y1 id;have G1:=hid g1;have G2:=hid g2;have G3:=hid g3;clear g1 g2;go_wp2_with fail
   go_loopw [6,27] (λv q W=>∃k:Nat,k<=2/\q=vI k/\Hid (W.ownsRow 0 123 2 v (xk a b k).length ((xk a b k).flatMap iH))/\Hid (∀j,ay v j->w.heap.size<=j)/\Hid (Calm w W)) (λ_ q _=>2-(intOf q).toNat)
   case atStart=>exact⟨0,by omega,rfl,G1,G2,G3⟩
   case round=>
    obtain⟨k,hk,rfl,hr,hi,hc⟩:=hrel;clear q0 q1 G1 G2 G3 g3;have q0:=hc.out.cellAt y0 id;have q1:=hc.out.cellAt y1 id;have A1:=hid (aw HA.out hc.out (λ_ _=>id));have B1:=hid (aw HB.out hc.out (λ_ _=>id));rcases(by omega:k=0\/k=1\/k=2) with rfl|rfl|rfl
    ·go_wp2_with (at_builtin;go_must (refine mn Pf rfl _ _ rfl _ _ _ hr.out rfl _ _ _ A1.out rfl (zL a) (by show 0+a.length<=_;omega) ?_);intro v' w3 fp f3 ld;replace fp:=hid fp;replace f3:=hid f3;replace ld:=hid ld)
     have zz:Hid (∀j,ay v' j->w.heap.size<=j):=λj hj=>by
      rcases ld.out j hj with e|e
      ·exact hi.out j e
      ·have:=hc.out.size;omega
     have BD:Hid (Calm w w3):=hc.out.join f3.out (λj hj e=>by have:=hi.out j e;omega)
     have nX:Hid (w3.ownsRow 0 123 2 v' (xk a b 1).length ((xk a b 1).flatMap iH)):=by
      have:=fp.out;simp only[xk,List.nil_append,List.flatMap_nil,List.length_nil,ia] at this;simp only[xk,b_,List.flatMap_append];exact this
     exact⟨⟨1,by omega,rfl,nX,zz,BD⟩,by simp[intOf]⟩
    ·go_wp2_with (at_builtin;go_must (refine mn Pf rfl _ _ rfl _ _ _ hr.out rfl _ _ _ B1.out rfl (zL b) (by show a.length+b.length<=_;omega) ?_);intro v' w3 fp f3 ld;replace fp:=hid fp;replace f3:=hid f3;replace ld:=hid ld)
     have zz:Hid (∀j,ay v' j->w.heap.size<=j):=λj hj=>by
      rcases ld.out j hj with e|e
      ·exact hi.out j e
      ·have:=hc.out.size;omega
     have BD:Hid (Calm w w3):=hc.out.join f3.out (λj hj e=>by have:=hi.out j e;omega)
     have nX:Hid (w3.ownsRow 0 123 2 v' (xk a b 2).length ((xk a b 2).flatMap iH)):=by
      have:=fp.out;simp only[xk,List.nil_append,List.flatMap_nil,List.length_nil,ia] at this;simp only[xk,b_,List.flatMap_append];exact this
     exact⟨⟨2,by omega,rfl,nX,zz,BD⟩,by simp[intOf]⟩
    ·go_wp2;go_ret;exact⟨_,rfl,hr.out,hi.out,hc.out⟩
theorem Dm{oK ety:TypeId}{k:Nat}(G:GI oK ety k){ops:Array Oper}{rest:List Oper}{o:Oper}{a:Act}{Q:Exit->Act->ag->Prop}{w:ag}(pH:o.guard=none)(s x:Operand)
 (ho:o.op=.call { callee:=.builtin .append,args:=#[s,x],argTypes:=#[oK,oK] })
 (g n cap:Nat) (xs:List aA) (bS:w.ownsRow 0 ety k (.slice (some ⟨g,0,none⟩) n cap) n xs) (hs:a.eval s=.slice (some ⟨g,0,none⟩) n cap) (ad:Addr) (m c:Nat) (ys:List aA) (hx:a.eval x=.slice (some ad) m c) (Qa:ys.length=m*k) (h1:∀u∈ys,u.oneCell'=true)
 (hc:∀j u,ys[j]?=some u->w.cell? (ad.add j)=some u) (lG:n+m<=cap)
 (h:∀w',w'.ownsRow 0 ety k (.slice (some ⟨g,0,none⟩) (n+m) cap) (n+m) (xs++ys)->Fr (λb=>b=g) w w'->wpList prog ops Q rest (a.put o.dst (.slice (some ⟨g,0,none⟩) (n+m) cap)) w') :
 wpList prog ops Q (o::rest) a w:=by
 obtain⟨i0,z,bytes,hi,iR,iT,jm,Og,hk,hb⟩:=G.info;refine wpList_plain pH λK hK=>?_;obtain⟨w',hr,h2,h3⟩:=run_append_fits (P:=prog) w 0 oK o.type ety i0 k G.und hi iT g n cap xs bS ad m c ys Qa hc h1 lG;unfold Oper.wp execOp;simp only[ho,resolve,invoke,builtin,Sem.run_bind,Sem.run_pure,Result.andThen_ok,List.map_toArray,List.map_cons,List.map_nil,hs,hx,hr];exact hK _ _ (h w' h2 (Fr.grown ah h3 (λb hb=>.inl (by injection hb with hb;exact hb.symm))))
theorem sm{ety:TypeId}{k:Nat}{w:ag}{g n c:Nat}{xs:List aA}(h:w.ownsRow 0 ety k (.slice (some ⟨g,0,none⟩) n c) n xs){j:Nat}(hj:n*k<=j)(y:aA):(w.setCell ⟨g,j,none⟩ y).ownsRow 0 ety k (.slice (some ⟨g,0,none⟩) n c) n xs:=by
 obtain⟨hl,⟨h1,h0⟩|⟨g',cap,cur,hv,hb,hg,hn,Du,kv,hx⟩⟩:=h
 ·cases h1
 ·cases hv;refine⟨hl,.inr ⟨g,c,cur.set! j y,rfl,hb,?_,hn,Du,by simpa using kv,?_⟩⟩
  ·rw[heap_setCell_same _ _ _ _ _ _ hg];simp
  ·simp only[Array.set!_eq_setIfInBounds,Array.toList_setIfInBounds];rw[List.take_set_of_le hj,hx]
theorem Mi{ety:TypeId}{k:Nat}{w:ag}{g n c:Nat}{xs:List aA}(h:w.ownsRow 0 ety k (.slice (some ⟨g,0,none⟩) n c) n xs):w.ownsRow 0 ety k (.slice (some ⟨g,0,none⟩) 0 c) 0 []:=by
 obtain⟨hl,⟨h1,h0⟩|⟨g',cap,cur,hv,hb,hg,hn,Du,kv,hx⟩⟩:=h
 ·cases h1
 ·cases hv;exact⟨by simp,.inr ⟨g,c,cur,rfl,hb,hg,bY _,Du,kv,by simp⟩⟩
theorem CQ{ety:TypeId}{k:Nat}{w:ag}{g n c:Nat}{xs:List aA}(h:w.ownsRow 0 ety k (.slice (some ⟨g,0,none⟩) n c) n xs):n<=c/\(∀j,j<c*k->∃u,w.cell? ⟨g,j,none⟩=some u)/\∀j,w.frozen? ⟨g,j,none⟩=false:=by
 obtain⟨hl,⟨h1,h0⟩|⟨g',cap,cur,hv,hb,hg,hn,Du,kv,hx⟩⟩:=h
 ·cases h1
 ·cases hv;refine⟨hn,λj hj=>⟨cur[j]'(by omega),?_⟩,λj=>?_⟩
  ·simp[World.cell?,hg]
  ·simp[World.frozen?,hg]
theorem vJ{w:ag}{g o c:Nat}{u v:aA}(ty:TypeId)(h0:w.cell? ⟨g,o,none⟩=some u)(h1:w.cell? ⟨g,o+1,none⟩=some v)(f:∀j,w.frozen? ⟨g,j,none⟩=false) :
 (Builtin.clear_ #[79] ty #[.slice (some ⟨g,o,none⟩) 1 c]).run prog w=.ok (.tuple #[]) ((w.setCell ⟨g,o,none⟩ (vI 0)).setCell ⟨g,o+1,none⟩ (vI 0)):=by
 obtain⟨i0,hi,iR⟩:∃i0,prog.info? 123=some i0/\i0.zero=some (.agg #[vI 0,vI 0]):=by
  obtain⟨i0,hi,iR,_⟩:=info_parts (show(prog.info? 123).map (λi=>(i.zero,i.size,i.bytes))=some (some (.agg #[vI 0,vI 0]),2,16) by kernel_rfl);exact⟨i0,hi,iR⟩
 have hz:∀w,(zeroValue 123).run prog w=.ok (.agg #[vI 0,vI 0]) w:=λw=>by
  simp[zeroValue,typeInfo,hi,iR,go_sem]
 have cM:=run_storeCells_cells (P:=prog) g o [vI 0,vI 0] 0 w (by
  intro j hj;rcases(by simp at hj;omega:j=0\/j=1) with rfl|rfl
  ·simpa using by rw[h0];rfl
  ·simpa using by rw[h1];rfl) (λj hj=>by simpa using f (o+j)) (by simp[Value.oneCell'])
 simp only[fM] at cM
 have hzc:(Builtin.zeroCells (Value.agg #[vI 0,vI 0]).cells 1).toList=[vI 0,vI 0]:=by
  have hc:(Value.agg #[Value.int IntKind.i64 0,Value.int IntKind.i64 0]).cells = #[vI 0,vI 0]:=by rfl
  rw[hc];simp[Builtin.zeroCells];apply List.ext_getElem
  ·simp
  ·intro i h1 h2;simp at h2;rcases(by omega:i=0\/i=1) with rfl|rfl <;> simp
 simp[Builtin.clear_,run_underlying Pf.und,hz];rw[hzc];simp[cM,World.setCells]
def Oy(w:ag)(g c:Nat)(l:List It)(e:Ending)(w':ag):Prop:=e=.returned (.slice (some ⟨g,0,none⟩) l.length c)/\w'.ownsRow 0 123 2 (.slice (some ⟨g,0,none⟩) l.length c) l.length (l.flatMap iH)/\Fr (λb=>b=g) w w'
theorem xM{w:ag}{g c:Nat}{x:It}{l:List It}(hr:w.ownsRow 0 123 2 (.slice (some ⟨g,0,none⟩) (l.length+1) c) (l.length+1) ((x::l).flatMap iH))(hl:l.length<=1000000) :
 aJ prog 140 #[.slice (some ⟨g,0,none⟩) (l.length+1) c,vI 0,vI 1] w (Oy w g c l):=by
 obtain⟨hnc,aN,hfz⟩:=CQ hr;obtain⟨N,hN⟩:=ao l.length;rw[hN] at hr hnc hl ⊢;have HR:=hid hr;have h0:=hid (Mi hr);clear hr;go_in;go_wp2_with fail
 refine bB 6 (by kernel_rfl) (by kernel_rfl) ?_;simp only[List.take_succ_cons,List.take_zero,List.drop_succ_cons,List.drop_zero]
 repeat (go_big_quiet_step (fail))
 refine wpQuiet_nil ?_;intro w2 hw';have c2:=a_.out hw';clear hw';have hlen:(l.flatMap iH).length=N*2:=by rw[ij iH 2 kL,hN]
 have H0:=hid (aw h0.out c2 (λ_ _=>id))
 have Ly:Hid (∃ad,(if c=1 then some (⟨g,0,none⟩:Addr) else some ⟨g,2,none⟩)=some ad/\∀j u,(l.flatMap iH)[j]?=some u->w2.cell? (ad.add j)=some u):=by
  obtain⟨g',c',hv,k_⟩:=iX HR.out (by simp);injection hv with e1 e2 e3;injection e1 with e1;injection e1 with e1;subst e1
  by_cases dN:c=1
  ·have:l=[]:=List.eq_nil_of_length_eq_zero (by omega);subst this;exact⟨_,if_pos dN,λj u hj=>by simp at hj⟩
  ·refine⟨_,if_neg dN,λj u hj=>?_⟩;rw[dM];refine c2.cellAt (k_ (2+j) u ?_) id;rw[List.flatMap_cons,rM (by simp[iH]),show 2+j-(iH x).length=j by simp[iH]];exact hj
 obtain⟨ad,Zc,kF⟩:=Ly.out;rw[Zc];clear Ly;refine Dm Pf rfl _ _ rfl g 0 c [] H0.out rfl ad N (c-1) (l.flatMap iH) rfl hlen (zL l) kF (by omega) ?_;intro w3 fp f3;rw[ia,List.nil_append] at fp;obtain⟨_,zx,ZB⟩:=CQ fp;obtain⟨u0,k0⟩:=zx (N*2) (by omega);obtain⟨u1,k1⟩:=zx (N*2+1) (by omega);have acO:=λty=>vJ (c:=c-N) ty k0 k1 ZB;have HR3:Hid (((w3.setCell ⟨g,N*2,none⟩ (vI 0)).setCell ⟨g,N*2+1,none⟩ (vI 0)).ownsRow 0 123 2 (.slice (some ⟨g,0,none⟩) N c) N (l.flatMap iH)):=sm (sm fp (aD _) _) (by omega) _;have f4:Fr (λb=>b=g) w ((w3.setCell ⟨g,N*2,none⟩ (vI 0)).setCell ⟨g,N*2+1,none⟩ (vI 0)):=(((Calm.any c2:Fr (λb=>b=g) _ _).trans f3).setCell (p:=⟨g,N*2,none⟩) (.inl rfl) _).setCell (p:=⟨g,N*2+1,none⟩) (.inl rfl) _;clear zx ZB aN hfz fp Zc kF H0 h0 HR;go_wp2;go_ret;subst hN;exact⟨rfl,HR3.out,f4⟩
