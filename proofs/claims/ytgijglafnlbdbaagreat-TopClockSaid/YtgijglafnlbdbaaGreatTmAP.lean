import Derived.Test.YtgijglafnlbdbaaGreatTmAO
set_option linter.all false
set_option maxHeartbeats 8000000
set_option maxRecDepth 8000
namespace Go.Proofs.YtgijglafnlbdbaaGreat
open RowKit Shelf Proofs.Tryz
open Go renaming World->aj,Value->aC,Calls->aL
section
variable {w:aj}{τ:Nat->Nat}{s:Nat}{S:aY}
theorem St.abi(h:St w τ s S){t:Nat}(ht:t<S.bB.length):S.sp≠(S.tx t).xp:=by
 obtain⟨M,h1,h2,h3⟩:=h;have:=h3.n;intro e;exact h1.apart (t:=10+8*t) (u:=2) (k:=S.sp) (by omega) (by rw[(h2.x t ht).c];exact e) (by rw[h2.c];rfl)
def Va(n:Nat)(aW:Int)(t:Nat)(x:Int)(σ σ':PS):Prop:=(x=120/\σ'=σ/\aW<((fZ σ n+1+σ.now:Nat):Int))\/(x=0/\((fZ σ n+1+σ.now:Nat):Int)<=aW/\σ'=σ.aO t ((σ.tx t).beg σ.now))
def ZX(w:aj)(τ:Nat->Nat)(s:Nat)(S:aY)(t:Nat)(e:Ending)(w':aj):Prop:=∃x:Int,e=.returned (vI x)/\cL x/\Nx w τ s S w' λS'=>Va S.bB.length S.aW t x (vw S) (vw S')
theorem xk(σ:PS)(n:Nat):fZ σ (n+1)=fZ σ n+(if (σ.tx n).live then 1 else 0):=by
 unfold fZ;rw[List.range_succ,List.countP_append,List.countP_cons,List.countP_nil];simp
theorem IJ(h:St w τ s S){t:Nat}(ht:t<S.bB.length)(Y_:(S.tx t).live=false):aL prog 64 #[pV S.sp,vI (t:Int)] w (ZX w τ s S t):=by
 have hr:=xM h (t:Int) ⟨by have:=h.ok.n;omega,by have:=h.ok.n;omega⟩;have Ml:=h.ok.n;have hcs:=h.cells;have c3:w.cell? ⟨S.sp,3,none⟩=some S.wu:=(hcs 3 _ rfl).1;have c2:=(hcs 2 _ rfl).1;have c5:=(hcs 5 _ rfl).1;obtain⟨N,hN⟩:=au S.bB.length;have dR:=h.Yz;obtain⟨sa,sc,Og⟩:=aG dR;rw[hN] at Og;rw[Og] at c3
 have dQ:Hid (∀i,i<N->∃g,sa=some ⟨g,0,none⟩/\w.cell? ⟨g,i,none⟩=some (pV (S.tx i).xp)/\w.cell? ⟨(S.tx i).xp,1,none⟩=some (.bool (S.tx i).live)):=λi hi=>by
  obtain⟨g,c,hv,ho⟩:=ke dR (by decide) (show i<S.bB.length by omega);have h1:=(ho 0 (by decide)).1;rw[show i*1+0=i by omega] at h1;have EM:i<S.bB.length:=by omega
  have e1:(S.bB.map λx=>pV x.xp).getD i .nilFunc=pV (S.tx i).xp:=by simp[aY.tx,aS,EM]
  rw[e1] at h1;rw[Og] at hv;injection hv with e2 e3 e4
  exact⟨g,e2,h1,(h.ny EM 1 _ rfl).1⟩
 have bad:Hid (∀ (x:Int) W,Calm w W->cL x->Va S.bB.length S.aW t x (vw S) (vw S)->ZX w τ s S t (.returned (vI x)) W):=λx W c h1 h3=>⟨x,rfl,h1,Nx.calm h c h3⟩;clear dR Og;go_in;go_wp2_with fail
 refine hr.mono ?_;rintro e w' ⟨⟨k,ek,hk,rfl⟩|⟨hn,rfl⟩,rfl⟩
 ·clear hr;obtain rfl:t=k:=by omega
  have x1:=(h.ny ht 1 _ rfl).1
  cases hl:(S.tx t).live with
  | true=>rw[hl] at Y_;cases Y_
  | false=>
    rw[hl] at x1;have Ji:=af hN;clear hN;go_wp2_with fail
    go_loopw [6,25] (λn z wr=>∃i c:Nat,i<=N/\c<=i/\n=vI c/\z=vI i/\wr=w'/\Hid (fZ (vw S) i=c)) (λ_ z _=>N-(intOf z).toNat)
    case atStart=>exact⟨0,0,by omega,by omega,rfl,rfl,rfl,rfl⟩
    case round=>
     obtain⟨i,c,hi,hc,rfl,rfl,hw,UA⟩:=hrel;subst wr;have hN8:N<=8:=by have:=Ji.out;omega
     by_cases aZ:i<N
     ·obtain⟨g,rfl,e1,e2⟩:=dQ.out i aZ;clear x1
      cases td:(S.tx i).live with
      | true=>
        rw[td] at e2;have Sj:Hid (fZ (vw S) (i+1)=c+1):=by show fZ (vw S) (i+1)=c+1;rw[xk,UA.out,show((vw S).tx i).live=true from td];rfl
        clear UA;go_wp2;exact⟨⟨i+1,c+1,by omega,by omega,by simp,by simp,trivial,Sj⟩,by simp[intOf] <;> omega⟩
      | false=>
        rw[td] at e2;have Sj:Hid (fZ (vw S) (i+1)=c):=by show fZ (vw S) (i+1)=c;rw[xk,UA.out,show((vw S).tx i).live=false from td];rfl
        clear UA;go_wp2;exact⟨⟨i+1,c,by omega,by omega,rfl,by simp,trivial,Sj⟩,by simp[intOf] <;> omega⟩
     ·obtain rfl:i=N:=by omega
      have om:=Gd h.YO h.ok.ck (c+1) (by omega);rw[show(((c+1:Nat):Int))=(c:Int)+1 by omega] at om;go_wp2_with fail
      refine om.mono ?_;rintro e w2 ⟨⟨b,rfl,NX⟩,k2⟩;clear om;have WO:Hid (fZ (vw S) S.bB.length=c):=by show fZ (vw S) S.bB.length=c;rw[Ji.out];exact UA.out
      replace NX:=af NX;clear UA
      cases b with
      | false=>
        have Sm:Va S.bB.length S.aW t 120 (vw S) (vw S):=.inl ⟨rfl,rfl,by
         rw[WO.out];have hm:=NX.out;have h9:(vw S).now=S.now:=rfl;rw[h9];simp at hm
         push_cast;omega⟩
        replace Sm:=af Sm;go_wp2;go_ret;exact bad.out 120 _ k2 (by decide) Sm.out
      | true=>
        have h2:=h.calm k2;have d2:=k2.cellAt c2 id;have d5:=k2.cellAt c5 id;have kd:Calm w2 w2.drew:=aq.drew;have yG:=(h2.calm kd).YO;have Yd:=qL (yG 0 _ rfl);have Zp:=(h2.calm kd).ny ht;have vz:=h.ok.x t ht;have dg:=h2.ny ht;have u1:=(dg 1 _ rfl).1;have u2:=(dg 2 _ rfl).1;have u3:=(dg 3 _ rfl).1;have v1:=(dg 1 _ rfl).2;have v2:=(dg 2 _ rfl).2;have v3:=(dg 3 _ rfl).2;clear dg;have Cw:=h.abi ht;have aax:=h.ok.ck;have JK:=h.ok.iv.nx
        have aaN:Hid (((fZ (vw S) S.bB.length+1+(vw S).now:Nat):Int)<=S.aW):=by
         show((fZ (vw S) S.bB.length+1+(vw S).now:Nat):Int)<=S.aW;rw[WO.out];have hm:=NX.out;have h9:(vw S).now=S.now:=rfl;rw[h9];simp at hm
         push_cast;omega
        replace JK:=af JK;have abV:=af (h.ok.iv.st t);clear x1 c3 c2 c5 hcs dQ bad;go_wp2_with fail
        refine wp_region_any (by kernel_rfl) (cQ [0,1,2,3,4,5,6,8,9,10,11] [7,12,13,14,15,16,17,18,19,20] (λw'=>w'.cell? ⟨S.sp,2,none⟩=some (pV S.ck)/\w'.cell? ⟨S.sp,5,none⟩=some (vI (S.next:Int))) (by kernel_rfl) ⟨d2,d5⟩ ?_);refine ah (pV (S.tx t).xp) rfl rfl (λw' hw'=>?_) ai ?_
        ·simp[go_sem]
        refine ah (pV (S.tx t).xp) rfl rfl (λw' hw'=>?_) ai ?_
        ·simp[go_sem]
        refine ah (pV (S.tx t).xp) rfl rfl (λw' hw'=>?_) ai ?_
        ·simp[go_sem]
        refine ah (pV S.sp) rfl rfl (λw' hw'=>?_) ai ?_
        ·simp[go_sem]
        refine ah (pV S.sp) rfl rfl (λw' hw'=>?_) ai ?_
        ·simp[go_sem]
        refine ah (.pointer (some ⟨S.sp,2,none⟩)) rfl rfl (λw' hw'=>?_) ai ?_
        ·simp[go_sem]
        refine ah (pV S.ck) rfl rfl (λw' hw'=>?_) ai ?_
        ·have e1:=hw'.1;simp[go_sem,e1]
        refine ah (pV S.sp) rfl rfl (λw' hw'=>?_) ai ?_
        ·simp[go_sem]
        refine ah (pV S.sp) rfl rfl (λw' hw'=>?_) ai ?_
        ·simp[go_sem]
        refine ah (.pointer (some ⟨S.sp,5,none⟩)) rfl rfl (λw' hw'=>?_) ai ?_
        ·simp[go_sem]
        refine ah (vI (S.next:Int)) rfl rfl (λw' hw'=>?_) ai ?_
        ·have e1:=hw'.2;simp[go_sem,e1]
        simp only[aU];have m1:=Zp.set 1 (.bool true) (by simp[lD.cs]);have m2:=m1.set 2 (vI (S.now:Int)) (by simp[lD.cs]);have m3:=m2.set 3 (vI (S.next:Int)) (by simp[lD.cs]);have y1:=(Zp 1 _ rfl).1;have g1:=(Zp 1 _ rfl).2;have y2:=(m1 2 _ rfl).1;have g2:=(m1 2 _ rfl).2;have y3:=(m2 3 _ rfl).1;have g3:=(m2 3 _ rfl).2;have F1:Fr (λb=>b=(S.tx t).xp) w2.drew (w2.drew.setCell ⟨(S.tx t).xp,1,none⟩ (.bool true)):=(Fr.refl (λb=>b=(S.tx t).xp) w2.drew).setCell (p:=⟨(S.tx t).xp,1,none⟩) (.inl rfl) _;have F2:Fr (λb=>b=(S.tx t).xp) w2.drew ((w2.drew.setCell ⟨(S.tx t).xp,1,none⟩ (.bool true)).setCell ⟨(S.tx t).xp,2,none⟩ (vI (S.now:Int))):=F1.setCell (p:=⟨(S.tx t).xp,2,none⟩) (.inl rfl) _;have F3:Fr (λb=>b=(S.tx t).xp) w2.drew (((w2.drew.setCell ⟨(S.tx t).xp,1,none⟩ (.bool true)).setCell ⟨(S.tx t).xp,2,none⟩ (vI (S.now:Int))).setCell ⟨(S.tx t).xp,3,none⟩ (vI (S.next:Int))):=F2.setCell (p:=⟨(S.tx t).xp,3,none⟩) (.inl rfl) _;have Rf:=kd.cellAt d2 id;have Rg:=kd.cellAt d5 id;have a1:(w2.drew.setCell ⟨(S.tx t).xp,1,none⟩ (.bool true)).cell? ⟨S.sp,2,none⟩=some (pV S.ck)/\(w2.drew.setCell ⟨(S.tx t).xp,1,none⟩ (.bool true)).cell? ⟨S.sp,5,none⟩=some (vI (S.next:Int)):=⟨F1.cellAt Rf Cw,F1.cellAt Rg Cw⟩;have a2:((w2.drew.setCell ⟨(S.tx t).xp,1,none⟩ (.bool true)).setCell ⟨(S.tx t).xp,2,none⟩ (vI (S.now:Int))).cell? ⟨S.sp,2,none⟩=some (pV S.ck)/\((w2.drew.setCell ⟨(S.tx t).xp,1,none⟩ (.bool true)).setCell ⟨(S.tx t).xp,2,none⟩ (vI (S.now:Int))).cell? ⟨S.sp,5,none⟩=some (vI (S.next:Int)):=⟨F2.cellAt Rf Cw,F2.cellAt Rg Cw⟩;have a3:(((w2.drew.setCell ⟨(S.tx t).xp,1,none⟩ (.bool true)).setCell ⟨(S.tx t).xp,2,none⟩ (vI (S.now:Int))).setCell ⟨(S.tx t).xp,3,none⟩ (vI (S.next:Int))).cell? ⟨S.sp,2,none⟩=some (pV S.ck)/\(((w2.drew.setCell ⟨(S.tx t).xp,1,none⟩ (.bool true)).setCell ⟨(S.tx t).xp,2,none⟩ (vI (S.now:Int))).setCell ⟨(S.tx t).xp,3,none⟩ (vI (S.next:Int))).cell? ⟨S.sp,5,none⟩=some (vI (S.next:Int)):=⟨F3.cellAt Rf Cw,F3.cellAt Rg Cw⟩;obtain⟨M,H1,H2,H3⟩:=h2.calm kd;have dh:=St.abd (x':={ S.tx t with live:=true,start:=S.now,seen:=S.next }) H1 H2 H3 ht F3 m3 rfl rfl rfl rfl rfl ⟨vz.l,vz.f,vz.m,⟨by show cL (S.now:Int);exact⟨by omega,by have:=aax.2.2;omega⟩,by show cL (S.next:Int);have:=JK.out;exact⟨by omega,by omega⟩⟩,vz.k⟩ (H3.iv.cj ht (λ_=>⟨by show(0:Int)<=(S.now:Nat);omega,by show((S.now:Nat):Int)<=_;omega⟩) (H3.iv.tk t) (H3.iv.vs t));have hP:ZX w' τ s S t (.returned (vI 0)) (((w2.drew.setCell ⟨(S.tx t).xp,1,none⟩ (.bool true)).setCell ⟨(S.tx t).xp,2,none⟩ (vI (S.now:Int))).setCell ⟨(S.tx t).xp,3,none⟩ (vI (S.next:Int))):=⟨0,rfl,by decide,τ,_,dh.1,(aF.calm τ (k2.trans kd)).trans dh.2,Fix.cj ht rfl rfl,.inr ⟨rfl,aaN.out,(jz ht _).trans (by unfold lD.pt PT.beg;simp only[Int.toNat_natCast];rfl)⟩⟩;replace hP:=af hP;clear dh m1 m2 m3 Zp F1 F2 F3 H1 H2 H3 yG;refine aw rfl rfl ?_;go_wp2_with fail
        refine Yd.mono ?_;rintro e w4 ⟨rfl,rfl⟩;refine⟨⟨Rf,Rg⟩,?_⟩;refine aw rfl rfl ?_;unfold Oper.wp;go_simp
        try refine⟨⟨Rf,Rg⟩,?_⟩
        refine aw rfl rfl ?_;unfold Oper.wp;go_simp
        try refine⟨⟨Rf,Rg⟩,?_⟩
        refine aw rfl rfl ?_;unfold Oper.wp;go_simp
        try refine⟨a1,?_⟩
        refine aw rfl rfl ?_;unfold Oper.wp;go_simp
        try refine⟨a1,?_⟩
        refine aw rfl rfl ?_;unfold Oper.wp;go_simp
        try refine⟨a1,?_⟩
        refine aw rfl rfl ?_;unfold Oper.wp;go_simp
        try refine⟨a2,?_⟩
        refine aw rfl rfl ?_;unfold Oper.wp;go_simp
        try refine⟨a2,?_⟩
        refine aw rfl rfl ?_;unfold Oper.wp;go_simp
        try refine⟨a2,?_⟩
        refine aw rfl rfl ?_;unfold Oper.wp;go_simp
        try refine⟨a3,?_⟩
        try simp only[bj]
        clear a1 a2 a3 y1 g1 y2 g2 y3 g3 Rf Rg d2 d5 Yd;go_wp2;go_ret;exact hP.out
 ·omega
end
def D6(σ:PS)(a:Nat):Nat:=if a=0 then 0 else σ.fh a
def cR(σ:PS)(a:Nat)(e:Int):Int:=if e=0 then (D6 σ a:Nat) else 0
structure wL(S:aY)(x:bT):Prop where
 z:(vw S).ob 0=none
 r:∀p∈x.R,p=0\/∃o,(vw S).ob p=some o
theorem wL.at{S:aY}{x:bT}(h:wL S x)(j:Nat):x.R.getD j 0=0\/∃o,(vw S).ob (x.R.getD j 0)=some o:=by
 by_cases hj:j<x.R.length
 ·exact h.r _ (get_mem 0 hj)
 ·left;rw[aS,List.getElem?_eq_none (by omega)];rfl
theorem Lp{σ σ':PS}(h:σ'.ob=σ.ob)(hz:σ.ob 0=none)(p:Nat):D6 σ' p=σ.fh p:=by
 unfold D6 PS.fh
 by_cases e:p=0
 ·rw[if_pos e,e,hz]
 ·rw[if_neg e,h]
def lC(σ:PS)(t:Nat)(d:Dd)(x x':bT)(e v:Int)(σ':PS):Prop:=
 (¬Fatal e/\∃R',DN σ t d x.R σ' R' v e/\x' = { x with p:=x.p+1,R:=R' })\/(Fatal e/\v=0/\x'=x.cV e/\∃dE,Co σ t dE/\σ'=dE.wM t)\/(d.k=14/\e=0/\v=0/\x' = { x.back with b:=x.b+1 } /\ σ'=σ.wM t)
theorem mK{x:bT}{e:Int}(h1:e≠140)(h2:¬Fatal e):x.cV e = { x with p:=x.p+1 }:=by
 unfold Fatal at h2;unfold bT.cV;split
 ·rfl
 ·rw[if_neg (by omega),if_neg (by omega)]
theorem Rq(o:Ob)(k i:Int):fO o k i≠140:=by
 unfold fO;split
 ·decide
 ·split
  ·decide
  ·split
   ·decide
   ·by_cases e:(if k=6\/k=7 then (o.d:Int) else (o.p:Int))<=i
    ·rw[if_pos e];decide
    ·rw[if_neg e];decide
theorem DN.VN{σ σ':PS}{t:Nat}{d:Dd}{R R':aE}{v e:Int}(h:DN σ t d R σ' R' v e):e≠140/\¬Fatal e:=by
 cases h with
 | bad=>exact⟨Rq _ _ _,I2 _ _ _⟩
 | _=>exact⟨by decide,by unfold Fatal;omega⟩
theorem lC.ptr{S S5:aY}{t:Nat}{d:Dd}{x:bT}{a v:Nat}{e:Int}{Rel:Int->Int->aY->Prop}(h:Iu S t Rel v e S5)(conv:¬Fatal e->Rel v e S5->DN (vw S) t d x.R (vw S5) (if e=0 then x.R.set a v else x.R) (cR (vw S5) v e) e):lC (vw S) t d x ((if e=0 then { x with R:=x.R.set a v } else x).cV e) e (cR (vw S5) v e) (vw S5):=by
 rcases h with ⟨h1,h2⟩|⟨h1,h2,h3⟩
 ·have hd:=conv h1 h2;refine .inl ⟨h1,_,hd,?_⟩;rw[mK hd.VN.1 h1]
  by_cases e0:e=0
  ·rw[if_pos e0,if_pos e0]
  ·rw[if_neg e0,if_neg e0]
 ·have e0:e≠0:=by unfold Fatal at h1;omega
  obtain⟨v0,S1,_,h4,h5⟩:=h3;have h3:∃dE,Co (vw S) t dE/\vw S5=dE.wM t:=⟨vw S1,h4,h5⟩;refine .inr (.inl ⟨h1,by unfold cR;rw[if_neg e0],by rw[if_neg e0],h3⟩)
theorem lC.num{S S5:aY}{t:Nat}{d:Dd}{x:bT}{v e:Int}{Rel:Int->Int->aY->Prop}(h:Iu S t Rel v e S5)(conv:¬Fatal e->Rel v e S5->DN (vw S) t d x.R (vw S5) x.R (if e=0 then v else 0) e):lC (vw S) t d x (x.cV e) e (if e=0 then v else 0) (vw S5):=by
 rcases h with ⟨h1,h2⟩|⟨h1,h2,h3⟩
 ·have hd:=conv h1 h2;exact .inl ⟨h1,_,hd,mK hd.VN.1 h1⟩
 ·have e0:e≠0:=by unfold Fatal at h1;omega
  obtain⟨v0,S1,_,h4,h5⟩:=h3;have h3:∃dE,Co (vw S) t dE/\vw S5=dE.wM t:=⟨vw S1,h4,h5⟩;exact .inr (.inl ⟨h1,by rw[if_neg e0],rfl,h3⟩)
theorem lB.dn{σ σ':PS}{t:Nat}{d:Dd}{R:aE}{v:Nat}{e:Int}(hl:(σ.tx t).live=true)(hk:d.k=1\/d.k=2)(h:lB t d.i.toNat d.n.toNat false (d.k==2) v e σ σ')(hf:¬Fatal e):DN σ t d R σ' (if e=0 then R.set d.a.toNat v else R) (cR σ' v e) e:=by
 rcases h with ⟨rfl,a,h1,h2,h3,h4,h5⟩|⟨_,h1,_⟩
 ·have:v=a:=by omega
  subst this
  have hs:cR σ' v 0=((σ.ser+1:Nat):Int):=by
   unfold cR D6;rw[if_pos rfl,if_neg h4,h5];unfold PS.fh;rw[show((σ.lay v { Ob.new d.i.toNat d.n.toNat false (d.k==2) (σ.ser+1) with snd:=2*t+1 }).aO t { σ.tx t with holds:=(σ.tx t).holds++[⟨v,0⟩] }).ob v=some { Ob.new d.i.toNat d.n.toNat false (d.k==2) (σ.ser+1) with snd:=2*t+1 } from if_pos rfl];rfl
  rw[hs,if_pos rfl,h5];have:=DN.lay (σ:=σ) (t:=t) (d:=d) (R:=R) (by omega) v h3 h4 (λe=>by omega) { σ.tx t with holds:=(σ.tx t).holds++[⟨v,0⟩] } hl rfl rfl rfl rfl;rw[if_neg (by omega)] at this;exact this
 ·exact absurd h1 hf
theorem xY.dn{σ σ':PS}{t:Nat}{d:Dd}{R:aE}{v:Nat}{e:Int}(hl:(σ.tx t).live=true)(hk:d.k=3)(hr:R.getD d.b.toNat 0=0\/∃o,σ.ob (R.getD d.b.toNat 0)=some o)(h:xY t (R.getD d.b.toNat 0) v e σ σ')(hf:¬Fatal e):DN σ t d R σ' (if e=0 then R.set d.a.toNat v else R) (cR σ' v e) e:=by
 have ha:atR d R=R.getD d.b.toNat 0:=if_pos (.inl hk);rcases h with ⟨_,rfl,h1,rfl⟩|⟨_,rfl,h1,h2,_⟩|⟨_,h1,_⟩|⟨rfl,h1,h2,b,h3,h4,h5,h6,h7⟩
 ·exact DN.nil (by omega) (ha.trans h1)
 ·rcases hr with e|⟨o,e⟩
  ·exact absurd e h1
  ·rw[h2] at e;cases e
 ·exact absurd h1 hf
 ·have:v=b:=by omega
  subst this
  have hs:cR σ' v 0=((σ.ser+1:Nat):Int):=by
   unfold cR D6;rw[if_pos rfl,if_neg h6,h7];unfold PS.fh;rw[show((σ.lay v ⟨1,0,true,false,false,2*t+1,σ.ser+1,[R.getD d.b.toNat 0],[]⟩).aO t { σ.tx t with holds:=(σ.tx t).holds++[⟨v,0⟩] }).ob v=some ⟨1,0,true,false,false,2*t+1,σ.ser+1,[R.getD d.b.toNat 0],[]⟩ from if_pos rfl]
  rw[hs,if_pos rfl,h7]
  have:=DN.lay (σ:=σ) (t:=t) (d:=d) (R:=R) (by omega) v h5 h6 (λ_=>by
   rcases hr with e|e
   ·exact absurd e h1
   ·exact e) { σ.tx t with holds:=(σ.tx t).holds++[⟨v,0⟩] } hl rfl rfl rfl rfl
  rw[if_pos hk] at this;exact this
theorem iY.dn{σ σ':PS}{t:Nat}{d:Dd}{R:aE}{v:Nat}{e:Int}(hz:σ.ob 0=none)(hk:d.k=4\/d.k=9)(hr:R.getD d.b.toNat 0=0\/∃o,σ.ob (R.getD d.b.toNat 0)=some o)(h:iY d.k t (R.getD d.b.toNat 0) d.i (λo=>(o.ps.getD d.i.toNat 0:Nat)) v e σ σ')(hf:¬Fatal e):DN σ t d R σ' (if e=0 then R.set d.a.toNat v else R) (cR σ' v e) e:=by
 have ha:atR d R=R.getD d.b.toNat 0:=if_pos (by omega);rcases h with ⟨rfl,h1,rfl⟩|⟨rfl,⟨h1,h2⟩,_⟩|⟨h1,_⟩|⟨o,l,h1,h2,h3,h4,h5,h6,h7,h8⟩
 ·exact DN.nil (by omega) (ha.trans h1)
 ·rcases hr with e|⟨o,e⟩
  ·exact absurd e h1
  ·rw[h2] at e;cases e
 ·exact absurd h1 hf
 ·rw[<-ha] at h1 h4
  by_cases e0:e=0
  ·subst e0
   have hv:v=o.ps.getD d.i.toNat 0:=by
    have h9:((v:Nat):Int)=((o.ps.getD d.i.toNat 0:Nat):Int):=h8 rfl;omega
   have hs:cR σ' v 0=((σ.fh (o.ps.getD d.i.toNat 0):Nat):Int):=by
    unfold cR;rw[if_pos rfl,<-hv,Lp (by rw[h5];rfl) hz]
   rw[hs,if_pos rfl,h5,hv];exact DN.get hk o h1 h2 l h3 h4 h7.symm
  ·rw[if_neg e0,h5,h7];have:cR (σ.aO t { σ.tx t with reads:=l }) v (fO o d.k d.i)=0:=by unfold cR;rw[if_neg (by rw[<-h7];exact e0)]
   rw[this];exact DN.bad (by omega) o h1 h2 l h3 h4 (by rw[<-h7];exact e0)
theorem iY.dn6{σ σ':PS}{t:Nat}{d:Dd}{R:aE}{v e:Int}(hk:d.k=6)(hr:R.getD d.a.toNat 0=0\/∃o,σ.ob (R.getD d.a.toNat 0)=some o)(h:iY d.k t (R.getD d.a.toNat 0) d.i (λo=>zt (o.ns.getD d.i.toNat 0)) v e σ σ')(hf:¬Fatal e):DN σ t d R σ' R (if e=0 then v else 0) e:=by
 have ha:atR d R=R.getD d.a.toNat 0:=if_neg (by omega);rcases h with ⟨rfl,h1,rfl⟩|⟨rfl,⟨h1,h2⟩,_⟩|⟨h1,_⟩|⟨o,l,h1,h2,h3,h4,h5,h6,h7,h8⟩
 ·exact DN.nil (by omega) (ha.trans h1)
 ·rcases hr with e|⟨o,e⟩
  ·exact absurd e h1
  ·rw[h2] at e;cases e
 ·exact absurd h1 hf
 ·rw[<-ha] at h1 h4
  by_cases e0:e=0
  ·subst e0;rw[if_pos rfl,h5,h8 rfl];exact DN.read hk o h1 h2 l h3 h4 h7.symm
  ·rw[if_neg e0,h5,h7];exact DN.bad (by omega) o h1 h2 l h3 h4 (by rw[<-h7];exact e0)
theorem jK.dn{σ σ':PS}{t:Nat}{d:Dd}{R:aE}{v e:Int}(hl:(σ.tx t).live=true)(hk:d.k=5\/d.k=7\/d.k=8)(hr:R.getD d.a.toNat 0=0\/∃o,σ.ob (R.getD d.a.toNat 0)=some o)(hb:R.getD d.b.toNat 0=0\/∃o,σ.ob (R.getD d.b.toNat 0)=some o)(h:v=0/\jK d (R.getD d.b.toNat 0) t (R.getD d.a.toNat 0) e σ σ')(hf:¬Fatal e):DN σ t d R σ' R (if e=0 then v else 0) e:=by
 have ha:atR d R=R.getD d.a.toNat 0:=if_neg (by omega);obtain⟨rfl,h⟩:=h;rw[show(if e=0 then (0:Int) else 0)=0 by split <;> rfl];rcases h with ⟨rfl,h1,rfl⟩|⟨rfl,h1,_⟩|⟨h1,_⟩|⟨o,l,h1,h2,h3,h4,h6,h7,⟨h8,h9⟩|⟨h8,x',x1,x2,x3,x4,x5,h9⟩⟩
 ·exact DN.nil (by omega) (ha.trans h1)
 ·exfalso;rcases h1 with ⟨h1,h2⟩|⟨h1,h2⟩
  ·rcases hr with e|⟨o,e⟩
   ·exact absurd e h1
   ·rw[h2] at e;cases e
  ·rcases hb with e|⟨o,e⟩
   ·exact absurd e h1
   ·rw[h2] at e;cases e
 ·exact absurd h1 hf
 ·rw[<-ha] at h1 h4;rw[h9,h7];exact DN.bad (by omega) o h1 h2 l h3 h4 (by rw[<-h7];exact h8)
 ·rw[<-ha] at h1 h4 x4 x5 h9;rw[h8] at h7;rw[h9,h8];exact DN.chg hk o h1 h2 l h3 h4 h7.symm x' (x1.trans hl) x2 x3 x4 x5
theorem Cq.dn{σ σ':PS}{t:Nat}{d:Dd}{R:aE}{v:Nat}{e:Int}(hk:d.k=10)(h:Cq t v e σ σ')(hf:¬Fatal e):DN σ t d R σ' (if e=0 then R.set d.a.toNat v else R) (cR σ' v e) e:=by
 obtain⟨h1,⟨rfl,_⟩|⟨rfl,rfl⟩⟩:=h
 ·exact absurd (.inl rfl) hf
 ·have:v=0:=by omega
  subst this;exact DN.reg _ _ (.inl ⟨hk,rfl,rfl⟩)
theorem Iu.le{S S5:aY}{t:Nat}{v e:Int}{Rel:Int->Int->aY->Prop}(h:Iu S t Rel v e S5)(hb:Rel v e S5->0<=v/\v<=131072):0<=v/\v<=131072:=by
 rcases h with ⟨_,h⟩|⟨_,h,_⟩
 ·exact hb h
 ·omega
theorem lB.le{t p d:Nat}{wk fn:Bool}{v e:Int}{σ σ':PS}(h:lB t p d wk fn v e σ σ'):0<=v/\v<=131072:=by
 rcases h with ⟨_,a,h1,h2,_⟩|⟨h,_⟩ <;> omega
theorem xY.le{t a:Nat}{v e:Int}{σ σ':PS}(h:xY t a v e σ σ'):0<=v/\v<=131072:=by
 rcases h with ⟨h,_⟩|⟨h,_⟩|⟨h,_⟩|⟨_,_,_,b,h1,h2,_⟩ <;> omega
theorem Cq.le{t:Nat}{v e:Int}{σ σ':PS}(h:Cq t v e σ σ'):0<=v/\v<=131072:=by
 have:=h.1;omega
section
theorem aN{P:Program}{op:Oper}{a:Act}{w:aj}{K:Act->aj->Prop}{Q:Exit->Act->aj->Prop}(ty:TypeId)(x y:Operand)(ho:op.op=.store ty x y)
 (b:Nat) (cells:Array aC) (hx:a.eval x = aR b) (hy:a.eval y=.agg cells) {vs:List aC} (own:ag w b vs) (hn:cells.size=vs.length) (hi:(P.info? ty).map (·.size)=some cells.size) (h1:cells.all (·.oneCell')=true)
 (h:∀w',ag w' b cells.toList->Fr (λk=>k=b) w w'->K (a.put op.dst undef) w'):op.wp P a w K Q:=
 wp_store_mid ty x y ho b 0 cells hx hy (own.there _ hn) hi h1 (h _ (own.whole (by simpa using hn)) (Fr.setCells (S:=λk=>k=b) rfl _ _ aq))
theorem eO(x:bT):((bq x).toArray).all (·.oneCell')=true:=all_oneCell_toArray (by simp[bq,rg,Value.oneCell'])
theorem tH{x:bT}(h:x.R.length=6){a:Nat}(ha:a<6)(v:Nat):(bq x).set (2+a) (vI (v:Int))=bq { x with R:=x.R.set a v }:=by
 obtain⟨b,p,R,V,live⟩:=x
 match R,h with
 | [r0,r1,r2,r3,r4,r5],_=>
   rcases(by omega:a=0\/a=1\/a=2\/a=3\/a=4\/a=5) with rfl|rfl|rfl|rfl|rfl|rfl <;> rfl
theorem b_{x:bT}{a:Nat}(ha:a<6):(bq x)[2+a]?=some (vI ((x.R.getD a 0:Nat):Int)):=by
 rcases(by omega:a=0\/a=1\/a=2\/a=3\/a=4\/a=5) with rfl|rfl|rfl|rfl|rfl|rfl <;> rfl
variable {w:aj}{τ:Nat->Nat}{s:Nat}{S:aY}
theorem Eb(h:St w τ s S){a:Nat}(ha:a<=131072):aL prog 71 #[pV S.sp,vI (a:Int)] w λe w'=>e=.returned (vI (D6 (vw S) a:Nat))/\Calm w w':=by
 have hs:=uV h ha
 by_cases h0:a=0
 ·subst h0;clear hs;go_in;go_wp2;go_ret;exact⟨rfl,aq⟩
 ·have e0:((a:Int)==0)=false:=by simp;omega
  go_in;go_wp2_with fail
  refine hs.mono ?_;rintro e w' ⟨⟨x,rfl⟩,c⟩;clear hs;have ez:sr S.D.A a=D6 (vw S) a:=(if_neg h0).symm;rw[ez];go_wp2;go_ret;exact⟨rfl,c⟩
def bT.nh(x:bT)(a v:Nat)(e:Int):bT:=if e=0 then { x with R:=x.R.set a v } else x
def Z5(w:aj)(S:aY)(B7:Nat)(x:bT)(a v:Nat)(e:Int)(en:Ending)(w':aj):Prop:=en=.returned (.tuple #[bO ((x.nh a v e).cV e),cO 2 e (cR (vw S) v e)])/\Fr (λb=>b=B7) w w'
abbrev cF(B7:Nat):aC:=.func (.func 68) #[] #[aR B7]
theorem qX(h:St w τ s S){x:bT}{d:Dd}{a v:Nat}{e:Int}{B7 B6 Ht B4:Nat}(o7:ag w B7 (bq x))(o6:ag w B6 (eZ d))(Qz:Own w Ht 0 (cF B7))(o4:Own w B4 0 (pV S.sp))(ha:d.a=(a:Int))(ku:a<6)(hR:x.R.length=6)
 (n6:B6≠B7) (n10:Ht≠B7) (n4:B4≠B7) (t7:500<=τ B7) (hb:0<=x.b/\x.b<=1000) (hp:0<=x.p/\x.p<=1000) (hv:v<=131072) :
 aL prog 70 #[vI (v:Int),vI e,aR Ht,aR B7,aR B6,aR B4] w (Z5 w S B7 x a v e):=by
 have k2:Calm w ((w.alloc (.cells #[vI 0,vI 0,vI 0,vI 0,vI 0,vI 0,vI 0,vI 0,vI 0,vI 0,vI 0,vI 0,vI 0,vI 0,.bool false] 31)).alloc (.cells #[vI 0,vI 0,vI 0] 35)):=(aq.alloc _).alloc _;have o5:ag ((w.alloc (.cells #[vI 0,vI 0,vI 0,vI 0,vI 0,vI 0,vI 0,vI 0,vI 0,vI 0,vI 0,vI 0,vI 0,vI 0,.bool false] 31)).alloc (.cells #[vI 0,vI 0,vI 0] 35)) w.heap.size [vI 0,vI 0,vI 0,vI 0,vI 0,vI 0,vI 0,vI 0,vI 0,vI 0,vI 0,vI 0,vI 0,vI 0,.bool false]:=(ag.lI w [_,_,_,_,_,_,_,_,_,_,_,_,_,_,_] _ _ rfl).alloc _;have o9:ag ((w.alloc (.cells #[vI 0,vI 0,vI 0,vI 0,vI 0,vI 0,vI 0,vI 0,vI 0,vI 0,vI 0,vI 0,vI 0,vI 0,.bool false] 31)).alloc (.cells #[vI 0,vI 0,vI 0] 35)) (w.heap.size+1) [vI 0,vI 0,vI 0]:=ag.lI (w.alloc _) [_,_,_] _ _ (by simp);have hl7:B7<w.heap.size:=o7.lt (by simp[bq]);generalize iA:(w.alloc (.cells #[vI 0,vI 0,vI 0,vI 0,vI 0,vI 0,vI 0,vI 0,vI 0,vI 0,vI 0,vI 0,vI 0,vI 0,.bool false] 31)).alloc (.cells #[vI 0,vI 0,vI 0] 35)=W2 at *;have Zz:=o7.calm k2;have lN:=(Qz.calm k2).1
 by_cases h0:e=0
 ·subst h0;have y6:=((o6.calm k2) 1 _ rfl).1;rw[ha] at y6;have c7:=Zz (2+a) _ (b_ ku);have c70:=c7.1;have c71:=c7.2;have F:Fr (λb=>b=B7) W2 (W2.setCell ⟨B7,2+a,none⟩ (vI (v:Int))):=(Fr.refl (λb=>b=B7) W2).setCell (p:=⟨B7,2+a,none⟩) (.inl rfl) _;have Ih:=Zz.set (2+a) (vI (v:Int)) (by rw[iQ];omega);rw[tH hR ku] at Ih;have cy:=St.jC (h.calm k2) F (λb hb=>by rw[hb];exact t7);have ZR:=F.cellAt (o4.calm k2).1 n4;have PA:=F.cellAt lN n10;have ha0:(0:Int)<=a:=by omega
  have Me:(a:Int)<6:=by omega
  obtain⟨W3,yA⟩:=au (W2.setCell ⟨B7,2+a,none⟩ (vI (v:Int)));rw[yA] at F Ih cy ZR PA;go_in;go_wp2_with fail
  have kd:Calm W3 W3.drew:=aq.drew;have os:=Eb (cy.calm kd) hv;have jH:ag W3.drew w.heap.size [vI 0,vI 0,vI 0,vI 0,vI 0,vI 0,vI 0,vI 0,vI 0,vI 0,vI 0,vI 0,vI 0,vI 0,.bool false]:=(o5.fr F (by omega)).calm kd;have o93:ag W3.drew (w.heap.size+1) [vI 0,vI 0,vI 0]:=(o9.fr F (by omega)).calm kd;have aa6:=Ih.calm kd;refine cY [0,1,2] [3,4] 5 (λw'=>w'.cell? ⟨Ht,0,none⟩=some (cF B7)/\w'.cell? ⟨B4,0,none⟩=some (pV S.sp)) (by kernel_rfl) (by kernel_rfl) ⟨PA,ZR⟩ ?_;refine ah (cF B7) rfl rfl (λw' hw'=>?_) ai ?_
  ·have e1:=hw'.1;simp[go_sem,e1]
  refine ah (pV S.sp) rfl rfl (λw' hw'=>?_) ai ?_
  ·have e1:=hw'.2;simp[go_sem,e1]
  refine ah (vI (v:Int)) rfl rfl (λw' hw'=>?_) ai ?_
  ·simp[go_sem]
  simp only[aU];refine aw rfl rfl ?_;go_wp2_with fail
  refine os.mono ?_;rintro en w4 ⟨rfl,k4⟩;obtain⟨sv,Og⟩:=au (D6 (vw S) v);rw[Og];replace Og:=af Og;have vo:=k4.cellAt PA id;have z4:=k4.cellAt ZR id;refine⟨⟨vo,z4⟩,?_⟩;have ot:=ij (aa6.calm k4) hb hp (sv:Int) 0;refine aw rfl rfl ?_;go_wp2_with fail
  refine ot.mono ?_;rintro en w5 ⟨rfl,k5⟩;refine⟨⟨k5.cellAt vo id,k5.cellAt z4 id⟩,?_⟩;have kr:Calm W3.drew w5:=k4.trans k5;clear os ot vo z4 PA ZR c70 c71 y6 lN;replace yA:=af yA;replace iA:=af iA;obtain⟨x9,Om⟩:=au (({ x with R:=x.R.set a v } : bT).cV 0);rw[Om];replace Om:=af Om;have p9:=(o93.calm kr);have p5:=(jH.calm kr);simp only[bj];refine cQ [5,6] [7,8] (λw'=>True) (by kernel_rfl) trivial ?_;refine ah (bO x9) rfl rfl (λw' hw'=>?_) ai ?_
  ·simp[go_sem]
  refine ah (cO 2 0 (if (0:Int)=0 then (sv:Int) else 0)) rfl rfl (λw' hw'=>?_) ai ?_
  ·simp[go_sem]
  simp only[aU];refine aw rfl rfl ?_;refine aN _ _ _ rfl w.heap.size (bq x9).toArray rfl rfl p5 rfl (by kernel_rfl) (eO x9) ?_;intro w6 p56 f6;refine⟨trivial,?_⟩;have p96:=p9.fr f6 (by omega);refine aw rfl rfl ?_;refine aN _ _ _ rfl (w.heap.size+1) #[vI 2,vI 0,vI (if (0:Int)=0 then (sv:Int) else 0)] rfl rfl p96 rfl (by kernel_rfl) (by simp[Value.oneCell']) ?_;intro w7 p97 f7;refine⟨trivial,?_⟩;have p57:=p56.fr f7 (by omega);simp only[bj];go_wp2;exact bodyPost_ret (v:=.tuple #[bO x9,cO 2 0 (if (0:Int)=0 then (sv:Int) else 0)]) (cd (i:=8) (j:=9) rfl rfl rfl p57 p97) rfl ⟨by rw[<-Om.out,<-Og.out];rfl,((((Calm.any k2:Fr (λb=>b=B7) _ _).trans F).trans (Calm.any (kd.trans kr))).join f6 (λj hj e=>by omega)).join f7 (λj hj e=>by omega)⟩
 ·have YR:(e != 0)=true:=by simp[bne,h0]
  have ot:=ij Zz hb hp 0 e;go_in;go_wp2_with fail
  clear iA;refine ot.mono ?_;rintro en w3 ⟨rfl,k3⟩;clear ot lN;have jH:=o5.calm k3;have lx:=o9.calm k3;have J4:x.nh a v e=x:=by unfold bT.nh;rw[if_neg h0]
  generalize dg:x.cV e=x2 at *;generalize eC:(if e=0 then (0:Int) else 0)=v2 at *;replace dg:=af dg;replace eC:=af eC;simp only[bO,cO,rg];obtain⟨y0,z0,y1,z1,y2,z2,y3,z3,y4,z4,y5,z5,y6,z6,y7,z7,y8,z8,y9,z9,lN,vo,nB,xR,nC,xS,ko,zL,kp,vB⟩:=ag.jU jH;obtain⟨wD,vC,wE,vD,wF,xT⟩:=ag.sR lx;have T1:=jH.whole (us:=(bq x2)) rfl;have F1:=rG w3 (w.heap.size) 0 (bq x2);have U0:=lx.fr F1 (by omega);have U:=U0.whole (us:=[vI 2,vI e,vI v2]) rfl;have F2:Fr (λk=>k=w.heap.size+1) (w3.setCells w.heap.size 0 (bq x2)) ((w3.setCells w.heap.size 0 (bq x2)).setCells (w.heap.size+1) 0 [vI 2,vI e,vI v2]):=Fr.setCells (S:=λk=>k=w.heap.size+1) rfl _ _ aq;have T:=T1.fr F2 (by omega);have hC:Calm w ((w3.setCells w.heap.size 0 (bq x2)).setCells (w.heap.size+1) 0 [vI 2,vI e,vI v2]):=((k2.trans k3).join F1 (λj hj e=>by omega)).join F2 (λj hj e=>by omega);replace hC:=af hC;replace T:=af T;replace U:=af U;clear T1 F1 U0 F2 Zz;go_wp2;exact bodyPost_ret (v:=.tuple #[bO x2,cO 2 e v2]) (cd (i:=8) (j:=9) rfl rfl rfl T.out U.out) rfl ⟨by rw[J4,dg.out,<-eC.out];unfold cR;rw[if_neg h0,if_neg h0],Calm.any hC.out⟩
end
