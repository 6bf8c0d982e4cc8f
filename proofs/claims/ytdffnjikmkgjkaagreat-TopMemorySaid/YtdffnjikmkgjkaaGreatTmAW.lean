/- TopMemory: a part of its proof (Ths). -/
import Derived.Test.YtdffnjikmkgjkaaGreatTmAA
import Derived.Test.YtdffnjikmkgjkaaGreatTmAV
import Derived.Test.YtdffnjikmkgjkaaGreatTmAJ
set_option linter.unusedSimpArgs false
set_option linter.unusedVariables false
set_option maxHeartbeats 8000000
namespace Go.Proofs.YtdffnjikmkgjkaaGreat
section
open Go.RowKit Go.Shelf
variable {w:World}{τ:Nat→Nat}{s q:Nat}{S:StD}
def DdR (S:StD)(P:List (List Dd))(x x':ThD)(e:Int)(S':StD):Prop:=
  x.live=true∧∃d,((P.getD x.b.toNat [])[x.p.toNat]?=some d)∧DtR S d x e S'∧DtX x x' e
def SpP (w:World)(τ:Nat→Nat)(s q:Nat)(S:StD)(P:List (List Dd))(x:ThD)(en:Ending)(w':World):Prop:=
  ∃ (x':ThD) (k e v:Int),en = .returned (.tuple #[thV x',acV k e v])∧ThOk P.length x'∧Nx w τ (s+1) q S w' (fun S'=>k=2→DdR S P x x' e S')
theorem ThOk.dt {n:Nat}{x x':ThD}{e:Int}(h:ThOk n x)(hb:x.b<n)(hp:x.p<50)(g:DtX x x' e):ThOk n x':=by
  obtain⟨xl,r1,r2,eb,ep,ev,el,g⟩:=g;have hv:xl.V.length=6:=by rw[ev];exact h.v
  have hvp:∀a∈xl.V,a≤131072:=by rw[ev];exact h.vp
  have b0:=h.b;have p0:=h.p;have hl:xl.live=true→xl.b<n:=fun _=>by rw[eb];exact hb
  have z:(0:Int)≤0∧(0:Int)≤100:=by decide
  rcases g with rfl|⟨_,rfl⟩
  · unfold ThD.endX ThD.back;split
    · exact⟨by rw[←eb] at b0;exact b0,⟨by show 0≤xl.p+1;omega,by show xl.p+1≤100;omega⟩,hl,r1,hv,r2,hvp⟩
    · split
      · exact⟨by rw[←eb] at b0;exact b0,z,(fun e=>by cases e),hv,hv,hvp,hvp⟩
      · split
        · exact⟨⟨by show 0≤xl.b+1;omega,by show xl.b+1≤n;omega⟩,z,(fun e=>by cases e),hv,hv,hvp,hvp⟩
        · exact⟨by rw[←eb] at b0;exact b0,⟨by show 0≤xl.p+1;omega,by show xl.p+1≤100;omega⟩,hl,r1,hv,r2,hvp⟩
  · exact⟨⟨by show 0≤x.b+1;omega,by show x.b+1≤n;omega⟩,z,(fun e=>by cases e),h.v,h.v,h.vp,h.vp⟩
set_option maxRecDepth 8000 in
theorem tstep_is (h:St w τ s q S)(hs:s<100000)(hq:q≤100000)(t:Int)(ht:I64 t){P:List (List Dd)}{v:Value}{T0:Nat→Prop}(hP0:BlkIn T0 w v P)(hn:P.length≤100)(hpl:∀b,b<P.length→(P.getD b []).length≤20)(hpr:∀b,b<P.length→∀d∈P.getD b [],d.Rt){x:ThD}(hx:ThOk P.length x) :
    Calls Tryz.prog 26 #[pV S.sp,vI t,v,thV x] w (SpP w τ s q S P x):=by
  obtain⟨τ0,hf,tk,fr⟩:=h.fresh;obtain⟨W,hWW,hW⟩:=thW_newE w x;have hb7:=hW.z;obtain⟨va,vc,rfl,hget0⟩:=hP0;have hget:=hid hget0;clear hget0;have hx0:=hid hx;have hp0:=hid hx.p;replace hpl:=hid hpl;replace hpr:=hid hpr;have hn':=hid hn;have od:=done_is W va P.length vc hn x;simp only[thV,rg] at od;simp only[rg,List.getD_eq_getElem?_getD] at hWW;simp only[thV,rg];have o7:=hW.o7;simp only[thC,rg] at o7;obtain⟨y0,y1,y2,y3,y4,y5,y6,y7,y8,y9,y10,y11,y12,y13,y14⟩:=OwnL.ce15 o7;clear hx hn;go_enter Tryz.func26,Tryz.ntmps26;go_wp2_with fail
  clear hWW;refine od.mono ?_;rintro en w1 ⟨rfl,c1⟩;clear od o7 y0 y1 y2 y3 y4 y5 y6 y7 y8 y9 y10 y11 y12 y13 y14;have tg:∀j,j≤2→500≤τ0 (w.heap.size+j):=fun j hj=>by rw[fr _ (by omega)];omega
  have c01:=hW.c.trans c1;have hf1:=hf.calm c01;have r7:=hW.o7.calm c1;have r8:=hW.o8.calm c1;have r9:=hW.o9.calm c1;have hz1:w.heap.size+1+1<w1.heap.size:=r9.lt (by simp);have n1:Nx w1 τ0 (s+1) q S w1 (fun S'=>(0:Int)=2→DdR S P x x 0 S'):=Nx.mono (s2:=s+1) (q2:=q) (Nx.calm hf1 (Fr.refl _ _) (R:=fun S'=>(0:Int)=2→DdR S P x x 0 S') (fun e=>by omega)) (Nat.le_succ _) (Nat.le_refl _) (fun _ h=>h);simp only[thC,rg] at r7;obtain⟨u0,u1,u2,u3,u4,u5,u6,u7,u8,u9,u10,u11,u12,u13,u14⟩:=OwnL.ce15 r7
  by_cases hd:x.b<0∨(P.length:Int)≤x.b
  · rw[decide_eq_true hd];have hX:=hx0.out;obtain⟨y0,z0,y1,z1,y2,z2,y3,z3,y4,z4,y5,z5,y6,z6,y7,z7,y8,z8,y9,z9,y10,z10,y11,z11,y12,z12,y13,z13,y14,z14⟩:=OwnL.cf15 r8;obtain⟨yy0,zz0,yy1,zz1,yy2,zz2⟩:=OwnL.cf3 r9;have T1:=r8.whole (us:=(thC x)) rfl;have F1:=frC w1 (w.heap.size+1) 0 (thC x);have U0:=r9.fr F1 (by omega);have U:=U0.whole (us:=[vI 0,vI 0,vI 0]) rfl;have F2:Fr (fun k=>k=w.heap.size+1+1) (w1.setCells (w.heap.size+1) 0 (thC x)) ((w1.setCells (w.heap.size+1) 0 (thC x)).setCells (w.heap.size+1+1) 0 [vI 0,vI 0,vI 0]):=Fr.setCells (S:=fun k=>k=w.heap.size+1+1) rfl _ _ (Fr.refl _ _);have T:=T1.fr F2 (by omega)
    have hF:Fr (fun b=>w.heap.size≤b∧b<w1.heap.size) w1 ((w1.setCells (w.heap.size+1) 0 (thC x)).setCells (w.heap.size+1+1) 0 [vI 0,vI 0,vI 0]):=
      (F1.mono (fun b _ e=>by omega)).trans (F2.mono (fun b _ e=>by omega))
    have hP:SpP w τ s q S P x (.returned (.tuple #[thV x,acV 0 0 0])) ((w1.setCells (w.heap.size+1) 0 (thC x)).setCells (w.heap.size+1+1) 0 [vI 0,vI 0,vI 0]):=⟨x,0,0,0,rfl,hX,Nx.fin n1 c01 tk fr hF (fun b hb=>hb)⟩;replace hP:=hid hP;replace T:=hid T;replace U:=hid U;clear T1 F1 U0 F2 hF
    try simp only[thV,acV,rg]
    go_wp2;exact bodyPost_ret (v:=.tuple #[thV x,acV 0 0 0]) (res_two (i:=8) (j:=9) rfl rfl rfl T.out U.out) rfl hP.out
  · rw[decide_eq_false hd];have hb0:0≤x.b:=by omega
    have hbn:x.b<P.length:=by omega
    have hp1:decide (x.p<0)=false:=by have:=hp0.out;simp;omega
    cases hlv:x.live with
    | false=>
      rw[hlv] at u14;have ob:=tbegin_is hf1 hq t ht hn'.out hx0.out hbn hlv;simp only[thV,rg,hlv] at ob;replace hlv:=hid hlv;replace hd:=hid hd;go_wp2_with fail
      refine ob.mono ?_;rintro en w5 ⟨x2,e,v,rfl,hX,n5⟩;clear ob u0 u1 u2 u3 u4 u5 u6 u7 u8 u9 u10 u11 u12 u13 u14;obtain⟨τ5,S5,p1,p2,p3,p4⟩:=n5;have q8:=p2.ownL r8 (tg 1 (by omega));have q9:=p2.ownL r9 (tg 2 (by omega));have n5:Nx w1 τ0 (s+1) q S w5 (fun S'=>(1:Int)=2→DdR S P x x2 e S'):=Nx.mono (s2:=s+1) (q2:=q) (R:=fun _=>True) ⟨τ5,S5,p1,p2,p3,trivial⟩ (Nat.le_succ _) (Nat.le_refl _) (fun _ _ e=>by omega);clear p1 p2 p3 p4 r7 r8 r9 n1;obtain⟨y0,z0,y1,z1,y2,z2,y3,z3,y4,z4,y5,z5,y6,z6,y7,z7,y8,z8,y9,z9,y10,z10,y11,z11,y12,z12,y13,z13,y14,z14⟩:=OwnL.cf15 q8;obtain⟨yy0,zz0,yy1,zz1,yy2,zz2⟩:=OwnL.cf3 q9;have T1:=q8.whole (us:=(thC x2)) rfl;have F1:=frC w5 (w.heap.size+1) 0 (thC x2);have U0:=q9.fr F1 (by omega);have U:=U0.whole (us:=[vI 1,vI e,vI v]) rfl;have F2:Fr (fun k=>k=w.heap.size+1+1) (w5.setCells (w.heap.size+1) 0 (thC x2)) ((w5.setCells (w.heap.size+1) 0 (thC x2)).setCells (w.heap.size+1+1) 0 [vI 1,vI e,vI v]):=Fr.setCells (S:=fun k=>k=w.heap.size+1+1) rfl _ _ (Fr.refl _ _);have T:=T1.fr F2 (by omega)
      have hF:Fr (fun b=>w.heap.size≤b∧b<w1.heap.size) w5 ((w5.setCells (w.heap.size+1) 0 (thC x2)).setCells (w.heap.size+1+1) 0 [vI 1,vI e,vI v]):=
        (F1.mono (fun b _ e=>by omega)).trans (F2.mono (fun b _ e=>by omega))
      have hP:SpP w τ s q S P x (.returned (.tuple #[thV x2,acV 1 e v])) ((w5.setCells (w.heap.size+1) 0 (thC x2)).setCells (w.heap.size+1+1) 0 [vI 1,vI e,vI v]):=⟨x2,1,e,v,rfl,hX,Nx.fin n5 c01 tk fr hF (fun b hb=>hb)⟩;replace hP:=hid hP;replace T:=hid T;replace U:=hid U;clear T1 F1 U0 F2 hF
      try simp only[thV,acV,rg]
      go_wp2;exact bodyPost_ret (v:=.tuple #[thV x2,acV 1 e v]) (res_two (i:=8) (j:=9) rfl rfl rfl T.out U.out) rfl hP.out
    | true=>
      rw[hlv] at u14;obtain⟨b,hbe⟩:∃b:Nat,x.b=b:=⟨x.b.toNat,by omega⟩;obtain⟨p,hpe⟩:∃p:Nat,x.p=p:=⟨x.p.toNat,by have:=hp0.out;omega⟩;have hbl:b<P.length:=by omega
      obtain⟨g,o,u,rfl,tg0,hcu,hdd⟩:=hget.out b hbl;have hcu1:=c01.cellAt hcu id;obtain⟨da,dc,rfl,hdg⟩:=hdd;have hpl1:=hpl.out b hbl;obtain⟨N,hN⟩:∃N,(P.getD b []).length=N:=⟨_,rfl⟩;rw[hN] at hcu hcu1 hdg hpl1;replace hdg:=hid hdg;have u0':=u0;have u1':=u1;rw[hbe] at u0';rw[hpe] at u1' hp1
      by_cases hpN:N≤p
      · have oc:=tcommit_is hf1 hq t ht hn'.out hx0.out hbn;simp only[thV,rg,hlv,hbe,hpe] at oc;have hX0:=hx0;have hbe':=hid hbe;have hpe':=hid hpe;clear hbn hb0 u0 u1;replace hlv:=hid hlv;replace hd:=hid hd;clear hbe hpe hpl1 hN;go_wp2_with fail
        refine oc.mono ?_;rintro en w5 ⟨x2,e,v,rfl,hX,n5⟩;clear oc u0' u1' u2 u3 u4 u5 u6 u7 u8 u9 u10 u11 u12 u13 u14;obtain⟨τ5,S5,p1,p2,p3,p4⟩:=n5;have q8:=p2.ownL r8 (tg 1 (by omega));have q9:=p2.ownL r9 (tg 2 (by omega));have n5:Nx w1 τ0 (s+1) q S w5 (fun S'=>(3:Int)=2→DdR S P x x2 e S'):=Nx.mono (s2:=s+1) (q2:=q) (R:=fun _=>True) ⟨τ5,S5,p1,p2,p3,trivial⟩ (Nat.le_succ _) (Nat.le_refl _) (fun _ _ e=>by omega);clear p1 p2 p3 p4 r7 r8 r9 n1 hcu hcu1;obtain⟨y0,z0,y1,z1,y2,z2,y3,z3,y4,z4,y5,z5,y6,z6,y7,z7,y8,z8,y9,z9,y10,z10,y11,z11,y12,z12,y13,z13,y14,z14⟩:=OwnL.cf15 q8;obtain⟨yy0,zz0,yy1,zz1,yy2,zz2⟩:=OwnL.cf3 q9;have T1:=q8.whole (us:=(thC x2)) rfl;have F1:=frC w5 (w.heap.size+1) 0 (thC x2);have U0:=q9.fr F1 (by omega);have U:=U0.whole (us:=[vI 3,vI e,vI v]) rfl;have F2:Fr (fun k=>k=w.heap.size+1+1) (w5.setCells (w.heap.size+1) 0 (thC x2)) ((w5.setCells (w.heap.size+1) 0 (thC x2)).setCells (w.heap.size+1+1) 0 [vI 3,vI e,vI v]):=Fr.setCells (S:=fun k=>k=w.heap.size+1+1) rfl _ _ (Fr.refl _ _);have T:=T1.fr F2 (by omega)
        have hF:Fr (fun b=>w.heap.size≤b∧b<w1.heap.size) w5 ((w5.setCells (w.heap.size+1) 0 (thC x2)).setCells (w.heap.size+1+1) 0 [vI 3,vI e,vI v]):=
          (F1.mono (fun b _ e=>by omega)).trans (F2.mono (fun b _ e=>by omega))
        have hP:SpP w τ s q S P x (.returned (.tuple #[thV x2,acV 3 e v])) ((w5.setCells (w.heap.size+1) 0 (thC x2)).setCells (w.heap.size+1+1) 0 [vI 3,vI e,vI v]):=⟨x2,3,e,v,rfl,hX,Nx.fin n5 c01 tk fr hF (fun b hb=>hb)⟩;replace hP:=hid hP;replace T:=hid T;replace U:=hid U;clear T1 F1 U0 F2 hF
        try simp only[thV,acV,rg]
        go_wp2;exact bodyPost_ret (v:=.tuple #[thV x2,acV 3 e v]) (res_two (i:=8) (j:=9) rfl rfl rfl T.out U.out) rfl hP.out
      · have hpN':p<N:=by omega
        obtain⟨g2,o2,rfl,tg2,hdc⟩:=hdg.out p hpN';obtain⟨d,hde⟩:∃d,(P.getD b []).getD p dD=d:=⟨_,rfl⟩;rw[hde] at hdc;have hdm:d∈P.getD b []:=by rw[←hde];exact get_mem _ (by omega)
        have hrt:=hpr.out b hbl d hdm
        have hds:(P.getD x.b.toNat [])[x.p.toNat]?=some d:=by
          rw[hbe,hpe,←hde];show(P.getD b [])[p]?=some ((P.getD b []).getD p dD);exact(show ∀l:List Dd,p<l.length→l[p]?=some (l.getD p dD) from fun l hl=>by rw[List.getElem?_eq_getElem hl];simp[List.getD_eq_getElem?_getD,hl]) _ (by omega)
        have e0:=c01.cellAt (hdc 0 _ rfl) id;have e1:=c01.cellAt (hdc 1 _ rfl) id;have e2:=c01.cellAt (hdc 2 _ rfl) id;have e3:=c01.cellAt (hdc 3 _ rfl) id;have e4:=c01.cellAt (hdc 4 _ rfl) id;rw[Nat.add_zero] at e0;have k2:Calm w1 (w1.alloc (.cells #[vI d.k,vI d.a,vI d.b,vI d.i,vI d.n] 43)):=(Fr.refl _ _).alloc _;have oD:OwnL (w1.alloc (.cells #[vI d.k,vI d.a,vI d.b,vI d.i,vI d.n] 43)) w1.heap.size (ddC d):=OwnL.nth2 w1 [_,_,_,_,_] _ _ rfl;have hX0:=hx0;have hbe':=hid hbe;have hpe':=hid hpe;have hpN2:decide ((p:Int)≥(N:Int))=false:=by simp;omega
        clear hbn hb0 u0 u1 hdc;have hlv':=hid hlv;replace hd:=hid hd;clear hbe hpe hN hlv;replace hds:=hid hds;replace hde:=hid hde;go_upto_region 9 with fail
        generalize hW2:w1.alloc (.cells #[vI d.k,vI d.a,vI d.b,vI d.i,vI d.n] 43)=W2 at *;have or:=right_is W2 d hrt;simp only[ddV] at or;have oD0:=oD;simp only[ddC] at oD0;obtain⟨f0,f1,f2,f3,f4⟩:=OwnL.ce5 oD0;clear oD0 e0 e1 e2 e3 e4 u0' u1' u2 u3 u4 u5 u6 u7 u8 u9 u10 u11 u12 u13 u14;go_wp2_with fail
        refine or.mono ?_;rintro en w3 ⟨rfl,c3⟩;clear or f0 f1 f2 f3 f4 hW2;have c13:=k2.trans c3;have c03:=c01.trans c13;have oD3:=oD.calm c3;simp only[ddC] at oD3;obtain⟨f0,f1,f2,f3,f4⟩:=OwnL.ce5 oD3;have s7:=r7.calm c13;have s8:=r8.calm c13;have s9:=r9.calm c13;rw[hlv'.out] at s7;obtain⟨u0,u1,u2,u3,u4,u5,u6,u7,u8,u9,u10,u11,u12,u13,u14⟩:=OwnL.ce15 s7;have od:=tdeed_is (hf.calm c03) hs hq (x:=x) ⟨⟨(hx0.out.b).1,by have:=(hx0.out.b).2;have:=hn'.out;omega⟩,⟨hp0.out.1,by have:=hp0.out.2;omega⟩,hx0.out.r,hx0.out.rp⟩ t ht hrt;simp only[thV,rg,ddV,hlv'.out] at od;go_wp2_with fail
        refine od.mono ?_;rintro en w5 ⟨x2,e,v,rfl,he,hX2,n5⟩;clear od f0 f1 f2 f3 f4 u0 u1 u2 u3 u4 u5 u6 u7 u8 u9 u10 u11 u12 u13 u14;have hX:ThOk P.length x2:=hx0.out.dt (by have:=hbe'.out;omega) (by have:=hpe'.out;omega) hX2;obtain⟨τ5,S5,p1,p2,p3,p4⟩:=n5;have q8:=p2.ownL s8 (tg 1 (by omega));have q9:=p2.ownL s9 (tg 2 (by omega));have n5:Nx w3 τ0 (s+1) q S w5 (fun S'=>(2:Int)=2→DdR S P x x2 e S'):=⟨τ5,S5,p1,p2,p3,fun _=>⟨hlv'.out,d,hds.out,p4,hX2⟩⟩;have hz3:w1.heap.size≤w3.heap.size:=c13.size;clear p1 p2 p3 p4 r7 r8 r9 n1 hcu hcu1 s7 s8 s9 hX2;obtain⟨y0,z0,y1,z1,y2,z2,y3,z3,y4,z4,y5,z5,y6,z6,y7,z7,y8,z8,y9,z9,y10,z10,y11,z11,y12,z12,y13,z13,y14,z14⟩:=OwnL.cf15 q8;obtain⟨yy0,zz0,yy1,zz1,yy2,zz2⟩:=OwnL.cf3 q9;have T1:=q8.whole (us:=(thC x2)) rfl;have F1:=frC w5 (w.heap.size+1) 0 (thC x2);have U0:=q9.fr F1 (by omega);have U:=U0.whole (us:=[vI 2,vI e,vI v]) rfl;have F2:Fr (fun k=>k=w.heap.size+1+1) (w5.setCells (w.heap.size+1) 0 (thC x2)) ((w5.setCells (w.heap.size+1) 0 (thC x2)).setCells (w.heap.size+1+1) 0 [vI 2,vI e,vI v]):=Fr.setCells (S:=fun k=>k=w.heap.size+1+1) rfl _ _ (Fr.refl _ _);have T:=T1.fr F2 (by omega)
        have hF:Fr (fun b=>w.heap.size≤b∧b<w3.heap.size) w5 ((w5.setCells (w.heap.size+1) 0 (thC x2)).setCells (w.heap.size+1+1) 0 [vI 2,vI e,vI v]):=
          (F1.mono (fun b _ e=>by omega)).trans (F2.mono (fun b _ e=>by omega))
        have hP:SpP w τ s q S P x (.returned (.tuple #[thV x2,acV 2 e v])) ((w5.setCells (w.heap.size+1) 0 (thC x2)).setCells (w.heap.size+1+1) 0 [vI 2,vI e,vI v]):=⟨x2,2,e,v,rfl,hX,Nx.fin n5 c03 tk fr hF (fun b hb=>hb)⟩;replace hP:=hid hP;replace T:=hid T;replace U:=hid U;clear T1 F1 U0 F2 hF
        try simp only[thV,acV,rg]
        go_wp2;exact bodyPost_ret (v:=.tuple #[thV x2,acV 2 e v]) (res_two (i:=8) (j:=9) rfl rfl rfl T.out U.out) rfl hP.out
end
end Go.Proofs.YtdffnjikmkgjkaaGreat
