import Derived.Test.YtgijglafnlbdbaaGreatTmBA
set_option linter.all false
set_option maxHeartbeats 40000000
set_option maxRecDepth 8000
namespace Go.Proofs.YtgijglafnlbdbaaGreat
open RowKit Shelf Proofs.Tryz
open Go renaming World->aj,Value->aC,Calls->aL
attribute [local irreducible] Oper.wp
theorem La{fn:Func}{W:aj}{B C:Nat}{u v0 a b c d e f x y:aC}{tmps:Array aC}(hf:fn.results = #[.cell 10 92,.cell 11 29,.tmp 12,.tmp 13])(h1:tmps[10]?.getD undef = aR B)(h2:tmps[11]?.getD undef = aR C)(h3:tmps[12]?.getD undef=x)(h4:tmps[13]?.getD undef=y)(o:ag W B [u,v0])(p:ag W C [a,b,c,d,e,f]):(results fn tmps).run prog W=.ok (.tuple #[.agg #[u,v0],.agg #[a,b,c,d,e,f],x,y]) W:=by
 obtain⟨m0,m1⟩:=ag.lF o;obtain⟨n0,n1,n2,n3,n4,n5⟩:=ag.t_ p;simp[results,hf,h1,h2,h3,h4,go_sem,m0,m1,n0,n1,n2,n3,n4,n5]
structure xU(w:aj)(h1 lo:Nat)(md:aC)(MZ:List fW)(R:List Int)(W:aj):Prop where
 r:ag W (w.heap.size+1) (iy R)
 p:ag W (w.heap.size+1+1+1) [.slice none 0 0,.slice none 0 0]
 q:ag W (w.heap.size+1+1+1+1) [vI 0,vI 0,vI 0,vI 0,vI 0,vI 0]
 m:ag W h1 [md,.slice none 0 0]
 c:Calm w W
 o:bL (λb=>lo<=b) W md MZ
theorem xU.fr{w:aj}{h1 lo:Nat}{md:aC}{MZ:List fW}{R R':List Int}{W W':aj}(h:xU w h1 lo md MZ R W)(f:Fr (λk=>k=w.heap.size+1) W W')(hl:w.heap.size+1+1+1+1<lo)(h1l:lo<=h1)(hr:ag W' (w.heap.size+1) (iy R')):xU w h1 lo md MZ R' W':=
 ⟨hr,h.p.fr f (by omega),h.q.fr f (by omega),h.m.fr f (by omega),h.c.join f (λj hj e=>by omega),h.o.fr f (λb hb e=>by have e:b=w.heap.size+1:=e;have hb:lo<=b:=hb;omega)⟩
theorem xU.calm{w:aj}{h1 lo:Nat}{md:aC}{MZ:List fW}{R:List Int}{W W':aj}(h:xU w h1 lo md MZ R W)(k:Calm W W'):xU w h1 lo md MZ R W':=
 ⟨h.r.calm k,h.p.calm k,h.q.calm k,h.m.calm k,h.c.trans k,h.o.calm k⟩
theorem xU.set{w:aj}{h1 lo:Nat}{md:aC}{MZ:List fW}{R:List Int}{W:aj}(h:xU w h1 lo md MZ R W)(hl:w.heap.size+1+1+1+1<lo)(h1l:lo<=h1)(hR:R.length=6){a:Nat}(ha:a<6)(x:Int):xU w h1 lo md MZ (R.set a x) (W.setCell ⟨w.heap.size+1,a,none⟩ (vI x)):=
 h.fr ((Fr.refl (λk=>k=w.heap.size+1) W).setCell (p:=⟨w.heap.size+1,a,none⟩) (.inl rfl) _) hl h1l (by rw[<-iO hR ha];exact h.r.set a (vI x) (by rw[fU];exact ha))
theorem xU.chg{w:aj}{h1 lo B:Nat}{md:aC}{MZ Vk:List fW}{R:List Int}{W W':aj}(h:xU w h1 lo md MZ R W)(f:Fr (λk=>k=B) W W')(hB:lo<=B)(hn:B≠h1)(hl:w.heap.size+1+1+1+1<lo)(hZ:bL (λb=>lo<=b) W' md Vk):xU w h1 lo md Vk R W':=
 ⟨h.r.fr f (by omega),h.p.fr f (by omega),h.q.fr f (by omega),h.m.fr f (by omega),h.c.join f (λj hj e=>by omega),hZ⟩
theorem xU.dN{w:aj}{h1 lo:Nat}{md XI:aC}{MZ Vk:List fW}{R:List Int}{W W':aj}(h:xU w h1 lo md MZ R W)(f:Fr (aB md) W W')(H0:∀b,aB md b->lo<=b)(hn:¬aB md h1)(hl:w.heap.size+1+1+1+1<lo)(h1l:lo<=h1)(hZ:bL (λb=>lo<=b/\b≠h1) W' XI Vk):xU w h1 lo XI Vk R (W'.setCell ⟨h1,0,none⟩ XI):=by
 have G:Fr (λk=>k=h1) W' (W'.setCell ⟨h1,0,none⟩ XI):=(Fr.refl (λk=>k=h1) W').setCell (p:=⟨h1,0,none⟩) (.inl rfl) _;exact⟨(h.r.fr f (λe=>by have:=H0 _ e;omega)).fr G (by omega),(h.p.fr f (λe=>by have:=H0 _ e;omega)).fr G (by omega),(h.q.fr f (λe=>by have:=H0 _ e;omega)).fr G (by omega),(h.m.fr f hn).set 0 XI (by simp),(h.c.join f (λj hj e=>by have:=H0 _ e;omega)).join G (λj hj e=>by omega),bL.mono (hZ.fr G (λb hb e=>hb.2 e)) (λb _ hb=>hb.1)⟩
def DoJ(w:aj)(h1 lo:Nat)(r:List Mo × List Int × Int × Int)(s:aC)(W:aj):Prop:=∃md MZ,s=vI r.2.2.1/\r.2.2.2=0/\r.2.1.length=6/\MZ.map (·.x)=r.1/\xU w h1 lo md MZ r.2.1 W
theorem abb{d:Dd}(h:d.Rt):(d.k=1\/d.k=2)/\R5 d.i/\R5 d.n\/d.k=3\/(d.k=4\/d.k=9)/\R8 d.i\/d.k=5/\R8 d.i\/d.k=6/\R8 d.i\/d.k=7/\R8 d.i\/d.k=8\/d.k=10\/d.k=11\/d.k=12\/d.k=13\/d.k=14:=by
 simp only[Dd.Rt,R6,R5,R8,RM] at *;omega
theorem VJa{T:Nat->Prop}{w:aj}{v:aC}{ms:List fW}(h:bL T w v ms)(hl:ms.length<=1000)(qa:Option Addr)(qc:Nat)(hs:∀m∈ms,m.x.ps.length<=100000/\m.x.ns.length<=100000)(fresh seen:Int){R:List Int}(hR:R.length=6){d:Dd}(hd:d.Rt)(hK:(d.k<=4\/d.k=9)/\CS (ms.map (·.x)) R d fresh=0) :
 aL prog 85 #[.agg #[v,.slice qa 0 qc],Ip R,e_ d,vI fresh,vI seen] w (ZY w (gj (ms.map (·.x)) R d fresh)):=by
 obtain⟨K,A,B,I,N⟩:=d;simp only at hK;replace hK:=af hK;obtain⟨a,rfl,ha⟩:∃a:Nat,A=a/\a<6:=⟨A.toNat,by simp[Dd.Rt,R6,R5,R8,RM] at hd;omega⟩;obtain⟨b,rfl,hb⟩:∃b:Nat,B=b/\b<6:=⟨B.toNat,by simp[Dd.Rt,R6,R5,R8,RM] at hd;omega⟩;obtain⟨r0,r1,r2,r3,r4,r5,yz⟩:=oV hR;have Nv:iy R=[vI r0,vI r1,vI r2,vI r3,vI r4,vI r5]:=by rw[yz];rfl
 have Wj:Ip R=.agg #[vI r0,vI r1,vI r2,vI r3,vI r4,vI r5]:=by rw[yz];rfl
 obtain⟨W1,e1,k1,o5,s1⟩:=dy w [v,.slice qa 0 qc] 92;obtain⟨W2,e2,k2,o6,s2⟩:=dy W1 (iy R) 29;obtain⟨W3,e3,k3,o7,s3⟩:=dy W2 (eZ ⟨K,a,b,I,N⟩) 52;obtain⟨W4,e4,k4,Qz,s4⟩:=dy W3 [.slice none 0 0,.slice none 0 0] 92;obtain⟨W5,e5,k5,UP,s5⟩:=dy W4 [vI 0,vI 0,vI 0,vI 0,vI 0,vI 0] 29;have c4:=k4.trans k5;have c3:=k3.trans c4;have c2:=k2.trans c3;have c1:=k1.trans c2;have p5:=o5.calm c2;have p6:=o6.calm c3;have p7:=o7.calm c4;have p10:=Qz.calm k5;have ZE:=UP;rw[s1] at p6;rw[s2,s1] at p7;rw[s3,s2,s1] at p10;rw[s4,s3,s2,s1] at ZE;have z5:W5.heap.size=w.heap.size+1+1+1+1+1:=by omega
 have oo:=af (λW (c:Calm w W)=>BL (h.calm c) (by omega) qa qc hs);have of:=af (λW (c:Calm w W)=>I3 (qv:=.slice qa 0 qc) (h.calm c) (by omega) fresh hd hR);have or:=af (λW=>qo W _ hd);obtain⟨va,vc,vW,-⟩:=h;obtain⟨nm,N1⟩:=au ms.length;rw[N1] at vW;subst vW;have mW:((((w.alloc (.cells #[.slice va nm vc,.slice qa 0 qc] 92)).alloc (.cells (iy R).toArray 29)).alloc (.cells (eZ ⟨K,a,b,I,N⟩).toArray 52)).alloc (.cells #[.slice none 0 0,.slice none 0 0] 92)).alloc (.cells #[vI 0,vI 0,vI 0,vI 0,vI 0,vI 0] 29)=W5:=by rw[<-e5,<-e4,<-e3,<-e2,<-e1]
 clear e1 e2 e3 e4 e5 o5 o6 o7 Qz UP k1 k2 k3 k4 k5 c2 c3 c4 s1 s2 s3 s4 s5;rw[Nv] at mW;rw[Wj];have Wi:=af Nv;rw[Nv] at p6;replace Nv:=Wi;clear Wi;replace yz:=af yz;replace hR:=af hR;replace hd:=af hd;simp only[eZ] at mW p7;simp only[e_];simp only[e_] at of or;rw[Wj] at of;replace Wj:=af Wj;obtain⟨y5,y51⟩:=ag.lF p5;go_in;go_wp2_with fail
 have o1:=oo.out W5 c1;refine o1.mono ?_;rintro e w1 ⟨v1,jN,rfl,fF,Cr,q1⟩;clear o1 mW y5 y51;obtain⟨a1,lO,rfl⟩:=aG Cr.r;obtain⟨n1,jM⟩:=au jN.length;rw[jM];obtain⟨q2,oC⟩:=gL w1 [.slice a1 n1 lO,.slice none 0 0] 92;go_upto_region 2 with fail
 obtain⟨W6,lQ⟩:=au (w1.alloc (.cells #[.slice a1 n1 lO,.slice none 0 0] 92));rw[lQ] at oC q2 ⊢;clear lQ;have q_:=q1.trans q2;have y7:=p7.calm q_;obtain⟨y0,y1,y2,y3,y4⟩:=ag.Eu y7;have o2:=or.out W6;go_wp2_with fail
 refine o2.mono ?_;rintro e w2 ⟨rfl,q3⟩;clear o2 y7 y0 y1 y2 y3 y4;have Mu:=q_.trans q3;have r5:=p5.calm Mu;have r6:=p6.calm Mu;have r7:=p7.calm Mu;have QG:=oC.calm q3;obtain⟨y5,y51⟩:=ag.lF r5;obtain⟨x0,x1,x2,x3,x4,x5⟩:=ag.t_ r6;obtain⟨d0,d1,d2,d3,d4⟩:=ag.Eu r7;have o3:=of.out w2 (c1.trans Mu);go_wp2_with fail
 refine o3.mono ?_;rintro e w3 ⟨rfl,q4⟩;clear o3 y5 y51 x0 x1 x2 x3 x4 x5 d0 d1 d2 d3 d4 r5 r6 r7;have US:=Mu.trans q4;have cw:=c1.trans US;have r6:=p6.calm US;have r7:=p7.calm US;have Mv:=p10.calm US;have Mw:=ZE.calm US;have QG:=QG.calm q4;have We:=Cr.fr (lo':=W5.heap.size) ((q2.trans q3).trans q4) (λ_ _ e=>e) (aM _);have HM:W5.heap.size<=w1.heap.size:=q1.size;have AK:¬aB (.slice a1 n1 lO) w1.heap.size:=λe=>by have:=(World.ownsRow.lt Cr.r w1.heap.size (by rw[jM];exact e)).2;omega
 have rK:∀j,j<jN.length->¬aB (jN.getD j bV).pv w1.heap.size/\¬aB (jN.getD j bV).nv w1.heap.size:=λj hj=>⟨λe=>by have:=(World.ownsRow.lt (Cr.p j hj) _ e).2;omega,λe=>by have:=(World.ownsRow.lt (Cr.n j hj) _ e).2;omega⟩;have abp:w1.heap.size<w3.heap.size:=QG.lt (by simp);replace rK:=af rK;clear p5 p6 p7 p10 ZE oC Cr q1 q2 q3 q4 q_ Mu US c1 oo of or;obtain⟨x,hx⟩:=au (CS (ms.map (·.x)) R ⟨K,a,b,I,N⟩ fresh);rw[hx]
 by_cases gK:x=0
 ·replace hx:=af hx;have ex0:(x==0)=true:=by simp[gK]
  subst gK;have xa:w3.cell? ⟨w.heap.size+1,a,none⟩=some (vI (R.getD a 0)):=by have o:=r6;rw[<-Nv.out] at o;exact(o a _ (cD R ha)).1
  obtain⟨ra,lU⟩:=au (R.getD a 0);rw[lU] at xa;have xb:w3.cell? ⟨w.heap.size+1,b,none⟩=some (vI (R.getD b 0)):=by have o:=r6;rw[<-Nv.out] at o;exact(o b _ (cD R hb)).1
  obtain⟨rb,jl⟩:=au (R.getD b 0);rw[jl] at xb;have a0:(0:Int)<=(a:Int):=by omega
  have a6:(a:Int)<6:=by omega
  have b0:(0:Int)<=(b:Int):=by omega
  have b6:(b:Int)<6:=by omega
  obtain⟨d0,d1,d2,d3,d4⟩:=ag.Eu r7;obtain⟨x0,x1,x2,x3,x4,x5⟩:=ag.t_ r6;replace lU:=af lU;replace jl:=af jl;go_wp2_with fail
  go_quiet (fail)
  clear d0 d1 d2 d3 d4 x0 x1 x2 x3 x4 x5 xa xb;have kq:Calm w3 (w3.drewN nq):=aq.drewN nq;have u7:=r7.calm kq;have mg:=We.fr (lo':=W5.heap.size) kq (λ_ _ e=>e) (aM _);have aak:w1.heap.size<(w3.drewN nq).heap.size:=(QG.calm kq).lt (by simp);have hD:xU w w1.heap.size W5.heap.size (.slice a1 n1 lO) jN R (w3.drewN nq):=xU.calm ⟨by rw[Nv.out];exact r6,Mv,Mw,QG,cw,by rw[<-jM];exact We.ins⟩ kq;clear r6 r7 Mv Mw QG We cw kq;generalize w3.drewN nq=W7 at *;have zl:w.heap.size+1+1+1+1<W5.heap.size:=by omega
  go_upto_region 8 with fail
  iterate 8 (first|go_step|go_guarded|go_values|go_upon|go_simp)
  go_cut [18] from 20 (λs w'=>DoJ w w1.heap.size W5.heap.size (gj (ms.map (·.x)) R ⟨K,a,b,I,N⟩ fresh) s w')
  case rest=>
   clear mg hD u7 ex0 aak;obtain⟨md,MZ,es,e0,el,em,H⟩:=hcut;obtain⟨⟨rm,rr,rv,re⟩,hr⟩:∃r,gj (ms.map (·.x)) R ⟨K,a,b,I,N⟩ fresh=r:=⟨_,rfl⟩;rw[hr] at es e0 el em H;simp only at es e0 el em H;replace hr:=af hr;subst es e0 em;obtain⟨ma,mc,hmd,-⟩:=H.o;subst hmd;obtain⟨s0,s1,s2,s3,s4,s5,rfl⟩:=oV el;go_upto_region 43 with fail
   replace H:=H.calm (aq.drew);have t6:ag _ _ [vI s0,vI s1,vI s2,vI s3,vI s4,vI s5]:=H.r;have t14:=H.m;refine bQ [0,1,2] [3,4,5,6] (λw'=>ag w' (w.heap.size+1) [vI s0,vI s1,vI s2,vI s3,vI s4,vI s5]/\ag w' w1.heap.size [.slice ma MZ.length mc,.slice none 0 0]) (by kernel_rfl) (by kernel_rfl) ⟨t6,t14⟩ ?_;refine ah (.agg #[.slice ma MZ.length mc,.slice none 0 0]) rfl rfl (λw' hw'=>?_) ai ?_
   ·have o:=hw'.2;obtain⟨z0,z1⟩:=ag.lF o;simp[go_sem,z0,z1]
   refine ah (.agg #[vI s0,vI s1,vI s2,vI s3,vI s4,vI s5]) rfl rfl (λw' hw'=>?_) ai ?_
   ·have o:=hw'.1;obtain⟨z0,z1,z2,z3,z4,z5⟩:=ag.t_ o;simp[go_sem,z0,z1,z2,z3,z4,z5]
   refine ah (vI rv) rfl rfl (λw' hw'=>?_) ai ?_
   ·simp[go_sem]
   simp only[aU];refine aw rfl (by kernel_rfl) ?_;refine aN _ _ _ rfl (w.heap.size+1+1+1) #[.slice ma MZ.length mc,.slice none 0 0] (by kernel_rfl) (by kernel_rfl) H.p rfl (by kernel_rfl) (by simp[Value.oneCell']) ?_;intro w8 t108 f8;have t68:=t6.fr f8 (by omega);have t148:=t14.fr f8 (by omega);refine⟨⟨t68,t148⟩,?_⟩;refine aw rfl (by kernel_rfl) ?_;refine aN _ _ _ rfl (w.heap.size+1+1+1+1) #[vI s0,vI s1,vI s2,vI s3,vI s4,vI s5] (by kernel_rfl) (by kernel_rfl) (H.q.fr f8 (by omega)) rfl (by kernel_rfl) (by simp[Value.oneCell']) ?_;intro w9 t119 f9;have t69:=t68.fr f9 (by omega);have t149:=t148.fr f9 (by omega);refine⟨⟨t69,t149⟩,?_⟩;have t109:=t108.fr f9 (by omega);refine aw rfl (by kernel_rfl) ?_;unfold Oper.wp;go_simp
   try refine⟨⟨t69,t149⟩,?_⟩
   refine aw rfl (by kernel_rfl) ?_;unfold Oper.wp;go_simp
   try refine⟨⟨t69,t149⟩,?_⟩
   have hP:ZY w (gj (ms.map (·.x)) R ⟨K,a,b,I,N⟩ fresh) (.returned (.tuple #[.agg #[.slice ma MZ.length mc,.slice none 0 0],.agg #[vI s0,vI s1,vI s2,vI s3,vI s4,vI s5],vI rv,vI 0])) w9:=by
    rw[hr.out];exact⟨_,MZ,by rw[show Ip [s0,s1,s2,s3,s4,s5]=.agg #[vI s0,vI s1,vI s2,vI s3,vI s4,vI s5] from rfl],rfl,bL.mono (T':=λb=>w.heap.size<=b) ((H.o.fr f8 (λb hb e=>by have e:b=w.heap.size+1+1+1:=e;have hb:W5.heap.size<=b:=hb;omega)).fr f9 (λb hb e=>by have e:b=w.heap.size+1+1+1+1:=e;have hb:W5.heap.size<=b:=hb;omega)) (λb _ hb=>by have hb:W5.heap.size<=b:=hb;show w.heap.size<=b;omega),(H.c.join f8 (λj hj e=>by omega)).join f9 (λj hj e=>by omega)⟩
   replace hP:=af hP;replace t109:=af t109;replace t119:=af t119;clear t69 t149 t68 t148 t108 f8 f9 t6 t14 H;simp only[bj];go_wp2;exact bodyPost_ret (La rfl rfl rfl rfl rfl t109.out t119.out) rfl hP.out
  replace hd:=abb hd.out;simp only at hd;have wB:=hD.m;have xa:W7.cell? ⟨w.heap.size+1,a,none⟩=some (vI (R.getD a 0)):=(hD.r a _ (cD R ha)).1;obtain⟨d0,d1,d2,d3,d4⟩:=ag.Eu u7;rcases hd with ⟨hk,hi,hn⟩|rfl|⟨hk,hi⟩|⟨rfl,hi⟩|⟨rfl,hi⟩|⟨rfl,hi⟩|rfl|rfl|rfl|rfl|rfl|rfl
  ·obtain⟨i,rfl,hi4⟩:∃i:Nat,I=i/\i<=4:=⟨I.toNat,by simp only[R5] at hi;omega⟩;obtain⟨n,rfl,hn4⟩:∃n:Nat,N=n/\n<=4:=⟨N.toNat,by simp only[R5] at hn;omega⟩;clear hi hn;have dw:=Ew (d:=⟨K,a,b,i,n⟩) hx.out (hk.elim .inl λe=>.inr (.inl e));obtain⟨FN,V7⟩:∃FN,FN=(K==2):=⟨_,rfl⟩
   rw[show xw ⟨K,a,b,i,n⟩ fresh (R.getD (b:Int).toNat 0)=⟨fresh,(i:Int),(n:Int),false,FN,List.replicate i 0,List.replicate n 0,false⟩ by unfold xw;rw[if_neg (by show ¬K=3;omega),V7];rfl] at dw
   replace dw:=af dw;have m0:=(wB 0 _ rfl).1;obtain⟨kA,oA⟩:=gL W7 [vI ((i:Nat):Int),vI ((n:Nat):Int),.bool false,.bool FN] 179;have hzA:W7.heap.size<(W7.alloc (.cells #[vI ((i:Nat):Int),vI ((n:Nat):Int),.bool false,.bool FN] 179)).heap.size:=oA.lt (by simp);obtain⟨W8,jn⟩:=au (W7.alloc (.cells #[vI ((i:Nat):Int),vI ((n:Nat):Int),.bool false,.bool FN] 179));rw[jn] at kA oA hzA;have fS:Calm W8 W8.drew:=aq.drew;have Ou:=kA.trans fS;have XZ:=oA.calm fS;have e3:=Ou.cellAt d3 id;have e4:=Ou.cellAt d4 id;have em:=Ou.cellAt m0 id;have Dx:∀b,aB (.slice a1 n1 lO) b->W5.heap.size<=b/\b<W7.heap.size:=λb hb=>⟨mg.v b (by rw[jM];exact hb),(World.ownsRow.lt mg.r b (by rw[jM];exact hb)).2⟩;have nA:¬aB (.slice a1 n1 lO) (W7.heap.size):=λe=>by have:=(Dx _ e).2;omega
   have nD:¬aB (.slice a1 n1 lO) (w.heap.size+1+1):=λe=>by have:=(Dx _ e).1;omega
   have aaK:n1<=1000:=by have:=congrArg List.length fF;simp at this;omega
   replace Dx:=af Dx;replace nA:=af nA;replace nD:=af nD;replace jn:=af jn;replace V7:=af V7;rcases hk with rfl|rfl
   all_goals
    go_upto_region 13 with fail
    have vq:=jn.out
    first|rw[show FN=false from V7.out] at vq|rw[show FN=true from V7.out] at vq
    rw[vq];clear vq;refine iG (Way.reads [0,1,2,3,4,5,7,8] (.any (.alt 6 (.step 9 (Way.reads [10] (.step 11 (.step 12 .fin)))) (.alt 9 (.step 6 (Way.reads [10] (.step 11 (.step 12 .fin)))) .stop)))) 13 (λw'=>w'.cell? ⟨w1.heap.size,0,none⟩=some (.slice a1 n1 lO)/\ag w' W7.heap.size [vI ((i:Nat):Int),vI ((n:Nat):Int),.bool false,.bool FN]/\w'.cell? ⟨w.heap.size+1+1,3,none⟩=some (vI (i:Int))/\w'.cell? ⟨w.heap.size+1+1,4,none⟩=some (vI (n:Int))) (by kernel_rfl) (by kernel_rfl) ⟨em,XZ,e3,e4⟩ ?_;refine ay (aR w1.heap.size) rfl rfl (λw' hw'=>?_) ai ?_
    ·simp[go_sem]
    refine ay (.slice a1 n1 lO) rfl rfl (λw' hw'=>?_) ai ?_
    ·have f1:=hw'.1;simp[go_sem,f1]
    refine ay (vI fresh) rfl rfl (λw' hw'=>?_) ai ?_
    ·simp[go_sem]
    refine ay (.agg #[vI ((i:Nat):Int),vI ((n:Nat):Int),.bool false,.bool FN]) rfl rfl (λw' hw'=>?_) ai ?_
    ·have o:=hw'.2.1;obtain⟨z0,z1,z2,z3⟩:=ag.sQ o;simp[go_sem,z0,z1,z2,z3]
    refine ay (.pointer (some ⟨w.heap.size+1+1,3,none⟩)) rfl rfl (λw' hw'=>?_) ai ?_
    ·simp[go_sem]
    refine ay (vI (i:Int)) rfl rfl (λw' hw'=>?_) ai ?_
    ·have f1:=hw'.2.2.1;simp[go_sem,f1]
    refine ay (.pointer (some ⟨w.heap.size+1+1,4,none⟩)) rfl rfl (λw' hw'=>?_) ai ?_
    ·simp[go_sem]
    refine ay (vI (n:Int)) rfl rfl (λw' hw'=>?_) ai ?_
    ·have f1:=hw'.2.2.2;simp[go_sem,f1]
    refine eX ?_;refine bC rfl rfl ?_ (bC rfl rfl ?_ dI)
    case' refine_2=>
     refine qs _ _ rfl n (by omega) (by kernel_rfl) (by kernel_rfl) ?_;intro w9 rn kx;refine⟨⟨kx.cellAt em id,XZ.calm kx,kx.cellAt e3 id,kx.cellAt e4 id⟩,?_⟩;refine aI rfl rfl ?_;refine qs _ _ rfl i (by omega) (by kernel_rfl) (by kernel_rfl) ?_;intro wA ri ky;have kz:=kx.trans ky;have k9:=(Ou.trans kx).size;have k8:=Ou.size;obtain⟨B2,CU⟩:=au W8.drew.heap.size;obtain⟨B1,AG⟩:=au w9.heap.size;rw[CU] at rn k8 ⊢;rw[AG] at ri k9 ⊢;replace rn:=rn.calm ky;replace CU:=af CU;replace AG:=af AG
    case' refine_1=>
     refine qs _ _ rfl i (by omega) (by kernel_rfl) (by kernel_rfl) ?_;intro w9 ri kx;refine⟨⟨kx.cellAt em id,XZ.calm kx,kx.cellAt e3 id,kx.cellAt e4 id⟩,?_⟩;refine aI rfl rfl ?_;refine qs _ _ rfl n (by omega) (by kernel_rfl) (by kernel_rfl) ?_;intro wA rn ky;have kz:=kx.trans ky;have k9:=(Ou.trans kx).size;have k8:=Ou.size;obtain⟨B1,AG⟩:=au W8.drew.heap.size;obtain⟨B2,CU⟩:=au w9.heap.size;rw[AG] at ri k8 ⊢;rw[CU] at rn k9 ⊢;replace ri:=ri.calm ky;replace AG:=af AG;replace CU:=af CU
    all_goals
     have kAA:=Ou.trans kz;have sA:wA.cell? ⟨w1.heap.size,0,none⟩=some (.slice a1 n1 lO)/\ag wA W7.heap.size [vI ((i:Nat):Int),vI ((n:Nat):Int),.bool false,.bool FN]/\wA.cell? ⟨w.heap.size+1+1,3,none⟩=some (vI (i:Int))/\wA.cell? ⟨w.heap.size+1+1,4,none⟩=some (vI (n:Int)):=⟨kz.cellAt em id,XZ.calm kz,kz.cellAt e3 id,kz.cellAt e4 id⟩;refine⟨sA,?_⟩;refine ay (.agg #[vI fresh,vI ((i:Nat):Int),vI ((n:Nat):Int),.bool false,.bool FN,.slice (some ⟨B1,0,none⟩) i i,.slice (some ⟨B2,0,none⟩) n n,.bool false]) rfl rfl (λw' hw'=>?_) ai ?_
     ·simp[go_sem]
     refine aI rfl rfl ?_;have kB:Calm wA (wA.alloc (.cells #[vI fresh,vI ((i:Nat):Int),vI ((n:Nat):Int),.bool false,.bool FN,.slice (some ⟨B1,0,none⟩) i i,.slice (some ⟨B2,0,none⟩) n n,.bool false] 240)):=aq.alloc _;have sB:=(⟨kB.cellAt sA.1 id,sA.2.1.calm kB,kB.cellAt sA.2.2.1 id,kB.cellAt sA.2.2.2 id⟩:World.cell? _ ⟨w1.heap.size,0,none⟩=some (.slice a1 n1 lO)/\ag _ W7.heap.size [vI ((i:Nat):Int),vI ((n:Nat):Int),.bool false,.bool FN]/\World.cell? _ ⟨w.heap.size+1+1,3,none⟩=some (vI (i:Int))/\World.cell? _ ⟨w.heap.size+1+1,4,none⟩=some (vI (n:Int)));unfold Oper.wp;go_simp
     first|refine⟨sB,?_⟩|skip
     obtain⟨m,hm⟩:=au ((⟨⟨fresh,(i:Int),(n:Int),false,FN,List.replicate i 0,List.replicate n 0,false⟩,.slice (some ⟨B1,0,none⟩) i i,.slice (some ⟨B2,0,none⟩) n n⟩:fW):fW);have H4:eF m=[vI fresh,vI ((i:Nat):Int),vI ((n:Nat):Int),.bool false,.bool FN,.slice (some ⟨B1,0,none⟩) i i,.slice (some ⟨B2,0,none⟩) n n,.bool false]:=by rw[<-hm];rfl
     replace hm:=af hm;have kt:=kAA.trans kB;have lJ:=az mg.r kt (λ_ _=>id);rw[jM] at lJ;refine aI rfl rfl ?_;refine Eq.mp (if_pos (show Region.wanted _ (yielded _ _)=true from rfl)) (gu (ops:=#[]) (E:=True) Nn rfl (.tmp 60) (.tmp 70) rfl (.slice a1 n1 lO) n1 _ lJ (by kernel_rfl) (eF m) (bX m) (by rw[H4];simp[Value.oneCell']) ⟨wA.heap.size,0,none⟩ 1 (by kernel_rfl) (λj u hj=>by rw[H4] at hj;rw[cT];simp only[fk];exact gW wA _ _ _ hj) (by omega) ?_);intro g c Ho Be f12 Jw;refine⟨⟨f12.cellAt sB.1 AK,sB.2.1.fr f12 nA.out,f12.cellAt sB.2.2.1 nD.out,f12.cellAt sB.2.2.2 nD.out⟩,?_⟩;refine cg ?_;have h2:=kB.size;have h4:=kAA.size;have h6:=kt.size;have h8:(wA.alloc (.cells #[vI fresh,vI ((i:Nat):Int),vI ((n:Nat):Int),.bool false,.bool FN,.slice (some ⟨B1,0,none⟩) i i,.slice (some ⟨B2,0,none⟩) n n,.bool false] 240)).heap.size=wA.heap.size+1:=by simp
     have WL:∀b,aB (.slice (some ⟨g,0,none⟩) (n1+1) c) b->W5.heap.size<=b/\b≠w1.heap.size:=λb hb=>by
      have e9:=aB.fg hb;rcases Jw with e|e
      ·exact⟨by rw[e9];exact(Dx.out _ e).1,λe3=>AK (by rw[<-e3,e9];exact e)⟩
      ·have h3:b=g:=e9;rw[e] at h3;constructor <;> omega
     have Jh:=vF.more (T:=λb=>W5.heap.size<=b/\b≠w1.heap.size) (lo:=W5.heap.size) (mg.fr (lo':=W5.heap.size) kt (λ_ _ e=>e) (aM _)) (m:=m) (v':=.slice (some ⟨g,0,none⟩) (n1+1) c) (by rw[jM];exact f12) (by rw[jM];exact Be) WL (λk hk b hb=>⟨(mg.l k hk b hb).1,λe=>by rcases hb with hb|hb;exact(rK.out k hk).1 (e ▸ hb);exact(rK.out k hk).2 (e ▸ hb)⟩) (by rw[<-hm.out];exact((ri.calm kB).iI f12 (λb hb e=>by have e9:=aB.fg hb;have:=(Dx.out _ e).2;omega)).ints (λb hb=>by have e9:=aB.fg hb;constructor <;> omega)) (by rw[<-hm.out];exact((rn.calm kB).iI f12 (λb hb e=>by have e9:=aB.fg hb;have:=(Dx.out _ e).2;omega)).ints (λb hb=>by have e9:=aB.fg hb;constructor <;> omega));have YF:=((u7.calm kt).fr f12 nD.out).fr ((Fr.refl (λk=>k=w1.heap.size) Ho).setCell (p:=⟨w1.heap.size,0,none⟩) (.inl rfl) (.slice (some ⟨g,0,none⟩) (n1+1) c)) (by omega);have hF:=(hD.calm kt).dN f12 (λb hb=>(Dx.out b hb).1) AK zl HM Jh;have TS:=(hD.m.calm kt).fr f12 AK;have z0:=(TS 0 _ rfl).1;have z00:=(TS 0 _ rfl).2;have NY:Hid ((jN++[m]).map (·.x)=ms.map (·.x)++[⟨fresh,(i:Int),(n:Int),false,FN,List.replicate i 0,List.replicate n 0,false⟩]):=by show _=_;rw[List.map_append,fF,<-hm.out];rfl
     clear Jh TS kt WL lJ H4 f12 Be Jw kAA ri rn sA sB kB h2 h4 h6 h8 k9 k8 kx ky kz;go_upto_region 14 with fail
     clear z0 z00 u7 d0 d1 d2 d3 d4 em e3 e4 oA XZ kA Ou fS m0;obtain⟨WY,hWY⟩:=au (Ho.setCell ⟨w1.heap.size,0,none⟩ (.slice (some ⟨g,0,none⟩) (n1+1) c));rw[hWY] at YF hF ⊢;obtain⟨d0,d1,d2,d3,d4⟩:=ag.Eu YF;have ya:=(hF.r a _ (cD R ha)).1;have yb:=(hF.r a _ (cD R ha)).2;have hE:=hF.set zl HM hR.out ha fresh;go_wp2_with fail
     go_meet;exact⟨_,_,by rw[dw.out],by rw[dw.out],by rw[dw.out];simp[hR.out],by rw[dw.out];exact NY.out,by rw[dw.out];exact hE⟩
  ·have dw:=af (Ew (d:=⟨3,a,b,I,N⟩) hx.out (.inr (.inr rfl)));have m0:=(wB 0 _ rfl).1;obtain⟨kA,oA⟩:=gL W7 [vI 1,vI 0,.bool true,.bool false] 179;have hzA:W7.heap.size<(W7.alloc (.cells #[vI 1,vI 0,.bool true,.bool false] 179)).heap.size:=oA.lt (by simp);go_upto_region 17 with fail
   obtain⟨W8,jn⟩:=au (W7.alloc (.cells #[vI 1,vI 0,.bool true,.bool false] 179));rw[jn] at kA oA hzA ⊢;clear jn;have Dx:∀b,aB (.slice a1 n1 lO) b->W5.heap.size<=b/\b<W7.heap.size:=λb hb=>⟨mg.v b (by rw[jM];exact hb),(World.ownsRow.lt mg.r b (by rw[jM];exact hb)).2⟩;have nD:¬aB (.slice a1 n1 lO) (w.heap.size+1+1):=λe=>by have:=(Dx _ e).1;omega
   have aaK:n1<=1000:=by have:=congrArg List.length fF;simp at this;omega
   replace Dx:=af Dx;replace nD:=af nD;obtain⟨W9,vq⟩:=au (W8.alloc (.cells #[vI rb] 3));have kI:Calm W8 W9:=by rw[<-vq];exact aq.alloc _
   have rI:bm W9 0 (.slice (some ⟨W8.heap.size,0,none⟩) 1 1) [rb]:=by rw[<-vq];exact bm.lit W8 0 [rb] (cK _) (by simp)
   obtain⟨m,hm⟩:=au ((⟨⟨fresh,1,0,true,false,[rb],[],false⟩,.slice (some ⟨W8.heap.size,0,none⟩) 1 1,.slice none 0 0⟩:fW):fW);have H4:eF m=[vI fresh,vI 1,vI 0,.bool true,.bool false,.slice (some ⟨W8.heap.size,0,none⟩) 1 1,.slice none 0 0,.bool false]:=by rw[<-hm];rfl
   obtain⟨zM,vK⟩:=au (W9.alloc (.cells #[vI fresh,vI 1,vI 0,.bool true,.bool false,.slice (some ⟨W8.heap.size,0,none⟩) 1 1,.slice none 0 0,.bool false] 240));have kO:Calm W9 zM:=by rw[<-vK];exact aq.alloc _
   have oO:ag zM W9.heap.size (eF m):=by rw[H4,<-vK];exact ag.new W9 [_,_,_,_,_,_,_,_] _
   have On:zM.heap.size=W9.heap.size+1:=by rw[<-vK];simp
   have kt:=kA.trans (kI.trans kO);have abq:W7.heap.size<=W8.heap.size:=kA.size;have abr:W8.heap.size<=W9.heap.size:=kI.size;have lJ:=az mg.r kt (λ_ _=>id);rw[jM] at lJ;have em:=kA.cellAt m0 id;obtain⟨sh0,sh1,sh2,sh3⟩:=ag.sQ oA;replace hm:=af hm;replace H4:=af H4;replace oO:=af oO;replace lJ:=af lJ;replace rI:=af rI;replace kt:=af kt;replace On:=af On
   go_upto_region 18 with (
    at_builtin
    go_must (refine gy Nn rfl _ _ rfl (.slice a1 n1 lO) n1 _ lJ.out (by kernel_rfl) (eF m) (bX m) (by rw[H4.out];simp[Value.oneCell']) ⟨W9.heap.size,0,none⟩ 1 (by kernel_rfl) (λj u hj=>by rw[cT];simp only[fk];exact(oO.out j u hj).1) (by omega) ?_)
    intro g c Ho Be f12 Jw;have TS:=(wB.calm kt.out).fr f12 AK;have z0:=(TS 0 _ rfl).1
    have z00:=(TS 0 _ rfl).2)
   replace kt:=kt.out;replace On:=On.out;have h6:=kt.size
   have WL:∀b,aB (.slice (some ⟨g,0,none⟩) (n1+1) c) b->W5.heap.size<=b/\b≠w1.heap.size:=λb hb=>by
    have e9:=aB.fg hb;rcases Jw with e|e
    ·exact⟨by rw[e9];exact(Dx.out _ e).1,λe3=>AK (by rw[<-e3,e9];exact e)⟩
    ·have h3:b=g:=e9;rw[e] at h3;constructor <;> omega
   have Jh:=vF.more (T:=λb=>W5.heap.size<=b/\b≠w1.heap.size) (lo:=W5.heap.size) (mg.fr (lo':=W5.heap.size) kt (λ_ _ e=>e) (aM _)) (m:=m) (v':=.slice (some ⟨g,0,none⟩) (n1+1) c) (by rw[jM];exact f12) (by rw[jM];exact Be) WL (λk hk b hb=>⟨(mg.l k hk b hb).1,λe=>by rcases hb with hb|hb;exact(rK.out k hk).1 (e ▸ hb);exact(rK.out k hk).2 (e ▸ hb)⟩) (by rw[<-hm.out];exact((rI.out.calm kO).iI f12 (λb hb e=>by have e9:=aB.fg hb;have:=(Dx.out _ e).2;omega)).ints (λb hb=>by have e9:=aB.fg hb;constructor <;> omega)) (by rw[<-hm.out];exact(bm.nil Ho 0).ints (λb hb=>(aB.nil b hb).elim));have YF:=((u7.calm kt).fr f12 nD.out).fr ((Fr.refl (λk=>k=w1.heap.size) Ho).setCell (p:=⟨w1.heap.size,0,none⟩) (.inl rfl) (.slice (some ⟨g,0,none⟩) (n1+1) c)) (by omega);have hF:=(hD.calm kt).dN f12 (λb hb=>(Dx.out b hb).1) AK zl HM Jh;have NY:Hid ((jN++[m]).map (·.x)=ms.map (·.x)++[xw ⟨3,a,b,I,N⟩ fresh (R.getD (b:Int).toNat 0)]):=by show _=_;rw[List.map_append,fF,<-hm.out,show R.getD (b:Int).toNat 0=rb from jl.out];rfl
   clear Jh TS kt WL lJ H4 f12 Be Jw rI kI kO oO vq vK sh0 sh1 sh2 sh3 h6;clear z0 z00 u7 d0 d1 d2 d3 d4 em oA kA m0;obtain⟨WY,hWY⟩:=au (Ho.setCell ⟨w1.heap.size,0,none⟩ (.slice (some ⟨g,0,none⟩) (n1+1) c));rw[hWY] at YF hF ⊢;obtain⟨d0,d1,d2,d3,d4⟩:=ag.Eu YF;have ya:=(hF.r a _ (cD R ha)).1;have yb:=(hF.r a _ (cD R ha)).2;have hE:=hF.set zl HM hR.out ha fresh;go_wp2_with fail
   go_meet;exact⟨_,_,by rw[dw.out],by rw[dw.out],by rw[dw.out];simp[hR.out],by rw[dw.out];exact NY.out,by rw[dw.out];exact hE⟩
  ·obtain⟨i,rfl,hi7⟩:∃i:Nat,I=i/\i<=7:=⟨I.toNat,by simp only[R8] at hi;omega⟩
   have h0:cZ (ms.map (·.x)) rb K (i:Int) fresh=0:=by
    have h9:=VU (d:=⟨K,a,b,i,N⟩) hx.out (hk);rw[<-jl.out];exact h9
   obtain⟨j,hj,ll,vM⟩:=pU h0 (by omega);rw[<-fF] at ll;rw[List.length_map] at ll;have ex:(ms.map (·.x)).getD j jB=(jN.getD j bV).x:=by rw[<-fF];exact ss (·.x) jN bV j
   rw[ex] at vM;have qw:j<n1:=by omega
   have Y9:decide ((j:Int)<0)=false:=decide_eq_false (by omega);have dw:=af (M5 (d:=⟨K,a,b,i,N⟩) hx.out hk (by rw[<-hj,<-jl.out];rfl) ex);rw[<-fF] at hj;clear ex h0;have vM:=vM (by omega);rw[if_neg (by omega)] at vM;have sw:i<(jN.getD j bV).x.ps.length:=by omega
   replace hj:=af hj;obtain⟨g1,Uh,yT,pz⟩:=bz (ety:=240) (k:=8) bX (by decide) mg.r bV ll;injection yT with e1 e2 e3
   subst e1;subst e3;clear e2;obtain⟨m,hm⟩:=au (jN.getD j bV);obtain⟨gp,cp,pD,_,uw⟩:=(mg.p j ll).get sw;rw[hm] at pz pD uw sw;have q5:W7.cell? ⟨g1,j*8+5,none⟩=some (.slice (some ⟨gp,0,none⟩) m.x.ps.length cp):=by rw[<-pD];exact(pz 5 _ rfl).1
   obtain⟨L,hL⟩:=au m.x.ps.length;rw[hL] at q5 sw pD;obtain⟨val,hval⟩:=au (m.x.ps.getD i 0);rw[hval] at uw;have q9:=uw.1;have ZL:=uw.2;have Sb:decide ((i:Int)<0)=false:=decide_eq_false (by omega)
   rw[hm] at dw;have dw:Hid (gj (ms.map (·.x)) R ⟨K,a,b,i,N⟩ fresh=(ms.map (·.x),R.set a val,val,0)):=by show _=_;have h9:=dw.out;rw[<-hval];exact h9
   have yI:aB m.pv gp:=by rw[pD];exact aB.mk.2 rfl
   have op:=af (λW (c:Calm W7 W)=>dZ (mg.ins.calm c) (by have:=fF;have:=congrArg List.length fF;simp at this;omega) rb);rw[jM,hj.out] at op;replace hm:=af hm;have m0:=(wB 0 _ rfl).1;rcases hk with rfl|rfl
   all_goals
    go_upto_region 21 with fail
    have pH:Calm W7 W7.drew:=aq.drew;refine bK [(true,0),(true,1),(true,2),(true,3),(true,4),(true,9),(true,10),(false,5),(true,6),(true,7),(true,8),(true,11),(true,12),(false,13)] (λw'=>w'.cell? ⟨w1.heap.size,0,none⟩=some (.slice (some ⟨g1,0,none⟩) n1 lO)/\w'.cell? ⟨g1,j*8+5,none⟩=some (.slice (some ⟨gp,0,none⟩) L cp)/\w'.cell? ⟨w.heap.size+1+1,3,none⟩=some (vI (i:Int))/\w'.cell? ⟨gp,i,none⟩=some (vI val)) (by kernel_rfl) (by kernel_rfl) ⟨pH.cellAt m0 id,pH.cellAt q5 id,pH.cellAt d3 id,pH.cellAt q9 id⟩ ?_;refine ao (aR w1.heap.size) rfl rfl (λw' hw'=>?_) ai ?_
    ·simp[go_sem]
    refine ao (.slice (some ⟨g1,0,none⟩) n1 lO) rfl rfl (λw' hw'=>?_) ai ?_
    ·simp[go_sem,hw'.1]
    refine ao (aR w1.heap.size) rfl rfl (λw' hw'=>?_) ai ?_
    ·simp[go_sem]
    refine ao (.slice (some ⟨g1,0,none⟩) n1 lO) rfl rfl (λw' hw'=>?_) ai ?_
    ·simp[go_sem,hw'.1]
    refine ao (vI rb) rfl rfl (λw' hw'=>?_) ai ?_
    ·simp[go_sem]
    refine ao (.pointer (some ⟨w.heap.size+1+1,3,none⟩)) rfl rfl (λw' hw'=>?_) ai ?_
    ·simp[go_sem]
    refine ao (vI (i:Int)) rfl rfl (λw' hw'=>?_) ai ?_
    ·simp[go_sem,hw'.2.2.1]
    refine bg rfl rfl ?_;have o8:=op.out _ pH;go_wp2_with fail
    refine o8.mono ?_;rintro en w8 ⟨rfl,k8⟩;have fS:=pH.trans k8;refine⟨⟨fS.cellAt m0 id,fS.cellAt q5 id,fS.cellAt d3 id,fS.cellAt q9 id⟩,?_⟩;clear o8;refine ao (.pointer (some ⟨g1,j*8,none⟩)) rfl rfl (λw' hw'=>?_) ai ?_
    ·simp[go_sem,qw]
    refine ao (.pointer (some ⟨g1,j*8+5,none⟩)) rfl rfl (λw' hw'=>?_) ai ?_
    ·simp[go_sem]
    refine ao (.slice (some ⟨gp,0,none⟩) L cp) rfl rfl (λw' hw'=>?_) ai ?_
    ·simp[go_sem,hw'.2.1]
    refine ao (.pointer (some ⟨gp,i,none⟩)) rfl rfl (λw' hw'=>?_) ai ?_
    ·simp[go_sem,sw]
    refine ao (vI val) rfl rfl (λw' hw'=>?_) ai ?_
    ·simp[go_sem,hw'.2.2.2]
    refine bg rfl rfl ?_;unfold Oper.wp;go_simp
    try refine⟨⟨fS.cellAt m0 id,fS.cellAt q5 id,fS.cellAt d3 id,fS.cellAt q9 id⟩,?_⟩
    refine fp ?_;have hF:=hD.calm fS;have e0:=fS.cellAt d0 id;have e1:=fS.cellAt d1 id;clear d0 d1 d2 d3 d4;have ya:=(hF.r a _ (cD R ha)).1;have yb:=(hF.r a _ (cD R ha)).2;have hE:=hF.set zl HM hR.out ha (val);go_wp2_with fail
    go_meet;exact⟨_,jN,by rw[dw.out],by rw[dw.out],by rw[dw.out];simp[hR.out],by rw[dw.out];exact fF,by rw[dw.out];exact hE⟩
  ·have:=hK.out;have:=hx.out;omega
  ·have:=hK.out;have:=hx.out;omega
  ·have:=hK.out;have:=hx.out;omega
  ·have:=hK.out;have:=hx.out;omega
  ·have:=hK.out;have:=hx.out;omega
  ·have:=hK.out;have:=hx.out;omega
  ·have:=hK.out;have:=hx.out;omega
  ·have:=hK.out;have:=hx.out;omega
  ·have:=hK.out;have:=hx.out;omega
 ·exact absurd (hx.symm.trans hK.out.2) gK
theorem VJb{T:Nat->Prop}{w:aj}{v:aC}{ms:List fW}(h:bL T w v ms)(hl:ms.length<=1000)(qa:Option Addr)(qc:Nat)(hs:∀m∈ms,m.x.ps.length<=100000/\m.x.ns.length<=100000)(fresh seen:Int){R:List Int}(hR:R.length=6){d:Dd}(hd:d.Rt)(hK:¬((d.k<=4\/d.k=9)/\CS (ms.map (·.x)) R d fresh=0)) :
 aL prog 85 #[.agg #[v,.slice qa 0 qc],Ip R,e_ d,vI fresh,vI seen] w (ZY w (gj (ms.map (·.x)) R d fresh)):=by
 obtain⟨K,A,B,I,N⟩:=d;simp only at hK;replace hK:=af hK;obtain⟨a,rfl,ha⟩:∃a:Nat,A=a/\a<6:=⟨A.toNat,by simp[Dd.Rt,R6,R5,R8,RM] at hd;omega⟩;obtain⟨b,rfl,hb⟩:∃b:Nat,B=b/\b<6:=⟨B.toNat,by simp[Dd.Rt,R6,R5,R8,RM] at hd;omega⟩;obtain⟨r0,r1,r2,r3,r4,r5,yz⟩:=oV hR;have Nv:iy R=[vI r0,vI r1,vI r2,vI r3,vI r4,vI r5]:=by rw[yz];rfl
 have Wj:Ip R=.agg #[vI r0,vI r1,vI r2,vI r3,vI r4,vI r5]:=by rw[yz];rfl
 obtain⟨W1,e1,k1,o5,s1⟩:=dy w [v,.slice qa 0 qc] 92;obtain⟨W2,e2,k2,o6,s2⟩:=dy W1 (iy R) 29;obtain⟨W3,e3,k3,o7,s3⟩:=dy W2 (eZ ⟨K,a,b,I,N⟩) 52;obtain⟨W4,e4,k4,Qz,s4⟩:=dy W3 [.slice none 0 0,.slice none 0 0] 92;obtain⟨W5,e5,k5,UP,s5⟩:=dy W4 [vI 0,vI 0,vI 0,vI 0,vI 0,vI 0] 29;have c4:=k4.trans k5;have c3:=k3.trans c4;have c2:=k2.trans c3;have c1:=k1.trans c2;have p5:=o5.calm c2;have p6:=o6.calm c3;have p7:=o7.calm c4;have p10:=Qz.calm k5;have ZE:=UP;rw[s1] at p6;rw[s2,s1] at p7;rw[s3,s2,s1] at p10;rw[s4,s3,s2,s1] at ZE;have z5:W5.heap.size=w.heap.size+1+1+1+1+1:=by omega
 have oo:=af (λW (c:Calm w W)=>BL (h.calm c) (by omega) qa qc hs);have of:=af (λW (c:Calm w W)=>I3 (qv:=.slice qa 0 qc) (h.calm c) (by omega) fresh hd hR);have or:=af (λW=>qo W _ hd);obtain⟨va,vc,vW,-⟩:=h;obtain⟨nm,N1⟩:=au ms.length;rw[N1] at vW;subst vW;have mW:((((w.alloc (.cells #[.slice va nm vc,.slice qa 0 qc] 92)).alloc (.cells (iy R).toArray 29)).alloc (.cells (eZ ⟨K,a,b,I,N⟩).toArray 52)).alloc (.cells #[.slice none 0 0,.slice none 0 0] 92)).alloc (.cells #[vI 0,vI 0,vI 0,vI 0,vI 0,vI 0] 29)=W5:=by rw[<-e5,<-e4,<-e3,<-e2,<-e1]
 clear e1 e2 e3 e4 e5 o5 o6 o7 Qz UP k1 k2 k3 k4 k5 c2 c3 c4 s1 s2 s3 s4 s5;rw[Nv] at mW;rw[Wj];have Wi:=af Nv;rw[Nv] at p6;replace Nv:=Wi;clear Wi;replace yz:=af yz;replace hR:=af hR;replace hd:=af hd;simp only[eZ] at mW p7;simp only[e_];simp only[e_] at of or;rw[Wj] at of;replace Wj:=af Wj;obtain⟨y5,y51⟩:=ag.lF p5;go_in;go_wp2_with fail
 have o1:=oo.out W5 c1;refine o1.mono ?_;rintro e w1 ⟨v1,jN,rfl,fF,Cr,q1⟩;clear o1 mW y5 y51;obtain⟨a1,lO,rfl⟩:=aG Cr.r;obtain⟨n1,jM⟩:=au jN.length;rw[jM];obtain⟨q2,oC⟩:=gL w1 [.slice a1 n1 lO,.slice none 0 0] 92;go_upto_region 2 with fail
 obtain⟨W6,lQ⟩:=au (w1.alloc (.cells #[.slice a1 n1 lO,.slice none 0 0] 92));rw[lQ] at oC q2 ⊢;clear lQ;have q_:=q1.trans q2;have y7:=p7.calm q_;obtain⟨y0,y1,y2,y3,y4⟩:=ag.Eu y7;have o2:=or.out W6;go_wp2_with fail
 refine o2.mono ?_;rintro e w2 ⟨rfl,q3⟩;clear o2 y7 y0 y1 y2 y3 y4;have Mu:=q_.trans q3;have r5:=p5.calm Mu;have r6:=p6.calm Mu;have r7:=p7.calm Mu;have QG:=oC.calm q3;obtain⟨y5,y51⟩:=ag.lF r5;obtain⟨x0,x1,x2,x3,x4,x5⟩:=ag.t_ r6;obtain⟨d0,d1,d2,d3,d4⟩:=ag.Eu r7;have o3:=of.out w2 (c1.trans Mu);go_wp2_with fail
 refine o3.mono ?_;rintro e w3 ⟨rfl,q4⟩;clear o3 y5 y51 x0 x1 x2 x3 x4 x5 d0 d1 d2 d3 d4 r5 r6 r7;have US:=Mu.trans q4;have cw:=c1.trans US;have r6:=p6.calm US;have r7:=p7.calm US;have Mv:=p10.calm US;have Mw:=ZE.calm US;have QG:=QG.calm q4;have We:=Cr.fr (lo':=W5.heap.size) ((q2.trans q3).trans q4) (λ_ _ e=>e) (aM _);have HM:W5.heap.size<=w1.heap.size:=q1.size;have AK:¬aB (.slice a1 n1 lO) w1.heap.size:=λe=>by have:=(World.ownsRow.lt Cr.r w1.heap.size (by rw[jM];exact e)).2;omega
 have rK:∀j,j<jN.length->¬aB (jN.getD j bV).pv w1.heap.size/\¬aB (jN.getD j bV).nv w1.heap.size:=λj hj=>⟨λe=>by have:=(World.ownsRow.lt (Cr.p j hj) _ e).2;omega,λe=>by have:=(World.ownsRow.lt (Cr.n j hj) _ e).2;omega⟩;have abp:w1.heap.size<w3.heap.size:=QG.lt (by simp);replace rK:=af rK;clear p5 p6 p7 p10 ZE oC Cr q1 q2 q3 q4 q_ Mu US c1 oo of or;obtain⟨x,hx⟩:=au (CS (ms.map (·.x)) R ⟨K,a,b,I,N⟩ fresh);rw[hx]
 by_cases gK:x=0
 ·replace hx:=af hx;have ex0:(x==0)=true:=by simp[gK]
  subst gK;have xa:w3.cell? ⟨w.heap.size+1,a,none⟩=some (vI (R.getD a 0)):=by have o:=r6;rw[<-Nv.out] at o;exact(o a _ (cD R ha)).1
  obtain⟨ra,lU⟩:=au (R.getD a 0);rw[lU] at xa;have xb:w3.cell? ⟨w.heap.size+1,b,none⟩=some (vI (R.getD b 0)):=by have o:=r6;rw[<-Nv.out] at o;exact(o b _ (cD R hb)).1
  obtain⟨rb,jl⟩:=au (R.getD b 0);rw[jl] at xb;have a0:(0:Int)<=(a:Int):=by omega
  have a6:(a:Int)<6:=by omega
  have b0:(0:Int)<=(b:Int):=by omega
  have b6:(b:Int)<6:=by omega
  obtain⟨d0,d1,d2,d3,d4⟩:=ag.Eu r7;obtain⟨x0,x1,x2,x3,x4,x5⟩:=ag.t_ r6;replace lU:=af lU;replace jl:=af jl;go_wp2_with fail
  go_quiet (fail)
  clear d0 d1 d2 d3 d4 x0 x1 x2 x3 x4 x5 xa xb;have kq:Calm w3 (w3.drewN nq):=aq.drewN nq;have u7:=r7.calm kq;have mg:=We.fr (lo':=W5.heap.size) kq (λ_ _ e=>e) (aM _);have aak:w1.heap.size<(w3.drewN nq).heap.size:=(QG.calm kq).lt (by simp);have hD:xU w w1.heap.size W5.heap.size (.slice a1 n1 lO) jN R (w3.drewN nq):=xU.calm ⟨by rw[Nv.out];exact r6,Mv,Mw,QG,cw,by rw[<-jM];exact We.ins⟩ kq;clear r6 r7 Mv Mw QG We cw kq;generalize w3.drewN nq=W7 at *;have zl:w.heap.size+1+1+1+1<W5.heap.size:=by omega
  go_upto_region 8 with fail
  iterate 8 (first|go_step|go_guarded|go_values|go_upon|go_simp)
  go_cut [18] from 20 (λs w'=>DoJ w w1.heap.size W5.heap.size (gj (ms.map (·.x)) R ⟨K,a,b,I,N⟩ fresh) s w')
  case rest=>
   clear mg hD u7 ex0 aak;obtain⟨md,MZ,es,e0,el,em,H⟩:=hcut;obtain⟨⟨rm,rr,rv,re⟩,hr⟩:∃r,gj (ms.map (·.x)) R ⟨K,a,b,I,N⟩ fresh=r:=⟨_,rfl⟩;rw[hr] at es e0 el em H;simp only at es e0 el em H;replace hr:=af hr;subst es e0 em;obtain⟨ma,mc,hmd,-⟩:=H.o;subst hmd;obtain⟨s0,s1,s2,s3,s4,s5,rfl⟩:=oV el;go_upto_region 43 with fail
   replace H:=H.calm (aq.drew);have t6:ag _ _ [vI s0,vI s1,vI s2,vI s3,vI s4,vI s5]:=H.r;have t14:=H.m;refine bQ [0,1,2] [3,4,5,6] (λw'=>ag w' (w.heap.size+1) [vI s0,vI s1,vI s2,vI s3,vI s4,vI s5]/\ag w' w1.heap.size [.slice ma MZ.length mc,.slice none 0 0]) (by kernel_rfl) (by kernel_rfl) ⟨t6,t14⟩ ?_;refine ah (.agg #[.slice ma MZ.length mc,.slice none 0 0]) rfl rfl (λw' hw'=>?_) ai ?_
   ·have o:=hw'.2;obtain⟨z0,z1⟩:=ag.lF o;simp[go_sem,z0,z1]
   refine ah (.agg #[vI s0,vI s1,vI s2,vI s3,vI s4,vI s5]) rfl rfl (λw' hw'=>?_) ai ?_
   ·have o:=hw'.1;obtain⟨z0,z1,z2,z3,z4,z5⟩:=ag.t_ o;simp[go_sem,z0,z1,z2,z3,z4,z5]
   refine ah (vI rv) rfl rfl (λw' hw'=>?_) ai ?_
   ·simp[go_sem]
   simp only[aU];refine aw rfl (by kernel_rfl) ?_;refine aN _ _ _ rfl (w.heap.size+1+1+1) #[.slice ma MZ.length mc,.slice none 0 0] (by kernel_rfl) (by kernel_rfl) H.p rfl (by kernel_rfl) (by simp[Value.oneCell']) ?_;intro w8 t108 f8;have t68:=t6.fr f8 (by omega);have t148:=t14.fr f8 (by omega);refine⟨⟨t68,t148⟩,?_⟩;refine aw rfl (by kernel_rfl) ?_;refine aN _ _ _ rfl (w.heap.size+1+1+1+1) #[vI s0,vI s1,vI s2,vI s3,vI s4,vI s5] (by kernel_rfl) (by kernel_rfl) (H.q.fr f8 (by omega)) rfl (by kernel_rfl) (by simp[Value.oneCell']) ?_;intro w9 t119 f9;have t69:=t68.fr f9 (by omega);have t149:=t148.fr f9 (by omega);refine⟨⟨t69,t149⟩,?_⟩;have t109:=t108.fr f9 (by omega);refine aw rfl (by kernel_rfl) ?_;unfold Oper.wp;go_simp
   try refine⟨⟨t69,t149⟩,?_⟩
   refine aw rfl (by kernel_rfl) ?_;unfold Oper.wp;go_simp
   try refine⟨⟨t69,t149⟩,?_⟩
   have hP:ZY w (gj (ms.map (·.x)) R ⟨K,a,b,I,N⟩ fresh) (.returned (.tuple #[.agg #[.slice ma MZ.length mc,.slice none 0 0],.agg #[vI s0,vI s1,vI s2,vI s3,vI s4,vI s5],vI rv,vI 0])) w9:=by
    rw[hr.out];exact⟨_,MZ,by rw[show Ip [s0,s1,s2,s3,s4,s5]=.agg #[vI s0,vI s1,vI s2,vI s3,vI s4,vI s5] from rfl],rfl,bL.mono (T':=λb=>w.heap.size<=b) ((H.o.fr f8 (λb hb e=>by have e:b=w.heap.size+1+1+1:=e;have hb:W5.heap.size<=b:=hb;omega)).fr f9 (λb hb e=>by have e:b=w.heap.size+1+1+1+1:=e;have hb:W5.heap.size<=b:=hb;omega)) (λb _ hb=>by have hb:W5.heap.size<=b:=hb;show w.heap.size<=b;omega),(H.c.join f8 (λj hj e=>by omega)).join f9 (λj hj e=>by omega)⟩
   replace hP:=af hP;replace t109:=af t109;replace t119:=af t119;clear t69 t149 t68 t148 t108 f8 f9 t6 t14 H;simp only[bj];go_wp2;exact bodyPost_ret (La rfl rfl rfl rfl rfl t109.out t119.out) rfl hP.out
  replace hd:=abb hd.out;simp only at hd;have wB:=hD.m;have xa:W7.cell? ⟨w.heap.size+1,a,none⟩=some (vI (R.getD a 0)):=(hD.r a _ (cD R ha)).1;obtain⟨d0,d1,d2,d3,d4⟩:=ag.Eu u7;rcases hd with ⟨hk,hi,hn⟩|rfl|⟨hk,hi⟩|⟨rfl,hi⟩|⟨rfl,hi⟩|⟨rfl,hi⟩|rfl|rfl|rfl|rfl|rfl|rfl
  ·have:=hK.out;have:=hx.out;omega
  ·have:=hK.out;have:=hx.out;omega
  ·have:=hK.out;have:=hx.out;omega
  ·obtain⟨i,rfl,hi7⟩:∃i:Nat,I=i/\i<=7:=⟨I.toNat,by simp only[R8] at hi;omega⟩
   have h0:cZ (ms.map (·.x)) ra 5 (i:Int) fresh=0:=by
    have h9:=EB (d:=⟨5,a,b,i,N⟩) hx.out (.inl rfl);rw[<-lU.out];exact h9
   obtain⟨j,hj,ll,vM⟩:=pU h0 (by decide);rw[<-fF] at ll;rw[List.length_map] at ll;have ex:(ms.map (·.x)).getD j jB=(jN.getD j bV).x:=by rw[<-fF];exact ss (·.x) jN bV j
   rw[ex] at vM;have qw:j<n1:=by omega
   have Y9:decide ((j:Int)<0)=false:=decide_eq_false (by omega);have dw:=af (yl (d:=⟨5,a,b,i,N⟩) hx.out (.inl rfl) (by rw[<-hj,<-lU.out];rfl) ex);rw[<-fF] at hj;clear ex h0;have vM:=vM (by decide);rw[if_neg (by decide)] at vM;have sw:i<(jN.getD j bV).x.ps.length:=by omega
   replace hj:=af hj;obtain⟨g1,Uh,yT,pz⟩:=bz (ety:=240) (k:=8) bX (by decide) mg.r bV ll;injection yT with e1 e2 e3
   subst e1;subst e3;clear e2;obtain⟨m,hm⟩:=au (jN.getD j bV);obtain⟨gp,cp,pD,_,uw⟩:=(mg.p j ll).get sw;rw[hm] at pz pD uw sw;have q5:W7.cell? ⟨g1,j*8+5,none⟩=some (.slice (some ⟨gp,0,none⟩) m.x.ps.length cp):=by rw[<-pD];exact(pz 5 _ rfl).1
   obtain⟨L,hL⟩:=au m.x.ps.length;rw[hL] at q5 sw pD;obtain⟨val,hval⟩:=au (m.x.ps.getD i 0);rw[hval] at uw;have q9:=uw.1;have ZL:=uw.2;have Sb:decide ((i:Int)<0)=false:=decide_eq_false (by omega)
   rw[hm] at dw;have yI:aB m.pv gp:=by rw[pD];exact aB.mk.2 rfl
   have op:=af (λW (c:Calm W7 W)=>dZ (mg.ins.calm c) (by have:=fF;have:=congrArg List.length fF;simp at this;omega) ra);rw[jM,hj.out] at op;replace hm:=af hm;have m0:=(wB 0 _ rfl).1;go_upto_region 24 with fail
   have pH:Calm W7 W7.drew:=aq.drew;refine bK [(true,0),(true,1),(true,2),(true,3),(true,4),(true,9),(true,10),(true,11),(false,5),(true,6),(true,7),(true,8),(true,12),(false,13)] (λw'=>w'.cell? ⟨w1.heap.size,0,none⟩=some (.slice (some ⟨g1,0,none⟩) n1 lO)/\w'.cell? ⟨g1,j*8+5,none⟩=some (.slice (some ⟨gp,0,none⟩) L cp)/\w'.cell? ⟨w.heap.size+1+1,3,none⟩=some (vI (i:Int))) (by kernel_rfl) (by kernel_rfl) ⟨pH.cellAt m0 id,pH.cellAt q5 id,pH.cellAt d3 id⟩ ?_;refine ao (aR w1.heap.size) rfl rfl (λw' hw'=>?_) ai ?_
   ·simp[go_sem]
   refine ao (.slice (some ⟨g1,0,none⟩) n1 lO) rfl rfl (λw' hw'=>?_) ai ?_
   ·simp[go_sem,hw'.1]
   refine ao (aR w1.heap.size) rfl rfl (λw' hw'=>?_) ai ?_
   ·simp[go_sem]
   refine ao (.slice (some ⟨g1,0,none⟩) n1 lO) rfl rfl (λw' hw'=>?_) ai ?_
   ·simp[go_sem,hw'.1]
   refine ao (vI ra) rfl rfl (λw' hw'=>?_) ai ?_
   ·simp[go_sem]
   refine ao (.pointer (some ⟨w.heap.size+1+1,3,none⟩)) rfl rfl (λw' hw'=>?_) ai ?_
   ·simp[go_sem]
   refine ao (vI (i:Int)) rfl rfl (λw' hw'=>?_) ai ?_
   ·simp[go_sem,hw'.2.2]
   refine ao (vI rb) rfl rfl (λw' hw'=>?_) ai ?_
   ·simp[go_sem]
   refine bg rfl rfl ?_;have o8:=op.out _ pH;go_wp2_with fail
   refine o8.mono ?_;rintro en w8 ⟨rfl,k8⟩;have fS:=pH.trans k8;refine⟨⟨fS.cellAt m0 id,fS.cellAt q5 id,fS.cellAt d3 id⟩,?_⟩;clear o8;refine ao (.pointer (some ⟨g1,j*8,none⟩)) rfl rfl (λw' hw'=>?_) ai ?_
   ·simp[go_sem,qw]
   refine ao (.pointer (some ⟨g1,j*8+5,none⟩)) rfl rfl (λw' hw'=>?_) ai ?_
   ·simp[go_sem]
   refine ao (.slice (some ⟨gp,0,none⟩) L cp) rfl rfl (λw' hw'=>?_) ai ?_
   ·simp[go_sem,hw'.2.1]
   refine ao (.pointer (some ⟨gp,i,none⟩)) rfl rfl (λw' hw'=>?_) ai ?_
   ·simp[go_sem,sw]
   have Ju:=mg.l j ll gp (by rw[hm.out];exact .inl yI);have H0:W5.heap.size<=gp:=Ju.1;have ngg:gp≠g1:=λe=>Ju.2 (by rw[e];exact aB.mk.2 rfl);have XT:gp≠w1.heap.size:=λe=>(rK.out j ll).1 (by rw[hm.out,<-e];exact yI);have z9:=fS.cellAt q9 id;have F9:Fr (λk=>k=gp) w8 (w8.setCell ⟨gp,i,none⟩ (vI rb)):=(Fr.refl (λk=>k=gp) w8).setCell (p:=⟨gp,i,none⟩) (.inl rfl) _;have z90:=(uw.calm fS).2;refine bg rfl rfl ?_;unfold Oper.wp;go_simp;refine⟨⟨by first|exact fS.cellAt m0 id|exact F9.cellAt (fS.cellAt m0 id) (by show ¬(_=gp);omega),by first|exact fS.cellAt q5 id|exact F9.cellAt (fS.cellAt q5 id) (by show ¬(_=gp);omega),by first|exact fS.cellAt d3 id|exact F9.cellAt (fS.cellAt d3 id) (by show ¬(_=gp);omega)⟩,?_⟩;refine fp ?_;obtain⟨W8,jn⟩:=au (w8.setCell ⟨gp,i,none⟩ (vI rb));rw[jn] at F9 ⊢;have oy:=mg.fr (lo':=W5.heap.size) fS (λ_ _ e=>e) (aM _);have dR:=(show bm _ 0 (.slice (some ⟨gp,0,none⟩) L cp) m.x.ps by have h9:=oy.p j ll;rw[hm.out,pD] at h9;exact h9).set (k:=i) (by omega) rb;rw[jn] at dR;rw[<-pD] at dR;have Mb:=oy.dN (x':={ m.x with ps:=m.x.ps.set i rb }) ll (.inl (by rw[hm.out];exact yI)) F9 (by rw[hm.out];rfl) (by rw[hm.out];exact dR) (by rw[hm.out];have h9:=oy.n j ll;rw[hm.out] at h9;exact h9.iI F9 (λb hb e=>oy.d j ll b (by rw[hm.out];exact hb) (by rw[hm.out,e];exact yI)));rw[hm.out] at Mb;have NY:Hid ((jN.set j ⟨{ m.x with ps:=m.x.ps.set i rb },m.pv,m.nv⟩).map (·.x)=(ms.map (·.x)).set j (Fe ⟨5,a,b,i,N⟩ (R.getD (b:Int).toNat 0) m.x)):=by show _=_;rw[List.map_set,fF,show R.getD (b:Int).toNat 0=rb from jl.out];rfl
   rw[jM] at Mb;have hE:=(hD.calm fS).chg F9 H0 XT zl Mb;go_wp2_with fail
   go_meet;exact⟨_,_,by rw[dw.out],by rw[dw.out],by rw[dw.out];exact hR.out,by rw[dw.out];exact NY.out,by rw[dw.out];exact hE⟩
  ·obtain⟨i,rfl,hi7⟩:∃i:Nat,I=i/\i<=7:=⟨I.toNat,by simp only[R8] at hi;omega⟩
   have h0:cZ (ms.map (·.x)) ra 6 (i:Int) fresh=0:=by
    have h9:=EB (d:=⟨6,a,b,i,N⟩) hx.out (.inr (.inl rfl));rw[<-lU.out];exact h9
   obtain⟨j,hj,ll,vM⟩:=pU h0 (by decide);rw[<-fF] at ll;rw[List.length_map] at ll;have ex:(ms.map (·.x)).getD j jB=(jN.getD j bV).x:=by rw[<-fF];exact ss (·.x) jN bV j
   rw[ex] at vM;have qw:j<n1:=by omega
   have Y9:decide ((j:Int)<0)=false:=decide_eq_false (by omega);have dw:=af (IZ (d:=⟨6,a,b,i,N⟩) hx.out rfl (by rw[<-hj,<-lU.out];rfl) ex);rw[<-fF] at hj;clear ex h0;have vM:=vM (by decide);rw[if_pos (by decide)] at vM;have sw:i<(jN.getD j bV).x.ns.length:=by omega
   replace hj:=af hj;obtain⟨g1,Uh,yT,pz⟩:=bz (ety:=240) (k:=8) bX (by decide) mg.r bV ll;injection yT with e1 e2 e3
   subst e1;subst e3;clear e2;obtain⟨m,hm⟩:=au (jN.getD j bV);obtain⟨gp,cp,pD,_,uw⟩:=(mg.n j ll).get sw;rw[hm] at pz pD uw sw;have q5:W7.cell? ⟨g1,j*8+6,none⟩=some (.slice (some ⟨gp,0,none⟩) m.x.ns.length cp):=by rw[<-pD];exact(pz 6 _ rfl).1
   obtain⟨L,hL⟩:=au m.x.ns.length;rw[hL] at q5 sw pD;obtain⟨val,hval⟩:=au (m.x.ns.getD i 0);rw[hval] at uw;have q9:=uw.1;have ZL:=uw.2;have Sb:decide ((i:Int)<0)=false:=decide_eq_false (by omega)
   rw[hm] at dw;have dw:Hid (gj (ms.map (·.x)) R ⟨6,a,b,i,N⟩ fresh=(ms.map (·.x),R,val,0)):=by show _=_;have h9:=dw.out;rw[<-hval];exact h9
   have yI:aB m.nv gp:=by rw[pD];exact aB.mk.2 rfl
   have op:=af (λW (c:Calm W7 W)=>dZ (mg.ins.calm c) (by have:=fF;have:=congrArg List.length fF;simp at this;omega) ra);rw[jM,hj.out] at op;replace hm:=af hm;have m0:=(wB 0 _ rfl).1;go_upto_region 26 with fail
   have pH:Calm W7 W7.drew:=aq.drew;refine bK [(true,0),(true,1),(true,2),(true,3),(true,4),(true,9),(true,10),(false,5),(true,6),(true,7),(true,8),(true,11),(true,12),(false,13)] (λw'=>w'.cell? ⟨w1.heap.size,0,none⟩=some (.slice (some ⟨g1,0,none⟩) n1 lO)/\w'.cell? ⟨g1,j*8+6,none⟩=some (.slice (some ⟨gp,0,none⟩) L cp)/\w'.cell? ⟨w.heap.size+1+1,3,none⟩=some (vI (i:Int))/\w'.cell? ⟨gp,i,none⟩=some (vI val)) (by kernel_rfl) (by kernel_rfl) ⟨pH.cellAt m0 id,pH.cellAt q5 id,pH.cellAt d3 id,pH.cellAt q9 id⟩ ?_;refine ao (aR w1.heap.size) rfl rfl (λw' hw'=>?_) ai ?_
   ·simp[go_sem]
   refine ao (.slice (some ⟨g1,0,none⟩) n1 lO) rfl rfl (λw' hw'=>?_) ai ?_
   ·simp[go_sem,hw'.1]
   refine ao (aR w1.heap.size) rfl rfl (λw' hw'=>?_) ai ?_
   ·simp[go_sem]
   refine ao (.slice (some ⟨g1,0,none⟩) n1 lO) rfl rfl (λw' hw'=>?_) ai ?_
   ·simp[go_sem,hw'.1]
   refine ao (vI ra) rfl rfl (λw' hw'=>?_) ai ?_
   ·simp[go_sem]
   refine ao (.pointer (some ⟨w.heap.size+1+1,3,none⟩)) rfl rfl (λw' hw'=>?_) ai ?_
   ·simp[go_sem]
   refine ao (vI (i:Int)) rfl rfl (λw' hw'=>?_) ai ?_
   ·simp[go_sem,hw'.2.2.1]
   refine bg rfl rfl ?_;have o8:=op.out _ pH;go_wp2_with fail
   refine o8.mono ?_;rintro en w8 ⟨rfl,k8⟩;have fS:=pH.trans k8;refine⟨⟨fS.cellAt m0 id,fS.cellAt q5 id,fS.cellAt d3 id,fS.cellAt q9 id⟩,?_⟩;clear o8;refine ao (.pointer (some ⟨g1,j*8,none⟩)) rfl rfl (λw' hw'=>?_) ai ?_
   ·simp[go_sem,qw]
   refine ao (.pointer (some ⟨g1,j*8+6,none⟩)) rfl rfl (λw' hw'=>?_) ai ?_
   ·simp[go_sem]
   refine ao (.slice (some ⟨gp,0,none⟩) L cp) rfl rfl (λw' hw'=>?_) ai ?_
   ·simp[go_sem,hw'.2.1]
   refine ao (.pointer (some ⟨gp,i,none⟩)) rfl rfl (λw' hw'=>?_) ai ?_
   ·simp[go_sem,sw]
   refine ao (vI val) rfl rfl (λw' hw'=>?_) ai ?_
   ·simp[go_sem,hw'.2.2.2]
   refine bg rfl rfl ?_;unfold Oper.wp;go_simp
   try refine⟨⟨fS.cellAt m0 id,fS.cellAt q5 id,fS.cellAt d3 id,fS.cellAt q9 id⟩,?_⟩
   refine fp ?_;have hE:=hD.calm fS;go_wp2_with fail
   go_meet;exact⟨_,jN,by rw[dw.out],by rw[dw.out],by rw[dw.out];exact hR.out,by rw[dw.out];exact fF,by rw[dw.out];exact hE⟩
  ·obtain⟨i,rfl,hi7⟩:∃i:Nat,I=i/\i<=7:=⟨I.toNat,by simp only[R8] at hi;omega⟩
   have h0:cZ (ms.map (·.x)) ra 7 (i:Int) fresh=0:=by
    have h9:=EB (d:=⟨7,a,b,i,N⟩) hx.out (.inr (.inr (.inl rfl)));rw[<-lU.out];exact h9
   obtain⟨j,hj,ll,vM⟩:=pU h0 (by decide);rw[<-fF] at ll;rw[List.length_map] at ll;have ex:(ms.map (·.x)).getD j jB=(jN.getD j bV).x:=by rw[<-fF];exact ss (·.x) jN bV j
   rw[ex] at vM;have qw:j<n1:=by omega
   have Y9:decide ((j:Int)<0)=false:=decide_eq_false (by omega);have dw:=af (yl (d:=⟨7,a,b,i,N⟩) hx.out (.inr (.inl rfl)) (by rw[<-hj,<-lU.out];rfl) ex);rw[<-fF] at hj;clear ex h0;have vM:=vM (by decide);rw[if_pos (by decide)] at vM;have sw:i<(jN.getD j bV).x.ns.length:=by omega
   replace hj:=af hj;obtain⟨g1,Uh,yT,pz⟩:=bz (ety:=240) (k:=8) bX (by decide) mg.r bV ll;injection yT with e1 e2 e3
   subst e1;subst e3;clear e2;obtain⟨m,hm⟩:=au (jN.getD j bV);obtain⟨gp,cp,pD,_,uw⟩:=(mg.n j ll).get sw;rw[hm] at pz pD uw sw;have q5:W7.cell? ⟨g1,j*8+6,none⟩=some (.slice (some ⟨gp,0,none⟩) m.x.ns.length cp):=by rw[<-pD];exact(pz 6 _ rfl).1
   obtain⟨L,hL⟩:=au m.x.ns.length;rw[hL] at q5 sw pD;obtain⟨val,hval⟩:=au (m.x.ns.getD i 0);rw[hval] at uw;have q9:=uw.1;have ZL:=uw.2;have Sb:decide ((i:Int)<0)=false:=decide_eq_false (by omega)
   rw[hm] at dw;have yI:aB m.nv gp:=by rw[pD];exact aB.mk.2 rfl
   have op:=af (λW (c:Calm W7 W)=>dZ (mg.ins.calm c) (by have:=fF;have:=congrArg List.length fF;simp at this;omega) ra);rw[jM,hj.out] at op;replace hm:=af hm;have m0:=(wB 0 _ rfl).1;go_upto_region 28 with fail
   have pH:Calm W7 W7.drew:=aq.drew;refine bK [(true,0),(true,1),(true,2),(true,3),(true,4),(true,9),(true,10),(true,11),(true,12),(false,5),(true,6),(true,7),(true,8),(true,13),(false,14)] (λw'=>w'.cell? ⟨w1.heap.size,0,none⟩=some (.slice (some ⟨g1,0,none⟩) n1 lO)/\w'.cell? ⟨g1,j*8+6,none⟩=some (.slice (some ⟨gp,0,none⟩) L cp)/\w'.cell? ⟨w.heap.size+1+1,3,none⟩=some (vI (i:Int))/\w'.cell? ⟨w.heap.size+1+1,4,none⟩=some (vI N)) (by kernel_rfl) (by kernel_rfl) ⟨pH.cellAt m0 id,pH.cellAt q5 id,pH.cellAt d3 id,pH.cellAt d4 id⟩ ?_;refine ao (aR w1.heap.size) rfl rfl (λw' hw'=>?_) ai ?_
   ·simp[go_sem]
   refine ao (.slice (some ⟨g1,0,none⟩) n1 lO) rfl rfl (λw' hw'=>?_) ai ?_
   ·simp[go_sem,hw'.1]
   refine ao (aR w1.heap.size) rfl rfl (λw' hw'=>?_) ai ?_
   ·simp[go_sem]
   refine ao (.slice (some ⟨g1,0,none⟩) n1 lO) rfl rfl (λw' hw'=>?_) ai ?_
   ·simp[go_sem,hw'.1]
   refine ao (vI ra) rfl rfl (λw' hw'=>?_) ai ?_
   ·simp[go_sem]
   refine ao (.pointer (some ⟨w.heap.size+1+1,3,none⟩)) rfl rfl (λw' hw'=>?_) ai ?_
   ·simp[go_sem]
   refine ao (vI (i:Int)) rfl rfl (λw' hw'=>?_) ai ?_
   ·simp[go_sem,hw'.2.2.1]
   refine ao (.pointer (some ⟨w.heap.size+1+1,4,none⟩)) rfl rfl (λw' hw'=>?_) ai ?_
   ·simp[go_sem]
   refine ao (vI N) rfl rfl (λw' hw'=>?_) ai ?_
   ·simp[go_sem,hw'.2.2.2]
   refine bg rfl rfl ?_;have o8:=op.out _ pH;go_wp2_with fail
   refine o8.mono ?_;rintro en w8 ⟨rfl,k8⟩;have fS:=pH.trans k8;refine⟨⟨fS.cellAt m0 id,fS.cellAt q5 id,fS.cellAt d3 id,fS.cellAt d4 id⟩,?_⟩;clear o8;refine ao (.pointer (some ⟨g1,j*8,none⟩)) rfl rfl (λw' hw'=>?_) ai ?_
   ·simp[go_sem,qw]
   refine ao (.pointer (some ⟨g1,j*8+6,none⟩)) rfl rfl (λw' hw'=>?_) ai ?_
   ·simp[go_sem]
   refine ao (.slice (some ⟨gp,0,none⟩) L cp) rfl rfl (λw' hw'=>?_) ai ?_
   ·simp[go_sem,hw'.2.1]
   refine ao (.pointer (some ⟨gp,i,none⟩)) rfl rfl (λw' hw'=>?_) ai ?_
   ·simp[go_sem,sw]
   have Ju:=mg.l j ll gp (by rw[hm.out];exact .inr yI);have H0:W5.heap.size<=gp:=Ju.1;have ngg:gp≠g1:=λe=>Ju.2 (by rw[e];exact aB.mk.2 rfl);have XT:gp≠w1.heap.size:=λe=>(rK.out j ll).2 (by rw[hm.out,<-e];exact yI);have z9:=fS.cellAt q9 id;have F9:Fr (λk=>k=gp) w8 (w8.setCell ⟨gp,i,none⟩ (vI N)):=(Fr.refl (λk=>k=gp) w8).setCell (p:=⟨gp,i,none⟩) (.inl rfl) _;have z90:=(uw.calm fS).2;refine bg rfl rfl ?_;unfold Oper.wp;go_simp;refine⟨⟨by first|exact fS.cellAt m0 id|exact F9.cellAt (fS.cellAt m0 id) (by show ¬(_=gp);omega),by first|exact fS.cellAt q5 id|exact F9.cellAt (fS.cellAt q5 id) (by show ¬(_=gp);omega),by first|exact fS.cellAt d3 id|exact F9.cellAt (fS.cellAt d3 id) (by show ¬(_=gp);omega),by first|exact fS.cellAt d4 id|exact F9.cellAt (fS.cellAt d4 id) (by show ¬(_=gp);omega)⟩,?_⟩;refine fp ?_;obtain⟨W8,jn⟩:=au (w8.setCell ⟨gp,i,none⟩ (vI N));rw[jn] at F9 ⊢;have oy:=mg.fr (lo':=W5.heap.size) fS (λ_ _ e=>e) (aM _);have dR:=(show bm _ 0 (.slice (some ⟨gp,0,none⟩) L cp) m.x.ns by have h9:=oy.n j ll;rw[hm.out,pD] at h9;exact h9).set (k:=i) (by omega) N;rw[jn] at dR;rw[<-pD] at dR;have Mb:=oy.dN (x':={ m.x with ns:=m.x.ns.set i N }) ll (.inr (by rw[hm.out];exact yI)) F9 (by rw[hm.out];rfl) (by rw[hm.out];have h9:=oy.p j ll;rw[hm.out] at h9;exact h9.iI F9 (λb hb e=>oy.d j ll gp (by rw[hm.out];exact yI) (by rw[hm.out,<-e];exact hb))) (by rw[hm.out];exact dR);rw[hm.out] at Mb;have NY:Hid ((jN.set j ⟨{ m.x with ns:=m.x.ns.set i N },m.pv,m.nv⟩).map (·.x)=(ms.map (·.x)).set j (Fe ⟨7,a,b,i,N⟩ (R.getD (b:Int).toNat 0) m.x)):=by show _=_;rw[List.map_set,fF];rfl
   rw[jM] at Mb;have hE:=(hD.calm fS).chg F9 H0 XT zl Mb;go_wp2_with fail
   go_meet;exact⟨_,_,by rw[dw.out],by rw[dw.out],by rw[dw.out];exact hR.out,by rw[dw.out];exact NY.out,by rw[dw.out];exact hE⟩
  ·have h0:cZ (ms.map (·.x)) ra 8 I fresh=0:=by
    have h9:=EB (d:=⟨8,a,b,I,N⟩) hx.out (.inr (.inr (.inr rfl)));rw[<-lU.out];exact h9
   obtain⟨j,hj,ll,vM⟩:=pU h0 (by decide);rw[<-fF] at ll;rw[List.length_map] at ll;have ex:(ms.map (·.x)).getD j jB=(jN.getD j bV).x:=by rw[<-fF];exact ss (·.x) jN bV j
   rw[ex] at vM;have qw:j<n1:=by omega
   have Y9:decide ((j:Int)<0)=false:=decide_eq_false (by omega);have dw:=af (yl (d:=⟨8,a,b,I,N⟩) hx.out (.inr (.inr rfl)) (by rw[<-hj,<-lU.out];rfl) ex);rw[<-fF] at hj;clear ex h0;replace hj:=af hj;obtain⟨g1,Uh,yT,pz⟩:=bz (ety:=240) (k:=8) bX (by decide) mg.r bV ll;injection yT with e1 e2 e3
   subst e1;subst e3;clear e2;obtain⟨m,hm⟩:=au (jN.getD j bV);rw[hm] at pz
   rw[hm] at dw;have q9:W7.cell? ⟨g1,j*8+7,none⟩=some (.bool m.x.fr):=(pz 7 _ rfl).1;have ZL:=(pz 7 _ rfl).2;have op:=af (λW (c:Calm W7 W)=>dZ (mg.ins.calm c) (by have:=fF;have:=congrArg List.length fF;simp at this;omega) ra);rw[jM,hj.out] at op;replace hm:=af hm;have m0:=(wB 0 _ rfl).1;go_upto_region 30 with fail
   have pH:Calm W7 W7.drew:=aq.drew;refine bK [(true,0),(true,1),(true,2),(true,3),(true,4),(false,5),(true,6),(true,7),(false,8)] (λw'=>w'.cell? ⟨w1.heap.size,0,none⟩=some (.slice (some ⟨g1,0,none⟩) n1 lO)) (by kernel_rfl) (by kernel_rfl) (pH.cellAt m0 id) ?_;refine ao (aR w1.heap.size) rfl rfl (λw' hw'=>?_) ai ?_
   ·simp[go_sem]
   refine ao (.slice (some ⟨g1,0,none⟩) n1 lO) rfl rfl (λw' hw'=>?_) ai ?_
   ·simp[go_sem,hw']
   refine ao (aR w1.heap.size) rfl rfl (λw' hw'=>?_) ai ?_
   ·simp[go_sem]
   refine ao (.slice (some ⟨g1,0,none⟩) n1 lO) rfl rfl (λw' hw'=>?_) ai ?_
   ·simp[go_sem,hw']
   refine ao (vI ra) rfl rfl (λw' hw'=>?_) ai ?_
   ·simp[go_sem]
   refine bg rfl rfl ?_;have o8:=op.out _ pH;go_wp2_with fail
   refine o8.mono ?_;rintro en w8 ⟨rfl,k8⟩;have fS:=pH.trans k8;refine⟨(fS.cellAt m0 id),?_⟩;clear o8;refine ao (.pointer (some ⟨g1,j*8,none⟩)) rfl rfl (λw' hw'=>?_) ai ?_
   ·simp[go_sem,qw]
   refine ao (.pointer (some ⟨g1,j*8+7,none⟩)) rfl rfl (λw' hw'=>?_) ai ?_
   ·simp[go_sem]
   have H0:W5.heap.size<=g1:=mg.v g1 (aB.mk.2 rfl);have XT:g1≠w1.heap.size:=λe=>AK (by rw[<-e];exact aB.mk.2 rfl);have z9:=fS.cellAt q9 id;have F9:Fr (λk=>k=g1) w8 (w8.setCell ⟨g1,j*8+7,none⟩ (.bool true)):=(Fr.refl (λk=>k=g1) w8).setCell (p:=⟨g1,j*8+7,none⟩) (.inl rfl) _;have z90:=((pz 7 _ rfl).calm fS).2;refine bg rfl rfl ?_;unfold Oper.wp;go_simp;refine⟨(by first|exact fS.cellAt m0 id|exact F9.cellAt (fS.cellAt m0 id) (by show ¬(_=g1);omega)),?_⟩;refine fp ?_;obtain⟨W8,jn⟩:=au (w8.setCell ⟨g1,j*8+7,none⟩ (.bool true));rw[jn] at F9 ⊢;have oy:=mg.fr (lo':=W5.heap.size) fS (λ_ _ e=>e) (aM _);have dR:W8.ownsRow 0 240 8 (.slice (some ⟨g1,0,none⟩) jN.length lO) jN.length ((jN.set j ⟨{ m.x with fr:=true },m.pv,m.nv⟩).flatMap eF):=by rw[<-jn,<-TF ll hm.out];exact kg oy.r (by rw[dS eF 8 bX];omega) _
   have Mb:=oy.cell ll (m':=⟨{ m.x with fr:=true },m.pv,m.nv⟩) (F9.mono λb _ e=>by rw[e];exact aB.mk.2 rfl) dR (by rw[hm.out];exact⟨rfl,rfl,rfl,rfl⟩);have NY:Hid ((jN.set j ⟨{ m.x with fr:=true },m.pv,m.nv⟩).map (·.x)=(ms.map (·.x)).set j (Fe ⟨8,a,b,I,N⟩ (R.getD (b:Int).toNat 0) m.x)):=by show _=_;rw[List.map_set,fF];rfl
   rw[jM] at Mb;have hE:=(hD.calm fS).chg F9 H0 XT zl Mb;go_wp2_with fail
   go_meet;exact⟨_,_,by rw[dw.out],by rw[dw.out],by rw[dw.out];exact hR.out,by rw[dw.out];exact NY.out,by rw[dw.out];exact hE⟩
  ·obtain⟨m0,m1⟩:=ag.lF wB;have dw:gj (ms.map (·.x)) R ⟨10,a,b,I,N⟩ fresh=(ms.map (·.x),R.set a 0,0,0):=by unfold gj;rw[hx.out];simp
   have ya:=xa;have yb:=(hD.r a _ (cD R ha)).2;have hE:=hD.set zl HM hR.out ha (0);go_wp2_with fail
   go_meet;exact⟨_,jN,by rw[dw],by rw[dw],by rw[dw];simp[hR.out],by rw[dw];exact fF,by rw[dw];exact hE⟩
  ·by_cases vL:ra=rb
   ·have dw:gj (ms.map (·.x)) R ⟨11,a,b,I,N⟩ fresh=(ms.map (·.x),R,1,0):=by unfold gj;rw[hx.out];rw[<-lU.out,<-jl.out] at vL;simp at vL;simp[vL]
    have eab:(ra==rb)=true:=by simp[vL]
    replace vL:=af vL;go_wp2_with fail
    go_meet;exact⟨_,jN,by rw[dw],by rw[dw],by rw[dw];exact hR.out,by rw[dw];exact fF,by rw[dw];exact hD⟩
   ·have dw:gj (ms.map (·.x)) R ⟨11,a,b,I,N⟩ fresh=(ms.map (·.x),R,0,0):=by unfold gj;rw[hx.out];rw[<-lU.out,<-jl.out] at vL;simp at vL;simp[vL]
    have eab:(ra==rb)=false:=by simp[vL]
    replace vL:=af vL;go_wp2_with fail
    go_meet;exact⟨_,jN,by rw[dw],by rw[dw],by rw[dw];exact hR.out,by rw[dw];exact fF,by rw[dw];exact hD⟩
  ·have dw:gj (ms.map (·.x)) R ⟨12,a,b,I,N⟩ fresh=(ms.map (·.x),R.set a rb,0,0):=by unfold gj;rw[hx.out];simp[<-jl.out]
   have ya:=xa;have yb:=(hD.r a _ (cD R ha)).2;have hE:=hD.set zl HM hR.out ha (rb);go_wp2_with fail
   go_meet;exact⟨_,jN,by rw[dw],by rw[dw],by rw[dw];simp[hR.out],by rw[dw];exact fF,by rw[dw];exact hE⟩
  ·have dw:gj (ms.map (·.x)) R ⟨13,a,b,I,N⟩ fresh=(ms.map (·.x),R.set a 0,0,0):=by unfold gj;rw[hx.out];simp
   have ya:=xa;have yb:=(hD.r a _ (cD R ha)).2;have hE:=hD.set zl HM hR.out ha (0);go_wp2_with fail
   go_meet;exact⟨_,jN,by rw[dw],by rw[dw],by rw[dw];simp[hR.out],by rw[dw];exact fF,by rw[dw];exact hE⟩
  ·have dw:gj (ms.map (·.x)) R ⟨14,a,b,I,N⟩ fresh=(ms.map (·.x),R,0,0):=by unfold gj;rw[hx.out];simp
   go_wp2_with fail
   go_meet;exact⟨_,jN,by rw[dw],by rw[dw],by rw[dw];exact hR.out,by rw[dw];exact fF,by rw[dw];exact hD⟩
 ·have hr:gj (ms.map (·.x)) R ⟨K,a,b,I,N⟩ fresh=(ms.map (·.x),R,0,x):=by unfold gj;rw[hx,if_pos gK]
  have ex0:(x != 0)=true:=by simp[bne,gK]
  have H:xU w w1.heap.size W5.heap.size (.slice a1 n1 lO) jN R w3:=⟨by rw[Nv.out];exact r6,Mv,Mw,QG,cw,by rw[<-jM];exact We.ins⟩;clear hx r7 r6 Mv Mw QG cw We;replace hr:=af hr;go_upto_region 6 with fail
  replace H:=H.calm (aq.drew);have t6:=H.r;rw[Nv.out] at t6;have t14:=H.m;refine bQ [0,1,2] [3,4,5,6] (λw'=>ag w' (w.heap.size+1) [vI r0,vI r1,vI r2,vI r3,vI r4,vI r5]/\ag w' w1.heap.size [.slice a1 n1 lO,.slice none 0 0]) (by kernel_rfl) (by kernel_rfl) ⟨t6,t14⟩ ?_;refine ah (.agg #[.slice a1 n1 lO,.slice none 0 0]) rfl rfl (λw' hw'=>?_) ai ?_
  ·have o:=hw'.2;obtain⟨z0,z1⟩:=ag.lF o;simp[go_sem,z0,z1]
  refine ah (.agg #[vI r0,vI r1,vI r2,vI r3,vI r4,vI r5]) rfl rfl (λw' hw'=>?_) ai ?_
  ·have o:=hw'.1;obtain⟨z0,z1,z2,z3,z4,z5⟩:=ag.t_ o;simp[go_sem,z0,z1,z2,z3,z4,z5]
  refine ah (vI x) rfl rfl (λw' hw'=>?_) ai ?_
  ·simp[go_sem]
  simp only[aU];refine aw rfl (by kernel_rfl) ?_;refine aN _ _ _ rfl (w.heap.size+1+1+1) #[.slice a1 n1 lO,.slice none 0 0] (by kernel_rfl) (by kernel_rfl) H.p rfl (by kernel_rfl) (by simp[Value.oneCell']) ?_;intro w8 t108 f8;have t68:=t6.fr f8 (by omega);have t148:=t14.fr f8 (by omega);refine⟨⟨t68,t148⟩,?_⟩;refine aw rfl (by kernel_rfl) ?_;refine aN _ _ _ rfl (w.heap.size+1+1+1+1) #[vI r0,vI r1,vI r2,vI r3,vI r4,vI r5] (by kernel_rfl) (by kernel_rfl) (H.q.fr f8 (by omega)) rfl (by kernel_rfl) (by simp[Value.oneCell']) ?_;intro w9 t119 f9;have t69:=t68.fr f9 (by omega);have t149:=t148.fr f9 (by omega);refine⟨⟨t69,t149⟩,?_⟩;have t109:=t108.fr f9 (by omega);refine aw rfl (by kernel_rfl) ?_;unfold Oper.wp;go_simp
  try refine⟨⟨t69,t149⟩,?_⟩
  refine aw rfl (by kernel_rfl) ?_;unfold Oper.wp;go_simp
  try refine⟨⟨t69,t149⟩,?_⟩
  have hP:ZY w (gj (ms.map (·.x)) R ⟨K,a,b,I,N⟩ fresh) (.returned (.tuple #[.agg #[.slice a1 n1 lO,.slice none 0 0],.agg #[vI r0,vI r1,vI r2,vI r3,vI r4,vI r5],vI 0,vI x])) w9:=by
   rw[hr.out];exact⟨_,jN,by rw[show Ip R=.agg #[vI r0,vI r1,vI r2,vI r3,vI r4,vI r5] from Wj.out],fF,bL.mono (T':=λb=>w.heap.size<=b) ((H.o.fr f8 (λb hb e=>by have e:b=w.heap.size+1+1+1:=e;have hb:W5.heap.size<=b:=hb;omega)).fr f9 (λb hb e=>by have e:b=w.heap.size+1+1+1+1:=e;have hb:W5.heap.size<=b:=hb;omega)) (λb _ hb=>by have hb:W5.heap.size<=b:=hb;show w.heap.size<=b;omega),(H.c.join f8 (λj hj e=>by omega)).join f9 (λj hj e=>by omega)⟩
  replace hP:=af hP;replace t109:=af t109;replace t119:=af t119;clear t69 t149 t68 t148 t108 f8 f9 t6 t14 H;simp only[bj];go_wp2;exact bodyPost_ret (La rfl rfl rfl rfl rfl t109.out t119.out) rfl hP.out
theorem VJ{T:Nat->Prop}{w:aj}{v:aC}{ms:List fW}(h:bL T w v ms)(hl:ms.length<=1000)(qa:Option Addr)(qc:Nat)(hs:∀m∈ms,m.x.ps.length<=100000/\m.x.ns.length<=100000)(fresh seen:Int){R:List Int}(hR:R.length=6){d:Dd}(hd:d.Rt) :
 aL prog 85 #[.agg #[v,.slice qa 0 qc],Ip R,e_ d,vI fresh,vI seen] w (ZY w (gj (ms.map (·.x)) R d fresh)):=by
 by_cases hK:(d.k<=4\/d.k=9)/\CS (ms.map (·.x)) R d fresh=0
 ·exact VJa h hl qa qc hs fresh seen hR hd hK
 ·exact VJb h hl qa qc hs fresh seen hR hd hK
