import Derived.Test.YtgijglafnlbdbaaGreatTmAR
import Derived.Test.YtgijglafnlbdbaaGreatTmAQ
set_option linter.all false
set_option maxHeartbeats 8000000
set_option maxRecDepth 8000
namespace Go.Proofs.YtgijglafnlbdbaaGreat
open RowKit Shelf Proofs.Tryz
open Go renaming World->ag,Value->aA,Calls->aJ
theorem Fr.setCells{S:Nat->Prop}{b:Nat}(hb:S b):∀ (vs:List aA) (o:Nat) {a w:ag},Fr S a w->Fr S a (w.setCells b o vs)
 | [],_,_,_,h=>h
 | v::r,o,a,w,h=>Fr.setCells hb r (o+1) (h.setCell (p:=⟨b,o,none⟩) (.inl hb) v)
theorem af.whole{w:ag}{b:Nat}{vs us:List aA}(h:af w b vs)(hl:us.length=vs.length):af (w.setCells b 0 us) b us:=λi u hu=>by
 have hi:i<us.length:=(List.getElem?_eq_some_iff.1 hu).1;refine⟨?_,?_⟩
 ·have:=World.cell?_setCells_in b us 0 w (λj hj=>by
   obtain⟨v,hv⟩:∃v,vs[j]?=some v:=⟨vs[j]'(by omega),lQ _⟩
   rw[ia,(h j v hv).1];rfl) i hi
  rw[ia] at this;rw[this,<-hu,lQ hi]
 ·rw[World.frozen?_setCells];obtain⟨v,hv⟩:∃v,vs[i]?=some v:=⟨vs[i]'(by omega),lQ _⟩;exact(h i v hv).2
theorem af.there{w:ag}{b:Nat}{vs:List aA}(h:af w b vs)(n:Nat)(hn:n=vs.length):w.there b 0 n:=λj hj=>by
 obtain⟨v,hv⟩:∃v,vs[j]?=some v:=⟨vs[j]'(by omega),lQ _⟩;have:=h j v hv;rw[ia];exact⟨by rw[this.1];rfl,this.2⟩
theorem oL{P:Program}{ops:Array Oper}{rest:List Oper}{op:Oper}{a:Act}{w:ag}{Q:Exit->Act->ag->Prop}(pH:op.guard=none)(ty:TypeId)(x y:Operand)(ho:op.op=.store ty x y)
 (b:Nat) (cells:Array aA) (hx:a.eval x = bw b) (hy:a.eval y=.agg cells) {vs:List aA} (own:af w b vs) (hn:cells.size=vs.length) (hi:(P.info? ty).map (·.size)=some cells.size) (h1:cells.all (·.oneCell')=true)
 (h:∀w',af w' b cells.toList->Fr (λk=>k=b) w w'->wpList P ops Q rest (a.put op.dst undef) w'):wpList P ops Q (op::rest) a w:=
 wpList_store_mid pH ty x y ho b 0 cells hx hy (own.there _ hn) hi h1 (h _ (own.whole (by simpa using hn)) (Fr.setCells (S:=λk=>k=b) rfl _ _ ah))
theorem iA(x:bP):(aX x).length=15:=rfl
theorem cC{fn:Func}{i j:Nat}{W:ag}{B5 B6:Nat}{x:bP}{k e v:Int}{tmps:Array aA}(hf:fn.results = #[.cell i 31,.cell j 35])(h5:tmps[i]?.getD undef = bw B5)(h6:tmps[j]?.getD undef = bw B6)
 (t:af W B5 (aX x)) (u:af W B6 [vI k,vI e,vI v]):(results fn tmps).run prog W=.ok (.tuple #[bQ x,cS k e v]) W:=by
 simp only[aX,rg] at t;obtain⟨y0,y1,y2,y3,y4,y5,y6,y7,y8,y9,j_,kY,iL,jv,iM⟩:=af.lB t;obtain⟨z0,z1,z2⟩:=af.mI u;simp[results,hf,h5,h6,go_sem,bQ,cS,rg,y0,y1,y2,y3,y4,y5,y6,y7,y8,y9,j_,kY,iL,jv,iM,z0,z1,z2]
theorem iC{w:ag}{x:bP}{B:Nat}(h:af w B (aX x))(hb:0<=x.b/\x.b<=1000)(hp:0<=x.p/\x.p<=1000)(v e:Int) :
 aJ prog 68 #[vI v,vI e,bw B] w (XT w x v e):=by
 have k2:Calm w ((w.alloc (.cells #[vI 0,vI 0,vI 0,vI 0,vI 0,vI 0,vI 0,vI 0,vI 0,vI 0,vI 0,vI 0,vI 0,vI 0,.bool false] 31)).alloc (.cells #[vI 0,vI 0,vI 0] 35)):=(ah.alloc _).alloc _;have o5:af ((w.alloc (.cells #[vI 0,vI 0,vI 0,vI 0,vI 0,vI 0,vI 0,vI 0,vI 0,vI 0,vI 0,vI 0,vI 0,vI 0,.bool false] 31)).alloc (.cells #[vI 0,vI 0,vI 0] 35)) w.heap.size [vI 0,vI 0,vI 0,vI 0,vI 0,vI 0,vI 0,vI 0,vI 0,vI 0,vI 0,vI 0,vI 0,vI 0,.bool false]:=(af.kC w [_,_,_,_,_,_,_,_,_,_,_,_,_,_,_] _ _ rfl).alloc _;have o6:af ((w.alloc (.cells #[vI 0,vI 0,vI 0,vI 0,vI 0,vI 0,vI 0,vI 0,vI 0,vI 0,vI 0,vI 0,vI 0,vI 0,.bool false] 31)).alloc (.cells #[vI 0,vI 0,vI 0] 35)) (w.heap.size+1) [vI 0,vI 0,vI 0]:=af.kC (w.alloc _) [_,_,_] _ _ (by simp);generalize fI:((w.alloc (.cells #[vI 0,vI 0,vI 0,vI 0,vI 0,vI 0,vI 0,vI 0,vI 0,vI 0,vI 0,vI 0,vI 0,vI 0,.bool false] 31)).alloc (.cells #[vI 0,vI 0,vI 0] 35))=W2 at *;have h2:=h.calm k2;simp only[aX,rg] at h2;obtain⟨y0,y1,y2,y3,y4,y5,y6,y7,y8,y9,j_,kY,iL,jv,iM⟩:=af.lB h2;have oe:=QU W2 x hb hp v e;simp only[bQ,rg] at oe;go_in;go_wp2_with fail
 clear fI;refine oe.mono ?_;rintro en w3 ⟨rfl,k3⟩;clear oe y0 y1 y2 y3 y4 y5 y6 y7 y8 y9 j_ kY iL jv iM h2;have kX:=o5.calm k3;have lK:=o6.calm k3;generalize dy:x.fQ e=x2 at *;generalize dK:(if e=0 then v else 0)=v2 at *;replace dy:=hid dy;replace dK:=hid dK;simp only[bQ,cS,rg];obtain⟨y0,z0,y1,z1,y2,z2,y3,z3,y4,z4,y5,z5,y6,z6,y7,z7,y8,z8,y9,z9,j_,qB,kY,sI,iL,z12,jv,qM,iM,nT⟩:=af.kt kX;obtain⟨yO,vW,yP,vX,yQ,vY⟩:=af.pG lK;have T1:=kX.whole (us:=(aX x2)) rfl;have F1:=sK w3 (w.heap.size) 0 (aX x2);have U0:=lK.fr F1 (by omega);have U:=U0.whole (us:=[vI 2,vI e,vI v2]) rfl;have F2:Fr (λk=>k=w.heap.size+1) (w3.setCells w.heap.size 0 (aX x2)) ((w3.setCells w.heap.size 0 (aX x2)).setCells (w.heap.size+1) 0 [vI 2,vI e,vI v2]):=Fr.setCells (S:=λk=>k=w.heap.size+1) rfl _ _ ah;have T:=T1.fr F2 (by omega);have hC:Calm w ((w3.setCells w.heap.size 0 (aX x2)).setCells (w.heap.size+1) 0 [vI 2,vI e,vI v2]):=((k2.trans k3).join F1 (λj hj e=>by omega)).join F2 (λj hj e=>by omega);replace hC:=hid hC;replace T:=hid T;replace U:=hid U;clear T1 F1 U0 F2;go_wp2;exact bodyPost_ret (v:=.tuple #[bQ x2,cS 2 e v2]) (cC (i:=5) (j:=6) rfl rfl rfl T.out U.out) rfl ⟨by rw[dy.out,dK.out],hC.out⟩
section
theorem bC{P:Program}{op:Oper}{a:Act}{w:ag}{K:Act->ag->Prop}{Q:Exit->Act->ag->Prop}(ty:TypeId)(x y:Operand)(ho:op.op=.store ty x y)
 (b:Nat) (cells:Array aA) (hx:a.eval x = bw b) (hy:a.eval y=.agg cells) {vs:List aA} (own:af w b vs) (hn:cells.size=vs.length) (hi:(P.info? ty).map (·.size)=some cells.size) (h1:cells.all (·.oneCell')=true)
 (h:∀w',af w' b cells.toList->Fr (λk=>k=b) w w'->K (a.put op.dst undef) w'):op.wp P a w K Q:=
 wp_store_mid ty x y ho b 0 cells hx hy (own.there _ hn) hi h1 (h _ (own.whole (by simpa using hn)) (Fr.setCells (S:=λk=>k=b) rfl _ _ ah))
theorem eM(x:bP):((aX x).toArray).all (·.oneCell')=true:=all_oneCell_toArray (by simp[aX,rg,Value.oneCell'])
theorem tL{x:bP}(h:x.R.length=6){a:Nat}(ha:a<6)(v:Nat):(aX x).set (2+a) (vI (v:Int))=aX { x with R:=x.R.set a v }:=by
 obtain⟨b,p,R,V,live⟩:=x
 match R,h with
 | [r0,r1,r2,r3,r4,r5],_=>
   rcases(by omega:a=0\/a=1\/a=2\/a=3\/a=4\/a=5) with rfl|rfl|rfl|rfl|rfl|rfl <;> rfl
theorem cG{x:bP}{a:Nat}(ha:a<6):(aX x)[2+a]?=some (vI ((x.R.getD a 0:Nat):Int)):=by
 rcases(by omega:a=0\/a=1\/a=2\/a=3\/a=4\/a=5) with rfl|rfl|rfl|rfl|rfl|rfl <;> rfl
variable {w:ag}{τ:Nat->Nat}{s q:Nat}{S:aE}
theorem Fz(h:St w τ s q S){a:Nat}(ha:a<=131072):aJ prog 71 #[pV S.sp,vI (a:Int)] w λe w'=>(∃x:Nat,e=.returned (vI x))/\Calm w w':=by
 have hs:=vP h ha
 by_cases h0:a=0
 ·subst h0;clear hs;go_in;go_wp2;go_ret;exact⟨⟨0,rfl⟩,ah⟩
 ·have e0:((a:Int)==0)=false:=by simp;omega
  go_in;go_wp2_with fail
  refine hs.mono ?_;rintro e w' ⟨⟨x,rfl⟩,c⟩;clear hs;go_wp2;go_ret;exact⟨⟨_,rfl⟩,c⟩
def bP.xf(x:bP)(a v:Nat)(e:Int):bP:=if e=0 then { x with R:=x.R.set a v } else x
def aaY(w:ag)(B7:Nat)(x:bP)(a v:Nat)(e:Int)(en:Ending)(w':ag):Prop:=∃sv:Int,en=.returned (.tuple #[bQ ((x.xf a v e).fQ e),cS 2 e sv])/\Fr (λb=>b=B7) w w'
abbrev cL(B7:Nat):aA:=.func (.func 68) #[] #[bw B7]
theorem rB(h:St w τ s q S){x:bP}{d:Dd}{a v:Nat}{e:Int}{B7 B6 B10 B4:Nat}(o7:af w B7 (aX x))(o6:af w B6 (fW d))(o10:Own w B10 0 (cL B7))(o4:Own w B4 0 (pV S.sp))(ha:d.a=(a:Int))(lT:a<6)(hR:x.R.length=6)
 (n6:B6≠B7) (n10:B10≠B7) (n4:B4≠B7) (t7:500<=τ B7) (hb:0<=x.b/\x.b<=1000) (hp:0<=x.p/\x.p<=1000) (hv:v<=131072) :
 aJ prog 70 #[vI (v:Int),vI e,bw B10,bw B7,bw B6,bw B4] w (aaY w B7 x a v e):=by
 have k2:Calm w ((w.alloc (.cells #[vI 0,vI 0,vI 0,vI 0,vI 0,vI 0,vI 0,vI 0,vI 0,vI 0,vI 0,vI 0,vI 0,vI 0,.bool false] 31)).alloc (.cells #[vI 0,vI 0,vI 0] 35)):=(ah.alloc _).alloc _;have o5:af ((w.alloc (.cells #[vI 0,vI 0,vI 0,vI 0,vI 0,vI 0,vI 0,vI 0,vI 0,vI 0,vI 0,vI 0,vI 0,vI 0,.bool false] 31)).alloc (.cells #[vI 0,vI 0,vI 0] 35)) w.heap.size [vI 0,vI 0,vI 0,vI 0,vI 0,vI 0,vI 0,vI 0,vI 0,vI 0,vI 0,vI 0,vI 0,vI 0,.bool false]:=(af.kC w [_,_,_,_,_,_,_,_,_,_,_,_,_,_,_] _ _ rfl).alloc _;have o9:af ((w.alloc (.cells #[vI 0,vI 0,vI 0,vI 0,vI 0,vI 0,vI 0,vI 0,vI 0,vI 0,vI 0,vI 0,vI 0,vI 0,.bool false] 31)).alloc (.cells #[vI 0,vI 0,vI 0] 35)) (w.heap.size+1) [vI 0,vI 0,vI 0]:=af.kC (w.alloc _) [_,_,_] _ _ (by simp);have hl7:B7<w.heap.size:=o7.lt (by simp[aX]);generalize fI:(w.alloc (.cells #[vI 0,vI 0,vI 0,vI 0,vI 0,vI 0,vI 0,vI 0,vI 0,vI 0,vI 0,vI 0,vI 0,vI 0,.bool false] 31)).alloc (.cells #[vI 0,vI 0,vI 0] 35)=W2 at *;have o72:=o7.calm k2;have j_:=(o10.calm k2).1
 by_cases h0:e=0
 ·subst h0;have y6:=((o6.calm k2) 1 _ rfl).1;rw[ha] at y6;have c7:=o72 (2+a) _ (cG lT);have c70:=c7.1;have c71:=c7.2;have F:Fr (λb=>b=B7) W2 (W2.setCell ⟨B7,2+a,none⟩ (vI (v:Int))):=(Fr.refl (λb=>b=B7) W2).setCell (p:=⟨B7,2+a,none⟩) (.inl rfl) _;have CE:=o72.set (2+a) (vI (v:Int)) (by rw[iA];omega);rw[tL hR lT] at CE;have cM:=St.gL (h.calm k2) F (λb hb=>by rw[hb];exact t7);have y43:=F.cellAt (o4.calm k2).1 n4;have Q5:=F.cellAt j_ n10;have ha0:(0:Int)<=a:=by omega
  have RN:(a:Int)<6:=by omega
  obtain⟨W3,xS⟩:=ao (W2.setCell ⟨B7,2+a,none⟩ (vI (v:Int)));rw[xS] at F CE cM y43 Q5;go_in;go_wp2_with fail
  have kd:Calm W3 W3.drew:=ah.drew;have os:=Fz (cM.calm kd) hv;have kX:af W3.drew w.heap.size [vI 0,vI 0,vI 0,vI 0,vI 0,vI 0,vI 0,vI 0,vI 0,vI 0,vI 0,vI 0,vI 0,vI 0,.bool false]:=(o5.fr F (by omega)).calm kd;have o93:af W3.drew (w.heap.size+1) [vI 0,vI 0,vI 0]:=(o9.fr F (by omega)).calm kd;have ace:=CE.calm kd;refine dF [0,1,2] [3,4] 5 (λw'=>w'.cell? ⟨B10,0,none⟩=some (cL B7)/\w'.cell? ⟨B4,0,none⟩=some (pV S.sp)) (by kernel_rfl) (by kernel_rfl) ⟨Q5,y43⟩ ?_;refine ai (cL B7) rfl rfl (λw' hw'=>?_) ak ?_
  ·have e1:=hw'.1;simp[go_sem,e1]
  refine ai (pV S.sp) rfl rfl (λw' hw'=>?_) ak ?_
  ·have e1:=hw'.2;simp[go_sem,e1]
  refine ai (vI (v:Int)) rfl rfl (λw' hw'=>?_) ak ?_
  ·simp[go_sem]
  simp only[bq];refine aq rfl rfl ?_;go_wp2_with fail
  refine os.mono ?_;rintro en w4 ⟨⟨sv,rfl⟩,k4⟩;have qB:=k4.cellAt Q5 id;have z4:=k4.cellAt y43 id;refine⟨⟨qB,z4⟩,?_⟩;have ot:=iC (ace.calm k4) hb hp (sv:Int) 0;refine aq rfl rfl ?_;go_wp2_with fail
  refine ot.mono ?_;rintro en w5 ⟨rfl,k5⟩;refine⟨⟨k5.cellAt qB id,k5.cellAt z4 id⟩,?_⟩;have kr:Calm W3.drew w5:=k4.trans k5;clear os ot qB z4 Q5 y43 c70 c71 y6 j_;replace xS:=hid xS;replace fI:=hid fI;obtain⟨x9,P_⟩:=ao (({ x with R:=x.R.set a v } : bP).fQ 0);rw[P_];replace P_:=hid P_;have p9:=(o93.calm kr);have p5:=(kX.calm kr);simp only[bJ];refine df [5,6] [7,8] (λw'=>True) (by kernel_rfl) trivial ?_;refine ai (bQ x9) rfl rfl (λw' hw'=>?_) ak ?_
  ·simp[go_sem]
  refine ai (cS 2 0 (if (0:Int)=0 then (sv:Int) else 0)) rfl rfl (λw' hw'=>?_) ak ?_
  ·simp[go_sem]
  simp only[bq];refine aq rfl rfl ?_;refine bC _ _ _ rfl w.heap.size (aX x9).toArray rfl rfl p5 rfl (by kernel_rfl) (eM x9) ?_;intro w6 p56 f6;refine⟨trivial,?_⟩;have p96:=p9.fr f6 (by omega);refine aq rfl rfl ?_;refine bC _ _ _ rfl (w.heap.size+1) #[vI 2,vI 0,vI (if (0:Int)=0 then (sv:Int) else 0)] rfl rfl p96 rfl (by kernel_rfl) (by simp[Value.oneCell']) ?_;intro w7 p97 f7;refine⟨trivial,?_⟩;have p57:=p56.fr f7 (by omega);simp only[bJ];go_wp2;exact bodyPost_ret (v:=.tuple #[bQ x9,cS 2 0 (if (0:Int)=0 then (sv:Int) else 0)]) (cC (i:=8) (j:=9) rfl rfl rfl p57 p97) rfl ⟨_,by rw[<-P_.out];rfl,((((Calm.any k2:Fr (λb=>b=B7) _ _).trans F).trans (Calm.any (kd.trans kr))).join f6 (λj hj e=>by omega)).join f7 (λj hj e=>by omega)⟩
 ·have YG:(e != 0)=true:=by simp[bne,h0]
  have ot:=iC o72 hb hp 0 e;go_in;go_wp2_with fail
  clear fI;refine ot.mono ?_;rintro en w3 ⟨rfl,k3⟩;clear ot j_;have kX:=o5.calm k3;have lK:=o9.calm k3;have LG:x.xf a v e=x:=by unfold bP.xf;rw[if_neg h0]
  generalize dy:x.fQ e=x2 at *;generalize dK:(if e=0 then (0:Int) else 0)=v2 at *;replace dy:=hid dy;replace dK:=hid dK;simp only[bQ,cS,rg];obtain⟨y0,z0,y1,z1,y2,z2,y3,z3,y4,z4,y5,z5,y6,z6,y7,z7,y8,z8,y9,z9,j_,qB,kY,sI,iL,z12,jv,qM,iM,nT⟩:=af.kt kX;obtain⟨yO,vW,yP,vX,yQ,vY⟩:=af.pG lK;have T1:=kX.whole (us:=(aX x2)) rfl;have F1:=sK w3 (w.heap.size) 0 (aX x2);have U0:=lK.fr F1 (by omega);have U:=U0.whole (us:=[vI 2,vI e,vI v2]) rfl;have F2:Fr (λk=>k=w.heap.size+1) (w3.setCells w.heap.size 0 (aX x2)) ((w3.setCells w.heap.size 0 (aX x2)).setCells (w.heap.size+1) 0 [vI 2,vI e,vI v2]):=Fr.setCells (S:=λk=>k=w.heap.size+1) rfl _ _ ah;have T:=T1.fr F2 (by omega);have hC:Calm w ((w3.setCells w.heap.size 0 (aX x2)).setCells (w.heap.size+1) 0 [vI 2,vI e,vI v2]):=((k2.trans k3).join F1 (λj hj e=>by omega)).join F2 (λj hj e=>by omega);replace hC:=hid hC;replace T:=hid T;replace U:=hid U;clear T1 F1 U0 F2 o72;go_wp2;exact bodyPost_ret (v:=.tuple #[bQ x2,cS 2 e v2]) (cC (i:=8) (j:=9) rfl rfl rfl T.out U.out) rfl ⟨v2,by rw[LG,dy.out],Calm.any hC.out⟩
end
section
variable {w:ag}{τ:Nat->Nat}{s q:Nat}{S:aE}
structure tR(w W:ag)(S:aE)(d:Dd)(x:bP):Prop where
 c:Calm w W
 o4:af W (w.heap.size) [pV S.sp]
 o6:af W (w.heap.size+1) (fW d)
 o7:af W (w.heap.size+1+1) (aX x)
 o8:af W (w.heap.size+1+1+1) [vI 0,vI 0,vI 0,vI 0,vI 0,vI 0,vI 0,vI 0,vI 0,vI 0,vI 0,vI 0,vI 0,vI 0,.bool false]
 o9:af W (w.heap.size+1+1+1+1) [vI 0,vI 0,vI 0]
 oF:af W (w.heap.size+1+1+1+1+1) [cL (w.heap.size+1+1)]
 z:W.heap.size=w.heap.size+1+1+1+1+1+1
theorem ey(w:ag)(S:aE)(d:Dd)(x:bP):∃W,(((((w.alloc (.cells #[pV S.sp] 56)).alloc (.cells #[vI d.k,vI d.a,vI d.b,vI d.i,vI d.n] 52)).alloc (.cells #[vI x.b,vI x.p,rg x.R 0,rg x.R 1,rg x.R 2,rg x.R 3,rg x.R 4,rg x.R 5,rg x.V 0,rg x.V 1,rg x.V 2,rg x.V 3,rg x.V 4,rg x.V 5,.bool x.live] 31)).alloc (.cells #[vI 0,vI 0,vI 0,vI 0,vI 0,vI 0,vI 0,vI 0,vI 0,vI 0,vI 0,vI 0,vI 0,vI 0,.bool false] 31)).alloc (.cells #[vI 0,vI 0,vI 0] 35)).alloc (.cells #[cL (w.heap.size+1+1)] 175)=W/\tR w W S d x:=by
 obtain⟨W1,e1,k1,o1,s1⟩:=lJ w [pV S.sp] 56;obtain⟨W2,e2,k2,o2,s2⟩:=lJ W1 [vI d.k,vI d.a,vI d.b,vI d.i,vI d.n] 52;obtain⟨W3,e3,k3,o3,s3⟩:=lJ W2 [vI x.b,vI x.p,rg x.R 0,rg x.R 1,rg x.R 2,rg x.R 3,rg x.R 4,rg x.R 5,rg x.V 0,rg x.V 1,rg x.V 2,rg x.V 3,rg x.V 4,rg x.V 5,.bool x.live] 31;obtain⟨W4,e4,k4,o4,s4⟩:=lJ W3 [vI 0,vI 0,vI 0,vI 0,vI 0,vI 0,vI 0,vI 0,vI 0,vI 0,vI 0,vI 0,vI 0,vI 0,.bool false] 31;obtain⟨W5,e5,k5,o5,s5⟩:=lJ W4 [vI 0,vI 0,vI 0] 35;obtain⟨W6,e6,k6,o6,s6⟩:=lJ W5 [cL (w.heap.size+1+1)] 175;rw[s1] at o2 s2;rw[s2] at o3 s3;rw[s3] at o4 s4;rw[s4] at o5 s5;rw[s5] at o6 s6;have c56:=k5.trans k6;have DT:=k4.trans c56;have c36:=k3.trans DT;have c26:=k2.trans c36;exact⟨W6,by rw[e1,e2,e3,e4,e5,e6],k1.trans c26,o1.calm c26,o2.calm c36,o3.calm DT,o4.calm c56,o5.calm k6,o6,s6⟩
theorem gD{W w5 W9:ag}{τ0:Nat->Nat}{d:Dd}{x:bP}{s':Nat}{R:aE->Prop}(hW:tR w W S d x)(tk:oO w τ τ0)(fr:∀k,w.heap.size<=k->τ0 k=1000)(n5:Nx W τ0 s' q S w5 R)(f:Fr (λb=>w.heap.size<=b/\b<W.heap.size) w5 W9):Nx w τ s' q S W9 R:=by
 obtain⟨dW,S5,k1,k2,k3,k4⟩:=n5;have K:aC w τ0 w5 dW:=(aC.calm τ0 hW.c).trans k2;refine⟨dW,S5,k1.gL f (λb hb=>by rw[k2.tg b hb.2,fr b hb.1];omega),aC.dE ⟨K.fr.join f (λj hj e=>by omega),K.tg⟩ tk,k3,k4⟩
theorem tR.calm{W W':ag}{d:Dd}{x:bP}(h:tR w W S d x)(c:Calm W W')(e:W'.heap.size=W.heap.size):tR w W' S d x:=⟨h.c.trans c,h.o4.calm c,h.o6.calm c,h.o7.calm c,h.o8.calm c,h.o9.calm c,h.oF.calm c,by rw[e];exact h.z⟩
def AO(S:aE)(t:Int)(d:Dd)(e:Int)(S':aE):Prop:=(d.k≠14/\Jd S t e S')\/(d.k=14/\AbD S t e S')
def NW(d:Dd)(x x':bP)(e:Int):Prop:=∃xl:bP,xl.R.length=6/\(∀a∈xl.R,a<=131072)/\xl.b=x.b/\xl.p=x.p/\xl.V=x.V/\xl.live=x.live/\((x'=xl.fQ e/\(d.k=14->e≠0))\/(d.k=14/\e=0/\x' = { x.back with b:=x.b+1 }))
def oP(w:ag)(τ:Nat->Nat)(s q:Nat)(S:aE)(t:Int)(d:Dd)(x:bP)(en:Ending)(w':ag):Prop:=∃ (x':bP) (e v:Int),en=.returned (.tuple #[bQ x',cS 2 e v])/\bX e/\NW d x x' e/\Nx w τ (s+1) q S w' (AO S t d e)
theorem Jd.same(S:aE)(t:Int):Jd S t 0 S:=.inr (.inl ⟨by decide,nf0,Rn.refl S⟩)
structure yV(x:bP):Prop where
 b:0<=x.b/\x.b<=1000
 p:0<=x.p/\x.p<=1000
 r:x.R.length=6
 rp:∀a∈x.R,a<=131072
theorem yV.xf{x:bP}(h:yV x){d:Dd}(hd:d.k≠14){a v:Nat}(hv:v<=131072)(e:Int):NW d x ((x.xf a v e).fQ e) e:=by
 refine⟨x.xf a v e,?_,?_,?_,?_,?_,?_,.inl ⟨rfl,λk=>absurd k hd⟩⟩ <;> unfold bP.xf <;> split
 ·simpa using h.r
 ·exact h.r
 ·intro y hy;rcases List.mem_or_eq_of_mem_set hy with hy|rfl
  ·exact h.rp y hy
  ·exact hv
 ·exact h.rp
 all_goals rfl
theorem yV.at{x:bP}(h:yV x)(j:Nat):x.R.getD j 0<=131072:=by
 by_cases hj:j<x.R.length
 ·exact h.rp _ (get_mem 0 hj)
 ·rw[aS,List.getElem?_eq_none (by omega)];exact bY _
theorem M7(h:St w τ s q S)(hs:s<100000)(hq:q<=100000){x:bP}(hx:yV x)(t:Int)(ht:bX t){a b:Nat}(lT:a<6)(kG:b<6){i n:Nat}(hi:i<=4)(hn:n<=4) :
 aJ prog 45 #[pV S.sp,vI t,fX ⟨1,a,b,(i:Int),(n:Int)⟩,bQ x] w (oP w τ s q S t ⟨1,a,b,(i:Int),(n:Int)⟩ x):=by
 obtain⟨τ0,hf,tk,fr⟩:=h.fresh;have cM:=cF;have iQ:=dP;obtain⟨W,eT,hW⟩:=ey w S ⟨1,a,b,(i:Int),(n:Int)⟩ x;simp only[] at eT hW;have qQ:=(hW.o6 1 _ rfl).1;have qR:=(hW.o6 2 _ rfl).1;have qU:=(hW.o6 0 _ rfl).1;have ly:=(hW.o7 (2+a) _ (cG lT)).1;have lz:=(hW.o7 (2+b) _ (cG kG)).1;have a0:(0:Int)<=a:=by omega
 have a1:(a:Int)<6:=by omega
 have b0:(0:Int)<=b:=by omega
 have b1:(b:Int)<6:=by omega
 simp only[rg,cL,aS] at eT ly lz;simp only[fX,bQ,rg];go_in;go_wp2_with fail
 go_quiet (fail)
 clear eT cM iQ qQ qR ly lz;have hV:tR w (W.drewN nq) S ⟨1,a,b,(i:Int),(n:Int)⟩ x:=hW.calm (ah.drewN nq) rfl;clear hW qU;generalize W.drewN nq=W' at *;have y4:=(hV.o4 0 _ rfl).1;have tN:=(hV.o6 0 _ rfl).1;have pD:=(hV.o6 3 _ rfl).1;have pE:=(hV.o6 4 _ rfl).1;have yF:=(hV.oF 0 _ rfl).1;have aM:∀j,j<=5->w.heap.size+j<W'.heap.size:=λj hj=>by rw[hV.z];omega
 have ky:=hx.at b;have kx:=hx.at a;rw[aS] at kx ky;obtain⟨pb,cj⟩:=ao (x.R[b]?.getD 0);obtain⟨pa,cB⟩:=ao (x.R[a]?.getD 0);rw[cj] at ky;rw[cB] at kx;rw[cj,cB];have oc:=Bb (hf.calm hV.c) hs hq t ht (p:=i) (d:=n) (fn:=false) ⟨by omega,by omega,λe=>by cases e⟩;replace cj:=hid cj;replace cB:=hid cB;go_wp2_with fail
 refine oc.mono ?_;rintro en w5 ⟨v0,x0,rfl,ye,rz,jb,n5⟩;clear oc;obtain⟨v,rfl⟩:∃v:Nat,v0=v:=⟨v0.toNat,by omega⟩;have pL:v<=131072:=by omega
 obtain⟨dW,S5,p1,p2,p3,p4⟩:=n5;have tg:∀j,j<=5->500<=τ0 (w.heap.size+j):=λj hj=>by rw[fr _ (by omega)];omega
 have Dg:∀j,j<=5->500<=dW (w.heap.size+j):=λj hj=>by rw[p2.tg _ (aM j hj)];exact tg j hj
 have q7:=p2.bH hV.o7 (tg 2 (by omega));have q6:=p2.bH hV.o6 (tg 1 (by omega));have qF:=p2.bH hV.oF (tg 5 (by omega));have q4:=p2.bH hV.o4 (tg 0 (by omega));have q8:=p2.bH hV.o8 (tg 3 (by omega));have q9:=p2.bH hV.o9 (tg 4 (by omega));have e4:Own w5 (w.heap.size) 0 (pV S5.sp):=by rw[p3.sp];exact q4 0 _ rfl
 have ol:=rB p1 (e:=x0) (v:=v) q7 q6 (qF 0 _ rfl) e4 rfl lT hx.r (by omega) (by omega) (by omega) (Dg 2 (by omega)) hx.b hx.p pL;have n5:Nx W' τ0 (s+1) q S w5 (AO S t ⟨1,a,b,(i:Int),(n:Int)⟩ x0):=⟨dW,S5,p1,p2,p3,.inl ⟨by simp,p4.2⟩⟩;clear p1 p2 p3 p4 y4 tN pD pE yF q6 q7 qF q4 e4;go_wp2_with fail
 refine ol.mono ?_;rintro en w6 ⟨sv,rfl,f6⟩;clear ol;have kX:=q8.fr f6 (by omega);have lK:=q9.fr f6 (by omega);have hX:=hx.xf (d:=⟨1,a,b,(i:Int),(n:Int)⟩) (by simp) (a:=a) pL x0;generalize (x.xf a v x0).fQ x0=x2 at *;simp only[bQ,cS,rg];obtain⟨y0,z0,y1,z1,y2,z2,y3,z3,y4,z4,y5,z5,y6,z6,y7,z7,y8,z8,y9,z9,j_,qB,kY,sI,iL,z12,jv,qM,iM,nT⟩:=af.kt kX;obtain⟨yO,vW,yP,vX,yQ,vY⟩:=af.pG lK;have T1:=kX.whole (us:=(aX x2)) rfl;have F1:=sK w6 (w.heap.size+1+1+1) 0 (aX x2);have U0:=lK.fr F1 (by omega);have U:=U0.whole (us:=[vI 2,vI x0,vI sv]) rfl;have F2:Fr (λk=>k=w.heap.size+1+1+1+1) (w6.setCells (w.heap.size+1+1+1) 0 (aX x2)) ((w6.setCells (w.heap.size+1+1+1) 0 (aX x2)).setCells (w.heap.size+1+1+1+1) 0 [vI 2,vI x0,vI sv]):=Fr.setCells (S:=λk=>k=w.heap.size+1+1+1+1) rfl _ _ ah;have T:=T1.fr F2 (by omega)
 have hF:Fr (λb=>w.heap.size<=b/\b<W'.heap.size) w5 ((w6.setCells (w.heap.size+1+1+1) 0 (aX x2)).setCells (w.heap.size+1+1+1+1) 0 [vI 2,vI x0,vI sv]):=
  (((f6.mono (λb _ e=>by have:=aM 2 (by omega);omega)).trans (F1.mono (λb _ e=>by have:=aM 3 (by omega);omega))).trans (F2.mono (λb _ e=>by have:=aM 4 (by omega);omega)))
 have hP:oP w τ s q S t ⟨1,a,b,(i:Int),(n:Int)⟩ x (.returned (.tuple #[bQ x2,cS 2 x0 sv])) ((w6.setCells (w.heap.size+1+1+1) 0 (aX x2)).setCells (w.heap.size+1+1+1+1) 0 [vI 2,vI x0,vI sv]):=⟨x2,x0,sv,rfl,jb,hX,gD hV tk fr n5 hF⟩;replace hP:=hid hP;replace T:=hid T;replace U:=hid U;clear T1 F1 U0 F2 hF n5 hX q8 q9;go_wp2;exact bodyPost_ret (v:=.tuple #[bQ x2,cS 2 x0 sv]) (cC (i:=8) (j:=9) rfl rfl rfl T.out U.out) rfl hP.out
theorem M9(h:St w τ s q S)(hs:s<100000)(hq:q<=100000){x:bP}(hx:yV x)(t:Int)(ht:bX t){a b:Nat}(lT:a<6)(kG:b<6){i n:Nat}(hi:i<=4)(hn:n<=4) :
 aJ prog 45 #[pV S.sp,vI t,fX ⟨2,a,b,(i:Int),(n:Int)⟩,bQ x] w (oP w τ s q S t ⟨2,a,b,(i:Int),(n:Int)⟩ x):=by
 obtain⟨τ0,hf,tk,fr⟩:=h.fresh;have cM:=cF;have iQ:=dP;obtain⟨W,eT,hW⟩:=ey w S ⟨2,a,b,(i:Int),(n:Int)⟩ x;simp only[] at eT hW;have qQ:=(hW.o6 1 _ rfl).1;have qR:=(hW.o6 2 _ rfl).1;have qU:=(hW.o6 0 _ rfl).1;have ly:=(hW.o7 (2+a) _ (cG lT)).1;have lz:=(hW.o7 (2+b) _ (cG kG)).1;have a0:(0:Int)<=a:=by omega
 have a1:(a:Int)<6:=by omega
 have b0:(0:Int)<=b:=by omega
 have b1:(b:Int)<6:=by omega
 simp only[rg,cL,aS] at eT ly lz;simp only[fX,bQ,rg];go_in;go_wp2_with fail
 go_quiet (fail)
 clear eT cM iQ qQ qR ly lz;have hV:tR w (W.drewN nq) S ⟨2,a,b,(i:Int),(n:Int)⟩ x:=hW.calm (ah.drewN nq) rfl;clear hW qU;generalize W.drewN nq=W' at *;have y4:=(hV.o4 0 _ rfl).1;have tN:=(hV.o6 0 _ rfl).1;have pD:=(hV.o6 3 _ rfl).1;have pE:=(hV.o6 4 _ rfl).1;have yF:=(hV.oF 0 _ rfl).1;have aM:∀j,j<=5->w.heap.size+j<W'.heap.size:=λj hj=>by rw[hV.z];omega
 have ky:=hx.at b;have kx:=hx.at a;rw[aS] at kx ky;obtain⟨pb,cj⟩:=ao (x.R[b]?.getD 0);obtain⟨pa,cB⟩:=ao (x.R[a]?.getD 0);rw[cj] at ky;rw[cB] at kx;rw[cj,cB];have oc:=Bb (hf.calm hV.c) hs hq t ht (p:=i) (d:=n) (fn:=true) ⟨by omega,by omega,λe=>by cases e⟩;replace cj:=hid cj;replace cB:=hid cB;go_wp2_with fail
 refine oc.mono ?_;rintro en w5 ⟨v0,x0,rfl,ye,rz,jb,n5⟩;clear oc;obtain⟨v,rfl⟩:∃v:Nat,v0=v:=⟨v0.toNat,by omega⟩;have pL:v<=131072:=by omega
 obtain⟨dW,S5,p1,p2,p3,p4⟩:=n5;have tg:∀j,j<=5->500<=τ0 (w.heap.size+j):=λj hj=>by rw[fr _ (by omega)];omega
 have Dg:∀j,j<=5->500<=dW (w.heap.size+j):=λj hj=>by rw[p2.tg _ (aM j hj)];exact tg j hj
 have q7:=p2.bH hV.o7 (tg 2 (by omega));have q6:=p2.bH hV.o6 (tg 1 (by omega));have qF:=p2.bH hV.oF (tg 5 (by omega));have q4:=p2.bH hV.o4 (tg 0 (by omega));have q8:=p2.bH hV.o8 (tg 3 (by omega));have q9:=p2.bH hV.o9 (tg 4 (by omega));have e4:Own w5 (w.heap.size) 0 (pV S5.sp):=by rw[p3.sp];exact q4 0 _ rfl
 have ol:=rB p1 (e:=x0) (v:=v) q7 q6 (qF 0 _ rfl) e4 rfl lT hx.r (by omega) (by omega) (by omega) (Dg 2 (by omega)) hx.b hx.p pL;have n5:Nx W' τ0 (s+1) q S w5 (AO S t ⟨2,a,b,(i:Int),(n:Int)⟩ x0):=⟨dW,S5,p1,p2,p3,.inl ⟨by simp,p4.2⟩⟩;clear p1 p2 p3 p4 y4 tN pD pE yF q6 q7 qF q4 e4;go_wp2_with fail
 refine ol.mono ?_;rintro en w6 ⟨sv,rfl,f6⟩;clear ol;have kX:=q8.fr f6 (by omega);have lK:=q9.fr f6 (by omega);have hX:=hx.xf (d:=⟨2,a,b,(i:Int),(n:Int)⟩) (by simp) (a:=a) pL x0;generalize (x.xf a v x0).fQ x0=x2 at *;simp only[bQ,cS,rg];obtain⟨y0,z0,y1,z1,y2,z2,y3,z3,y4,z4,y5,z5,y6,z6,y7,z7,y8,z8,y9,z9,j_,qB,kY,sI,iL,z12,jv,qM,iM,nT⟩:=af.kt kX;obtain⟨yO,vW,yP,vX,yQ,vY⟩:=af.pG lK;have T1:=kX.whole (us:=(aX x2)) rfl;have F1:=sK w6 (w.heap.size+1+1+1) 0 (aX x2);have U0:=lK.fr F1 (by omega);have U:=U0.whole (us:=[vI 2,vI x0,vI sv]) rfl;have F2:Fr (λk=>k=w.heap.size+1+1+1+1) (w6.setCells (w.heap.size+1+1+1) 0 (aX x2)) ((w6.setCells (w.heap.size+1+1+1) 0 (aX x2)).setCells (w.heap.size+1+1+1+1) 0 [vI 2,vI x0,vI sv]):=Fr.setCells (S:=λk=>k=w.heap.size+1+1+1+1) rfl _ _ ah;have T:=T1.fr F2 (by omega)
 have hF:Fr (λb=>w.heap.size<=b/\b<W'.heap.size) w5 ((w6.setCells (w.heap.size+1+1+1) 0 (aX x2)).setCells (w.heap.size+1+1+1+1) 0 [vI 2,vI x0,vI sv]):=
  (((f6.mono (λb _ e=>by have:=aM 2 (by omega);omega)).trans (F1.mono (λb _ e=>by have:=aM 3 (by omega);omega))).trans (F2.mono (λb _ e=>by have:=aM 4 (by omega);omega)))
 have hP:oP w τ s q S t ⟨2,a,b,(i:Int),(n:Int)⟩ x (.returned (.tuple #[bQ x2,cS 2 x0 sv])) ((w6.setCells (w.heap.size+1+1+1) 0 (aX x2)).setCells (w.heap.size+1+1+1+1) 0 [vI 2,vI x0,vI sv]):=⟨x2,x0,sv,rfl,jb,hX,gD hV tk fr n5 hF⟩;replace hP:=hid hP;replace T:=hid T;replace U:=hid U;clear T1 F1 U0 F2 hF n5 hX q8 q9;go_wp2;exact bodyPost_ret (v:=.tuple #[bQ x2,cS 2 x0 sv]) (cC (i:=8) (j:=9) rfl rfl rfl T.out U.out) rfl hP.out
end
section
variable {w:ag}{τ:Nat->Nat}{s q:Nat}{S:aE}
theorem M_(h:St w τ s q S)(hs:s<100000)(hq:q<=100000){x:bP}(hx:yV x)(t:Int)(ht:bX t){a b:Nat}(lT:a<6)(kG:b<6) :
 aJ prog 45 #[pV S.sp,vI t,fX ⟨3,a,b,0,0⟩,bQ x] w (oP w τ s q S t ⟨3,a,b,0,0⟩ x):=by
 obtain⟨τ0,hf,tk,fr⟩:=h.fresh;have cM:=cF;have iQ:=dP;obtain⟨W,eT,hW⟩:=ey w S ⟨3,a,b,0,0⟩ x;simp only[] at eT hW;have qQ:=(hW.o6 1 _ rfl).1;have qR:=(hW.o6 2 _ rfl).1;have qU:=(hW.o6 0 _ rfl).1;have ly:=(hW.o7 (2+a) _ (cG lT)).1;have lz:=(hW.o7 (2+b) _ (cG kG)).1;have a0:(0:Int)<=a:=by omega
 have a1:(a:Int)<6:=by omega
 have b0:(0:Int)<=b:=by omega
 have b1:(b:Int)<6:=by omega
 simp only[rg,cL,aS] at eT ly lz;simp only[fX,bQ,rg];go_in;go_wp2_with fail
 go_quiet (fail)
 clear eT cM iQ qQ qR ly lz;have hV:tR w (W.drewN nq) S ⟨3,a,b,0,0⟩ x:=hW.calm (ah.drewN nq) rfl;clear hW qU;generalize W.drewN nq=W' at *;have y4:=(hV.o4 0 _ rfl).1;have tN:=(hV.o6 0 _ rfl).1;have pD:=(hV.o6 3 _ rfl).1;have pE:=(hV.o6 4 _ rfl).1;have yF:=(hV.oF 0 _ rfl).1;have aM:∀j,j<=5->w.heap.size+j<W'.heap.size:=λj hj=>by rw[hV.z];omega
 have ky:=hx.at b;have kx:=hx.at a;rw[aS] at kx ky;obtain⟨pb,cj⟩:=ao (x.R[b]?.getD 0);obtain⟨pa,cB⟩:=ao (x.R[a]?.getD 0);rw[cj] at ky;rw[cB] at kx;rw[cj,cB];have oc:=Q4 (hf.calm hV.c) hs hq t ht ky;replace cj:=hid cj;replace cB:=hid cB;go_wp2_with fail
 refine oc.mono ?_;rintro en w5 ⟨v0,x0,rfl,ye,rz,jb,n5⟩;clear oc;obtain⟨v,rfl⟩:∃v:Nat,v0=v:=⟨v0.toNat,by omega⟩;have pL:v<=131072:=by omega
 have PE:x.R.getD (b:Int).toNat 0=pb:=by rw[aS,Int.toNat_natCast];exact cj.out
 obtain⟨dW,S5,p1,p2,p3,p4⟩:=n5;have tg:∀j,j<=5->500<=τ0 (w.heap.size+j):=λj hj=>by rw[fr _ (by omega)];omega
 have Dg:∀j,j<=5->500<=dW (w.heap.size+j):=λj hj=>by rw[p2.tg _ (aM j hj)];exact tg j hj
 have q7:=p2.bH hV.o7 (tg 2 (by omega));have q6:=p2.bH hV.o6 (tg 1 (by omega));have qF:=p2.bH hV.oF (tg 5 (by omega));have q4:=p2.bH hV.o4 (tg 0 (by omega));have q8:=p2.bH hV.o8 (tg 3 (by omega));have q9:=p2.bH hV.o9 (tg 4 (by omega));have e4:Own w5 (w.heap.size) 0 (pV S5.sp):=by rw[p3.sp];exact q4 0 _ rfl
 have ol:=rB p1 (e:=x0) (v:=v) q7 q6 (qF 0 _ rfl) e4 rfl lT hx.r (by omega) (by omega) (by omega) (Dg 2 (by omega)) hx.b hx.p pL;have n5:Nx W' τ0 (s+1) q S w5 (AO S t ⟨3,a,b,0,0⟩ x0):=⟨dW,S5,p1,p2,p3,.inl ⟨by simp,p4.2⟩⟩;clear p1 p2 p3 p4 y4 tN pD pE yF q6 q7 qF q4 e4;go_wp2_with fail
 refine ol.mono ?_;rintro en w6 ⟨sv,rfl,f6⟩;clear ol;have kX:=q8.fr f6 (by omega);have lK:=q9.fr f6 (by omega);have hX:=hx.xf (d:=⟨3,a,b,0,0⟩) (by simp) (a:=a) pL x0;generalize (x.xf a v x0).fQ x0=x2 at *;simp only[bQ,cS,rg];obtain⟨y0,z0,y1,z1,y2,z2,y3,z3,y4,z4,y5,z5,y6,z6,y7,z7,y8,z8,y9,z9,j_,qB,kY,sI,iL,z12,jv,qM,iM,nT⟩:=af.kt kX;obtain⟨yO,vW,yP,vX,yQ,vY⟩:=af.pG lK;have T1:=kX.whole (us:=(aX x2)) rfl;have F1:=sK w6 (w.heap.size+1+1+1) 0 (aX x2);have U0:=lK.fr F1 (by omega);have U:=U0.whole (us:=[vI 2,vI x0,vI sv]) rfl;have F2:Fr (λk=>k=w.heap.size+1+1+1+1) (w6.setCells (w.heap.size+1+1+1) 0 (aX x2)) ((w6.setCells (w.heap.size+1+1+1) 0 (aX x2)).setCells (w.heap.size+1+1+1+1) 0 [vI 2,vI x0,vI sv]):=Fr.setCells (S:=λk=>k=w.heap.size+1+1+1+1) rfl _ _ ah;have T:=T1.fr F2 (by omega)
 have hF:Fr (λb=>w.heap.size<=b/\b<W'.heap.size) w5 ((w6.setCells (w.heap.size+1+1+1) 0 (aX x2)).setCells (w.heap.size+1+1+1+1) 0 [vI 2,vI x0,vI sv]):=
  (((f6.mono (λb _ e=>by have:=aM 2 (by omega);omega)).trans (F1.mono (λb _ e=>by have:=aM 3 (by omega);omega))).trans (F2.mono (λb _ e=>by have:=aM 4 (by omega);omega)))
 have hP:oP w τ s q S t ⟨3,a,b,0,0⟩ x (.returned (.tuple #[bQ x2,cS 2 x0 sv])) ((w6.setCells (w.heap.size+1+1+1) 0 (aX x2)).setCells (w.heap.size+1+1+1+1) 0 [vI 2,vI x0,vI sv]):=⟨x2,x0,sv,rfl,jb,hX,gD hV tk fr n5 hF⟩;replace hP:=hid hP;replace T:=hid T;replace U:=hid U;clear T1 F1 U0 F2 hF n5 hX q8 q9;go_wp2;exact bodyPost_ret (v:=.tuple #[bQ x2,cS 2 x0 sv]) (cC (i:=8) (j:=9) rfl rfl rfl T.out U.out) rfl hP.out
theorem Na(h:St w τ s q S)(hs:s<100000)(hq:q<=100000){x:bP}(hx:yV x)(t:Int)(ht:bX t){a b:Nat}(lT:a<6)(kG:b<6){i:Nat}(hi:i<=7) :
 aJ prog 45 #[pV S.sp,vI t,fX ⟨4,a,b,(i:Int),0⟩,bQ x] w (oP w τ s q S t ⟨4,a,b,(i:Int),0⟩ x):=by
 obtain⟨τ0,hf,tk,fr⟩:=h.fresh;have cM:=cF;have iQ:=dP;obtain⟨W,eT,hW⟩:=ey w S ⟨4,a,b,(i:Int),0⟩ x;simp only[] at eT hW;have qQ:=(hW.o6 1 _ rfl).1;have qR:=(hW.o6 2 _ rfl).1;have qU:=(hW.o6 0 _ rfl).1;have ly:=(hW.o7 (2+a) _ (cG lT)).1;have lz:=(hW.o7 (2+b) _ (cG kG)).1;have a0:(0:Int)<=a:=by omega
 have a1:(a:Int)<6:=by omega
 have b0:(0:Int)<=b:=by omega
 have b1:(b:Int)<6:=by omega
 simp only[rg,cL,aS] at eT ly lz;simp only[fX,bQ,rg];go_in;go_wp2_with fail
 go_quiet (fail)
 clear eT cM iQ qQ qR ly lz;have hV:tR w (W.drewN nq) S ⟨4,a,b,(i:Int),0⟩ x:=hW.calm (ah.drewN nq) rfl;clear hW qU;generalize W.drewN nq=W' at *;have y4:=(hV.o4 0 _ rfl).1;have tN:=(hV.o6 0 _ rfl).1;have pD:=(hV.o6 3 _ rfl).1;have pE:=(hV.o6 4 _ rfl).1;have yF:=(hV.oF 0 _ rfl).1;have aM:∀j,j<=5->w.heap.size+j<W'.heap.size:=λj hj=>by rw[hV.z];omega
 have ky:=hx.at b;have kx:=hx.at a;rw[aS] at kx ky;obtain⟨pb,cj⟩:=ao (x.R[b]?.getD 0);obtain⟨pa,cB⟩:=ao (x.R[a]?.getD 0);rw[cj] at ky;rw[cB] at kx;rw[cj,cB];have oc:=TZ (hf.calm hV.c) hq t ht ky (k:=(i:Int)) ⟨by omega,by omega⟩;replace cj:=hid cj;replace cB:=hid cB;go_wp2_with fail
 refine oc.mono ?_;rintro en w5 ⟨v0,x0,rfl,ye,rz,jb,ft,n5⟩;clear oc;obtain⟨v,rfl⟩:∃v:Nat,v0=v:=⟨v0.toNat,by omega⟩;have pL:v<=131072:=by omega
 obtain⟨dW,S5,p1,p2,p3,p4⟩:=n5;have tg:∀j,j<=5->500<=τ0 (w.heap.size+j):=λj hj=>by rw[fr _ (by omega)];omega
 have Dg:∀j,j<=5->500<=dW (w.heap.size+j):=λj hj=>by rw[p2.tg _ (aM j hj)];exact tg j hj
 have q7:=p2.bH hV.o7 (tg 2 (by omega));have q6:=p2.bH hV.o6 (tg 1 (by omega));have qF:=p2.bH hV.oF (tg 5 (by omega));have q4:=p2.bH hV.o4 (tg 0 (by omega));have q8:=p2.bH hV.o8 (tg 3 (by omega));have q9:=p2.bH hV.o9 (tg 4 (by omega));have e4:Own w5 (w.heap.size) 0 (pV S5.sp):=by rw[p3.sp];exact q4 0 _ rfl
 have ol:=rB p1 (e:=x0) (v:=v) q7 q6 (qF 0 _ rfl) e4 rfl lT hx.r (by omega) (by omega) (by omega) (Dg 2 (by omega)) hx.b hx.p pL;have n5:Nx W' τ0 (s+1) q S w5 (AO S t ⟨4,a,b,(i:Int),0⟩ x0):=Nx.mono (s2:=s+1) (q2:=q) (⟨dW,S5,p1,p2,p3,.inl ⟨by simp,p4⟩⟩:Nx W' τ0 s q S w5 (AO S t ⟨4,a,b,(i:Int),0⟩ x0)) (Nat.le_succ _) (aD _) (λ_ h=>h);clear p1 p2 p3 p4 y4 tN pD pE yF q6 q7 qF q4 e4;go_wp2_with fail
 refine ol.mono ?_;rintro en w6 ⟨sv,rfl,f6⟩;clear ol;have kX:=q8.fr f6 (by omega);have lK:=q9.fr f6 (by omega);have hX:=hx.xf (d:=⟨4,a,b,(i:Int),0⟩) (by simp) (a:=a) pL x0;generalize (x.xf a v x0).fQ x0=x2 at *;simp only[bQ,cS,rg];obtain⟨y0,z0,y1,z1,y2,z2,y3,z3,y4,z4,y5,z5,y6,z6,y7,z7,y8,z8,y9,z9,j_,qB,kY,sI,iL,z12,jv,qM,iM,nT⟩:=af.kt kX;obtain⟨yO,vW,yP,vX,yQ,vY⟩:=af.pG lK;have T1:=kX.whole (us:=(aX x2)) rfl;have F1:=sK w6 (w.heap.size+1+1+1) 0 (aX x2);have U0:=lK.fr F1 (by omega);have U:=U0.whole (us:=[vI 2,vI x0,vI sv]) rfl;have F2:Fr (λk=>k=w.heap.size+1+1+1+1) (w6.setCells (w.heap.size+1+1+1) 0 (aX x2)) ((w6.setCells (w.heap.size+1+1+1) 0 (aX x2)).setCells (w.heap.size+1+1+1+1) 0 [vI 2,vI x0,vI sv]):=Fr.setCells (S:=λk=>k=w.heap.size+1+1+1+1) rfl _ _ ah;have T:=T1.fr F2 (by omega)
 have hF:Fr (λb=>w.heap.size<=b/\b<W'.heap.size) w5 ((w6.setCells (w.heap.size+1+1+1) 0 (aX x2)).setCells (w.heap.size+1+1+1+1) 0 [vI 2,vI x0,vI sv]):=
  (((f6.mono (λb _ e=>by have:=aM 2 (by omega);omega)).trans (F1.mono (λb _ e=>by have:=aM 3 (by omega);omega))).trans (F2.mono (λb _ e=>by have:=aM 4 (by omega);omega)))
 have hP:oP w τ s q S t ⟨4,a,b,(i:Int),0⟩ x (.returned (.tuple #[bQ x2,cS 2 x0 sv])) ((w6.setCells (w.heap.size+1+1+1) 0 (aX x2)).setCells (w.heap.size+1+1+1+1) 0 [vI 2,vI x0,vI sv]):=⟨x2,x0,sv,rfl,jb,hX,gD hV tk fr n5 hF⟩;replace hP:=hid hP;replace T:=hid T;replace U:=hid U;clear T1 F1 U0 F2 hF n5 hX q8 q9;go_wp2;exact bodyPost_ret (v:=.tuple #[bQ x2,cS 2 x0 sv]) (cC (i:=8) (j:=9) rfl rfl rfl T.out U.out) rfl hP.out
theorem Ng(h:St w τ s q S)(hs:s<100000)(hq:q<=100000){x:bP}(hx:yV x)(t:Int)(ht:bX t){a b:Nat}(lT:a<6)(kG:b<6) :
 aJ prog 45 #[pV S.sp,vI t,fX ⟨9,a,b,0,0⟩,bQ x] w (oP w τ s q S t ⟨9,a,b,0,0⟩ x):=by
 obtain⟨τ0,hf,tk,fr⟩:=h.fresh;have cM:=cF;have iQ:=dP;obtain⟨W,eT,hW⟩:=ey w S ⟨9,a,b,0,0⟩ x;simp only[] at eT hW;have qQ:=(hW.o6 1 _ rfl).1;have qR:=(hW.o6 2 _ rfl).1;have qU:=(hW.o6 0 _ rfl).1;have ly:=(hW.o7 (2+a) _ (cG lT)).1;have lz:=(hW.o7 (2+b) _ (cG kG)).1;have a0:(0:Int)<=a:=by omega
 have a1:(a:Int)<6:=by omega
 have b0:(0:Int)<=b:=by omega
 have b1:(b:Int)<6:=by omega
 simp only[rg,cL,aS] at eT ly lz;simp only[fX,bQ,rg];go_in;go_wp2_with fail
 go_quiet (fail)
 clear eT cM iQ qQ qR ly lz;have hV:tR w (W.drewN nq) S ⟨9,a,b,0,0⟩ x:=hW.calm (ah.drewN nq) rfl;clear hW qU;generalize W.drewN nq=W' at *;have y4:=(hV.o4 0 _ rfl).1;have tN:=(hV.o6 0 _ rfl).1;have pD:=(hV.o6 3 _ rfl).1;have pE:=(hV.o6 4 _ rfl).1;have yF:=(hV.oF 0 _ rfl).1;have aM:∀j,j<=5->w.heap.size+j<W'.heap.size:=λj hj=>by rw[hV.z];omega
 have ky:=hx.at b;have kx:=hx.at a;rw[aS] at kx ky;obtain⟨pb,cj⟩:=ao (x.R[b]?.getD 0);obtain⟨pa,cB⟩:=ao (x.R[a]?.getD 0);rw[cj] at ky;rw[cB] at kx;rw[cj,cB];have oc:=Qd (hf.calm hV.c) hq t ht ky;replace cj:=hid cj;replace cB:=hid cB;go_wp2_with fail
 refine oc.mono ?_;rintro en w5 ⟨v0,x0,rfl,ye,rz,jb,ft,n5⟩;clear oc;obtain⟨v,rfl⟩:∃v:Nat,v0=v:=⟨v0.toNat,by omega⟩;have pL:v<=131072:=by omega
 obtain⟨dW,S5,p1,p2,p3,p4⟩:=n5;have tg:∀j,j<=5->500<=τ0 (w.heap.size+j):=λj hj=>by rw[fr _ (by omega)];omega
 have Dg:∀j,j<=5->500<=dW (w.heap.size+j):=λj hj=>by rw[p2.tg _ (aM j hj)];exact tg j hj
 have q7:=p2.bH hV.o7 (tg 2 (by omega));have q6:=p2.bH hV.o6 (tg 1 (by omega));have qF:=p2.bH hV.oF (tg 5 (by omega));have q4:=p2.bH hV.o4 (tg 0 (by omega));have q8:=p2.bH hV.o8 (tg 3 (by omega));have q9:=p2.bH hV.o9 (tg 4 (by omega));have e4:Own w5 (w.heap.size) 0 (pV S5.sp):=by rw[p3.sp];exact q4 0 _ rfl
 have ol:=rB p1 (e:=x0) (v:=v) q7 q6 (qF 0 _ rfl) e4 rfl lT hx.r (by omega) (by omega) (by omega) (Dg 2 (by omega)) hx.b hx.p pL;have n5:Nx W' τ0 (s+1) q S w5 (AO S t ⟨9,a,b,0,0⟩ x0):=Nx.mono (s2:=s+1) (q2:=q) (⟨dW,S5,p1,p2,p3,.inl ⟨by simp,p4⟩⟩:Nx W' τ0 s q S w5 (AO S t ⟨9,a,b,0,0⟩ x0)) (Nat.le_succ _) (aD _) (λ_ h=>h);clear p1 p2 p3 p4 y4 tN pD pE yF q6 q7 qF q4 e4;go_wp2_with fail
 refine ol.mono ?_;rintro en w6 ⟨sv,rfl,f6⟩;clear ol;have kX:=q8.fr f6 (by omega);have lK:=q9.fr f6 (by omega);have hX:=hx.xf (d:=⟨9,a,b,0,0⟩) (by simp) (a:=a) pL x0;generalize (x.xf a v x0).fQ x0=x2 at *;simp only[bQ,cS,rg];obtain⟨y0,z0,y1,z1,y2,z2,y3,z3,y4,z4,y5,z5,y6,z6,y7,z7,y8,z8,y9,z9,j_,qB,kY,sI,iL,z12,jv,qM,iM,nT⟩:=af.kt kX;obtain⟨yO,vW,yP,vX,yQ,vY⟩:=af.pG lK;have T1:=kX.whole (us:=(aX x2)) rfl;have F1:=sK w6 (w.heap.size+1+1+1) 0 (aX x2);have U0:=lK.fr F1 (by omega);have U:=U0.whole (us:=[vI 2,vI x0,vI sv]) rfl;have F2:Fr (λk=>k=w.heap.size+1+1+1+1) (w6.setCells (w.heap.size+1+1+1) 0 (aX x2)) ((w6.setCells (w.heap.size+1+1+1) 0 (aX x2)).setCells (w.heap.size+1+1+1+1) 0 [vI 2,vI x0,vI sv]):=Fr.setCells (S:=λk=>k=w.heap.size+1+1+1+1) rfl _ _ ah;have T:=T1.fr F2 (by omega)
 have hF:Fr (λb=>w.heap.size<=b/\b<W'.heap.size) w5 ((w6.setCells (w.heap.size+1+1+1) 0 (aX x2)).setCells (w.heap.size+1+1+1+1) 0 [vI 2,vI x0,vI sv]):=
  (((f6.mono (λb _ e=>by have:=aM 2 (by omega);omega)).trans (F1.mono (λb _ e=>by have:=aM 3 (by omega);omega))).trans (F2.mono (λb _ e=>by have:=aM 4 (by omega);omega)))
 have hP:oP w τ s q S t ⟨9,a,b,0,0⟩ x (.returned (.tuple #[bQ x2,cS 2 x0 sv])) ((w6.setCells (w.heap.size+1+1+1) 0 (aX x2)).setCells (w.heap.size+1+1+1+1) 0 [vI 2,vI x0,vI sv]):=⟨x2,x0,sv,rfl,jb,hX,gD hV tk fr n5 hF⟩;replace hP:=hid hP;replace T:=hid T;replace U:=hid U;clear T1 F1 U0 F2 hF n5 hX q8 q9;go_wp2;exact bodyPost_ret (v:=.tuple #[bQ x2,cS 2 x0 sv]) (cC (i:=8) (j:=9) rfl rfl rfl T.out U.out) rfl hP.out
theorem I1(h:St w τ s q S)(hs:s<100000)(hq:q<=100000){x:bP}(hx:yV x)(t:Int)(ht:bX t){a b:Nat}(lT:a<6)(kG:b<6) :
 aJ prog 45 #[pV S.sp,vI t,fX ⟨10,a,b,0,0⟩,bQ x] w (oP w τ s q S t ⟨10,a,b,0,0⟩ x):=by
 obtain⟨τ0,hf,tk,fr⟩:=h.fresh;have cM:=cF;have iQ:=dP;obtain⟨W,eT,hW⟩:=ey w S ⟨10,a,b,0,0⟩ x;simp only[] at eT hW;have qQ:=(hW.o6 1 _ rfl).1;have qR:=(hW.o6 2 _ rfl).1;have qU:=(hW.o6 0 _ rfl).1;have ly:=(hW.o7 (2+a) _ (cG lT)).1;have lz:=(hW.o7 (2+b) _ (cG kG)).1;have a0:(0:Int)<=a:=by omega
 have a1:(a:Int)<6:=by omega
 have b0:(0:Int)<=b:=by omega
 have b1:(b:Int)<6:=by omega
 simp only[rg,cL,aS] at eT ly lz;simp only[fX,bQ,rg];go_in;go_wp2_with fail
 go_quiet (fail)
 clear eT cM iQ qQ qR ly lz;have hV:tR w (W.drewN nq) S ⟨10,a,b,0,0⟩ x:=hW.calm (ah.drewN nq) rfl;clear hW qU;generalize W.drewN nq=W' at *;have y4:=(hV.o4 0 _ rfl).1;have tN:=(hV.o6 0 _ rfl).1;have pD:=(hV.o6 3 _ rfl).1;have pE:=(hV.o6 4 _ rfl).1;have yF:=(hV.oF 0 _ rfl).1;have aM:∀j,j<=5->w.heap.size+j<W'.heap.size:=λj hj=>by rw[hV.z];omega
 have ky:=hx.at b;have kx:=hx.at a;rw[aS] at kx ky;obtain⟨pb,cj⟩:=ao (x.R[b]?.getD 0);obtain⟨pa,cB⟩:=ao (x.R[a]?.getD 0);rw[cj] at ky;rw[cB] at kx;rw[cj,cB];have oc:=QT (hf.calm hV.c) hq t ht;replace cj:=hid cj;replace cB:=hid cB;go_wp2_with fail
 refine oc.mono ?_;rintro en w5 ⟨v0,x0,rfl,ye,rz,jb,ft,n5⟩;clear oc;obtain⟨v,rfl⟩:∃v:Nat,v0=v:=⟨v0.toNat,by omega⟩;have pL:v<=131072:=by omega
 obtain⟨dW,S5,p1,p2,p3,p4⟩:=n5;have tg:∀j,j<=5->500<=τ0 (w.heap.size+j):=λj hj=>by rw[fr _ (by omega)];omega
 have Dg:∀j,j<=5->500<=dW (w.heap.size+j):=λj hj=>by rw[p2.tg _ (aM j hj)];exact tg j hj
 have q7:=p2.bH hV.o7 (tg 2 (by omega));have q6:=p2.bH hV.o6 (tg 1 (by omega));have qF:=p2.bH hV.oF (tg 5 (by omega));have q4:=p2.bH hV.o4 (tg 0 (by omega));have q8:=p2.bH hV.o8 (tg 3 (by omega));have q9:=p2.bH hV.o9 (tg 4 (by omega));have e4:Own w5 (w.heap.size) 0 (pV S5.sp):=by rw[p3.sp];exact q4 0 _ rfl
 have ol:=rB p1 (e:=x0) (v:=v) q7 q6 (qF 0 _ rfl) e4 rfl lT hx.r (by omega) (by omega) (by omega) (Dg 2 (by omega)) hx.b hx.p pL;have n5:Nx W' τ0 (s+1) q S w5 (AO S t ⟨10,a,b,0,0⟩ x0):=Nx.mono (s2:=s+1) (q2:=q) (⟨dW,S5,p1,p2,p3,.inl ⟨by simp,p4⟩⟩:Nx W' τ0 s q S w5 (AO S t ⟨10,a,b,0,0⟩ x0)) (Nat.le_succ _) (aD _) (λ_ h=>h);clear p1 p2 p3 p4 y4 tN pD pE yF q6 q7 qF q4 e4;go_wp2_with fail
 refine ol.mono ?_;rintro en w6 ⟨sv,rfl,f6⟩;clear ol;have kX:=q8.fr f6 (by omega);have lK:=q9.fr f6 (by omega);have hX:=hx.xf (d:=⟨10,a,b,0,0⟩) (by simp) (a:=a) pL x0;generalize (x.xf a v x0).fQ x0=x2 at *;simp only[bQ,cS,rg];obtain⟨y0,z0,y1,z1,y2,z2,y3,z3,y4,z4,y5,z5,y6,z6,y7,z7,y8,z8,y9,z9,j_,qB,kY,sI,iL,z12,jv,qM,iM,nT⟩:=af.kt kX;obtain⟨yO,vW,yP,vX,yQ,vY⟩:=af.pG lK;have T1:=kX.whole (us:=(aX x2)) rfl;have F1:=sK w6 (w.heap.size+1+1+1) 0 (aX x2);have U0:=lK.fr F1 (by omega);have U:=U0.whole (us:=[vI 2,vI x0,vI sv]) rfl;have F2:Fr (λk=>k=w.heap.size+1+1+1+1) (w6.setCells (w.heap.size+1+1+1) 0 (aX x2)) ((w6.setCells (w.heap.size+1+1+1) 0 (aX x2)).setCells (w.heap.size+1+1+1+1) 0 [vI 2,vI x0,vI sv]):=Fr.setCells (S:=λk=>k=w.heap.size+1+1+1+1) rfl _ _ ah;have T:=T1.fr F2 (by omega)
 have hF:Fr (λb=>w.heap.size<=b/\b<W'.heap.size) w5 ((w6.setCells (w.heap.size+1+1+1) 0 (aX x2)).setCells (w.heap.size+1+1+1+1) 0 [vI 2,vI x0,vI sv]):=
  (((f6.mono (λb _ e=>by have:=aM 2 (by omega);omega)).trans (F1.mono (λb _ e=>by have:=aM 3 (by omega);omega))).trans (F2.mono (λb _ e=>by have:=aM 4 (by omega);omega)))
 have hP:oP w τ s q S t ⟨10,a,b,0,0⟩ x (.returned (.tuple #[bQ x2,cS 2 x0 sv])) ((w6.setCells (w.heap.size+1+1+1) 0 (aX x2)).setCells (w.heap.size+1+1+1+1) 0 [vI 2,vI x0,vI sv]):=⟨x2,x0,sv,rfl,jb,hX,gD hV tk fr n5 hF⟩;replace hP:=hid hP;replace T:=hid T;replace U:=hid U;clear T1 F1 U0 F2 hF n5 hX q8 q9;go_wp2;exact bodyPost_ret (v:=.tuple #[bQ x2,cS 2 x0 sv]) (cC (i:=8) (j:=9) rfl rfl rfl T.out U.out) rfl hP.out
end
section
section
variable {P:Program}{ops:Array Oper}{Q:Exit->Act->ag->Prop}{md:Region.Mode}{S:ag->Prop}
def zQ(P:Program)(ops:Array Oper)(Q:Exit->Act->ag->Prop)(S:ag->Prop)(R:Act->ag->Prop):List (Bool × Nat)->Act->ag->Prop
 | [],a,w=>R a w
 | (true,i)::l,a,w=>∃o v,ops[i]?=some o/\YieldsIf P ops S o v a/\(∀c a w,Q (.panic c) (a.put o.dst v) w->Q (.panic c) a w)/\zQ P ops Q S R l (a.put o.dst v) w
 | (false,j)::l,a,w=>∃o,ops[j]?=some o/\Region.wanted o (yielded ops a.tmps)=true/\o.wp P a w (λa' w'=>S w'/\zQ P ops Q S R l a' w') Q
def Iz(md:Region.Mode)(ops:Array Oper)(n:Nat):List (Bool × Nat)->Array Bool->Bool
 | [],done=>(Region.ready md ops done).all λj=>decide (n<=j)
 | (b,i)::l,done=>(match b with|true=>(Region.ready md ops done).contains i && Region.free md ops done i|false=>decide (Region.ready md ops done=[i])) && decide (i<n) && Iz md ops n l (done.setIfInBounds i true)
theorem uW{R:Act->ag->Prop}{n:Nat}(f_:Region.noSelect ops=true)(tw:xF md ops n) :
 ∀ (l:List (Bool × Nat)) (done:Array Bool) (a:Act) (w:ag),HeadInv md ops n done->Iz md ops n l done=true->S w->zQ P ops Q S R l a w ->
   fu P md ops Q S n (λd a w=>((Region.ready md ops d).all λj=>decide (n<=j))=true/\R a w) l.length done a w
 | [],done,a,w,_,hB,_,h=>⟨by simpa[Iz] using hB,h⟩
 | (true,i)::l,done,a,w,inv,hB,hS,h=>by
   obtain⟨o,v,ho,hy,hQ,h⟩:=h;simp only[Iz,Bool.and_eq_true,decide_eq_true_eq] at hB;obtain⟨⟨⟨hr,hf⟩,gi⟩,D8⟩:=hB;have AE:i∈Region.ready md ops done:=by simpa using hr
   refine pj ho (Region.noSelect_spec f_) tw gi hQ (λxN a' w' hL j hj=>by
    have:=List.all_eq_true.1 hL.1 j hj
    simpa using this) _ done a w inv (Region.free_spec ho hf) AE hy hS ?_
   exact uW f_ tw l _ _ w (inv.set AE gi) D8 hS h
 | (false,j)::l,done,a,w,inv,hB,hS,h=>by
   obtain⟨o,ho,hw,h⟩:=h;simp only[Iz,Bool.and_eq_true,decide_eq_true_eq] at hB;obtain⟨⟨hr,hj⟩,D8⟩:=hB;refine⟨λh1=>(by rw[hr] at h1;cases h1),λi hi=>?_⟩;have oY:=hi;rw[hr] at hi;have RX:i=j:=by simpa using hi
   subst RX;refine⟨hj,?_⟩;unfold wpOp;simp only[ho,hw,if_true];exact .inl (Oper.wp_mono (λa' w' h'=>⟨h'.1,uW f_ tw l _ a' w' (inv.set oY hj) D8 h'.1 h'.2⟩) h)
end
theorem bW{P:Program}{id:Nat}{Q:Exit->Act->ag->Prop}{a:Act}{w:ag}{l:List Oper}(st:List (Bool × Nat))(S:ag->Prop)(hm:P.follows .mixedOrders=true)
 (hB:(Region.noSelect l.toArray && decide (st.length=l.toArray.size) && Iz .any l.toArray l.toArray.size st (Array.replicate l.toArray.size false))=true) (hS:S w.drew)
 (h:zQ P l.toArray Q S (λa' w'=>Q .normal a' w') st a w.drew):(Code.region id l.toArray true).wp P Q a w:=by
 simp only[Bool.and_eq_true,decide_eq_true_eq] at hB;obtain⟨⟨f_,hlen⟩,hp⟩:=hB
 have uR:HeadInv .any l.toArray l.toArray.size (Array.replicate l.toArray.size false):=
  ⟨by simp,λj oj _ hl=>(by rw[getD_replicate_false] at hl;cases hl),λt _ ht=>getD_in (by simpa using ht) (getD_replicate_false _ _)⟩
 have H:=uW (P:=P) (Q:=Q) (S:=S) (R:=λa' w'=>Q .normal a' w') f_ pz st _ a w.drew uR hp hS h;rw[hlen] at H;refine wp_region_any hm (dY (Q:=Q) (g:=0) (λdone a' w' hL=>?_) _ _ _ _ H);obtain⟨h1,h⟩:=hL;refine⟨List.eq_nil_iff_forall_not_mem.2 λi hi=>?_,h⟩;have h2:=List.all_eq_true.1 h1 i hi;obtain⟨o,ho,_⟩:=(mem_ready.1 hi).2;have:=(Array.getElem?_eq_some_iff.1 ho).1;simp at h2 this;omega
theorem au{P:Program}{ops:Array Oper}{Q:Exit->Act->ag->Prop}{S:ag->Prop}{R:Act->ag->Prop}{i:Nat}{l:List (Bool × Nat)}{a:Act}{w:ag}{o:Oper}(v:aA)(ho:ops[i]?=some o)(hw:Region.wanted o (yielded ops a.tmps)=true)(hy:∀w,S w->(execOp a.eval o).run P w=.ok (.value v) w)(hQ:∀c a w,Q (.panic c) (a.put o.dst v) w->Q (.panic c) a w)
 (h:zQ P ops Q S R l (a.put o.dst v) w):zQ P ops Q S R ((true,i)::l) a w:=⟨o,v,ho,.inl ⟨hw,hy⟩,hQ,h⟩
theorem bj{P:Program}{ops:Array Oper}{Q:Exit->Act->ag->Prop}{S:ag->Prop}{R:Act->ag->Prop}{j:Nat}{l:List (Bool × Nat)}{a:Act}{w:ag}{o:Oper}(ho:ops[j]?=some o)(hw:Region.wanted o (yielded ops a.tmps)=true)(h:o.wp P a w (λa' w'=>S w'/\zQ P ops Q S R l a' w') Q):zQ P ops Q S R ((false,j)::l) a w:=⟨o,ho,hw,h⟩
theorem eW{P:Program}{ops:Array Oper}{Q:Exit->Act->ag->Prop}{S:ag->Prop}{R:Act->ag->Prop}{a:Act}{w:ag}(h:R a w):zQ P ops Q S R [] a w:=h
end
