/- TopMemory: a part of its proof (Th3 Th4 Th5 Th6 Mix). -/
import Derived.Deep.MidRow
import Derived.Test.YtdffnjikmkgjkaaGreatTmAA
import Derived.Test.YtdffnjikmkgjkaaGreatTmAS
import Derived.Test.YtdffnjikmkgjkaaGreatTmAQ
import Derived.Test.YtdffnjikmkgjkaaGreatTmAN
set_option linter.unusedSimpArgs false
set_option linter.unusedVariables false
set_option maxHeartbeats 8000000
namespace Go.Proofs.YtdffnjikmkgjkaaGreat
section
open Go.RowKit Go.Shelf
theorem Fr.setCells {S:Nat→Prop}{b:Nat}(hb:S b):∀ (vs:List Value) (o:Nat) {a w:World},Fr S a w→Fr S a (w.setCells b o vs)
  | [],_,_,_,h=>h
  | v::r,o,a,w,h=>Fr.setCells hb r (o+1) (h.setCell (p:=⟨b,o,none⟩) (.inl hb) v)
theorem OwnL.whole {w:World}{b:Nat}{vs us:List Value}(h:OwnL w b vs)(hl:us.length=vs.length):OwnL (w.setCells b 0 us) b us:=fun i u hu=>by
  have hi:i<us.length:=(List.getElem?_eq_some_iff.1 hu).1;refine⟨?_,?_⟩
  · have:=World.cell?_setCells_in b us 0 w (fun j hj=>by
      obtain⟨v,hv⟩:∃v,vs[j]?=some v:=⟨vs[j]'(by omega),List.getElem?_eq_getElem _⟩
      rw[Nat.zero_add,(h j v hv).1];rfl) i hi
    rw[Nat.zero_add] at this;rw[this,←hu,List.getElem?_eq_getElem hi]
  · rw[World.frozen?_setCells];obtain⟨v,hv⟩:∃v,vs[i]?=some v:=⟨vs[i]'(by omega),List.getElem?_eq_getElem _⟩;exact(h i v hv).2
theorem OwnL.there {w:World}{b:Nat}{vs:List Value}(h:OwnL w b vs)(n:Nat)(hn:n=vs.length):w.there b 0 n:=fun j hj=>by
  obtain⟨v,hv⟩:∃v,vs[j]?=some v:=⟨vs[j]'(by omega),List.getElem?_eq_getElem _⟩;have:=h j v hv;rw[Nat.zero_add];exact⟨by rw[this.1];rfl,this.2⟩
theorem wpList_storeO {P:Program}{ops:Array Oper}{rest:List Oper}{op:Oper}{a:Act}{w:World}{Q:Exit→Act→World→Prop}(hgd:op.guard=none)(ty:TypeId)(x y:Operand)(ho:op.op = .store ty x y)
    (b:Nat) (cells:Array Value) (hx:a.eval x = .pointer (some ⟨b,0,none⟩)) (hy:a.eval y = .agg cells) {vs:List Value} (own:OwnL w b vs) (hn:cells.size=vs.length) (hi:(P.info? ty).map (·.size)=some cells.size) (h1:cells.all (·.oneCell')=true)
    (h:∀w',OwnL w' b cells.toList→Fr (fun k=>k=b) w w'→wpList P ops Q rest (a.put op.dst undef) w'):wpList P ops Q (op::rest) a w:=
  wpList_store_mid hgd ty x y ho b 0 cells hx hy (own.there _ hn) hi h1 (h _ (own.whole (by simpa using hn)) (Fr.setCells (S:=fun k=>k=b) rfl _ _ (Fr.refl _ _)))
theorem thC_len (x:ThD):(thC x).length=15:=rfl
theorem res_two {fn:Func}{i j:Nat}{W:World}{B5 B6:Nat}{x:ThD}{k e v:Int}{tmps:Array Value}(hf:fn.results = #[.cell i 34,.cell j 38])(h5:tmps[i]?.getD undef = .pointer (some ⟨B5,0,none⟩))(h6:tmps[j]?.getD undef = .pointer (some ⟨B6,0,none⟩))
    (t:OwnL W B5 (thC x)) (u:OwnL W B6 [vI k,vI e,vI v]):(results fn tmps).run Tryz.prog W = .ok (.tuple #[thV x,acV k e v]) W:=by
  simp only[thC,rg] at t;obtain⟨y0,y1,y2,y3,y4,y5,y6,y7,y8,y9,y10,y11,y12,y13,y14⟩:=OwnL.ce15 t;obtain⟨z0,z1,z2⟩:=OwnL.ce3 u;simp[results,hf,h5,h6,go_sem,thV,acV,rg,y0,y1,y2,y3,y4,y5,y6,y7,y8,y9,y10,y11,y12,y13,y14,z0,z1,z2]
set_option maxRecDepth 8000 in
theorem told_is {w:World}{x:ThD}{B:Nat}(h:OwnL w B (thC x))(hb:0≤x.b∧x.b≤1000)(hp:0≤x.p∧x.p≤1000)(v e:Int) :
    Calls Tryz.prog 78 #[vI v,vI e,.pointer (some ⟨B,0,none⟩)] w (EndP w x v e):=by
  have k2:Calm w ((w.alloc (.cells #[vI 0,vI 0,vI 0,vI 0,vI 0,vI 0,vI 0,vI 0,vI 0,vI 0,vI 0,vI 0,vI 0,vI 0,.bool false] 34)).alloc (.cells #[vI 0,vI 0,vI 0] 38)):=((Fr.refl _ _).alloc _).alloc _;have o5:OwnL ((w.alloc (.cells #[vI 0,vI 0,vI 0,vI 0,vI 0,vI 0,vI 0,vI 0,vI 0,vI 0,vI 0,vI 0,vI 0,vI 0,.bool false] 34)).alloc (.cells #[vI 0,vI 0,vI 0] 38)) w.heap.size [vI 0,vI 0,vI 0,vI 0,vI 0,vI 0,vI 0,vI 0,vI 0,vI 0,vI 0,vI 0,vI 0,vI 0,.bool false]:=(OwnL.nth2 w [_,_,_,_,_,_,_,_,_,_,_,_,_,_,_] _ _ rfl).alloc _;have o6:OwnL ((w.alloc (.cells #[vI 0,vI 0,vI 0,vI 0,vI 0,vI 0,vI 0,vI 0,vI 0,vI 0,vI 0,vI 0,vI 0,vI 0,.bool false] 34)).alloc (.cells #[vI 0,vI 0,vI 0] 38)) (w.heap.size+1) [vI 0,vI 0,vI 0]:=OwnL.nth2 (w.alloc _) [_,_,_] _ _ (by simp);generalize hW2:((w.alloc (.cells #[vI 0,vI 0,vI 0,vI 0,vI 0,vI 0,vI 0,vI 0,vI 0,vI 0,vI 0,vI 0,vI 0,vI 0,.bool false] 34)).alloc (.cells #[vI 0,vI 0,vI 0] 38))=W2 at *;have h2:=h.calm k2;simp only[thC,rg] at h2;obtain⟨y0,y1,y2,y3,y4,y5,y6,y7,y8,y9,y10,y11,y12,y13,y14⟩:=OwnL.ce15 h2;have oe:=tend_is W2 x hb hp v e;simp only[thV,rg] at oe;go_enter Tryz.func78,Tryz.ntmps78;go_wp2_with fail
  clear hW2;refine oe.mono ?_;rintro en w3 ⟨rfl,k3⟩;clear oe y0 y1 y2 y3 y4 y5 y6 y7 y8 y9 y10 y11 y12 y13 y14 h2;have o53:=o5.calm k3;have o63:=o6.calm k3;generalize hx2:x.endX e=x2 at *;generalize hv2:(if e=0 then v else 0)=v2 at *;replace hx2:=hid hx2;replace hv2:=hid hv2;simp only[thV,acV,rg];obtain⟨y0,z0,y1,z1,y2,z2,y3,z3,y4,z4,y5,z5,y6,z6,y7,z7,y8,z8,y9,z9,y10,z10,y11,z11,y12,z12,y13,z13,y14,z14⟩:=OwnL.cf15 o53;obtain⟨yy0,zz0,yy1,zz1,yy2,zz2⟩:=OwnL.cf3 o63;have T1:=o53.whole (us:=(thC x2)) rfl;have F1:=frC w3 (w.heap.size) 0 (thC x2);have U0:=o63.fr F1 (by omega);have U:=U0.whole (us:=[vI 2,vI e,vI v2]) rfl;have F2:Fr (fun k=>k=w.heap.size+1) (w3.setCells w.heap.size 0 (thC x2)) ((w3.setCells w.heap.size 0 (thC x2)).setCells (w.heap.size+1) 0 [vI 2,vI e,vI v2]):=Fr.setCells (S:=fun k=>k=w.heap.size+1) rfl _ _ (Fr.refl _ _);have T:=T1.fr F2 (by omega);have hC:Calm w ((w3.setCells w.heap.size 0 (thC x2)).setCells (w.heap.size+1) 0 [vI 2,vI e,vI v2]):=((k2.trans k3).join F1 (fun j hj e=>by omega)).join F2 (fun j hj e=>by omega);replace hC:=hid hC;replace T:=hid T;replace U:=hid U;clear T1 F1 U0 F2;go_wp2;exact bodyPost_ret (v:=.tuple #[thV x2,acV 2 e v2]) (res_two (i:=5) (j:=6) rfl rfl rfl T.out U.out) rfl ⟨by rw[hx2.out,hv2.out],hC.out⟩
end
section
open Go.RowKit Go.Shelf
theorem wp_storeO {P:Program}{op:Oper}{a:Act}{w:World}{K:Act→World→Prop}{Q:Exit→Act→World→Prop}(ty:TypeId)(x y:Operand)(ho:op.op = .store ty x y)
    (b:Nat) (cells:Array Value) (hx:a.eval x = .pointer (some ⟨b,0,none⟩)) (hy:a.eval y = .agg cells) {vs:List Value} (own:OwnL w b vs) (hn:cells.size=vs.length) (hi:(P.info? ty).map (·.size)=some cells.size) (h1:cells.all (·.oneCell')=true)
    (h:∀w',OwnL w' b cells.toList→Fr (fun k=>k=b) w w'→K (a.put op.dst undef) w'):op.wp P a w K Q:=
  wp_store_mid ty x y ho b 0 cells hx hy (own.there _ hn) hi h1 (h _ (own.whole (by simpa using hn)) (Fr.setCells (S:=fun k=>k=b) rfl _ _ (Fr.refl _ _)))
theorem thC_one (x:ThD):((thC x).toArray).all (·.oneCell')=true:=all_oneCell_toArray (by simp[thC,rg,Value.oneCell'])
theorem thC_set {x:ThD}(h:x.R.length=6){a:Nat}(ha:a<6)(v:Nat):(thC x).set (2+a) (vI (v:Int))=thC { x with R:=x.R.set a v }:=by
  obtain⟨b,p,R,V,live⟩:=x
  match R,h with
  | [r0,r1,r2,r3,r4,r5],_=>
    rcases(by omega:a=0∨a=1∨a=2∨a=3∨a=4∨a=5) with rfl|rfl|rfl|rfl|rfl|rfl <;> rfl
theorem thC_at {x:ThD}{a:Nat}(ha:a<6):(thC x)[2+a]?=some (vI ((x.R.getD a 0:Nat):Int)):=by
  rcases(by omega:a=0∨a=1∨a=2∨a=3∨a=4∨a=5) with rfl|rfl|rfl|rfl|rfl|rfl <;> rfl
variable {w:World}{τ:Nat→Nat}{s q:Nat}{S:StD}
theorem tserial_is (h:St w τ s q S){a:Nat}(ha:a≤131072):Calls Tryz.prog 81 #[pV S.sp,vI (a:Int)] w fun e w'=>(∃x:Nat,e = .returned (vI x))∧Calm w w':=by
  have hs:=sserial_is h ha
  by_cases h0:a=0
  · subst h0;clear hs;go_enter Tryz.func81,Tryz.ntmps81;go_wp2;go_ret;exact⟨⟨0,rfl⟩,Fr.refl _ _⟩
  · have e0:((a:Int)==0)=false:=by simp;omega
    go_enter Tryz.func81,Tryz.ntmps81;go_wp2_with fail
    refine hs.mono ?_;rintro e w' ⟨⟨x,rfl⟩,c⟩;clear hs;go_wp2;go_ret;exact⟨⟨_,rfl⟩,c⟩
def ThD.led (x:ThD)(a v:Nat)(e:Int):ThD:=if e=0 then { x with R:=x.R.set a v } else x
def LedP (w:World)(B7:Nat)(x:ThD)(a v:Nat)(e:Int)(en:Ending)(w':World):Prop:=∃sv:Int,en = .returned (.tuple #[thV ((x.led a v e).endX e),acV 2 e sv])∧Fr (fun b=>b=B7) w w'
abbrev toldF (B7:Nat):Value:=.func (.func 78) #[] #[.pointer (some ⟨B7,0,none⟩)]
set_option maxRecDepth 8000 in
theorem led_is (h:St w τ s q S){x:ThD}{d:Dd}{a v:Nat}{e:Int}{B7 B6 B10 B4:Nat}(o7:OwnL w B7 (thC x))(o6:OwnL w B6 (ddC d))(o10:Own w B10 0 (toldF B7))(o4:Own w B4 0 (pV S.sp))(ha:d.a=(a:Int))(ha6:a<6)(hR:x.R.length=6)
    (n6:B6≠B7) (n10:B10≠B7) (n4:B4≠B7) (t7:500≤τ B7) (hb:0≤x.b∧x.b≤1000) (hp:0≤x.p∧x.p≤1000) (hv:v≤131072) :
    Calls Tryz.prog 80 #[vI (v:Int),vI e,.pointer (some ⟨B10,0,none⟩),.pointer (some ⟨B7,0,none⟩),.pointer (some ⟨B6,0,none⟩),.pointer (some ⟨B4,0,none⟩)] w (LedP w B7 x a v e):=by
  have k2:Calm w ((w.alloc (.cells #[vI 0,vI 0,vI 0,vI 0,vI 0,vI 0,vI 0,vI 0,vI 0,vI 0,vI 0,vI 0,vI 0,vI 0,.bool false] 34)).alloc (.cells #[vI 0,vI 0,vI 0] 38)):=((Fr.refl _ _).alloc _).alloc _;have o5:OwnL ((w.alloc (.cells #[vI 0,vI 0,vI 0,vI 0,vI 0,vI 0,vI 0,vI 0,vI 0,vI 0,vI 0,vI 0,vI 0,vI 0,.bool false] 34)).alloc (.cells #[vI 0,vI 0,vI 0] 38)) w.heap.size [vI 0,vI 0,vI 0,vI 0,vI 0,vI 0,vI 0,vI 0,vI 0,vI 0,vI 0,vI 0,vI 0,vI 0,.bool false]:=(OwnL.nth2 w [_,_,_,_,_,_,_,_,_,_,_,_,_,_,_] _ _ rfl).alloc _;have o9:OwnL ((w.alloc (.cells #[vI 0,vI 0,vI 0,vI 0,vI 0,vI 0,vI 0,vI 0,vI 0,vI 0,vI 0,vI 0,vI 0,vI 0,.bool false] 34)).alloc (.cells #[vI 0,vI 0,vI 0] 38)) (w.heap.size+1) [vI 0,vI 0,vI 0]:=OwnL.nth2 (w.alloc _) [_,_,_] _ _ (by simp);have hl7:B7<w.heap.size:=o7.lt (by simp[thC]);generalize hW2:(w.alloc (.cells #[vI 0,vI 0,vI 0,vI 0,vI 0,vI 0,vI 0,vI 0,vI 0,vI 0,vI 0,vI 0,vI 0,vI 0,.bool false] 34)).alloc (.cells #[vI 0,vI 0,vI 0] 38)=W2 at *;have o72:=o7.calm k2;have y10:=(o10.calm k2).1
  by_cases h0:e=0
  · subst h0;have y6:=((o6.calm k2) 1 _ rfl).1;rw[ha] at y6;have c7:=o72 (2+a) _ (thC_at ha6);have c70:=c7.1;have c71:=c7.2;have F:Fr (fun b=>b=B7) W2 (W2.setCell ⟨B7,2+a,none⟩ (vI (v:Int))):=(Fr.refl (fun b=>b=B7) W2).setCell (p:=⟨B7,2+a,none⟩) (.inl rfl) _;have o73:=o72.set (2+a) (vI (v:Int)) (by rw[thC_len];omega);rw[thC_set hR ha6] at o73;have hst:=(h.calm k2).far F (fun b hb=>by rw[hb];exact t7);have y43:=F.cellAt (o4.calm k2).1 n4;have y103:=F.cellAt y10 n10;have ha0:(0:Int)≤a:=by omega
    have ha1:(a:Int)<6:=by omega
    obtain⟨W3,hW3⟩:∃W3,W2.setCell ⟨B7,2+a,none⟩ (vI (v:Int))=W3:=⟨_,rfl⟩;rw[hW3] at F o73 hst y43 y103;go_enter Tryz.func80,Tryz.ntmps80;go_wp2_with fail
    have kd:Calm W3 W3.drew:=(Fr.refl _ _).drew;have os:=tserial_is (hst.calm kd) hv;have o53:OwnL W3.drew w.heap.size [vI 0,vI 0,vI 0,vI 0,vI 0,vI 0,vI 0,vI 0,vI 0,vI 0,vI 0,vI 0,vI 0,vI 0,.bool false]:=(o5.fr F (by omega)).calm kd;have o93:OwnL W3.drew (w.heap.size+1) [vI 0,vI 0,vI 0]:=(o9.fr F (by omega)).calm kd;have o73d:=o73.calm kd;refine wp_region_phase [0,1,2] [3,4] 5 (fun w'=>w'.cell? ⟨B10,0,none⟩=some (toldF B7)∧w'.cell? ⟨B4,0,none⟩=some (pV S.sp)) (by kernel_rfl) (by kernel_rfl) ⟨y103,y43⟩ ?_;refine pickList_step (toldF B7) rfl rfl (fun w' hw'=>?_) (fun _ _ _ h=>h) ?_
    · have e1:=hw'.1;simp[go_sem,e1]
    refine pickList_step (pV S.sp) rfl rfl (fun w' hw'=>?_) (fun _ _ _ h=>h) ?_
    · have e1:=hw'.2;simp[go_sem,e1]
    refine pickList_step (vI (v:Int)) rfl rfl (fun w' hw'=>?_) (fun _ _ _ h=>h) ?_
    · simp[go_sem]
    simp only[pickList];refine pickSeq_step rfl rfl ?_;go_wp2_with fail
    refine os.mono ?_;rintro en w4 ⟨⟨sv,rfl⟩,k4⟩;have z10:=k4.cellAt y103 id;have z4:=k4.cellAt y43 id;refine⟨⟨z10,z4⟩,?_⟩;have ot:=told_is (o73d.calm k4) hb hp (sv:Int) 0;refine pickSeq_step rfl rfl ?_;go_wp2_with fail
    refine ot.mono ?_;rintro en w5 ⟨rfl,k5⟩;refine⟨⟨k5.cellAt z10 id,k5.cellAt z4 id⟩,?_⟩;have kr:Calm W3.drew w5:=k4.trans k5;clear os ot z10 z4 y103 y43 c70 c71 y6 y10;replace hW3:=hid hW3;replace hW2:=hid hW2;obtain⟨x9,hx9⟩:∃x9,({ x with R:=x.R.set a v } : ThD).endX 0=x9:=⟨_,rfl⟩;rw[hx9];replace hx9:=hid hx9;have p9:=(o93.calm kr);have p5:=(o53.calm kr);simp only[pickSeq];refine wpAny_last [5,6] [7,8] (fun w'=>True) (by kernel_rfl) trivial ?_;refine pickList_step (thV x9) rfl rfl (fun w' hw'=>?_) (fun _ _ _ h=>h) ?_
    · simp[go_sem]
    refine pickList_step (acV 2 0 (if (0:Int)=0 then (sv:Int) else 0)) rfl rfl (fun w' hw'=>?_) (fun _ _ _ h=>h) ?_
    · simp[go_sem]
    simp only[pickList];refine pickSeq_step rfl rfl ?_;refine wp_storeO _ _ _ rfl w.heap.size (thC x9).toArray rfl rfl p5 rfl (by kernel_rfl) (thC_one x9) ?_;intro w6 p56 f6;refine⟨trivial,?_⟩;have p96:=p9.fr f6 (by omega);refine pickSeq_step rfl rfl ?_;refine wp_storeO _ _ _ rfl (w.heap.size+1) #[vI 2,vI 0,vI (if (0:Int)=0 then (sv:Int) else 0)] rfl rfl p96 rfl (by kernel_rfl) (by simp[Value.oneCell']) ?_;intro w7 p97 f7;refine⟨trivial,?_⟩;have p57:=p56.fr f7 (by omega);simp only[pickSeq];go_wp2;exact bodyPost_ret (v:=.tuple #[thV x9,acV 2 0 (if (0:Int)=0 then (sv:Int) else 0)]) (res_two (i:=8) (j:=9) rfl rfl rfl p57 p97) rfl ⟨_,by rw[←hx9.out];rfl,((((Calm.any k2:Fr (fun b=>b=B7) _ _).trans F).trans (Calm.any (kd.trans kr))).join f6 (fun j hj e=>by omega)).join f7 (fun j hj e=>by omega)⟩
  · have en0:(e != 0)=true:=by simp[bne,h0]
    have ot:=told_is o72 hb hp 0 e;go_enter Tryz.func80,Tryz.ntmps80;go_wp2_with fail
    clear hW2;refine ot.mono ?_;rintro en w3 ⟨rfl,k3⟩;clear ot y10;have o53:=o5.calm k3;have o63:=o9.calm k3;have hxe:x.led a v e=x:=by unfold ThD.led;rw[if_neg h0]
    generalize hx2:x.endX e=x2 at *;generalize hv2:(if e=0 then (0:Int) else 0)=v2 at *;replace hx2:=hid hx2;replace hv2:=hid hv2;simp only[thV,acV,rg];obtain⟨y0,z0,y1,z1,y2,z2,y3,z3,y4,z4,y5,z5,y6,z6,y7,z7,y8,z8,y9,z9,y10,z10,y11,z11,y12,z12,y13,z13,y14,z14⟩:=OwnL.cf15 o53;obtain⟨yy0,zz0,yy1,zz1,yy2,zz2⟩:=OwnL.cf3 o63;have T1:=o53.whole (us:=(thC x2)) rfl;have F1:=frC w3 (w.heap.size) 0 (thC x2);have U0:=o63.fr F1 (by omega);have U:=U0.whole (us:=[vI 2,vI e,vI v2]) rfl;have F2:Fr (fun k=>k=w.heap.size+1) (w3.setCells w.heap.size 0 (thC x2)) ((w3.setCells w.heap.size 0 (thC x2)).setCells (w.heap.size+1) 0 [vI 2,vI e,vI v2]):=Fr.setCells (S:=fun k=>k=w.heap.size+1) rfl _ _ (Fr.refl _ _);have T:=T1.fr F2 (by omega);have hC:Calm w ((w3.setCells w.heap.size 0 (thC x2)).setCells (w.heap.size+1) 0 [vI 2,vI e,vI v2]):=((k2.trans k3).join F1 (fun j hj e=>by omega)).join F2 (fun j hj e=>by omega);replace hC:=hid hC;replace T:=hid T;replace U:=hid U;clear T1 F1 U0 F2 o72;go_wp2;exact bodyPost_ret (v:=.tuple #[thV x2,acV 2 e v2]) (res_two (i:=8) (j:=9) rfl rfl rfl T.out U.out) rfl ⟨v2,by rw[hxe,hx2.out],Calm.any hC.out⟩
end
section
open Go.RowKit Go.Shelf
variable {w:World}{τ:Nat→Nat}{s q:Nat}{S:StD}
structure DdW (w W:World)(S:StD)(d:Dd)(x:ThD):Prop where
  c:Calm w W
  o4:OwnL W (w.heap.size) [pV S.sp]
  o6:OwnL W (w.heap.size+1) (ddC d)
  o7:OwnL W (w.heap.size+1+1) (thC x)
  o8:OwnL W (w.heap.size+1+1+1) [vI 0,vI 0,vI 0,vI 0,vI 0,vI 0,vI 0,vI 0,vI 0,vI 0,vI 0,vI 0,vI 0,vI 0,.bool false]
  o9:OwnL W (w.heap.size+1+1+1+1) [vI 0,vI 0,vI 0]
  oF:OwnL W (w.heap.size+1+1+1+1+1) [toldF (w.heap.size+1+1)]
  z:W.heap.size=w.heap.size+1+1+1+1+1+1
theorem ddW_newE (w:World)(S:StD)(d:Dd)(x:ThD):∃W,(((((w.alloc (.cells #[pV S.sp] 54)).alloc (.cells #[vI d.k,vI d.a,vI d.b,vI d.i,vI d.n] 43)).alloc (.cells #[vI x.b,vI x.p,rg x.R 0,rg x.R 1,rg x.R 2,rg x.R 3,rg x.R 4,rg x.R 5,rg x.V 0,rg x.V 1,rg x.V 2,rg x.V 3,rg x.V 4,rg x.V 5,.bool x.live] 34)).alloc (.cells #[vI 0,vI 0,vI 0,vI 0,vI 0,vI 0,vI 0,vI 0,vI 0,vI 0,vI 0,vI 0,vI 0,vI 0,.bool false] 34)).alloc (.cells #[vI 0,vI 0,vI 0] 38)).alloc (.cells #[toldF (w.heap.size+1+1)] 163)=W∧DdW w W S d x:=by
  obtain⟨W1,e1,k1,o1,s1⟩:=newE w [pV S.sp] 54;obtain⟨W2,e2,k2,o2,s2⟩:=newE W1 [vI d.k,vI d.a,vI d.b,vI d.i,vI d.n] 43;obtain⟨W3,e3,k3,o3,s3⟩:=newE W2 [vI x.b,vI x.p,rg x.R 0,rg x.R 1,rg x.R 2,rg x.R 3,rg x.R 4,rg x.R 5,rg x.V 0,rg x.V 1,rg x.V 2,rg x.V 3,rg x.V 4,rg x.V 5,.bool x.live] 34;obtain⟨W4,e4,k4,o4,s4⟩:=newE W3 [vI 0,vI 0,vI 0,vI 0,vI 0,vI 0,vI 0,vI 0,vI 0,vI 0,vI 0,vI 0,vI 0,vI 0,.bool false] 34;obtain⟨W5,e5,k5,o5,s5⟩:=newE W4 [vI 0,vI 0,vI 0] 38;obtain⟨W6,e6,k6,o6,s6⟩:=newE W5 [toldF (w.heap.size+1+1)] 163;rw[s1] at o2 s2;rw[s2] at o3 s3;rw[s3] at o4 s4;rw[s4] at o5 s5;rw[s5] at o6 s6;have c56:=k5.trans k6;have c46:=k4.trans c56;have c36:=k3.trans c46;have c26:=k2.trans c36;exact⟨W6,by rw[e1,e2,e3,e4,e5,e6],k1.trans c26,o1.calm c26,o2.calm c36,o3.calm c46,o4.calm c56,o5.calm k6,o6,s6⟩
theorem dd_fin {W w5 W9:World}{τ0:Nat→Nat}{d:Dd}{x:ThD}{s':Nat}{R:StD→Prop}(hW:DdW w W S d x)(tk:TagK w τ τ0)(fr:∀k,w.heap.size≤k→τ0 k=1000)(n5:Nx W τ0 s' q S w5 R)(f:Fr (fun b=>w.heap.size≤b∧b<W.heap.size) w5 W9):Nx w τ s' q S W9 R:=by
  obtain⟨τ5,S5,k1,k2,k3,k4⟩:=n5;have K:KeepT w τ0 w5 τ5:=(KeepT.calm τ0 hW.c).trans k2;refine⟨τ5,S5,k1.far f (fun b hb=>by rw[k2.tg b hb.2,fr b hb.1];omega),KeepT.retag ⟨K.fr.join f (fun j hj e=>by omega),K.tg⟩ tk,k3,k4⟩
theorem DdW.calm {W W':World}{d:Dd}{x:ThD}(h:DdW w W S d x)(c:Calm W W')(e:W'.heap.size=W.heap.size):DdW w W' S d x:=⟨h.c.trans c,h.o4.calm c,h.o6.calm c,h.o7.calm c,h.o8.calm c,h.o9.calm c,h.oF.calm c,by rw[e];exact h.z⟩
def DtR (S:StD)(d:Dd)(x:ThD)(e:Int)(S':StD):Prop:=((d.k=1∨d.k=2)∧AlR S (3+d.i+d.n) True e S')∨(d.k=3∧AlR S 4 (x.R.getD d.b.toNat 0∈plc S.D.A.cur) e S')∨(d.k≠1∧d.k≠2∧d.k≠3∧e≠100)
def DtX (x x':ThD)(e:Int):Prop:=∃xl:ThD,xl.R.length=6∧(∀a∈xl.R,a≤131072)∧xl.b=x.b∧xl.p=x.p∧xl.V=x.V∧xl.live=x.live∧(x'=xl.endX e∨(e=0∧x' = { x.back with b:=x.b+1 }))
def TdP (w:World)(τ:Nat→Nat)(s q:Nat)(S:StD)(d:Dd)(x:ThD)(en:Ending)(w':World):Prop:=∃ (x':ThD) (e v:Int),en = .returned (.tuple #[thV x',acV 2 e v])∧I64 e∧DtX x x' e∧Nx w τ (s+1) q S w' (DtR S d x e)
structure ThR (x:ThD):Prop where
  b:0≤x.b∧x.b≤1000
  p:0≤x.p∧x.p≤1000
  r:x.R.length=6
  rp:∀a∈x.R,a≤131072
theorem ThR.led {x:ThD}(h:ThR x){a v:Nat}(hv:v≤131072)(e:Int):DtX x ((x.led a v e).endX e) e:=by
  refine⟨x.led a v e,?_,?_,?_,?_,?_,?_,.inl rfl⟩ <;> unfold ThD.led <;> split
  · simpa using h.r
  · exact h.r
  · intro y hy;rcases List.mem_or_eq_of_mem_set hy with hy|rfl
    · exact h.rp y hy
    · exact hv
  · exact h.rp
  all_goals rfl
theorem ThR.at {x:ThD}(h:ThR x)(j:Nat):x.R.getD j 0≤131072:=by
  by_cases hj:j<x.R.length
  · exact h.rp _ (get_mem 0 hj)
  · rw[List.getD_eq_getElem?_getD,List.getElem?_eq_none (by omega)];exact Nat.zero_le _
set_option maxRecDepth 8000 in
theorem tdeed_k1 (h:St w τ s q S)(hs:s<100000)(hq:q≤100000){x:ThD}(hx:ThR x)(t:Int)(ht:I64 t){a b:Nat}(ha6:a<6)(hb6:b<6){i n:Nat}(hi:i≤4)(hn:n≤4) :
    Calls Tryz.prog 57 #[pV S.sp,vI t,ddV ⟨1,a,b,(i:Int),(n:Int)⟩,thV x] w (TdP w τ s q S ⟨1,a,b,(i:Int),(n:Int)⟩ x):=by
  obtain⟨τ0,hf,tk,fr⟩:=h.fresh;have hst:=run_storeF;have hmf:=run_mf;obtain⟨W,hWW,hW⟩:=ddW_newE w S ⟨1,a,b,(i:Int),(n:Int)⟩ x;simp only[] at hWW hW;have c6a:=(hW.o6 1 _ rfl).1;have c6b:=(hW.o6 2 _ rfl).1;have c6k:=(hW.o6 0 _ rfl).1;have c7a:=(hW.o7 (2+a) _ (thC_at ha6)).1;have c7b:=(hW.o7 (2+b) _ (thC_at hb6)).1;have a0:(0:Int)≤a:=by omega
  have a1:(a:Int)<6:=by omega
  have b0:(0:Int)≤b:=by omega
  have b1:(b:Int)<6:=by omega
  simp only[rg,toldF,List.getD_eq_getElem?_getD] at hWW c7a c7b;simp only[ddV,thV,rg];go_enter Tryz.func57,Tryz.ntmps57;go_wp2_with fail
  go_quiet (fail)
  clear hWW hst hmf c6a c6b c7a c7b;have hV:DdW w (W.drewN nq) S ⟨1,a,b,(i:Int),(n:Int)⟩ x:=hW.calm ((Fr.refl _ _).drewN nq) rfl;clear hW c6k;generalize W.drewN nq=W' at *;have y4:=(hV.o4 0 _ rfl).1;have y6k:=(hV.o6 0 _ rfl).1;have y6i:=(hV.o6 3 _ rfl).1;have y6n:=(hV.o6 4 _ rfl).1;have yF:=(hV.oF 0 _ rfl).1;have hlt:∀j,j≤5→w.heap.size+j<W'.heap.size:=fun j hj=>by rw[hV.z];omega
  have hpb:=hx.at b;have hpa:=hx.at a;rw[List.getD_eq_getElem?_getD] at hpa hpb;obtain⟨pb,hpbe⟩:∃pb,x.R[b]?.getD 0=pb:=⟨_,rfl⟩;obtain⟨pa,hpae⟩:∃pa,x.R[a]?.getD 0=pa:=⟨_,rfl⟩;rw[hpbe] at hpb;rw[hpae] at hpa;rw[hpbe,hpae];have oc:=alloc_is (hf.calm hV.c) hs hq t ht (p:=i) (d:=n) (fn:=false) ⟨by omega,by omega,fun e=>by cases e⟩;replace hpbe:=hid hpbe;replace hpae:=hid hpae;go_wp2_with fail
  refine oc.mono ?_;rintro en w5 ⟨v0,x0,rfl,hv0,hv1,hx0,n5⟩;clear oc;obtain⟨v,rfl⟩:∃v:Nat,v0=v:=⟨v0.toNat,by omega⟩;have hvn:v≤131072:=by omega
  obtain⟨τ5,S5,p1,p2,p3,p4⟩:=n5;have tg:∀j,j≤5→500≤τ0 (w.heap.size+j):=fun j hj=>by rw[fr _ (by omega)];omega
  have tg5:∀j,j≤5→500≤τ5 (w.heap.size+j):=fun j hj=>by rw[p2.tg _ (hlt j hj)];exact tg j hj
  have q7:=p2.ownL hV.o7 (tg 2 (by omega));have q6:=p2.ownL hV.o6 (tg 1 (by omega));have qF:=p2.ownL hV.oF (tg 5 (by omega));have q4:=p2.ownL hV.o4 (tg 0 (by omega));have q8:=p2.ownL hV.o8 (tg 3 (by omega));have q9:=p2.ownL hV.o9 (tg 4 (by omega));have e4:Own w5 (w.heap.size) 0 (pV S5.sp):=by rw[p3.sp];exact q4 0 _ rfl
  have ol:=led_is p1 (e:=x0) (v:=v) q7 q6 (qF 0 _ rfl) e4 rfl ha6 hx.r (by omega) (by omega) (by omega) (tg5 2 (by omega)) hx.b hx.p hvn;have n5:Nx W' τ0 (s+1) q S w5 (DtR S ⟨1,a,b,(i:Int),(n:Int)⟩ x x0):=⟨τ5,S5,p1,p2,p3,.inl ⟨.inl rfl,by rw[show(3:Int)+(i:Int)+(n:Int)=((3+i+n:Nat):Int) by omega];exact p4⟩⟩;clear p1 p2 p3 p4 y4 y6k y6i y6n yF q6 q7 qF q4 e4;go_wp2_with fail
  refine ol.mono ?_;rintro en w6 ⟨sv,rfl,f6⟩;clear ol;have o53:=q8.fr f6 (by omega);have o63:=q9.fr f6 (by omega);have hX:=hx.led (a:=a) hvn x0;generalize (x.led a v x0).endX x0=x2 at *;simp only[thV,acV,rg];obtain⟨y0,z0,y1,z1,y2,z2,y3,z3,y4,z4,y5,z5,y6,z6,y7,z7,y8,z8,y9,z9,y10,z10,y11,z11,y12,z12,y13,z13,y14,z14⟩:=OwnL.cf15 o53;obtain⟨yy0,zz0,yy1,zz1,yy2,zz2⟩:=OwnL.cf3 o63;have T1:=o53.whole (us:=(thC x2)) rfl;have F1:=frC w6 (w.heap.size+1+1+1) 0 (thC x2);have U0:=o63.fr F1 (by omega);have U:=U0.whole (us:=[vI 2,vI x0,vI sv]) rfl;have F2:Fr (fun k=>k=w.heap.size+1+1+1+1) (w6.setCells (w.heap.size+1+1+1) 0 (thC x2)) ((w6.setCells (w.heap.size+1+1+1) 0 (thC x2)).setCells (w.heap.size+1+1+1+1) 0 [vI 2,vI x0,vI sv]):=Fr.setCells (S:=fun k=>k=w.heap.size+1+1+1+1) rfl _ _ (Fr.refl _ _);have T:=T1.fr F2 (by omega)
  have hF:Fr (fun b=>w.heap.size≤b∧b<W'.heap.size) w5 ((w6.setCells (w.heap.size+1+1+1) 0 (thC x2)).setCells (w.heap.size+1+1+1+1) 0 [vI 2,vI x0,vI sv]):=
    (((f6.mono (fun b _ e=>by have:=hlt 2 (by omega);omega)).trans (F1.mono (fun b _ e=>by have:=hlt 3 (by omega);omega))).trans (F2.mono (fun b _ e=>by have:=hlt 4 (by omega);omega)))
  have hP:TdP w τ s q S ⟨1,a,b,(i:Int),(n:Int)⟩ x (.returned (.tuple #[thV x2,acV 2 x0 sv])) ((w6.setCells (w.heap.size+1+1+1) 0 (thC x2)).setCells (w.heap.size+1+1+1+1) 0 [vI 2,vI x0,vI sv]):=⟨x2,x0,sv,rfl,hx0,hX,dd_fin hV tk fr n5 hF⟩;replace hP:=hid hP;replace T:=hid T;replace U:=hid U;clear T1 F1 U0 F2 hF n5 hX q8 q9;go_wp2;exact bodyPost_ret (v:=.tuple #[thV x2,acV 2 x0 sv]) (res_two (i:=8) (j:=9) rfl rfl rfl T.out U.out) rfl hP.out
set_option maxRecDepth 8000 in
theorem tdeed_k2 (h:St w τ s q S)(hs:s<100000)(hq:q≤100000){x:ThD}(hx:ThR x)(t:Int)(ht:I64 t){a b:Nat}(ha6:a<6)(hb6:b<6){i n:Nat}(hi:i≤4)(hn:n≤4) :
    Calls Tryz.prog 57 #[pV S.sp,vI t,ddV ⟨2,a,b,(i:Int),(n:Int)⟩,thV x] w (TdP w τ s q S ⟨2,a,b,(i:Int),(n:Int)⟩ x):=by
  obtain⟨τ0,hf,tk,fr⟩:=h.fresh;have hst:=run_storeF;have hmf:=run_mf;obtain⟨W,hWW,hW⟩:=ddW_newE w S ⟨2,a,b,(i:Int),(n:Int)⟩ x;simp only[] at hWW hW;have c6a:=(hW.o6 1 _ rfl).1;have c6b:=(hW.o6 2 _ rfl).1;have c6k:=(hW.o6 0 _ rfl).1;have c7a:=(hW.o7 (2+a) _ (thC_at ha6)).1;have c7b:=(hW.o7 (2+b) _ (thC_at hb6)).1;have a0:(0:Int)≤a:=by omega
  have a1:(a:Int)<6:=by omega
  have b0:(0:Int)≤b:=by omega
  have b1:(b:Int)<6:=by omega
  simp only[rg,toldF,List.getD_eq_getElem?_getD] at hWW c7a c7b;simp only[ddV,thV,rg];go_enter Tryz.func57,Tryz.ntmps57;go_wp2_with fail
  go_quiet (fail)
  clear hWW hst hmf c6a c6b c7a c7b;have hV:DdW w (W.drewN nq) S ⟨2,a,b,(i:Int),(n:Int)⟩ x:=hW.calm ((Fr.refl _ _).drewN nq) rfl;clear hW c6k;generalize W.drewN nq=W' at *;have y4:=(hV.o4 0 _ rfl).1;have y6k:=(hV.o6 0 _ rfl).1;have y6i:=(hV.o6 3 _ rfl).1;have y6n:=(hV.o6 4 _ rfl).1;have yF:=(hV.oF 0 _ rfl).1;have hlt:∀j,j≤5→w.heap.size+j<W'.heap.size:=fun j hj=>by rw[hV.z];omega
  have hpb:=hx.at b;have hpa:=hx.at a;rw[List.getD_eq_getElem?_getD] at hpa hpb;obtain⟨pb,hpbe⟩:∃pb,x.R[b]?.getD 0=pb:=⟨_,rfl⟩;obtain⟨pa,hpae⟩:∃pa,x.R[a]?.getD 0=pa:=⟨_,rfl⟩;rw[hpbe] at hpb;rw[hpae] at hpa;rw[hpbe,hpae];have oc:=alloc_is (hf.calm hV.c) hs hq t ht (p:=i) (d:=n) (fn:=true) ⟨by omega,by omega,fun e=>by cases e⟩;replace hpbe:=hid hpbe;replace hpae:=hid hpae;go_wp2_with fail
  refine oc.mono ?_;rintro en w5 ⟨v0,x0,rfl,hv0,hv1,hx0,n5⟩;clear oc;obtain⟨v,rfl⟩:∃v:Nat,v0=v:=⟨v0.toNat,by omega⟩;have hvn:v≤131072:=by omega
  obtain⟨τ5,S5,p1,p2,p3,p4⟩:=n5;have tg:∀j,j≤5→500≤τ0 (w.heap.size+j):=fun j hj=>by rw[fr _ (by omega)];omega
  have tg5:∀j,j≤5→500≤τ5 (w.heap.size+j):=fun j hj=>by rw[p2.tg _ (hlt j hj)];exact tg j hj
  have q7:=p2.ownL hV.o7 (tg 2 (by omega));have q6:=p2.ownL hV.o6 (tg 1 (by omega));have qF:=p2.ownL hV.oF (tg 5 (by omega));have q4:=p2.ownL hV.o4 (tg 0 (by omega));have q8:=p2.ownL hV.o8 (tg 3 (by omega));have q9:=p2.ownL hV.o9 (tg 4 (by omega));have e4:Own w5 (w.heap.size) 0 (pV S5.sp):=by rw[p3.sp];exact q4 0 _ rfl
  have ol:=led_is p1 (e:=x0) (v:=v) q7 q6 (qF 0 _ rfl) e4 rfl ha6 hx.r (by omega) (by omega) (by omega) (tg5 2 (by omega)) hx.b hx.p hvn;have n5:Nx W' τ0 (s+1) q S w5 (DtR S ⟨2,a,b,(i:Int),(n:Int)⟩ x x0):=⟨τ5,S5,p1,p2,p3,.inl ⟨.inr rfl,by rw[show(3:Int)+(i:Int)+(n:Int)=((3+i+n:Nat):Int) by omega];exact p4⟩⟩;clear p1 p2 p3 p4 y4 y6k y6i y6n yF q6 q7 qF q4 e4;go_wp2_with fail
  refine ol.mono ?_;rintro en w6 ⟨sv,rfl,f6⟩;clear ol;have o53:=q8.fr f6 (by omega);have o63:=q9.fr f6 (by omega);have hX:=hx.led (a:=a) hvn x0;generalize (x.led a v x0).endX x0=x2 at *;simp only[thV,acV,rg];obtain⟨y0,z0,y1,z1,y2,z2,y3,z3,y4,z4,y5,z5,y6,z6,y7,z7,y8,z8,y9,z9,y10,z10,y11,z11,y12,z12,y13,z13,y14,z14⟩:=OwnL.cf15 o53;obtain⟨yy0,zz0,yy1,zz1,yy2,zz2⟩:=OwnL.cf3 o63;have T1:=o53.whole (us:=(thC x2)) rfl;have F1:=frC w6 (w.heap.size+1+1+1) 0 (thC x2);have U0:=o63.fr F1 (by omega);have U:=U0.whole (us:=[vI 2,vI x0,vI sv]) rfl;have F2:Fr (fun k=>k=w.heap.size+1+1+1+1) (w6.setCells (w.heap.size+1+1+1) 0 (thC x2)) ((w6.setCells (w.heap.size+1+1+1) 0 (thC x2)).setCells (w.heap.size+1+1+1+1) 0 [vI 2,vI x0,vI sv]):=Fr.setCells (S:=fun k=>k=w.heap.size+1+1+1+1) rfl _ _ (Fr.refl _ _);have T:=T1.fr F2 (by omega)
  have hF:Fr (fun b=>w.heap.size≤b∧b<W'.heap.size) w5 ((w6.setCells (w.heap.size+1+1+1) 0 (thC x2)).setCells (w.heap.size+1+1+1+1) 0 [vI 2,vI x0,vI sv]):=
    (((f6.mono (fun b _ e=>by have:=hlt 2 (by omega);omega)).trans (F1.mono (fun b _ e=>by have:=hlt 3 (by omega);omega))).trans (F2.mono (fun b _ e=>by have:=hlt 4 (by omega);omega)))
  have hP:TdP w τ s q S ⟨2,a,b,(i:Int),(n:Int)⟩ x (.returned (.tuple #[thV x2,acV 2 x0 sv])) ((w6.setCells (w.heap.size+1+1+1) 0 (thC x2)).setCells (w.heap.size+1+1+1+1) 0 [vI 2,vI x0,vI sv]):=⟨x2,x0,sv,rfl,hx0,hX,dd_fin hV tk fr n5 hF⟩;replace hP:=hid hP;replace T:=hid T;replace U:=hid U;clear T1 F1 U0 F2 hF n5 hX q8 q9;go_wp2;exact bodyPost_ret (v:=.tuple #[thV x2,acV 2 x0 sv]) (res_two (i:=8) (j:=9) rfl rfl rfl T.out U.out) rfl hP.out
end
section
open Go.RowKit Go.Shelf
variable {w:World}{τ:Nat→Nat}{s q:Nat}{S:StD}
set_option maxRecDepth 8000 in
theorem tdeed_k3 (h:St w τ s q S)(hs:s<100000)(hq:q≤100000){x:ThD}(hx:ThR x)(t:Int)(ht:I64 t){a b:Nat}(ha6:a<6)(hb6:b<6) :
    Calls Tryz.prog 57 #[pV S.sp,vI t,ddV ⟨3,a,b,0,0⟩,thV x] w (TdP w τ s q S ⟨3,a,b,0,0⟩ x):=by
  obtain⟨τ0,hf,tk,fr⟩:=h.fresh;have hst:=run_storeF;have hmf:=run_mf;obtain⟨W,hWW,hW⟩:=ddW_newE w S ⟨3,a,b,0,0⟩ x;simp only[] at hWW hW;have c6a:=(hW.o6 1 _ rfl).1;have c6b:=(hW.o6 2 _ rfl).1;have c6k:=(hW.o6 0 _ rfl).1;have c7a:=(hW.o7 (2+a) _ (thC_at ha6)).1;have c7b:=(hW.o7 (2+b) _ (thC_at hb6)).1;have a0:(0:Int)≤a:=by omega
  have a1:(a:Int)<6:=by omega
  have b0:(0:Int)≤b:=by omega
  have b1:(b:Int)<6:=by omega
  simp only[rg,toldF,List.getD_eq_getElem?_getD] at hWW c7a c7b;simp only[ddV,thV,rg];go_enter Tryz.func57,Tryz.ntmps57;go_wp2_with fail
  go_quiet (fail)
  clear hWW hst hmf c6a c6b c7a c7b;have hV:DdW w (W.drewN nq) S ⟨3,a,b,0,0⟩ x:=hW.calm ((Fr.refl _ _).drewN nq) rfl;clear hW c6k;generalize W.drewN nq=W' at *;have y4:=(hV.o4 0 _ rfl).1;have y6k:=(hV.o6 0 _ rfl).1;have y6i:=(hV.o6 3 _ rfl).1;have y6n:=(hV.o6 4 _ rfl).1;have yF:=(hV.oF 0 _ rfl).1;have hlt:∀j,j≤5→w.heap.size+j<W'.heap.size:=fun j hj=>by rw[hV.z];omega
  have hpb:=hx.at b;have hpa:=hx.at a;rw[List.getD_eq_getElem?_getD] at hpa hpb;obtain⟨pb,hpbe⟩:∃pb,x.R[b]?.getD 0=pb:=⟨_,rfl⟩;obtain⟨pa,hpae⟩:∃pa,x.R[a]?.getD 0=pa:=⟨_,rfl⟩;rw[hpbe] at hpb;rw[hpae] at hpa;rw[hpbe,hpae];have oc:=weak_is (hf.calm hV.c) hs hq t ht hpb;replace hpbe:=hid hpbe;replace hpae:=hid hpae;go_wp2_with fail
  refine oc.mono ?_;rintro en w5 ⟨v0,x0,rfl,hv0,hv1,hx0,n5⟩;clear oc;obtain⟨v,rfl⟩:∃v:Nat,v0=v:=⟨v0.toNat,by omega⟩;have hvn:v≤131072:=by omega
  have hbe:x.R.getD (b:Int).toNat 0=pb:=by rw[List.getD_eq_getElem?_getD,Int.toNat_natCast];exact hpbe.out
  obtain⟨τ5,S5,p1,p2,p3,p4⟩:=n5;have tg:∀j,j≤5→500≤τ0 (w.heap.size+j):=fun j hj=>by rw[fr _ (by omega)];omega
  have tg5:∀j,j≤5→500≤τ5 (w.heap.size+j):=fun j hj=>by rw[p2.tg _ (hlt j hj)];exact tg j hj
  have q7:=p2.ownL hV.o7 (tg 2 (by omega));have q6:=p2.ownL hV.o6 (tg 1 (by omega));have qF:=p2.ownL hV.oF (tg 5 (by omega));have q4:=p2.ownL hV.o4 (tg 0 (by omega));have q8:=p2.ownL hV.o8 (tg 3 (by omega));have q9:=p2.ownL hV.o9 (tg 4 (by omega));have e4:Own w5 (w.heap.size) 0 (pV S5.sp):=by rw[p3.sp];exact q4 0 _ rfl
  have ol:=led_is p1 (e:=x0) (v:=v) q7 q6 (qF 0 _ rfl) e4 rfl ha6 hx.r (by omega) (by omega) (by omega) (tg5 2 (by omega)) hx.b hx.p hvn;have n5:Nx W' τ0 (s+1) q S w5 (DtR S ⟨3,a,b,0,0⟩ x x0):=⟨τ5,S5,p1,p2,p3,.inr (.inl ⟨rfl,by show AlR S 4 (x.R.getD (b:Int).toNat 0∈plc S.D.A.cur) x0 S5;rw[hbe];exact p4⟩)⟩;clear p1 p2 p3 p4 y4 y6k y6i y6n yF q6 q7 qF q4 e4;go_wp2_with fail
  refine ol.mono ?_;rintro en w6 ⟨sv,rfl,f6⟩;clear ol;have o53:=q8.fr f6 (by omega);have o63:=q9.fr f6 (by omega);have hX:=hx.led (a:=a) hvn x0;generalize (x.led a v x0).endX x0=x2 at *;simp only[thV,acV,rg];obtain⟨y0,z0,y1,z1,y2,z2,y3,z3,y4,z4,y5,z5,y6,z6,y7,z7,y8,z8,y9,z9,y10,z10,y11,z11,y12,z12,y13,z13,y14,z14⟩:=OwnL.cf15 o53;obtain⟨yy0,zz0,yy1,zz1,yy2,zz2⟩:=OwnL.cf3 o63;have T1:=o53.whole (us:=(thC x2)) rfl;have F1:=frC w6 (w.heap.size+1+1+1) 0 (thC x2);have U0:=o63.fr F1 (by omega);have U:=U0.whole (us:=[vI 2,vI x0,vI sv]) rfl;have F2:Fr (fun k=>k=w.heap.size+1+1+1+1) (w6.setCells (w.heap.size+1+1+1) 0 (thC x2)) ((w6.setCells (w.heap.size+1+1+1) 0 (thC x2)).setCells (w.heap.size+1+1+1+1) 0 [vI 2,vI x0,vI sv]):=Fr.setCells (S:=fun k=>k=w.heap.size+1+1+1+1) rfl _ _ (Fr.refl _ _);have T:=T1.fr F2 (by omega)
  have hF:Fr (fun b=>w.heap.size≤b∧b<W'.heap.size) w5 ((w6.setCells (w.heap.size+1+1+1) 0 (thC x2)).setCells (w.heap.size+1+1+1+1) 0 [vI 2,vI x0,vI sv]):=
    (((f6.mono (fun b _ e=>by have:=hlt 2 (by omega);omega)).trans (F1.mono (fun b _ e=>by have:=hlt 3 (by omega);omega))).trans (F2.mono (fun b _ e=>by have:=hlt 4 (by omega);omega)))
  have hP:TdP w τ s q S ⟨3,a,b,0,0⟩ x (.returned (.tuple #[thV x2,acV 2 x0 sv])) ((w6.setCells (w.heap.size+1+1+1) 0 (thC x2)).setCells (w.heap.size+1+1+1+1) 0 [vI 2,vI x0,vI sv]):=⟨x2,x0,sv,rfl,hx0,hX,dd_fin hV tk fr n5 hF⟩;replace hP:=hid hP;replace T:=hid T;replace U:=hid U;clear T1 F1 U0 F2 hF n5 hX q8 q9;go_wp2;exact bodyPost_ret (v:=.tuple #[thV x2,acV 2 x0 sv]) (res_two (i:=8) (j:=9) rfl rfl rfl T.out U.out) rfl hP.out
set_option maxRecDepth 8000 in
theorem tdeed_k4 (h:St w τ s q S)(hs:s<100000)(hq:q≤100000){x:ThD}(hx:ThR x)(t:Int)(ht:I64 t){a b:Nat}(ha6:a<6)(hb6:b<6){i:Nat}(hi:i≤7) :
    Calls Tryz.prog 57 #[pV S.sp,vI t,ddV ⟨4,a,b,(i:Int),0⟩,thV x] w (TdP w τ s q S ⟨4,a,b,(i:Int),0⟩ x):=by
  obtain⟨τ0,hf,tk,fr⟩:=h.fresh;have hst:=run_storeF;have hmf:=run_mf;obtain⟨W,hWW,hW⟩:=ddW_newE w S ⟨4,a,b,(i:Int),0⟩ x;simp only[] at hWW hW;have c6a:=(hW.o6 1 _ rfl).1;have c6b:=(hW.o6 2 _ rfl).1;have c6k:=(hW.o6 0 _ rfl).1;have c7a:=(hW.o7 (2+a) _ (thC_at ha6)).1;have c7b:=(hW.o7 (2+b) _ (thC_at hb6)).1;have a0:(0:Int)≤a:=by omega
  have a1:(a:Int)<6:=by omega
  have b0:(0:Int)≤b:=by omega
  have b1:(b:Int)<6:=by omega
  simp only[rg,toldF,List.getD_eq_getElem?_getD] at hWW c7a c7b;simp only[ddV,thV,rg];go_enter Tryz.func57,Tryz.ntmps57;go_wp2_with fail
  go_quiet (fail)
  clear hWW hst hmf c6a c6b c7a c7b;have hV:DdW w (W.drewN nq) S ⟨4,a,b,(i:Int),0⟩ x:=hW.calm ((Fr.refl _ _).drewN nq) rfl;clear hW c6k;generalize W.drewN nq=W' at *;have y4:=(hV.o4 0 _ rfl).1;have y6k:=(hV.o6 0 _ rfl).1;have y6i:=(hV.o6 3 _ rfl).1;have y6n:=(hV.o6 4 _ rfl).1;have yF:=(hV.oF 0 _ rfl).1;have hlt:∀j,j≤5→w.heap.size+j<W'.heap.size:=fun j hj=>by rw[hV.z];omega
  have hpb:=hx.at b;have hpa:=hx.at a;rw[List.getD_eq_getElem?_getD] at hpa hpb;obtain⟨pb,hpbe⟩:∃pb,x.R[b]?.getD 0=pb:=⟨_,rfl⟩;obtain⟨pa,hpae⟩:∃pa,x.R[a]?.getD 0=pa:=⟨_,rfl⟩;rw[hpbe] at hpb;rw[hpae] at hpa;rw[hpbe,hpae];have oc:=get_is (hf.calm hV.c) hq t ht hpb (k:=(i:Int)) ⟨by omega,by omega⟩;replace hpbe:=hid hpbe;replace hpae:=hid hpae;go_wp2_with fail
  refine oc.mono ?_;rintro en w5 ⟨v0,x0,rfl,hv0,hv1,hx0,hx1,n5⟩;clear oc;obtain⟨v,rfl⟩:∃v:Nat,v0=v:=⟨v0.toNat,by omega⟩;have hvn:v≤131072:=by omega
  obtain⟨τ5,S5,p1,p2,p3,p4⟩:=n5;have tg:∀j,j≤5→500≤τ0 (w.heap.size+j):=fun j hj=>by rw[fr _ (by omega)];omega
  have tg5:∀j,j≤5→500≤τ5 (w.heap.size+j):=fun j hj=>by rw[p2.tg _ (hlt j hj)];exact tg j hj
  have q7:=p2.ownL hV.o7 (tg 2 (by omega));have q6:=p2.ownL hV.o6 (tg 1 (by omega));have qF:=p2.ownL hV.oF (tg 5 (by omega));have q4:=p2.ownL hV.o4 (tg 0 (by omega));have q8:=p2.ownL hV.o8 (tg 3 (by omega));have q9:=p2.ownL hV.o9 (tg 4 (by omega));have e4:Own w5 (w.heap.size) 0 (pV S5.sp):=by rw[p3.sp];exact q4 0 _ rfl
  have ol:=led_is p1 (e:=x0) (v:=v) q7 q6 (qF 0 _ rfl) e4 rfl ha6 hx.r (by omega) (by omega) (by omega) (tg5 2 (by omega)) hx.b hx.p hvn;have n5:Nx W' τ0 (s+1) q S w5 (DtR S ⟨4,a,b,(i:Int),0⟩ x x0):=Nx.mono (s2:=s+1) (q2:=q) (⟨τ5,S5,p1,p2,p3,.inr (.inr ⟨by show(4:Int)≠1;decide,by show(4:Int)≠2;decide,by show(4:Int)≠3;decide,hx1⟩)⟩:Nx W' τ0 s q S w5 (DtR S ⟨4,a,b,(i:Int),0⟩ x x0)) (Nat.le_succ _) (Nat.le_refl _) (fun _ h=>h);clear p1 p2 p3 p4 y4 y6k y6i y6n yF q6 q7 qF q4 e4;go_wp2_with fail
  refine ol.mono ?_;rintro en w6 ⟨sv,rfl,f6⟩;clear ol;have o53:=q8.fr f6 (by omega);have o63:=q9.fr f6 (by omega);have hX:=hx.led (a:=a) hvn x0;generalize (x.led a v x0).endX x0=x2 at *;simp only[thV,acV,rg];obtain⟨y0,z0,y1,z1,y2,z2,y3,z3,y4,z4,y5,z5,y6,z6,y7,z7,y8,z8,y9,z9,y10,z10,y11,z11,y12,z12,y13,z13,y14,z14⟩:=OwnL.cf15 o53;obtain⟨yy0,zz0,yy1,zz1,yy2,zz2⟩:=OwnL.cf3 o63;have T1:=o53.whole (us:=(thC x2)) rfl;have F1:=frC w6 (w.heap.size+1+1+1) 0 (thC x2);have U0:=o63.fr F1 (by omega);have U:=U0.whole (us:=[vI 2,vI x0,vI sv]) rfl;have F2:Fr (fun k=>k=w.heap.size+1+1+1+1) (w6.setCells (w.heap.size+1+1+1) 0 (thC x2)) ((w6.setCells (w.heap.size+1+1+1) 0 (thC x2)).setCells (w.heap.size+1+1+1+1) 0 [vI 2,vI x0,vI sv]):=Fr.setCells (S:=fun k=>k=w.heap.size+1+1+1+1) rfl _ _ (Fr.refl _ _);have T:=T1.fr F2 (by omega)
  have hF:Fr (fun b=>w.heap.size≤b∧b<W'.heap.size) w5 ((w6.setCells (w.heap.size+1+1+1) 0 (thC x2)).setCells (w.heap.size+1+1+1+1) 0 [vI 2,vI x0,vI sv]):=
    (((f6.mono (fun b _ e=>by have:=hlt 2 (by omega);omega)).trans (F1.mono (fun b _ e=>by have:=hlt 3 (by omega);omega))).trans (F2.mono (fun b _ e=>by have:=hlt 4 (by omega);omega)))
  have hP:TdP w τ s q S ⟨4,a,b,(i:Int),0⟩ x (.returned (.tuple #[thV x2,acV 2 x0 sv])) ((w6.setCells (w.heap.size+1+1+1) 0 (thC x2)).setCells (w.heap.size+1+1+1+1) 0 [vI 2,vI x0,vI sv]):=⟨x2,x0,sv,rfl,hx0,hX,dd_fin hV tk fr n5 hF⟩;replace hP:=hid hP;replace T:=hid T;replace U:=hid U;clear T1 F1 U0 F2 hF n5 hX q8 q9;go_wp2;exact bodyPost_ret (v:=.tuple #[thV x2,acV 2 x0 sv]) (res_two (i:=8) (j:=9) rfl rfl rfl T.out U.out) rfl hP.out
set_option maxRecDepth 8000 in
theorem tdeed_k9 (h:St w τ s q S)(hs:s<100000)(hq:q≤100000){x:ThD}(hx:ThR x)(t:Int)(ht:I64 t){a b:Nat}(ha6:a<6)(hb6:b<6) :
    Calls Tryz.prog 57 #[pV S.sp,vI t,ddV ⟨9,a,b,0,0⟩,thV x] w (TdP w τ s q S ⟨9,a,b,0,0⟩ x):=by
  obtain⟨τ0,hf,tk,fr⟩:=h.fresh;have hst:=run_storeF;have hmf:=run_mf;obtain⟨W,hWW,hW⟩:=ddW_newE w S ⟨9,a,b,0,0⟩ x;simp only[] at hWW hW;have c6a:=(hW.o6 1 _ rfl).1;have c6b:=(hW.o6 2 _ rfl).1;have c6k:=(hW.o6 0 _ rfl).1;have c7a:=(hW.o7 (2+a) _ (thC_at ha6)).1;have c7b:=(hW.o7 (2+b) _ (thC_at hb6)).1;have a0:(0:Int)≤a:=by omega
  have a1:(a:Int)<6:=by omega
  have b0:(0:Int)≤b:=by omega
  have b1:(b:Int)<6:=by omega
  simp only[rg,toldF,List.getD_eq_getElem?_getD] at hWW c7a c7b;simp only[ddV,thV,rg];go_enter Tryz.func57,Tryz.ntmps57;go_wp2_with fail
  go_quiet (fail)
  clear hWW hst hmf c6a c6b c7a c7b;have hV:DdW w (W.drewN nq) S ⟨9,a,b,0,0⟩ x:=hW.calm ((Fr.refl _ _).drewN nq) rfl;clear hW c6k;generalize W.drewN nq=W' at *;have y4:=(hV.o4 0 _ rfl).1;have y6k:=(hV.o6 0 _ rfl).1;have y6i:=(hV.o6 3 _ rfl).1;have y6n:=(hV.o6 4 _ rfl).1;have yF:=(hV.oF 0 _ rfl).1;have hlt:∀j,j≤5→w.heap.size+j<W'.heap.size:=fun j hj=>by rw[hV.z];omega
  have hpb:=hx.at b;have hpa:=hx.at a;rw[List.getD_eq_getElem?_getD] at hpa hpb;obtain⟨pb,hpbe⟩:∃pb,x.R[b]?.getD 0=pb:=⟨_,rfl⟩;obtain⟨pa,hpae⟩:∃pa,x.R[a]?.getD 0=pa:=⟨_,rfl⟩;rw[hpbe] at hpb;rw[hpae] at hpa;rw[hpbe,hpae];have oc:=load_is (hf.calm hV.c) hq t ht hpb;replace hpbe:=hid hpbe;replace hpae:=hid hpae;go_wp2_with fail
  refine oc.mono ?_;rintro en w5 ⟨v0,x0,rfl,hv0,hv1,hx0,hx1,n5⟩;clear oc;obtain⟨v,rfl⟩:∃v:Nat,v0=v:=⟨v0.toNat,by omega⟩;have hvn:v≤131072:=by omega
  obtain⟨τ5,S5,p1,p2,p3,p4⟩:=n5;have tg:∀j,j≤5→500≤τ0 (w.heap.size+j):=fun j hj=>by rw[fr _ (by omega)];omega
  have tg5:∀j,j≤5→500≤τ5 (w.heap.size+j):=fun j hj=>by rw[p2.tg _ (hlt j hj)];exact tg j hj
  have q7:=p2.ownL hV.o7 (tg 2 (by omega));have q6:=p2.ownL hV.o6 (tg 1 (by omega));have qF:=p2.ownL hV.oF (tg 5 (by omega));have q4:=p2.ownL hV.o4 (tg 0 (by omega));have q8:=p2.ownL hV.o8 (tg 3 (by omega));have q9:=p2.ownL hV.o9 (tg 4 (by omega));have e4:Own w5 (w.heap.size) 0 (pV S5.sp):=by rw[p3.sp];exact q4 0 _ rfl
  have ol:=led_is p1 (e:=x0) (v:=v) q7 q6 (qF 0 _ rfl) e4 rfl ha6 hx.r (by omega) (by omega) (by omega) (tg5 2 (by omega)) hx.b hx.p hvn;have n5:Nx W' τ0 (s+1) q S w5 (DtR S ⟨9,a,b,0,0⟩ x x0):=Nx.mono (s2:=s+1) (q2:=q) (⟨τ5,S5,p1,p2,p3,.inr (.inr ⟨by show(9:Int)≠1;decide,by show(9:Int)≠2;decide,by show(9:Int)≠3;decide,hx1⟩)⟩:Nx W' τ0 s q S w5 (DtR S ⟨9,a,b,0,0⟩ x x0)) (Nat.le_succ _) (Nat.le_refl _) (fun _ h=>h);clear p1 p2 p3 p4 y4 y6k y6i y6n yF q6 q7 qF q4 e4;go_wp2_with fail
  refine ol.mono ?_;rintro en w6 ⟨sv,rfl,f6⟩;clear ol;have o53:=q8.fr f6 (by omega);have o63:=q9.fr f6 (by omega);have hX:=hx.led (a:=a) hvn x0;generalize (x.led a v x0).endX x0=x2 at *;simp only[thV,acV,rg];obtain⟨y0,z0,y1,z1,y2,z2,y3,z3,y4,z4,y5,z5,y6,z6,y7,z7,y8,z8,y9,z9,y10,z10,y11,z11,y12,z12,y13,z13,y14,z14⟩:=OwnL.cf15 o53;obtain⟨yy0,zz0,yy1,zz1,yy2,zz2⟩:=OwnL.cf3 o63;have T1:=o53.whole (us:=(thC x2)) rfl;have F1:=frC w6 (w.heap.size+1+1+1) 0 (thC x2);have U0:=o63.fr F1 (by omega);have U:=U0.whole (us:=[vI 2,vI x0,vI sv]) rfl;have F2:Fr (fun k=>k=w.heap.size+1+1+1+1) (w6.setCells (w.heap.size+1+1+1) 0 (thC x2)) ((w6.setCells (w.heap.size+1+1+1) 0 (thC x2)).setCells (w.heap.size+1+1+1+1) 0 [vI 2,vI x0,vI sv]):=Fr.setCells (S:=fun k=>k=w.heap.size+1+1+1+1) rfl _ _ (Fr.refl _ _);have T:=T1.fr F2 (by omega)
  have hF:Fr (fun b=>w.heap.size≤b∧b<W'.heap.size) w5 ((w6.setCells (w.heap.size+1+1+1) 0 (thC x2)).setCells (w.heap.size+1+1+1+1) 0 [vI 2,vI x0,vI sv]):=
    (((f6.mono (fun b _ e=>by have:=hlt 2 (by omega);omega)).trans (F1.mono (fun b _ e=>by have:=hlt 3 (by omega);omega))).trans (F2.mono (fun b _ e=>by have:=hlt 4 (by omega);omega)))
  have hP:TdP w τ s q S ⟨9,a,b,0,0⟩ x (.returned (.tuple #[thV x2,acV 2 x0 sv])) ((w6.setCells (w.heap.size+1+1+1) 0 (thC x2)).setCells (w.heap.size+1+1+1+1) 0 [vI 2,vI x0,vI sv]):=⟨x2,x0,sv,rfl,hx0,hX,dd_fin hV tk fr n5 hF⟩;replace hP:=hid hP;replace T:=hid T;replace U:=hid U;clear T1 F1 U0 F2 hF n5 hX q8 q9;go_wp2;exact bodyPost_ret (v:=.tuple #[thV x2,acV 2 x0 sv]) (res_two (i:=8) (j:=9) rfl rfl rfl T.out U.out) rfl hP.out
set_option maxRecDepth 8000 in
theorem tdeed_k10 (h:St w τ s q S)(hs:s<100000)(hq:q≤100000){x:ThD}(hx:ThR x)(t:Int)(ht:I64 t){a b:Nat}(ha6:a<6)(hb6:b<6) :
    Calls Tryz.prog 57 #[pV S.sp,vI t,ddV ⟨10,a,b,0,0⟩,thV x] w (TdP w τ s q S ⟨10,a,b,0,0⟩ x):=by
  obtain⟨τ0,hf,tk,fr⟩:=h.fresh;have hst:=run_storeF;have hmf:=run_mf;obtain⟨W,hWW,hW⟩:=ddW_newE w S ⟨10,a,b,0,0⟩ x;simp only[] at hWW hW;have c6a:=(hW.o6 1 _ rfl).1;have c6b:=(hW.o6 2 _ rfl).1;have c6k:=(hW.o6 0 _ rfl).1;have c7a:=(hW.o7 (2+a) _ (thC_at ha6)).1;have c7b:=(hW.o7 (2+b) _ (thC_at hb6)).1;have a0:(0:Int)≤a:=by omega
  have a1:(a:Int)<6:=by omega
  have b0:(0:Int)≤b:=by omega
  have b1:(b:Int)<6:=by omega
  simp only[rg,toldF,List.getD_eq_getElem?_getD] at hWW c7a c7b;simp only[ddV,thV,rg];go_enter Tryz.func57,Tryz.ntmps57;go_wp2_with fail
  go_quiet (fail)
  clear hWW hst hmf c6a c6b c7a c7b;have hV:DdW w (W.drewN nq) S ⟨10,a,b,0,0⟩ x:=hW.calm ((Fr.refl _ _).drewN nq) rfl;clear hW c6k;generalize W.drewN nq=W' at *;have y4:=(hV.o4 0 _ rfl).1;have y6k:=(hV.o6 0 _ rfl).1;have y6i:=(hV.o6 3 _ rfl).1;have y6n:=(hV.o6 4 _ rfl).1;have yF:=(hV.oF 0 _ rfl).1;have hlt:∀j,j≤5→w.heap.size+j<W'.heap.size:=fun j hj=>by rw[hV.z];omega
  have hpb:=hx.at b;have hpa:=hx.at a;rw[List.getD_eq_getElem?_getD] at hpa hpb;obtain⟨pb,hpbe⟩:∃pb,x.R[b]?.getD 0=pb:=⟨_,rfl⟩;obtain⟨pa,hpae⟩:∃pa,x.R[a]?.getD 0=pa:=⟨_,rfl⟩;rw[hpbe] at hpb;rw[hpae] at hpa;rw[hpbe,hpae];have oc:=take_is (hf.calm hV.c) hq t ht;replace hpbe:=hid hpbe;replace hpae:=hid hpae;go_wp2_with fail
  refine oc.mono ?_;rintro en w5 ⟨v0,x0,rfl,hv0,hv1,hx0,hx1,n5⟩;clear oc;obtain⟨v,rfl⟩:∃v:Nat,v0=v:=⟨v0.toNat,by omega⟩;have hvn:v≤131072:=by omega
  obtain⟨τ5,S5,p1,p2,p3,p4⟩:=n5;have tg:∀j,j≤5→500≤τ0 (w.heap.size+j):=fun j hj=>by rw[fr _ (by omega)];omega
  have tg5:∀j,j≤5→500≤τ5 (w.heap.size+j):=fun j hj=>by rw[p2.tg _ (hlt j hj)];exact tg j hj
  have q7:=p2.ownL hV.o7 (tg 2 (by omega));have q6:=p2.ownL hV.o6 (tg 1 (by omega));have qF:=p2.ownL hV.oF (tg 5 (by omega));have q4:=p2.ownL hV.o4 (tg 0 (by omega));have q8:=p2.ownL hV.o8 (tg 3 (by omega));have q9:=p2.ownL hV.o9 (tg 4 (by omega));have e4:Own w5 (w.heap.size) 0 (pV S5.sp):=by rw[p3.sp];exact q4 0 _ rfl
  have ol:=led_is p1 (e:=x0) (v:=v) q7 q6 (qF 0 _ rfl) e4 rfl ha6 hx.r (by omega) (by omega) (by omega) (tg5 2 (by omega)) hx.b hx.p hvn;have n5:Nx W' τ0 (s+1) q S w5 (DtR S ⟨10,a,b,0,0⟩ x x0):=Nx.mono (s2:=s+1) (q2:=q) (⟨τ5,S5,p1,p2,p3,.inr (.inr ⟨by show(10:Int)≠1;decide,by show(10:Int)≠2;decide,by show(10:Int)≠3;decide,hx1⟩)⟩:Nx W' τ0 s q S w5 (DtR S ⟨10,a,b,0,0⟩ x x0)) (Nat.le_succ _) (Nat.le_refl _) (fun _ h=>h);clear p1 p2 p3 p4 y4 y6k y6i y6n yF q6 q7 qF q4 e4;go_wp2_with fail
  refine ol.mono ?_;rintro en w6 ⟨sv,rfl,f6⟩;clear ol;have o53:=q8.fr f6 (by omega);have o63:=q9.fr f6 (by omega);have hX:=hx.led (a:=a) hvn x0;generalize (x.led a v x0).endX x0=x2 at *;simp only[thV,acV,rg];obtain⟨y0,z0,y1,z1,y2,z2,y3,z3,y4,z4,y5,z5,y6,z6,y7,z7,y8,z8,y9,z9,y10,z10,y11,z11,y12,z12,y13,z13,y14,z14⟩:=OwnL.cf15 o53;obtain⟨yy0,zz0,yy1,zz1,yy2,zz2⟩:=OwnL.cf3 o63;have T1:=o53.whole (us:=(thC x2)) rfl;have F1:=frC w6 (w.heap.size+1+1+1) 0 (thC x2);have U0:=o63.fr F1 (by omega);have U:=U0.whole (us:=[vI 2,vI x0,vI sv]) rfl;have F2:Fr (fun k=>k=w.heap.size+1+1+1+1) (w6.setCells (w.heap.size+1+1+1) 0 (thC x2)) ((w6.setCells (w.heap.size+1+1+1) 0 (thC x2)).setCells (w.heap.size+1+1+1+1) 0 [vI 2,vI x0,vI sv]):=Fr.setCells (S:=fun k=>k=w.heap.size+1+1+1+1) rfl _ _ (Fr.refl _ _);have T:=T1.fr F2 (by omega)
  have hF:Fr (fun b=>w.heap.size≤b∧b<W'.heap.size) w5 ((w6.setCells (w.heap.size+1+1+1) 0 (thC x2)).setCells (w.heap.size+1+1+1+1) 0 [vI 2,vI x0,vI sv]):=
    (((f6.mono (fun b _ e=>by have:=hlt 2 (by omega);omega)).trans (F1.mono (fun b _ e=>by have:=hlt 3 (by omega);omega))).trans (F2.mono (fun b _ e=>by have:=hlt 4 (by omega);omega)))
  have hP:TdP w τ s q S ⟨10,a,b,0,0⟩ x (.returned (.tuple #[thV x2,acV 2 x0 sv])) ((w6.setCells (w.heap.size+1+1+1) 0 (thC x2)).setCells (w.heap.size+1+1+1+1) 0 [vI 2,vI x0,vI sv]):=⟨x2,x0,sv,rfl,hx0,hX,dd_fin hV tk fr n5 hF⟩;replace hP:=hid hP;replace T:=hid T;replace U:=hid U;clear T1 F1 U0 F2 hF n5 hX q8 q9;go_wp2;exact bodyPost_ret (v:=.tuple #[thV x2,acV 2 x0 sv]) (res_two (i:=8) (j:=9) rfl rfl rfl T.out U.out) rfl hP.out
end
section
open Go.RowKit
section
variable {P:Program}{ops:Array Oper}{Q:Exit→Act→World→Prop}{md:Region.Mode}{S:World→Prop}
def mixP (P:Program)(ops:Array Oper)(Q:Exit→Act→World→Prop)(S:World→Prop)(R:Act→World→Prop):List (Bool × Nat)→Act→World→Prop
  | [],a,w=>R a w
  | (true,i)::l,a,w=>∃o v,ops[i]?=some o∧YieldsIf P ops S o v a∧(∀c a w,Q (.panic c) (a.put o.dst v) w→Q (.panic c) a w)∧mixP P ops Q S R l (a.put o.dst v) w
  | (false,j)::l,a,w=>∃o,ops[j]?=some o∧Region.wanted o (yielded ops a.tmps)=true∧o.wp P a w (fun a' w'=>S w'∧mixP P ops Q S R l a' w') Q
def mixB (md:Region.Mode)(ops:Array Oper)(n:Nat):List (Bool × Nat)→Array Bool→Bool
  | [],done=>(Region.ready md ops done).all fun j=>decide (n≤j)
  | (b,i)::l,done=>(match b with|true=>(Region.ready md ops done).contains i && Region.free md ops done i|false=>decide (Region.ready md ops done=[i])) && decide (i<n) && mixB md ops n l (done.setIfInBounds i true)
theorem mix_head {R:Act→World→Prop}{n:Nat}(hsel:Region.noSelect ops=true)(tw:Waits md ops n) :
    ∀ (l:List (Bool × Nat)) (done:Array Bool) (a:Act) (w:World),HeadInv md ops n done→mixB md ops n l done=true→S w→mixP P ops Q S R l a w →
      heldHead P md ops Q S n (fun d a w=>((Region.ready md ops d).all fun j=>decide (n≤j))=true∧R a w) l.length done a w
  | [],done,a,w,_,hB,_,h=>⟨by simpa[mixB] using hB,h⟩
  | (true,i)::l,done,a,w,inv,hB,hS,h=>by
    obtain⟨o,v,ho,hy,hQ,h⟩:=h;simp only[mixB,Bool.and_eq_true,decide_eq_true_eq] at hB;obtain⟨⟨⟨hr,hf⟩,hin⟩,hB'⟩:=hB;have hr':i∈Region.ready md ops done:=by simpa using hr
    refine pick_first ho (Region.noSelect_spec hsel) tw hin hQ (fun done' a' w' hL j hj=>by
      have:=List.all_eq_true.1 hL.1 j hj
      simpa using this) _ done a w inv (Region.free_spec ho hf) hr' hy hS ?_
    exact mix_head hsel tw l _ _ w (inv.set hr' hin) hB' hS h
  | (false,j)::l,done,a,w,inv,hB,hS,h=>by
    obtain⟨o,ho,hw,h⟩:=h;simp only[mixB,Bool.and_eq_true,decide_eq_true_eq] at hB;obtain⟨⟨hr,hj⟩,hB'⟩:=hB;refine⟨fun h1=>(by rw[hr] at h1;cases h1),fun i hi=>?_⟩;have hi':=hi;rw[hr] at hi;have hik:i=j:=by simpa using hi
    subst hik;refine⟨hj,?_⟩;unfold wpOp;simp only[ho,hw,if_true];exact .inl (Oper.wp_mono (fun a' w' h'=>⟨h'.1,mix_head hsel tw l _ a' w' (inv.set hi' hj) hB' h'.1 h'.2⟩) h)
end
theorem wp_region_mix {P:Program}{id:Nat}{Q:Exit→Act→World→Prop}{a:Act}{w:World}{l:List Oper}(st:List (Bool × Nat))(S:World→Prop)(hm:P.follows .mixedOrders=true)
    (hB:(Region.noSelect l.toArray && decide (st.length=l.toArray.size) && mixB .any l.toArray l.toArray.size st (Array.replicate l.toArray.size false))=true) (hS:S w.drew)
    (h:mixP P l.toArray Q S (fun a' w'=>Q .normal a' w') st a w.drew):(Code.region id l.toArray true).wp P Q a w:=by
  simp only[Bool.and_eq_true,decide_eq_true_eq] at hB;obtain⟨⟨hsel,hlen⟩,hp⟩:=hB
  have inv0:HeadInv .any l.toArray l.toArray.size (Array.replicate l.toArray.size false):=
    ⟨by simp,fun j oj _ hl=>(by rw[getD_replicate_false] at hl;cases hl),fun t _ ht=>getD_in (by simpa using ht) (getD_replicate_false _ _)⟩
  have H:=mix_head (P:=P) (Q:=Q) (S:=S) (R:=fun a' w'=>Q .normal a' w') hsel size_waits st _ a w.drew inv0 hp hS h;rw[hlen] at H;refine wp_region_any hm (any_of_heldHead (Q:=Q) (g:=0) (fun done a' w' hL=>?_) _ _ _ _ H);obtain⟨h1,h⟩:=hL;refine⟨List.eq_nil_iff_forall_not_mem.2 fun i hi=>?_,h⟩;have h2:=List.all_eq_true.1 h1 i hi;obtain⟨o,ho,_⟩:=(mem_ready.1 hi).2;have:=(Array.getElem?_eq_some_iff.1 ho).1;simp at h2 this;omega
theorem mix_read {P:Program}{ops:Array Oper}{Q:Exit→Act→World→Prop}{S:World→Prop}{R:Act→World→Prop}{i:Nat}{l:List (Bool × Nat)}{a:Act}{w:World}{o:Oper}(v:Value)(ho:ops[i]?=some o)(hw:Region.wanted o (yielded ops a.tmps)=true)(hy:∀w,S w→(execOp a.eval o).run P w = .ok (.value v) w)(hQ:∀c a w,Q (.panic c) (a.put o.dst v) w→Q (.panic c) a w)
    (h:mixP P ops Q S R l (a.put o.dst v) w):mixP P ops Q S R ((true,i)::l) a w:=⟨o,v,ho,.inl ⟨hw,hy⟩,hQ,h⟩
theorem mix_step {P:Program}{ops:Array Oper}{Q:Exit→Act→World→Prop}{S:World→Prop}{R:Act→World→Prop}{j:Nat}{l:List (Bool × Nat)}{a:Act}{w:World}{o:Oper}(ho:ops[j]?=some o)(hw:Region.wanted o (yielded ops a.tmps)=true)(h:o.wp P a w (fun a' w'=>S w'∧mixP P ops Q S R l a' w') Q):mixP P ops Q S R ((false,j)::l) a w:=⟨o,ho,hw,h⟩
theorem mix_end {P:Program}{ops:Array Oper}{Q:Exit→Act→World→Prop}{S:World→Prop}{R:Act→World→Prop}{a:Act}{w:World}(h:R a w):mixP P ops Q S R [] a w:=h
end
end Go.Proofs.YtdffnjikmkgjkaaGreat
