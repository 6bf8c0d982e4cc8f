/- TopMemory: a part of its proof (Th8 Th9 Tha Tree Pr4). -/
import Derived.Test.YtdffnjikmkgjkaaGreatTmAA
import Derived.Test.YtdffnjikmkgjkaaGreatTmAU
import Derived.Test.YtdffnjikmkgjkaaGreatTmAT
import Derived.Test.YtdffnjikmkgjkaaGreatTmAR
set_option linter.unusedSimpArgs false
set_option linter.unusedVariables false
set_option maxHeartbeats 8000000
namespace Go.Proofs.YtdffnjikmkgjkaaGreat
section
open Go.RowKit Go.Shelf
variable {w:World}{τ:Nat→Nat}{s q:Nat}{S:StD}
set_option maxRecDepth 8000 in
theorem tdeed_k11 (h:St w τ s q S)(hs:s<100000)(hq:q≤100000){x:ThD}(hx:ThR x)(t:Int)(ht:I64 t){a b:Nat}(ha6:a<6)(hb6:b<6) :
    Calls Tryz.prog 57 #[pV S.sp,.int .i64 t,ddV ⟨11,a,b,0,0⟩,thV x] w (TdP w τ s q S ⟨11,a,b,0,0⟩ x):=by
  obtain⟨τ0,hf,tk,fr⟩:=h.fresh;have hst:=run_storeF;have hmf:=run_mf;obtain⟨W,hWW,hW⟩:=ddW_newE w S ⟨11,a,b,0,0⟩ x;simp only[] at hWW hW;have c6a:=(hW.o6 1 _ rfl).1;have c6b:=(hW.o6 2 _ rfl).1;have c6k:=(hW.o6 0 _ rfl).1;have c7a:=(hW.o7 (2+a) _ (thC_at ha6)).1;have c7b:=(hW.o7 (2+b) _ (thC_at hb6)).1;have a0:(0:Int)≤a:=by omega
  have a1:(a:Int)<6:=by omega
  have b0:(0:Int)≤b:=by omega
  have b1:(b:Int)<6:=by omega
  simp only[rg,toldF,List.getD_eq_getElem?_getD] at hWW c7a c7b;simp only[ddV,thV,rg];go_enter Tryz.func57,Tryz.ntmps57;go_wp2_with fail
  go_quiet (fail)
  clear hWW hst hmf c6a c6b c7a c7b;have hV:DdW w (W.drewN nq) S ⟨11,a,b,0,0⟩ x:=hW.calm ((Fr.refl _ _).drewN nq) rfl;clear hW c6k;generalize W.drewN nq=W' at *;have y4:=(hV.o4 0 _ rfl).1;have y6k:=(hV.o6 0 _ rfl).1;have y6i:=(hV.o6 3 _ rfl).1;have y6n:=(hV.o6 4 _ rfl).1;have yF:=(hV.oF 0 _ rfl).1;have hlt:∀j,j≤5→w.heap.size+j<W'.heap.size:=fun j hj=>by rw[hV.z];omega
  have hpb:=hx.at b;have hpa:=hx.at a;rw[List.getD_eq_getElem?_getD] at hpa hpb;obtain⟨pb,hpbe⟩:∃pb,x.R[b]?.getD 0=pb:=⟨_,rfl⟩;obtain⟨pa,hpae⟩:∃pa,x.R[a]?.getD 0=pa:=⟨_,rfl⟩;rw[hpbe] at hpb;rw[hpae] at hpa;rw[hpbe,hpae];replace hpbe:=hid hpbe;replace hpae:=hid hpae
  by_cases heq:pa=pb
  · have ee:((pa:Int)==(pb:Int))=true:=by simp[heq]
    replace heq:=hid heq;have q8:=hV.o8;have q9:=hV.o9;have ol:=told_is hV.o7 hx.b hx.p 1 0;clear y4 y6i y6n;simp only[toldF] at yF;go_wp2_with fail
    refine ol.mono ?_;rintro en w6 ⟨rfl,k6⟩;clear ol yF;have o53:=q8.calm k6;have o63:=q9.calm k6;have hX:=(⟨x,hx.r,hx.rp,rfl,rfl,rfl,rfl,.inl rfl⟩:DtX x (x.endX 0) 0);generalize (x:ThD).endX 0=x2 at *;obtain⟨v2,hv2⟩:∃v2:Int,(if (0:Int)=0 then (1:Int) else 0)=v2:=⟨_,rfl⟩;rw[hv2];replace hv2:=hid hv2;simp only[thV,acV,rg];obtain⟨y0,z0,y1,z1,y2,z2,y3,z3,y4,z4,y5,z5,y6,z6,y7,z7,y8,z8,y9,z9,y10,z10,y11,z11,y12,z12,y13,z13,y14,z14⟩:=OwnL.cf15 o53;obtain⟨yy0,zz0,yy1,zz1,yy2,zz2⟩:=OwnL.cf3 o63;have T1:=o53.whole (us:=(thC x2)) rfl;have F1:=frC w6 (w.heap.size+1+1+1) 0 (thC x2);have U0:=o63.fr F1 (by omega);have U:=U0.whole (us:=[.int .i64 2,.int .i64 0,.int .i64 v2]) rfl;have F2:Fr (fun k=>k=w.heap.size+1+1+1+1) (w6.setCells (w.heap.size+1+1+1) 0 (thC x2)) ((w6.setCells (w.heap.size+1+1+1) 0 (thC x2)).setCells (w.heap.size+1+1+1+1) 0 [.int .i64 2,.int .i64 0,.int .i64 v2]):=Fr.setCells (S:=fun k=>k=w.heap.size+1+1+1+1) rfl _ _ (Fr.refl _ _);have T:=T1.fr F2 (by omega)
    have hF:Fr (fun b=>w.heap.size≤b∧b<W'.heap.size) W' ((w6.setCells (w.heap.size+1+1+1) 0 (thC x2)).setCells (w.heap.size+1+1+1+1) 0 [.int .i64 2,.int .i64 0,.int .i64 v2]):=
      (((Fr.refl (fun b=>w.heap.size≤b∧b<W'.heap.size) W').trans (Calm.any k6)).trans (F1.mono (fun b _ e=>by have:=hlt 3 (by omega);omega))).trans (F2.mono (fun b _ e=>by have:=hlt 4 (by omega);omega))
    have hP:TdP w τ s q S ⟨11,a,b,0,0⟩ x (.returned (.tuple #[thV x2,acV 2 0 v2])) ((w6.setCells (w.heap.size+1+1+1) 0 (thC x2)).setCells (w.heap.size+1+1+1+1) 0 [.int .i64 2,.int .i64 0,.int .i64 v2]):=⟨x2,0,v2,rfl,by decide,hX,dd_fin hV tk fr (Nx.mono (s2:=s+1) (q2:=q) (Nx.calm (hf.calm hV.c) (Fr.refl _ _) (R:=DtR S ⟨11,a,b,0,0⟩ x 0) (.inr (.inr ⟨by show(11:Int)≠1;decide,by show(11:Int)≠2;decide,by show(11:Int)≠3;decide,by decide⟩))) (Nat.le_succ _) (Nat.le_refl _) (fun _ h=>h)) hF⟩;replace hP:=hid hP;replace T:=hid T;replace U:=hid U;clear T1 F1 U0 F2 hF hX q8 q9;go_wp2;exact bodyPost_ret (v:=.tuple #[thV x2,acV 2 0 v2]) (res_two (i:=8) (j:=9) rfl rfl rfl T.out U.out) rfl hP.out
  · have ee:((pa:Int)==(pb:Int))=false:=by simp;omega
    have q8:=hV.o8;have q9:=hV.o9;have ol:=told_is hV.o7 hx.b hx.p 0 0;clear y4 y6i y6n;simp only[toldF] at yF;go_wp2_with fail
    refine ol.mono ?_;rintro en w6 ⟨rfl,k6⟩;clear ol yF;have o53:=q8.calm k6;have o63:=q9.calm k6;have hX:=(⟨x,hx.r,hx.rp,rfl,rfl,rfl,rfl,.inl rfl⟩:DtX x (x.endX 0) 0);generalize (x:ThD).endX 0=x2 at *;obtain⟨v2,hv2⟩:∃v2:Int,(if (0:Int)=0 then (0:Int) else 0)=v2:=⟨_,rfl⟩;rw[hv2];replace hv2:=hid hv2;simp only[thV,acV,rg];obtain⟨y0,z0,y1,z1,y2,z2,y3,z3,y4,z4,y5,z5,y6,z6,y7,z7,y8,z8,y9,z9,y10,z10,y11,z11,y12,z12,y13,z13,y14,z14⟩:=OwnL.cf15 o53;obtain⟨yy0,zz0,yy1,zz1,yy2,zz2⟩:=OwnL.cf3 o63;have T1:=o53.whole (us:=(thC x2)) rfl;have F1:=frC w6 (w.heap.size+1+1+1) 0 (thC x2);have U0:=o63.fr F1 (by omega);have U:=U0.whole (us:=[.int .i64 2,.int .i64 0,.int .i64 v2]) rfl;have F2:Fr (fun k=>k=w.heap.size+1+1+1+1) (w6.setCells (w.heap.size+1+1+1) 0 (thC x2)) ((w6.setCells (w.heap.size+1+1+1) 0 (thC x2)).setCells (w.heap.size+1+1+1+1) 0 [.int .i64 2,.int .i64 0,.int .i64 v2]):=Fr.setCells (S:=fun k=>k=w.heap.size+1+1+1+1) rfl _ _ (Fr.refl _ _);have T:=T1.fr F2 (by omega)
    have hF:Fr (fun b=>w.heap.size≤b∧b<W'.heap.size) W' ((w6.setCells (w.heap.size+1+1+1) 0 (thC x2)).setCells (w.heap.size+1+1+1+1) 0 [.int .i64 2,.int .i64 0,.int .i64 v2]):=
      (((Fr.refl (fun b=>w.heap.size≤b∧b<W'.heap.size) W').trans (Calm.any k6)).trans (F1.mono (fun b _ e=>by have:=hlt 3 (by omega);omega))).trans (F2.mono (fun b _ e=>by have:=hlt 4 (by omega);omega))
    have hP:TdP w τ s q S ⟨11,a,b,0,0⟩ x (.returned (.tuple #[thV x2,acV 2 0 v2])) ((w6.setCells (w.heap.size+1+1+1) 0 (thC x2)).setCells (w.heap.size+1+1+1+1) 0 [.int .i64 2,.int .i64 0,.int .i64 v2]):=⟨x2,0,v2,rfl,by decide,hX,dd_fin hV tk fr (Nx.mono (s2:=s+1) (q2:=q) (Nx.calm (hf.calm hV.c) (Fr.refl _ _) (R:=DtR S ⟨11,a,b,0,0⟩ x 0) (.inr (.inr ⟨by show(11:Int)≠1;decide,by show(11:Int)≠2;decide,by show(11:Int)≠3;decide,by decide⟩))) (Nat.le_succ _) (Nat.le_refl _) (fun _ h=>h)) hF⟩;replace hP:=hid hP;replace T:=hid T;replace U:=hid U;clear T1 F1 U0 F2 hF hX q8 q9;go_wp2;exact bodyPost_ret (v:=.tuple #[thV x2,acV 2 0 v2]) (res_two (i:=8) (j:=9) rfl rfl rfl T.out U.out) rfl hP.out
set_option maxRecDepth 8000 in
theorem tdeed_k12 (h:St w τ s q S)(hs:s<100000)(hq:q≤100000){x:ThD}(hx:ThR x)(t:Int)(ht:I64 t){a b:Nat}(ha6:a<6)(hb6:b<6) :
    Calls Tryz.prog 57 #[pV S.sp,.int .i64 t,ddV ⟨12,a,b,0,0⟩,thV x] w (TdP w τ s q S ⟨12,a,b,0,0⟩ x):=by
  obtain⟨τ0,hf,tk,fr⟩:=h.fresh;have hst:=run_storeF;have hmf:=run_mf;obtain⟨W,hWW,hW⟩:=ddW_newE w S ⟨12,a,b,0,0⟩ x;simp only[] at hWW hW;have c6a:=(hW.o6 1 _ rfl).1;have c6b:=(hW.o6 2 _ rfl).1;have c6k:=(hW.o6 0 _ rfl).1;have c7a:=(hW.o7 (2+a) _ (thC_at ha6)).1;have c7b:=(hW.o7 (2+b) _ (thC_at hb6)).1;have a0:(0:Int)≤a:=by omega
  have a1:(a:Int)<6:=by omega
  have b0:(0:Int)≤b:=by omega
  have b1:(b:Int)<6:=by omega
  simp only[rg,toldF,List.getD_eq_getElem?_getD] at hWW c7a c7b;simp only[ddV,thV,rg];go_enter Tryz.func57,Tryz.ntmps57;go_wp2_with fail
  go_quiet (fail)
  clear hWW hst hmf c6a c6b c7a c7b;have hV:DdW w (W.drewN nq) S ⟨12,a,b,0,0⟩ x:=hW.calm ((Fr.refl _ _).drewN nq) rfl;clear hW c6k;generalize W.drewN nq=W' at *;have y4:=(hV.o4 0 _ rfl).1;have y6k:=(hV.o6 0 _ rfl).1;have y6i:=(hV.o6 3 _ rfl).1;have y6n:=(hV.o6 4 _ rfl).1;have yF:=(hV.oF 0 _ rfl).1;have hlt:∀j,j≤5→w.heap.size+j<W'.heap.size:=fun j hj=>by rw[hV.z];omega
  have hpb:=hx.at b;have hpa:=hx.at a;rw[List.getD_eq_getElem?_getD] at hpa hpb;obtain⟨pb,hpbe⟩:∃pb,x.R[b]?.getD 0=pb:=⟨_,rfl⟩;obtain⟨pa,hpae⟩:∃pa,x.R[a]?.getD 0=pa:=⟨_,rfl⟩;rw[hpbe] at hpb;rw[hpae] at hpa;rw[hpbe,hpae];replace hpbe:=hid hpbe;replace hpae:=hid hpae;have c7:=hV.o7 (2+a) _ (thC_at ha6);have c70:=c7.1;have c71:=c7.2;have y6a:=(hV.o6 1 _ rfl).1;have F:Fr (fun b=>b=w.heap.size+1+1) W' (W'.setCell ⟨w.heap.size+1+1,2+a,none⟩ (.int .i64 ((pb:Nat):Int))):=(Fr.refl (fun b=>b=w.heap.size+1+1) W').setCell (p:=⟨w.heap.size+1+1,2+a,none⟩) (.inl rfl) _;have o73:=hV.o7.set (2+a) (.int .i64 ((pb:Nat):Int)) (by rw[thC_len];omega);rw[thC_set hx.r ha6] at o73;have q8:=hV.o8.fr F (by omega);have q9:=hV.o9.fr F (by omega);have yF2:=F.cellAt yF (by show ¬(w.heap.size+1+1+1+1+1=w.heap.size+1+1);omega);have hXX:DtX x (({ x with R:=x.R.set a pb } : ThD).endX 0) 0:=hx.led (a:=a) (v:=pb) (by omega) 0;obtain⟨W3,hW3⟩:∃W3,W'.setCell ⟨w.heap.size+1+1,2+a,none⟩ (.int .i64 (pb:Int))=W3:=⟨_,rfl⟩;rw[hW3] at F o73 q8 q9 yF2;clear c7;have ol:=told_is o73 hx.b hx.p 0 0;clear y4 y6i y6n;simp only[toldF] at yF;go_wp2_with fail
  refine ol.mono ?_;rintro en w6 ⟨rfl,k6⟩;clear ol yF2;have o53:=q8.calm k6;have o63:=q9.calm k6;have hX:=hXX;generalize ({ x with R:=x.R.set a pb } : ThD).endX 0=x2 at *;obtain⟨v2,hv2⟩:∃v2:Int,(if (0:Int)=0 then (0:Int) else 0)=v2:=⟨_,rfl⟩;rw[hv2];replace hv2:=hid hv2;simp only[thV,acV,rg];obtain⟨y0,z0,y1,z1,y2,z2,y3,z3,y4,z4,y5,z5,y6,z6,y7,z7,y8,z8,y9,z9,y10,z10,y11,z11,y12,z12,y13,z13,y14,z14⟩:=OwnL.cf15 o53;obtain⟨yy0,zz0,yy1,zz1,yy2,zz2⟩:=OwnL.cf3 o63;have T1:=o53.whole (us:=(thC x2)) rfl;have F1:=frC w6 (w.heap.size+1+1+1) 0 (thC x2);have U0:=o63.fr F1 (by omega);have U:=U0.whole (us:=[.int .i64 2,.int .i64 0,.int .i64 v2]) rfl;have F2:Fr (fun k=>k=w.heap.size+1+1+1+1) (w6.setCells (w.heap.size+1+1+1) 0 (thC x2)) ((w6.setCells (w.heap.size+1+1+1) 0 (thC x2)).setCells (w.heap.size+1+1+1+1) 0 [.int .i64 2,.int .i64 0,.int .i64 v2]):=Fr.setCells (S:=fun k=>k=w.heap.size+1+1+1+1) rfl _ _ (Fr.refl _ _);have T:=T1.fr F2 (by omega)
  have hF:Fr (fun b=>w.heap.size≤b∧b<W'.heap.size) W' ((w6.setCells (w.heap.size+1+1+1) 0 (thC x2)).setCells (w.heap.size+1+1+1+1) 0 [.int .i64 2,.int .i64 0,.int .i64 v2]):=
    (((F.mono (fun b _ e=>by have:=hlt 2 (by omega);omega):Fr (fun b=>w.heap.size≤b∧b<W'.heap.size) _ _).trans (Calm.any k6)).trans (F1.mono (fun b _ e=>by have:=hlt 3 (by omega);omega))).trans (F2.mono (fun b _ e=>by have:=hlt 4 (by omega);omega))
  have hP:TdP w τ s q S ⟨12,a,b,0,0⟩ x (.returned (.tuple #[thV x2,acV 2 0 v2])) ((w6.setCells (w.heap.size+1+1+1) 0 (thC x2)).setCells (w.heap.size+1+1+1+1) 0 [.int .i64 2,.int .i64 0,.int .i64 v2]):=⟨x2,0,v2,rfl,by decide,hX,dd_fin hV tk fr (Nx.mono (s2:=s+1) (q2:=q) (Nx.calm (hf.calm hV.c) (Fr.refl _ _) (R:=DtR S ⟨12,a,b,0,0⟩ x 0) (.inr (.inr ⟨by show(12:Int)≠1;decide,by show(12:Int)≠2;decide,by show(12:Int)≠3;decide,by decide⟩))) (Nat.le_succ _) (Nat.le_refl _) (fun _ h=>h)) hF⟩;replace hP:=hid hP;replace T:=hid T;replace U:=hid U;clear T1 F1 U0 F2 hF hX q8 q9;go_wp2;exact bodyPost_ret (v:=.tuple #[thV x2,acV 2 0 v2]) (res_two (i:=8) (j:=9) rfl rfl rfl T.out U.out) rfl hP.out
set_option maxRecDepth 8000 in
theorem tdeed_k13 (h:St w τ s q S)(hs:s<100000)(hq:q≤100000){x:ThD}(hx:ThR x)(t:Int)(ht:I64 t){a b:Nat}(ha6:a<6)(hb6:b<6) :
    Calls Tryz.prog 57 #[pV S.sp,.int .i64 t,ddV ⟨13,a,b,0,0⟩,thV x] w (TdP w τ s q S ⟨13,a,b,0,0⟩ x):=by
  obtain⟨τ0,hf,tk,fr⟩:=h.fresh;have hst:=run_storeF;have hmf:=run_mf;obtain⟨W,hWW,hW⟩:=ddW_newE w S ⟨13,a,b,0,0⟩ x;simp only[] at hWW hW;have c6a:=(hW.o6 1 _ rfl).1;have c6b:=(hW.o6 2 _ rfl).1;have c6k:=(hW.o6 0 _ rfl).1;have c7a:=(hW.o7 (2+a) _ (thC_at ha6)).1;have c7b:=(hW.o7 (2+b) _ (thC_at hb6)).1;have a0:(0:Int)≤a:=by omega
  have a1:(a:Int)<6:=by omega
  have b0:(0:Int)≤b:=by omega
  have b1:(b:Int)<6:=by omega
  simp only[rg,toldF,List.getD_eq_getElem?_getD] at hWW c7a c7b;simp only[ddV,thV,rg];go_enter Tryz.func57,Tryz.ntmps57;go_wp2_with fail
  go_quiet (fail)
  clear hWW hst hmf c6a c6b c7a c7b;have hV:DdW w (W.drewN nq) S ⟨13,a,b,0,0⟩ x:=hW.calm ((Fr.refl _ _).drewN nq) rfl;clear hW c6k;generalize W.drewN nq=W' at *;have y4:=(hV.o4 0 _ rfl).1;have y6k:=(hV.o6 0 _ rfl).1;have y6i:=(hV.o6 3 _ rfl).1;have y6n:=(hV.o6 4 _ rfl).1;have yF:=(hV.oF 0 _ rfl).1;have hlt:∀j,j≤5→w.heap.size+j<W'.heap.size:=fun j hj=>by rw[hV.z];omega
  have hpb:=hx.at b;have hpa:=hx.at a;rw[List.getD_eq_getElem?_getD] at hpa hpb;obtain⟨pb,hpbe⟩:∃pb,x.R[b]?.getD 0=pb:=⟨_,rfl⟩;obtain⟨pa,hpae⟩:∃pa,x.R[a]?.getD 0=pa:=⟨_,rfl⟩;rw[hpbe] at hpb;rw[hpae] at hpa;rw[hpbe,hpae];replace hpbe:=hid hpbe;replace hpae:=hid hpae;have c7:=hV.o7 (2+a) _ (thC_at ha6);have c70:=c7.1;have c71:=c7.2;have y6a:=(hV.o6 1 _ rfl).1;have F:Fr (fun b=>b=w.heap.size+1+1) W' (W'.setCell ⟨w.heap.size+1+1,2+a,none⟩ (.int .i64 ((0:Nat):Int))):=(Fr.refl (fun b=>b=w.heap.size+1+1) W').setCell (p:=⟨w.heap.size+1+1,2+a,none⟩) (.inl rfl) _;have o73:=hV.o7.set (2+a) (.int .i64 ((0:Nat):Int)) (by rw[thC_len];omega);rw[thC_set hx.r ha6] at o73;have q8:=hV.o8.fr F (by omega);have q9:=hV.o9.fr F (by omega);have yF2:=F.cellAt yF (by show ¬(w.heap.size+1+1+1+1+1=w.heap.size+1+1);omega);have hXX:DtX x (({ x with R:=x.R.set a 0 } : ThD).endX 0) 0:=hx.led (a:=a) (v:=0) (by omega) 0;have e13:Value.int .i64 ((0:Nat):Int) = .int .i64 0:=rfl;rw[e13] at F o73 q8 q9 yF2;obtain⟨W3,hW3⟩:∃W3,W'.setCell ⟨w.heap.size+1+1,2+a,none⟩ (.int .i64 (0:Int))=W3:=⟨_,rfl⟩;rw[hW3] at F o73 q8 q9 yF2;clear c7;have ol:=told_is o73 hx.b hx.p 0 0;clear y4 y6i y6n;simp only[toldF] at yF;go_wp2_with fail
  refine ol.mono ?_;rintro en w6 ⟨rfl,k6⟩;clear ol yF2;have o53:=q8.calm k6;have o63:=q9.calm k6;have hX:=hXX;generalize ({ x with R:=x.R.set a 0 } : ThD).endX 0=x2 at *;obtain⟨v2,hv2⟩:∃v2:Int,(if (0:Int)=0 then (0:Int) else 0)=v2:=⟨_,rfl⟩;rw[hv2];replace hv2:=hid hv2;simp only[thV,acV,rg];obtain⟨y0,z0,y1,z1,y2,z2,y3,z3,y4,z4,y5,z5,y6,z6,y7,z7,y8,z8,y9,z9,y10,z10,y11,z11,y12,z12,y13,z13,y14,z14⟩:=OwnL.cf15 o53;obtain⟨yy0,zz0,yy1,zz1,yy2,zz2⟩:=OwnL.cf3 o63;have T1:=o53.whole (us:=(thC x2)) rfl;have F1:=frC w6 (w.heap.size+1+1+1) 0 (thC x2);have U0:=o63.fr F1 (by omega);have U:=U0.whole (us:=[.int .i64 2,.int .i64 0,.int .i64 v2]) rfl;have F2:Fr (fun k=>k=w.heap.size+1+1+1+1) (w6.setCells (w.heap.size+1+1+1) 0 (thC x2)) ((w6.setCells (w.heap.size+1+1+1) 0 (thC x2)).setCells (w.heap.size+1+1+1+1) 0 [.int .i64 2,.int .i64 0,.int .i64 v2]):=Fr.setCells (S:=fun k=>k=w.heap.size+1+1+1+1) rfl _ _ (Fr.refl _ _);have T:=T1.fr F2 (by omega)
  have hF:Fr (fun b=>w.heap.size≤b∧b<W'.heap.size) W' ((w6.setCells (w.heap.size+1+1+1) 0 (thC x2)).setCells (w.heap.size+1+1+1+1) 0 [.int .i64 2,.int .i64 0,.int .i64 v2]):=
    (((F.mono (fun b _ e=>by have:=hlt 2 (by omega);omega):Fr (fun b=>w.heap.size≤b∧b<W'.heap.size) _ _).trans (Calm.any k6)).trans (F1.mono (fun b _ e=>by have:=hlt 3 (by omega);omega))).trans (F2.mono (fun b _ e=>by have:=hlt 4 (by omega);omega))
  have hP:TdP w τ s q S ⟨13,a,b,0,0⟩ x (.returned (.tuple #[thV x2,acV 2 0 v2])) ((w6.setCells (w.heap.size+1+1+1) 0 (thC x2)).setCells (w.heap.size+1+1+1+1) 0 [.int .i64 2,.int .i64 0,.int .i64 v2]):=⟨x2,0,v2,rfl,by decide,hX,dd_fin hV tk fr (Nx.mono (s2:=s+1) (q2:=q) (Nx.calm (hf.calm hV.c) (Fr.refl _ _) (R:=DtR S ⟨13,a,b,0,0⟩ x 0) (.inr (.inr ⟨by show(13:Int)≠1;decide,by show(13:Int)≠2;decide,by show(13:Int)≠3;decide,by decide⟩))) (Nat.le_succ _) (Nat.le_refl _) (fun _ h=>h)) hF⟩;replace hP:=hid hP;replace T:=hid T;replace U:=hid U;clear T1 F1 U0 F2 hF hX q8 q9;go_wp2;exact bodyPost_ret (v:=.tuple #[thV x2,acV 2 0 v2]) (res_two (i:=8) (j:=9) rfl rfl rfl T.out U.out) rfl hP.out
end
section
open Go.RowKit Go.Shelf
variable {w:World}{τ:Nat→Nat}{s q:Nat}{S:StD}
set_option maxRecDepth 8000 in
theorem tdeed_k14 (h:St w τ s q S)(hs:s<100000)(hq:q≤100000){x:ThD}(hx:ThR x)(t:Int)(ht:I64 t){a b:Nat}(ha6:a<6)(hb6:b<6) :
    Calls Tryz.prog 57 #[pV S.sp,vI t,ddV ⟨14,a,b,0,0⟩,thV x] w (TdP w τ s q S ⟨14,a,b,0,0⟩ x):=by
  obtain⟨τ0,hf,tk,fr⟩:=h.fresh;have hst:=run_storeF;have hmf:=run_mf;obtain⟨W,hWW,hW⟩:=ddW_newE w S ⟨14,a,b,0,0⟩ x;simp only[] at hWW hW;have c6a:=(hW.o6 1 _ rfl).1;have c6b:=(hW.o6 2 _ rfl).1;have c6k:=(hW.o6 0 _ rfl).1;have c7a:=(hW.o7 (2+a) _ (thC_at ha6)).1;have c7b:=(hW.o7 (2+b) _ (thC_at hb6)).1;have a0:(0:Int)≤a:=by omega
  have a1:(a:Int)<6:=by omega
  have b0:(0:Int)≤b:=by omega
  have b1:(b:Int)<6:=by omega
  simp only[rg,toldF,List.getD_eq_getElem?_getD] at hWW c7a c7b;simp only[ddV,thV,rg];go_enter Tryz.func57,Tryz.ntmps57;go_wp2_with fail
  go_quiet (fail)
  clear hWW hst hmf c6a c6b c7a c7b;have hV:DdW w (W.drewN nq) S ⟨14,a,b,0,0⟩ x:=hW.calm ((Fr.refl _ _).drewN nq) rfl;clear hW c6k;generalize W.drewN nq=W' at *;have y4:=(hV.o4 0 _ rfl).1;have y6k:=(hV.o6 0 _ rfl).1;have y6i:=(hV.o6 3 _ rfl).1;have y6n:=(hV.o6 4 _ rfl).1;have yF:=(hV.oF 0 _ rfl).1;have hlt:∀j,j≤5→w.heap.size+j<W'.heap.size:=fun j hj=>by rw[hV.z];omega
  have hpb:=hx.at b;have hpa:=hx.at a;rw[List.getD_eq_getElem?_getD] at hpa hpb;obtain⟨pb,hpbe⟩:∃pb,x.R[b]?.getD 0=pb:=⟨_,rfl⟩;obtain⟨pa,hpae⟩:∃pa,x.R[a]?.getD 0=pa:=⟨_,rfl⟩;rw[hpbe] at hpb;rw[hpae] at hpa;rw[hpbe,hpae];replace hpbe:=hid hpbe;replace hpae:=hid hpae;have oc:=tabort_is (hf.calm hV.c) hq t ht;go_wp2_with fail
  refine oc.mono ?_;rintro en w5 ⟨x0,rfl,hx0,hx100,n5⟩;clear oc;obtain⟨τ5,S5,p1,p2,p3,p4⟩:=n5;have tg:∀j,j≤5→500≤τ0 (w.heap.size+j):=fun j hj=>by rw[fr _ (by omega)];omega
  have q7:=p2.ownL hV.o7 (tg 2 (by omega));have qF:=p2.ownL hV.oF (tg 5 (by omega));have q8:=p2.ownL hV.o8 (tg 3 (by omega));have q9:=p2.ownL hV.o9 (tg 4 (by omega));have n5:Nx W' τ0 (s+1) q S w5 (DtR S ⟨14,a,b,0,0⟩ x x0):=Nx.mono (s2:=s+1) (q2:=q) (⟨τ5,S5,p1,p2,p3,p4⟩:Nx W' τ0 s q S w5 (fun _=>True)) (Nat.le_succ _) (Nat.le_refl _) (fun _ _=>.inr (.inr ⟨by show(14:Int)≠1;decide,by show(14:Int)≠2;decide,by show(14:Int)≠3;decide,hx100⟩));clear p1 p2 p3 p4 yF y6k
  by_cases h0:x0=0
  · subst h0;obtain⟨x2,hx2⟩:∃x2,({ x.back with b:=x.b+1 } : ThD)=x2:=⟨_,rfl⟩;have hX:DtX x x2 0:=⟨x,hx.r,hx.rp,rfl,rfl,rfl,rfl,.inr ⟨rfl,hx2.symm⟩⟩;have ob:=back_L w5 x.b x.p (x.R.getD 0 0:Nat) (x.R.getD 1 0:Nat) (x.R.getD 2 0:Nat) (x.R.getD 3 0:Nat) (x.R.getD 4 0:Nat) (x.R.getD 5 0:Nat) (x.V.getD 0 0:Nat) (x.V.getD 1 0:Nat) (x.V.getD 2 0:Nat) (x.V.getD 3 0:Nat) (x.V.getD 4 0:Nat) (x.V.getD 5 0:Nat) x.live;simp only[thC,rg] at q7;obtain⟨y0,y1,y2,y3,y4,y5,y6,y7,y8,y9,y10,y11,y12,y13,y14⟩:=OwnL.ce15 q7;have hw2:IntKind.i64.wrap (x.b+1)=x.b+1:=IntWalk.i64_in _ (by have:=hx.b;omega);go_wp2_with fail
    refine ob.mono ?_;rintro en w6 ⟨rfl,hw6⟩;have k6:Calm w5 w6:=by rw[hw6];exact((Fr.refl _ _).alloc _).alloc _
    clear hw6 ob y0 y1 y2 y3 y4 y5 y6 y7 y8 y9 y10 y11 y12 y13 y14;have r7:=q7.calm k6;have r8:=q8.calm k6;have r9:=q9.calm k6;have xb1:=thC_one x.back
    go_wp2_with (
        refine wpList_storeO rfl _ _ _ rfl (w.heap.size+1+1) (thC x.back).toArray rfl rfl r7 rfl (by kernel_rfl) xb1 ?_;intro W7 s7 f7;clear r7 xb1;have s8:=s7.set 0 (vI (x.b+1)) (by show 0<15;decide);have g7:=frS W7 (w.heap.size+1+1) 0 (vI (x.b+1));have e8:(thC x.back).set 0 (vI (x.b+1))=thC x2:=by rw[←hx2];rfl
        have s8:OwnL (W7.setCell ⟨w.heap.size+1+1,0,none⟩ (vI (x.b+1))) (w.heap.size+1+1) (thC x2):=by rw[←e8];exact s8
        obtain⟨W8,hW8⟩:∃W8,W7.setCell ⟨w.heap.size+1+1,0,none⟩ (vI (x.b+1))=W8:=⟨_,rfl⟩;rw[hW8] at s8 g7;have s70:W7.cell? ⟨w.heap.size+1+1,0,none⟩=some (vI x.b):=(s7 0 _ rfl).1;have s71:W7.frozen? ⟨w.heap.size+1+1,0,none⟩=false:=(s7 0 _ rfl).2;replace hx2:=hid hx2;simp only[thC,rg] at s8;obtain⟨d0,d1,d2,d3,d4,d5,d6,d7,d8,d9,d10,d11,d12,d13,d14⟩:=OwnL.ce15 s8;have o53:=(r8.fr f7 (by omega)).fr g7 (by omega);have o63:=(r9.fr f7 (by omega)).fr g7 (by omega);simp only[thV,acV,rg];obtain⟨y0,z0,y1,z1,y2,z2,y3,z3,y4,z4,y5,z5,y6,z6,y7,z7,y8,z8,y9,z9,y10,z10,y11,z11,y12,z12,y13,z13,y14,z14⟩:=OwnL.cf15 o53;obtain⟨yy0,zz0,yy1,zz1,yy2,zz2⟩:=OwnL.cf3 o63;have T1:=o53.whole (us:=(thC x2)) rfl;have F1:=frC W8 (w.heap.size+1+1+1) 0 (thC x2);have U0:=o63.fr F1 (by omega);have U:=U0.whole (us:=[vI 2,vI 0,vI 0]) rfl;have F2:Fr (fun k=>k=w.heap.size+1+1+1+1) (W8.setCells (w.heap.size+1+1+1) 0 (thC x2)) ((W8.setCells (w.heap.size+1+1+1) 0 (thC x2)).setCells (w.heap.size+1+1+1+1) 0 [vI 2,vI 0,vI 0]):=Fr.setCells (S:=fun k=>k=w.heap.size+1+1+1+1) rfl _ _ (Fr.refl _ _);have T:=T1.fr F2 (by omega)
        have hF:Fr (fun b=>w.heap.size≤b∧b<W'.heap.size) w5 ((W8.setCells (w.heap.size+1+1+1) 0 (thC x2)).setCells (w.heap.size+1+1+1+1) 0 [vI 2,vI 0,vI 0]):=
          ((((Calm.any k6:Fr (fun b=>w.heap.size≤b∧b<W'.heap.size) _ _).trans (f7.mono (fun b _ e=>by have:=hlt 2 (by omega);omega))).trans (g7.mono (fun b _ e=>by have:=hlt 2 (by omega);omega))).trans (F1.mono (fun b _ e=>by have:=hlt 3 (by omega);omega))).trans (F2.mono (fun b _ e=>by have:=hlt 4 (by omega);omega))
        have hP:TdP w τ s q S ⟨14,a,b,0,0⟩ x (.returned (.tuple #[thV x2,acV 2 0 0])) ((W8.setCells (w.heap.size+1+1+1) 0 (thC x2)).setCells (w.heap.size+1+1+1+1) 0 [vI 2,vI 0,vI 0]):=⟨x2,0,0,rfl,by decide,hX,dd_fin hV tk fr n5 hF⟩;replace hP:=hid hP;replace T:=hid T;replace U:=hid U
        clear T1 F1 U0 F2 hF n5 hX q8 q9 r8 r9 f7 g7 s7 e8)
    exact bodyPost_ret (v:=.tuple #[thV x2,acV 2 0 0]) (res_two (i:=8) (j:=9) rfl rfl rfl T.out U.out) rfl hP.out
  · have en0:(x0 != 0)=true:=by simp[bne,h0]
    have yF:=(qF 0 _ rfl).1;have ol:=told_is q7 hx.b hx.p 0 x0;simp only[toldF] at yF;go_wp2_with fail
    refine ol.mono ?_;rintro en w6 ⟨rfl,k6⟩;clear ol yF;have o53:=q8.calm k6;have o63:=q9.calm k6;have hX:=(⟨x,hx.r,hx.rp,rfl,rfl,rfl,rfl,.inl rfl⟩:DtX x (x.endX x0) x0);generalize (x:ThD).endX x0=x2 at *;obtain⟨v2,hv2⟩:∃v2:Int,(if (x0:Int)=0 then (0:Int) else 0)=v2:=⟨_,rfl⟩;rw[hv2];replace hv2:=hid hv2;simp only[thV,acV,rg];obtain⟨y0,z0,y1,z1,y2,z2,y3,z3,y4,z4,y5,z5,y6,z6,y7,z7,y8,z8,y9,z9,y10,z10,y11,z11,y12,z12,y13,z13,y14,z14⟩:=OwnL.cf15 o53;obtain⟨yy0,zz0,yy1,zz1,yy2,zz2⟩:=OwnL.cf3 o63;have T1:=o53.whole (us:=(thC x2)) rfl;have F1:=frC w6 (w.heap.size+1+1+1) 0 (thC x2);have U0:=o63.fr F1 (by omega);have U:=U0.whole (us:=[vI 2,vI x0,vI v2]) rfl;have F2:Fr (fun k=>k=w.heap.size+1+1+1+1) (w6.setCells (w.heap.size+1+1+1) 0 (thC x2)) ((w6.setCells (w.heap.size+1+1+1) 0 (thC x2)).setCells (w.heap.size+1+1+1+1) 0 [vI 2,vI x0,vI v2]):=Fr.setCells (S:=fun k=>k=w.heap.size+1+1+1+1) rfl _ _ (Fr.refl _ _);have T:=T1.fr F2 (by omega)
    have hF:Fr (fun b=>w.heap.size≤b∧b<W'.heap.size) w5 ((w6.setCells (w.heap.size+1+1+1) 0 (thC x2)).setCells (w.heap.size+1+1+1+1) 0 [vI 2,vI x0,vI v2]):=
      (((Fr.refl (fun b=>w.heap.size≤b∧b<W'.heap.size) w5).trans (Calm.any k6)).trans (F1.mono (fun b _ e=>by have:=hlt 3 (by omega);omega))).trans (F2.mono (fun b _ e=>by have:=hlt 4 (by omega);omega))
    have hP:TdP w τ s q S ⟨14,a,b,0,0⟩ x (.returned (.tuple #[thV x2,acV 2 x0 v2])) ((w6.setCells (w.heap.size+1+1+1) 0 (thC x2)).setCells (w.heap.size+1+1+1+1) 0 [vI 2,vI x0,vI v2]):=⟨x2,x0,v2,rfl,hx0,hX,dd_fin hV tk fr (n5) hF⟩;replace hP:=hid hP;replace T:=hid T;replace U:=hid U;clear T1 F1 U0 F2 hF hX q8 q9;go_wp2;exact bodyPost_ret (v:=.tuple #[thV x2,acV 2 x0 v2]) (res_two (i:=8) (j:=9) rfl rfl rfl T.out U.out) rfl hP.out
theorem sgrt {d:Dd}(h:d.Rt):1≤d.k∧d.k≤14:=by
  simp only[Dd.Rt] at h;omega
theorem tdeed_is (h:St w τ s q S)(hs:s<100000)(hq:q≤100000){x:ThD}(hx:ThR x)(t:Int)(ht:I64 t){d:Dd}(hd:d.Rt) :
    Calls Tryz.prog 57 #[pV S.sp,vI t,ddV d,thV x] w (TdP w τ s q S d x):=by
  have n6:∀y:Int,R6 y→∃a:Nat,y=a∧a<6:=fun y ⟨h1,h2⟩=>⟨y.toNat,by omega,by omega⟩;have n8:∀y:Int,R8 y→∃a:Nat,y=a∧a≤7:=fun y ⟨h1,h2⟩=>⟨y.toNat,by omega,by omega⟩;have n5:∀y:Int,R5 y→∃a:Nat,y=a∧a≤4:=fun y ⟨h1,h2⟩=>⟨y.toNat,by omega,by omega⟩;have z6:(0:Nat)<6:=by decide
  obtain⟨k,a,b,i,n⟩:=d;simp only[Dd.Rt] at hd;rcases hd with ⟨rfl,h1,rfl,h3,h4⟩|⟨rfl,h1,rfl,h3,h4⟩|⟨rfl,h1,h2,rfl,rfl⟩|⟨rfl,h1,h2,h3,rfl⟩|⟨rfl,h1,h2,h3,rfl⟩|⟨rfl,h1,rfl,h3,rfl⟩|⟨rfl,h1,rfl,h3,h4⟩|⟨rfl,h1,rfl,rfl,rfl⟩|⟨rfl,h1,h2,rfl,rfl⟩|⟨rfl,h1,rfl,rfl,rfl⟩|⟨rfl,h1,h2,rfl,rfl⟩|⟨rfl,h1,h2,rfl,rfl⟩|⟨rfl,h1,rfl,rfl,rfl⟩|⟨rfl,rfl,rfl,rfl,rfl⟩
  · obtain⟨a,rfl,ha⟩:=n6 a h1;obtain⟨i,rfl,hi⟩:=n5 i h3;obtain⟨n,rfl,hn⟩:=n5 n h4;exact tdeed_k1 h hs hq hx t ht (b:=0) ha z6 hi hn
  · obtain⟨a,rfl,ha⟩:=n6 a h1;obtain⟨i,rfl,hi⟩:=n5 i h3;obtain⟨n,rfl,hn⟩:=n5 n h4;exact tdeed_k2 h hs hq hx t ht (b:=0) ha z6 hi hn
  · obtain⟨a,rfl,ha⟩:=n6 a h1;obtain⟨b,rfl,hb⟩:=n6 b h2;exact tdeed_k3 h hs hq hx t ht ha hb
  · obtain⟨a,rfl,ha⟩:=n6 a h1;obtain⟨b,rfl,hb⟩:=n6 b h2;obtain⟨i,rfl,hi⟩:=n8 i h3;exact tdeed_k4 h hs hq hx t ht ha hb hi
  · obtain⟨a,rfl,ha⟩:=n6 a h1;obtain⟨b,rfl,hb⟩:=n6 b h2;obtain⟨i,rfl,hi⟩:=n8 i h3;exact tdeed_k5 h hs hq hx t ht ha hb hi
  · obtain⟨a,rfl,ha⟩:=n6 a h1;obtain⟨i,rfl,hi⟩:=n8 i h3;exact tdeed_k6 h hs hq hx t ht (b:=0) ha z6 hi
  · obtain⟨a,rfl,ha⟩:=n6 a h1;obtain⟨i,rfl,hi⟩:=n8 i h3;exact tdeed_k7 h hs hq hx t ht (b:=0) ha z6 hi (n:=n) (by obtain⟨g1,g2⟩:=h4;exact⟨by omega,by omega⟩)
  · obtain⟨a,rfl,ha⟩:=n6 a h1;exact tdeed_k8 h hs hq hx t ht (b:=0) ha z6
  · obtain⟨a,rfl,ha⟩:=n6 a h1;obtain⟨b,rfl,hb⟩:=n6 b h2;exact tdeed_k9 h hs hq hx t ht ha hb
  · obtain⟨a,rfl,ha⟩:=n6 a h1;exact tdeed_k10 h hs hq hx t ht (b:=0) ha z6
  · obtain⟨a,rfl,ha⟩:=n6 a h1;obtain⟨b,rfl,hb⟩:=n6 b h2;exact tdeed_k11 h hs hq hx t ht ha hb
  · obtain⟨a,rfl,ha⟩:=n6 a h1;obtain⟨b,rfl,hb⟩:=n6 b h2;exact tdeed_k12 h hs hq hx t ht ha hb
  · obtain⟨a,rfl,ha⟩:=n6 a h1;exact tdeed_k13 h hs hq hx t ht (b:=0) ha z6
  · exact tdeed_k14 h hs hq hx t ht (a:=0) (b:=0) z6 z6
end
section
open Go.RowKit Go.Shelf
variable {w:World}{τ:Nat→Nat}{s q:Nat}{S:StD}
def BcP (w:World)(τ:Nat→Nat)(s q:Nat)(S:StD)(n:Nat)(k:Int)(en:Ending)(w':World):Prop:=∃ (x':ThD) (e v:Int),en = .returned (.tuple #[thV x',acV k e v])∧ThOk n x'∧Nx0 w τ s q S w'
theorem ThOk.back {n:Nat}{x:ThD}(h:ThOk n x):ThOk n x.back:=⟨h.b,⟨Int.le_refl 0,(by show(0:Int)≤100;decide)⟩,(fun e=>by cases e),h.v,h.v,h.vp,h.vp⟩
theorem r6_one (x:ThD):(#[rg x.R 0,rg x.R 1,rg x.R 2,rg x.R 3,rg x.R 4,rg x.R 5]:Array Value).all (·.oneCell')=true:=all_oneCell_toArray (cs:=[rg x.R 0,rg x.R 1,rg x.R 2,rg x.R 3,rg x.R 4,rg x.R 5]) (by simp[rg,Value.oneCell'])
def setL:List Value→Nat→List Value→List Value
  | vs,_,[]=>vs
  | vs,o,u::us=>setL (vs.set o u) (o+1) us
theorem OwnL.setsAt {B:Nat} : ∀ {w:World} {vs:List Value} (_:OwnL w B vs) (o:Nat) (us:List Value) (_:o+us.length≤vs.length),OwnL (w.setCells B o us) B (setL vs o us)
  | _,_,h,_,[],_=>h
  | w,vs,h,o,u::us,hk=>OwnL.setsAt (h.set o u (by simp at hk;omega)) (o+1) us (by simp at hk ⊢;omega)
theorem OwnL.thereAt {w:World}{b:Nat}{vs:List Value}(h:OwnL w b vs)(o n:Nat)(hn:o+n≤vs.length):w.there b o n:=fun j hj=>by
  obtain⟨v,hv⟩:∃v,vs[o+j]?=some v:=⟨vs[o+j]'(by omega),List.getElem?_eq_getElem _⟩;have:=h (o+j) v hv;exact⟨by rw[this.1];rfl,this.2⟩
theorem wpList_storeAtO {P:Program}{ops:Array Oper}{rest:List Oper}{op:Oper}{a:Act}{w:World}{Q:Exit→Act→World→Prop}(hgd:op.guard=none)(ty:TypeId)(x y:Operand)(ho:op.op = .store ty x y)
    (b o:Nat) (cells:Array Value) (hx:a.eval x = .pointer (some ⟨b,o,none⟩)) (hy:a.eval y = .agg cells) {vs:List Value} (own:OwnL w b vs) (hn:o+cells.size≤vs.length) (hi:(P.info? ty).map (·.size)=some cells.size) (h1:cells.all (·.oneCell')=true)
    (h:∀w',OwnL w' b (setL vs o cells.toList)→Fr (fun k=>k=b) w w'→wpList P ops Q rest (a.put op.dst undef) w'):wpList P ops Q (op::rest) a w:=
  wpList_store_mid hgd ty x y ho b o cells hx hy (own.thereAt _ _ hn) hi h1 (h _ (own.setsAt o cells.toList (by simpa using hn)) (Fr.setCells (S:=fun k=>k=b) rfl _ _ (Fr.refl _ _)))
structure ThW (w W:World)(x:ThD):Prop where
  c:Calm w W
  o7:OwnL W (w.heap.size) (thC x)
  o8:OwnL W (w.heap.size+1) [vI 0,vI 0,vI 0,vI 0,vI 0,vI 0,vI 0,vI 0,vI 0,vI 0,vI 0,vI 0,vI 0,vI 0,.bool false]
  o9:OwnL W (w.heap.size+1+1) [vI 0,vI 0,vI 0]
  z:W.heap.size=w.heap.size+1+1+1
theorem thW_newE (w:World)(x:ThD):∃W,((w.alloc (.cells #[vI x.b,vI x.p,rg x.R 0,rg x.R 1,rg x.R 2,rg x.R 3,rg x.R 4,rg x.R 5,rg x.V 0,rg x.V 1,rg x.V 2,rg x.V 3,rg x.V 4,rg x.V 5,.bool x.live] 34)).alloc (.cells #[vI 0,vI 0,vI 0,vI 0,vI 0,vI 0,vI 0,vI 0,vI 0,vI 0,vI 0,vI 0,vI 0,vI 0,.bool false] 34)).alloc (.cells #[vI 0,vI 0,vI 0] 38)=W∧ThW w W x:=by
  obtain⟨W3,e3,k3,o3,s3⟩:=newE w [vI x.b,vI x.p,rg x.R 0,rg x.R 1,rg x.R 2,rg x.R 3,rg x.R 4,rg x.R 5,rg x.V 0,rg x.V 1,rg x.V 2,rg x.V 3,rg x.V 4,rg x.V 5,.bool x.live] 34;obtain⟨W4,e4,k4,o4,s4⟩:=newE W3 [vI 0,vI 0,vI 0,vI 0,vI 0,vI 0,vI 0,vI 0,vI 0,vI 0,vI 0,vI 0,vI 0,vI 0,.bool false] 34;obtain⟨W5,e5,k5,o5,s5⟩:=newE W4 [vI 0,vI 0,vI 0] 38;rw[s3] at o4 s4;rw[s4] at o5 s5;have c46:=k4.trans k5;exact⟨W5,by rw[e3,e4,e5],k3.trans c46,o3.calm c46,o4.calm k5,o5,s5⟩
set_option maxRecDepth 8000 in
theorem tbegin_is (h:St w τ s q S)(hq:q≤100000)(t:Int)(ht:I64 t){n:Nat}(hn:n≤100){x:ThD}(hx:ThOk n x)(hb:x.b<n)(hlv:x.live=false) :
    Calls Tryz.prog 55 #[pV S.sp,vI t,vI (n:Int),thV x] w (BcP w τ s q S n 1):=by
  obtain⟨τ0,hf,tk,fr⟩:=h.fresh;obtain⟨W,hWW,hW⟩:=thW_newE w x;have oc:=begin_is (hf.calm hW.c) hq t ht;simp only[rg,List.getD_eq_getElem?_getD] at hWW;simp only[thV,rg];replace hlv:=hid hlv;go_enter Tryz.func55,Tryz.ntmps55;go_wp2_with fail
  clear hWW;refine oc.mono ?_;rintro en w2 ⟨x0,rfl,hx0,hx100,n2⟩;clear oc;have hlt:∀j,j≤2→w.heap.size+j<W.heap.size:=fun j hj=>by rw[hW.z];omega
  have tg:∀j,j≤2→500≤τ0 (w.heap.size+j):=fun j hj=>by rw[fr _ (by omega)];omega
  obtain⟨τ2,S2,p1,p2,p3,p4⟩:=n2;have q7:=p2.ownL hW.o7 (tg 0 (by omega));have q8:=p2.ownL hW.o8 (tg 1 (by omega));have q9:=p2.ownL hW.o9 (tg 2 (by omega));have n2:Nx0 W τ0 s q S w2:=⟨τ2,S2,p1,p2,p3,trivial⟩;obtain⟨k3,rA⟩:=newL w2 [vI 1,vI x0,vI 0] 38;go_upto_region 2 with fail
  generalize hW3:w2.alloc (.cells #[vI 1,vI x0,vI 0] 38)=W3 at *;clear hW3;have h7:w.heap.size<w2.heap.size:=q7.lt (by simp[thC]);have h8:w.heap.size+1<w2.heap.size:=q8.lt (by simp);have h9:w.heap.size+1+1<w2.heap.size:=q9.lt (by simp);have r7:=q7.calm k3;have r8:=q8.calm k3;have r9:=q9.calm k3;obtain⟨bA,hbA⟩:∃bA,w2.heap.size=bA:=⟨_,rfl⟩;rw[hbA] at rA h7 h8 h9 ⊢;have rA1:=(rA 1 _ rfl).1
  by_cases h0:x0=0
  · subst h0;have hst:=p1.calm k3;have ol:=tlive_is hst t ht;rw[p3.sp] at ol;clear p1 p2 p3 p4 hst;go_wp2_with fail
    refine ol.mono ?_;rintro en w4 ⟨⟨v,b,rfl,hv⟩,e4⟩;subst w4;clear ol rA1;have s7:=r7;simp only[thC] at s7;have A1:=rA.set 2 (vI v) (by simp);have E1:=frS W3 (bA) 2 (vI v);have f2:=rA 2 _ rfl;obtain⟨W4,hW4⟩:∃W4,W3.setCell ⟨bA,2,none⟩ (vI v)=W4:=⟨_,rfl⟩;rw[hW4] at A1 E1;have r74:=r7.fr E1 (by omega);have r84:=r8.fr E1 (by omega);have r94:=r9.fr E1 (by omega);have B1:=r74.set 14 (.bool true) (by simp[thC]);have G1:=frS W4 (w.heap.size) 14 (.bool true);have f14:=r74 14 _ rfl;obtain⟨W5,hW5⟩:∃W5,W4.setCell ⟨w.heap.size,14,none⟩ (.bool true)=W5:=⟨_,rfl⟩;rw[hW5] at B1 G1;have B2:=B1.set 1 (vI 0) (by simp[thC]);have G2:=frS W5 (w.heap.size) 1 (vI 0);have f1:=B1 1 _ rfl;obtain⟨W6,hW6⟩:∃W6,W5.setCell ⟨w.heap.size,1,none⟩ (vI 0)=W6:=⟨_,rfl⟩;rw[hW6] at B2 G2;have one6:=r6_one x;have B2c:=B2;simp only[thC,rg,List.set_cons_succ,List.set_cons_zero] at B2c;obtain⟨m0,m1,m2,m3,m4,m5,m6,m7,m8,m9,m10,m11,m12,m13⟩:=OwnL.ce14 B2c;have f20:=f2.1;have f21:=f2.2;have f140:=f14.1;have f141:=f14.2;have f10:=f1.1;have f11:=f1.2;clear B2c
    go_wp2_with (
        refine wpList_storeAtO rfl _ _ _ rfl (w.heap.size) 8 #[rg x.R 0,rg x.R 1,rg x.R 2,rg x.R 3,rg x.R 4,rg x.R 5] rfl rfl B2 (by simp[thC]) (by kernel_rfl) one6 ?_;intro W7 B3 G3
        clear B2 one6 m0 m1 m2 m3 m4 m5 m6 m7 m8 m9 m10 m11 m12 m13)
    obtain⟨x2,hx2⟩:∃x2:ThD,(⟨x.b,0,x.R,x.R,true⟩:ThD)=x2:=⟨_,rfl⟩;have hX:ThOk n x2:=by rw[←hx2];exact⟨hx.b,⟨Int.le_refl 0,(by show(0:Int)≤100;decide)⟩,fun _=>hb,hx.r,hx.r,hx.rp,hx.rp⟩
    have B4:OwnL W7 w.heap.size (thC x2):=by rw[←hx2];exact B3
    replace hx2:=hid hx2;have E4:=(G1.trans G2).trans G3;have r8f:=r84.fr E4 (by omega);have r9f:=r94.fr E4 (by omega);have rAf:=A1.fr E4 (by omega);clear r74 r84 r94 B1 B3 G1 G2 G3 r7 r8 r9 rA A1 s7 f2 f14 f1 q7 q8 q9 f20 f21 f140 f141 f10 f11;have hFr:Fr (fun b=>w.heap.size≤b∧b<W.heap.size∨w2.heap.size≤b) w2 W7:=((Calm.any k3:Fr (fun b=>w.heap.size≤b∧b<W.heap.size∨w2.heap.size≤b) _ _).trans (E1.mono (fun b _ e=>by omega))).trans (E4.mono (fun b _ e=>by have:=hlt 0 (by omega);omega));have hFr2:Fr (fun b=>w.heap.size≤b∧b<W.heap.size) w2 W7:=hFr.mono (fun k hk e=>by rcases e with e|e;exact e;omega);have kd:Calm W7 W7.drew:=(Fr.refl _ _).drew;have d7:=B4.calm kd;have d8:=r8f.calm kd;have d9:=r9f.calm kd;have dA:=rAf.calm kd;obtain⟨a0,a1,a2⟩:=OwnL.ce3 dA;simp only[thC,rg] at d7;obtain⟨u0,u1,u2,u3,u4,u5,u6,u7,u8,u9,u10,u11,u12,u13,u14⟩:=OwnL.ce15 d7
    try simp only[thV,acV,rg]
    go_wp2_with fail
    refine wp_region_once [1] [0,2,3] (fun w'=>w'.cell? ⟨bA,0,none⟩=some (vI 1)∧w'.cell? ⟨bA,1,none⟩=some (vI 0)∧w'.cell? ⟨bA,2,none⟩=some (vI v)) (by kernel_rfl) (by kernel_rfl) ⟨a0,a1,a2⟩ ?_;refine pickList_step (acV 1 0 v) rfl rfl (fun w' hw'=>?_) (fun _ _ _ h=>h) ?_
    · obtain⟨e0,e1,e2⟩:=hw';simp[go_sem,e0,e1,e2,acV]
    simp only[pickList];refine pickSeq_step rfl rfl ?_;unfold Oper.wp;go_simp
    try refine⟨⟨a0,a1,a2⟩,?_⟩
    refine pickSeq_step rfl rfl ?_;refine wp_storeO _ _ _ rfl (w.heap.size+1) (thC x2).toArray rfl rfl d8 rfl (by kernel_rfl) (thC_one x2) ?_;intro w6 T6 F1;have n8:¬(bA=w.heap.size+1):=by omega
    refine⟨⟨F1.cellAt a0 n8,F1.cellAt a1 n8,F1.cellAt a2 n8⟩,?_⟩;refine pickSeq_step rfl rfl ?_;have U0:=d9.fr F1 (by omega);refine wp_storeO _ _ _ rfl (w.heap.size+1+1) #[vI 1,vI 0,vI v] rfl rfl U0 rfl (by kernel_rfl) (by simp[Value.oneCell']) ?_;intro w7 U F2;have n9:¬(bA=w.heap.size+1+1):=by omega
    refine⟨⟨F2.cellAt (F1.cellAt a0 n8) n9,F2.cellAt (F1.cellAt a1 n8) n9,F2.cellAt (F1.cellAt a2 n8) n9⟩,?_⟩;have T:=T6.fr F2 (by omega)
    have hF:Fr (fun b=>w.heap.size≤b∧b<W.heap.size) w2 w7:=
      ((hFr2.trans (Calm.any kd)).trans (F1.mono (fun b _ e=>by have:=hlt 1 (by omega);omega))).trans (F2.mono (fun b _ e=>by have:=hlt 2 (by omega);omega))
    have hP:BcP w τ s q S n 1 (.returned (.tuple #[thV x2,acV 1 0 v])) w7:=⟨x2,0,v,rfl,hX,Nx.fin n2 hW.c tk fr hF (fun b hb=>hb)⟩;replace hP:=hid hP;replace T:=hid T;replace U:=hid U;clear F1 U0 F2 hF n2 T6 a0 a1 a2;simp only[pickSeq];go_wp2;exact bodyPost_ret (v:=.tuple #[thV x2,acV 1 0 v]) (res_two (i:=8) (j:=9) rfl rfl rfl T.out U.out) rfl hP.out
  · have en0:(x0 != 0)=true:=by simp[bne,h0]
    obtain⟨x2,hx2⟩:∃x2:ThD,({ x with b:=(n:Int) } : ThD)=x2:=⟨_,rfl⟩;have hX:ThOk n x2:=by rw[←hx2];exact⟨⟨by show(0:Int)≤n;omega,Int.le_refl _⟩,hx.p,fun e=>(by rw[hlv.out] at e;cases e),hx.r,hx.v,hx.rp,hx.vp⟩
    have B1:=r7.set 0 (vI (n:Int)) (by simp[thC]);have G1:=frS W3 (w.heap.size) 0 (vI (n:Int));have f0:=(r7 0 _ rfl).1;have f00:=(r7 0 _ rfl).2;obtain⟨W7,hW7⟩:∃W7,W3.setCell ⟨w.heap.size,0,none⟩ (vI (n:Int))=W7:=⟨_,rfl⟩;rw[hW7] at B1 G1;have B4:OwnL W7 w.heap.size (thC x2):=by rw[←hx2];exact B1
    replace hx2:=hid hx2;have r8f:=r8.fr G1 (by omega);have r9f:=r9.fr G1 (by omega);have rAf:=rA.fr G1 (by omega);have hFr2:Fr (fun b=>w.heap.size≤b∧b<W.heap.size) w2 W7:=(Calm.any k3:Fr (fun b=>w.heap.size≤b∧b<W.heap.size) _ _).trans (G1.mono (fun b _ e=>by have:=hlt 0 (by omega);omega));clear r7 r8 r9 rA B1 p1 p2 p3 p4;have kd:Calm W7 W7.drew:=(Fr.refl _ _).drew;have d7:=B4.calm kd;have d8:=r8f.calm kd;have d9:=r9f.calm kd;have dA:=rAf.calm kd;obtain⟨a0,a1,a2⟩:=OwnL.ce3 dA;simp only[thC,rg] at d7;obtain⟨u0,u1,u2,u3,u4,u5,u6,u7,u8,u9,u10,u11,u12,u13,u14⟩:=OwnL.ce15 d7
    try simp only[thV,acV,rg]
    go_wp2_with fail
    refine wp_region_once [1] [0,2,3] (fun w'=>w'.cell? ⟨bA,0,none⟩=some (vI 1)∧w'.cell? ⟨bA,1,none⟩=some (vI x0)∧w'.cell? ⟨bA,2,none⟩=some (vI 0)) (by kernel_rfl) (by kernel_rfl) ⟨a0,a1,a2⟩ ?_;refine pickList_step (acV 1 x0 0) rfl rfl (fun w' hw'=>?_) (fun _ _ _ h=>h) ?_
    · obtain⟨e0,e1,e2⟩:=hw';simp[go_sem,e0,e1,e2,acV]
    simp only[pickList];refine pickSeq_step rfl rfl ?_;unfold Oper.wp;go_simp
    try refine⟨⟨a0,a1,a2⟩,?_⟩
    refine pickSeq_step rfl rfl ?_;refine wp_storeO _ _ _ rfl (w.heap.size+1) (thC x2).toArray rfl rfl d8 rfl (by kernel_rfl) (thC_one x2) ?_;intro w6 T6 F1;have n8:¬(bA=w.heap.size+1):=by omega
    refine⟨⟨F1.cellAt a0 n8,F1.cellAt a1 n8,F1.cellAt a2 n8⟩,?_⟩;refine pickSeq_step rfl rfl ?_;have U0:=d9.fr F1 (by omega);refine wp_storeO _ _ _ rfl (w.heap.size+1+1) #[vI 1,vI x0,vI 0] rfl rfl U0 rfl (by kernel_rfl) (by simp[Value.oneCell']) ?_;intro w7 U F2;have n9:¬(bA=w.heap.size+1+1):=by omega
    refine⟨⟨F2.cellAt (F1.cellAt a0 n8) n9,F2.cellAt (F1.cellAt a1 n8) n9,F2.cellAt (F1.cellAt a2 n8) n9⟩,?_⟩;have T:=T6.fr F2 (by omega)
    have hF:Fr (fun b=>w.heap.size≤b∧b<W.heap.size) w2 w7:=
      ((hFr2.trans (Calm.any kd)).trans (F1.mono (fun b _ e=>by have:=hlt 1 (by omega);omega))).trans (F2.mono (fun b _ e=>by have:=hlt 2 (by omega);omega))
    have hP:BcP w τ s q S n 1 (.returned (.tuple #[thV x2,acV 1 x0 0])) w7:=⟨x2,x0,0,rfl,hX,Nx.fin n2 hW.c tk fr hF (fun b hb=>hb)⟩;replace hP:=hid hP;replace T:=hid T;replace U:=hid U;clear F1 U0 F2 hF n2 T6 a0 a1 a2;simp only[pickSeq];go_wp2;exact bodyPost_ret (v:=.tuple #[thV x2,acV 1 x0 0]) (res_two (i:=8) (j:=9) rfl rfl rfl T.out U.out) rfl hP.out
set_option maxRecDepth 8000 in
theorem tcommit_is (h:St w τ s q S)(hq:q≤100000)(t:Int)(ht:I64 t){n:Nat}(hn:n≤100){x:ThD}(hx:ThOk n x)(hb:x.b<n) :
    Calls Tryz.prog 56 #[pV S.sp,vI t,thV x] w (BcP w τ s q S n 3):=by
  obtain⟨τ0,hf,tk,fr⟩:=h.fresh;obtain⟨W,hWW,hW⟩:=thW_newE w x;have oc:=commit_is (hf.calm hW.c) hq t ht;simp only[rg,List.getD_eq_getElem?_getD] at hWW;simp only[thV,rg];go_enter Tryz.func56,Tryz.ntmps56;go_wp2_with fail
  clear hWW;refine oc.mono ?_;rintro en w2 ⟨v0,x0,rfl,hv0,hx0,hx100,n2⟩;clear oc;have hlt:∀j,j≤2→w.heap.size+j<W.heap.size:=fun j hj=>by rw[hW.z];omega
  have tg:∀j,j≤2→500≤τ0 (w.heap.size+j):=fun j hj=>by rw[fr _ (by omega)];omega
  obtain⟨τ2,S2,p1,p2,p3,p4⟩:=n2;have q7:=p2.ownL hW.o7 (tg 0 (by omega));have q8:=p2.ownL hW.o8 (tg 1 (by omega));have q9:=p2.ownL hW.o9 (tg 2 (by omega));have n2:Nx0 W τ0 s q S w2:=⟨τ2,S2,p1,p2,p3,trivial⟩;have h7:w.heap.size<w2.heap.size:=q7.lt (by simp[thC]);have h8:w.heap.size+1<w2.heap.size:=q8.lt (by simp);have h9:w.heap.size+1+1<w2.heap.size:=q9.lt (by simp);clear p1 p2 p3 p4
  by_cases h0:x0=0
  · subst h0;have hw2:IntKind.i64.wrap (x.b+1)=x.b+1:=IntWalk.i64_in _ (by have:=hx.b;omega);have B1:=q7.set 14 (.bool false) (by simp[thC]);have G1:=frS w2 (w.heap.size) 14 (.bool false);have f14:=q7 14 _ rfl;obtain⟨W4,hW4⟩:∃W4,w2.setCell ⟨w.heap.size,14,none⟩ (.bool false)=W4:=⟨_,rfl⟩;rw[hW4] at B1 G1;have B2:=B1.set 1 (vI 0) (by simp[thC]);have G2:=frS W4 (w.heap.size) 1 (vI 0);have f1:=B1 1 _ rfl;obtain⟨W5,hW5⟩:∃W5,W4.setCell ⟨w.heap.size,1,none⟩ (vI 0)=W5:=⟨_,rfl⟩;rw[hW5] at B2 G2;have B3:=B2.set 0 (vI (x.b+1)) (by simp[thC]);have G3:=frS W5 (w.heap.size) 0 (vI (x.b+1));have f0:=B2 0 _ rfl;obtain⟨W6,hW6⟩:∃W6,W5.setCell ⟨w.heap.size,0,none⟩ (vI (x.b+1))=W6:=⟨_,rfl⟩;rw[hW6] at B3 G3;have one6:=r6_one x;have B3c:=B3;simp only[thC,rg,List.set_cons_succ,List.set_cons_zero] at B3c;obtain⟨m0,m1,m2,m3,m4,m5,m6,m7,m8,m9,m10,m11,m12,m13⟩:=OwnL.ce14 B3c;have f140:=f14.1;have f141:=f14.2;have f10:=f1.1;have f11:=f1.2;have f00:=f0.1;have f01:=f0.2;clear B3c f14 f1 f0
    go_wp2_with (
        refine wpList_storeAtO rfl _ _ _ rfl (w.heap.size) 8 #[rg x.R 0,rg x.R 1,rg x.R 2,rg x.R 3,rg x.R 4,rg x.R 5] rfl rfl B3 (by simp[thC]) (by kernel_rfl) one6 ?_;intro W7 B4 G4;clear B3 one6 m0 m1 m2 m3 m4 m5 m6 m7 m8 m9 m10 m11 m12 m13 f140 f141 f10 f11 f00 f01;obtain⟨x2,hx2⟩:∃x2:ThD,(⟨x.b+1,0,x.R,x.R,false⟩:ThD)=x2:=⟨_,rfl⟩;have hX:ThOk n x2:=by rw[←hx2];exact⟨⟨by show(0:Int)≤x.b+1;have:=hx.b;omega,by show x.b+1≤n;omega⟩,⟨Int.le_refl 0,(by show(0:Int)≤100;decide)⟩,fun e=>(by cases e),hx.r,hx.r,hx.rp,hx.rp⟩
        have B5:OwnL W7 w.heap.size (thC x2):=by rw[←hx2];exact B4
        replace hx2:=hid hx2;simp only[thC,rg] at B5;obtain⟨d0,d1,d2,d3,d4,d5,d6,d7,d8,d9,d10,d11,d12,d13,d14⟩:=OwnL.ce15 B5;have E4:=((G1.trans G2).trans G3).trans G4;have r8f:=q8.fr E4 (by omega);have r9f:=q9.fr E4 (by omega);have hFr2:Fr (fun b=>w.heap.size≤b∧b<W.heap.size) w2 W7:=E4.mono (fun b _ e=>by have:=hlt 0 (by omega);omega);clear B1 B2 B4 G1 G2 G3 G4 q7 q8 q9 E4
        try simp only[thV,acV,rg]
        obtain⟨y0,z0,y1,z1,y2,z2,y3,z3,y4,z4,y5,z5,y6,z6,y7,z7,y8,z8,y9,z9,y10,z10,y11,z11,y12,z12,y13,z13,y14,z14⟩:=OwnL.cf15 r8f;obtain⟨yy0,zz0,yy1,zz1,yy2,zz2⟩:=OwnL.cf3 r9f;have T1:=r8f.whole (us:=(thC x2)) rfl;have F1:=frC W7 (w.heap.size+1) 0 (thC x2);have U0:=r9f.fr F1 (by omega);have U:=U0.whole (us:=[vI 3,vI 0,vI v0]) rfl;have F2:Fr (fun k=>k=w.heap.size+1+1) (W7.setCells (w.heap.size+1) 0 (thC x2)) ((W7.setCells (w.heap.size+1) 0 (thC x2)).setCells (w.heap.size+1+1) 0 [vI 3,vI 0,vI v0]):=Fr.setCells (S:=fun k=>k=w.heap.size+1+1) rfl _ _ (Fr.refl _ _);have T:=T1.fr F2 (by omega)
        have hF:Fr (fun b=>w.heap.size≤b∧b<W.heap.size) w2 ((W7.setCells (w.heap.size+1) 0 (thC x2)).setCells (w.heap.size+1+1) 0 [vI 3,vI 0,vI v0]):=
          (hFr2.trans (F1.mono (fun b _ e=>by have:=hlt 1 (by omega);omega))).trans (F2.mono (fun b _ e=>by have:=hlt 2 (by omega);omega))
        have hP:BcP w τ s q S n 3 (.returned (.tuple #[thV x2,acV 3 0 v0])) ((W7.setCells (w.heap.size+1) 0 (thC x2)).setCells (w.heap.size+1+1) 0 [vI 3,vI 0,vI v0]):=⟨x2,0,v0,rfl,hX,Nx.fin n2 hW.c tk fr hF (fun b hb=>hb)⟩;replace hP:=hid hP;replace T:=hid T;replace U:=hid U
        clear T1 F1 U0 F2 hF n2)
    exact bodyPost_ret (v:=.tuple #[thV x2,acV 3 0 v0]) (res_two (i:=6) (j:=7) rfl rfl rfl T.out U.out) rfl hP.out
  · have en0:(x0 != 0)=true:=by simp[bne,h0]
    have ob:=back_L w2 x.b x.p (x.R.getD 0 0:Nat) (x.R.getD 1 0:Nat) (x.R.getD 2 0:Nat) (x.R.getD 3 0:Nat) (x.R.getD 4 0:Nat) (x.R.getD 5 0:Nat) (x.V.getD 0 0:Nat) (x.V.getD 1 0:Nat) (x.V.getD 2 0:Nat) (x.V.getD 3 0:Nat) (x.V.getD 4 0:Nat) (x.V.getD 5 0:Nat) x.live;simp only[thC,rg] at q7;obtain⟨u0,u1,u2,u3,u4,u5,u6,u7,u8,u9,u10,u11,u12,u13,u14⟩:=OwnL.ce15 q7;go_wp2_with fail
    refine ob.mono ?_;rintro en w6 ⟨rfl,hw6⟩;have k6:Calm w2 w6:=by rw[hw6];exact((Fr.refl _ _).alloc _).alloc _
    clear hw6 ob u0 u1 u2 u3 u4 u5 u6 u7 u8 u9 u10 u11 u12 u13 u14;have r8f:=q8.calm k6;have r9f:=q9.calm k6;have hX:ThOk n x.back:=hx.back;have hFr2:Fr (fun b=>w.heap.size≤b∧b<W.heap.size) w2 w6:=Calm.any k6
    try simp only[thV,acV,rg]
    obtain⟨y0,z0,y1,z1,y2,z2,y3,z3,y4,z4,y5,z5,y6,z6,y7,z7,y8,z8,y9,z9,y10,z10,y11,z11,y12,z12,y13,z13,y14,z14⟩:=OwnL.cf15 r8f;obtain⟨yy0,zz0,yy1,zz1,yy2,zz2⟩:=OwnL.cf3 r9f;have T1:=r8f.whole (us:=(thC x.back)) rfl;have F1:Fr (fun k=>k=w.heap.size+1) w6 (w6.setCells (w.heap.size+1) 0 (thC x.back)):=Fr.setCells (S:=fun k=>k=w.heap.size+1) rfl _ _ (Fr.refl _ _);have U0:=r9f.fr F1 (by omega);have U:=U0.whole (us:=[vI 3,vI x0,vI 0]) rfl;have F2:Fr (fun k=>k=w.heap.size+1+1) (w6.setCells (w.heap.size+1) 0 (thC x.back)) ((w6.setCells (w.heap.size+1) 0 (thC x.back)).setCells (w.heap.size+1+1) 0 [vI 3,vI x0,vI 0]):=Fr.setCells (S:=fun k=>k=w.heap.size+1+1) rfl _ _ (Fr.refl _ _);have T:=T1.fr F2 (by omega)
    have hF:Fr (fun b=>w.heap.size≤b∧b<W.heap.size) w2 ((w6.setCells (w.heap.size+1) 0 (thC x.back)).setCells (w.heap.size+1+1) 0 [vI 3,vI x0,vI 0]):=
      (hFr2.trans (F1.mono (fun b _ e=>by have:=hlt 1 (by omega);omega))).trans (F2.mono (fun b _ e=>by have:=hlt 2 (by omega);omega))
    have hP:BcP w τ s q S n 3 (.returned (.tuple #[thV x.back,acV 3 x0 0])) ((w6.setCells (w.heap.size+1) 0 (thC x.back)).setCells (w.heap.size+1+1) 0 [vI 3,vI x0,vI 0]):=⟨x.back,x0,0,rfl,hX,Nx.fin n2 hW.c tk fr hF (fun b hb=>hb)⟩;replace hP:=hid hP;replace T:=hid T;replace U:=hid U;clear T1 F1 U0 F2 hF n2;go_wp2;exact bodyPost_ret (v:=.tuple #[thV x.back,acV 3 x0 0]) (res_two (i:=6) (j:=7) rfl rfl rfl T.out U.out) rfl hP.out
theorem done_is (w:World)(a:Option Addr)(n c:Nat)(hn:n≤100)(x:ThD):Calls Tryz.prog 54 #[.slice a n c,thV x] w fun e w'=>e = .returned (.bool (decide (x.b<0∨(n:Int)≤x.b)))∧Calm w w':=by
  obtain⟨W,hWW⟩:∃W,w.alloc (.cells #[vI x.b,vI x.p,rg x.R 0,rg x.R 1,rg x.R 2,rg x.R 3,rg x.R 4,rg x.R 5,rg x.V 0,rg x.V 1,rg x.V 2,rg x.V 3,rg x.V 4,rg x.V 5,.bool x.live] 34)=W:=⟨_,rfl⟩;have k1:Calm w W:=by rw[←hWW];exact(Fr.refl _ _).alloc _
  have o:=OwnL.nth2 w [vI x.b,vI x.p,rg x.R 0,rg x.R 1,rg x.R 2,rg x.R 3,rg x.R 4,rg x.R 5,rg x.V 0,rg x.V 1,rg x.V 2,rg x.V 3,rg x.V 4,rg x.V 5,.bool x.live] 34 w.heap.size rfl;have hWW2:w.alloc (.cells (List.toArray [vI x.b,vI x.p,rg x.R 0,rg x.R 1,rg x.R 2,rg x.R 3,rg x.R 4,rg x.R 5,rg x.V 0,rg x.V 1,rg x.V 2,rg x.V 3,rg x.V 4,rg x.V 5,.bool x.live]) 34)=W:=hWW;rw[hWW2] at o;have c0:=(o 0 _ rfl).1;clear o hWW2;simp only[rg,List.getD_eq_getElem?_getD] at hWW;simp only[thV,rg]
  by_cases h1:x.b<0
  · go_enter Tryz.func54,Tryz.ntmps54;go_wp2;go_ret;exact⟨by first|(rw[decide_eq_true (p:=x.b<0∨(n:Int)≤x.b) (.inl h1)];rfl)|rfl|(simp[h1];omega)|(simp[h1];rfl)|simp[h1],k1⟩
  · by_cases h2:(n:Int)≤x.b
    · go_enter Tryz.func54,Tryz.ntmps54;go_wp2;go_ret;exact⟨by first|(rw[decide_eq_true (p:=x.b<0∨(n:Int)≤x.b) (.inr h2)];rfl)|rfl|(simp[h1];omega)|(simp[h1];rfl)|simp[h1],k1⟩
    · go_enter Tryz.func54,Tryz.ntmps54;go_wp2;go_ret;exact⟨by first|(rw[decide_eq_false (p:=x.b<0∨(n:Int)≤x.b) (by omega)];rfl)|rfl|(simp[h1];omega)|(simp[h1];rfl)|simp[h1],k1⟩
end
section
open Go.RowKit
inductive Way where
  | fin
  | read (i:Nat) (k:Way)
  | any (c:Way)
  | alt (j:Nat) (k r:Way)
  | stop
def Way.sz:Way→Nat
  | .fin=>1
  | .stop=>1
  | .read _ k=>k.sz+1
  | .any c=>c.sz+1
  | .alt _ k r=>k.sz+r.sz+1
def Way.heads:Way→List Nat
  | .alt j _ r=>j::r.heads
  | _=>[]
section
variable {P:Program}{ops:Array Oper}{Q:Exit→Act→World→Prop}{md:Region.Mode}{S:World→Prop}
def treeP (P:Program)(ops:Array Oper)(Q:Exit→Act→World→Prop)(S:World→Prop)(R:Act→World→Prop):Way→Act→World→Prop
  | .fin,a,w=>R a w
  | .read i k,a,w=>∃o v,ops[i]?=some o∧YieldsIf P ops S o v a∧(∀c a w,Q (.panic c) (a.put o.dst v) w→Q (.panic c) a w)∧treeP P ops Q S R k (a.put o.dst v) w
  | .any c,a,w=>treeP P ops Q S R c a w
  | .alt j k r,a,w=>(∃o,ops[j]?=some o∧Region.wanted o (yielded ops a.tmps)=true∧o.wp P a w (fun a' w'=>S w'∧treeP P ops Q S R k a' w') Q)∧treeP P ops Q S R r a w
  | .stop,_,_=>True
def treeB (md:Region.Mode)(ops:Array Oper)(n:Nat):Bool→Nat→Way→Array Bool→Bool
  | true,f,.fin,done=>decide (f=0) && (Region.ready md ops done).all fun j=>decide (n≤j)
  | true,f,.read i k,done=>decide (0<f) && (Region.ready md ops done).contains i && Region.free md ops done i && decide (i<n) && treeB md ops n true (f-1) k (done.setIfInBounds i true)
  | true,f,.any c,done=>decide (0<f) && decide (Region.ready md ops done=c.heads) && decide (c.heads≠[]) && treeB md ops n false (f-1) c done
  | false,f,.alt j k r,done=>decide (j<n) && treeB md ops n true f k (done.setIfInBounds j true) && treeB md ops n false f r done
  | false,_,.stop,_=>true
  | _,_,_,_=>false
theorem tree_alt {R:Act→World→Prop}{n f:Nat} : ∀ (c:Way) (done:Array Bool) (a:Act) (w:World),treeB md ops n false f c done=true→treeP P ops Q S R c a w→∀i∈c.heads,
    ∃k,i<n∧treeB md ops n true f k (done.setIfInBounds i true)=true∧k.sz<c.sz∧∃o,ops[i]?=some o∧Region.wanted o (yielded ops a.tmps)=true∧o.wp P a w (fun a' w'=>S w'∧treeP P ops Q S R k a' w') Q
  | .fin,_,_,_,_,_,i,hi=>by simp[Way.heads] at hi
  | .read _ _,_,_,_,_,_,i,hi=>by simp[Way.heads] at hi
  | .any _,_,_,_,_,_,i,hi=>by simp[Way.heads] at hi
  | .stop,_,_,_,_,_,i,hi=>by simp[Way.heads] at hi
  | .alt j k r,done,a,w,hB,h,i,hi=>by
    simp only[treeB,Bool.and_eq_true,decide_eq_true_eq] at hB;rcases List.mem_cons.1 (show i∈j::r.heads from hi) with rfl|hi
    · exact⟨k,hB.1.1,hB.1.2,by simp[Way.sz];omega,h.1⟩
    · obtain⟨k',h1,h2,h3,h4⟩:=tree_alt r done a w hB.2 h.2 i hi;exact⟨k',h1,h2,by simp[Way.sz];omega,h4⟩
theorem tree_head {R:Act→World→Prop}{n:Nat}(hsel:Region.noSelect ops=true)(tw:Waits md ops n) :
    ∀ (m:Nat) (c:Way),c.sz≤m→∀ (f:Nat) (done:Array Bool) (a:Act) (w:World),HeadInv md ops n done→treeB md ops n true f c done=true→S w→treeP P ops Q S R c a w →
      heldHead P md ops Q S n (fun d a w=>((Region.ready md ops d).all fun j=>decide (n≤j))=true∧R a w) f done a w:=by
  intro m
  induction m with
  | zero=>intro c hc;cases c <;> simp[Way.sz] at hc
  | succ m ih=>
    intro c hc f done a w inv hB hS h
    cases c with
    | stop=>simp[treeB] at hB
    | alt j k r=>simp[treeB] at hB
    | fin=>
      simp only[treeB,Bool.and_eq_true,decide_eq_true_eq] at hB;obtain⟨rfl,hB⟩:=hB;exact⟨hB,h⟩
    | read i k=>
      obtain⟨o,v,ho,hy,hQ,h⟩:=h;simp only[treeB,Bool.and_eq_true,decide_eq_true_eq] at hB;obtain⟨⟨⟨⟨h0,hr⟩,hf⟩,hin⟩,hB'⟩:=hB;obtain⟨f,rfl⟩:∃g,f=g+1:=⟨f-1,by omega⟩;have hr':i∈Region.ready md ops done:=by simpa using hr
      refine pick_first ho (Region.noSelect_spec hsel) tw hin hQ (fun done' a' w' hL j hj=>by
        have:=List.all_eq_true.1 hL.1 j hj
        simpa using this) _ done a w inv (Region.free_spec ho hf) hr' hy hS ?_
      exact ih k (by simp[Way.sz] at hc;omega) f _ _ w (inv.set hr' hin) hB' hS h
    | any c=>
      simp only[treeB,Bool.and_eq_true,decide_eq_true_eq] at hB;obtain⟨⟨⟨h0,hr⟩,hne⟩,hB'⟩:=hB;obtain⟨f,rfl⟩:∃g,f=g+1:=⟨f-1,by omega⟩;refine⟨fun h1=>hne (by rw[←hr,h1]),fun i hi=>?_⟩;have hi':=hi;rw[hr] at hi;obtain⟨k,h1,h2,h3,o,ho,hw,hwp⟩:=tree_alt c done a w hB' h i hi;refine⟨h1,?_⟩;unfold wpOp;simp only[ho,hw,if_true];exact .inl (Oper.wp_mono (fun a' w' h'=>⟨h'.1,ih k (by simp[Way.sz] at hc;omega) f _ a' w' (inv.set hi' h1) h2 h'.1 h'.2⟩) hwp)
end
theorem wp_region_tree {P:Program}{id:Nat}{Q:Exit→Act→World→Prop}{a:Act}{w:World}{l:List Oper}(c:Way)(S:World→Prop)(hm:P.follows .mixedOrders=true)
    (hB:(Region.noSelect l.toArray && treeB .any l.toArray l.toArray.size true l.toArray.size c (Array.replicate l.toArray.size false))=true) (hS:S w.drew)
    (h:treeP P l.toArray Q S (fun a' w'=>Q .normal a' w') c a w.drew):(Code.region id l.toArray true).wp P Q a w:=by
  simp only[Bool.and_eq_true,decide_eq_true_eq] at hB;obtain⟨hsel,hp⟩:=hB
  have inv0:HeadInv .any l.toArray l.toArray.size (Array.replicate l.toArray.size false):=
    ⟨by simp,fun j oj _ hl=>(by rw[getD_replicate_false] at hl;cases hl),fun t _ ht=>getD_in (by simpa using ht) (getD_replicate_false _ _)⟩
  have H:=tree_head (P:=P) (Q:=Q) (S:=S) (R:=fun a' w'=>Q .normal a' w') hsel size_waits _ c (Nat.le_refl _) _ _ a w.drew inv0 hp hS h;refine wp_region_any hm (any_of_heldHead (Q:=Q) (g:=0) (fun done a' w' hL=>?_) _ _ _ _ H);obtain⟨h1,h⟩:=hL;refine⟨List.eq_nil_iff_forall_not_mem.2 fun i hi=>?_,h⟩;have h2:=List.all_eq_true.1 h1 i hi;obtain⟨o,ho,_⟩:=(mem_ready.1 hi).2;have:=(Array.getElem?_eq_some_iff.1 ho).1;simp at h2 this;omega
section
variable {P:Program}{ops:Array Oper}{Q:Exit→Act→World→Prop}{S:World→Prop}{R:Act→World→Prop}{a:Act}{w:World}
theorem tree_read {i:Nat}{k:Way}{o:Oper}(v:Value)(ho:ops[i]?=some o)(hw:Region.wanted o (yielded ops a.tmps)=true)(hy:∀w,S w→(execOp a.eval o).run P w = .ok (.value v) w)(hQ:∀c a w,Q (.panic c) (a.put o.dst v) w→Q (.panic c) a w)
    (h:treeP P ops Q S R k (a.put o.dst v) w):treeP P ops Q S R (.read i k) a w:=⟨o,v,ho,.inl ⟨hw,hy⟩,hQ,h⟩
theorem tree_any {c:Way}(h:treeP P ops Q S R c a w):treeP P ops Q S R (.any c) a w:=h
theorem tree_alt1 {j:Nat}{k r:Way}{o:Oper}(ho:ops[j]?=some o)(hw:Region.wanted o (yielded ops a.tmps)=true)(h:o.wp P a w (fun a' w'=>S w'∧treeP P ops Q S R k a' w') Q)(hr:treeP P ops Q S R r a w):treeP P ops Q S R (.alt j k r) a w:=⟨⟨o,ho,hw,h⟩,hr⟩
theorem tree_stop:treeP P ops Q S R .stop a w:=trivial
theorem tree_step {j:Nat}{k:Way}{o:Oper}(ho:ops[j]?=some o)(hw:Region.wanted o (yielded ops a.tmps)=true)(h:o.wp P a w (fun a' w'=>S w'∧treeP P ops Q S R k a' w') Q):treeP P ops Q S R (.any (.alt j k .stop)) a w:=tree_alt1 ho hw h trivial
theorem tree_fin (h:R a w):treeP P ops Q S R .fin a w:=h
end
abbrev Way.reads (l:List Nat)(k:Way):Way:=l.foldr Way.read k
abbrev Way.step (j:Nat)(k:Way):Way:=.any (.alt j k .stop)
end
section
open Go.RowKit Go.Shelf
theorem at_0 (w:World)(B:Nat):Calls Tryz.prog 93 #[pV B] w fun e w'=>e = .returned (.pointer (some ⟨B,1,none⟩))∧w'=w:=by
  go_enter Tryz.func93,Tryz.ntmps93;go_wp2;go_ret;exact⟨rfl,rfl⟩
theorem at_1 (w:World)(B:Nat):Calls Tryz.prog 94 #[pV B] w fun e w'=>e = .returned (.pointer (some ⟨B,2,none⟩))∧w'=w:=by
  go_enter Tryz.func94,Tryz.ntmps94;go_wp2;go_ret;exact⟨rfl,rfl⟩
theorem at_2 (w:World)(B:Nat):Calls Tryz.prog 95 #[pV B] w fun e w'=>e = .returned (.pointer (some ⟨B,3,none⟩))∧w'=w:=by
  go_enter Tryz.func95,Tryz.ntmps95;go_wp2;go_ret;exact⟨rfl,rfl⟩
theorem at_3 (w:World)(B:Nat):Calls Tryz.prog 96 #[pV B] w fun e w'=>e = .returned (.pointer (some ⟨B,4,none⟩))∧w'=w:=by
  go_enter Tryz.func96,Tryz.ntmps96;go_wp2;go_ret;exact⟨rfl,rfl⟩
theorem nmV_ne2 (k:Nat)(h1:1≤k)(h2:k≤14):∃x,nmV k = .string x∧x.toList.isEmpty=false:=by
  rcases(by omega:k=1∨k=2∨k=3∨k=4∨k=5∨k=6∨k=7∨k=8∨k=9∨k=10∨k=11∨k=12∨k=13∨k=14) with rfl|rfl|rfl|rfl|rfl|rfl|rfl|rfl|rfl|rfl|rfl|rfl|rfl|rfl
  all_goals exact⟨_,rfl,by decide +kernel⟩
theorem dd_one (d:Dd):((ddC d).toArray).all (·.oneCell')=true:=all_oneCell_toArray (by simp[ddC,Value.oneCell'])
theorem ddC_set (d:Dd)(v:Int):∀f,f≤3→(ddC d).set (f+1) (vI v)=ddC (setF d v f)
  | 0,_=>rfl
  | 1,_=>rfl
  | 2,_=>rfl
  | 3,_=>rfl
  | f+4,h=>by omega
theorem ddC_at (d:Dd):∀f,f≤3→(ddC d)[f+1]?=some (vI (fld d f))
  | 0,_=>rfl
  | 1,_=>rfl
  | 2,_=>rfl
  | 3,_=>rfl
  | f+4,h=>by omega
theorem fillN_take (d:Dd)(l:List Pt)(i:Nat)(h:i<l.length)(p0:Pt):fillN d (l.take (i+1))=setF (fillN d (l.take i)) (fld d (l.getD i p0).f) (l.getD i p0).f:=by
  rw[List.take_succ_eq_append_getElem h,fillN_snoc];have e:l.getD i p0=l[i]:=by simp[List.getD_eq_getElem?_getD,h]
  rw[e]
set_option maxRecDepth 8000 in
theorem right_is (w:World)(d:Dd)(h:d.Rt):Calls Tryz.prog 30 #[ddV d] w fun e w'=>e = .returned (.bool true)∧Calm w w':=by
  obtain⟨k,hk,k1,k14,hl3,hb,hf⟩:=rt_parts h;obtain⟨y,hy1,hy3⟩:=nmV_ne2 k k1 k14;obtain⟨k0,o1⟩:=newL w [vI d.k,vI d.a,vI d.b,vI d.i,vI d.n] 43;have ho:=form_is (w.alloc (.cells #[vI d.k,vI d.a,vI d.b,vI d.i,vI d.n] 43)) k k1 k14;rw[←hk] at ho;replace hb:=hid hb;replace hf:=hid hf;replace hk:=hid hk;replace hl3:=hid hl3;simp only[ddV];go_enter Tryz.func30,Tryz.ntmps30;go_wp2_with fail
  refine ho.mono ?_;rintro e w1 ⟨v,rfl,hr,c1⟩;rw[hy1];have o11:=o1.calm c1;clear ho o1;have hb1:w.heap.size<w1.heap.size:=o11.lt (by simp);have c01:=k0.trans c1;go_wp2_with fail
  go_cut [5,6] (fun s5 s6 wx=>∃B5 B6,s5=pV B5∧s6=pV B6∧OwnL wx B5 (ddC d)∧OwnL wx B6 (ddC ⟨d.k,0,0,0,0⟩)∧B5≠B6∧w1.heap.size≤B5∧w1.heap.size≤B6∧Calm w1 wx)
  case first=>
    have kd:Calm w1 w1.drew:=(Fr.refl _ _).drew;refine wp_region_tree (Way.reads [0,1,2,3] (.any (.alt 4 (.step 5 (.step 6 (.step 7 .fin))) (.alt 5 (.step 4 (.step 6 (.step 7 .fin))) .stop)))) (fun w'=>Calm w1 w') (by kernel_rfl) (by kernel_rfl) kd ?_;refine tree_read (ddV d) rfl rfl (fun w' hw'=>?_) (fun _ _ _ h=>h) ?_
    · have o:=o11.calm hw';obtain⟨z0,z1,z2,z3,z4⟩:=OwnL.ce5 o;simp[go_sem,z0,z1,z2,z3,z4,ddV]
    refine tree_read (.pointer (some ⟨w.heap.size,0,none⟩)) rfl rfl (fun w' hw'=>?_) (fun _ _ _ h=>h) ?_
    · simp[go_sem]
    refine tree_read (vI d.k) rfl rfl (fun w' hw'=>?_) (fun _ _ _ h=>h) ?_
    · have z0:=((o11.calm hw') 0 _ rfl).1;simp[go_sem,z0]
    refine tree_read (ddV ⟨d.k,0,0,0,0⟩) rfl rfl (fun w' hw'=>?_) (fun _ _ _ h=>h) ?_
    · simp[go_sem,ddV]
    refine tree_any ?_;have hdz:w1.drew.heap.size=w1.heap.size:=rfl;have Z:∀W:World,Calm w1 W→Calm w1 ((W.alloc (.cells #[vI 0,vI 0,vI 0,vI 0,vI 0] 123)).alloc (.cells #[vI 0,vI 0,vI 0,vI 0,vI 0] 123)):=fun W c=>(c.alloc _).alloc _;have A1:=(OwnL.nth2 w1.drew [vI 0,vI 0,vI 0,vI 0,vI 0] 123 _ rfl).alloc (.cells #[vI 0,vI 0,vI 0,vI 0,vI 0] 123);have A2:=OwnL.nth2 (w1.drew.alloc (.cells #[vI 0,vI 0,vI 0,vI 0,vI 0] 123)) [vI 0,vI 0,vI 0,vI 0,vI 0] 123 (w1.heap.size+1) (by simp);refine tree_alt1 rfl rfl ?_ (tree_alt1 rfl rfl ?_ tree_stop)
    · unfold Oper.wp;go_simp;refine⟨kd.alloc _,?_⟩;refine tree_step rfl rfl ?_;unfold Oper.wp;go_simp;refine⟨Z _ kd,?_⟩;refine tree_step rfl rfl ?_;refine wp_storeO _ _ _ rfl (w1.heap.size) (ddC d).toArray rfl rfl A1 rfl (by kernel_rfl) (dd_one d) ?_;intro w6 a6 f6;refine⟨(Z _ kd).join f6 (fun j hj e=>by omega),?_⟩;refine tree_step rfl rfl ?_;refine wp_storeO _ _ _ rfl (w1.heap.size+1) (ddC ⟨d.k,0,0,0,0⟩).toArray rfl rfl (A2.fr f6 (by omega)) rfl (by kernel_rfl) (dd_one _) ?_;intro w7 a7 f7;have kk:Calm w1 w7:=((Z _ kd).join f6 (fun j hj e=>by omega)).join f7 (fun j hj e=>by omega);refine⟨kk,tree_fin ?_⟩;clear A1 A2 Z;go_wp2_with fail
      go_meet;exact⟨_,_,rfl,rfl,a6.fr f7 (by omega),a7,by omega,by omega,by omega,kk⟩
    · unfold Oper.wp;go_simp;refine⟨kd.alloc _,?_⟩;refine tree_step rfl rfl ?_;unfold Oper.wp;go_simp;refine⟨Z _ kd,?_⟩;refine tree_step rfl rfl ?_;refine wp_storeO _ _ _ rfl (w1.heap.size+1) (ddC d).toArray rfl rfl A2 rfl (by kernel_rfl) (dd_one d) ?_;intro w6 a6 f6;refine⟨(Z _ kd).join f6 (fun j hj e=>by omega),?_⟩;refine tree_step rfl rfl ?_;refine wp_storeO _ _ _ rfl (w1.heap.size) (ddC ⟨d.k,0,0,0,0⟩).toArray rfl rfl (A1.fr f6 (by omega)) rfl (by kernel_rfl) (dd_one _) ?_;intro w7 a7 f7;have kk:Calm w1 w7:=((Z _ kd).join f6 (fun j hj e=>by omega)).join f7 (fun j hj e=>by omega);refine⟨kk,tree_fin ?_⟩;clear A1 A2 Z;go_wp2_with fail
      go_meet;exact⟨_,_,rfl,rfl,a6.fr f7 (by omega),a7,by omega,by omega,by omega,kk⟩
  case rest=>
    obtain⟨B5,B6,rfl,rfl,o5,o6,hne,g5,g6,kc⟩:=hcut;obtain⟨N,hN⟩:∃N,(parts k).length=N:=⟨_,rfl⟩;obtain⟨va,vc,hv⟩:=owns_slice hr;rw[hN] at hv
    have hget:Hid (∀i,i<N→∃g,va=some ⟨g,0,none⟩∧∀W,Calm w1 W→W.cell? ⟨g,i*3,none⟩=some (fnV ((parts k).getD i pA).f)∧W.cell? ⟨g,i*3+1,none⟩=some (vI ((parts k).getD i pA).lo)∧W.cell? ⟨g,i*3+2,none⟩=some (vI ((parts k).getD i pA).hi)):=fun i hi=>by
      obtain⟨g,c,hvv,hg⟩:=rows_get ptC_len (by decide) hr pA (show i<(parts k).length by omega);rw[hv] at hvv;injection hvv with e1 e2 e3
      exact⟨g,e1,fun W c=>⟨c.cellAt (hg 0 _ rfl).1 id,c.cellAt (hg 1 _ rfl).1 id,c.cellAt (hg 2 _ rfl).1 id⟩⟩
    subst v;have hst:Hid (∀i,i<N→((parts k).getD i pA).f≤3∧((parts k).getD i pA).lo≤fld d ((parts k).getD i pA).f∧fld d ((parts k).getD i pA).f≤((parts k).getD i pA).hi):=fun i hi=>hb.out _ (get_mem _ (by omega));have hfl:Hid (∀i,i<N→fillN d ((parts k).take (i+1))=setF (fillN d ((parts k).take i)) (fld d ((parts k).getD i pA).f) ((parts k).getD i pA).f):=fun i hi=>fillN_take d _ i (by omega) pA;have hfi:Hid (fillN d ((parts k).take N)=d):=by rw[←hN,List.take_length];exact hf.out
    have o60:Hid (OwnL wc B6 (ddC (fillN d ((parts k).take 0)))):=o6;replace hN:=hid (show N≤3 by have:=hl3.out;omega);replace o5:=hid o5;clear hr hb hf o6;go_wp2_with fail
    go_loopw [24] (fun z wr=>∃i:Nat,i≤N∧z=vI i∧OwnL wr B5 (ddC d)∧OwnL wr B6 (ddC (fillN d ((parts k).take i)))∧Calm w1 wr) (fun z _=>N-(intOf z).toNat)
    case atStart=>exact⟨0,by omega,rfl,o5.out,o60.out,kc⟩
    case round=>
      obtain⟨i,hi,rfl,p5,p6,kr⟩:=hrel;have hN3:N≤3:=hN.out
      by_cases hlt:i<N
      · obtain⟨g,rfl,hc⟩:=hget.out i hlt;obtain⟨c0,c1',c2⟩:=hc wr kr;obtain⟨b1,b2,b3⟩:=hst.out i hlt;have hfl1:=hfl.out i hlt;generalize hp:(parts k).getD i pA=p at *;obtain⟨f,lo,hi'⟩:=p;simp only[] at c0 c1' c2 b1 b2 b3 hfl1;have q5:=p5 (f+1) _ (ddC_at d f b1);have q50:=q5.1;have e68:(ddC (fillN d ((parts k).take i))).set (f+1) (vI (fld d f))=ddC (fillN d ((parts k).take (i+1))):=by rw[ddC_set _ _ f b1,←hfl1]
        have q60:∃u,(ddC (fillN d ((parts k).take i)))[f+1]?=some u:=⟨_,ddC_at _ f b1⟩;obtain⟨u,hu⟩:=q60;have q61:=(p6 (f+1) u hu).1;have q62:=(p6 (f+1) u hu).2;obtain⟨V,hV⟩:∃V,fld d f=V:=⟨_,rfl⟩;rw[hV] at b2 b3 q50 e68;have e1:decide (V<lo)=false:=by simp;omega
        have e2:decide (V>hi')=false:=by simp;omega
        have hsf:=run_storeF;have h6:B6<wr.heap.size:=p6.lt (by simp[ddC]);have h5:B5<wr.heap.size:=p5.lt (by simp[ddC]);clear hfl1 q5 hc;rcases(by omega:f=0∨f=1∨f=2∨f=3) with rfl|rfl|rfl|rfl
        · simp only[fnV] at c0;obtain⟨W8,hW8⟩:∃W8,wr.alloc (.cells #[.func (.func 93) #[] #[],vI lo,vI hi'] 126)=W8:=⟨_,rfl⟩;have k8:Calm wr W8:=by rw[←hW8];exact(Fr.refl _ _).alloc _
          have oA:OwnL W8 wr.heap.size [.func (.func 93) #[] #[],vI lo,vI hi']:=by rw[←hW8];exact OwnL.nth2 wr [_,_,_] _ _ rfl
          obtain⟨m0,m1,m2⟩:=OwnL.ce3 oA;have q50:=k8.cellAt q50 id;have q61:=k8.cellAt q61 id;have q62:=((p6.calm k8) 1 u (by assumption)).2;have g6:=frS W8 (B6) 1 (vI V);have p58:=(p5.calm k8).fr g6 (by omega);have p68:=(p6.calm k8).set 1 (vI V) (by simp[ddC]);have e9:(ddC (fillN d ((parts k).take i))).set 1 (vI V)=ddC (fillN d ((parts k).take (i+1))):=e68;rw[e9] at p68;have kk:Calm w1 (W8.setCell ⟨B6,1,none⟩ (vI V)):=(kr.trans k8).join g6 (fun j hj e=>by omega);have hfin:Hid (OwnL (W8.setCell ⟨B6,1,none⟩ (vI V)) B5 (ddC d)∧OwnL (W8.setCell ⟨B6,1,none⟩ (vI V)) B6 (ddC (fillN d ((parts k).take (i+1))))∧Calm w1 (W8.setCell ⟨B6,1,none⟩ (vI V))):=⟨p58,p68,kk⟩;clear g6 p58 p68 kk p5 p6 oA e9;go_wp2_with fail
          refine(at_0 _ B5).mono ?_;rintro e w4 ⟨rfl,e4⟩;subst w4;go_wp2_with fail
          refine(at_0 _ B6).mono ?_;rintro e w4 ⟨rfl,e4⟩;subst w4;go_wp2_with fail
          exact⟨⟨i+1,by omega,by simp,hfin.out⟩,by simp[intOf] <;> omega⟩
        · simp only[fnV] at c0;obtain⟨W8,hW8⟩:∃W8,wr.alloc (.cells #[.func (.func 94) #[] #[],vI lo,vI hi'] 126)=W8:=⟨_,rfl⟩;have k8:Calm wr W8:=by rw[←hW8];exact(Fr.refl _ _).alloc _
          have oA:OwnL W8 wr.heap.size [.func (.func 94) #[] #[],vI lo,vI hi']:=by rw[←hW8];exact OwnL.nth2 wr [_,_,_] _ _ rfl
          obtain⟨m0,m1,m2⟩:=OwnL.ce3 oA;have q50:=k8.cellAt q50 id;have q61:=k8.cellAt q61 id;have q62:=((p6.calm k8) 2 u (by assumption)).2;have g6:=frS W8 (B6) 2 (vI V);have p58:=(p5.calm k8).fr g6 (by omega);have p68:=(p6.calm k8).set 2 (vI V) (by simp[ddC]);have e9:(ddC (fillN d ((parts k).take i))).set 2 (vI V)=ddC (fillN d ((parts k).take (i+1))):=e68;rw[e9] at p68;have kk:Calm w1 (W8.setCell ⟨B6,2,none⟩ (vI V)):=(kr.trans k8).join g6 (fun j hj e=>by omega);have hfin:Hid (OwnL (W8.setCell ⟨B6,2,none⟩ (vI V)) B5 (ddC d)∧OwnL (W8.setCell ⟨B6,2,none⟩ (vI V)) B6 (ddC (fillN d ((parts k).take (i+1))))∧Calm w1 (W8.setCell ⟨B6,2,none⟩ (vI V))):=⟨p58,p68,kk⟩;clear g6 p58 p68 kk p5 p6 oA e9;go_wp2_with fail
          refine(at_1 _ B5).mono ?_;rintro e w4 ⟨rfl,e4⟩;subst w4;go_wp2_with fail
          refine(at_1 _ B6).mono ?_;rintro e w4 ⟨rfl,e4⟩;subst w4;go_wp2_with fail
          exact⟨⟨i+1,by omega,by simp,hfin.out⟩,by simp[intOf] <;> omega⟩
        · simp only[fnV] at c0;obtain⟨W8,hW8⟩:∃W8,wr.alloc (.cells #[.func (.func 95) #[] #[],vI lo,vI hi'] 126)=W8:=⟨_,rfl⟩;have k8:Calm wr W8:=by rw[←hW8];exact(Fr.refl _ _).alloc _
          have oA:OwnL W8 wr.heap.size [.func (.func 95) #[] #[],vI lo,vI hi']:=by rw[←hW8];exact OwnL.nth2 wr [_,_,_] _ _ rfl
          obtain⟨m0,m1,m2⟩:=OwnL.ce3 oA;have q50:=k8.cellAt q50 id;have q61:=k8.cellAt q61 id;have q62:=((p6.calm k8) 3 u (by assumption)).2;have g6:=frS W8 (B6) 3 (vI V);have p58:=(p5.calm k8).fr g6 (by omega);have p68:=(p6.calm k8).set 3 (vI V) (by simp[ddC]);have e9:(ddC (fillN d ((parts k).take i))).set 3 (vI V)=ddC (fillN d ((parts k).take (i+1))):=e68;rw[e9] at p68;have kk:Calm w1 (W8.setCell ⟨B6,3,none⟩ (vI V)):=(kr.trans k8).join g6 (fun j hj e=>by omega);have hfin:Hid (OwnL (W8.setCell ⟨B6,3,none⟩ (vI V)) B5 (ddC d)∧OwnL (W8.setCell ⟨B6,3,none⟩ (vI V)) B6 (ddC (fillN d ((parts k).take (i+1))))∧Calm w1 (W8.setCell ⟨B6,3,none⟩ (vI V))):=⟨p58,p68,kk⟩;clear g6 p58 p68 kk p5 p6 oA e9;go_wp2_with fail
          refine(at_2 _ B5).mono ?_;rintro e w4 ⟨rfl,e4⟩;subst w4;go_wp2_with fail
          refine(at_2 _ B6).mono ?_;rintro e w4 ⟨rfl,e4⟩;subst w4;go_wp2_with fail
          exact⟨⟨i+1,by omega,by simp,hfin.out⟩,by simp[intOf] <;> omega⟩
        · simp only[fnV] at c0;obtain⟨W8,hW8⟩:∃W8,wr.alloc (.cells #[.func (.func 96) #[] #[],vI lo,vI hi'] 126)=W8:=⟨_,rfl⟩;have k8:Calm wr W8:=by rw[←hW8];exact(Fr.refl _ _).alloc _
          have oA:OwnL W8 wr.heap.size [.func (.func 96) #[] #[],vI lo,vI hi']:=by rw[←hW8];exact OwnL.nth2 wr [_,_,_] _ _ rfl
          obtain⟨m0,m1,m2⟩:=OwnL.ce3 oA;have q50:=k8.cellAt q50 id;have q61:=k8.cellAt q61 id;have q62:=((p6.calm k8) 4 u (by assumption)).2;have g6:=frS W8 (B6) 4 (vI V);have p58:=(p5.calm k8).fr g6 (by omega);have p68:=(p6.calm k8).set 4 (vI V) (by simp[ddC]);have e9:(ddC (fillN d ((parts k).take i))).set 4 (vI V)=ddC (fillN d ((parts k).take (i+1))):=e68;rw[e9] at p68;have kk:Calm w1 (W8.setCell ⟨B6,4,none⟩ (vI V)):=(kr.trans k8).join g6 (fun j hj e=>by omega);have hfin:Hid (OwnL (W8.setCell ⟨B6,4,none⟩ (vI V)) B5 (ddC d)∧OwnL (W8.setCell ⟨B6,4,none⟩ (vI V)) B6 (ddC (fillN d ((parts k).take (i+1))))∧Calm w1 (W8.setCell ⟨B6,4,none⟩ (vI V))):=⟨p58,p68,kk⟩;clear g6 p58 p68 kk p5 p6 oA e9;go_wp2_with fail
          refine(at_3 _ B5).mono ?_;rintro e w4 ⟨rfl,e4⟩;subst w4;go_wp2_with fail
          refine(at_3 _ B6).mono ?_;rintro e w4 ⟨rfl,e4⟩;subst w4;go_wp2_with fail
          exact⟨⟨i+1,by omega,by simp,hfin.out⟩,by simp[intOf] <;> omega⟩
      · obtain rfl:i=N:=by omega
        rw[hfi.out] at p6;have p6':=p6;simp only[ddC] at p5 p6';obtain⟨x0,x1,x2,x3,x4⟩:=OwnL.ce5 p5;obtain⟨y0,y1,y2,y3,y4⟩:=OwnL.ce5 p6';go_wp2;go_ret;exact⟨rfl,c01.trans kr⟩
end
end Go.Proofs.YtdffnjikmkgjkaaGreat
