/- TopMemory: a part of its proof (Th7). -/
import Derived.Test.YtdffnjikmkgjkaaGreatTmAA
import Derived.Test.YtdffnjikmkgjkaaGreatTmAT
set_option linter.unusedSimpArgs false
set_option linter.unusedVariables false
set_option maxHeartbeats 8000000
namespace Go.Proofs.YtdffnjikmkgjkaaGreat
section
open Go.RowKit Go.Shelf
variable {w:World}{τ:Nat→Nat}{s q:Nat}{S:StD}
set_option maxRecDepth 8000 in
theorem tdeed_k5 (h:St w τ s q S)(hs:s<100000)(hq:q≤100000){x:ThD}(hx:ThR x)(t:Int)(ht:I64 t){a b:Nat}(ha6:a<6)(hb6:b<6){i:Nat}(hi:i≤7) :
    Calls Tryz.prog 57 #[pV S.sp,vI t,ddV ⟨5,a,b,(i:Int),0⟩,thV x] w (TdP w τ s q S ⟨5,a,b,(i:Int),0⟩ x):=by
  obtain⟨τ0,hf,tk,fr⟩:=h.fresh;have hst:=run_storeF;have hmf:=run_mf;obtain⟨W,hWW,hW⟩:=ddW_newE w S ⟨5,a,b,(i:Int),0⟩ x;simp only[] at hWW hW;have c6a:=(hW.o6 1 _ rfl).1;have c6b:=(hW.o6 2 _ rfl).1;have c6k:=(hW.o6 0 _ rfl).1;have c7a:=(hW.o7 (2+a) _ (thC_at ha6)).1;have c7b:=(hW.o7 (2+b) _ (thC_at hb6)).1;have a0:(0:Int)≤a:=by omega
  have a1:(a:Int)<6:=by omega
  have b0:(0:Int)≤b:=by omega
  have b1:(b:Int)<6:=by omega
  simp only[rg,toldF,List.getD_eq_getElem?_getD] at hWW c7a c7b;simp only[ddV,thV,rg];go_enter Tryz.func57,Tryz.ntmps57;go_wp2_with fail
  go_quiet (fail)
  clear hWW hst hmf c6a c6b c7a c7b;have hV:DdW w (W.drewN nq) S ⟨5,a,b,(i:Int),0⟩ x:=hW.calm ((Fr.refl _ _).drewN nq) rfl;clear hW c6k;generalize W.drewN nq=W' at *;have y4:=(hV.o4 0 _ rfl).1;have y6k:=(hV.o6 0 _ rfl).1;have y6i:=(hV.o6 3 _ rfl).1;have y6n:=(hV.o6 4 _ rfl).1;have yF:=(hV.oF 0 _ rfl).1;have hlt:∀j,j≤5→w.heap.size+j<W'.heap.size:=fun j hj=>by rw[hV.z];omega
  have hpb:=hx.at b;have hpa:=hx.at a;rw[List.getD_eq_getElem?_getD] at hpa hpb;obtain⟨pb,hpbe⟩:∃pb,x.R[b]?.getD 0=pb:=⟨_,rfl⟩;obtain⟨pa,hpae⟩:∃pa,x.R[a]?.getD 0=pa:=⟨_,rfl⟩;rw[hpbe] at hpb;rw[hpae] at hpa;rw[hpbe,hpae];have kd:Calm W' W'.drew:=(Fr.refl _ _).drew;have hD:DdW w W'.drew S ⟨5,a,b,(i:Int),0⟩ x:=hV.calm kd rfl;have hlt2:∀j,j≤5→w.heap.size+j<W'.drew.heap.size:=hlt;have oc:=put_is (hf.calm (hV.c.trans kd)) hq t ht hpa (k:=(i:Int)) ⟨by omega,by omega⟩ hpb;replace hpbe:=hid hpbe;replace hpae:=hid hpae;go_wp2_with fail
  refine wp_region_mix [(true,0),(true,1),(true,2),(true,3),(true,4),(true,5),(true,6),(false,7),(false,8),(true,9),(true,10),(false,11),(false,12)] (fun w'=>w'.cell? ⟨w.heap.size+1+1+1+1+1,0,none⟩=some (toldF (w.heap.size+1+1))∧w'.cell? ⟨w.heap.size,0,none⟩=some (pV S.sp)∧w'.cell? ⟨w.heap.size+1,3,none⟩=some (vI (i:Int))∧w'.cell? ⟨w.heap.size+1,4,none⟩=some (vI 0)) (by kernel_rfl) (by kernel_rfl) ⟨yF,y4,y6i,y6n⟩ ?_;refine mix_read (toldF (w.heap.size+1+1)) rfl rfl (fun w' hw'=>?_) (fun _ _ _ h=>h) ?_
  · have e1:=hw'.1;simp[go_sem,e1]
  refine mix_read (pV S.sp) rfl rfl (fun w' hw'=>?_) (fun _ _ _ h=>h) ?_
  · have e1:=hw'.2.1;simp[go_sem,e1]
  refine mix_read (vI t) rfl rfl (fun w' hw'=>?_) (fun _ _ _ h=>h) ?_
  · simp[go_sem]
  refine mix_read (vI (pa:Int)) rfl rfl (fun w' hw'=>?_) (fun _ _ _ h=>h) ?_
  · simp[go_sem]
  refine mix_read (.pointer (some ⟨w.heap.size+1,3,none⟩)) rfl rfl (fun w' hw'=>?_) (fun _ _ _ h=>h) ?_
  · simp[go_sem]
  refine mix_read (vI (i:Int)) rfl rfl (fun w' hw'=>?_) (fun _ _ _ h=>h) ?_
  · have e1:=hw'.2.2.1;simp[go_sem,e1]
  refine mix_read (vI (pb:Int)) rfl rfl (fun w' hw'=>?_) (fun _ _ _ h=>h) ?_
  · simp[go_sem]
  refine mix_step rfl rfl ?_;go_wp2_with fail
  refine oc.mono ?_;rintro en w5 ⟨x0,rfl,hx0,hx1,n5⟩;have n5c:=n5;obtain⟨τ5,S5,p1,p2,p3,p4⟩:=n5;have tg:∀j,j≤5→500≤τ0 (w.heap.size+j):=fun j hj=>by rw[fr _ (by omega)];omega
  have q7:=p2.ownL hD.o7 (tg 2 (by omega));have q6:=p2.ownL hD.o6 (tg 1 (by omega));have qF:=p2.ownL hD.oF (tg 5 (by omega));have q4:=p2.ownL hD.o4 (tg 0 (by omega));have q8:=p2.ownL hD.o8 (tg 3 (by omega));have q9:=p2.ownL hD.o9 (tg 4 (by omega));have sA:w5.cell? ⟨w.heap.size+1+1+1+1+1,0,none⟩=some (toldF (w.heap.size+1+1))∧w5.cell? ⟨w.heap.size,0,none⟩=some (pV S.sp)∧w5.cell? ⟨w.heap.size+1,3,none⟩=some (vI (i:Int))∧w5.cell? ⟨w.heap.size+1,4,none⟩=some (vI 0):=⟨(qF 0 _ rfl).1,(q4 0 _ rfl).1,(q6 3 _ rfl).1,(q6 4 _ rfl).1⟩;refine⟨sA,?_⟩;have ol:=told_is q7 hx.b hx.p 0 x0;clear oc y4 y6k y6i y6n yF p1 p2 p3 p4;refine mix_step rfl rfl ?_;go_wp2_with fail
  refine ol.mono ?_;rintro en w6 ⟨rfl,k6⟩;clear ol;have sB:w6.cell? ⟨w.heap.size+1+1+1+1+1,0,none⟩=some (toldF (w.heap.size+1+1))∧w6.cell? ⟨w.heap.size,0,none⟩=some (pV S.sp)∧w6.cell? ⟨w.heap.size+1,3,none⟩=some (vI (i:Int))∧w6.cell? ⟨w.heap.size+1,4,none⟩=some (vI 0):=⟨k6.cellAt sA.1 id,k6.cellAt sA.2.1 id,k6.cellAt sA.2.2.1 id,k6.cellAt sA.2.2.2 id⟩;refine⟨sB,?_⟩;generalize hx2:x.endX x0=x2 at *;obtain⟨v2,hv2⟩:∃v2:Int,(if x0=0 then (0:Int) else 0)=v2:=⟨_,rfl⟩;rw[hv2];replace hx2:=hid hx2;replace hv2:=hid hv2;refine mix_read (thV x2) rfl rfl (fun w' hw'=>?_) (fun _ _ _ h=>h) ?_
  · simp[go_sem]
  refine mix_read (acV 2 x0 v2) rfl rfl (fun w' hw'=>?_) (fun _ _ _ h=>h) ?_
  · simp[go_sem]
  refine mix_step rfl rfl ?_;refine wp_storeO _ _ _ rfl (w.heap.size+1+1+1) (thC x2).toArray rfl rfl (q8.calm k6) rfl (by kernel_rfl) (thC_one x2) ?_;intro w7 p8 f7;refine⟨⟨f7.cellAt sB.1 (by show ¬(w.heap.size+1+1+1+1+1=_);omega),f7.cellAt sB.2.1 (by show ¬(w.heap.size=_);omega),f7.cellAt sB.2.2.1 (by show ¬(w.heap.size+1=_);omega),f7.cellAt sB.2.2.2 (by show ¬(w.heap.size+1=_);omega)⟩,?_⟩;have q97:=(q9.calm k6).fr f7 (by omega);refine mix_step rfl rfl ?_;refine wp_storeO _ _ _ rfl (w.heap.size+1+1+1+1) #[vI 2,vI x0,vI v2] rfl rfl q97 rfl (by kernel_rfl) (by simp[Value.oneCell']) ?_;intro w8 p9 f8;have sC:=f7.cellAt sB.1 (by show ¬(w.heap.size+1+1+1+1+1=_);omega);refine⟨⟨f8.cellAt sC (by show ¬(w.heap.size+1+1+1+1+1=_);omega),f8.cellAt (f7.cellAt sB.2.1 (by show ¬(w.heap.size=_);omega)) (by show ¬(w.heap.size=_);omega),f8.cellAt (f7.cellAt sB.2.2.1 (by show ¬(w.heap.size+1=_);omega)) (by show ¬(w.heap.size+1=_);omega),f8.cellAt (f7.cellAt sB.2.2.2 (by show ¬(w.heap.size+1=_);omega)) (by show ¬(w.heap.size+1=_);omega)⟩,?_⟩;have p88:=p8.fr f8 (by omega);refine mix_end ?_;have hF:Fr (fun b=>w.heap.size≤b∧b<W'.drew.heap.size) w5 w8:=((Calm.any k6:Fr (fun b=>w.heap.size≤b∧b<W'.drew.heap.size) _ _).trans (f7.mono (fun b _ e=>by have:=hlt2 3 (by omega);omega))).trans (f8.mono (fun b _ e=>by have:=hlt2 4 (by omega);omega));have hP:TdP w τ s q S ⟨5,a,b,(i:Int),0⟩ x (.returned (.tuple #[thV x2,acV 2 x0 v2])) w8:=⟨x2,x0,v2,rfl,hx0,⟨x,hx.r,hx.rp,rfl,rfl,rfl,rfl,.inl hx2.out.symm⟩,(dd_fin hD tk fr n5c hF).mono (Nat.le_succ _) (Nat.le_refl _) (fun S' _=>.inr (.inr ⟨by show(5:Int)≠1;decide,by show(5:Int)≠2;decide,by show(5:Int)≠3;decide,hx1⟩))⟩;replace hP:=hid hP;clear hF sA sB sC p8 q97;go_wp2;exact bodyPost_ret (v:=.tuple #[thV x2,acV 2 x0 v2]) (res_two (i:=8) (j:=9) rfl rfl rfl p88 p9) rfl hP.out
set_option maxRecDepth 8000 in
theorem tdeed_k6 (h:St w τ s q S)(hs:s<100000)(hq:q≤100000){x:ThD}(hx:ThR x)(t:Int)(ht:I64 t){a b:Nat}(ha6:a<6)(hb6:b<6){i:Nat}(hi:i≤7) :
    Calls Tryz.prog 57 #[pV S.sp,vI t,ddV ⟨6,a,b,(i:Int),0⟩,thV x] w (TdP w τ s q S ⟨6,a,b,(i:Int),0⟩ x):=by
  obtain⟨τ0,hf,tk,fr⟩:=h.fresh;have hst:=run_storeF;have hmf:=run_mf;obtain⟨W,hWW,hW⟩:=ddW_newE w S ⟨6,a,b,(i:Int),0⟩ x;simp only[] at hWW hW;have c6a:=(hW.o6 1 _ rfl).1;have c6b:=(hW.o6 2 _ rfl).1;have c6k:=(hW.o6 0 _ rfl).1;have c7a:=(hW.o7 (2+a) _ (thC_at ha6)).1;have c7b:=(hW.o7 (2+b) _ (thC_at hb6)).1;have a0:(0:Int)≤a:=by omega
  have a1:(a:Int)<6:=by omega
  have b0:(0:Int)≤b:=by omega
  have b1:(b:Int)<6:=by omega
  simp only[rg,toldF,List.getD_eq_getElem?_getD] at hWW c7a c7b;simp only[ddV,thV,rg];go_enter Tryz.func57,Tryz.ntmps57;go_wp2_with fail
  go_quiet (fail)
  clear hWW hst hmf c6a c6b c7a c7b;have hV:DdW w (W.drewN nq) S ⟨6,a,b,(i:Int),0⟩ x:=hW.calm ((Fr.refl _ _).drewN nq) rfl;clear hW c6k;generalize W.drewN nq=W' at *;have y4:=(hV.o4 0 _ rfl).1;have y6k:=(hV.o6 0 _ rfl).1;have y6i:=(hV.o6 3 _ rfl).1;have y6n:=(hV.o6 4 _ rfl).1;have yF:=(hV.oF 0 _ rfl).1;have hlt:∀j,j≤5→w.heap.size+j<W'.heap.size:=fun j hj=>by rw[hV.z];omega
  have hpb:=hx.at b;have hpa:=hx.at a;rw[List.getD_eq_getElem?_getD] at hpa hpb;obtain⟨pb,hpbe⟩:∃pb,x.R[b]?.getD 0=pb:=⟨_,rfl⟩;obtain⟨pa,hpae⟩:∃pa,x.R[a]?.getD 0=pa:=⟨_,rfl⟩;rw[hpbe] at hpb;rw[hpae] at hpa;rw[hpbe,hpae];have kd:Calm W' W'.drew:=(Fr.refl _ _).drew;have hD:DdW w W'.drew S ⟨6,a,b,(i:Int),0⟩ x:=hV.calm kd rfl;have hlt2:∀j,j≤5→w.heap.size+j<W'.drew.heap.size:=hlt;have oc:=read_is (hf.calm (hV.c.trans kd)) hq t ht hpa (k:=(i:Int)) ⟨by omega,by omega⟩;replace hpbe:=hid hpbe;replace hpae:=hid hpae;go_wp2_with fail
  refine wp_region_mix [(true,0),(true,1),(true,2),(true,3),(true,4),(true,5),(false,6),(true,7),(true,8),(false,9),(true,10),(true,11),(false,12),(false,13)] (fun w'=>w'.cell? ⟨w.heap.size+1+1+1+1+1,0,none⟩=some (toldF (w.heap.size+1+1))∧w'.cell? ⟨w.heap.size,0,none⟩=some (pV S.sp)∧w'.cell? ⟨w.heap.size+1,3,none⟩=some (vI (i:Int))∧w'.cell? ⟨w.heap.size+1,4,none⟩=some (vI 0)) (by kernel_rfl) (by kernel_rfl) ⟨yF,y4,y6i,y6n⟩ ?_;refine mix_read (toldF (w.heap.size+1+1)) rfl rfl (fun w' hw'=>?_) (fun _ _ _ h=>h) ?_
  · have e1:=hw'.1;simp[go_sem,e1]
  refine mix_read (pV S.sp) rfl rfl (fun w' hw'=>?_) (fun _ _ _ h=>h) ?_
  · have e1:=hw'.2.1;simp[go_sem,e1]
  refine mix_read (vI t) rfl rfl (fun w' hw'=>?_) (fun _ _ _ h=>h) ?_
  · simp[go_sem]
  refine mix_read (vI (pa:Int)) rfl rfl (fun w' hw'=>?_) (fun _ _ _ h=>h) ?_
  · simp[go_sem]
  refine mix_read (.pointer (some ⟨w.heap.size+1,3,none⟩)) rfl rfl (fun w' hw'=>?_) (fun _ _ _ h=>h) ?_
  · simp[go_sem]
  refine mix_read (vI (i:Int)) rfl rfl (fun w' hw'=>?_) (fun _ _ _ h=>h) ?_
  · have e1:=hw'.2.2.1;simp[go_sem,e1]
  refine mix_step rfl rfl ?_;go_wp2_with fail
  refine oc.mono ?_;rintro en w5 ⟨v0,x0,rfl,hv0,hx0,hx1,n5⟩;have n5c:=n5;obtain⟨τ5,S5,p1,p2,p3,p4⟩:=n5;have tg:∀j,j≤5→500≤τ0 (w.heap.size+j):=fun j hj=>by rw[fr _ (by omega)];omega
  have q7:=p2.ownL hD.o7 (tg 2 (by omega));have q6:=p2.ownL hD.o6 (tg 1 (by omega));have qF:=p2.ownL hD.oF (tg 5 (by omega));have q4:=p2.ownL hD.o4 (tg 0 (by omega));have q8:=p2.ownL hD.o8 (tg 3 (by omega));have q9:=p2.ownL hD.o9 (tg 4 (by omega));have sA:w5.cell? ⟨w.heap.size+1+1+1+1+1,0,none⟩=some (toldF (w.heap.size+1+1))∧w5.cell? ⟨w.heap.size,0,none⟩=some (pV S.sp)∧w5.cell? ⟨w.heap.size+1,3,none⟩=some (vI (i:Int))∧w5.cell? ⟨w.heap.size+1,4,none⟩=some (vI 0):=⟨(qF 0 _ rfl).1,(q4 0 _ rfl).1,(q6 3 _ rfl).1,(q6 4 _ rfl).1⟩;refine⟨sA,?_⟩;have ol:=told_is q7 hx.b hx.p v0 x0;clear oc y4 y6k y6i y6n yF p1 p2 p3 p4;refine mix_read (vI v0) rfl rfl (fun w' hw'=>?_) (fun _ _ _ h=>h) ?_
  · simp[go_sem]
  refine mix_read (vI x0) rfl rfl (fun w' hw'=>?_) (fun _ _ _ h=>h) ?_
  · simp[go_sem]
  refine mix_step rfl rfl ?_;go_wp2_with fail
  refine ol.mono ?_;rintro en w6 ⟨rfl,k6⟩;clear ol;have sB:w6.cell? ⟨w.heap.size+1+1+1+1+1,0,none⟩=some (toldF (w.heap.size+1+1))∧w6.cell? ⟨w.heap.size,0,none⟩=some (pV S.sp)∧w6.cell? ⟨w.heap.size+1,3,none⟩=some (vI (i:Int))∧w6.cell? ⟨w.heap.size+1,4,none⟩=some (vI 0):=⟨k6.cellAt sA.1 id,k6.cellAt sA.2.1 id,k6.cellAt sA.2.2.1 id,k6.cellAt sA.2.2.2 id⟩;refine⟨sB,?_⟩;generalize hx2:x.endX x0=x2 at *;obtain⟨v2,hv2⟩:∃v2:Int,(if x0=0 then (v0:Int) else 0)=v2:=⟨_,rfl⟩;rw[hv2];replace hx2:=hid hx2;replace hv2:=hid hv2;refine mix_read (thV x2) rfl rfl (fun w' hw'=>?_) (fun _ _ _ h=>h) ?_
  · simp[go_sem]
  refine mix_read (acV 2 x0 v2) rfl rfl (fun w' hw'=>?_) (fun _ _ _ h=>h) ?_
  · simp[go_sem]
  refine mix_step rfl rfl ?_;refine wp_storeO _ _ _ rfl (w.heap.size+1+1+1) (thC x2).toArray rfl rfl (q8.calm k6) rfl (by kernel_rfl) (thC_one x2) ?_;intro w7 p8 f7;refine⟨⟨f7.cellAt sB.1 (by show ¬(w.heap.size+1+1+1+1+1=_);omega),f7.cellAt sB.2.1 (by show ¬(w.heap.size=_);omega),f7.cellAt sB.2.2.1 (by show ¬(w.heap.size+1=_);omega),f7.cellAt sB.2.2.2 (by show ¬(w.heap.size+1=_);omega)⟩,?_⟩;have q97:=(q9.calm k6).fr f7 (by omega);refine mix_step rfl rfl ?_;refine wp_storeO _ _ _ rfl (w.heap.size+1+1+1+1) #[vI 2,vI x0,vI v2] rfl rfl q97 rfl (by kernel_rfl) (by simp[Value.oneCell']) ?_;intro w8 p9 f8;have sC:=f7.cellAt sB.1 (by show ¬(w.heap.size+1+1+1+1+1=_);omega);refine⟨⟨f8.cellAt sC (by show ¬(w.heap.size+1+1+1+1+1=_);omega),f8.cellAt (f7.cellAt sB.2.1 (by show ¬(w.heap.size=_);omega)) (by show ¬(w.heap.size=_);omega),f8.cellAt (f7.cellAt sB.2.2.1 (by show ¬(w.heap.size+1=_);omega)) (by show ¬(w.heap.size+1=_);omega),f8.cellAt (f7.cellAt sB.2.2.2 (by show ¬(w.heap.size+1=_);omega)) (by show ¬(w.heap.size+1=_);omega)⟩,?_⟩;have p88:=p8.fr f8 (by omega);refine mix_end ?_;have hF:Fr (fun b=>w.heap.size≤b∧b<W'.drew.heap.size) w5 w8:=((Calm.any k6:Fr (fun b=>w.heap.size≤b∧b<W'.drew.heap.size) _ _).trans (f7.mono (fun b _ e=>by have:=hlt2 3 (by omega);omega))).trans (f8.mono (fun b _ e=>by have:=hlt2 4 (by omega);omega));have hP:TdP w τ s q S ⟨6,a,b,(i:Int),0⟩ x (.returned (.tuple #[thV x2,acV 2 x0 v2])) w8:=⟨x2,x0,v2,rfl,hx0,⟨x,hx.r,hx.rp,rfl,rfl,rfl,rfl,.inl hx2.out.symm⟩,(dd_fin hD tk fr n5c hF).mono (Nat.le_succ _) (Nat.le_refl _) (fun S' _=>.inr (.inr ⟨by show(6:Int)≠1;decide,by show(6:Int)≠2;decide,by show(6:Int)≠3;decide,hx1⟩))⟩;replace hP:=hid hP;clear hF sA sB sC p8 q97;go_wp2;exact bodyPost_ret (v:=.tuple #[thV x2,acV 2 x0 v2]) (res_two (i:=8) (j:=9) rfl rfl rfl p88 p9) rfl hP.out
set_option maxRecDepth 8000 in
theorem tdeed_k7 (h:St w τ s q S)(hs:s<100000)(hq:q≤100000){x:ThD}(hx:ThR x)(t:Int)(ht:I64 t){a b:Nat}(ha6:a<6)(hb6:b<6){i:Nat}(hi:i≤7){n:Int}(hn:I64 n) :
    Calls Tryz.prog 57 #[pV S.sp,vI t,ddV ⟨7,a,b,(i:Int),n⟩,thV x] w (TdP w τ s q S ⟨7,a,b,(i:Int),n⟩ x):=by
  obtain⟨τ0,hf,tk,fr⟩:=h.fresh;have hst:=run_storeF;have hmf:=run_mf;obtain⟨W,hWW,hW⟩:=ddW_newE w S ⟨7,a,b,(i:Int),n⟩ x;simp only[] at hWW hW;have c6a:=(hW.o6 1 _ rfl).1;have c6b:=(hW.o6 2 _ rfl).1;have c6k:=(hW.o6 0 _ rfl).1;have c7a:=(hW.o7 (2+a) _ (thC_at ha6)).1;have c7b:=(hW.o7 (2+b) _ (thC_at hb6)).1;have a0:(0:Int)≤a:=by omega
  have a1:(a:Int)<6:=by omega
  have b0:(0:Int)≤b:=by omega
  have b1:(b:Int)<6:=by omega
  simp only[rg,toldF,List.getD_eq_getElem?_getD] at hWW c7a c7b;simp only[ddV,thV,rg];go_enter Tryz.func57,Tryz.ntmps57;go_wp2_with fail
  go_quiet (fail)
  clear hWW hst hmf c6a c6b c7a c7b;have hV:DdW w (W.drewN nq) S ⟨7,a,b,(i:Int),n⟩ x:=hW.calm ((Fr.refl _ _).drewN nq) rfl;clear hW c6k;generalize W.drewN nq=W' at *;have y4:=(hV.o4 0 _ rfl).1;have y6k:=(hV.o6 0 _ rfl).1;have y6i:=(hV.o6 3 _ rfl).1;have y6n:=(hV.o6 4 _ rfl).1;have yF:=(hV.oF 0 _ rfl).1;have hlt:∀j,j≤5→w.heap.size+j<W'.heap.size:=fun j hj=>by rw[hV.z];omega
  have hpb:=hx.at b;have hpa:=hx.at a;rw[List.getD_eq_getElem?_getD] at hpa hpb;obtain⟨pb,hpbe⟩:∃pb,x.R[b]?.getD 0=pb:=⟨_,rfl⟩;obtain⟨pa,hpae⟩:∃pa,x.R[a]?.getD 0=pa:=⟨_,rfl⟩;rw[hpbe] at hpb;rw[hpae] at hpa;rw[hpbe,hpae];have kd:Calm W' W'.drew:=(Fr.refl _ _).drew;have hD:DdW w W'.drew S ⟨7,a,b,(i:Int),n⟩ x:=hV.calm kd rfl;have hlt2:∀j,j≤5→w.heap.size+j<W'.drew.heap.size:=hlt;have oc:=write_is (hf.calm (hV.c.trans kd)) hq t ht hpa (k:=(i:Int)) ⟨by omega,by omega⟩ (b:=n) hn;replace hpbe:=hid hpbe;replace hpae:=hid hpae;go_wp2_with fail
  refine wp_region_mix [(true,0),(true,1),(true,2),(true,3),(true,4),(true,5),(true,6),(true,7),(false,8),(false,9),(true,10),(true,11),(false,12),(false,13)] (fun w'=>w'.cell? ⟨w.heap.size+1+1+1+1+1,0,none⟩=some (toldF (w.heap.size+1+1))∧w'.cell? ⟨w.heap.size,0,none⟩=some (pV S.sp)∧w'.cell? ⟨w.heap.size+1,3,none⟩=some (vI (i:Int))∧w'.cell? ⟨w.heap.size+1,4,none⟩=some (vI n)) (by kernel_rfl) (by kernel_rfl) ⟨yF,y4,y6i,y6n⟩ ?_;refine mix_read (toldF (w.heap.size+1+1)) rfl rfl (fun w' hw'=>?_) (fun _ _ _ h=>h) ?_
  · have e1:=hw'.1;simp[go_sem,e1]
  refine mix_read (pV S.sp) rfl rfl (fun w' hw'=>?_) (fun _ _ _ h=>h) ?_
  · have e1:=hw'.2.1;simp[go_sem,e1]
  refine mix_read (vI t) rfl rfl (fun w' hw'=>?_) (fun _ _ _ h=>h) ?_
  · simp[go_sem]
  refine mix_read (vI (pa:Int)) rfl rfl (fun w' hw'=>?_) (fun _ _ _ h=>h) ?_
  · simp[go_sem]
  refine mix_read (.pointer (some ⟨w.heap.size+1,3,none⟩)) rfl rfl (fun w' hw'=>?_) (fun _ _ _ h=>h) ?_
  · simp[go_sem]
  refine mix_read (vI (i:Int)) rfl rfl (fun w' hw'=>?_) (fun _ _ _ h=>h) ?_
  · have e1:=hw'.2.2.1;simp[go_sem,e1]
  refine mix_read (.pointer (some ⟨w.heap.size+1,4,none⟩)) rfl rfl (fun w' hw'=>?_) (fun _ _ _ h=>h) ?_
  · simp[go_sem]
  refine mix_read (vI n) rfl rfl (fun w' hw'=>?_) (fun _ _ _ h=>h) ?_
  · have e1:=hw'.2.2.2;simp[go_sem,e1]
  refine mix_step rfl rfl ?_;go_wp2_with fail
  refine oc.mono ?_;rintro en w5 ⟨x0,rfl,hx0,hx1,n5⟩;have n5c:=n5;obtain⟨τ5,S5,p1,p2,p3,p4⟩:=n5;have tg:∀j,j≤5→500≤τ0 (w.heap.size+j):=fun j hj=>by rw[fr _ (by omega)];omega
  have q7:=p2.ownL hD.o7 (tg 2 (by omega));have q6:=p2.ownL hD.o6 (tg 1 (by omega));have qF:=p2.ownL hD.oF (tg 5 (by omega));have q4:=p2.ownL hD.o4 (tg 0 (by omega));have q8:=p2.ownL hD.o8 (tg 3 (by omega));have q9:=p2.ownL hD.o9 (tg 4 (by omega));have sA:w5.cell? ⟨w.heap.size+1+1+1+1+1,0,none⟩=some (toldF (w.heap.size+1+1))∧w5.cell? ⟨w.heap.size,0,none⟩=some (pV S.sp)∧w5.cell? ⟨w.heap.size+1,3,none⟩=some (vI (i:Int))∧w5.cell? ⟨w.heap.size+1,4,none⟩=some (vI n):=⟨(qF 0 _ rfl).1,(q4 0 _ rfl).1,(q6 3 _ rfl).1,(q6 4 _ rfl).1⟩;refine⟨sA,?_⟩;have ol:=told_is q7 hx.b hx.p 0 x0;clear oc y4 y6k y6i y6n yF p1 p2 p3 p4;refine mix_step rfl rfl ?_;go_wp2_with fail
  refine ol.mono ?_;rintro en w6 ⟨rfl,k6⟩;clear ol;have sB:w6.cell? ⟨w.heap.size+1+1+1+1+1,0,none⟩=some (toldF (w.heap.size+1+1))∧w6.cell? ⟨w.heap.size,0,none⟩=some (pV S.sp)∧w6.cell? ⟨w.heap.size+1,3,none⟩=some (vI (i:Int))∧w6.cell? ⟨w.heap.size+1,4,none⟩=some (vI n):=⟨k6.cellAt sA.1 id,k6.cellAt sA.2.1 id,k6.cellAt sA.2.2.1 id,k6.cellAt sA.2.2.2 id⟩;refine⟨sB,?_⟩;generalize hx2:x.endX x0=x2 at *;obtain⟨v2,hv2⟩:∃v2:Int,(if x0=0 then (0:Int) else 0)=v2:=⟨_,rfl⟩;rw[hv2];replace hx2:=hid hx2;replace hv2:=hid hv2;refine mix_read (thV x2) rfl rfl (fun w' hw'=>?_) (fun _ _ _ h=>h) ?_
  · simp[go_sem]
  refine mix_read (acV 2 x0 v2) rfl rfl (fun w' hw'=>?_) (fun _ _ _ h=>h) ?_
  · simp[go_sem]
  refine mix_step rfl rfl ?_;refine wp_storeO _ _ _ rfl (w.heap.size+1+1+1) (thC x2).toArray rfl rfl (q8.calm k6) rfl (by kernel_rfl) (thC_one x2) ?_;intro w7 p8 f7;refine⟨⟨f7.cellAt sB.1 (by show ¬(w.heap.size+1+1+1+1+1=_);omega),f7.cellAt sB.2.1 (by show ¬(w.heap.size=_);omega),f7.cellAt sB.2.2.1 (by show ¬(w.heap.size+1=_);omega),f7.cellAt sB.2.2.2 (by show ¬(w.heap.size+1=_);omega)⟩,?_⟩;have q97:=(q9.calm k6).fr f7 (by omega);refine mix_step rfl rfl ?_;refine wp_storeO _ _ _ rfl (w.heap.size+1+1+1+1) #[vI 2,vI x0,vI v2] rfl rfl q97 rfl (by kernel_rfl) (by simp[Value.oneCell']) ?_;intro w8 p9 f8;have sC:=f7.cellAt sB.1 (by show ¬(w.heap.size+1+1+1+1+1=_);omega);refine⟨⟨f8.cellAt sC (by show ¬(w.heap.size+1+1+1+1+1=_);omega),f8.cellAt (f7.cellAt sB.2.1 (by show ¬(w.heap.size=_);omega)) (by show ¬(w.heap.size=_);omega),f8.cellAt (f7.cellAt sB.2.2.1 (by show ¬(w.heap.size+1=_);omega)) (by show ¬(w.heap.size+1=_);omega),f8.cellAt (f7.cellAt sB.2.2.2 (by show ¬(w.heap.size+1=_);omega)) (by show ¬(w.heap.size+1=_);omega)⟩,?_⟩;have p88:=p8.fr f8 (by omega);refine mix_end ?_;have hF:Fr (fun b=>w.heap.size≤b∧b<W'.drew.heap.size) w5 w8:=((Calm.any k6:Fr (fun b=>w.heap.size≤b∧b<W'.drew.heap.size) _ _).trans (f7.mono (fun b _ e=>by have:=hlt2 3 (by omega);omega))).trans (f8.mono (fun b _ e=>by have:=hlt2 4 (by omega);omega));have hP:TdP w τ s q S ⟨7,a,b,(i:Int),n⟩ x (.returned (.tuple #[thV x2,acV 2 x0 v2])) w8:=⟨x2,x0,v2,rfl,hx0,⟨x,hx.r,hx.rp,rfl,rfl,rfl,rfl,.inl hx2.out.symm⟩,(dd_fin hD tk fr n5c hF).mono (Nat.le_succ _) (Nat.le_refl _) (fun S' _=>.inr (.inr ⟨by show(7:Int)≠1;decide,by show(7:Int)≠2;decide,by show(7:Int)≠3;decide,hx1⟩))⟩;replace hP:=hid hP;clear hF sA sB sC p8 q97;go_wp2;exact bodyPost_ret (v:=.tuple #[thV x2,acV 2 x0 v2]) (res_two (i:=8) (j:=9) rfl rfl rfl p88 p9) rfl hP.out
set_option maxRecDepth 8000 in
theorem tdeed_k8 (h:St w τ s q S)(hs:s<100000)(hq:q≤100000){x:ThD}(hx:ThR x)(t:Int)(ht:I64 t){a b:Nat}(ha6:a<6)(hb6:b<6) :
    Calls Tryz.prog 57 #[pV S.sp,vI t,ddV ⟨8,a,b,0,0⟩,thV x] w (TdP w τ s q S ⟨8,a,b,0,0⟩ x):=by
  obtain⟨τ0,hf,tk,fr⟩:=h.fresh;have hst:=run_storeF;have hmf:=run_mf;obtain⟨W,hWW,hW⟩:=ddW_newE w S ⟨8,a,b,0,0⟩ x;simp only[] at hWW hW;have c6a:=(hW.o6 1 _ rfl).1;have c6b:=(hW.o6 2 _ rfl).1;have c6k:=(hW.o6 0 _ rfl).1;have c7a:=(hW.o7 (2+a) _ (thC_at ha6)).1;have c7b:=(hW.o7 (2+b) _ (thC_at hb6)).1;have a0:(0:Int)≤a:=by omega
  have a1:(a:Int)<6:=by omega
  have b0:(0:Int)≤b:=by omega
  have b1:(b:Int)<6:=by omega
  simp only[rg,toldF,List.getD_eq_getElem?_getD] at hWW c7a c7b;simp only[ddV,thV,rg];go_enter Tryz.func57,Tryz.ntmps57;go_wp2_with fail
  go_quiet (fail)
  clear hWW hst hmf c6a c6b c7a c7b;have hV:DdW w (W.drewN nq) S ⟨8,a,b,0,0⟩ x:=hW.calm ((Fr.refl _ _).drewN nq) rfl;clear hW c6k;generalize W.drewN nq=W' at *;have y4:=(hV.o4 0 _ rfl).1;have y6k:=(hV.o6 0 _ rfl).1;have y6i:=(hV.o6 3 _ rfl).1;have y6n:=(hV.o6 4 _ rfl).1;have yF:=(hV.oF 0 _ rfl).1;have hlt:∀j,j≤5→w.heap.size+j<W'.heap.size:=fun j hj=>by rw[hV.z];omega
  have hpb:=hx.at b;have hpa:=hx.at a;rw[List.getD_eq_getElem?_getD] at hpa hpb;obtain⟨pb,hpbe⟩:∃pb,x.R[b]?.getD 0=pb:=⟨_,rfl⟩;obtain⟨pa,hpae⟩:∃pa,x.R[a]?.getD 0=pa:=⟨_,rfl⟩;rw[hpbe] at hpb;rw[hpae] at hpa;rw[hpbe,hpae];have kd:Calm W' W'.drew:=(Fr.refl _ _).drew;have hD:DdW w W'.drew S ⟨8,a,b,0,0⟩ x:=hV.calm kd rfl;have hlt2:∀j,j≤5→w.heap.size+j<W'.drew.heap.size:=hlt;have oc:=free_is (hf.calm (hV.c.trans kd)) hq t ht hpa;replace hpbe:=hid hpbe;replace hpae:=hid hpae;go_wp2_with fail
  refine wp_region_mix [(true,0),(true,1),(true,2),(true,3),(false,4),(false,5),(true,6),(true,7),(false,8),(false,9)] (fun w'=>w'.cell? ⟨w.heap.size+1+1+1+1+1,0,none⟩=some (toldF (w.heap.size+1+1))∧w'.cell? ⟨w.heap.size,0,none⟩=some (pV S.sp)∧w'.cell? ⟨w.heap.size+1,3,none⟩=some (vI 0)∧w'.cell? ⟨w.heap.size+1,4,none⟩=some (vI 0)) (by kernel_rfl) (by kernel_rfl) ⟨yF,y4,y6i,y6n⟩ ?_;refine mix_read (toldF (w.heap.size+1+1)) rfl rfl (fun w' hw'=>?_) (fun _ _ _ h=>h) ?_
  · have e1:=hw'.1;simp[go_sem,e1]
  refine mix_read (pV S.sp) rfl rfl (fun w' hw'=>?_) (fun _ _ _ h=>h) ?_
  · have e1:=hw'.2.1;simp[go_sem,e1]
  refine mix_read (vI t) rfl rfl (fun w' hw'=>?_) (fun _ _ _ h=>h) ?_
  · simp[go_sem]
  refine mix_read (vI (pa:Int)) rfl rfl (fun w' hw'=>?_) (fun _ _ _ h=>h) ?_
  · simp[go_sem]
  refine mix_step rfl rfl ?_;go_wp2_with fail
  refine oc.mono ?_;rintro en w5 ⟨x0,rfl,hx0,hx1,n5⟩;have n5c:=n5;obtain⟨τ5,S5,p1,p2,p3,p4⟩:=n5;have tg:∀j,j≤5→500≤τ0 (w.heap.size+j):=fun j hj=>by rw[fr _ (by omega)];omega
  have q7:=p2.ownL hD.o7 (tg 2 (by omega));have q6:=p2.ownL hD.o6 (tg 1 (by omega));have qF:=p2.ownL hD.oF (tg 5 (by omega));have q4:=p2.ownL hD.o4 (tg 0 (by omega));have q8:=p2.ownL hD.o8 (tg 3 (by omega));have q9:=p2.ownL hD.o9 (tg 4 (by omega));have sA:w5.cell? ⟨w.heap.size+1+1+1+1+1,0,none⟩=some (toldF (w.heap.size+1+1))∧w5.cell? ⟨w.heap.size,0,none⟩=some (pV S.sp)∧w5.cell? ⟨w.heap.size+1,3,none⟩=some (vI 0)∧w5.cell? ⟨w.heap.size+1,4,none⟩=some (vI 0):=⟨(qF 0 _ rfl).1,(q4 0 _ rfl).1,(q6 3 _ rfl).1,(q6 4 _ rfl).1⟩;refine⟨sA,?_⟩;have ol:=told_is q7 hx.b hx.p 0 x0;clear oc y4 y6k y6i y6n yF p1 p2 p3 p4;refine mix_step rfl rfl ?_;go_wp2_with fail
  refine ol.mono ?_;rintro en w6 ⟨rfl,k6⟩;clear ol;have sB:w6.cell? ⟨w.heap.size+1+1+1+1+1,0,none⟩=some (toldF (w.heap.size+1+1))∧w6.cell? ⟨w.heap.size,0,none⟩=some (pV S.sp)∧w6.cell? ⟨w.heap.size+1,3,none⟩=some (vI 0)∧w6.cell? ⟨w.heap.size+1,4,none⟩=some (vI 0):=⟨k6.cellAt sA.1 id,k6.cellAt sA.2.1 id,k6.cellAt sA.2.2.1 id,k6.cellAt sA.2.2.2 id⟩;refine⟨sB,?_⟩;generalize hx2:x.endX x0=x2 at *;obtain⟨v2,hv2⟩:∃v2:Int,(if x0=0 then (0:Int) else 0)=v2:=⟨_,rfl⟩;rw[hv2];replace hx2:=hid hx2;replace hv2:=hid hv2;refine mix_read (thV x2) rfl rfl (fun w' hw'=>?_) (fun _ _ _ h=>h) ?_
  · simp[go_sem]
  refine mix_read (acV 2 x0 v2) rfl rfl (fun w' hw'=>?_) (fun _ _ _ h=>h) ?_
  · simp[go_sem]
  refine mix_step rfl rfl ?_;refine wp_storeO _ _ _ rfl (w.heap.size+1+1+1) (thC x2).toArray rfl rfl (q8.calm k6) rfl (by kernel_rfl) (thC_one x2) ?_;intro w7 p8 f7;refine⟨⟨f7.cellAt sB.1 (by show ¬(w.heap.size+1+1+1+1+1=_);omega),f7.cellAt sB.2.1 (by show ¬(w.heap.size=_);omega),f7.cellAt sB.2.2.1 (by show ¬(w.heap.size+1=_);omega),f7.cellAt sB.2.2.2 (by show ¬(w.heap.size+1=_);omega)⟩,?_⟩;have q97:=(q9.calm k6).fr f7 (by omega);refine mix_step rfl rfl ?_;refine wp_storeO _ _ _ rfl (w.heap.size+1+1+1+1) #[vI 2,vI x0,vI v2] rfl rfl q97 rfl (by kernel_rfl) (by simp[Value.oneCell']) ?_;intro w8 p9 f8;have sC:=f7.cellAt sB.1 (by show ¬(w.heap.size+1+1+1+1+1=_);omega);refine⟨⟨f8.cellAt sC (by show ¬(w.heap.size+1+1+1+1+1=_);omega),f8.cellAt (f7.cellAt sB.2.1 (by show ¬(w.heap.size=_);omega)) (by show ¬(w.heap.size=_);omega),f8.cellAt (f7.cellAt sB.2.2.1 (by show ¬(w.heap.size+1=_);omega)) (by show ¬(w.heap.size+1=_);omega),f8.cellAt (f7.cellAt sB.2.2.2 (by show ¬(w.heap.size+1=_);omega)) (by show ¬(w.heap.size+1=_);omega)⟩,?_⟩;have p88:=p8.fr f8 (by omega);refine mix_end ?_;have hF:Fr (fun b=>w.heap.size≤b∧b<W'.drew.heap.size) w5 w8:=((Calm.any k6:Fr (fun b=>w.heap.size≤b∧b<W'.drew.heap.size) _ _).trans (f7.mono (fun b _ e=>by have:=hlt2 3 (by omega);omega))).trans (f8.mono (fun b _ e=>by have:=hlt2 4 (by omega);omega));have hP:TdP w τ s q S ⟨8,a,b,0,0⟩ x (.returned (.tuple #[thV x2,acV 2 x0 v2])) w8:=⟨x2,x0,v2,rfl,hx0,⟨x,hx.r,hx.rp,rfl,rfl,rfl,rfl,.inl hx2.out.symm⟩,(dd_fin hD tk fr n5c hF).mono (Nat.le_succ _) (Nat.le_refl _) (fun S' _=>.inr (.inr ⟨by show(8:Int)≠1;decide,by show(8:Int)≠2;decide,by show(8:Int)≠3;decide,hx1⟩))⟩;replace hP:=hid hP;clear hF sA sB sC p8 q97;go_wp2;exact bodyPost_ret (v:=.tuple #[thV x2,acV 2 x0 v2]) (res_two (i:=8) (j:=9) rfl rfl rfl p88 p9) rfl hP.out
end
end Go.Proofs.YtdffnjikmkgjkaaGreat
