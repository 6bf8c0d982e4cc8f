import Derived.Test.YtgijglafnlbdbaaGreatTmAC
set_option linter.all false
set_option maxHeartbeats 4000000
set_option maxRecDepth 8000
namespace Go.Proofs.YtgijglafnlbdbaaGreat
open RowKit Shelf Proofs.Tryz
open Go renaming World->aj,Value->aC,Calls->aL
structure Pt where
 f:Nat
 lo:Int
 hi:Int
def EC:Nat->aC
 | 0=>.func (.func 104) #[] #[]
 | 1=>.func (.func 105) #[] #[]
 | 2=>.func (.func 106) #[] #[]
 | _=>.func (.func 107) #[] #[]
def qB(p:Pt):List aC:=[EC p.f,vI p.lo,vI p.hi]
theorem OW(p:Pt):(qB p).length=3:=rfl
abbrev pA:Pt:=⟨0,0,5⟩
abbrev pB:Pt:=⟨1,0,5⟩
abbrev pI:Pt:=⟨2,0,7⟩
abbrev pJ:Pt:=⟨2,0,4⟩
abbrev pN:Pt:=⟨3,0,4⟩
abbrev pM:Pt:=⟨3,-1000000,1000000⟩
def parts:Nat->List Pt
 | 1=>[pA,pJ,pN]|2=>[pA,pJ,pN]|3=>[pA,pB]|4=>[pA,pB,pI]|5=>[pA,pI,pB]|6=>[pA,pI]|7=>[pA,pI,pM]
 | 8=>[pA]|9=>[pA,pB]|10=>[pA]|11=>[pA,pB]|12=>[pA,pB]|13=>[pA]|_=>[]
def nmV:Nat->aC
 | 1=>.string { data:=#[97,108,108,111,99] }
 | 2=>.string { data:=#[102,105,110,97,108] }
 | 3=>.string { data:=#[119,101,97,107] }
 | 4=>.string { data:=#[103,101,116] }
 | 5=>.string { data:=#[112,117,116] }
 | 6=>.string { data:=#[114,101,97,100] }
 | 7=>.string { data:=#[119,114,105,116,101] }
 | 8=>.string { data:=#[102,114,101,101] }
 | 9=>.string { data:=#[108,111,97,100] }
 | 10=>.string { data:=#[116,97,107,101] }
 | 11=>.string { data:=#[115,97,109,101] }
 | 12=>.string { data:=#[109,111,118,101] }
 | 13=>.string { data:=#[110,105,108] }
 | 14=>.string { data:=#[97,98,111,114,116] }
 | _=>.string { data:=#[] }
theorem aa5(k:Nat)(h1:1<=k)(h2:k<=14):∃x,nmV k=.string x/\(x == { data:=#[] })=false:=by
 rcases(by omega:k=1\/k=2\/k=3\/k=4\/k=5\/k=6\/k=7\/k=8\/k=9\/k=10\/k=11\/k=12\/k=13\/k=14) with rfl|rfl|rfl|rfl|rfl|rfl|rfl|rfl|rfl|rfl|rfl|rfl|rfl|rfl
 all_goals exact⟨_,rfl,rfl⟩
def Iy(w:aj)(k:Nat)(e:Ending)(w':aj):Prop:=∃ (v:aC),e=.returned (.tuple #[nmV k,v])/\w'.ownsRow 0 143 3 v (parts k).length ((parts k).flatMap qB)/\Calm w w'
theorem bZ(f:Fn)(l:Array aC)(w:aj)(a:Addr):(store a (.func f #[] l)).run prog w=match w.cell? a with
 | some _ => if w.frozen? a then .halt (.unsupported (.unsafePointer "a write to bytes that a string shares")) w else .ok () (w.setCell a (.func f #[] l))
 | none=>match w.farStore prog a (.func f #[] l) (Mode.plain==.atomic) with
   | .ok (w',_)=>.ok () w'
   | .error h=>.halt h w:=run_store _ _ _ _ _ rfl
theorem cP{ety:TypeId}{k n:Nat}(w:aj)(cs:List aC)(h:cs.length=n*k)(hn:n<=1000):(w.alloc (.cells cs.toArray ety)).ownsRow 0 ety k (.slice (some ⟨w.heap.size,0,none⟩) n n) n cs:=
 ⟨h,.inr ⟨w.heap.size,n,cs.toArray,rfl,cK _,World.alloc_heap_new w _,aM _,by unfold maxLen;omega,by simpa using h,by simp[<-h]⟩⟩
theorem ag.nth(w:aj)(vs:List aC)(ty:TypeId)(b:Nat)(h:w.heap.size=b):ag (w.alloc (.cells vs.toArray ty)) b vs:=by
 subst h;exact ag.new w vs ty
theorem Nj(w:aj)(k:Nat)(h1:1<=k)(h2:k<=14):aL prog 57 #[vI k] w (Iy w k):=by
 have cy:=bZ;obtain⟨W0,gS⟩:=au (((((((w.alloc (.cells #[EC 0,vI 0,vI 5] 143)).alloc (.cells #[EC 1,vI 0,vI 5] 143)).alloc (.cells #[EC 2,vI 0,vI 7] 143)).alloc (.cells #[EC 2,vI 0,vI 4] 143)).alloc (.cells #[EC 3,vI 0,vI 4] 143)).alloc (.cells #[EC 3,vI (-1000000),vI 1000000] 143)));have k0:Calm w W0:=by rw[<-gS];exact(((((aq.alloc _).alloc _).alloc _).alloc _).alloc _).alloc _
 have a0:ag W0 w.heap.size (qB pA):=by rw[<-gS];exact(((((ag.nth w (qB pA) _ _ rfl).alloc _).alloc _).alloc _).alloc _).alloc _
 have a1:ag W0 (w.heap.size+1) (qB pB):=by rw[<-gS];exact((((ag.nth (w.alloc _) (qB pB) _ _ (by simp)).alloc _).alloc _).alloc _).alloc _
 have a2:ag W0 (w.heap.size+1+1) (qB pI):=by rw[<-gS];exact(((ag.nth ((w.alloc _).alloc _) (qB pI) _ _ (by simp)).alloc _).alloc _).alloc _
 have a3:ag W0 (w.heap.size+1+1+1) (qB pJ):=by rw[<-gS];exact((ag.nth (((w.alloc _).alloc _).alloc _) (qB pJ) _ _ (by simp)).alloc _).alloc _
 have a4:ag W0 (w.heap.size+1+1+1+1) (qB pN):=by rw[<-gS];exact(ag.nth ((((w.alloc _).alloc _).alloc _).alloc _) (qB pN) _ _ (by simp)).alloc _
 have a5:ag W0 (w.heap.size+1+1+1+1+1) (qB pM):=by rw[<-gS];exact ag.nth (((((w.alloc _).alloc _).alloc _).alloc _).alloc _) (qB pM) _ _ (by simp)
 simp only[EC] at gS;simp only[qB,EC] at a0 a1 a2 a3 a4 a5;have rW:=af (a0 0 _ rfl).1;have qk:=af (a0 1 _ rfl).1;have ql:=af (a0 2 _ rfl).1;have zv:=af (a1 0 _ rfl).1;have uQ:=af (a1 1 _ rfl).1;have q_:=af (a1 2 _ rfl).1;have wg:=af (a2 0 _ rfl).1;have xG:=af (a2 1 _ rfl).1;have BU:=af (a2 2 _ rfl).1;have DU:=af (a3 0 _ rfl).1;have DV:=af (a3 1 _ rfl).1;have DW:=af (a3 2 _ rfl).1;have DX:=af (a4 0 _ rfl).1;have DY:=af (a4 1 _ rfl).1;have DZ:=af (a4 2 _ rfl).1;have tG:=af (a5 0 _ rfl).1;have Fm:=af (a5 1 _ rfl).1;have Fo:=af (a5 2 _ rfl).1;clear a0 a1 a2 a3 a4 a5;rcases(by omega:k=1\/k=2\/k=3\/k=4\/k=5\/k=6\/k=7\/k=8\/k=9\/k=10\/k=11\/k=12\/k=13\/k=14) with rfl|rfl|rfl|rfl|rfl|rfl|rfl|rfl|rfl|rfl|rfl|rfl|rfl|rfl
 ·go_in;go_wp2_with fail
  clear gS cy;have Ik:=rW.out;have Il:=qk.out;have Im:=ql.out;have r30:=DU.out;have r31:=DV.out;have r32:=DW.out;have r40:=DX.out;have r41:=DY.out;have r42:=DZ.out;clear rW qk ql zv uQ q_ wg xG BU DU DV DW DX DY DZ tG Fm Fo
  go_region_held3 (λw'=>w'.cell? ⟨w.heap.size,0,none⟩=some (Value.func (.func 104) #[] #[])/\w'.cell? ⟨w.heap.size,1,none⟩=some (vI 0)/\w'.cell? ⟨w.heap.size,2,none⟩=some (vI 5)/\w'.cell? ⟨w.heap.size+1+1+1,0,none⟩=some (Value.func (.func 106) #[] #[])/\w'.cell? ⟨w.heap.size+1+1+1,1,none⟩=some (vI 0)/\w'.cell? ⟨w.heap.size+1+1+1,2,none⟩=some (vI 4)/\w'.cell? ⟨w.heap.size+1+1+1+1,0,none⟩=some (Value.func (.func 107) #[] #[])/\w'.cell? ⟨w.heap.size+1+1+1+1,1,none⟩=some (vI 0)/\w'.cell? ⟨w.heap.size+1+1+1+1,2,none⟩=some (vI 4)) (go_keep) (fail)
  rename_i hHeld;clear hHeld;go_wp2
  go_ret2
  exact⟨_,rfl,(cP W0 ((parts 1).flatMap qB) rfl (by decide)).drew,(k0.alloc _).drew⟩
 ·go_in;go_wp2_with fail
  clear gS cy;have Ik:=rW.out;have Il:=qk.out;have Im:=ql.out;have r30:=DU.out;have r31:=DV.out;have r32:=DW.out;have r40:=DX.out;have r41:=DY.out;have r42:=DZ.out;clear rW qk ql zv uQ q_ wg xG BU DU DV DW DX DY DZ tG Fm Fo
  go_region_held3 (λw'=>w'.cell? ⟨w.heap.size,0,none⟩=some (Value.func (.func 104) #[] #[])/\w'.cell? ⟨w.heap.size,1,none⟩=some (vI 0)/\w'.cell? ⟨w.heap.size,2,none⟩=some (vI 5)/\w'.cell? ⟨w.heap.size+1+1+1,0,none⟩=some (Value.func (.func 106) #[] #[])/\w'.cell? ⟨w.heap.size+1+1+1,1,none⟩=some (vI 0)/\w'.cell? ⟨w.heap.size+1+1+1,2,none⟩=some (vI 4)/\w'.cell? ⟨w.heap.size+1+1+1+1,0,none⟩=some (Value.func (.func 107) #[] #[])/\w'.cell? ⟨w.heap.size+1+1+1+1,1,none⟩=some (vI 0)/\w'.cell? ⟨w.heap.size+1+1+1+1,2,none⟩=some (vI 4)) (go_keep) (fail)
  rename_i hHeld;clear hHeld;go_wp2
  go_ret2
  exact⟨_,rfl,(cP W0 ((parts 2).flatMap qB) rfl (by decide)).drew,(k0.alloc _).drew⟩
 ·go_in;go_wp2_with fail
  clear gS cy;have Ik:=rW.out;have Il:=qk.out;have Im:=ql.out;have Mv:=zv.out;have Mw:=uQ.out;have Yl:=q_.out;clear rW qk ql zv uQ q_ wg xG BU DU DV DW DX DY DZ tG Fm Fo
  go_region_held3 (λw'=>w'.cell? ⟨w.heap.size,0,none⟩=some (Value.func (.func 104) #[] #[])/\w'.cell? ⟨w.heap.size,1,none⟩=some (vI 0)/\w'.cell? ⟨w.heap.size,2,none⟩=some (vI 5)/\w'.cell? ⟨w.heap.size+1,0,none⟩=some (Value.func (.func 105) #[] #[])/\w'.cell? ⟨w.heap.size+1,1,none⟩=some (vI 0)/\w'.cell? ⟨w.heap.size+1,2,none⟩=some (vI 5)) (go_keep) (fail)
  rename_i hHeld;clear hHeld;go_wp2
  go_ret2
  exact⟨_,rfl,(cP W0 ((parts 3).flatMap qB) rfl (by decide)).drew,(k0.alloc _).drew⟩
 ·go_in;go_wp2_with fail
  clear gS cy;have Ik:=rW.out;have Il:=qk.out;have Im:=ql.out;have Mv:=zv.out;have Mw:=uQ.out;have Yl:=q_.out;have UT:=wg.out;have ZM:=xG.out;have r22:=BU.out;clear rW qk ql zv uQ q_ wg xG BU DU DV DW DX DY DZ tG Fm Fo
  go_region_held3 (λw'=>w'.cell? ⟨w.heap.size,0,none⟩=some (Value.func (.func 104) #[] #[])/\w'.cell? ⟨w.heap.size,1,none⟩=some (vI 0)/\w'.cell? ⟨w.heap.size,2,none⟩=some (vI 5)/\w'.cell? ⟨w.heap.size+1,0,none⟩=some (Value.func (.func 105) #[] #[])/\w'.cell? ⟨w.heap.size+1,1,none⟩=some (vI 0)/\w'.cell? ⟨w.heap.size+1,2,none⟩=some (vI 5)/\w'.cell? ⟨w.heap.size+1+1,0,none⟩=some (Value.func (.func 106) #[] #[])/\w'.cell? ⟨w.heap.size+1+1,1,none⟩=some (vI 0)/\w'.cell? ⟨w.heap.size+1+1,2,none⟩=some (vI 7)) (go_keep) (fail)
  rename_i hHeld;clear hHeld;go_wp2
  go_ret2
  exact⟨_,rfl,(cP W0 ((parts 4).flatMap qB) rfl (by decide)).drew,(k0.alloc _).drew⟩
 ·go_in;go_wp2_with fail
  clear gS cy;have Ik:=rW.out;have Il:=qk.out;have Im:=ql.out;have UT:=wg.out;have ZM:=xG.out;have r22:=BU.out;have Mv:=zv.out;have Mw:=uQ.out;have Yl:=q_.out;clear rW qk ql zv uQ q_ wg xG BU DU DV DW DX DY DZ tG Fm Fo
  go_region_held3 (λw'=>w'.cell? ⟨w.heap.size,0,none⟩=some (Value.func (.func 104) #[] #[])/\w'.cell? ⟨w.heap.size,1,none⟩=some (vI 0)/\w'.cell? ⟨w.heap.size,2,none⟩=some (vI 5)/\w'.cell? ⟨w.heap.size+1+1,0,none⟩=some (Value.func (.func 106) #[] #[])/\w'.cell? ⟨w.heap.size+1+1,1,none⟩=some (vI 0)/\w'.cell? ⟨w.heap.size+1+1,2,none⟩=some (vI 7)/\w'.cell? ⟨w.heap.size+1,0,none⟩=some (Value.func (.func 105) #[] #[])/\w'.cell? ⟨w.heap.size+1,1,none⟩=some (vI 0)/\w'.cell? ⟨w.heap.size+1,2,none⟩=some (vI 5)) (go_keep) (fail)
  rename_i hHeld;clear hHeld;go_wp2
  go_ret2
  exact⟨_,rfl,(cP W0 ((parts 5).flatMap qB) rfl (by decide)).drew,(k0.alloc _).drew⟩
 ·go_in;go_wp2_with fail
  clear gS cy;have Ik:=rW.out;have Il:=qk.out;have Im:=ql.out;have UT:=wg.out;have ZM:=xG.out;have r22:=BU.out;clear rW qk ql zv uQ q_ wg xG BU DU DV DW DX DY DZ tG Fm Fo
  go_region_held3 (λw'=>w'.cell? ⟨w.heap.size,0,none⟩=some (Value.func (.func 104) #[] #[])/\w'.cell? ⟨w.heap.size,1,none⟩=some (vI 0)/\w'.cell? ⟨w.heap.size,2,none⟩=some (vI 5)/\w'.cell? ⟨w.heap.size+1+1,0,none⟩=some (Value.func (.func 106) #[] #[])/\w'.cell? ⟨w.heap.size+1+1,1,none⟩=some (vI 0)/\w'.cell? ⟨w.heap.size+1+1,2,none⟩=some (vI 7)) (go_keep) (fail)
  rename_i hHeld;clear hHeld;go_wp2
  go_ret2
  exact⟨_,rfl,(cP W0 ((parts 6).flatMap qB) rfl (by decide)).drew,(k0.alloc _).drew⟩
 ·go_in;go_wp2_with fail
  clear gS cy;have Ik:=rW.out;have Il:=qk.out;have Im:=ql.out;have UT:=wg.out;have ZM:=xG.out;have r22:=BU.out;have r50:=tG.out;have r51:=Fm.out;have r52:=Fo.out;clear rW qk ql zv uQ q_ wg xG BU DU DV DW DX DY DZ tG Fm Fo
  go_region_held3 (λw'=>w'.cell? ⟨w.heap.size,0,none⟩=some (Value.func (.func 104) #[] #[])/\w'.cell? ⟨w.heap.size,1,none⟩=some (vI 0)/\w'.cell? ⟨w.heap.size,2,none⟩=some (vI 5)/\w'.cell? ⟨w.heap.size+1+1,0,none⟩=some (Value.func (.func 106) #[] #[])/\w'.cell? ⟨w.heap.size+1+1,1,none⟩=some (vI 0)/\w'.cell? ⟨w.heap.size+1+1,2,none⟩=some (vI 7)/\w'.cell? ⟨w.heap.size+1+1+1+1+1,0,none⟩=some (Value.func (.func 107) #[] #[])/\w'.cell? ⟨w.heap.size+1+1+1+1+1,1,none⟩=some (vI (-1000000))/\w'.cell? ⟨w.heap.size+1+1+1+1+1,2,none⟩=some (vI 1000000)) (go_keep) (fail)
  rename_i hHeld;clear hHeld;go_wp2
  go_ret2
  exact⟨_,rfl,(cP W0 ((parts 7).flatMap qB) rfl (by decide)).drew,(k0.alloc _).drew⟩
 ·go_in;go_wp2_with fail
  clear gS cy;have Ik:=rW.out;have Il:=qk.out;have Im:=ql.out;clear rW qk ql zv uQ q_ wg xG BU DU DV DW DX DY DZ tG Fm Fo
  go_region_held3 (λw'=>w'.cell? ⟨w.heap.size,0,none⟩=some (Value.func (.func 104) #[] #[])/\w'.cell? ⟨w.heap.size,1,none⟩=some (vI 0)/\w'.cell? ⟨w.heap.size,2,none⟩=some (vI 5)) (go_keep) (fail)
  rename_i hHeld;clear hHeld;go_wp2
  go_ret2
  exact⟨_,rfl,(cP W0 ((parts 8).flatMap qB) rfl (by decide)).drew,(k0.alloc _).drew⟩
 ·go_in;go_wp2_with fail
  clear gS cy;have Ik:=rW.out;have Il:=qk.out;have Im:=ql.out;have Mv:=zv.out;have Mw:=uQ.out;have Yl:=q_.out;clear rW qk ql zv uQ q_ wg xG BU DU DV DW DX DY DZ tG Fm Fo
  go_region_held3 (λw'=>w'.cell? ⟨w.heap.size,0,none⟩=some (Value.func (.func 104) #[] #[])/\w'.cell? ⟨w.heap.size,1,none⟩=some (vI 0)/\w'.cell? ⟨w.heap.size,2,none⟩=some (vI 5)/\w'.cell? ⟨w.heap.size+1,0,none⟩=some (Value.func (.func 105) #[] #[])/\w'.cell? ⟨w.heap.size+1,1,none⟩=some (vI 0)/\w'.cell? ⟨w.heap.size+1,2,none⟩=some (vI 5)) (go_keep) (fail)
  rename_i hHeld;clear hHeld;go_wp2
  go_ret2
  exact⟨_,rfl,(cP W0 ((parts 9).flatMap qB) rfl (by decide)).drew,(k0.alloc _).drew⟩
 ·go_in;go_wp2_with fail
  clear gS cy;have Ik:=rW.out;have Il:=qk.out;have Im:=ql.out;clear rW qk ql zv uQ q_ wg xG BU DU DV DW DX DY DZ tG Fm Fo
  go_region_held3 (λw'=>w'.cell? ⟨w.heap.size,0,none⟩=some (Value.func (.func 104) #[] #[])/\w'.cell? ⟨w.heap.size,1,none⟩=some (vI 0)/\w'.cell? ⟨w.heap.size,2,none⟩=some (vI 5)) (go_keep) (fail)
  rename_i hHeld;clear hHeld;go_wp2
  go_ret2
  exact⟨_,rfl,(cP W0 ((parts 10).flatMap qB) rfl (by decide)).drew,(k0.alloc _).drew⟩
 ·go_in;go_wp2_with fail
  clear gS cy;have Ik:=rW.out;have Il:=qk.out;have Im:=ql.out;have Mv:=zv.out;have Mw:=uQ.out;have Yl:=q_.out;clear rW qk ql zv uQ q_ wg xG BU DU DV DW DX DY DZ tG Fm Fo
  go_region_held3 (λw'=>w'.cell? ⟨w.heap.size,0,none⟩=some (Value.func (.func 104) #[] #[])/\w'.cell? ⟨w.heap.size,1,none⟩=some (vI 0)/\w'.cell? ⟨w.heap.size,2,none⟩=some (vI 5)/\w'.cell? ⟨w.heap.size+1,0,none⟩=some (Value.func (.func 105) #[] #[])/\w'.cell? ⟨w.heap.size+1,1,none⟩=some (vI 0)/\w'.cell? ⟨w.heap.size+1,2,none⟩=some (vI 5)) (go_keep) (fail)
  rename_i hHeld;clear hHeld;go_wp2
  go_ret2
  exact⟨_,rfl,(cP W0 ((parts 11).flatMap qB) rfl (by decide)).drew,(k0.alloc _).drew⟩
 ·go_in;go_wp2_with fail
  clear gS cy;have Ik:=rW.out;have Il:=qk.out;have Im:=ql.out;have Mv:=zv.out;have Mw:=uQ.out;have Yl:=q_.out;clear rW qk ql zv uQ q_ wg xG BU DU DV DW DX DY DZ tG Fm Fo
  go_region_held3 (λw'=>w'.cell? ⟨w.heap.size,0,none⟩=some (Value.func (.func 104) #[] #[])/\w'.cell? ⟨w.heap.size,1,none⟩=some (vI 0)/\w'.cell? ⟨w.heap.size,2,none⟩=some (vI 5)/\w'.cell? ⟨w.heap.size+1,0,none⟩=some (Value.func (.func 105) #[] #[])/\w'.cell? ⟨w.heap.size+1,1,none⟩=some (vI 0)/\w'.cell? ⟨w.heap.size+1,2,none⟩=some (vI 5)) (go_keep) (fail)
  rename_i hHeld;clear hHeld;go_wp2
  go_ret2
  exact⟨_,rfl,(cP W0 ((parts 12).flatMap qB) rfl (by decide)).drew,(k0.alloc _).drew⟩
 ·go_in;go_wp2_with fail
  clear gS cy;have Ik:=rW.out;have Il:=qk.out;have Im:=ql.out;clear rW qk ql zv uQ q_ wg xG BU DU DV DW DX DY DZ tG Fm Fo
  go_region_held3 (λw'=>w'.cell? ⟨w.heap.size,0,none⟩=some (Value.func (.func 104) #[] #[])/\w'.cell? ⟨w.heap.size,1,none⟩=some (vI 0)/\w'.cell? ⟨w.heap.size,2,none⟩=some (vI 5)) (go_keep) (fail)
  rename_i hHeld;clear hHeld;go_wp2
  go_ret2
  exact⟨_,rfl,(cP W0 ((parts 13).flatMap qB) rfl (by decide)).drew,(k0.alloc _).drew⟩
 ·go_in;go_wp2_with fail
  skip
  go_ret2
  exact⟨_,rfl,⟨rfl,.inl ⟨rfl,rfl⟩⟩,k0⟩
