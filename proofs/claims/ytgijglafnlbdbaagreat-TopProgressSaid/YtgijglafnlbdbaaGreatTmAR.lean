import Derived.Test.YtgijglafnlbdbaaGreatTmAJ
import Derived.Test.YtgijglafnlbdbaaGreatTmAN
set_option linter.all false
set_option maxHeartbeats 8000000
set_option maxRecDepth 8000
namespace Go.Proofs.YtgijglafnlbdbaaGreat
open RowKit Shelf Proofs.Tryz
open Go renaming World->ag,Value->aA,Calls->aJ
structure Pt where
 f:Nat
 lo:Int
 hi:Int
def FT:Nat->aA
 | 0=>.func (.func 104) #[] #[]
 | 1=>.func (.func 105) #[] #[]
 | 2=>.func (.func 106) #[] #[]
 | _=>.func (.func 107) #[] #[]
def qJ(p:Pt):List aA:=[FT p.f,vI p.lo,vI p.hi]
theorem Qy(p:Pt):(qJ p).length=3:=rfl
abbrev pA:Pt:=⟨0,0,5⟩
abbrev pB:Pt:=⟨1,0,5⟩
abbrev pI:Pt:=⟨2,0,7⟩
abbrev pJ:Pt:=⟨2,0,4⟩
abbrev pN:Pt:=⟨3,0,4⟩
abbrev pM:Pt:=⟨3,-1000000,1000000⟩
def parts:Nat->List Pt
 | 1=>[pA,pJ,pN]|2=>[pA,pJ,pN]|3=>[pA,pB]|4=>[pA,pB,pI]|5=>[pA,pI,pB]|6=>[pA,pI]|7=>[pA,pI,pM]
 | 8=>[pA]|9=>[pA,pB]|10=>[pA]|11=>[pA,pB]|12=>[pA,pB]|13=>[pA]|_=>[]
def nmV:Nat->aA
 | 1=>.string { data:=#[97,108,108,111,99] }
 | 2=>.string { data:=#[102,105,110,97,108] }
 | 3=>.string { data:=#[119,101,97,107] }
 | 4=>.string { data:=#[103,101,116] }
 | 5=>.string { data:=#[112,117,116] }
 | 6=>.string { data:=#[114,101,97,100] }
 | 7=>.string { data:=#[119,114,105,116,101] }
 | 8=>.string { data:=#[102,114,101,101] }
 | 9=>.string { data:=#[108,111,97,100] }
 | 10=>.string { data:=#[116,97,107,101] }
 | 11=>.string { data:=#[115,97,109,101] }
 | 12=>.string { data:=#[109,111,118,101] }
 | 13=>.string { data:=#[110,105,108] }
 | 14=>.string { data:=#[97,98,111,114,116] }
 | _=>.string { data:=#[] }
theorem acd(k:Nat)(h1:1<=k)(h2:k<=14):∃x,nmV k=.string x/\(x == { data:=#[] })=false:=by
 rcases(by omega:k=1\/k=2\/k=3\/k=4\/k=5\/k=6\/k=7\/k=8\/k=9\/k=10\/k=11\/k=12\/k=13\/k=14) with rfl|rfl|rfl|rfl|rfl|rfl|rfl|rfl|rfl|rfl|rfl|rfl|rfl|rfl
 all_goals exact⟨_,rfl,rfl⟩
def JJ(w:ag)(k:Nat)(e:Ending)(w':ag):Prop:=∃ (v:aA),e=.returned (.tuple #[nmV k,v])/\w'.ownsRow 0 143 3 v (parts k).length ((parts k).flatMap qJ)/\Calm w w'
theorem cF(f:Fn)(l:Array aA)(w:ag)(a:Addr):(store a (.func f #[] l)).run prog w=match w.cell? a with
 | some _ => if w.frozen? a then .halt (.unsupported (.unsafePointer "a write to bytes that a string shares")) w else .ok () (w.setCell a (.func f #[] l))
 | none=>match w.farStore prog a (.func f #[] l) (Mode.plain==.atomic) with
   | .ok (w',_)=>.ok () w'
   | .error h=>.halt h w:=run_store _ _ _ _ _ rfl
theorem cY{ety:TypeId}{k n:Nat}(w:ag)(cs:List aA)(h:cs.length=n*k)(hn:n<=1000):(w.alloc (.cells cs.toArray ety)).ownsRow 0 ety k (.slice (some ⟨w.heap.size,0,none⟩) n n) n cs:=
 ⟨h,.inr ⟨w.heap.size,n,cs.toArray,rfl,bY _,World.alloc_heap_new w _,aD _,by unfold maxLen;omega,by simpa using h,by simp[<-h]⟩⟩
theorem af.nth(w:ag)(vs:List aA)(ty:TypeId)(b:Nat)(h:w.heap.size=b):af (w.alloc (.cells vs.toArray ty)) b vs:=by
 subst h;exact af.new w vs ty
theorem Pb(w:ag)(k:Nat)(h1:1<=k)(h2:k<=14):aJ prog 57 #[vI k] w (JJ w k):=by
 have cM:=cF;obtain⟨W0,gF⟩:=ao (((((((w.alloc (.cells #[FT 0,vI 0,vI 5] 143)).alloc (.cells #[FT 1,vI 0,vI 5] 143)).alloc (.cells #[FT 2,vI 0,vI 7] 143)).alloc (.cells #[FT 2,vI 0,vI 4] 143)).alloc (.cells #[FT 3,vI 0,vI 4] 143)).alloc (.cells #[FT 3,vI (-1000000),vI 1000000] 143)));have k0:Calm w W0:=by rw[<-gF];exact(((((ah.alloc _).alloc _).alloc _).alloc _).alloc _).alloc _
 have a0:af W0 w.heap.size (qJ pA):=by rw[<-gF];exact(((((af.nth w (qJ pA) _ _ rfl).alloc _).alloc _).alloc _).alloc _).alloc _
 have a1:af W0 (w.heap.size+1) (qJ pB):=by rw[<-gF];exact((((af.nth (w.alloc _) (qJ pB) _ _ (by simp)).alloc _).alloc _).alloc _).alloc _
 have a2:af W0 (w.heap.size+1+1) (qJ pI):=by rw[<-gF];exact(((af.nth ((w.alloc _).alloc _) (qJ pI) _ _ (by simp)).alloc _).alloc _).alloc _
 have a3:af W0 (w.heap.size+1+1+1) (qJ pJ):=by rw[<-gF];exact((af.nth (((w.alloc _).alloc _).alloc _) (qJ pJ) _ _ (by simp)).alloc _).alloc _
 have a4:af W0 (w.heap.size+1+1+1+1) (qJ pN):=by rw[<-gF];exact(af.nth ((((w.alloc _).alloc _).alloc _).alloc _) (qJ pN) _ _ (by simp)).alloc _
 have a5:af W0 (w.heap.size+1+1+1+1+1) (qJ pM):=by rw[<-gF];exact af.nth (((((w.alloc _).alloc _).alloc _).alloc _).alloc _) (qJ pM) _ _ (by simp)
 simp only[FT] at gF;simp only[qJ,FT] at a0 a1 a2 a3 a4 a5;have sw:=hid (a0 0 _ rfl).1;have qt:=hid (a0 1 _ rfl).1;have qw:=hid (a0 2 _ rfl).1;have zZ:=hid (a1 0 _ rfl).1;have rI:=hid (a1 1 _ rfl).1;have qK:=hid (a1 2 _ rfl).1;have xo:=hid (a2 0 _ rfl).1;have yz:=hid (a2 1 _ rfl).1;have CU:=hid (a2 2 _ rfl).1;have Fa:=hid (a3 0 _ rfl).1;have Fb:=hid (a3 1 _ rfl).1;have Fc:=hid (a3 2 _ rfl).1;have Fe:=hid (a4 0 _ rfl).1;have Ff:=hid (a4 1 _ rfl).1;have Fg:=hid (a4 2 _ rfl).1;have tH:=hid (a5 0 _ rfl).1;have Gw:=hid (a5 1 _ rfl).1;have Gx:=hid (a5 2 _ rfl).1;clear a0 a1 a2 a3 a4 a5;rcases(by omega:k=1\/k=2\/k=3\/k=4\/k=5\/k=6\/k=7\/k=8\/k=9\/k=10\/k=11\/k=12\/k=13\/k=14) with rfl|rfl|rfl|rfl|rfl|rfl|rfl|rfl|rfl|rfl|rfl|rfl|rfl|rfl
 ·go_in;go_wp2_with fail
  clear gF cM;have Jy:=sw.out;have Jz:=qt.out;have JA:=qw.out;have r30:=Fa.out;have r31:=Fb.out;have r32:=Fc.out;have r40:=Fe.out;have r41:=Ff.out;have r42:=Fg.out;clear sw qt qw zZ rI qK xo yz CU Fa Fb Fc Fe Ff Fg tH Gw Gx
  go_region_held3 (λw'=>w'.cell? ⟨w.heap.size,0,none⟩=some (Value.func (.func 104) #[] #[])/\w'.cell? ⟨w.heap.size,1,none⟩=some (vI 0)/\w'.cell? ⟨w.heap.size,2,none⟩=some (vI 5)/\w'.cell? ⟨w.heap.size+1+1+1,0,none⟩=some (Value.func (.func 106) #[] #[])/\w'.cell? ⟨w.heap.size+1+1+1,1,none⟩=some (vI 0)/\w'.cell? ⟨w.heap.size+1+1+1,2,none⟩=some (vI 4)/\w'.cell? ⟨w.heap.size+1+1+1+1,0,none⟩=some (Value.func (.func 107) #[] #[])/\w'.cell? ⟨w.heap.size+1+1+1+1,1,none⟩=some (vI 0)/\w'.cell? ⟨w.heap.size+1+1+1+1,2,none⟩=some (vI 4)) (go_keep) (fail)
  rename_i hHeld;clear hHeld;go_wp2
  go_ret2
  exact⟨_,rfl,(cY W0 ((parts 1).flatMap qJ) rfl (by decide)).drew,(k0.alloc _).drew⟩
 ·go_in;go_wp2_with fail
  clear gF cM;have Jy:=sw.out;have Jz:=qt.out;have JA:=qw.out;have r30:=Fa.out;have r31:=Fb.out;have r32:=Fc.out;have r40:=Fe.out;have r41:=Ff.out;have r42:=Fg.out;clear sw qt qw zZ rI qK xo yz CU Fa Fb Fc Fe Ff Fg tH Gw Gx
  go_region_held3 (λw'=>w'.cell? ⟨w.heap.size,0,none⟩=some (Value.func (.func 104) #[] #[])/\w'.cell? ⟨w.heap.size,1,none⟩=some (vI 0)/\w'.cell? ⟨w.heap.size,2,none⟩=some (vI 5)/\w'.cell? ⟨w.heap.size+1+1+1,0,none⟩=some (Value.func (.func 106) #[] #[])/\w'.cell? ⟨w.heap.size+1+1+1,1,none⟩=some (vI 0)/\w'.cell? ⟨w.heap.size+1+1+1,2,none⟩=some (vI 4)/\w'.cell? ⟨w.heap.size+1+1+1+1,0,none⟩=some (Value.func (.func 107) #[] #[])/\w'.cell? ⟨w.heap.size+1+1+1+1,1,none⟩=some (vI 0)/\w'.cell? ⟨w.heap.size+1+1+1+1,2,none⟩=some (vI 4)) (go_keep) (fail)
  rename_i hHeld;clear hHeld;go_wp2
  go_ret2
  exact⟨_,rfl,(cY W0 ((parts 2).flatMap qJ) rfl (by decide)).drew,(k0.alloc _).drew⟩
 ·go_in;go_wp2_with fail
  clear gF cM;have Jy:=sw.out;have Jz:=qt.out;have JA:=qw.out;have r10:=zZ.out;have r11:=rI.out;have r12:=qK.out;clear sw qt qw zZ rI qK xo yz CU Fa Fb Fc Fe Ff Fg tH Gw Gx
  go_region_held3 (λw'=>w'.cell? ⟨w.heap.size,0,none⟩=some (Value.func (.func 104) #[] #[])/\w'.cell? ⟨w.heap.size,1,none⟩=some (vI 0)/\w'.cell? ⟨w.heap.size,2,none⟩=some (vI 5)/\w'.cell? ⟨w.heap.size+1,0,none⟩=some (Value.func (.func 105) #[] #[])/\w'.cell? ⟨w.heap.size+1,1,none⟩=some (vI 0)/\w'.cell? ⟨w.heap.size+1,2,none⟩=some (vI 5)) (go_keep) (fail)
  rename_i hHeld;clear hHeld;go_wp2
  go_ret2
  exact⟨_,rfl,(cY W0 ((parts 3).flatMap qJ) rfl (by decide)).drew,(k0.alloc _).drew⟩
 ·go_in;go_wp2_with fail
  clear gF cM;have Jy:=sw.out;have Jz:=qt.out;have JA:=qw.out;have r10:=zZ.out;have r11:=rI.out;have r12:=qK.out;have Xy:=xo.out;have r21:=yz.out;have r22:=CU.out;clear sw qt qw zZ rI qK xo yz CU Fa Fb Fc Fe Ff Fg tH Gw Gx
  go_region_held3 (λw'=>w'.cell? ⟨w.heap.size,0,none⟩=some (Value.func (.func 104) #[] #[])/\w'.cell? ⟨w.heap.size,1,none⟩=some (vI 0)/\w'.cell? ⟨w.heap.size,2,none⟩=some (vI 5)/\w'.cell? ⟨w.heap.size+1,0,none⟩=some (Value.func (.func 105) #[] #[])/\w'.cell? ⟨w.heap.size+1,1,none⟩=some (vI 0)/\w'.cell? ⟨w.heap.size+1,2,none⟩=some (vI 5)/\w'.cell? ⟨w.heap.size+1+1,0,none⟩=some (Value.func (.func 106) #[] #[])/\w'.cell? ⟨w.heap.size+1+1,1,none⟩=some (vI 0)/\w'.cell? ⟨w.heap.size+1+1,2,none⟩=some (vI 7)) (go_keep) (fail)
  rename_i hHeld;clear hHeld;go_wp2
  go_ret2
  exact⟨_,rfl,(cY W0 ((parts 4).flatMap qJ) rfl (by decide)).drew,(k0.alloc _).drew⟩
 ·go_in;go_wp2_with fail
  clear gF cM;have Jy:=sw.out;have Jz:=qt.out;have JA:=qw.out;have Xy:=xo.out;have r21:=yz.out;have r22:=CU.out;have r10:=zZ.out;have r11:=rI.out;have r12:=qK.out;clear sw qt qw zZ rI qK xo yz CU Fa Fb Fc Fe Ff Fg tH Gw Gx
  go_region_held3 (λw'=>w'.cell? ⟨w.heap.size,0,none⟩=some (Value.func (.func 104) #[] #[])/\w'.cell? ⟨w.heap.size,1,none⟩=some (vI 0)/\w'.cell? ⟨w.heap.size,2,none⟩=some (vI 5)/\w'.cell? ⟨w.heap.size+1+1,0,none⟩=some (Value.func (.func 106) #[] #[])/\w'.cell? ⟨w.heap.size+1+1,1,none⟩=some (vI 0)/\w'.cell? ⟨w.heap.size+1+1,2,none⟩=some (vI 7)/\w'.cell? ⟨w.heap.size+1,0,none⟩=some (Value.func (.func 105) #[] #[])/\w'.cell? ⟨w.heap.size+1,1,none⟩=some (vI 0)/\w'.cell? ⟨w.heap.size+1,2,none⟩=some (vI 5)) (go_keep) (fail)
  rename_i hHeld;clear hHeld;go_wp2
  go_ret2
  exact⟨_,rfl,(cY W0 ((parts 5).flatMap qJ) rfl (by decide)).drew,(k0.alloc _).drew⟩
 ·go_in;go_wp2_with fail
  clear gF cM;have Jy:=sw.out;have Jz:=qt.out;have JA:=qw.out;have Xy:=xo.out;have r21:=yz.out;have r22:=CU.out;clear sw qt qw zZ rI qK xo yz CU Fa Fb Fc Fe Ff Fg tH Gw Gx
  go_region_held3 (λw'=>w'.cell? ⟨w.heap.size,0,none⟩=some (Value.func (.func 104) #[] #[])/\w'.cell? ⟨w.heap.size,1,none⟩=some (vI 0)/\w'.cell? ⟨w.heap.size,2,none⟩=some (vI 5)/\w'.cell? ⟨w.heap.size+1+1,0,none⟩=some (Value.func (.func 106) #[] #[])/\w'.cell? ⟨w.heap.size+1+1,1,none⟩=some (vI 0)/\w'.cell? ⟨w.heap.size+1+1,2,none⟩=some (vI 7)) (go_keep) (fail)
  rename_i hHeld;clear hHeld;go_wp2
  go_ret2
  exact⟨_,rfl,(cY W0 ((parts 6).flatMap qJ) rfl (by decide)).drew,(k0.alloc _).drew⟩
 ·go_in;go_wp2_with fail
  clear gF cM;have Jy:=sw.out;have Jz:=qt.out;have JA:=qw.out;have Xy:=xo.out;have r21:=yz.out;have r22:=CU.out;have r50:=tH.out;have r51:=Gw.out;have r52:=Gx.out;clear sw qt qw zZ rI qK xo yz CU Fa Fb Fc Fe Ff Fg tH Gw Gx
  go_region_held3 (λw'=>w'.cell? ⟨w.heap.size,0,none⟩=some (Value.func (.func 104) #[] #[])/\w'.cell? ⟨w.heap.size,1,none⟩=some (vI 0)/\w'.cell? ⟨w.heap.size,2,none⟩=some (vI 5)/\w'.cell? ⟨w.heap.size+1+1,0,none⟩=some (Value.func (.func 106) #[] #[])/\w'.cell? ⟨w.heap.size+1+1,1,none⟩=some (vI 0)/\w'.cell? ⟨w.heap.size+1+1,2,none⟩=some (vI 7)/\w'.cell? ⟨w.heap.size+1+1+1+1+1,0,none⟩=some (Value.func (.func 107) #[] #[])/\w'.cell? ⟨w.heap.size+1+1+1+1+1,1,none⟩=some (vI (-1000000))/\w'.cell? ⟨w.heap.size+1+1+1+1+1,2,none⟩=some (vI 1000000)) (go_keep) (fail)
  rename_i hHeld;clear hHeld;go_wp2
  go_ret2
  exact⟨_,rfl,(cY W0 ((parts 7).flatMap qJ) rfl (by decide)).drew,(k0.alloc _).drew⟩
 ·go_in;go_wp2_with fail
  clear gF cM;have Jy:=sw.out;have Jz:=qt.out;have JA:=qw.out;clear sw qt qw zZ rI qK xo yz CU Fa Fb Fc Fe Ff Fg tH Gw Gx
  go_region_held3 (λw'=>w'.cell? ⟨w.heap.size,0,none⟩=some (Value.func (.func 104) #[] #[])/\w'.cell? ⟨w.heap.size,1,none⟩=some (vI 0)/\w'.cell? ⟨w.heap.size,2,none⟩=some (vI 5)) (go_keep) (fail)
  rename_i hHeld;clear hHeld;go_wp2
  go_ret2
  exact⟨_,rfl,(cY W0 ((parts 8).flatMap qJ) rfl (by decide)).drew,(k0.alloc _).drew⟩
 ·go_in;go_wp2_with fail
  clear gF cM;have Jy:=sw.out;have Jz:=qt.out;have JA:=qw.out;have r10:=zZ.out;have r11:=rI.out;have r12:=qK.out;clear sw qt qw zZ rI qK xo yz CU Fa Fb Fc Fe Ff Fg tH Gw Gx
  go_region_held3 (λw'=>w'.cell? ⟨w.heap.size,0,none⟩=some (Value.func (.func 104) #[] #[])/\w'.cell? ⟨w.heap.size,1,none⟩=some (vI 0)/\w'.cell? ⟨w.heap.size,2,none⟩=some (vI 5)/\w'.cell? ⟨w.heap.size+1,0,none⟩=some (Value.func (.func 105) #[] #[])/\w'.cell? ⟨w.heap.size+1,1,none⟩=some (vI 0)/\w'.cell? ⟨w.heap.size+1,2,none⟩=some (vI 5)) (go_keep) (fail)
  rename_i hHeld;clear hHeld;go_wp2
  go_ret2
  exact⟨_,rfl,(cY W0 ((parts 9).flatMap qJ) rfl (by decide)).drew,(k0.alloc _).drew⟩
 ·go_in;go_wp2_with fail
  clear gF cM;have Jy:=sw.out;have Jz:=qt.out;have JA:=qw.out;clear sw qt qw zZ rI qK xo yz CU Fa Fb Fc Fe Ff Fg tH Gw Gx
  go_region_held3 (λw'=>w'.cell? ⟨w.heap.size,0,none⟩=some (Value.func (.func 104) #[] #[])/\w'.cell? ⟨w.heap.size,1,none⟩=some (vI 0)/\w'.cell? ⟨w.heap.size,2,none⟩=some (vI 5)) (go_keep) (fail)
  rename_i hHeld;clear hHeld;go_wp2
  go_ret2
  exact⟨_,rfl,(cY W0 ((parts 10).flatMap qJ) rfl (by decide)).drew,(k0.alloc _).drew⟩
 ·go_in;go_wp2_with fail
  clear gF cM;have Jy:=sw.out;have Jz:=qt.out;have JA:=qw.out;have r10:=zZ.out;have r11:=rI.out;have r12:=qK.out;clear sw qt qw zZ rI qK xo yz CU Fa Fb Fc Fe Ff Fg tH Gw Gx
  go_region_held3 (λw'=>w'.cell? ⟨w.heap.size,0,none⟩=some (Value.func (.func 104) #[] #[])/\w'.cell? ⟨w.heap.size,1,none⟩=some (vI 0)/\w'.cell? ⟨w.heap.size,2,none⟩=some (vI 5)/\w'.cell? ⟨w.heap.size+1,0,none⟩=some (Value.func (.func 105) #[] #[])/\w'.cell? ⟨w.heap.size+1,1,none⟩=some (vI 0)/\w'.cell? ⟨w.heap.size+1,2,none⟩=some (vI 5)) (go_keep) (fail)
  rename_i hHeld;clear hHeld;go_wp2
  go_ret2
  exact⟨_,rfl,(cY W0 ((parts 11).flatMap qJ) rfl (by decide)).drew,(k0.alloc _).drew⟩
 ·go_in;go_wp2_with fail
  clear gF cM;have Jy:=sw.out;have Jz:=qt.out;have JA:=qw.out;have r10:=zZ.out;have r11:=rI.out;have r12:=qK.out;clear sw qt qw zZ rI qK xo yz CU Fa Fb Fc Fe Ff Fg tH Gw Gx
  go_region_held3 (λw'=>w'.cell? ⟨w.heap.size,0,none⟩=some (Value.func (.func 104) #[] #[])/\w'.cell? ⟨w.heap.size,1,none⟩=some (vI 0)/\w'.cell? ⟨w.heap.size,2,none⟩=some (vI 5)/\w'.cell? ⟨w.heap.size+1,0,none⟩=some (Value.func (.func 105) #[] #[])/\w'.cell? ⟨w.heap.size+1,1,none⟩=some (vI 0)/\w'.cell? ⟨w.heap.size+1,2,none⟩=some (vI 5)) (go_keep) (fail)
  rename_i hHeld;clear hHeld;go_wp2
  go_ret2
  exact⟨_,rfl,(cY W0 ((parts 12).flatMap qJ) rfl (by decide)).drew,(k0.alloc _).drew⟩
 ·go_in;go_wp2_with fail
  clear gF cM;have Jy:=sw.out;have Jz:=qt.out;have JA:=qw.out;clear sw qt qw zZ rI qK xo yz CU Fa Fb Fc Fe Ff Fg tH Gw Gx
  go_region_held3 (λw'=>w'.cell? ⟨w.heap.size,0,none⟩=some (Value.func (.func 104) #[] #[])/\w'.cell? ⟨w.heap.size,1,none⟩=some (vI 0)/\w'.cell? ⟨w.heap.size,2,none⟩=some (vI 5)) (go_keep) (fail)
  rename_i hHeld;clear hHeld;go_wp2
  go_ret2
  exact⟨_,rfl,(cY W0 ((parts 13).flatMap qJ) rfl (by decide)).drew,(k0.alloc _).drew⟩
 ·go_in;go_wp2_with fail
  skip
  go_ret2
  exact⟨_,rfl,⟨rfl,.inl ⟨rfl,rfl⟩⟩,k0⟩
def mC(d:Dd):Nat->Int|0=>d.a|1=>d.b|2=>d.i|_=>d.n
def mH(d:Dd)(v:Int):Nat->Dd|0=>{ d with a:=v } | 1=>{ d with b:=v } | 2=>{ d with i:=v } | _=>{ d with n:=v }
def cN(d:Dd)(l:List Pt):Dd:=l.foldl (λc p=>mH c (mC d p.f) p.f) ⟨d.k,0,0,0,0⟩
theorem D1(d:Dd)(l:List Pt)(p:Pt):cN d (l++[p])=mH (cN d l) (mC d p.f) p.f:=by unfold cN;rw[List.foldl_append];rfl
theorem MM{d:Dd}(h:d.Rt):∃k:Nat,d.k=k/\1<=k/\k<=14/\(parts k).length<=3/\(∀p∈parts k,p.f<=3/\p.lo<=mC d p.f/\mC d p.f<=p.hi)/\cN d (parts k)=d:=by
 obtain⟨k,a,b,i,n⟩:=d;simp only[Dd.Rt,R6,R5,R8,RM] at h;rcases h with ⟨rfl,h1,h2,h3,h4⟩|⟨rfl,h1,h2,h3,h4⟩|⟨rfl,h1,h2,h3,h4⟩|⟨rfl,h1,h2,h3,h4⟩|⟨rfl,h1,h2,h3,h4⟩|⟨rfl,h1,h2,h3,h4⟩|⟨rfl,h1,h2,h3,h4⟩|⟨rfl,h1,h2,h3,h4⟩|⟨rfl,h1,h2,h3,h4⟩|⟨rfl,h1,h2,h3,h4⟩|⟨rfl,h1,h2,h3,h4⟩|⟨rfl,h1,h2,h3,h4⟩|⟨rfl,h1,h2,h3,h4⟩|⟨rfl,h1,h2,h3,h4⟩
 ·exact⟨1,rfl,by decide,by decide,by decide,by simp[parts,mC];omega,by simp[cN,parts,mH,mC,h2]⟩
 ·exact⟨2,rfl,by decide,by decide,by decide,by simp[parts,mC];omega,by simp[cN,parts,mH,mC,h2]⟩
 ·exact⟨3,rfl,by decide,by decide,by decide,by simp[parts,mC];omega,by simp[cN,parts,mH,mC,h3,h4]⟩
 ·exact⟨4,rfl,by decide,by decide,by decide,by simp[parts,mC];omega,by simp[cN,parts,mH,mC,h4]⟩
 ·exact⟨5,rfl,by decide,by decide,by decide,by simp[parts,mC];omega,by simp[cN,parts,mH,mC,h4]⟩
 ·exact⟨6,rfl,by decide,by decide,by decide,by simp[parts,mC];omega,by simp[cN,parts,mH,mC,h2,h4]⟩
 ·exact⟨7,rfl,by decide,by decide,by decide,by simp[parts,mC];omega,by simp[cN,parts,mH,mC,h2]⟩
 ·exact⟨8,rfl,by decide,by decide,by decide,by simp[parts,mC];omega,by simp[cN,parts,mH,mC,h2,h3,h4]⟩
 ·exact⟨9,rfl,by decide,by decide,by decide,by simp[parts,mC];omega,by simp[cN,parts,mH,mC,h3,h4]⟩
 ·exact⟨10,rfl,by decide,by decide,by decide,by simp[parts,mC];omega,by simp[cN,parts,mH,mC,h2,h3,h4]⟩
 ·exact⟨11,rfl,by decide,by decide,by decide,by simp[parts,mC];omega,by simp[cN,parts,mH,mC,h3,h4]⟩
 ·exact⟨12,rfl,by decide,by decide,by decide,by simp[parts,mC];omega,by simp[cN,parts,mH,mC,h3,h4]⟩
 ·exact⟨13,rfl,by decide,by decide,by decide,by simp[parts,mC];omega,by simp[cN,parts,mH,mC,h2,h3,h4]⟩
 ·exact⟨14,rfl,by decide,by decide,by decide,by simp[parts],by simp[cN,parts,h1,h2,h3,h4]⟩
structure bP where
 b:Int
 p:Int
 R:aj
 V:aj
 live:Bool
def rg(l:aj)(j:Nat):aA:=vI ((l.getD j 0:Nat):Int)
def bQ(x:bP):aA:=.agg #[vI x.b,vI x.p,rg x.R 0,rg x.R 1,rg x.R 2,rg x.R 3,rg x.R 4,rg x.R 5,rg x.V 0,rg x.V 1,rg x.V 2,rg x.V 3,rg x.V 4,rg x.V 5,.bool x.live]
def aX(x:bP):List aA:=[vI x.b,vI x.p,rg x.R 0,rg x.R 1,rg x.R 2,rg x.R 3,rg x.R 4,rg x.R 5,rg x.V 0,rg x.V 1,rg x.V 2,rg x.V 3,rg x.V 4,rg x.V 5,.bool x.live]
def cS(k e v:Int):aA:=.agg #[vI k,vI e,vI v]
structure ko(n:Nat)(x:bP):Prop where
 b:0<=x.b/\x.b<=n
 p:0<=x.p/\x.p<=100
 l:x.live=true->x.b<n
 r:x.R.length=6
 v:x.V.length=6
 rp:∀a∈x.R,a<=131072
 vp:∀a∈x.V,a<=131072
def bP.back(x:bP):bP:={ x with R:=x.V,live:=false,p:=0 }
def bP.fQ(x:bP)(e:Int):bP:=if e=0 then { x with p:=x.p+1 } else if e=141\/e=140 then x.back else if e=100\/e=130 then { x.back with b:=x.b+1 } else { x with p:=x.p+1 }
def XT(w:ag)(x:bP)(v e:Int)(en:Ending)(w':ag):Prop:=en=.returned (.tuple #[bQ (x.fQ e),cS 2 e (if e=0 then v else 0)])/\Calm w w'
theorem qP(w:ag)(b p r0 r1 r2 r3 r4 r5 v0 v1 v2 v3 v4 v5:Int)(live:Bool):aJ prog 67 #[.agg #[vI b,vI p,vI r0,vI r1,vI r2,vI r3,vI r4,vI r5,vI v0,vI v1,vI v2,vI v3,vI v4,vI v5,.bool live]] w λe w'=>e=.returned (.agg #[vI b,vI 0,vI v0,vI v1,vI v2,vI v3,vI v4,vI v5,vI v0,vI v1,vI v2,vI v3,vI v4,vI v5,.bool false])/\w'=(w.alloc (.cells #[vI b,vI 0,vI v0,vI v1,vI v2,vI v3,vI v4,vI v5,vI v0,vI v1,vI v2,vI v3,vI v4,vI v5,.bool false] 31)).alloc (.cells #[vI b,vI 0,vI v0,vI v1,vI v2,vI v3,vI v4,vI v5,vI v0,vI v1,vI v2,vI v3,vI v4,vI v5,.bool false] 31):=by
 go_in;go_wp2;refine bodyPost_ret ?_ rfl ⟨rfl,rfl⟩;simp[results,Tryz.f67,go_sem]
theorem dv{P:Program}{id:Nat}{Q:Exit->Act->ag->Prop}{a:Act}{w:ag}{l:List Oper}(ix js:aj)(S:ag->Prop)(hm:P.follows .mixedOrders=true)
 (hB:(Region.noSelect l.toArray && decide (ix.length+js.length=l.toArray.size) && zd .any l.toArray (Array.replicate l.toArray.size false) && sq .any l.toArray l.toArray.size js ix (Array.replicate l.toArray.size false))=true) (hS:S w.drew)
 (h:bq P l.toArray Q S (λa w=>bJ P l.toArray Q S (λa' w'=>Q .normal a' w') js a w) ix a w.drew):(Code.region id l.toArray true).wp P Q a w:=
 wp_region_any hm (df ix js S hB hS h)
theorem Wr(w:ag)(b p r0 r1 r2 r3 r4 r5 v0 v1 v2 v3 v4 v5 v:Int)(live:Bool)(hb:0<=b/\b<=1000)(hp:0<=p/\p<=1000):aJ prog 69 #[.agg #[vI b,vI p,vI r0,vI r1,vI r2,vI r3,vI r4,vI r5,vI v0,vI v1,vI v2,vI v3,vI v4,vI v5,.bool live],vI v,vI 0] w λen w'=>en=.returned (.tuple #[.agg #[vI b,vI (p+1),vI r0,vI r1,vI r2,vI r3,vI r4,vI r5,vI v0,vI v1,vI v2,vI v3,vI v4,vI v5,.bool live],.agg #[vI 2,vI 0,vI v]])/\Calm w w':=by
 have fA:IntKind.i64.wrap (p+1)=p+1:=IntWalk.i64_in _ (by omega);have nL:IntKind.i64.wrap (b+1)=b+1:=IntWalk.i64_in _ (by omega);go_in;go_wp2_with fail
 refine dv [1] [0,2,3] (λw'=>w'.cell? ⟨w.heap.size+1+1+1,0,none⟩=some (vI 2)/\w'.cell? ⟨w.heap.size+1+1+1,1,none⟩=some (vI 0)/\w'.cell? ⟨w.heap.size+1+1+1,2,none⟩=some (vI v)) (by kernel_rfl) (by kernel_rfl) ?_ ?_
 ·go_simp
 refine ai (.agg #[vI 2,vI 0,vI v]) rfl rfl (λw' hw'=>?_) ak ?_
 ·obtain⟨e0,e1,e2⟩:=hw';simp[go_sem,e0,e1,e2]
 simp only[bq];refine aq rfl rfl ?_;unfold Oper.wp;go_simp;refine aq rfl rfl ?_;unfold Oper.wp;go_simp;refine aq rfl rfl ?_;unfold Oper.wp;go_simp
 try simp only[bJ]
 go_wp2;refine bodyPost_ret ?_ rfl ⟨rfl,by repeat (first|exact ah|refine Fr.alloc ?_ _|refine Fr.drew ?_)⟩;simp[results,Tryz.f69,go_sem]
theorem Nl(w:ag)(b p r0 r1 r2 r3 r4 r5 v0 v1 v2 v3 v4 v5 v:Int)(live:Bool)(hb:0<=b/\b<=1000)(hp:0<=p/\p<=1000):aJ prog 69 #[.agg #[vI b,vI p,vI r0,vI r1,vI r2,vI r3,vI r4,vI r5,vI v0,vI v1,vI v2,vI v3,vI v4,vI v5,.bool live],vI v,vI 141] w λen w'=>en=.returned (.tuple #[.agg #[vI b,vI 0,vI v0,vI v1,vI v2,vI v3,vI v4,vI v5,vI v0,vI v1,vI v2,vI v3,vI v4,vI v5,.bool false],.agg #[vI 2,vI 141,vI 0]])/\Calm w w':=by
 have fA:IntKind.i64.wrap (p+1)=p+1:=IntWalk.i64_in _ (by omega);have nL:IntKind.i64.wrap (b+1)=b+1:=IntWalk.i64_in _ (by omega);go_in;go_wp2_with fail
 refine(qP _ _ _ _ _ _ _ _ _ _ _ _ _ _ _ _).mono ?_;rintro e wb ⟨rfl,rfl⟩;go_wp2_with fail
 refine dv [1] [0,2,3] (λw'=>w'.cell? ⟨w.heap.size+1+1+1,0,none⟩=some (vI 2)/\w'.cell? ⟨w.heap.size+1+1+1,1,none⟩=some (vI 141)/\w'.cell? ⟨w.heap.size+1+1+1,2,none⟩=some (vI 0)) (by kernel_rfl) (by kernel_rfl) ?_ ?_
 ·go_simp
 refine ai (.agg #[vI 2,vI 141,vI 0]) rfl rfl (λw' hw'=>?_) ak ?_
 ·obtain⟨e0,e1,e2⟩:=hw';simp[go_sem,e0,e1,e2]
 simp only[bq];refine aq rfl rfl ?_;unfold Oper.wp;go_simp;refine aq rfl rfl ?_;unfold Oper.wp;go_simp;refine aq rfl rfl ?_;unfold Oper.wp;go_simp
 try simp only[bJ]
 go_wp2;refine bodyPost_ret ?_ rfl ⟨rfl,by repeat (first|exact ah|refine Fr.alloc ?_ _|refine Fr.drew ?_)⟩;simp[results,Tryz.f69,go_sem]
theorem Nj(w:ag)(b p r0 r1 r2 r3 r4 r5 v0 v1 v2 v3 v4 v5 v:Int)(live:Bool)(hb:0<=b/\b<=1000)(hp:0<=p/\p<=1000):aJ prog 69 #[.agg #[vI b,vI p,vI r0,vI r1,vI r2,vI r3,vI r4,vI r5,vI v0,vI v1,vI v2,vI v3,vI v4,vI v5,.bool live],vI v,vI 140] w λen w'=>en=.returned (.tuple #[.agg #[vI b,vI 0,vI v0,vI v1,vI v2,vI v3,vI v4,vI v5,vI v0,vI v1,vI v2,vI v3,vI v4,vI v5,.bool false],.agg #[vI 2,vI 140,vI 0]])/\Calm w w':=by
 have fA:IntKind.i64.wrap (p+1)=p+1:=IntWalk.i64_in _ (by omega);have nL:IntKind.i64.wrap (b+1)=b+1:=IntWalk.i64_in _ (by omega);go_in;go_wp2_with fail
 refine(qP _ _ _ _ _ _ _ _ _ _ _ _ _ _ _ _).mono ?_;rintro e wb ⟨rfl,rfl⟩;go_wp2_with fail
 refine dv [1] [0,2,3] (λw'=>w'.cell? ⟨w.heap.size+1+1+1,0,none⟩=some (vI 2)/\w'.cell? ⟨w.heap.size+1+1+1,1,none⟩=some (vI 140)/\w'.cell? ⟨w.heap.size+1+1+1,2,none⟩=some (vI 0)) (by kernel_rfl) (by kernel_rfl) ?_ ?_
 ·go_simp
 refine ai (.agg #[vI 2,vI 140,vI 0]) rfl rfl (λw' hw'=>?_) ak ?_
 ·obtain⟨e0,e1,e2⟩:=hw';simp[go_sem,e0,e1,e2]
 simp only[bq];refine aq rfl rfl ?_;unfold Oper.wp;go_simp;refine aq rfl rfl ?_;unfold Oper.wp;go_simp;refine aq rfl rfl ?_;unfold Oper.wp;go_simp
 try simp only[bJ]
 go_wp2;refine bodyPost_ret ?_ rfl ⟨rfl,by repeat (first|exact ah|refine Fr.alloc ?_ _|refine Fr.drew ?_)⟩;simp[results,Tryz.f69,go_sem]
theorem Nh(w:ag)(b p r0 r1 r2 r3 r4 r5 v0 v1 v2 v3 v4 v5 v:Int)(live:Bool)(hb:0<=b/\b<=1000)(hp:0<=p/\p<=1000):aJ prog 69 #[.agg #[vI b,vI p,vI r0,vI r1,vI r2,vI r3,vI r4,vI r5,vI v0,vI v1,vI v2,vI v3,vI v4,vI v5,.bool live],vI v,vI 100] w λen w'=>en=.returned (.tuple #[.agg #[vI (b+1),vI 0,vI v0,vI v1,vI v2,vI v3,vI v4,vI v5,vI v0,vI v1,vI v2,vI v3,vI v4,vI v5,.bool false],.agg #[vI 2,vI 100,vI 0]])/\Calm w w':=by
 have fA:IntKind.i64.wrap (p+1)=p+1:=IntWalk.i64_in _ (by omega);have nL:IntKind.i64.wrap (b+1)=b+1:=IntWalk.i64_in _ (by omega);go_in;go_wp2_with fail
 refine(qP _ _ _ _ _ _ _ _ _ _ _ _ _ _ _ _).mono ?_;rintro e wb ⟨rfl,rfl⟩;go_wp2_with fail
 refine dv [1] [0,2,3] (λw'=>w'.cell? ⟨w.heap.size+1+1+1,0,none⟩=some (vI 2)/\w'.cell? ⟨w.heap.size+1+1+1,1,none⟩=some (vI 100)/\w'.cell? ⟨w.heap.size+1+1+1,2,none⟩=some (vI 0)) (by kernel_rfl) (by kernel_rfl) ?_ ?_
 ·go_simp
 refine ai (.agg #[vI 2,vI 100,vI 0]) rfl rfl (λw' hw'=>?_) ak ?_
 ·obtain⟨e0,e1,e2⟩:=hw';simp[go_sem,e0,e1,e2]
 simp only[bq];refine aq rfl rfl ?_;unfold Oper.wp;go_simp;refine aq rfl rfl ?_;unfold Oper.wp;go_simp;refine aq rfl rfl ?_;unfold Oper.wp;go_simp
 try simp only[bJ]
 go_wp2;refine bodyPost_ret ?_ rfl ⟨rfl,by repeat (first|exact ah|refine Fr.alloc ?_ _|refine Fr.drew ?_)⟩;simp[results,Tryz.f69,go_sem]
theorem Ni(w:ag)(b p r0 r1 r2 r3 r4 r5 v0 v1 v2 v3 v4 v5 v:Int)(live:Bool)(hb:0<=b/\b<=1000)(hp:0<=p/\p<=1000):aJ prog 69 #[.agg #[vI b,vI p,vI r0,vI r1,vI r2,vI r3,vI r4,vI r5,vI v0,vI v1,vI v2,vI v3,vI v4,vI v5,.bool live],vI v,vI 130] w λen w'=>en=.returned (.tuple #[.agg #[vI (b+1),vI 0,vI v0,vI v1,vI v2,vI v3,vI v4,vI v5,vI v0,vI v1,vI v2,vI v3,vI v4,vI v5,.bool false],.agg #[vI 2,vI 130,vI 0]])/\Calm w w':=by
 have fA:IntKind.i64.wrap (p+1)=p+1:=IntWalk.i64_in _ (by omega);have nL:IntKind.i64.wrap (b+1)=b+1:=IntWalk.i64_in _ (by omega);go_in;go_wp2_with fail
 refine(qP _ _ _ _ _ _ _ _ _ _ _ _ _ _ _ _).mono ?_;rintro e wb ⟨rfl,rfl⟩;go_wp2_with fail
 refine dv [1] [0,2,3] (λw'=>w'.cell? ⟨w.heap.size+1+1+1,0,none⟩=some (vI 2)/\w'.cell? ⟨w.heap.size+1+1+1,1,none⟩=some (vI 130)/\w'.cell? ⟨w.heap.size+1+1+1,2,none⟩=some (vI 0)) (by kernel_rfl) (by kernel_rfl) ?_ ?_
 ·go_simp
 refine ai (.agg #[vI 2,vI 130,vI 0]) rfl rfl (λw' hw'=>?_) ak ?_
 ·obtain⟨e0,e1,e2⟩:=hw';simp[go_sem,e0,e1,e2]
 simp only[bq];refine aq rfl rfl ?_;unfold Oper.wp;go_simp;refine aq rfl rfl ?_;unfold Oper.wp;go_simp;refine aq rfl rfl ?_;unfold Oper.wp;go_simp
 try simp only[bJ]
 go_wp2;refine bodyPost_ret ?_ rfl ⟨rfl,by repeat (first|exact ah|refine Fr.alloc ?_ _|refine Fr.drew ?_)⟩;simp[results,Tryz.f69,go_sem]
theorem Ws(w:ag)(b p r0 r1 r2 r3 r4 r5 v0 v1 v2 v3 v4 v5 v e:Int)(live:Bool)(h0:e≠0)(h1:e≠141)(h2:e≠140)(h3:e≠100)(h4:e≠130)(hb:0<=b/\b<=1000)(hp:0<=p/\p<=1000):aJ prog 69 #[.agg #[vI b,vI p,vI r0,vI r1,vI r2,vI r3,vI r4,vI r5,vI v0,vI v1,vI v2,vI v3,vI v4,vI v5,.bool live],vI v,vI e] w λen w'=>en=.returned (.tuple #[.agg #[vI b,vI (p+1),vI r0,vI r1,vI r2,vI r3,vI r4,vI r5,vI v0,vI v1,vI v2,vI v3,vI v4,vI v5,.bool live],.agg #[vI 2,vI e,vI 0]])/\Calm w w':=by
 have fA:IntKind.i64.wrap (p+1)=p+1:=IntWalk.i64_in _ (by omega);have nL:IntKind.i64.wrap (b+1)=b+1:=IntWalk.i64_in _ (by omega);have e0:(e==0)=false:=by simpa using h0
 have e1:(e==141)=false:=by simpa using h1
 have e2:(e==140)=false:=by simpa using h2
 have e3:(e==100)=false:=by simpa using h3
 have e4:(e==130)=false:=by simpa using h4
 go_in;go_wp2_with fail
 refine dv [1] [0,2,3] (λw'=>w'.cell? ⟨w.heap.size+1+1+1,0,none⟩=some (vI 2)/\w'.cell? ⟨w.heap.size+1+1+1,1,none⟩=some (vI e)/\w'.cell? ⟨w.heap.size+1+1+1,2,none⟩=some (vI 0)) (by kernel_rfl) (by kernel_rfl) ?_ ?_
 ·go_simp
 refine ai (.agg #[vI 2,vI e,vI 0]) rfl rfl (λw' hw'=>?_) ak ?_
 ·obtain⟨e0,e1,e2⟩:=hw';simp[go_sem,e0,e1,e2]
 simp only[bq];refine aq rfl rfl ?_;unfold Oper.wp;go_simp;refine aq rfl rfl ?_;unfold Oper.wp;go_simp;refine aq rfl rfl ?_;unfold Oper.wp;go_simp
 try simp only[bJ]
 go_wp2;refine bodyPost_ret ?_ rfl ⟨rfl,by repeat (first|exact ah|refine Fr.alloc ?_ _|refine Fr.drew ?_)⟩;simp[results,Tryz.f69,go_sem]
theorem QU(w:ag)(x:bP)(hb:0<=x.b/\x.b<=1000)(hp:0<=x.p/\x.p<=1000)(v e:Int):aJ prog 69 #[bQ x,vI v,vI e] w (XT w x v e):=by
 by_cases h0:e=0
 ·subst h0;exact(Wr w x.b x.p _ _ _ _ _ _ _ _ _ _ _ _ v x.live hb hp).mono λen w' h=>⟨h.1.trans rfl,h.2⟩
 ·by_cases h1:e=141
  ·subst h1;exact(Nl w x.b x.p _ _ _ _ _ _ _ _ _ _ _ _ v x.live hb hp).mono λen w' h=>⟨h.1.trans rfl,h.2⟩
  ·by_cases h2:e=140
   ·subst h2;exact(Nj w x.b x.p _ _ _ _ _ _ _ _ _ _ _ _ v x.live hb hp).mono λen w' h=>⟨h.1.trans rfl,h.2⟩
   ·by_cases h3:e=100
    ·subst h3;exact(Nh w x.b x.p _ _ _ _ _ _ _ _ _ _ _ _ v x.live hb hp).mono λen w' h=>⟨h.1.trans rfl,h.2⟩
    ·by_cases h4:e=130
     ·subst h4;exact(Ni w x.b x.p _ _ _ _ _ _ _ _ _ _ _ _ v x.live hb hp).mono λen w' h=>⟨h.1.trans rfl,h.2⟩
     ·refine(Ws w x.b x.p _ _ _ _ _ _ _ _ _ _ _ _ v e x.live h0 h1 h2 h3 h4 hb hp).mono λen w' h=>⟨h.1.trans ?_,h.2⟩
      have e1:x.fQ e = { x with p:=x.p+1 }:=by
       unfold bP.fQ;rw[if_neg h0,if_neg (by omega),if_neg (by omega)]
      rw[e1,if_neg h0];rfl
