/- TopMemory: a part of its proof (Pr2). -/
import Derived.Deep.RegionHeld3
import Derived.Test.YtdffnjikmkgjkaaGreatTmAA
import Derived.Test.YtdffnjikmkgjkaaGreatTmAI
set_option linter.unusedSimpArgs false
set_option linter.unusedVariables false
set_option maxHeartbeats 4000000
namespace Go.Proofs.YtdffnjikmkgjkaaGreat
section
open Go.RowKit Go.Shelf
structure Pt where
  f:Nat
  lo:Int
  hi:Int
def fnV:Nat→Value
  | 0=>.func (.func 93) #[] #[]
  | 1=>.func (.func 94) #[] #[]
  | 2=>.func (.func 95) #[] #[]
  | _=>.func (.func 96) #[] #[]
def ptC (p:Pt):List Value:=[fnV p.f,vI p.lo,vI p.hi]
theorem ptC_len (p:Pt):(ptC p).length=3:=rfl
abbrev pA:Pt:=⟨0,0,5⟩
abbrev pB:Pt:=⟨1,0,5⟩
abbrev pI:Pt:=⟨2,0,7⟩
abbrev pJ:Pt:=⟨2,0,4⟩
abbrev pN:Pt:=⟨3,0,4⟩
abbrev pM:Pt:=⟨3,-1000000,1000000⟩
def parts:Nat→List Pt
  | 1=>[pA,pJ,pN]|2=>[pA,pJ,pN]|3=>[pA,pB]|4=>[pA,pB,pI]|5=>[pA,pI,pB]|6=>[pA,pI]|7=>[pA,pI,pM]
  | 8=>[pA]|9=>[pA,pB]|10=>[pA]|11=>[pA,pB]|12=>[pA,pB]|13=>[pA]|_=>[]
def nmV:Nat→Value
  | 1=>.string { data:=#[97,108,108,111,99] }
  | 2=>.string { data:=#[102,105,110,97,108] }
  | 3=>.string { data:=#[119,101,97,107] }
  | 4=>.string { data:=#[103,101,116] }
  | 5=>.string { data:=#[112,117,116] }
  | 6=>.string { data:=#[114,101,97,100] }
  | 7=>.string { data:=#[119,114,105,116,101] }
  | 8=>.string { data:=#[102,114,101,101] }
  | 9=>.string { data:=#[108,111,97,100] }
  | 10=>.string { data:=#[116,97,107,101] }
  | 11=>.string { data:=#[115,97,109,101] }
  | 12=>.string { data:=#[109,111,118,101] }
  | 13=>.string { data:=#[110,105,108] }
  | 14=>.string { data:=#[97,98,111,114,116] }
  | _=>.string { data:=#[] }
theorem nmV_ne (k:Nat)(h1:1≤k)(h2:k≤14):∃x,nmV k = .string x∧(x == { data:=#[] })=false:=by
  rcases(by omega:k=1∨k=2∨k=3∨k=4∨k=5∨k=6∨k=7∨k=8∨k=9∨k=10∨k=11∨k=12∨k=13∨k=14) with rfl|rfl|rfl|rfl|rfl|rfl|rfl|rfl|rfl|rfl|rfl|rfl|rfl|rfl
  all_goals exact⟨_,rfl,rfl⟩
def FormPost (w:World)(k:Nat)(e:Ending)(w':World):Prop:=∃ (v:Value),e = .returned (.tuple #[nmV k,v])∧w'.ownsRow 0 126 3 v (parts k).length ((parts k).flatMap ptC)∧Calm w w'
theorem run_storeF (f:Fn)(l:Array Value)(w:World)(a:Addr):(store a (.func f #[] l)).run Tryz.prog w=match w.cell? a with
      | some _ => if w.frozen? a then .halt (.unsupported (.unsafePointer "a write to bytes that a string shares")) w else .ok () (w.setCell a (.func f #[] l))
      | none=>match w.farStore Tryz.prog a (.func f #[] l) (Mode.plain==.atomic) with
        | .ok (w',_)=>.ok () w'
        | .error h=>.halt h w:=run_store _ _ _ _ _ rfl
theorem owns_built {ety:TypeId}{k n:Nat}(w:World)(cs:List Value)(h:cs.length=n*k)(hn:n≤1000):(w.alloc (.cells cs.toArray ety)).ownsRow 0 ety k (.slice (some ⟨w.heap.size,0,none⟩) n n) n cs:=
  ⟨h,.inr ⟨w.heap.size,n,cs.toArray,rfl,Nat.zero_le _,World.alloc_heap_new w _,Nat.le_refl _,by unfold maxLen;omega,by simpa using h,by simp[←h]⟩⟩
theorem OwnL.nth (w:World)(vs:List Value)(ty:TypeId)(b:Nat)(h:w.heap.size=b):OwnL (w.alloc (.cells vs.toArray ty)) b vs:=by
  subst h;exact OwnL.new w vs ty
set_option maxRecDepth 4000 in
theorem form_is (w:World)(k:Nat)(h1:1≤k)(h2:k≤14):Calls Tryz.prog 59 #[vI k] w (FormPost w k):=by
  have hst:=run_storeF;obtain⟨W0,hW0⟩:∃W0,((((((w.alloc (.cells #[fnV 0,vI 0,vI 5] 126)).alloc (.cells #[fnV 1,vI 0,vI 5] 126)).alloc (.cells #[fnV 2,vI 0,vI 7] 126)).alloc (.cells #[fnV 2,vI 0,vI 4] 126)).alloc (.cells #[fnV 3,vI 0,vI 4] 126)).alloc (.cells #[fnV 3,vI (-1000000),vI 1000000] 126))=W0:=⟨_,rfl⟩;have k0:Calm w W0:=by rw[←hW0];exact((((((Fr.refl _ _).alloc _).alloc _).alloc _).alloc _).alloc _).alloc _
  have a0:OwnL W0 w.heap.size (ptC pA):=by rw[←hW0];exact(((((OwnL.nth w (ptC pA) _ _ rfl).alloc _).alloc _).alloc _).alloc _).alloc _
  have a1:OwnL W0 (w.heap.size+1) (ptC pB):=by rw[←hW0];exact((((OwnL.nth (w.alloc _) (ptC pB) _ _ (by simp)).alloc _).alloc _).alloc _).alloc _
  have a2:OwnL W0 (w.heap.size+1+1) (ptC pI):=by rw[←hW0];exact(((OwnL.nth ((w.alloc _).alloc _) (ptC pI) _ _ (by simp)).alloc _).alloc _).alloc _
  have a3:OwnL W0 (w.heap.size+1+1+1) (ptC pJ):=by rw[←hW0];exact((OwnL.nth (((w.alloc _).alloc _).alloc _) (ptC pJ) _ _ (by simp)).alloc _).alloc _
  have a4:OwnL W0 (w.heap.size+1+1+1+1) (ptC pN):=by rw[←hW0];exact(OwnL.nth ((((w.alloc _).alloc _).alloc _).alloc _) (ptC pN) _ _ (by simp)).alloc _
  have a5:OwnL W0 (w.heap.size+1+1+1+1+1) (ptC pM):=by rw[←hW0];exact OwnL.nth (((((w.alloc _).alloc _).alloc _).alloc _).alloc _) (ptC pM) _ _ (by simp)
  simp only[fnV] at hW0;simp only[ptC,fnV] at a0 a1 a2 a3 a4 a5;have q00:=hid (a0 0 _ rfl).1;have q01:=hid (a0 1 _ rfl).1;have q02:=hid (a0 2 _ rfl).1;have q10:=hid (a1 0 _ rfl).1;have q11:=hid (a1 1 _ rfl).1;have q12:=hid (a1 2 _ rfl).1;have q20:=hid (a2 0 _ rfl).1;have q21:=hid (a2 1 _ rfl).1;have q22:=hid (a2 2 _ rfl).1;have q30:=hid (a3 0 _ rfl).1;have q31:=hid (a3 1 _ rfl).1;have q32:=hid (a3 2 _ rfl).1;have q40:=hid (a4 0 _ rfl).1;have q41:=hid (a4 1 _ rfl).1;have q42:=hid (a4 2 _ rfl).1;have q50:=hid (a5 0 _ rfl).1;have q51:=hid (a5 1 _ rfl).1;have q52:=hid (a5 2 _ rfl).1;clear a0 a1 a2 a3 a4 a5;rcases(by omega:k=1∨k=2∨k=3∨k=4∨k=5∨k=6∨k=7∨k=8∨k=9∨k=10∨k=11∨k=12∨k=13∨k=14) with rfl|rfl|rfl|rfl|rfl|rfl|rfl|rfl|rfl|rfl|rfl|rfl|rfl|rfl
  · go_enter Tryz.func59,Tryz.ntmps59;go_wp2_with fail
    clear hW0 hst;have r00:=q00.out;have r01:=q01.out;have r02:=q02.out;have r30:=q30.out;have r31:=q31.out;have r32:=q32.out;have r40:=q40.out;have r41:=q41.out;have r42:=q42.out;clear q00 q01 q02 q10 q11 q12 q20 q21 q22 q30 q31 q32 q40 q41 q42 q50 q51 q52
    go_region_held3 (fun w'=>w'.cell? ⟨w.heap.size,0,none⟩=some (Value.func (.func 93) #[] #[])∧w'.cell? ⟨w.heap.size,1,none⟩=some (vI 0)∧w'.cell? ⟨w.heap.size,2,none⟩=some (vI 5)∧w'.cell? ⟨w.heap.size+1+1+1,0,none⟩=some (Value.func (.func 95) #[] #[])∧w'.cell? ⟨w.heap.size+1+1+1,1,none⟩=some (vI 0)∧w'.cell? ⟨w.heap.size+1+1+1,2,none⟩=some (vI 4)∧w'.cell? ⟨w.heap.size+1+1+1+1,0,none⟩=some (Value.func (.func 96) #[] #[])∧w'.cell? ⟨w.heap.size+1+1+1+1,1,none⟩=some (vI 0)∧w'.cell? ⟨w.heap.size+1+1+1+1,2,none⟩=some (vI 4)) (go_keep) (fail)
    rename_i hHeld;clear hHeld;go_wp2
    go_ret2
    exact⟨_,rfl,(owns_built W0 ((parts 1).flatMap ptC) rfl (by decide)).drew,(k0.alloc _).drew⟩
  · go_enter Tryz.func59,Tryz.ntmps59;go_wp2_with fail
    clear hW0 hst;have r00:=q00.out;have r01:=q01.out;have r02:=q02.out;have r30:=q30.out;have r31:=q31.out;have r32:=q32.out;have r40:=q40.out;have r41:=q41.out;have r42:=q42.out;clear q00 q01 q02 q10 q11 q12 q20 q21 q22 q30 q31 q32 q40 q41 q42 q50 q51 q52
    go_region_held3 (fun w'=>w'.cell? ⟨w.heap.size,0,none⟩=some (Value.func (.func 93) #[] #[])∧w'.cell? ⟨w.heap.size,1,none⟩=some (vI 0)∧w'.cell? ⟨w.heap.size,2,none⟩=some (vI 5)∧w'.cell? ⟨w.heap.size+1+1+1,0,none⟩=some (Value.func (.func 95) #[] #[])∧w'.cell? ⟨w.heap.size+1+1+1,1,none⟩=some (vI 0)∧w'.cell? ⟨w.heap.size+1+1+1,2,none⟩=some (vI 4)∧w'.cell? ⟨w.heap.size+1+1+1+1,0,none⟩=some (Value.func (.func 96) #[] #[])∧w'.cell? ⟨w.heap.size+1+1+1+1,1,none⟩=some (vI 0)∧w'.cell? ⟨w.heap.size+1+1+1+1,2,none⟩=some (vI 4)) (go_keep) (fail)
    rename_i hHeld;clear hHeld;go_wp2
    go_ret2
    exact⟨_,rfl,(owns_built W0 ((parts 2).flatMap ptC) rfl (by decide)).drew,(k0.alloc _).drew⟩
  · go_enter Tryz.func59,Tryz.ntmps59;go_wp2_with fail
    clear hW0 hst;have r00:=q00.out;have r01:=q01.out;have r02:=q02.out;have r10:=q10.out;have r11:=q11.out;have r12:=q12.out;clear q00 q01 q02 q10 q11 q12 q20 q21 q22 q30 q31 q32 q40 q41 q42 q50 q51 q52
    go_region_held3 (fun w'=>w'.cell? ⟨w.heap.size,0,none⟩=some (Value.func (.func 93) #[] #[])∧w'.cell? ⟨w.heap.size,1,none⟩=some (vI 0)∧w'.cell? ⟨w.heap.size,2,none⟩=some (vI 5)∧w'.cell? ⟨w.heap.size+1,0,none⟩=some (Value.func (.func 94) #[] #[])∧w'.cell? ⟨w.heap.size+1,1,none⟩=some (vI 0)∧w'.cell? ⟨w.heap.size+1,2,none⟩=some (vI 5)) (go_keep) (fail)
    rename_i hHeld;clear hHeld;go_wp2
    go_ret2
    exact⟨_,rfl,(owns_built W0 ((parts 3).flatMap ptC) rfl (by decide)).drew,(k0.alloc _).drew⟩
  · go_enter Tryz.func59,Tryz.ntmps59;go_wp2_with fail
    clear hW0 hst;have r00:=q00.out;have r01:=q01.out;have r02:=q02.out;have r10:=q10.out;have r11:=q11.out;have r12:=q12.out;have r20:=q20.out;have r21:=q21.out;have r22:=q22.out;clear q00 q01 q02 q10 q11 q12 q20 q21 q22 q30 q31 q32 q40 q41 q42 q50 q51 q52
    go_region_held3 (fun w'=>w'.cell? ⟨w.heap.size,0,none⟩=some (Value.func (.func 93) #[] #[])∧w'.cell? ⟨w.heap.size,1,none⟩=some (vI 0)∧w'.cell? ⟨w.heap.size,2,none⟩=some (vI 5)∧w'.cell? ⟨w.heap.size+1,0,none⟩=some (Value.func (.func 94) #[] #[])∧w'.cell? ⟨w.heap.size+1,1,none⟩=some (vI 0)∧w'.cell? ⟨w.heap.size+1,2,none⟩=some (vI 5)∧w'.cell? ⟨w.heap.size+1+1,0,none⟩=some (Value.func (.func 95) #[] #[])∧w'.cell? ⟨w.heap.size+1+1,1,none⟩=some (vI 0)∧w'.cell? ⟨w.heap.size+1+1,2,none⟩=some (vI 7)) (go_keep) (fail)
    rename_i hHeld;clear hHeld;go_wp2
    go_ret2
    exact⟨_,rfl,(owns_built W0 ((parts 4).flatMap ptC) rfl (by decide)).drew,(k0.alloc _).drew⟩
  · go_enter Tryz.func59,Tryz.ntmps59;go_wp2_with fail
    clear hW0 hst;have r00:=q00.out;have r01:=q01.out;have r02:=q02.out;have r20:=q20.out;have r21:=q21.out;have r22:=q22.out;have r10:=q10.out;have r11:=q11.out;have r12:=q12.out;clear q00 q01 q02 q10 q11 q12 q20 q21 q22 q30 q31 q32 q40 q41 q42 q50 q51 q52
    go_region_held3 (fun w'=>w'.cell? ⟨w.heap.size,0,none⟩=some (Value.func (.func 93) #[] #[])∧w'.cell? ⟨w.heap.size,1,none⟩=some (vI 0)∧w'.cell? ⟨w.heap.size,2,none⟩=some (vI 5)∧w'.cell? ⟨w.heap.size+1+1,0,none⟩=some (Value.func (.func 95) #[] #[])∧w'.cell? ⟨w.heap.size+1+1,1,none⟩=some (vI 0)∧w'.cell? ⟨w.heap.size+1+1,2,none⟩=some (vI 7)∧w'.cell? ⟨w.heap.size+1,0,none⟩=some (Value.func (.func 94) #[] #[])∧w'.cell? ⟨w.heap.size+1,1,none⟩=some (vI 0)∧w'.cell? ⟨w.heap.size+1,2,none⟩=some (vI 5)) (go_keep) (fail)
    rename_i hHeld;clear hHeld;go_wp2
    go_ret2
    exact⟨_,rfl,(owns_built W0 ((parts 5).flatMap ptC) rfl (by decide)).drew,(k0.alloc _).drew⟩
  · go_enter Tryz.func59,Tryz.ntmps59;go_wp2_with fail
    clear hW0 hst;have r00:=q00.out;have r01:=q01.out;have r02:=q02.out;have r20:=q20.out;have r21:=q21.out;have r22:=q22.out;clear q00 q01 q02 q10 q11 q12 q20 q21 q22 q30 q31 q32 q40 q41 q42 q50 q51 q52
    go_region_held3 (fun w'=>w'.cell? ⟨w.heap.size,0,none⟩=some (Value.func (.func 93) #[] #[])∧w'.cell? ⟨w.heap.size,1,none⟩=some (vI 0)∧w'.cell? ⟨w.heap.size,2,none⟩=some (vI 5)∧w'.cell? ⟨w.heap.size+1+1,0,none⟩=some (Value.func (.func 95) #[] #[])∧w'.cell? ⟨w.heap.size+1+1,1,none⟩=some (vI 0)∧w'.cell? ⟨w.heap.size+1+1,2,none⟩=some (vI 7)) (go_keep) (fail)
    rename_i hHeld;clear hHeld;go_wp2
    go_ret2
    exact⟨_,rfl,(owns_built W0 ((parts 6).flatMap ptC) rfl (by decide)).drew,(k0.alloc _).drew⟩
  · go_enter Tryz.func59,Tryz.ntmps59;go_wp2_with fail
    clear hW0 hst;have r00:=q00.out;have r01:=q01.out;have r02:=q02.out;have r20:=q20.out;have r21:=q21.out;have r22:=q22.out;have r50:=q50.out;have r51:=q51.out;have r52:=q52.out;clear q00 q01 q02 q10 q11 q12 q20 q21 q22 q30 q31 q32 q40 q41 q42 q50 q51 q52
    go_region_held3 (fun w'=>w'.cell? ⟨w.heap.size,0,none⟩=some (Value.func (.func 93) #[] #[])∧w'.cell? ⟨w.heap.size,1,none⟩=some (vI 0)∧w'.cell? ⟨w.heap.size,2,none⟩=some (vI 5)∧w'.cell? ⟨w.heap.size+1+1,0,none⟩=some (Value.func (.func 95) #[] #[])∧w'.cell? ⟨w.heap.size+1+1,1,none⟩=some (vI 0)∧w'.cell? ⟨w.heap.size+1+1,2,none⟩=some (vI 7)∧w'.cell? ⟨w.heap.size+1+1+1+1+1,0,none⟩=some (Value.func (.func 96) #[] #[])∧w'.cell? ⟨w.heap.size+1+1+1+1+1,1,none⟩=some (vI (-1000000))∧w'.cell? ⟨w.heap.size+1+1+1+1+1,2,none⟩=some (vI 1000000)) (go_keep) (fail)
    rename_i hHeld;clear hHeld;go_wp2
    go_ret2
    exact⟨_,rfl,(owns_built W0 ((parts 7).flatMap ptC) rfl (by decide)).drew,(k0.alloc _).drew⟩
  · go_enter Tryz.func59,Tryz.ntmps59;go_wp2_with fail
    clear hW0 hst;have r00:=q00.out;have r01:=q01.out;have r02:=q02.out;clear q00 q01 q02 q10 q11 q12 q20 q21 q22 q30 q31 q32 q40 q41 q42 q50 q51 q52
    go_region_held3 (fun w'=>w'.cell? ⟨w.heap.size,0,none⟩=some (Value.func (.func 93) #[] #[])∧w'.cell? ⟨w.heap.size,1,none⟩=some (vI 0)∧w'.cell? ⟨w.heap.size,2,none⟩=some (vI 5)) (go_keep) (fail)
    rename_i hHeld;clear hHeld;go_wp2
    go_ret2
    exact⟨_,rfl,(owns_built W0 ((parts 8).flatMap ptC) rfl (by decide)).drew,(k0.alloc _).drew⟩
  · go_enter Tryz.func59,Tryz.ntmps59;go_wp2_with fail
    clear hW0 hst;have r00:=q00.out;have r01:=q01.out;have r02:=q02.out;have r10:=q10.out;have r11:=q11.out;have r12:=q12.out;clear q00 q01 q02 q10 q11 q12 q20 q21 q22 q30 q31 q32 q40 q41 q42 q50 q51 q52
    go_region_held3 (fun w'=>w'.cell? ⟨w.heap.size,0,none⟩=some (Value.func (.func 93) #[] #[])∧w'.cell? ⟨w.heap.size,1,none⟩=some (vI 0)∧w'.cell? ⟨w.heap.size,2,none⟩=some (vI 5)∧w'.cell? ⟨w.heap.size+1,0,none⟩=some (Value.func (.func 94) #[] #[])∧w'.cell? ⟨w.heap.size+1,1,none⟩=some (vI 0)∧w'.cell? ⟨w.heap.size+1,2,none⟩=some (vI 5)) (go_keep) (fail)
    rename_i hHeld;clear hHeld;go_wp2
    go_ret2
    exact⟨_,rfl,(owns_built W0 ((parts 9).flatMap ptC) rfl (by decide)).drew,(k0.alloc _).drew⟩
  · go_enter Tryz.func59,Tryz.ntmps59;go_wp2_with fail
    clear hW0 hst;have r00:=q00.out;have r01:=q01.out;have r02:=q02.out;clear q00 q01 q02 q10 q11 q12 q20 q21 q22 q30 q31 q32 q40 q41 q42 q50 q51 q52
    go_region_held3 (fun w'=>w'.cell? ⟨w.heap.size,0,none⟩=some (Value.func (.func 93) #[] #[])∧w'.cell? ⟨w.heap.size,1,none⟩=some (vI 0)∧w'.cell? ⟨w.heap.size,2,none⟩=some (vI 5)) (go_keep) (fail)
    rename_i hHeld;clear hHeld;go_wp2
    go_ret2
    exact⟨_,rfl,(owns_built W0 ((parts 10).flatMap ptC) rfl (by decide)).drew,(k0.alloc _).drew⟩
  · go_enter Tryz.func59,Tryz.ntmps59;go_wp2_with fail
    clear hW0 hst;have r00:=q00.out;have r01:=q01.out;have r02:=q02.out;have r10:=q10.out;have r11:=q11.out;have r12:=q12.out;clear q00 q01 q02 q10 q11 q12 q20 q21 q22 q30 q31 q32 q40 q41 q42 q50 q51 q52
    go_region_held3 (fun w'=>w'.cell? ⟨w.heap.size,0,none⟩=some (Value.func (.func 93) #[] #[])∧w'.cell? ⟨w.heap.size,1,none⟩=some (vI 0)∧w'.cell? ⟨w.heap.size,2,none⟩=some (vI 5)∧w'.cell? ⟨w.heap.size+1,0,none⟩=some (Value.func (.func 94) #[] #[])∧w'.cell? ⟨w.heap.size+1,1,none⟩=some (vI 0)∧w'.cell? ⟨w.heap.size+1,2,none⟩=some (vI 5)) (go_keep) (fail)
    rename_i hHeld;clear hHeld;go_wp2
    go_ret2
    exact⟨_,rfl,(owns_built W0 ((parts 11).flatMap ptC) rfl (by decide)).drew,(k0.alloc _).drew⟩
  · go_enter Tryz.func59,Tryz.ntmps59;go_wp2_with fail
    clear hW0 hst;have r00:=q00.out;have r01:=q01.out;have r02:=q02.out;have r10:=q10.out;have r11:=q11.out;have r12:=q12.out;clear q00 q01 q02 q10 q11 q12 q20 q21 q22 q30 q31 q32 q40 q41 q42 q50 q51 q52
    go_region_held3 (fun w'=>w'.cell? ⟨w.heap.size,0,none⟩=some (Value.func (.func 93) #[] #[])∧w'.cell? ⟨w.heap.size,1,none⟩=some (vI 0)∧w'.cell? ⟨w.heap.size,2,none⟩=some (vI 5)∧w'.cell? ⟨w.heap.size+1,0,none⟩=some (Value.func (.func 94) #[] #[])∧w'.cell? ⟨w.heap.size+1,1,none⟩=some (vI 0)∧w'.cell? ⟨w.heap.size+1,2,none⟩=some (vI 5)) (go_keep) (fail)
    rename_i hHeld;clear hHeld;go_wp2
    go_ret2
    exact⟨_,rfl,(owns_built W0 ((parts 12).flatMap ptC) rfl (by decide)).drew,(k0.alloc _).drew⟩
  · go_enter Tryz.func59,Tryz.ntmps59;go_wp2_with fail
    clear hW0 hst;have r00:=q00.out;have r01:=q01.out;have r02:=q02.out;clear q00 q01 q02 q10 q11 q12 q20 q21 q22 q30 q31 q32 q40 q41 q42 q50 q51 q52
    go_region_held3 (fun w'=>w'.cell? ⟨w.heap.size,0,none⟩=some (Value.func (.func 93) #[] #[])∧w'.cell? ⟨w.heap.size,1,none⟩=some (vI 0)∧w'.cell? ⟨w.heap.size,2,none⟩=some (vI 5)) (go_keep) (fail)
    rename_i hHeld;clear hHeld;go_wp2
    go_ret2
    exact⟨_,rfl,(owns_built W0 ((parts 13).flatMap ptC) rfl (by decide)).drew,(k0.alloc _).drew⟩
  · go_enter Tryz.func59,Tryz.ntmps59;go_wp2_with fail
    skip
    go_ret2
    exact⟨_,rfl,⟨rfl,.inl ⟨rfl,rfl⟩⟩,k0⟩
end
end Go.Proofs.YtdffnjikmkgjkaaGreat
