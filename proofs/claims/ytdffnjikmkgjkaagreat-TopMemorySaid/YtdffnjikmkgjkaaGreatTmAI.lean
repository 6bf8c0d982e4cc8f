/- TopMemory: a part of its proof (Cyc Hw Sep Rws Pr1). -/
import Derived.Deep.AppendLies
import Derived.Test.YtdffnjikmkgjkaaGreatTmAA
import Derived.Test.YtdffnjikmkgjkaaGreatTmAH
import Derived.Test.YtdffnjikmkgjkaaGreatTmAC
set_option linter.unusedSimpArgs false
set_option linter.unusedVariables false
set_option maxHeartbeats 4000000
namespace Go.Proofs.YtdffnjikmkgjkaaGreat
section
open Go.RowKit Go.Shelf
theorem run_eqIn_nf (d:Nat)(W:World):(Op.equalIn (d+1) 30 .nilFunc .nilFunc).run Tryz.prog W = .ok true W:=by
  simp[Op.equalIn,run_underlying Tryz.underlying30]
theorem run_eqIn_fn (d:Nat)(f:Fn)(a c:Array Value)(W:World):(Op.equalIn (d+1) 30 (.func f a c) .nilFunc).run Tryz.prog W = .ok false W:=by
  simp[Op.equalIn,run_underlying Tryz.underlying30]
theorem run_eq_nf (W:World):(Op.equal 30 .nilFunc .nilFunc).run Tryz.prog W = .ok true W:=run_eqIn_nf 9999 W
theorem run_eq_fn (f:Fn)(a c:Array Value)(W:World):(Op.equal 30 (.func f a c) .nilFunc).run Tryz.prog W = .ok false W:=run_eqIn_fn 9999 f a c W
theorem run_nf_nf (W:World):(binOp .neq 30 .nilFunc .nilFunc).run Tryz.prog W = .ok (.bool false) W:=by
  simp only[binOp];simp[run_eq_nf]
theorem run_fn_nf (f:Fn)(a c:Array Value)(W:World):(binOp .neq 30 (.func f a c) .nilFunc).run Tryz.prog W = .ok (.bool true) W:=by
  simp only[binOp];simp[run_eq_fn]
theorem run_store_fv (P:Program)(w:World)(a:Addr)(m:Mode)(f:Fn)(x y:Array Value):(store a (.func f x y) m).run P w=stored P w a (.func f x y) m:=run_store P w a _ m rfl
theorem run_store_nf (P:Program)(w:World)(a:Addr)(m:Mode):(store a .nilFunc m).run P w=stored P w a .nilFunc m:=run_store P w a _ m rfl
attribute [local go_sem] run_nf_nf run_fn_nf run_store_fv run_store_nf
abbrev pV (c:Nat):Value:=.pointer (some ⟨c,0,none⟩)
def phV (c:Nat):Nat→Value
  | 0=>.nilFunc
  | 1=>.func (.func 67) #[pV c] #[]
  | _=>.func (.func 111) #[pV c] #[]
structure CyAt (w:World)(b1 c hp ph:Nat)(rv lv:Value)(rd ls:List Nat):Prop where
  cs:OwnL w c [pV hp,phV c ph,rv,lv]
  r:ORow w b1 rv (nI rd)
  l:ORow w b1 lv (nI ls)
  rc:¬InB rv c
  lc:¬InB lv c
  rl:∀b,InB rv b→¬InB lv b
  lo:b1≤c
def CyB (c:Nat)(rv lv:Value)(k:Nat):Prop:=k=c∨InB rv k∨InB lv k
theorem CyAt.fr {S:Nat→Prop}{w w':World}{b1 c hp ph:Nat}{rv lv:Value}{rd ls:List Nat}(h:CyAt w b1 c hp ph rv lv rd ls)(f:Fr S w w')(hs:∀k,CyB c rv lv k→¬S k):CyAt w' b1 c hp ph rv lv rd ls:=
  ⟨h.cs.fr f (hs c (.inl rfl)),h.r.frB f (fun b hb=>hs b (.inr (.inl hb))),h.l.frB f (fun b hb=>hs b (.inr (.inr hb))),h.rc,h.lc,h.rl,h.lo⟩
theorem CyAt.calm {w w':World}{b1 c hp ph:Nat}{rv lv:Value}{rd ls:List Nat}(h:CyAt w b1 c hp ph rv lv rd ls)(f:Calm w w'):CyAt w' b1 c hp ph rv lv rd ls:=h.fr f (fun _ _=>id)
theorem CyAt.lt {w:World}{b1 c hp ph:Nat}{rv lv:Value}{rd ls:List Nat}(h:CyAt w b1 c hp ph rv lv rd ls):∀k,CyB c rv lv k→k<w.heap.size∧b1≤k:=by
  rintro k (rfl|hk|hk)
  · exact⟨h.cs.lt (by simp),h.lo⟩
  · exact⟨(h.r.lt hk).2,(h.r.lt hk).1⟩
  · exact⟨(h.l.lt hk).2,(h.l.lt hk).1⟩
theorem CyAt.c0 {w:World}{b1 c hp ph:Nat}{rv lv:Value}{rd ls:List Nat}(h:CyAt w b1 c hp ph rv lv rd ls):w.cell? ⟨c,0,none⟩=some (pV hp):=(h.cs 0 _ rfl).1
theorem CyAt.c1 {w:World}{b1 c hp ph:Nat}{rv lv:Value}{rd ls:List Nat}(h:CyAt w b1 c hp ph rv lv rd ls):Own w c 1 (phV c ph):=h.cs 1 _ rfl
theorem CyAt.c2 {w:World}{b1 c hp ph:Nat}{rv lv:Value}{rd ls:List Nat}(h:CyAt w b1 c hp ph rv lv rd ls):Own w c 2 rv:=h.cs 2 _ rfl
theorem CyAt.c3 {w:World}{b1 c hp ph:Nat}{rv lv:Value}{rd ls:List Nat}(h:CyAt w b1 c hp ph rv lv rd ls):Own w c 3 lv:=h.cs 3 _ rfl
theorem CyAt.setPh {w:World}{b1 c hp ph:Nat}{rv lv:Value}{rd ls:List Nat}(h:CyAt w b1 c hp ph rv lv rd ls)(ph':Nat):CyAt (w.setCell ⟨c,1,none⟩ (phV c ph')) b1 c hp ph' rv lv rd ls:=by
  have f:=frS w (c) 1 (phV c ph');exact⟨h.cs.set 1 _ (by simp),h.r.frB f (fun b hb (e:b=c)=>h.rc (e ▸ hb)),h.l.frB f (fun b hb (e:b=c)=>h.lc (e ▸ hb)),h.rc,h.lc,h.rl,h.lo⟩
theorem CyAt.setR {w w1:World}{b1 c hp ph:Nat}{rv rv' lv:Value}{rd rd' ls:List Nat}(h:CyAt w b1 c hp ph rv lv rd ls)(f1:Fr (fun k=>InB rv k) w w1)(hr:ORow w1 b1 rv' (nI rd'))(hn:∀b,InB rv' b→InB rv b∨w.heap.size≤b):CyAt (w1.setCell ⟨c,2,none⟩ rv') b1 c hp ph rv' lv rd' ls:=by
  have f:Fr (fun k=>k=c) w1 (w1.setCell ⟨c,2,none⟩ rv'):=(Fr.refl (fun k=>k=c) w1).setCell (p:=⟨c,2,none⟩) (.inl rfl) _;have hlt:=h.lt
  have e1:∀b,InB rv' b→b≠c∧¬InB lv b:=fun b hb=>by
    rcases hn b hb with h1|h1
    · exact⟨fun e=>h.rc (e ▸ h1),h.rl b h1⟩
    · exact⟨fun e=>by have:=(hlt c (.inl rfl)).1;omega,fun e=>by have:=(hlt b (.inr (.inr e))).1;omega⟩
  exact⟨(h.cs.fr f1 h.rc).set 2 _ (by simp),hr.frB f (fun b hb=>(e1 b hb).1),(h.l.frB f1 (fun b hb e=>h.rl b e hb)).frB f (fun b hb (e:b=c)=>h.lc (e ▸ hb)),fun e=>(e1 c e).1 rfl,h.lc,fun b hb=>(e1 b hb).2,h.lo⟩
theorem CyAt.setR' {w:World}{b1 c hp ph:Nat}{rv rv' lv:Value}{rd rd' ls:List Nat}(h:CyAt w b1 c hp ph rv lv rd ls)(hr:ORow w b1 rv' (nI rd'))(e1:∀b,InB rv' b→b≠c∧¬InB lv b):CyAt (w.setCell ⟨c,2,none⟩ rv') b1 c hp ph rv' lv rd' ls:=by
  have f:Fr (fun k=>k=c) w (w.setCell ⟨c,2,none⟩ rv'):=(Fr.refl (fun k=>k=c) w).setCell (p:=⟨c,2,none⟩) (.inl rfl) _;exact⟨h.cs.set 2 _ (by simp),hr.frB f (fun b hb=>(e1 b hb).1),h.l.frB f (fun b hb (e:b=c)=>h.lc (e ▸ hb)),fun e=>(e1 c e).1 rfl,h.lc,fun b hb=>(e1 b hb).2,h.lo⟩
theorem CyAt.setL {w w1:World}{b1 c hp ph:Nat}{rv lv lv':Value}{rd ls ls':List Nat}(h:CyAt w b1 c hp ph rv lv rd ls)(f1:Fr (fun k=>InB lv k) w w1)(hr:ORow w1 b1 lv' (nI ls'))(hn:∀b,InB lv' b→InB lv b∨w.heap.size≤b):CyAt (w1.setCell ⟨c,3,none⟩ lv') b1 c hp ph rv lv' rd ls':=by
  have f:Fr (fun k=>k=c) w1 (w1.setCell ⟨c,3,none⟩ lv'):=(Fr.refl (fun k=>k=c) w1).setCell (p:=⟨c,3,none⟩) (.inl rfl) _;have hlt:=h.lt
  have e1:∀b,InB lv' b→b≠c∧¬InB rv b:=fun b hb=>by
    rcases hn b hb with h1|h1
    · exact⟨fun e=>h.lc (e ▸ h1),fun e=>h.rl b e h1⟩
    · exact⟨fun e=>by have:=(hlt c (.inl rfl)).1;omega,fun e=>by have:=(hlt b (.inr (.inl e))).1;omega⟩
  exact⟨(h.cs.fr f1 h.lc).set 3 _ (by simp),(h.r.frB f1 (fun b hb e=>h.rl b hb e)).frB f (fun b hb (e:b=c)=>h.rc (e ▸ hb)),hr.frB f (fun b hb=>(e1 b hb).1),h.rc,fun e=>(e1 c e).1 rfl,fun b hb e=>(e1 b e).2 hb,h.lo⟩
structure CH (w:World)(b1 c:Nat)(BA:HB)(A:HS)(XA:List Nat)(ph:Nat)(rv lv:Value)(rd ls:List Nat):Prop where
  ha:HAt w BA A XA
  cy:CyAt w b1 c BA.hp ph rv lv rd ls
  ap:∀k,CyB c rv lv k→¬HBlk BA k
theorem CH.calm {w w':World}{b1 c:Nat}{BA:HB}{A:HS}{XA:List Nat}{ph:Nat}{rv lv:Value}{rd ls:List Nat}(h:CH w b1 c BA A XA ph rv lv rd ls)(f:Calm w w'):CH w' b1 c BA A XA ph rv lv rd ls:=⟨h.ha.calm f,h.cy.calm f,h.ap⟩
theorem CH.stepA {w w':World}{b1 c:Nat}{BA BA':HB}{A A':HS}{XA XA':List Nat}{ph:Nat}{rv lv:Value}{rd ls:List Nat}(h:CH w b1 c BA A XA ph rv lv rd ls)(hA:HAt w' BA' A' XA')(hK:HKeep w BA w' BA'):CH w' b1 c BA' A' XA' ph rv lv rd ls:=by
  refine⟨hA,by rw[hK.hp];exact h.cy.fr hK.fr (fun k hk=>h.ap k hk),fun k hk e=>?_⟩;rcases hK.new k e with h1|h1
  · exact h.ap k hk h1
  · have:=(h.cy.lt k hk).1;omega
structure CKeep (w:World)(c:Nat)(rv lv:Value)(BA:HB)(w':World)(rv' lv':Value)(BA':HB):Prop where
  fr:Fr (fun k=>CyB c rv lv k∨HBlk BA k) w w'
  new:∀k,HBlk BA' k→HBlk BA k∨w.heap.size≤k
  cnew:∀k,CyB c rv' lv' k→CyB c rv lv k∨w.heap.size≤k
  hp:BA'.hp=BA.hp
theorem CKeep.refl (w:World)(c:Nat)(rv lv:Value)(BA:HB):CKeep w c rv lv BA w rv lv BA:=⟨Fr.refl _ _,fun _ h=>.inl h,fun _ h=>.inl h,rfl⟩
theorem CKeep.calm {w w':World}{c:Nat}{rv lv:Value}{BA:HB}(f:Calm w w'):CKeep w c rv lv BA w' rv lv BA:=⟨f.any,fun _ h=>.inl h,fun _ h=>.inl h,rfl⟩
theorem CKeep.stepA {w w':World}{c:Nat}{rv lv:Value}{BA BA':HB}(h:HKeep w BA w' BA'):CKeep w c rv lv BA w' rv lv BA':=⟨h.fr.mono (fun _ _ e=>.inr e),h.new,fun _ h=>.inl h,h.hp⟩
theorem CKeep.trans {w w1 w2:World}{c:Nat}{rv lv rv1 lv1 rv2 lv2:Value}{BA BA1 BA2:HB}(h:CKeep w c rv lv BA w1 rv1 lv1 BA1)(k:CKeep w1 c rv1 lv1 BA1 w2 rv2 lv2 BA2):CKeep w c rv lv BA w2 rv2 lv2 BA2:=by
  have hs:=h.fr.size;refine⟨h.fr.join k.fr (fun j hj e=>?_),fun j hj=>?_,fun j hj=>?_,k.hp.trans h.hp⟩
  · rcases e with e|e
    · exact .inl ((h.cnew j e).resolve_right (by omega))
    · exact .inr ((h.new j e).resolve_right (by omega))
  · rcases k.new j hj with h1|h1
    · exact h.new j h1
    · right;omega
  · rcases k.cnew j hj with h1|h1
    · exact h.cnew j h1
    · right;omega
theorem CKeep.cells {w w':World}{c:Nat}{rv lv rv' lv':Value}{BA:HB}(f:Fr (fun k=>CyB c rv lv k) w w')(hn:∀k,CyB c rv' lv' k→CyB c rv lv k∨w.heap.size≤k):CKeep w c rv lv BA w' rv' lv' BA:=
  ⟨f.mono (fun _ _ e=>.inl e),fun _ h=>.inl h,hn,rfl⟩
theorem cnew_yes (w:World)(hp:Nat):Calls Tryz.prog 32 #[pV hp] w fun e w'=>e = .returned (pV w.heap.size)∧CyAt w' w.heap.size w.heap.size hp 0 (.slice none 0 0) (.slice none 0 0) [] []∧Calm w w':=by
  go_enter Tryz.func32,Tryz.ntmps32;go_wp2;go_ret;exact⟨rfl,⟨OwnL.new w [pV hp,.nilFunc,.slice none 0 0,.slice none 0 0] _,ORow.nil _ _,ORow.nil _ _,InB.nil _,InB.nil _,fun b hb=>(InB.nil b hb).elim,Nat.le_refl _⟩,(Fr.refl _ _).alloc _⟩
section
variable {w:World}{b1 c hp ph:Nat}{rv lv:Value}{rd ls:List Nat}
theorem live_is (h:CyAt w b1 c hp ph rv lv rd ls):Calls Tryz.prog 37 #[pV c] w fun e w'=>e = .returned (.bool (decide (ph≠0)))∧w=w':=by
  have h1:=h.c1.1;clear h
  revert h1
  match ph with
  | 0=>
    intro h1;unfold phV at h1;go_enter Tryz.func37,Tryz.ntmps37;go_wp2;go_ret;exact⟨rfl,rfl⟩
  | 1=>
    intro h1;unfold phV at h1;go_enter Tryz.func37,Tryz.ntmps37;go_wp2;go_ret;exact⟨rfl,rfl⟩
  | n+2=>
    intro h1;unfold phV at h1;go_enter Tryz.func37,Tryz.ntmps37;go_wp2;go_ret;exact⟨by simp,rfl⟩
theorem ready_is (h:CyAt w b1 c hp ph rv lv rd ls):Calls Tryz.prog 48 #[pV c] w fun e w'=>e = .returned rv∧CyAt w' b1 c hp ph (.slice none 0 0) lv [] ls∧ORow w' b1 rv (nI rd)∧Fr (fun k=>k=c) w w':=by
  have z0:=h.c2.1;have z1:=h.c2.2;have hy:=hid (h.setR (Fr.refl _ _) (ORow.nil w b1) (rd':=[]) (fun b hb=>(InB.nil b hb).elim));have hr:Hid (ORow (w.setCell ⟨c,2,none⟩ (.slice none 0 0)) b1 rv (nI rd)):=h.r.frB ((Fr.refl (fun k=>k=c) w).setCell (p:=⟨c,2,none⟩) (.inl rfl) _) (fun b hb (e:b=c)=>h.rc (e ▸ hb));obtain⟨ra,rn,rc,rfl⟩:=h.r.letters;clear h;go_enter Tryz.func48,Tryz.ntmps48;go_wp2;go_ret;exact⟨rfl,hy.out,hr.out,(Fr.refl (fun k=>k=c) w).setCell (p:=⟨c,2,none⟩) (.inl rfl) _⟩
theorem lost_is (h:CyAt w b1 c hp ph rv lv rd ls):Calls Tryz.prog 51 #[pV c] w fun e w'=>e = .returned lv∧CyAt w' b1 c hp ph rv (.slice none 0 0) rd []∧ORow w' b1 lv (nI ls)∧Fr (fun k=>k=c) w w':=by
  have z0:=h.c3.1;have z1:=h.c3.2;have hy:=hid (h.setL (Fr.refl _ _) (ORow.nil w b1) (ls':=[]) (fun b hb=>(InB.nil b hb).elim));have hr:Hid (ORow (w.setCell ⟨c,3,none⟩ (.slice none 0 0)) b1 lv (nI ls)):=h.l.frB ((Fr.refl (fun k=>k=c) w).setCell (p:=⟨c,3,none⟩) (.inl rfl) _) (fun b hb (e:b=c)=>h.lc (e ▸ hb));obtain⟨ra,rn,rc,rfl⟩:=h.l.letters;clear h;go_enter Tryz.func51,Tryz.ntmps51;go_wp2;go_ret;exact⟨rfl,hy.out,hr.out,(Fr.refl (fun k=>k=c) w).setCell (p:=⟨c,3,none⟩) (.inl rfl) _⟩
end
def MvdI (w:World)(A:HS)(BA:HB)(l:List Nat)(v:Value)(k:Nat)(wr:World):Prop:=
  ∃A1 l1 BA1 XA1,GoesL A (l.take k) A1 l1∧HAt wr BA1 A1 XA1∧HKeep w BA wr BA1∧ORow wr w.heap.size v (nI l1)∧∀b,InB v b→¬HBlk BA1 b
def MvdPost (w:World)(A:HS)(BA:HB)(l:List Nat)(e:Ending)(w':World):Prop:=
  ∃u A1 l1 BA1 XA1,e = .returned u∧GoesL A l A1 l1∧HAt w' BA1 A1 XA1∧HKeep w BA w' BA1∧ORow w' w.heap.size u (nI l1)∧∀b,InB u b→¬HBlk BA1 b
set_option maxRecDepth 4000 in
theorem cmoved_is {w:World}{c:Nat}{BA:HB}{A:HS}{XA:List Nat}(h:HAt w BA A XA)(hc:w.cell? ⟨c,0,none⟩=some (hpV BA))(hcB:¬HBlk BA c){v:Value}{l:List Nat}(hrow:∀W,Fr (HBlk BA) w W→Row W v (iVs (nI l)))(hl:∀p∈l,p≤131072)(hlen:l.length≤100000) :
    Calls Tryz.prog 68 #[pV c,v] w (MvdPost w A BA l):=by
  obtain⟨N,hN⟩:∃N,l.length=N:=⟨_,rfl⟩;obtain⟨va,vc,hv,hg0⟩:=(hrow w (Fr.refl _ _)).loop;replace hv:v = .slice va N vc:=by rw[hv];simp[hN]
  subst hv;rw[hN] at hlen
  have hclt:c<w.heap.size:=by
    rcases Nat.lt_or_ge c w.heap.size with h1|h1
    · exact h1
    · simp[World.cell?,Array.getElem?_eq_none h1] at hc
  have hI0:Hid (MvdI w A BA l (.slice none 0 0) 0 w):=⟨A,[],BA,XA,by rw[List.take_zero];exact .nil,h,HKeep.refl _ _,ORow.nil _ _,fun b hb=>(InB.nil b hb).elim⟩;replace hrow:=hid hrow;replace hl:=hid hl;replace hN:=hid hN;have hcc:=hid hc;clear h hg0 hc;go_enter Tryz.func68,Tryz.ntmps68;go_wp2_with fail
  go_loopw [5,10] (fun x i wr=>∃k:Nat,k≤N∧i=vI k∧MvdI w A BA l x k wr) (fun _ i _=>N-(intOf i).toNat)
  case atStart=>exact⟨0,by omega,rfl,hI0.out⟩
  case round=>
    clear hI0;obtain⟨k,hk,rfl,A1,l1,BA1,XA1,hg,hA,hK,hr,hap⟩:=hrel;rename_i xv _;obtain⟨xa,xn,xc,rfl⟩:=hr.letters;rcases Nat.lt_or_ge k N with hlt|hge
    · have hkl:k<l.length:=by rw[hN.out];exact hlt
      have hl1:l1.length=k:=by rw[hg.len,List.length_take];omega
      obtain⟨ra,rc,hrv,hrk⟩:=(hrow.out wr hK.fr).loop;injection hrv with e1 e2 e3
      subst e1;obtain⟨b,off,rfl,-,hcell⟩:=hrk k (by simpa using hkl);rw[show(nI l).getD k 0=((l.getD k 0:Nat):Int) by simp[List.getD,hkl]] at hcell;have hc0:=hK.fr.cellAt hcc.out hcB;have hpk:l.getD k 0≤131072:=hl.out _ (by simp[List.getD,hkl]);have hmo:=hmoved hA hpk;rw[show hpV BA1=hpV BA by unfold hpV;rw[hK.hp]] at hmo;have hsz:=hK.fr.size
      have hst:Hid (∀ (W:World) (A2:HS) (q:Nat) (g2:Goes A1 (l.getD k 0) A2 q) (B2:HB) (X2:List Nat),HAt W B2 A2 X2→HKeep wr BA1 W B2→ORow W w.heap.size (.slice xa xn xc) (nI l1)∧(∀ (g gc:Nat) (W2:World),ORow W2 w.heap.size (.slice (some ⟨g,0,none⟩) ((nI l1).length+1) gc) (nI l1++[((q:Nat):Int)])→Fr (InB (.slice xa xn xc)) W W2→(InB (.slice xa xn xc) g∨W.heap.size≤g)→MvdI w A BA l (.slice (some ⟨g,0,none⟩) ((nI l1).length+1) gc) (k+1) W2)):=fun W A2 q g2 B2 X2 h2 k2=>by
        have hr2:=hr.frB k2.fr (fun b hb=>hap b hb)
        have hnb:∀b,InB (.slice xa xn xc) b→¬HBlk B2 b:=fun b hb e=>by
          rcases k2.new b e with h3|h3
          · exact hap b hb h3
          · have:=(hr.lt hb).2;omega
        refine⟨hr2,fun g gc W2 hr3 f3 hg3=>⟨A2,l1++[q],B2,X2,?_,h2.fr f3 (fun b hb e=>hnb b e hb),(hK.trans k2).far f3 (fun j hj e=>by have:=(hr.lt e).1;omega),by simpa using hr3,fun b hb=>?_⟩⟩
        · rw[take_succ_getD l hkl];exact .snoc hg g2
        · have:=InB.mk1 hb;subst this;rcases hg3 with h3|h3
          · exact hnb b h3
          · intro e;have:=h2.lt b e;omega
      have hln1:Hid (l1.length=k):=hl1;replace hmo:=hid hmo;clear hg hA hK hr hap hl1 hrk hpk e2 e3;generalize l.getD k 0=p at *;have hlk:(nI l1).length≤1000000:=by rw[show(nI l1).length=l1.length by simp];have:=hln1.out;omega
      go_wp2_with fail
      refine(hmo.out).mono ?_;rintro e w4 ⟨A2,q,g2,rfl,B2,X2,h2,k2⟩;obtain⟨hr2,hst2⟩:=hst.out w4 A2 q g2 B2 X2 h2 k2;have hb4:w.heap.size≤w4.heap.size:=by have:=k2.fr.size;omega
      replace hr2:=hid hr2;replace hst2:=hid hst2;clear hst g2 h2 k2 hmo;go_wp2_with (at_builtin;go_must (refine wpList_app1 rfl _ _ rfl w.heap.size _ (nI l1) hr2.out rfl ((q:Nat):Int) rfl hlk hb4 ?_);intro g gc w7 hr7 hf7 hg7)
      have hI:=hst2.out g gc w7 hr7 hf7 hg7;replace hI:=hid hI;clear hst2 hr7 hf7 hg7 hr2;go_wp2
      go_roundw
      case rel=>exact⟨k+1,by omega,by go_num,by rw[show l1.length=(nI l1).length by simp];exact hI.out⟩
      case measure=>simp[intOf];omega
    · obtain rfl:k=N:=by omega
      have hP:Hid (MvdPost w A BA l (.returned (.slice xa xn xc)) wr):=⟨_,A1,l1,BA1,XA1,rfl,by rw[List.take_of_length_le (by rw[hN.out];exact Nat.le_refl _)] at hg;exact hg,hA,hK,hr,hap⟩;clear hg hA hK hr hap;go_wp2;go_ret;exact hP.out
def StartPost (w:World)(b1 c:Nat)(BA:HB)(A:HS)(rv lv:Value)(rd ls l:List Nat)(e:Ending)(w':World):Prop:=
  ∃u A1 A2 l1 rd1 BA' XA' rv',e = .returned (.tuple #[u,.bool true])∧GoesL A.flip l A1 l1∧GoesL A1 rd A2 rd1∧CH w' b1 c BA' A2 XA' 1 rv' lv rd1 ls∧CKeep w c rv lv BA w' rv' lv BA'∧ORow w' w.heap.size u (nI l1)∧∀b,InB u b→¬HBlk BA' b∧¬CyB c rv' lv b
set_option maxRecDepth 4000 in
theorem start_yes {w:World}{b1 c:Nat}{BA:HB}{A:HS}{XA:List Nat}{rv lv:Value}{rd ls:List Nat}(h:CH w b1 c BA A XA 0 rv lv rd ls)(hm:A.mv=false){v:Value}{l:List Nat}(hrow:∀W,Fr (fun k=>k=c∨HBlk BA k) w W→Row W v (iVs (nI l)))(hl:∀p∈l,p≤131072)(hlen:l.length≤100000)(hd:∀p∈rd,p≤131072)(hdlen:rd.length≤100000) :
    Calls Tryz.prog 39 #[pV c,v] w (StartPost w b1 c BA A rv lv rd ls l):=by
  have hfl:=hid (hflip_yes h.ha hm);have y1:=h.cy.c1.1;have y0:=h.cy.c0;unfold phV at y1;obtain⟨va,vc,hv,-⟩:=(hrow w (Fr.refl _ _)).loop;have hrow':=hid hrow;rw[show(nI l).length=l.length by simp] at hv;rw[hv] at hrow';subst hv;have H:=hid h;clear hrow h;go_enter Tryz.func39,Tryz.ntmps39;go_wp2_with fail
  refine(hfl.out).mono ?_;rintro e w1 ⟨rfl,hA1,hK1⟩;have H1:=H.out.stepA hA1 hK1;have kk1:=CKeep.stepA (c:=c) (rv:=rv) (lv:=lv) hK1;generalize BA.flip A.u=BA1 at *;have z1:=H1.cy.c1;have z1a:=z1.1;have z1b:=z1.2;unfold phV at z1a;have H2:CH (w1.setCell ⟨c,1,none⟩ (phV c 1)) b1 c BA1 A.flip XA 1 rv lv rd ls:=⟨H1.ha.fr ((Fr.refl (fun k=>k=c) w1).setCell (p:=⟨c,1,none⟩) (.inl rfl) _) (fun k hk (e:k=c)=>H1.ap c (.inl rfl) (e ▸ hk)),H1.cy.setPh 1,H1.ap⟩;have kk2:CKeep w1 c rv lv BA1 (w1.setCell ⟨c,1,none⟩ (phV c 1)) rv lv BA1:=CKeep.cells ((Fr.refl _ w1).setCell (p:=⟨c,1,none⟩) (.inl (.inl rfl)) _) (fun _ h=>.inl h);replace kk1:=kk1.trans kk2;have hf1:Hid (Fr (fun k=>k=c∨HBlk BA k) w (w1.setCell ⟨c,1,none⟩ (phV c 1))):=(hK1.fr.mono (fun _ _ e=>.inr e)).setCell (p:=⟨c,1,none⟩) (.inl (.inl rfl)) _;have hnew1:=hid hK1.new;unfold phV at H2 kk1 hf1;replace H2:=hid H2;replace kk1:=hid kk1;clear hA1 hK1 H1 kk2 z1 H hfl;go_wp2_with fail
  generalize World.setCell w1 _ _=w2 at *
  have hmv1:=cmoved_is (c:=c) H2.out.ha (show w2.cell? ⟨c,0,none⟩=some (hpV BA1) from H2.out.cy.c0) (H2.out.ap c (.inl rfl)) (v:=.slice va l.length vc) (l:=l) (fun W f=>by
    have:=hrow'.out W (hf1.out.join f (fun j hj e=>.inr ((hnew1.out j e).resolve_right (by omega))))
    simpa using this) hl hlen
  replace hmv1:=hid hmv1;refine(hmv1.out).mono ?_;rintro e w3 ⟨u,A1,l1,BA2,XA2,rfl,g1,hA3,hK3,hr3,hap3⟩;have H3:=H2.out.stepA hA3 hK3;have kk3:=kk1.out.trans (CKeep.stepA (c:=c) (rv:=rv) (lv:=lv) hK3);have y2:=H3.cy.c2.1;have y0':=H3.cy.c0;obtain⟨ua,un,uc,rfl⟩:=hr3.letters;obtain⟨ra,rn,rc,rfl⟩:=H3.cy.r.letters;have hmv2:=hid (cmoved_is (c:=c) H3.ha (show w3.cell? ⟨c,0,none⟩=some (hpV BA2) from H3.cy.c0) (H3.ap c (.inl rfl)) (v:=.slice ra rn rc) (l:=rd) (fun W f=>(H3.cy.r.frB f (fun b hb=>H3.ap b (.inr (.inl hb)))).row) hd hdlen);replace H3:=hid H3;replace kk3:=hid kk3;replace hr3:=hid hr3;have hge3:Hid (w.heap.size≤w2.heap.size):=hf1.out.size;have hap3':=hid hap3;have hsz23:=hid hK3.fr.size;have hlt2:=hid H2.out.cy.lt;clear hmv1 hA3 hK3 hap3 kk1 H2 hf1 hnew1 y0 y1;go_wp2_with fail
  refine(hmv2.out).mono ?_;rintro e w4 ⟨u2,A2,l2,BA3,XA3,rfl,g2,hA4,hK4,hr4,hap4⟩;have H4:=H3.out.stepA hA4 hK4;have kk4:=kk3.out.trans (CKeep.stepA (c:=c) (rv:=.slice ra rn rc) (lv:=lv) hK4);obtain⟨u2a,u2n,u2c,rfl⟩:=hr4.letters;have hlt4:=H3.out.cy.lt;have hf5:=frS w4 (c) 2 (.slice u2a u2n u2c);have hsz3:=hK4.fr.size
  have hu2:∀b,InB (.slice u2a u2n u2c) b→b≠c∧¬InB lv b∧w3.heap.size≤b:=fun b hb=>by
    have h1:=(hr4.lt hb).1;exact⟨fun e=>by have:=(hlt4 c (.inl rfl)).1;omega,fun e=>by have:=(hlt4 b (.inr (.inr e))).1;omega,h1⟩
  have H5:CH (w4.setCell ⟨c,2,none⟩ (.slice u2a u2n u2c)) b1 c BA3 A2 XA3 1 (.slice u2a u2n u2c) lv l2 ls:=⟨H4.ha.fr hf5 (fun k hk (e:k=c)=>H4.ap c (.inl rfl) (e ▸ hk)),H4.cy.setR' (hr4.mono (by have:=(hlt4 c (.inl rfl));omega)) (fun b hb=>⟨(hu2 b hb).1,(hu2 b hb).2.1⟩),fun k hk e=>by
    rcases hk with rfl|hk|hk
    · exact H4.ap _ (.inl rfl) e
    · exact hap4 k hk e
    · exact H4.ap _ (.inr (.inr hk)) e⟩
  have hge2:=hge3.out;have hsz2:=hsz23.out
  have kk5:CKeep w c (.slice ra rn rc) lv BA (w4.setCell ⟨c,2,none⟩ (.slice u2a u2n u2c)) (.slice u2a u2n u2c) lv BA3:=by
    refine⟨kk4.fr.join hf5 (fun j _ e=>.inl (.inl e)),kk4.new,fun k hk=>?_,kk4.hp⟩;rcases hk with rfl|hk|hk
    · exact .inl (.inl rfl)
    · right;have:=(hu2 k hk).2.2;omega
    · exact .inl (.inr (.inr hk))
  have o2:=H4.cy.c2;have o2a:=o2.1;have o2b:=o2.2
  have hr5:Hid (ORow (w4.setCell ⟨c,2,none⟩ (.slice u2a u2n u2c)) w.heap.size (.slice ua un uc) (nI l1)):=
    ((hr3.out.frB hK4.fr (fun b hb=>hap3'.out b hb)).frB hf5 (fun b hb (e:b=c)=>by have:=(hr3.out.lt hb).1;have:=(hlt2.out c (.inl rfl)).1;omega)).mono hge2
  have hap5:Hid (∀b,InB (.slice ua un uc) b→¬HBlk BA3 b∧¬CyB c (.slice u2a u2n u2c) lv b):=fun b hb=>by
    have h1:=hr3.out.lt hb;refine⟨fun e=>?_,fun e=>?_⟩
    · rcases hK4.new b e with h2|h2
      · exact hap3'.out b hb h2
      · omega
    · rcases e with e|e|e
      · have:=(hlt2.out c (.inl rfl)).1;omega
      · have:=(hu2 b e).2.2;omega
      · have:=(hlt2.out b (.inr (.inr e))).1;omega
  replace H5:=hid H5;replace kk5:=hid kk5;have g1':=hid g1;have g2':=hid g2;clear H4 kk4 hr4 hap4 hA4 hK4 o2 hu2 hf5 hlt4 H3 kk3 hmv2 hr3 hap3' hge3 hrow';go_wp2
  go_ret2
  exact⟨_,A1,A2,l1,l2,BA3,XA3,_,rfl,g1'.out,g2'.out,H5.out,kk5.out,hr5.out,hap5.out⟩
theorem step_appL {ops:Array Oper}{o:Oper}{a:Act}{w:World}{K:Act→World→Prop}{Q:Exit→Act→World→Prop}{E:Prop}(hgd:o.guard=none)(s x:Operand)
    (ho:o.op = .call { callee:=.builtin .append,args:=#[s,x],argTypes:=#[23,23] })
    (base:Nat) (v:Value) (l:List Int) (hown:ORow w base v l) (hs:a.eval s=v) (u:Value) (r:List Int) (hr:Row w u (iVs r)) (hx:a.eval x=u) (hl:l.length+r.length≤1000000) (hbase:base≤w.heap.size)
    (h:∀v' w',ORow w' base v' (l++r)→Fr (InB v) w w'→(∀b,InB v' b→InB v b∨w.heap.size≤b)→K (a.put o.dst v') w') :
    if Region.wanted o (yielded ops a.tmps)=true then Oper.wp Tryz.prog o a w K Q else E:=by
  obtain⟨A,c,rfl,hA⟩:=hr;have hlen:(iVs r).length=r.length:=by simp
  rw[hlen] at hx;rcases A with _|ad
  · obtain rfl:r=[]:=by
      rcases hA with hA|⟨b,off,hb,_⟩
      · simpa using hA
      · cases hb
    have hw:Region.wanted o (yielded ops a.tmps)=true:=by simp[Region.wanted,hgd]
    rw[if_pos hw];have hrun:=run_app_none hown o.type c;unfold Oper.wp execOp;simp only[ho,resolve,invoke,builtin,Sem.run_bind,Sem.run_pure,Result.andThen_ok,List.map_toArray,List.map_cons,List.map_nil,hs,hx,List.length_nil,hrun];exact h v w (by simpa using hown) (Fr.refl _ _) (fun b hb=>.inl hb)
  · obtain⟨i0,hi,hz0,hz1,hz2⟩:=info_parts info_int;have hw:Region.wanted o (yielded ops a.tmps)=true:=by simp[Region.wanted,hgd]
    rw[if_pos hw]
    obtain⟨v',w',hrun,hown',hgrow,_,hloc⟩:=run_append_own_at (P:=Tryz.prog) w base 23 o.type 3 i0 (vI 0) 1 8 Tryz.underlying23 hi hz0 hz1 hz2 rfl (by decide) v l.length (iVs l) hown ad r.length c (iVs r) (by simp) (fun j y hj=>by
      have hjl:j<(iVs r).length:=(List.getElem?_eq_some_iff.1 hj).1;rcases hA with hA|⟨b,off,hb,hc⟩
      · rw[hA] at hjl;simp at hjl
      · cases hb;rw[addr_at,hc j hjl];rw[List.getElem?_eq_getElem hjl] at hj
        exact hj) (by simp[Value.oneCell']) (by unfold maxLen;omega) (by omega) hbase
    unfold Oper.wp execOp;simp only[ho,resolve,invoke,builtin,Sem.run_bind,Sem.run_pure,Result.andThen_ok,List.map_toArray,List.map_cons,List.map_nil,hs,hx,hrun];refine h v' w' ?_ (Fr.grown (Fr.refl _ _) hgrow (fun k hk=>.inl hk)) ?_
    · show World.ownsRow _ _ _ _ _ _ _;rw[List.length_append,iVs,List.map_append];exact hown'
    · intro b hb;rcases hloc with hloc|hloc
      · exact .inl (hloc.symm.trans hb)
      · right;have:some w.heap.size=some b:=hloc.symm.trans hb;injection this with this;omega
def FinP (w:World)(BA:HB)(Q:HS→List Nat→Prop)(e:Ending)(w':World):Prop:=
  ∃u l' A' BA' XA',e = .returned u∧HAt w' BA' A' XA'∧HKeep w BA w' BA'∧ORow w' w.heap.size u (nI l')∧(∀b,InB u b→¬HBlk BA' b)∧l'.length≤100000∧Q A' l'
def FirstPost (w:World)(b1 c:Nat)(BA:HB)(rv lv:Value)(rd ls:List Nat)(Q:HS→List Nat→Prop)(e:Ending)(w':World):Prop:=
  e = .returned (.bool false)∧∃l' A' BA' XA' rv',CH w' b1 c BA' A' XA' 2 rv' lv (rd++l') ls∧CKeep w c rv lv BA w' rv' lv BA'∧Q A' l'
set_option maxRecDepth 4000 in
theorem first_is {w:World}{b1 c:Nat}{BA:HB}{A:HS}{XA:List Nat}{ph:Nat}{rv lv:Value}{rd ls:List Nat}{Q:HS→List Nat→Prop}(h:CH w b1 c BA A XA ph rv lv rd ls)(hdlen:rd.length≤100000)
    (hF:∀W,Calm w W→Calls Tryz.prog 110 #[hpV BA] W (FinP W BA Q)) :
    Calls Tryz.prog 67 #[pV c] w (FirstPost w b1 c BA rv lv rd ls Q):=by
  have y0:=h.cy.c0;have y2:=h.cy.c2.1;have y2b:=h.cy.c2.2;have hclt:=(h.cy.lt c (.inl rfl)).1;have hlo:Hid (b1≤w.heap.size):=by have:=h.cy.lo;show b1≤_;omega
  obtain⟨ra,rn,rc,rfl⟩:=h.cy.r.letters;have hdl:=hid hdlen;replace hF:=hid hF;have H:=hid h;clear h hdlen;go_enter Tryz.func67,Tryz.ntmps67;go_wp2_with fail
  go_region_law (first
    | (refine step_appL rfl _ _ rfl b1 (.slice ra rn rc) (nI rd) hr1.out rfl (.slice ua un uc) (nI l') hu1.out.row rfl (by simp;have:=hdl.out;have:=hll.out;omega) (by have:=hlo.out;have:=hsz.out;omega) ?_;intro v' w7 hr7 f7 hn7;have m0:=f7.cellAt z0 hcn.out;have m2:=f7.cellAt z2 hcn.out;have m2b:=f7.frozenAt z2 z2b hcn.out;obtain⟨va,vn,vc,rfl⟩:=hr7.letters;replace hr7:=hid hr7;replace f7:=hid f7;replace hn7:=hid hn7)
    | (go_simp;go_at_call 110;refine(hF.out _ (by first|exact Fr.refl _ _|exact(Fr.refl _ _).drew)).mono ?_;rintro e w6 ⟨u,l',A',BA',XA',rfl,hA,hK,hu,hun,hll,hq⟩;have H6:=hid ((H.out.calm (by first|exact Fr.refl _ _|exact(Fr.refl _ _).drew)).stepA hA hK);have hsz:Hid (w.heap.size≤w6.heap.size):=hK.fr.size;have hk6:Hid (CKeep w c (.slice ra rn rc) lv BA w6 (.slice ra rn rc) lv BA'):=(CKeep.calm (by first|exact Fr.refl _ _|exact(Fr.refl _ _).drew)).trans (CKeep.stepA hK);have z0:w6.cell? ⟨c,0,none⟩=some (hpV BA):=(by have:=H6.out.cy.c0;rw[hK.hp] at this;exact this);have z2:=H6.out.cy.c2.1;have z2b:=H6.out.cy.c2.2;have hr1:=hid H6.out.cy.r;have hcn:Hid (¬InB (.slice ra rn rc) c):=H6.out.cy.rc;have hlt6:=hid H6.out.cy.lt;obtain⟨ua,un,uc,rfl⟩:=hu.letters;have hu1:=hid hu;have hun1:=hid hun;replace hll:=hid hll;replace hq:=hid hq;clear hA hK hu hun))
  all_goals
    have f7':=f7.out;have hn7':=hn7.out;have n1:Own w7 c 1 (phV c ph):=H6.out.cy.c1.fr f7' hcn.out;have n1a:=n1.1;have n1b:=n1.2;have hy:=hid ((H6.out.cy.setR f7' (by simpa using hr7.out) (rd':=rd++l') hn7').setPh 2)
    have hapv:∀b,InB (.slice va vn vc) b→¬HBlk BA' b:=fun b hb e=>by
      rcases hn7' b hb with h1|h1
      · exact H6.out.ap b (.inr (.inl h1)) e
      · have:=H6.out.ha.lt b e;omega
    have f8:Fr (fun k=>k=c∨InB (.slice ra rn rc) k) w6 ((w7.setCell ⟨c,2,none⟩ (.slice va vn vc)).setCell ⟨c,1,none⟩ (phV c 2)):=
      ((f7'.mono (fun _ _ e=>.inr e)).setCell (p:=⟨c,2,none⟩) (.inl (.inl rfl)) _).setCell (p:=⟨c,1,none⟩) (.inl (.inl rfl)) _
    have hP:Hid (FirstPost w b1 c BA (.slice ra rn rc) lv rd ls Q (.returned (.bool false)) ((w7.setCell ⟨c,2,none⟩ (.slice va vn vc)).setCell ⟨c,1,none⟩ (phV c 2))):=by
      refine⟨rfl,l',A',BA',XA',.slice va vn vc,⟨H6.out.ha.fr f8 (fun k hk e=>?_),hy.out,fun k hk e=>?_⟩,hk6.out.trans (CKeep.cells (f8.mono (fun k _ e=>?_)) (fun k hk=>?_)),hq.out⟩
      · rcases e with e|e
        · exact H6.out.ap c (.inl rfl) (e ▸ hk)
        · exact H6.out.ap k (.inr (.inl e)) hk
      · rcases hk with hk|hk|hk
        · exact H6.out.ap k (.inl hk) e
        · exact hapv k hk e
        · exact H6.out.ap k (.inr (.inr hk)) e
      · rcases e with e|e
        · exact .inl e
        · exact .inr (.inl e)
      · rcases hk with hk|hk|hk
        · exact .inl (.inl hk)
        · rcases hn7' k hk with h1|h1
          · exact .inl (.inr (.inl h1))
          · right;exact h1
        · exact .inl (.inr (.inr hk))
    unfold phV at hP;unfold phV at n1a;clear hy f8 hapv n1 f7' hn7' hr7 f7 hn7 H6 hu1 hr1 hq hk6 hF H hun1 hlt6;go_wp2;go_ret;exact hP.out
def DroP (w:World)(BA:HB)(Q:HS→List Nat→Prop)(e:Ending)(w':World):Prop:=
  ∃v ls0 A' BA' XA',e = .returned (.tuple #[v,.bool true])∧HAt w' BA' A' XA'∧HKeep w BA w' BA'∧ORow w' w.heap.size v (nI ls0)∧ls0.length≤100000∧Q A' ls0
def SecondPost (w:World)(b1 c:Nat)(BA:HB)(rv lv:Value)(rd ls:List Nat)(Q:HS→List Nat→Prop)(e:Ending)(w':World):Prop:=
  e = .returned (.bool true)∧∃ls0 A' BA' XA' lv',CH w' b1 c BA' A' XA' 0 rv lv' rd (ls++ls0)∧CKeep w c rv lv BA w' rv lv' BA'∧Q A' ls0
set_option maxRecDepth 4000 in
theorem second_is {w:World}{b1 c:Nat}{BA:HB}{A:HS}{XA:List Nat}{ph:Nat}{rv lv:Value}{rd ls:List Nat}{Q:HS→List Nat→Prop}(h:CH w b1 c BA A XA ph rv lv rd ls)(hdlen:ls.length≤100000)
    (hF:Calls Tryz.prog 164 #[hpV BA] w (DroP w BA Q)) :
    Calls Tryz.prog 111 #[pV c] w (SecondPost w b1 c BA rv lv rd ls Q):=by
  have y0:=h.cy.c0;have hclt:=(h.cy.lt c (.inl rfl)).1;have hlo:Hid (b1≤w.heap.size):=by have:=h.cy.lo;show b1≤_;omega
  obtain⟨la,ln,lc,rfl⟩:=h.cy.l.letters;have hdl:=hid hdlen;replace hF:=hid hF;have H:=hid h;clear h hdlen;go_enter Tryz.func111,Tryz.ntmps111;go_wp2_with fail
  refine(hF.out).mono ?_;rintro e w6 ⟨u,ls0,A',BA',XA',rfl,hA,hK,hu,hll,hq⟩;have H6:=H.out.stepA hA hK;have hsz:Hid (w.heap.size≤w6.heap.size):=hK.fr.size;have hk6:Hid (CKeep w c rv (.slice la ln lc) BA w6 rv (.slice la ln lc) BA'):=CKeep.stepA hK;have z0:w6.cell? ⟨c,0,none⟩=some (hpV BA):=by have:=H6.cy.c0;rw[hK.hp] at this;exact this
  have z3:=H6.cy.c3.1;have z3b:=H6.cy.c3.2;have z1:=H6.cy.c1;have hr1:=hid H6.cy.l;have hcn:Hid (¬InB (.slice la ln lc) c):=H6.cy.lc;obtain⟨ua,un,uc,rfl⟩:=hu.letters;have hu1:=hid hu;have hlx:(nI ls).length+(nI ls0).length≤1000000:=by simp;have:=hdl.out;omega
  have hbx:b1≤w6.heap.size:=by have:=hlo.out;have:=hsz.out;omega
  replace H6:=hid H6;replace hq:=hid hq;replace z1:=hid z1;replace hlx:=hid hlx;clear hA hK hu hll hF H y0 hdl;go_wp2_with (at_builtin;go_must (refine wpList_appL rfl _ _ rfl b1 (.slice la ln lc) (nI ls) hr1.out rfl (.slice ua un uc) (nI ls0) hu1.out.row rfl hlx.out hbx ?_;intro v' w7 hr7 f7 hn7;obtain⟨va,vn,vc,rfl⟩:=hr7.letters;have m3:=f7.cellAt z3 hcn.out;have m3b:=f7.frozenAt z3 z3b hcn.out;have m1a:=(z1.out.fr f7 hcn.out).1;have m1b:=(z1.out.fr f7 hcn.out).2;replace hr7:=hid hr7;replace f7:=hid f7;replace hn7:=hid hn7))
  replace hr7:=hr7.out;replace f7:=f7.out;replace hn7:=hn7.out;have hy:=hid ((H6.out.cy.setL f7 (by simpa using hr7) (ls':=ls++ls0) hn7).setPh 0);have hlt6:=hid H6.out.cy.lt
  have hapv:∀b,InB (.slice va vn vc) b→¬HBlk BA' b:=fun b hb e=>by
    rcases hn7 b hb with h1|h1
    · exact H6.out.ap b (.inr (.inr h1)) e
    · have:=H6.out.ha.lt b e;omega
  have f8:Fr (fun k=>k=c∨InB (.slice la ln lc) k) w6 ((w7.setCell ⟨c,3,none⟩ (.slice va vn vc)).setCell ⟨c,1,none⟩ (phV c 0)):=
    ((f7.mono (fun _ _ e=>.inr e)).setCell (p:=⟨c,3,none⟩) (.inl (.inl rfl)) _).setCell (p:=⟨c,1,none⟩) (.inl (.inl rfl)) _
  have hP:Hid (SecondPost w b1 c BA rv (.slice la ln lc) rd ls Q (.returned (.bool true)) ((w7.setCell ⟨c,3,none⟩ (.slice va vn vc)).setCell ⟨c,1,none⟩ (phV c 0))):=by
    refine⟨rfl,ls0,A',BA',XA',.slice va vn vc,⟨H6.out.ha.fr f8 (fun k hk e=>?_),hy.out,fun k hk e=>?_⟩,hk6.out.trans (CKeep.cells (f8.mono (fun k _ e=>?_)) (fun k hk=>?_)),hq.out⟩
    · rcases e with e|e
      · exact H6.out.ap c (.inl rfl) (e ▸ hk)
      · exact H6.out.ap k (.inr (.inr e)) hk
    · rcases hk with hk|hk|hk
      · exact H6.out.ap k (.inl hk) e
      · exact H6.out.ap k (.inr (.inl hk)) e
      · exact hapv k hk e
    · rcases e with e|e
      · exact .inl e
      · exact .inr (.inr e)
    · rcases hk with hk|hk|hk
      · exact .inl (.inl hk)
      · exact .inl (.inr (.inl hk))
      · rcases hn7 k hk with h1|h1
        · exact .inl (.inr (.inr h1))
        · right;have:=f7.size;exact h1
  unfold phV at hP;clear hy f8 hapv hr7 f7 hn7 z1 H6 hu1 hr1 hq hk6;go_wp2;go_ret;exact hP.out
end
section
open Go.RowKit Go.Shelf
structure HW (s:HS):Prop where
  wf:WF s
  co:Coll s
abbrev eB:HS:=HS.start 16000
abbrev z4:List Nat:=[0,0,0,0]
theorem z4_get (j:Nat):z4.getD j 0=0:=by
  match j with
  | 0=>rfl|1=>rfl|2=>rfl|3=>rfl
  | n+4=>rfl
theorem HW.pair {s:HS}(h:HW s)(m:Nat):Pair id s eB z4 z4 m:=by
  refine⟨⟨h.wf,WF.start _,rfl,rfl,fun k h1 h2=>?_,fun k m _ _ h=>h,fun k p o h1 h2=>?_⟩,h.co,rfl,rfl,Nat.zero_le _,⟨Nat.zero_le _,Nat.zero_le _⟩,⟨rfl,rfl,fun j hj=>.inl (z4_get j),fun j hj=>⟨0,Nat.zero_le _,.inl ⟨z4_get j,rfl⟩,.inl ⟨z4_get j,rfl⟩⟩⟩⟩
  · have h2:k≤0:=h2;omega
  · have h2:k≤0:=h2;omega
theorem HW.of {σ:Nat→Nat}{A B:HS}{R S:List Nat}{m:Nat}(h:Pair σ A B R S m):HW A:=⟨h.tw.wa,h.ca⟩
theorem HW.start (n:Nat):HW (HS.start n):=⟨WF.start n,Coll.start n⟩
theorem HW.alloc {s:HS}{X X':List Nat}(h:HW s)(hr:HRep s X){p d:Nat}{wk fn:Bool}(h':HRep (s.alloc p d wk fn) X'):HW (s.alloc p d wk fn):=HW.of ((h.pair 4).allocA hr h')
theorem HW.flip {s:HS}{X:List Nat}(h:HW s)(hr:HRep s X)(hm:s.mv=false):HW s.flip:=HW.of ((h.pair 4).flip hr hm)
theorem HW.goes {s s':HS}{X:List Nat}(h:HW s)(hr:HRep s X){p q:Nat}(g:Goes s p s' q):HW s':=HW.of ((h.pair 4).goes hr g)
theorem HW.goesL {s s':HS}{X:List Nat}(h:HW s)(hr:HRep s X){l l':List Nat}(g:GoesL s l s' l'):HW s':=HW.of ((h.pair 4).goesL hr g)
theorem HW.ptr {s s':HS}{X X':List Nat}(h:HW s)(hr:HRep s X){i a k q:Nat}{o:Ob}(c:CurAt s i a o)(hk:k<o.p)(g:Goes s (o.ps.getD k 0) s' q)(h':HRep (s'.upd i (o.setp true k q)) X') :
    HW (s'.upd i (o.setp true k q))∧Placed (s'.upd i (o.setp true k q)) q:=by
  have:=(h.pair 4).ptr hr c hk g h';exact⟨HW.of this.1,this.2.1⟩
theorem Placed.ref {s:HS}{q:Nat}(h:Placed s q):∃n,Ref s q n:=by
  rcases h with h|h
  · exact⟨0,.inl ⟨h,rfl⟩⟩
  · obtain⟨x,hx,rfl⟩:=List.mem_map.1 h;exact⟨x.2.ser,.inr (.inl ⟨x.2,hx,rfl⟩)⟩
theorem HW.upd {s:HS}{X X':List Nat}(h:HW s)(hr:HRep s X){i a:Nat}{o o':Ob}(c:CurAt s i a o)(hs:SameK o o')(h':HRep (s.upd i o') X')(hp:∀q∈o'.ps,q∈o.ps∨Placed s q):HW (s.upd i o'):=by
  refine⟨WF.of h' ((c.updIn hs).sem hr h.wf (fun q hq=>?_)),h.co.upd hr c hs (fun q hq=>?_)⟩
  · rcases hp q hq with h1|h1
    · exact h.wf.ptr a o (.inl c.mem') q h1
    · exact h1.ref
  · unfold Ob.strong at hq ⊢;rw[hs.2.2.1] at hq;split at hq
    · cases hq
    · rename_i hw;rw[if_neg hw];exact hp q hq
theorem HW.place {s:HS}(h:HW s){p:Nat}{o:Ob}(hl:Live s p o){q:Nat}(hq:q∈o.ps):Place s q:=let ⟨_,hn⟩:=h.wf.ptr p o hl q hq;hn.place
theorem strong_sub {o:Ob}{q:Nat}(h:q∈o.strong):q∈o.ps:=by
  unfold Ob.strong at h;split at h
  · cases h
  · exact h
theorem scan_at {A:HS}{X:List Nat}(h:HRep A X)(c:Coll A)(hm:A.mv=true):A.scan=A.top∨∃k o,CurAt A k A.scan o:=by
  obtain⟨k,k1,k2,_⟩:=c.scan hm;rcases Nat.lt_or_eq_of_le k1 with hl|he
  · right;refine⟨k,(A.cur.getD k ob0).2,hl,?_⟩;rw[k2,←(h.place hl).1]
  · left;rw[k2,he];exact h.half.cl.lie.end
def HIn (w:World)(BA:HB)(w':World)(A':HS):Prop:=∃BA' XA',HAt w' BA' A' XA'∧HKeep w BA w' BA'∧HW A'
theorem HIn.calm {w w':World}{BA:HB}{A:HS}{XA:List Nat}(h:HAt w BA A XA)(hw:HW A)(c:Calm w w'):HIn w BA w' A:=⟨BA,XA,h.calm c,HKeep.calm BA c,hw⟩
section
variable {w:World}{BA:HB}{A:HS}{XA:List Nat}
theorem cur_cases (A:HS)(a:Nat):(∃i o,CurAt A i a o)∨a∉plc A.cur:=by
  by_cases h:a∈plc A.cur
  · exact .inl (CurAt.of_mem h)
  · exact .inr h
theorem not_nI {a:Nat}{l:List Nat}(h:a∉l):((a:Nat):Int)∉nI l:=fun e=>h (mem_nI.1 e)
theorem i64N {a:Nat}(h:a≤131072):I64 (a:Nat):=⟨by omega,by omega⟩
noncomputable def sr (A:HS)(a:Nat):Nat:=open Classical in if h:∃o,(a,o)∈A.cur then h.choose.ser else 0
theorem sr_of (hw:HW A){i a:Nat}{o:Ob}(c:CurAt A i a o):sr A a=o.ser:=by
  unfold sr;have h:∃o,(a,o)∈A.cur:=⟨o,c.mem'⟩;rw[dif_pos h];have:=hw.wf.plC _ h.choose_spec _ c.mem' rfl;have e:h.choose=o:=congrArg Prod.snd this;rw[e]
theorem sr_no {a:Nat}(h:a∉plc A.cur):sr A a=0:=by
  unfold sr;rw[dif_neg];rintro ⟨o,ho⟩;exact h (List.mem_map.2 ⟨_,ho,rfl⟩)
theorem hserial_any (h:HAt w BA A XA)(hw:HW A){a:Nat}(ha:a≤131072) :
    Calls Tryz.prog 50 #[hpV BA,vI a] w fun e w'=>(∃x:Int,e = .returned (.tuple #[vI (sr A a:Nat),vI x]))∧Calm w w':=by
  rcases cur_cases A a with ⟨i,o,c⟩|hm
  · exact(hserial_yes h c).mono (fun e w' ⟨h1,h2⟩=>⟨⟨0,by rw[h1,sr_of hw c]⟩,h2⟩)
  · exact(hserial_no h (i64N ha) (not_nI hm)).mono (fun e w' ⟨h1,h2⟩=>⟨⟨70,by rw[h1,sr_no hm];rfl⟩,h2⟩)
def HOk (w:World)(BA:HB)(A:HS)(w':World):Prop:=∃A',HIn w BA w' A'∧A'.n=A.n∧A'.ser=A.ser∧A'.mv=A.mv
theorem hscan_any (h:HAt w BA A XA)(hw:HW A)(hm:A.mv=true) :
    Calls Tryz.prog 70 #[hpV BA] w fun e w'=>(e = .returned (.bool false)∧A.scan=A.top∧Calm w w')∨(e = .returned (.bool true)∧HOk w BA A w'):=by
  rcases scan_at h.rep hw.co hm with hs|⟨k,o,d⟩
  · exact(hscan_no h hs).mono (fun e w' ⟨h1,h2⟩=>.inl ⟨h1,hs,h2⟩)
  · refine(hscan_yes h hm d rfl (fun q hq=>hw.place (.inl d.mem') (strong_sub hq))).mono (fun e w' ⟨h1,s',l',g,hq,BA',X',hA,hK⟩=>.inr ⟨h1,_,⟨BA',X',hA,hK,HW.of ((hw.pair 4).scan h.rep d rfl hm g hq hA.rep)⟩,?_,?_,?_⟩)
    · exact g.same.1
    · exact g.same.2.2.2.2.1
    · exact g.same.2.2.1
def FinW (A A':HS)(l':List Nat):Prop:=HW A'∧A'.n=A.n∧A'.ser=A.ser∧A'.mv=A.mv∧(∀q∈l',q≤131072)∧l'.length≤A.ser
theorem hfinals_any (h:HAt w BA A XA)(hw:HW A)(hm:A.mv=true):Calls Tryz.prog 110 #[hpV BA] w (FinP w BA (FinW A)):=by
  refine(hfinals h hm (fun p hp'=>Place.le h.rep (.inr (hw.co.fn p hp')))).mono (fun e w' ⟨st,lf,s',l',v,h1,h2,h3,h4,h5,BA',X',h6,h7,h8⟩=>⟨v,l',s',BA',X',h4,h6,h7,h5,h8,?_,?_⟩)
  · have:=h1.len;have:=h2.len;have:=h.rep.few.2;omega
  · refine⟨HW.of ((hw.pair 4).finals h.rep h1 (by have:=h1.len;have:=h.rep.few.2;omega) h2),h2.same.1,h2.same.2.2.2.2.1,h2.same.2.2.1,fun q hq=>?_,?_⟩
    · rcases h3 q hq with e|e
      · omega
      · exact h6.rep.plc_le e
    · have:=h1.len;have:=h2.len;have:=hw.co.few.2;omega
def DroW (A A':HS)(ls:List Nat):Prop:=HW A'∧A'.n=A.n∧A'.ser=A.ser∧A'.mv=false∧ls.length≤A.ser
theorem weakL_len {s s':HS}{l ls:List Nat}(h:WeakL s l s' ls):ls.length≤l.length:=by
  induction h with
  | nil=>simp
  | snoc h g ih=>
    rw[List.length_append,List.length_append];cases g <;> simp <;> omega
theorem hdrop_any (h:HAt w BA A XA)(hw:HW A)(hm:A.mv=true)(hs:A.scan=A.top):Calls Tryz.prog 164 #[hpV BA] w (DroP w BA (DroW A)):=by
  have hwk:∀p∈A.weak,Place A p:=fun p hp'=>by
    rcases hw.co.wk p hp' with ⟨o,k,_⟩|⟨o,m,k,_⟩
    · exact .inr (.inl (List.mem_map.2 ⟨_,k,rfl⟩))
    · exact .inr (.inr (List.mem_map.2 ⟨_,k,rfl⟩))
  have hok:∀stw lf,Settles A A.weak stw lf→∀q∈stw,WeakOk A q:=fun stw lf h1 q hq=>by
    have:∃o,(q,o)∈A.cur∧o.wk=true:=by
      rcases h1.st_mem hq with ⟨k1,k2⟩|⟨a,k1,k2⟩
      · rcases hw.co.wk q k1 with k3|⟨o,m,k3,_⟩
        · exact k3
        · exact absurd (List.mem_map.2 ⟨_,k3,rfl⟩) k2
      · rcases hw.co.wk a k1 with ⟨o,k3,_⟩|⟨o,m,k3,k4⟩
        · exfalso;obtain⟨i,u,c⟩:=k2;exact hw.wf.plM _ k3 _ c.mem' rfl
        · obtain⟨i,u,c⟩:=k2;have:=hw.wf.plO _ k3 _ c.mem' rfl;cases this;obtain⟨o',k5,k6⟩:=hw.wf.gone a o q c.mem';exact⟨o',k5,by rw[k6.2.2.1];exact k4⟩
    obtain⟨o,k1,k2⟩:=this;obtain⟨i,hi,e⟩:=mem_get ob0 k1;have hok:o.Ok:=(h.rep.cur_ok k1).1;have hp1:=Ob.weak_p hok k2;exact⟨i,o,⟨hi,e⟩,k2,hw.place (.inl k1) (get_mem' 0 (by rw[hok.lp];omega))⟩
  refine(hdrop h hm hs (fun p h1=>(hwk p h1).le h.rep) (fun p h1=>Place.le h.rep (.inr (hw.co.fn p h1))) hok).mono (fun e w' ⟨stw,stf,l1,l2,s',ls,v,h1,h2,h3,h4,h5,BA',X',h6,h7⟩=>?_);have fw:=h.rep.few;have W:=WkI.of (A:={ A with weak:=stw,fin:=stf }) (X:=XA) ⟨h.rep.n1,h.rep.n2,h.rep.len,h.rep.zero,h.rep.half,h.rep.oroom,h.rep.room,h.rep.still,h.rep.ser,⟨by have:=h1.len;show stw.length≤_;omega,by have:=h2.len;show stf.length≤_;omega⟩⟩ h3 (fun q hq=>by obtain⟨i,o,c,k1,_⟩:=hok _ _ h1 q hq;exact⟨o,c.mem',k1⟩);have l1':=h1.len;have l2':=h2.len;have l3':=weakL_len h3;have l4':=hw.co.few.1;refine⟨v,ls,s'.drop,BA',X',h4,h6,h7,h5,by omega,HW.of ((hw.pair 4).drop h.rep hm hs h1 h2 h3 h6.rep ⟨by omega,by omega⟩),W.n,W.ser,rfl,by omega⟩
end
end
section
open Go.RowKit Go.Shelf
structure Asr where
  blk:Nat→Prop
  at_:World→Prop
  fr:∀ {S:Nat→Prop} {w w':World},at_ w→Fr S w w'→(∀k,blk k→¬S k)→at_ w'
  lt:∀ {w:World},at_ w→∀k,blk k→k<w.heap.size
def aNone:Asr:=⟨fun _=>False,fun _=>True,fun _ _ _=>trivial,fun _ _ h=>h.elim⟩
def aCells (B:Nat)(v:Value)(vs:List Value):Asr:=⟨fun k=>k=B,fun w=>OwnL w B (v::vs),fun h f hs=>h.fr f (hs B rfl),fun h k hk=>hk ▸ h.lt (by simp)⟩
def aRow (v:Value)(l:List Int):Asr:=⟨InB v,fun w=>ORow w 0 v l,fun h f hs=>h.frB f hs,fun h _ hk=>(h.lt hk).2⟩
theorem owns_frB {S:Nat→Prop}{w w':World}{base:Nat}{e:TypeId}{size n:Nat}{v:Value}{xs:List Value}(h:w.ownsRow base e size v n xs)(f:Fr S w w')(hs:∀b,InB v b→¬S b):w'.ownsRow base e size v n xs:=by
  refine⟨h.1,?_⟩;rcases h.2 with hn|⟨g,cap,cur,hv,hb,hgg,rest⟩
  · exact .inl hn
  · exact .inr ⟨g,cap,cur,hv,hb,f.heapAt hgg (hs _ (by rw[hv];rfl)),rest⟩
def aOwn (e:TypeId)(size:Nat)(v:Value)(n:Nat)(xs:List Value):Asr:=⟨InB v,fun w=>w.ownsRow 0 e size v n xs,fun h f hs=>owns_frB h f hs,fun h _ hk=>(World.ownsRow.lt h _ hk).2⟩
abbrev Mem:=Nat→Asr
def Mem.put (A:Mem)(t:Nat)(a:Asr):Mem:=fun j=>if j=t then a else A j
theorem Mem.put_same (A:Mem)(t:Nat)(a:Asr):A.put t a t=a:=if_pos rfl
theorem Mem.put_other (A:Mem){t j:Nat}(a:Asr)(h:j≠t):A.put t a j=A j:=if_neg h
structure Hold (w:World)(τ:Nat→Nat)(A:Mem):Prop where
  at_:∀t,(A t).at_ w
  tag:∀t k,(A t).blk k→τ k=t
def TagK (w:World)(τ τ':Nat→Nat):Prop:=∀k,k<w.heap.size→τ' k=τ k
structure KeepT (w:World)(τ:Nat→Nat)(w':World)(τ':Nat→Nat):Prop where
  fr:Fr (fun k=>τ k<500) w w'
  tg:TagK w τ τ'
theorem KeepT.refl (w:World)(τ:Nat→Nat):KeepT w τ w τ:=⟨Fr.refl _ _,fun _ _=>rfl⟩
theorem KeepT.trans {w w1 w2:World}{τ τ1 τ2:Nat→Nat}(h:KeepT w τ w1 τ1)(k:KeepT w1 τ1 w2 τ2):KeepT w τ w2 τ2:=by
  have hs:=h.fr.size;exact⟨h.fr.join k.fr (fun j hj e=>by rw[h.tg j hj] at e;exact e),fun j hj=>by rw[k.tg j (by omega),h.tg j hj]⟩
theorem KeepT.calm {w w':World}(τ:Nat→Nat)(c:Calm w w'):KeepT w τ w' τ:=⟨c.any,fun _ _=>rfl⟩
theorem KeepT.size {w w':World}{τ τ':Nat→Nat}(h:KeepT w τ w' τ'):w.heap.size≤w'.heap.size:=h.fr.size
theorem KeepT.cell {w w':World}{τ τ':Nat→Nat}(h:KeepT w τ w' τ'){p:Addr}{v:Value}(hc:w.cell? p=some v)(ht:500≤τ p.block):w'.cell? p=some v:=h.fr.cellAt hc (by omega)
theorem Hold.frame {S:Nat→Prop}{w w':World}{τ:Nat→Nat}{A:Mem}(h:Hold w τ A)(f:Fr S w w')(hs:∀t k,(A t).blk k→¬S k):Hold w' τ A:=⟨fun t=>(A t).fr (h.at_ t) f (hs t),h.tag⟩
theorem Hold.calm {w w':World}{τ:Nat→Nat}{A:Mem}(h:Hold w τ A)(f:Calm w w'):Hold w' τ A:=h.frame f (fun _ _ _=>id)
theorem Hold.lt {w:World}{τ:Nat→Nat}{A:Mem}(h:Hold w τ A)(t:Nat){k:Nat}(hk:(A t).blk k):k<w.heap.size:=(A t).lt (h.at_ t) k hk
theorem Hold.put {w w':World}{τ:Nat→Nat}{A:Mem}(h:Hold w τ A){t:Nat}{a:Asr}(f:Fr (A t).blk w w')(ha:a.at_ w')(hn:∀k,a.blk k→(A t).blk k∨w.heap.size≤k)(ht:t<500) :
    ∃τ',Hold w' τ' (A.put t a)∧KeepT w τ w' τ':=by
  refine⟨fun k=>if k<w.heap.size then τ k else t,⟨fun j=>?_,fun j k hk=>?_⟩,⟨f.mono (fun k _ hk=>?_),fun k hk=>if_pos hk⟩⟩
  · by_cases e:j=t
    · subst e;rw[Mem.put_same];exact ha
    · rw[Mem.put_other _ _ e];exact(A j).fr (h.at_ j) f (fun k hk hk2=>e (by rw[←h.tag j k hk,h.tag t k hk2]))
  · by_cases e:j=t
    · subst e;rw[Mem.put_same] at hk;rcases hn k hk with h1|h1
      · simp only[if_pos (h.lt j h1)];exact h.tag j k h1
      · simp only[if_neg (show ¬k<w.heap.size by omega)]
    · rw[Mem.put_other _ _ e] at hk;simp only[if_pos (h.lt j hk)];exact h.tag j k hk
  · show τ k<500;rw[h.tag t k hk];exact ht
theorem Hold.put' {w w':World}{τ:Nat→Nat}{A:Mem}(h:Hold w τ A){t:Nat}{a:Asr}(f:Fr (A t).blk w w')(ha:a.at_ w')(hn:∀k,a.blk k→(A t).blk k):Hold w' τ (A.put t a):=by
  refine⟨fun j=>?_,fun j k hk=>?_⟩
  · by_cases e:j=t
    · subst e;rw[Mem.put_same];exact ha
    · rw[Mem.put_other _ _ e];exact(A j).fr (h.at_ j) f (fun k hk hk2=>e (by rw[←h.tag j k hk,h.tag t k hk2]))
  · by_cases e:j=t
    · subst e;rw[Mem.put_same] at hk;exact h.tag j k (hn k hk)
    · rw[Mem.put_other _ _ e] at hk;exact h.tag j k hk
theorem Hold.put2 {w w':World}{τ:Nat→Nat}{A:Mem}(h:Hold w τ A){t u:Nat}(hne:t≠u){a b:Asr}(f:Fr (fun k=>(A t).blk k∨(A u).blk k) w w')(ha:a.at_ w')(hb:b.at_ w')(hn:∀k,a.blk k→(A t).blk k)(hm:∀k,b.blk k→(A u).blk k∨w.heap.size≤k)(ht:t<500)(hu:u<500) :
    ∃τ',Hold w' τ' ((A.put t a).put u b)∧KeepT w τ w' τ':=by
  refine⟨fun k=>if k<w.heap.size then τ k else u,⟨fun j=>?_,fun j k hk=>?_⟩,⟨f.mono (fun k _ hk=>?_),fun k hk=>if_pos hk⟩⟩
  · by_cases e:j=u
    · subst e;rw[Mem.put_same];exact hb
    · rw[Mem.put_other _ _ e]
      by_cases e2:j=t
      · subst e2;rw[Mem.put_same];exact ha
      · rw[Mem.put_other _ _ e2]
        exact(A j).fr (h.at_ j) f (fun k hk hk2=>by
          rcases hk2 with hk2|hk2
          · exact e2 (by rw[←h.tag j k hk,h.tag t k hk2])
          · exact e (by rw[←h.tag j k hk,h.tag u k hk2]))
  · by_cases e:j=u
    · subst e;rw[Mem.put_same] at hk;rcases hm k hk with h1|h1
      · simp only[if_pos (h.lt j h1)];exact h.tag j k h1
      · simp only[if_neg (show ¬k<w.heap.size by omega)]
    · rw[Mem.put_other _ _ e] at hk
      by_cases e2:j=t
      · subst e2;rw[Mem.put_same] at hk;simp only[if_pos (h.lt j (hn k hk))];exact h.tag j k (hn k hk)
      · rw[Mem.put_other _ _ e2] at hk;simp only[if_pos (h.lt j hk)];exact h.tag j k hk
  · show τ k<500;rcases hk with hk|hk
    · rw[h.tag t k hk];exact ht
    · rw[h.tag u k hk];exact hu
theorem KeepT.piece {w w':World}{τ:Nat→Nat}{A:Mem}(h:Hold w τ A){t:Nat}(f:Fr (A t).blk w w')(ht:t<500):KeepT w τ w' τ:=⟨f.mono (fun k _ hk=>by show τ k<500;rw[h.tag t k hk];exact ht),fun _ _=>rfl⟩
theorem Hold.fresh {w:World}{τ:Nat→Nat}{A:Mem}(h:Hold w τ A)(m:Nat):∃τ',Hold w τ' A∧TagK w τ τ'∧∀k,w.heap.size≤k→τ' k=m:=
  ⟨fun k=>if k<w.heap.size then τ k else m,⟨h.at_,fun t k hk=>by simp only[if_pos (h.lt t hk)];exact h.tag t k hk⟩,fun k hk=>if_pos hk,fun k hk=>if_neg (by omega)⟩
theorem Hold.apart {w:World}{τ:Nat→Nat}{A:Mem}(h:Hold w τ A){t u:Nat}(hne:t≠u){k:Nat}(h1:(A t).blk k)(h2:(A u).blk k):False:=hne (by rw[←h.tag t k h1,h.tag u k h2])
def Mem.Only (P:Nat→Prop)(A A':Mem):Prop:=∀t,¬P t→A' t=A t
theorem Mem.Only.refl (P:Nat→Prop)(A:Mem):Mem.Only P A A:=fun _ _=>rfl
theorem Mem.Only.trans {P:Nat→Prop}{A B C:Mem}(h:Mem.Only P A B)(k:Mem.Only P B C):Mem.Only P A C:=fun t ht=>(k t ht).trans (h t ht)
theorem Mem.Only.mono {P Q:Nat→Prop}{A B:Mem}(h:Mem.Only P A B)(hq:∀t,P t→Q t):Mem.Only Q A B:=fun t ht=>h t (fun e=>ht (hq t e))
theorem Mem.Only.put (A:Mem){P:Nat→Prop}{t:Nat}(a:Asr)(ht:P t):Mem.Only P A (A.put t a):=fun j hj=>Mem.put_other A a (fun e=>hj (e ▸ ht))
end
section
open Go.RowKit Go.Shelf
structure GI (sty ety:TypeId)(k:Nat):Prop where
  und:Tryz.prog.underlying sty=some (.slice ety)
  info:∃i z bytes,Tryz.prog.info? ety=some i∧i.zero=some z∧i.size=k∧i.bytes=bytes∧z.cells.size=k∧0<k∧bytes≤1000
theorem giH:GI 148 188 2:=by
  obtain⟨i0,hi,hz0,hz1,hz2⟩:=info_parts (show(Tryz.prog.info? 188).map (fun i=>(i.zero,i.size,i.bytes))=some (some (.agg #[vI 0,vI 0]),2,16) by kernel_rfl);exact⟨Tryz.underlying148,i0,_,_,hi,hz0,hz1,hz2,rfl,by decide,by decide⟩
theorem giU:GI 149 191 4:=by
  obtain⟨i0,hi,hz0,hz1,hz2⟩:=info_parts (show(Tryz.prog.info? 191).map (fun i=>(i.zero,i.size,i.bytes))=some (some (.agg #[vI 0,vI 0,vI 0,vI 0]),4,32) by kernel_rfl);exact⟨Tryz.underlying149,i0,_,_,hi,hz0,hz1,hz2,rfl,by decide,by decide⟩
theorem giI:GI 92 112 2:=by
  obtain⟨i0,hi,hz0,hz1,hz2⟩:=info_parts (show(Tryz.prog.info? 112).map (fun i=>(i.zero,i.size,i.bytes))=some (some (.agg #[vI 0,vI 0]),2,16) by kernel_rfl);exact⟨Tryz.underlying92,i0,_,_,hi,hz0,hz1,hz2,rfl,by decide,by decide⟩
theorem giE:GI 65 76 6:=by
  obtain⟨i0,hi,hz0,hz1,hz2⟩:=info_parts (show(Tryz.prog.info? 76).map (fun i=>(i.zero,i.size,i.bytes))=some (some (.agg #[vI 0,vI 0,vI 0,vI 0,vI 0,vI 0]),6,48) by kernel_rfl);exact⟨Tryz.underlying65,i0,_,_,hi,hz0,hz1,hz2,rfl,by decide,by decide⟩
theorem giP:GI 91 95 1:=by
  obtain⟨i0,hi,hz0,hz1,hz2⟩:=info_parts (show(Tryz.prog.info? 95).map (fun i=>(i.zero,i.size,i.bytes))=some (some (.pointer none),1,8) by kernel_rfl);exact⟨Tryz.underlying91,i0,_,_,hi,hz0,hz1,hz2,rfl,by decide,by decide⟩
section
variable {sty ety:TypeId}{k:Nat}
theorem step_appG (G:GI sty ety k){ops:Array Oper}{o:Oper}{a:Act}{w:World}{K:Act→World→Prop}{Q:Exit→Act→World→Prop}{E:Prop}(hgd:o.guard=none)(s x:Operand)
    (ho:o.op = .call { callee:=.builtin .append,args:=#[s,x],argTypes:=#[sty,sty] })
    (v:Value) (n:Nat) (xs:List Value) (hown:w.ownsRow 0 ety k v n xs) (hs:a.eval s=v) (ys:List Value) (hys:ys.length=k) (h1:∀u∈ys,u.oneCell'=true) (ad:Addr) (c:Nat) (hx:a.eval x = .slice (some ad) 1 c)
    (hc:∀j u,ys[j]?=some u→w.cell? (ad.add j)=some u) (hl:n≤1000000)
    (h:∀g c w',w'.ownsRow 0 ety k (.slice (some ⟨g,0,none⟩) (n+1) c) (n+1) (xs++ys)→Fr (InB v) w w'→(InB v g∨g=w.heap.size)→K (a.put o.dst (.slice (some ⟨g,0,none⟩) (n+1) c)) w') :
    if Region.wanted o (yielded ops a.tmps)=true then Oper.wp Tryz.prog o a w K Q else E:=by
  obtain⟨i0,z,bytes,hi,hz0,hz1,hz2,hz3,hk,hb⟩:=G.info;refine step_append_lies w hgd s x sty ho 0 ety i0 z k bytes G.und hi hz0 hz1 hz2 hz3 hk v n xs hs hown ad 1 c ys hx (by omega) hc h1 (by omega) (by unfold maxLen;omega) ?_ (Nat.zero_le _) _ rfl ?_
  · exact Nat.le_trans (Nat.mul_le_mul (show n+1≤1000001 by omega) hb) (by omega)
  intro g cap w' hown' hgrow hloc _;exact h g cap w' hown' (Fr.grown (Fr.refl _ _) hgrow (fun k hk=>.inl hk)) hloc
theorem wpList_appG (G:GI sty ety k){ops:Array Oper}{rest:List Oper}{o:Oper}{a:Act}{Q:Exit→Act→World→Prop}{w:World}(hgd:o.guard=none)(s x:Operand)
    (ho:o.op = .call { callee:=.builtin .append,args:=#[s,x],argTypes:=#[sty,sty] })
    (v:Value) (n:Nat) (xs:List Value) (hown:w.ownsRow 0 ety k v n xs) (hs:a.eval s=v) (ys:List Value) (hys:ys.length=k) (h1:∀u∈ys,u.oneCell'=true) (ad:Addr) (c:Nat) (hx:a.eval x = .slice (some ad) 1 c)
    (hc:∀j u,ys[j]?=some u→w.cell? (ad.add j)=some u) (hl:n≤1000000)
    (h:∀g c w',w'.ownsRow 0 ety k (.slice (some ⟨g,0,none⟩) (n+1) c) (n+1) (xs++ys)→Fr (InB v) w w'→(InB v g∨g=w.heap.size)→wpList Tryz.prog ops Q rest (a.put o.dst (.slice (some ⟨g,0,none⟩) (n+1) c)) w') :
    wpList Tryz.prog ops Q (o::rest) a w:=by
  obtain⟨i0,z,bytes,hi,hz0,hz1,hz2,hz3,hk,hb⟩:=G.info;refine wpList_append_own_at _ hgd s x sty ho 0 ety i0 z k bytes G.und hi hz0 hz1 hz2 hz3 hk v n xs hs hown ad 1 c ys hx (by omega) hc h1 (by unfold maxLen;omega) ?_ (Nat.zero_le _) ?_
  · exact Nat.le_trans (Nat.mul_le_mul (show n+1≤1000001 by omega) hb) (by omega)
  intro v' w' hown' hgrow _ hloc;obtain⟨g,c',rfl⟩:=ownsRow_succ hown';refine h g c' w' hown' (Fr.grown (Fr.refl _ _) hgrow (fun k hk=>.inl hk)) ?_;rcases hloc with e|e
  · exact .inl (e.symm.trans rfl)
  · right;simpa[Value.ownBlock] using e
theorem owns_get {w:World}{v:Value}{n:Nat}{xs:List Value}(h:w.ownsRow 0 ety k v n xs)(hk:0<k){i:Nat}(hi:i<n):∃g c,v = .slice (some ⟨g,0,none⟩) n c∧∀j,j<k→Own w g (i*k+j) (xs.getD (i*k+j) .nilFunc):=by
  obtain⟨hl,⟨_,h0⟩|⟨g,cap,cur,rfl,hb,hg,hn,hcm,hcur,hx⟩⟩:=h
  · omega
  · refine⟨g,cap,rfl,fun j hj=>?_⟩;have hik:i*k+j<n*k:=Nat.lt_of_lt_of_le (by rw[Nat.succ_mul];omega:i*k+j<(i+1)*k) (Nat.mul_le_mul_right k hi);have hxl:i*k+j<xs.length:=by rw[hl];exact hik
    refine⟨?_,?_⟩
    · have h2:cur.toList[i*k+j]?=xs[i*k+j]?:=by rw[←hx,List.getElem?_take,if_pos hik]
      have:w.cell? ⟨g,i*k+j,none⟩=cur[i*k+j]?:=by simp[World.cell?,hg]
      rw[this,←Array.getElem?_toList,h2];simp[List.getD,hxl]
    · simp[World.frozen?,hg]
theorem owns_set {w:World}{g n c:Nat}{xs:List Value}(h:w.ownsRow 0 ety k (.slice (some ⟨g,0,none⟩) n c) n xs){j:Nat}(hj:j<xs.length)(y:Value):(w.setCell ⟨g,j,none⟩ y).ownsRow 0 ety k (.slice (some ⟨g,0,none⟩) n c) n (xs.set j y):=by
  obtain⟨hl,⟨h1,h0⟩|⟨g',cap,cur,hv,hb,hg,hn,hcm,hcur,hx⟩⟩:=h
  · cases h1
  · cases hv;refine⟨by rw[List.length_set];exact hl,.inr ⟨g,c,cur.set! j y,rfl,hb,?_,hn,hcm,by simpa using hcur,?_⟩⟩
    · rw[heap_setCell_same _ _ _ _ _ _ hg];simp
    · simp only[Array.set!_eq_setIfInBounds,Array.toList_setIfInBounds];rw[List.take_set,hx]
theorem owns_slice {w:World}{v:Value}{n:Nat}{xs:List Value}(h:w.ownsRow 0 ety k v n xs):∃a c,v = .slice a n c:=by
  rcases h.2 with ⟨rfl,h0⟩|⟨g,cap,cur,rfl,_⟩
  · exact⟨none,0,by rw[h0]⟩
  · exact⟨_,_,rfl⟩
theorem flatG {α:Type}(f:α→List Value)(k:Nat)(hf:∀a,(f a).length=k)(d:α):∀ (l:List α) (i:Nat),i<l.length→∀j,j<k→(l.flatMap f)[i*k+j]?=(f (l.getD i d))[j]?
  | [],i,h,_,_=>by simp at h
  | x::l,0,_,j,hj=>by
    rw[List.flatMap_cons,Nat.zero_mul,Nat.zero_add,List.getElem?_append_left (by rw[hf];exact hj)];rfl
  | x::l,i+1,h,j,hj=>by
    have e:(i+1)*k=i*k+k:=Nat.succ_mul i k;rw[List.flatMap_cons,List.getElem?_append_right (by rw[hf];omega),hf,show(i+1)*k+j-k=i*k+j by omega,flatG f k hf d l i (by simpa using h) j hj];rfl
theorem flat_len {α:Type}(f:α→List Value)(k:Nat)(hf:∀a,(f a).length=k)(l:List α):(l.flatMap f).length=l.length*k:=by
  induction l with
  | nil=>simp
  | cons x l ih=>rw[List.flatMap_cons,List.length_append,hf,ih,List.length_cons,Nat.succ_mul];omega
theorem rows_get {α:Type}{f:α→List Value}(hf:∀a,(f a).length=k)(hk:0<k){w:World}{v:Value}{l:List α}(h:w.ownsRow 0 ety k v l.length (l.flatMap f))(d:α){i:Nat}(hi:i<l.length) :
    ∃g c,v = .slice (some ⟨g,0,none⟩) l.length c∧∀j u,(f (l.getD i d))[j]?=some u→Own w g (i*k+j) u:=by
  obtain⟨g,c,hv,hc⟩:=owns_get h hk hi;refine⟨g,c,hv,fun j u hu=>?_⟩;have hj:j<k:=by have:=(List.getElem?_eq_some_iff.1 hu).1;rwa [hf] at this
  have e:=flatG f k hf d l i hi j hj;rw[hu] at e;have:=hc j hj
  rwa [List.getD,e] at this
theorem owns_len {w:World}{v:Value}{n:Nat}{xs:List Value}(h:w.ownsRow 0 ety k v n xs):xs.length=n*k:=h.1
end
section
variable {sty ety:TypeId}{k:Nat}
theorem wpList_appGL (G:GI sty ety k){ops:Array Oper}{rest:List Oper}{o:Oper}{a:Act}{Q:Exit→Act→World→Prop}{w:World}(hgd:o.guard=none)(s x:Operand)
    (ho:o.op = .call { callee:=.builtin .append,args:=#[s,x],argTypes:=#[sty,sty] })
    (v:Value) (n:Nat) (xs:List Value) (hown:w.ownsRow 0 ety k v n xs) (hs:a.eval s=v) (ad:Addr) (m c:Nat) (ys:List Value) (hx:a.eval x = .slice (some ad) m c) (hys:ys.length=m*k) (h1:∀u∈ys,u.oneCell'=true)
    (hc:∀j u,ys[j]?=some u→w.cell? (ad.add j)=some u) (hl:n+m≤1000000)
    (h:∀v' w',w'.ownsRow 0 ety k v' (n+m) (xs++ys)→Fr (InB v) w w'→(∀b,InB v' b→InB v b∨w.heap.size≤b)→wpList Tryz.prog ops Q rest (a.put o.dst v') w') :
    wpList Tryz.prog ops Q (o::rest) a w:=by
  obtain⟨i0,z,bytes,hi,hz0,hz1,hz2,hz3,hk,hb⟩:=G.info;refine wpList_append_own_at _ hgd s x sty ho 0 ety i0 z k bytes G.und hi hz0 hz1 hz2 hz3 hk v n xs hs hown ad m c ys hx hys hc h1 (by unfold maxLen;omega) ?_ (Nat.zero_le _) ?_
  · exact Nat.le_trans (Nat.mul_le_mul hl hb) (by omega)
  intro v' w' hown' hgrow _ hloc;refine h v' w' hown' (Fr.grown (Fr.refl _ _) hgrow (fun k hk=>.inl hk)) (fun b hb=>?_);rcases hloc with e|e
  · exact .inl (e.symm.trans hb)
  · right;have:some w.heap.size=some b:=e.symm.trans hb;injection this with this;omega
theorem owns_cells {w:World}{v:Value}{n:Nat}{xs:List Value}(h:w.ownsRow 0 ety k v n xs)(hn:v≠.slice none 0 0):∃g c,v = .slice (some ⟨g,0,none⟩) n c∧∀j u,xs[j]?=some u→w.cell? ⟨g,j,none⟩=some u:=by
  obtain⟨hl,⟨h1,_⟩|⟨g,cap,cur,rfl,hb,hg,hn',hcm,hcur,hx⟩⟩:=h
  · exact absurd h1 hn
  · refine⟨g,cap,rfl,fun j u hj=>?_⟩;have hjl:j<xs.length:=(List.getElem?_eq_some_iff.1 hj).1;have h2:cur.toList[j]?=xs[j]?:=by rw[←hx,List.getElem?_take,if_pos (by omega)]
    have:w.cell? ⟨g,j,none⟩=cur[j]?:=by simp[World.cell?,hg]
    rw[this,←Array.getElem?_toList,h2,hj]
theorem owns_new (w:World)(base:Nat)(hb:base≤w.heap.size):(w.alloc (.cells #[] ety)).ownsRow base ety k (.slice (some ⟨w.heap.size,0,none⟩) 0 0) 0 []:=
  ⟨by simp,.inr ⟨w.heap.size,0,#[],rfl,hb,World.alloc_heap_new w _,Nat.le_refl _,by unfold maxLen;omega,by simp,by simp⟩⟩
end
theorem giN:GI 23 3 1:=by
  obtain⟨i0,hi,hz0,hz1,hz2⟩:=info_parts info_int;exact⟨Tryz.underlying23,i0,_,_,hi,hz0,hz1,hz2,rfl,by decide,by decide⟩
end
section
open Go.RowKit Go.Shelf
theorem pk_lt (c n:Int)(hn:0<n):0≤pk c n∧pk c n<n:=⟨Int.emod_nonneg _ (by omega),Int.emod_lt_of_pos _ hn⟩
def PickPost0 (w:World)(n:Int)(e:Ending)(w':World):Prop:=(∃v:Int,e = .returned (vI v)∧0≤v∧v<n)∧w=w'
theorem pick_0 (c n:Int)(w:World)(hc:I64 c)(hn:0<n) :
    Calls Tryz.prog 29 #[vI c,vI n] w (PickPost0 w n):=by
  obtain⟨h1,h2⟩:=hc;have hn0:(n==0)=false:=by simp;omega
  have hpk:=pk_lt c n hn
  by_cases h:c<0
  · have h0:0≤-(c+1):=by omega
    have hp:Hid (pk c n=(-(c+1)) % n):=by unfold pk;rw[if_pos h];rfl
    go_enter Tryz.func29,Tryz.ntmps29;go_wp2;go_ret;refine⟨⟨pk c n,?_,hpk⟩,rfl⟩;show Ending.returned (vI (-(Int.tmod (c+1) n)))=_;rw[hp.out,←Int.neg_tmod,Int.tmod_eq_emod_of_nonneg h0]
  · have h0:0≤c:=by omega
    have hp:Hid (pk c n=c % n):=by unfold pk;rw[if_neg h];rfl
    go_enter Tryz.func29,Tryz.ntmps29;go_wp2;go_ret;exact⟨⟨pk c n,by rw[hp.out];rfl,hpk⟩,rfl⟩
def PickPost1 (w:World)(n:Int)(e:Ending)(w':World):Prop:=(∃v:Int,e = .returned (vI v)∧0≤v∧v<n)∧w=w'
theorem pick_1 (c n:Int)(w:World)(hc:I64 c)(hn:0<n) :
    Calls Tryz.prog 6 #[vI c,vI n] w (PickPost1 w n):=by
  obtain⟨h1,h2⟩:=hc;have hn0:(n==0)=false:=by simp;omega
  have hpk:=pk_lt c n hn
  by_cases h:c<0
  · have h0:0≤-(c+1):=by omega
    have hp:Hid (pk c n=(-(c+1)) % n):=by unfold pk;rw[if_pos h];rfl
    go_enter Tryz.func6,Tryz.ntmps6;go_wp2;go_ret;refine⟨⟨pk c n,?_,hpk⟩,rfl⟩;show Ending.returned (vI (-(Int.tmod (c+1) n)))=_;rw[hp.out,←Int.neg_tmod,Int.tmod_eq_emod_of_nonneg h0]
  · have h0:0≤c:=by omega
    have hp:Hid (pk c n=c % n):=by unfold pk;rw[if_neg h];rfl
    go_enter Tryz.func6,Tryz.ntmps6;go_wp2;go_ret;exact⟨⟨pk c n,by rw[hp.out];rfl,hpk⟩,rfl⟩
structure Dd where
  k:Int
  a:Int
  b:Int
  i:Int
  n:Int
def ddC (d:Dd):List Value:=[vI d.k,vI d.a,vI d.b,vI d.i,vI d.n]
def ddV (d:Dd):Value:=.agg #[vI d.k,vI d.a,vI d.b,vI d.i,vI d.n]
theorem ddC_len (d:Dd):(ddC d).length=5:=rfl
abbrev dD:Dd:=⟨0,0,0,0,0⟩
def R6 (x:Int):Prop:=0≤x∧x≤5
def R8 (x:Int):Prop:=0≤x∧x≤7
def R5 (x:Int):Prop:=0≤x∧x≤4
def RM (x:Int):Prop:=-1000000≤x∧x≤1000000
def Dd.Rt (d:Dd):Prop:=
  (d.k=1∧R6 d.a∧d.b=0∧R5 d.i∧R5 d.n)∨(d.k=2∧R6 d.a∧d.b=0∧R5 d.i∧R5 d.n) ∨
  (d.k=3∧R6 d.a∧R6 d.b∧d.i=0∧d.n=0)∨(d.k=4∧R6 d.a∧R6 d.b∧R8 d.i∧d.n=0) ∨
  (d.k=5∧R6 d.a∧R6 d.b∧R8 d.i∧d.n=0)∨(d.k=6∧R6 d.a∧d.b=0∧R8 d.i∧d.n=0) ∨
  (d.k=7∧R6 d.a∧d.b=0∧R8 d.i∧RM d.n)∨(d.k=8∧R6 d.a∧d.b=0∧d.i=0∧d.n=0) ∨
  (d.k=9∧R6 d.a∧R6 d.b∧d.i=0∧d.n=0)∨(d.k=10∧R6 d.a∧d.b=0∧d.i=0∧d.n=0) ∨
  (d.k=11∧R6 d.a∧R6 d.b∧d.i=0∧d.n=0)∨(d.k=12∧R6 d.a∧R6 d.b∧d.i=0∧d.n=0) ∨
  (d.k=13∧R6 d.a∧d.b=0∧d.i=0∧d.n=0)∨(d.k=14∧d.a=0∧d.b=0∧d.i=0∧d.n=0)
def FitPost2 (w:World)(e:Ending)(w':World):Prop:=(∃d:Dd,e = .returned (ddV d)∧d.Rt)∧Calm w w'
structure Dd.Ok (d:Dd):Prop where
  k:I64 d.k
  a:I64 d.a
  b:I64 d.b
  i:I64 d.i
  n:I64 d.n
set_option maxRecDepth 4000 in
theorem fit_is (w:World)(d:Dd)(h:d.Ok):Calls Tryz.prog 13 #[ddV d] w (FitPost2 w):=by
  obtain⟨dk,da,db,di,dn⟩:=d;obtain⟨hk,ha,hb,hi,hn⟩:=h;simp only[] at hk ha hb hi hn;simp only[ddV];go_enter Tryz.func13,Tryz.ntmps13;go_wp2_with fail
  refine(pick_0 dk 14 _ hk (by decide)).mono ?_;rintro e w1 ⟨⟨v,rfl,v1,v2⟩,rfl⟩;rcases(by omega:v=0∨v=1∨v=2∨v=3∨v=4∨v=5∨v=6∨v=7∨v=8∨v=9∨v=10∨v=11∨v=12∨v=13) with rfl|rfl|rfl|rfl|rfl|rfl|rfl|rfl|rfl|rfl|rfl|rfl|rfl|rfl
  · go_wp2_with fail
    refine(pick_0 da 6 _ ha (by decide)).mono ?_;rintro e w1 ⟨⟨xa,rfl,a1,a2⟩,rfl⟩;go_wp2_with fail
    refine(pick_0 di 5 _ hi (by decide)).mono ?_;rintro e w1 ⟨⟨xi,rfl,i1,i2⟩,rfl⟩;go_wp2_with fail
    refine(pick_0 dn 5 _ hn (by decide)).mono ?_;rintro e w1 ⟨⟨xn,rfl,n1,n2⟩,rfl⟩;go_wp2;refine bodyPost_ret (v:=ddV ⟨1,xa,0,xi,xn⟩) ?_ rfl ⟨⟨⟨1,xa,0,xi,xn⟩,rfl,?_⟩,(((Fr.refl _ _).alloc _).alloc _).alloc _⟩
    · simp[results,Tryz.f13,go_sem,ddV]
    · simp[Dd.Rt,R6,R5,R8,RM] <;> omega
  · go_wp2_with fail
    refine(pick_0 da 6 _ ha (by decide)).mono ?_;rintro e w1 ⟨⟨xa,rfl,a1,a2⟩,rfl⟩;go_wp2_with fail
    refine(pick_0 di 5 _ hi (by decide)).mono ?_;rintro e w1 ⟨⟨xi,rfl,i1,i2⟩,rfl⟩;go_wp2_with fail
    refine(pick_0 dn 5 _ hn (by decide)).mono ?_;rintro e w1 ⟨⟨xn,rfl,n1,n2⟩,rfl⟩;go_wp2;refine bodyPost_ret (v:=ddV ⟨2,xa,0,xi,xn⟩) ?_ rfl ⟨⟨⟨2,xa,0,xi,xn⟩,rfl,?_⟩,(((Fr.refl _ _).alloc _).alloc _).alloc _⟩
    · simp[results,Tryz.f13,go_sem,ddV]
    · simp[Dd.Rt,R6,R5,R8,RM] <;> omega
  · go_wp2_with fail
    refine(pick_0 da 6 _ ha (by decide)).mono ?_;rintro e w1 ⟨⟨xa,rfl,a1,a2⟩,rfl⟩;go_wp2_with fail
    refine(pick_0 db 6 _ hb (by decide)).mono ?_;rintro e w1 ⟨⟨xb,rfl,b1,b2⟩,rfl⟩;go_wp2;refine bodyPost_ret (v:=ddV ⟨3,xa,xb,0,0⟩) ?_ rfl ⟨⟨⟨3,xa,xb,0,0⟩,rfl,?_⟩,(((Fr.refl _ _).alloc _).alloc _).alloc _⟩
    · simp[results,Tryz.f13,go_sem,ddV]
    · simp[Dd.Rt,R6,R5,R8,RM] <;> omega
  · go_wp2_with fail
    refine(pick_0 da 6 _ ha (by decide)).mono ?_;rintro e w1 ⟨⟨xa,rfl,a1,a2⟩,rfl⟩;go_wp2_with fail
    refine(pick_0 db 6 _ hb (by decide)).mono ?_;rintro e w1 ⟨⟨xb,rfl,b1,b2⟩,rfl⟩;go_wp2_with fail
    refine(pick_0 di 8 _ hi (by decide)).mono ?_;rintro e w1 ⟨⟨xi,rfl,i1,i2⟩,rfl⟩;go_wp2;refine bodyPost_ret (v:=ddV ⟨4,xa,xb,xi,0⟩) ?_ rfl ⟨⟨⟨4,xa,xb,xi,0⟩,rfl,?_⟩,(((Fr.refl _ _).alloc _).alloc _).alloc _⟩
    · simp[results,Tryz.f13,go_sem,ddV]
    · simp[Dd.Rt,R6,R5,R8,RM] <;> omega
  · go_wp2_with fail
    refine(pick_0 da 6 _ ha (by decide)).mono ?_;rintro e w1 ⟨⟨xa,rfl,a1,a2⟩,rfl⟩;go_wp2_with fail
    refine(pick_0 db 6 _ hb (by decide)).mono ?_;rintro e w1 ⟨⟨xb,rfl,b1,b2⟩,rfl⟩;go_wp2_with fail
    refine(pick_0 di 8 _ hi (by decide)).mono ?_;rintro e w1 ⟨⟨xi,rfl,i1,i2⟩,rfl⟩;go_wp2;refine bodyPost_ret (v:=ddV ⟨5,xa,xb,xi,0⟩) ?_ rfl ⟨⟨⟨5,xa,xb,xi,0⟩,rfl,?_⟩,(((Fr.refl _ _).alloc _).alloc _).alloc _⟩
    · simp[results,Tryz.f13,go_sem,ddV]
    · simp[Dd.Rt,R6,R5,R8,RM] <;> omega
  · go_wp2_with fail
    refine(pick_0 da 6 _ ha (by decide)).mono ?_;rintro e w1 ⟨⟨xa,rfl,a1,a2⟩,rfl⟩;go_wp2_with fail
    refine(pick_0 di 8 _ hi (by decide)).mono ?_;rintro e w1 ⟨⟨xi,rfl,i1,i2⟩,rfl⟩;go_wp2;refine bodyPost_ret (v:=ddV ⟨6,xa,0,xi,0⟩) ?_ rfl ⟨⟨⟨6,xa,0,xi,0⟩,rfl,?_⟩,(((Fr.refl _ _).alloc _).alloc _).alloc _⟩
    · simp[results,Tryz.f13,go_sem,ddV]
    · simp[Dd.Rt,R6,R5,R8,RM] <;> omega
  · go_wp2_with fail
    refine(pick_0 da 6 _ ha (by decide)).mono ?_;rintro e w1 ⟨⟨xa,rfl,a1,a2⟩,rfl⟩;go_wp2_with fail
    refine(pick_0 di 8 _ hi (by decide)).mono ?_;rintro e w1 ⟨⟨xi,rfl,i1,i2⟩,rfl⟩;go_wp2_with fail
    refine(pick_0 dn 2000001 _ hn (by decide)).mono ?_;rintro e w1 ⟨⟨xn,rfl,n1,n2⟩,rfl⟩;go_wp2;refine bodyPost_ret (v:=ddV ⟨7,xa,0,xi,(xn-1000000)⟩) ?_ rfl ⟨⟨⟨7,xa,0,xi,(xn-1000000)⟩,rfl,?_⟩,(((Fr.refl _ _).alloc _).alloc _).alloc _⟩
    · simp[results,Tryz.f13,go_sem,ddV]
    · simp[Dd.Rt,R6,R5,R8,RM] <;> omega
  · go_wp2_with fail
    refine(pick_0 da 6 _ ha (by decide)).mono ?_;rintro e w1 ⟨⟨xa,rfl,a1,a2⟩,rfl⟩;go_wp2;refine bodyPost_ret (v:=ddV ⟨8,xa,0,0,0⟩) ?_ rfl ⟨⟨⟨8,xa,0,0,0⟩,rfl,?_⟩,(((Fr.refl _ _).alloc _).alloc _).alloc _⟩
    · simp[results,Tryz.f13,go_sem,ddV]
    · simp[Dd.Rt,R6,R5,R8,RM] <;> omega
  · go_wp2_with fail
    refine(pick_0 da 6 _ ha (by decide)).mono ?_;rintro e w1 ⟨⟨xa,rfl,a1,a2⟩,rfl⟩;go_wp2_with fail
    refine(pick_0 db 6 _ hb (by decide)).mono ?_;rintro e w1 ⟨⟨xb,rfl,b1,b2⟩,rfl⟩;go_wp2;refine bodyPost_ret (v:=ddV ⟨9,xa,xb,0,0⟩) ?_ rfl ⟨⟨⟨9,xa,xb,0,0⟩,rfl,?_⟩,(((Fr.refl _ _).alloc _).alloc _).alloc _⟩
    · simp[results,Tryz.f13,go_sem,ddV]
    · simp[Dd.Rt,R6,R5,R8,RM] <;> omega
  · go_wp2_with fail
    refine(pick_0 da 6 _ ha (by decide)).mono ?_;rintro e w1 ⟨⟨xa,rfl,a1,a2⟩,rfl⟩;go_wp2;refine bodyPost_ret (v:=ddV ⟨10,xa,0,0,0⟩) ?_ rfl ⟨⟨⟨10,xa,0,0,0⟩,rfl,?_⟩,(((Fr.refl _ _).alloc _).alloc _).alloc _⟩
    · simp[results,Tryz.f13,go_sem,ddV]
    · simp[Dd.Rt,R6,R5,R8,RM] <;> omega
  · go_wp2_with fail
    refine(pick_0 da 6 _ ha (by decide)).mono ?_;rintro e w1 ⟨⟨xa,rfl,a1,a2⟩,rfl⟩;go_wp2_with fail
    refine(pick_0 db 6 _ hb (by decide)).mono ?_;rintro e w1 ⟨⟨xb,rfl,b1,b2⟩,rfl⟩;go_wp2;refine bodyPost_ret (v:=ddV ⟨11,xa,xb,0,0⟩) ?_ rfl ⟨⟨⟨11,xa,xb,0,0⟩,rfl,?_⟩,(((Fr.refl _ _).alloc _).alloc _).alloc _⟩
    · simp[results,Tryz.f13,go_sem,ddV]
    · simp[Dd.Rt,R6,R5,R8,RM] <;> omega
  · go_wp2_with fail
    refine(pick_0 da 6 _ ha (by decide)).mono ?_;rintro e w1 ⟨⟨xa,rfl,a1,a2⟩,rfl⟩;go_wp2_with fail
    refine(pick_0 db 6 _ hb (by decide)).mono ?_;rintro e w1 ⟨⟨xb,rfl,b1,b2⟩,rfl⟩;go_wp2;refine bodyPost_ret (v:=ddV ⟨12,xa,xb,0,0⟩) ?_ rfl ⟨⟨⟨12,xa,xb,0,0⟩,rfl,?_⟩,(((Fr.refl _ _).alloc _).alloc _).alloc _⟩
    · simp[results,Tryz.f13,go_sem,ddV]
    · simp[Dd.Rt,R6,R5,R8,RM] <;> omega
  · go_wp2_with fail
    refine(pick_0 da 6 _ ha (by decide)).mono ?_;rintro e w1 ⟨⟨xa,rfl,a1,a2⟩,rfl⟩;go_wp2;refine bodyPost_ret (v:=ddV ⟨13,xa,0,0,0⟩) ?_ rfl ⟨⟨⟨13,xa,0,0,0⟩,rfl,?_⟩,(((Fr.refl _ _).alloc _).alloc _).alloc _⟩
    · simp[results,Tryz.f13,go_sem,ddV]
    · simp[Dd.Rt,R6,R5,R8,RM] <;> omega
  · go_wp2;refine bodyPost_ret (v:=ddV ⟨14,0,0,0,0⟩) ?_ rfl ⟨⟨⟨14,0,0,0,0⟩,rfl,?_⟩,(((Fr.refl _ _).alloc _).alloc _).alloc _⟩
    · simp[results,Tryz.f13,go_sem,ddV]
    · simp[Dd.Rt,R6,R5,R8,RM] <;> omega
end
end Go.Proofs.YtdffnjikmkgjkaaGreat
