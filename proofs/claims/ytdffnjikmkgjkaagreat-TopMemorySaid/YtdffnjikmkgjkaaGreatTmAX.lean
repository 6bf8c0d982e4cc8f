/- TopMemory: a part of its proof (Lck Mc1 Cyw StH Slc). -/
import Derived.Test.YtdffnjikmkgjkaaGreatProg
import Derived.Conc.MuLone
import Derived.Test.YtdffnjikmkgjkaaGreatTmAA
import Derived.Test.YtdffnjikmkgjkaaGreatTmAI
import Derived.Test.YtdffnjikmkgjkaaGreatTmAV
import Derived.Test.YtdffnjikmkgjkaaGreatTmAP
set_option linter.unusedSimpArgs false
set_option linter.unusedVariables false
set_option maxHeartbeats 8000000
namespace Go.Proofs.YtdffnjikmkgjkaaGreat
section
open Go.RowKit
abbrev muLink:Go.Conc.Locks.MuLink:={ lock:=35,unlock:=36,ilock:=63,iunlock:=64,lockSlow:=102,unlockSlow:=105,disable:=98,enable:=100,acquire:=101,relMerge:=103,cas32:=99,add32:=104,tMutex:=64,tIMutex:=62,tPMutex:=152,tPIMutex:=176,tPI32:=178,tUP:=180,tNoCopy:=59,tU32:=60 }
theorem muLib:Go.Conc.Locks.MuLib Tryz.prog muLink:=
  ⟨Tryz.func35,Tryz.func36,Tryz.func63,Tryz.func64,Tryz.func98,Tryz.func100,Tryz.func101,Tryz.func103,Tryz.func99,Tryz.func104,Tryz.underlying62,Tryz.runUnderlying62,Tryz.sizeOf62,Tryz.isAgg62,Tryz.zeroValue62,Tryz.underlying64,Tryz.runUnderlying64,Tryz.sizeOf64,Tryz.isAgg64,Tryz.zeroValue64,Tryz.underlying152,Tryz.runUnderlying152,Tryz.sizeOf152,Tryz.isAgg152,Tryz.zeroValue152,Tryz.underlying176,Tryz.runUnderlying176,Tryz.sizeOf176,Tryz.isAgg176,Tryz.zeroValue176,Tryz.underlying178,Tryz.runUnderlying178,Tryz.sizeOf178,Tryz.isAgg178,Tryz.zeroValue178,Tryz.underlying180,Tryz.runUnderlying180,Tryz.sizeOf180,Tryz.isAgg180,Tryz.zeroValue180,Tryz.underlying59,Tryz.runUnderlying59,Tryz.sizeOf59,Tryz.isAgg59,Tryz.zeroValue59,Tryz.underlying21,Tryz.runUnderlying21,Tryz.sizeOf21,Tryz.isAgg21,Tryz.zeroValue21,(by kernel_rfl)⟩
end
section
open Go.RowKit Go.Shelf Go.MuLone
def FullP (w:World)(mp:Nat)(cs:List Value)(e:Ending)(w':World):Prop:=(∃b:Bool,e = .returned (.bool b))∧Fr (fun k=>k=mp) w w'∧OwnL w' mp cs
theorem full_is {w:World}{mp:Nat}{a0 a1 a2:Value}{ea:Option Addr}{en ec:Nat}(h:OwnL w mp [a0,a1,a2,.int .i32 0,.int .u32 0,.slice ea en ec]) :
    Calls Tryz.prog 16 #[.pointer (some ⟨mp,3,none⟩)] w (FullP w mp [a0,a1,a2,.int .i32 0,.int .u32 0,.slice ea en ec]):=by
  have c3:=(h 3 _ rfl).1;have f3:=(h 3 _ rfl).2;have h1:=h.set 3 (.int .i32 1) (by simp);have F1:=frS w (mp) 3 (.int .i32 1);obtain⟨W1,hW1⟩:∃W1,w.setCell ⟨mp,3,none⟩ (.int .i32 1)=W1:=⟨_,rfl⟩;rw[hW1] at h1 F1;have h2:=h1.set 3 (.int .i32 0) (by simp);have F2:=frS W1 (mp) 3 (.int .i32 0);have d5:W1.cell? ⟨mp,5,none⟩=some (.slice ea en ec):=(h1 5 _ rfl).1;have d3:W1.cell? ⟨mp,3,none⟩=some (.int .i32 1):=(h1 3 _ rfl).1;have g3:=(h1 3 _ rfl).2;have hP:∀b,FullP w mp [a0,a1,a2,.int .i32 0,.int .u32 0,.slice ea en ec] (.returned (.bool b)) (W1.setCell ⟨mp,3,none⟩ (.int .i32 0)):=fun b=>⟨⟨b,rfl⟩,F1.trans F2,h2⟩;replace hP:=hid hP;clear F1 F2 h1 h2 h;go_enter_defers Tryz.func16,Tryz.ntmps16;go_wp2_with (go_at_call 35;refine(lock_free muLib ⟨mp,3,none⟩ _ c3 f3).mono ?_;rintro e w' ⟨rfl,rfl⟩;rw[hW1])
  refine leaves_cons (f:=36) (args:=#[.pointer (some ⟨mp,3,none⟩)]) (by simp) (by simp[go_sem]) ?_;refine(unlock_deferred muLib ⟨mp,3,none⟩ .returning _ d3 g3).mono ?_;rintro e u' w'' ⟨rfl,rfl,rfl⟩;exact⟨_,results_tmp (t:=2) rfl _ _ _,hP.out (decide (2000≤(en:Int)))⟩
def enC (t b n k e v:Int):List Value:=[vI t,vI b,vI n,vI k,vI e,vI v]
def NoteP (w:World)(mp:Nat)(a0 a1 a2 ev:Value)(e:Ending)(w':World):Prop:=
  e = .returned (.tuple #[])∧∃ (ev':Value) (n':Nat) (xs':List Value),OwnL w' mp [a0,a1,a2,.int .i32 0,.int .u32 0,ev']∧w'.ownsRow 0 76 6 ev' n' xs'∧n'≤2000∧Fr (fun k=>k=mp∨InB ev k) w w'∧∀b,InB ev' b→InB ev b∨w.heap.size≤b
set_option maxRecDepth 8000 in
theorem note_ent {w:World}{mp:Nat}{a0 a1 a2 ev:Value}{n:Nat}{xs:List Value}(h:OwnL w mp [a0,a1,a2,.int .i32 0,.int .u32 0,ev])(hr:w.ownsRow 0 76 6 ev n xs)(hne:¬InB ev mp)(hn:n≤2000)(et eb en ek ee ex:Int) :
    Calls Tryz.prog 22 #[.pointer (some ⟨mp,3,none⟩),.agg #[vI et,vI eb,vI en,vI ek,vI ee,vI ex]] w (NoteP w mp a0 a1 a2 ev):=by
  obtain⟨ea,ec,rfl⟩:=owns_slice hr;have k0:Calm w (w.alloc (.cells #[vI et,vI eb,vI en,vI ek,vI ee,vI ex] 76)):=(Fr.refl _ _).alloc _;have oE:OwnL (w.alloc (.cells #[vI et,vI eb,vI en,vI ek,vI ee,vI ex] 76)) w.heap.size (enC et eb en ek ee ex):=OwnL.nth2 w [_,_,_,_,_,_] _ _ rfl;obtain⟨W0,hW0⟩:∃W0,w.alloc (.cells #[vI et,vI eb,vI en,vI ek,vI ee,vI ex] 76)=W0:=⟨_,rfl⟩;rw[hW0] at k0 oE;have hmp:mp<w.heap.size:=h.lt (by simp);have h0:=h.calm k0;have hr0:=owns_frB hr k0 (fun _ _=>id);have c3:=(h0 3 _ rfl).1;have f3:=(h0 3 _ rfl).2;have h1:=h0.set 3 (.int .i32 1) (by simp);have F1:=frS W0 (mp) 3 (.int .i32 1);obtain⟨W1,hW1⟩:∃W1,W0.setCell ⟨mp,3,none⟩ (.int .i32 1)=W1:=⟨_,rfl⟩;rw[hW1] at h1 F1;have hr1:=owns_frB hr0 F1 (fun b hb e=>hne (e ▸ hb));have oE1:=oE.fr F1 (by omega);have d5:W1.cell? ⟨mp,5,none⟩=some (.slice ea n ec):=(h1 5 _ rfl).1;have d3:W1.cell? ⟨mp,3,none⟩=some (.int .i32 1):=(h1 3 _ rfl).1;have g3:=(h1 3 _ rfl).2;have hf:Fr (fun k=>k=mp∨InB (.slice ea n ec) k) w W1:=(Calm.any k0:Fr (fun k=>k=mp∨InB (.slice ea n ec) k) _ _).trans (F1.mono (fun _ _ e=>.inl e))
  have hend:Hid (∀ (W:World) (ev':Value) (n':Nat) (xs':List Value),OwnL W mp [a0,a1,a2,.int .i32 1,.int .u32 0,ev']→W.ownsRow 0 76 6 ev' n' xs'→n'≤2000→Fr (fun k=>k=mp∨InB (.slice ea n ec) k) w W→(∀b,InB ev' b→InB (.slice ea n ec) b∨w.heap.size≤b)→NoteP w mp a0 a1 a2 (.slice ea n ec) (.returned (.tuple #[])) (W.setCell ⟨mp,3,none⟩ (.int .i32 0))):=fun W ev' n' xs' e1 e2 e3 e4 e5=>by
    have F2:=frS W (mp) 3 (.int .i32 0);refine⟨rfl,ev',n',xs',e1.set 3 (.int .i32 0) (by simp),owns_frB e2 F2 (fun b hb e=>?_),e3,e4.trans (F2.mono (fun _ _ e=>.inl e)),e5⟩;subst e;rcases e5 b hb with e|e
    · exact hne e
    · omega
  by_cases hlt:n<2000
  · have hlt2:decide ((n:Int)<2000)=true:=by simp;omega
    replace hlt:=hid hlt;replace hn:=hid hn;replace hne:=hid hne;replace hmp:=hid hmp;have hr':=hid hr;have hsz:Hid (w.heap.size≤W1.heap.size):=hf.size;replace hf:=hid hf;clear h h0 hr hr0 oE;go_enter_defers Tryz.func22,Tryz.ntmps22;go_wp2_with (go_at_call 35;refine(lock_free muLib ⟨mp,3,none⟩ _ c3 f3).mono ?_;rintro e w' ⟨rfl,rfl⟩;rw[hW1])
    have kd:Calm W1 W1.drew:=(Fr.refl _ _).drew;have x5:=kd.cellAt d5 id;have oEd:=oE1.calm kd;obtain⟨g0,g1,g2,g3',g4,g5⟩:=OwnL.ce6 oEd;refine wp_region_noPanic ?_;refine wp_region_helds 6 8 (fun w'=>w'.cell? ⟨mp,5,none⟩=some (.slice ea n ec)∧OwnL w' w.heap.size (enC et eb en ek ee ex)) (by kernel_rfl) (by kernel_rfl) ⟨x5,oEd⟩ ?_;refine heldList_step (.pointer (some ⟨mp,3,none⟩)) rfl (fun w' hw'=>?_) (fun _ _ _ h=>h) ?_
    · simp[go_sem]
    refine heldList_step (.pointer (some ⟨mp,3,none⟩)) rfl (fun w' hw'=>?_) (fun _ _ _ h=>h) ?_
    · simp[go_sem]
    refine heldList_step (.pointer (some ⟨mp,3,none⟩)) rfl (fun w' hw'=>?_) (fun _ _ _ h=>h) ?_
    · simp[go_sem]
    refine heldList_step (.pointer (some ⟨mp,5,none⟩)) rfl (fun w' hw'=>?_) (fun _ _ _ h=>h) ?_
    · simp[go_sem]
    refine heldList_step (.slice ea n ec) rfl (fun w' hw'=>?_) (fun _ _ _ h=>h) ?_
    · have e1:=hw'.1;simp[go_sem,e1]
    refine heldList_step (.agg #[vI et,vI eb,vI en,vI ek,vI ee,vI ex]) rfl (fun w' hw'=>?_) (fun _ _ _ h=>h) ?_
    · have o:=hw'.2;simp only[enC] at o;obtain⟨z0,z1,z2,z3,z4,z5⟩:=OwnL.ce6 o;simp[go_sem,z0,z1,z2,z3,z4,z5]
    simp only[heldList];have kA:Calm W1 (W1.drew.alloc (.cells #[vI et,vI eb,vI en,vI ek,vI ee,vI ex] 76)):=kd.alloc _;have xA:=kA.cellAt d5 id;have oA:=oE1.calm kA;have hrA:=owns_frB hr1 kA (fun _ _=>id);have hS:World.cell? (W1.drew.alloc (.cells #[vI et,vI eb,vI en,vI ek,vI ee,vI ex] 76)) ⟨mp,5,none⟩=some (.slice ea n ec)∧OwnL (W1.drew.alloc (.cells #[vI et,vI eb,vI en,vI ek,vI ee,vI ex] 76)) w.heap.size (enC et eb en ek ee ex):=⟨xA,oA⟩;have hbE:¬InB (.slice ea n ec) w.heap.size:=fun e=>by have:=hr'.out.lt _ e;omega
    clear g0 g1 g2 g3' g4 g5 x5 xA oA;refine heldSeq_step rfl ?_;unfold Oper.wp;go_simp
    first|refine⟨hS,?_⟩|skip
    refine heldSeq_step rfl ?_;refine Eq.mp (if_pos (show Region.wanted _ (yielded _ _)=true from rfl)) (step_appG (ops:=#[]) (E:=True) giE rfl (.tmp 21) (.tmp 23) rfl (.slice ea n ec) n xs hrA rfl (enC et eb en ek ee ex) rfl (by simp[enC,Value.oneCell']) ⟨W1.heap.size,0,none⟩ 1 rfl (fun j u hj=>by rw[addr_at];simp only[Nat.zero_add];exact cell_row2 W1.drew _ _ _ hj) (by have:=hlt.out;omega) ?_);intro g c w3 hr3 f3' hg3;have h3:=(h1.calm kA).fr f3' hne.out;have oE3:=(oE1.calm kA).fr f3' hbE;have x53:=(h3 5 _ rfl).1;have f53:=(h3 5 _ rfl).2;have h4:=h3.set 5 (.slice (some ⟨g,0,none⟩) (n+1) c) (by simp);have F4:=frS w3 (mp) 5 (.slice (some ⟨g,0,none⟩) (n+1) c)
    have hg4:∀b,InB (.slice (some ⟨g,0,none⟩) (n+1) c) b→InB (.slice ea n ec) b∨w.heap.size≤b:=fun b hb=>by
      rw[InB.mk1 hb];rcases hg3 with e|e
      · exact .inl e
      · right;rw[e];exact Nat.le_trans hsz.out kA.size
    have hmpg:mp<w.heap.size:=hmp.out
    have hr4:=owns_frB hr3 F4 (fun b hb e=>by
      subst e;rcases hg4 b hb with e2|e2
      · exact hne.out e2
      · omega)
    have hft:Fr (fun k=>k=mp∨InB (.slice ea n ec) k) w (w3.setCell ⟨mp,5,none⟩ (.slice (some ⟨g,0,none⟩) (n+1) c)):=((hf.out.trans (Calm.any kA)).trans (f3'.mono (fun b _ e=>.inr e))).trans (F4.mono (fun b _ e=>.inl e));have hP:=hid (hend.out _ _ _ _ h4 hr4 (by have:=hlt.out;omega) hft hg4);have d34:=(h4 3 _ rfl).1;have g34:=(h4 3 _ rfl).2;refine⟨⟨x53,oE3⟩,?_⟩;simp only[heldSeq];clear h3 h4 hr4 hft hend F4 hS hrA oE3 hr3 f3' hg3 hg4 h1 hr1 d5 d3 F1 oE1 oEd;go_wp2;refine NoPanic.normal ?_;go_wp2;refine leaves_cons (f:=36) (args:=#[.pointer (some ⟨mp,3,none⟩)]) (by simp) (by simp[go_sem]) ?_;refine(unlock_deferred muLib ⟨mp,3,none⟩ .returning _ d34 g34).mono ?_;rintro e u' w'' ⟨rfl,rfl,rfl⟩;exact⟨_,results_none rfl _ _ _,hP.out⟩
  · clear F1 h0 hr0 oE oE1 k0;have hP:=hid (hend.out W1 (.slice ea n ec) n xs h1 hr1 hn hf (fun _ h=>.inl h));clear hend h1 hr1 hf h hr hn hmp hne;have hlt2:decide ((n:Int)<2000)=false:=by simp;omega
    clear hlt;go_enter_defers Tryz.func22,Tryz.ntmps22;go_wp2_with (go_at_call 35;refine(lock_free muLib ⟨mp,3,none⟩ _ c3 f3).mono ?_;rintro e w' ⟨rfl,rfl⟩;rw[hW1])
    refine leaves_cons (f:=36) (args:=#[.pointer (some ⟨mp,3,none⟩)]) (by simp) (by simp[go_sem]) ?_;refine(unlock_deferred muLib ⟨mp,3,none⟩ .returning _ d3 g3).mono ?_;rintro e u' w'' ⟨rfl,rfl,rfl⟩;exact⟨_,results_none rfl _ _ _,hP.out⟩
end
section
open Go.RowKit Go.Shelf
attribute [local go_sem] run_nf_nf run_fn_nf run_store_fv run_store_nf
def CStP (w:World)(c:Nat)(BA:HB)(A:HS)(rv lv:Value)(en:Ending)(w':World):Prop:=
  ∃ (b:Bool) (ph':Nat) (A':HS) (BA':HB) (XA':List Nat) (rv' lv':Value) (rd' ls':List Nat),en = .returned (.bool b)∧CH w' 0 c BA' A' XA' ph' rv' lv' rd' ls'∧CKeep w c rv lv BA w' rv' lv' BA'∧HW A'∧(ph'=0↔A'.mv=false)∧ph'≤2∧A'.n=A.n∧A'.ser=A.ser∧(∀q∈rd',q≤131072)∧rd'.length≤A.ser∧ls'.length≤A.ser
theorem cstep_any {w:World}{c:Nat}{BA:HB}{A:HS}{XA:List Nat}{ph:Nat}{rv lv:Value}(h:CH w 0 c BA A XA ph rv lv [] [])(hw:HW A)(hp:ph=0↔A.mv=false)(hp2:ph≤2) :
    Calls Tryz.prog 47 #[pV c] w (CStP w c BA A rv lv):=by
  have hP0:Hid (∀ (ph1:Nat) (b:Bool) (A1:HS) (BA1:HB) (XA1:List Nat) W,ph1=ph→CH W 0 c BA1 A1 XA1 ph1 rv lv [] []→CKeep w c rv lv BA W rv lv BA1→HW A1→A1.n=A.n→A1.ser=A.ser→A1.mv=A.mv→CStP w c BA A rv lv (.returned (.bool b)) W):=fun ph1 b A1 BA1 XA1 W e1 h1 h2 h3 h4 h5 h6=>⟨b,ph1,A1,BA1,XA1,rv,lv,[],[],rfl,h1,h2,h3,by rw[e1,h6];exact hp,by omega,h4,h5,fun _ h=>(by cases h),Nat.zero_le _,Nat.zero_le _⟩;rcases(by omega:ph=0∨ph=1∨ph=2) with rfl|rfl|rfl
  · have hlv:Calls Tryz.prog 37 #[pV c] w fun e w'=>e = .returned (.bool false)∧w=w':=live_is h.cy;replace hlv:=hid hlv;have hPz:=hid (hP0.out 0 false A BA XA w rfl h (CKeep.refl _ _ _ _ _) hw rfl rfl rfl);clear h hP0 hp hw;go_enter Tryz.func47,Tryz.ntmps47;go_wp2_with fail
    refine(hlv.out).mono ?_;rintro e w1 ⟨rfl,rfl⟩;go_wp2;go_ret;exact hPz.out
  · have hm:A.mv=true:=by
      cases hmv:A.mv with
      | true=>rfl
      | false=>exact absurd (hp.2 hmv) (by decide)
    have hlv:Calls Tryz.prog 37 #[pV c] w fun e w'=>e = .returned (.bool true)∧w=w':=live_is h.cy;replace hlv:=hid hlv;have hSc:=hid (hscan_any h.ha hw hm);have y0:=h.cy.c0;have H:=hid h;clear h hp;go_enter Tryz.func47,Tryz.ntmps47;go_wp2_with fail
    refine(hlv.out).mono ?_;rintro e w1 ⟨rfl,rfl⟩;go_wp2_with fail
    refine(hSc.out).mono ?_;rintro e w4 h4;rcases h4 with ⟨rfl,hst,k4⟩|⟨rfl,A1,⟨BA1,XA1,hA1,hK1,hw1⟩,hn,hs,hm1⟩
    · have H1:=H.out.calm k4;have z1:=H1.cy.c1.1;unfold phV at z1;have hFi:=hid (first_is (Q:=FinW A) H1 (by simp) (fun W cw=>hfinals_any (H1.ha.calm cw) hw hm));clear H1 H hlv hSc;go_wp2_with fail
      refine hFi.out.mono ?_;rintro e w5 ⟨rfl,l',A',BA',XA',rv',hC,hk5,hq⟩
      have hP:CStP w c BA A rv lv (.returned (.bool false)) w5:=by
        exact⟨false,2,A',BA',XA',rv',lv,[]++l',[],rfl,hC,(CKeep.calm k4).trans hk5,hq.1,by rw[hq.2.2.2.1,hm];simp,by decide,hq.2.1,hq.2.2.1,by simpa using hq.2.2.2.2.1,by simpa using hq.2.2.2.2.2,Nat.zero_le _⟩
      replace hP:=hid hP;clear hC hk5 hq;go_wp2;go_ret;exact hP.out
    · have hPz:=hid (hP0.out 1 false A1 BA1 XA1 w4 rfl (H.out.stepA hA1 hK1) (CKeep.stepA hK1) hw1 hn hs hm1);clear H hP0 hlv hSc hA1 hK1 hw1;go_wp2;go_ret;exact hPz.out
  · have hm:A.mv=true:=by
      cases hmv:A.mv with
      | true=>rfl
      | false=>exact absurd (hp.2 hmv) (by decide)
    have hlv:Calls Tryz.prog 37 #[pV c] w fun e w'=>e = .returned (.bool true)∧w=w':=live_is h.cy;replace hlv:=hid hlv;have hSc:=hid (hscan_any h.ha hw hm);have y0:=h.cy.c0;have H:=hid h;clear h hp;go_enter Tryz.func47,Tryz.ntmps47;go_wp2_with fail
    refine(hlv.out).mono ?_;rintro e w1 ⟨rfl,rfl⟩;go_wp2_with fail
    refine(hSc.out).mono ?_;rintro e w4 h4;rcases h4 with ⟨rfl,hst,k4⟩|⟨rfl,A1,⟨BA1,XA1,hA1,hK1,hw1⟩,hn,hs,hm1⟩
    · have H1:=H.out.calm k4;have z1:=H1.cy.c1.1;unfold phV at z1;have hFi:=hid (second_is (Q:=DroW A) H1 (by simp) (hdrop_any H1.ha hw hm hst));clear H1 H hlv hSc;go_wp2_with fail
      refine hFi.out.mono ?_;rintro e w5 ⟨rfl,l',A',BA',XA',lv',hC,hk5,hq⟩
      have hP:CStP w c BA A rv lv (.returned (.bool true)) w5:=by
        exact⟨true,0,A',BA',XA',rv,lv',[],[]++l',rfl,hC,(CKeep.calm k4).trans hk5,hq.1,by rw[hq.2.2.2.1];simp,by decide,hq.2.1,hq.2.2.1,fun _ h=>(by cases h),Nat.zero_le _,by simpa using hq.2.2.2.2⟩
      replace hP:=hid hP;clear hC hk5 hq;go_wp2;go_ret;exact hP.out
    · have hPz:=hid (hP0.out 2 false A1 BA1 XA1 w4 rfl (H.out.stepA hA1 hK1) (CKeep.stepA hK1) hw1 hn hs hm1);clear H hP0 hlv hSc hA1 hK1 hw1;go_wp2;go_ret;exact hPz.out
end
section
open Go.RowKit Go.Shelf
section
variable {w w':World}{τ:Nat→Nat}{M:Mem}{S:StD}
theorem InS.cells (h1:Hold w τ M)(h2:StIn M S):OwnL w S.sp S.cs:=by
  have:=h1.at_ 2;rw[h2.c] at this;exact this
theorem InS.heap (h1:Hold w τ M)(h2:StIn M S):∃X,CH w 0 S.D.c S.D.B S.D.A X S.D.ph S.D.rv S.D.lv S.D.rd S.D.ls:=by
  have:=h1.at_ 0;rw[h2.h] at this;exact this
theorem InS.que (h1:Hold w τ M)(h2:StIn M S):w.ownsRow 0 112 2 S.qv S.qu.length (S.qu.flatMap itC):=by
  have:=h1.at_ 5;rw[h2.q] at this;exact this
theorem InS.lostR (h1:Hold w τ M)(h2:StIn M S):ORow w 0 S.lv (nI S.lost):=by
  have:=h1.at_ 6;rw[h2.l] at this;exact this
theorem InS.cameR (h1:Hold w τ M)(h2:StIn M S):ORow w 0 S.cv (nI S.came):=by
  have:=h1.at_ 7;rw[h2.m] at this;exact this
theorem InS.turn0 (h1:Hold w τ M)(h2:StIn M S)(v:Value)(l:List It)(f:Fr (fun b=>b=S.sp∨InB S.qv b) w w')(hc:OwnL w' S.sp ({ S with qv:=v,qu:=l } : StD).cs)(ho:w'.ownsRow 0 112 2 v l.length (l.flatMap itC))(hnew:∀b,InB v b→InB S.qv b∨w.heap.size≤b) :
    ∃τ' M',Hold w' τ' M'∧StIn M' { S with qv:=v,qu:=l } ∧ KeepT w τ w' τ':=by
  have hb:(M 2).blk=fun k=>k=S.sp:=by rw[h2.c];rfl
  have hb6:(M 5).blk=InB S.qv:=by rw[h2.q];rfl
  obtain⟨τ',k1,k2⟩:=h1.put2 (t:=2) (u:=5) (by omega) (a:=aCells S.sp (pV S.D.B.hp) [pV S.D.c,pV S.ck,S.tsv,v,vI S.next,vI S.holder,vI S.ver,S.lv,S.cv]) (b:=aIts v l)
    (by rw[hb,hb6];exact f) hc ho (fun k hk=>by rw[hb];exact hk) (fun k hk=>by rw[hb6];exact hnew k hk) (by omega) (by omega)
  have o:=(Mem.Only.put M (P:=fun j=>j=2∨j=5) (aCells S.sp (pV S.D.B.hp) [pV S.D.c,pV S.ck,S.tsv,v,vI S.next,vI S.holder,vI S.ver,S.lv,S.cv]) (.inl rfl)).trans (Mem.Only.put _ (aIts v l) (.inr rfl));refine⟨τ',_,k1,⟨(o 0 (by omega)).trans h2.h,?_,(o 3 (by omega)).trans h2.k,(o 4 (by omega)).trans h2.t,?_,(o 6 (by omega)).trans h2.l,(o 7 (by omega)).trans h2.m,fun t ht=>(h2.x t ht).only o (fun j h1 h2=>by omega),fun u hu=>(o u (by omega)).trans (h2.z u hu)⟩,k2⟩
  · rw[Mem.put_other _ _ (by omega),Mem.put_same]
  · rw[Mem.put_same]
theorem InS.turn1 (h1:Hold w τ M)(h2:StIn M S)(v:Value)(l:List Nat)(f:Fr (fun b=>b=S.sp∨InB S.lv b) w w')(hc:OwnL w' S.sp ({ S with lv:=v,lost:=l } : StD).cs)(ho:ORow w' 0 v (nI l))(hnew:∀b,InB v b→InB S.lv b∨w.heap.size≤b) :
    ∃τ' M',Hold w' τ' M'∧StIn M' { S with lv:=v,lost:=l } ∧ KeepT w τ w' τ':=by
  have hb:(M 2).blk=fun k=>k=S.sp:=by rw[h2.c];rfl
  have hb6:(M 6).blk=InB S.lv:=by rw[h2.l];rfl
  obtain⟨τ',k1,k2⟩:=h1.put2 (t:=2) (u:=6) (by omega) (a:=aCells S.sp (pV S.D.B.hp) [pV S.D.c,pV S.ck,S.tsv,S.qv,vI S.next,vI S.holder,vI S.ver,v,S.cv]) (b:=aRow v (nI l))
    (by rw[hb,hb6];exact f) hc ho (fun k hk=>by rw[hb];exact hk) (fun k hk=>by rw[hb6];exact hnew k hk) (by omega) (by omega)
  have o:=(Mem.Only.put M (P:=fun j=>j=2∨j=6) (aCells S.sp (pV S.D.B.hp) [pV S.D.c,pV S.ck,S.tsv,S.qv,vI S.next,vI S.holder,vI S.ver,v,S.cv]) (.inl rfl)).trans (Mem.Only.put _ (aRow v (nI l)) (.inr rfl));refine⟨τ',_,k1,⟨(o 0 (by omega)).trans h2.h,?_,(o 3 (by omega)).trans h2.k,(o 4 (by omega)).trans h2.t,(o 5 (by omega)).trans h2.q,?_,(o 7 (by omega)).trans h2.m,fun t ht=>(h2.x t ht).only o (fun j h1 h2=>by omega),fun u hu=>(o u (by omega)).trans (h2.z u hu)⟩,k2⟩
  · rw[Mem.put_other _ _ (by omega),Mem.put_same]
  · rw[Mem.put_same]
theorem InS.turn2 (h1:Hold w τ M)(h2:StIn M S)(v:Value)(l:List Nat)(f:Fr (fun b=>b=S.sp∨InB S.cv b) w w')(hc:OwnL w' S.sp ({ S with cv:=v,came:=l } : StD).cs)(ho:ORow w' 0 v (nI l))(hnew:∀b,InB v b→InB S.cv b∨w.heap.size≤b) :
    ∃τ' M',Hold w' τ' M'∧StIn M' { S with cv:=v,came:=l } ∧ KeepT w τ w' τ':=by
  have hb:(M 2).blk=fun k=>k=S.sp:=by rw[h2.c];rfl
  have hb6:(M 7).blk=InB S.cv:=by rw[h2.m];rfl
  obtain⟨τ',k1,k2⟩:=h1.put2 (t:=2) (u:=7) (by omega) (a:=aCells S.sp (pV S.D.B.hp) [pV S.D.c,pV S.ck,S.tsv,S.qv,vI S.next,vI S.holder,vI S.ver,S.lv,v]) (b:=aRow v (nI l))
    (by rw[hb,hb6];exact f) hc ho (fun k hk=>by rw[hb];exact hk) (fun k hk=>by rw[hb6];exact hnew k hk) (by omega) (by omega)
  have o:=(Mem.Only.put M (P:=fun j=>j=2∨j=7) (aCells S.sp (pV S.D.B.hp) [pV S.D.c,pV S.ck,S.tsv,S.qv,vI S.next,vI S.holder,vI S.ver,S.lv,v]) (.inl rfl)).trans (Mem.Only.put _ (aRow v (nI l)) (.inr rfl));refine⟨τ',_,k1,⟨(o 0 (by omega)).trans h2.h,?_,(o 3 (by omega)).trans h2.k,(o 4 (by omega)).trans h2.t,(o 5 (by omega)).trans h2.q,(o 6 (by omega)).trans h2.l,?_,fun t ht=>(h2.x t ht).only o (fun j h1 h2=>by omega),fun u hu=>(o u (by omega)).trans (h2.z u hu)⟩,k2⟩
  · rw[Mem.put_other _ _ (by omega),Mem.put_same]
  · rw[Mem.put_same]
theorem InS.next (h1:Hold w τ M)(h2:StIn M S)(n:Nat)(f:Fr (fun b=>b=S.sp) w w')(hc:OwnL w' S.sp ({ S with next:=n } : StD).cs):∃M',Hold w' τ M'∧StIn M' { S with next:=n } ∧ KeepT w τ w' τ:=by
  have hb:(M 2).blk=fun k=>k=S.sp:=by rw[h2.c];rfl
  have f':Fr (M 2).blk w w':=f.mono (fun k _ e=>by rw[hb];exact e);have k1:=h1.put' (t:=2) (a:=aCells S.sp (pV S.D.B.hp) [pV S.D.c,pV S.ck,S.tsv,S.qv,vI n,vI S.holder,vI S.ver,S.lv,S.cv]) f' hc (fun k hk=>by rw[hb];exact hk);have o:=Mem.Only.put M (P:=fun j=>j=2) (aCells S.sp (pV S.D.B.hp) [pV S.D.c,pV S.ck,S.tsv,S.qv,vI n,vI S.holder,vI S.ver,S.lv,S.cv]) rfl;exact⟨_,k1,⟨(o 0 (by omega)).trans h2.h,by rw[Mem.put_same],(o 3 (by omega)).trans h2.k,(o 4 (by omega)).trans h2.t,(o 5 (by omega)).trans h2.q,(o 6 (by omega)).trans h2.l,(o 7 (by omega)).trans h2.m,fun t ht=>(h2.x t ht).only o (fun j h1 h2 (e:j=2)=>by omega),fun u hu=>(o u (by omega)).trans (h2.z u hu)⟩,KeepT.piece h1 f' (by omega)⟩
theorem InS.setD (h1:Hold w τ M)(h2:StIn M S)(D':HD)(hf:Fr (fun k=>CyB S.D.c S.D.rv S.D.lv k∨HBlk S.D.B k) w w')(ha:(aH D').at_ w')(hn:∀k,(aH D').blk k→(HBlk S.D.B k∨CyB S.D.c S.D.rv S.D.lv k)∨w.heap.size≤k)(e1:D'.B.hp=S.D.B.hp)(e2:D'.c=S.D.c) :
    ∃τ' M',Hold w' τ' M'∧StIn M' { S with D:=D' } ∧ KeepT w τ w' τ':=by
  have hb:(M 0).blk=fun k=>HBlk S.D.B k∨CyB S.D.c S.D.rv S.D.lv k:=by rw[h2.h];rfl
  obtain⟨τ',j1,j2⟩:=h1.put (t:=0) (a:=aH D') (hf.mono (fun k _ e=>by rw[hb];exact e.symm)) ha (fun k hk=>by rw[hb];exact hn k hk) (by decide);exact⟨τ',_,j1,h2.setD (Mem.Only.put M _ rfl) (Mem.put_same _ _ _) e1 e2,j2⟩
theorem InS.setD' (h1:Hold w τ M)(h2:StIn M S)(D':HD)(hf:Fr (fun k=>CyB S.D.c S.D.rv S.D.lv k∨HBlk S.D.B k) w w')(ha:(aH D').at_ w')(hn:∀k,(aH D').blk k→(HBlk S.D.B k∨CyB S.D.c S.D.rv S.D.lv k))(e1:D'.B.hp=S.D.B.hp)(e2:D'.c=S.D.c) :
    ∃M',Hold w' τ M'∧StIn M' { S with D:=D' } ∧ KeepT w τ w' τ:=by
  have hb:(M 0).blk=fun k=>HBlk S.D.B k∨CyB S.D.c S.D.rv S.D.lv k:=by rw[h2.h];rfl
  have f':Fr (M 0).blk w w':=hf.mono (fun k _ e=>by rw[hb];exact e.symm);exact⟨_,h1.put' (t:=0) (a:=aH D') f' ha (fun k hk=>by rw[hb];exact hn k hk),h2.setD (Mem.Only.put M _ rfl) (Mem.put_same _ _ _) e1 e2,KeepT.piece h1 f' (by decide)⟩
end
def StD.rdy (S:StD)(qv:Value)(qu:List It)(nx:Nat)(cv:Value)(ca:List Nat):StD:={ S with qv:=qv,qu:=qu,next:=nx,cv:=cv,came:=ca }
structure SlI (w:World)(τ:Nat→Nat)(s q:Nat)(S:StD)(rv:Value)(rd:List Nat)(i:Nat)(W:World):Prop where
  ex:∃τk Mk qv qu nx cv ca,Hold W τk Mk∧StIn Mk (S.rdy qv qu nx cv ca)∧KeepT w τ W τk∧(∀x∈qu,x.at_≤131072∧I64 x.seq)∧qu.length≤S.qu.length+i∧nx≤S.next+i∧ca.length≤S.came.length+i∧ORow W 0 rv (nI rd)∧∀b,InB rv b→τk b=0
def SstP (w:World)(τ:Nat→Nat)(s q:Nat)(S:StD)(e:Ending)(w':World):Prop:=(∃b:Bool,e = .returned (.bool b))∧Nx w τ s (q+s) S w' fun _=>True
set_option maxRecDepth 8000 in
theorem sstep_is {w:World}{τ:Nat→Nat}{s q:Nat}{S:StD}(h:St w τ s q S)(hs:s<100000)(hq:q+s≤100000):Calls Tryz.prog 20 #[pV S.sp] w (SstP w τ s q S):=by
  have hok:=h.ok;have hser:S.D.A.ser≤s:=hok.se;obtain⟨X0,hch0⟩:=h.heap;rw[hok.rd,hok.ls] at hch0;have oc:=cstep_any hch0 hok.hw hok.ph hok.p2;have c1:=(h.cells 1 _ rfl).1;obtain⟨M,h1,h2,h3⟩:=h;have hok':=hid hok;clear hok hch0 h3;go_enter Tryz.func20,Tryz.ntmps20;go_wp2_with fail
  refine oc.mono ?_;rintro en w1 ⟨b,ph',A',BA',XA',rv',lv',rd',ls',rfl,hCH,hK,hw',hph,hp2,hn,hsr,hrd,hlr,hll⟩;clear oc c1;have hok:=hok'.out
  obtain⟨τ1,M1,k1,k2,k3⟩:=InS.setD h1 h2 (⟨BA',A',S.D.c,ph',rv',lv',rd',ls'⟩:HD) hK.fr ⟨XA',hCH⟩ (fun k hk=>by
    rcases hk with hk|hk
    · rcases hK.new k hk with e|e
      · exact .inl (.inl e)
      · exact .inr e
    · rcases hK.cnew k hk with e|e
      · exact .inl (.inr e)
      · exact .inr e) hK.hp rfl
  have or:=ready_is hCH.cy;have d1:w1.cell? ⟨S.sp,1,none⟩=some (pV S.D.c):=(InS.cells k1 k2 1 _ rfl).1;have hrtag:∀b,InB rv' b→τ1 b=0:=fun b hb=>k1.tag 0 b (by rw[k2.h];exact .inr (.inr (.inl hb)));clear hok;replace hph:=hid hph;go_wp2_with fail
  refine or.mono ?_;rintro en w2 ⟨rfl,hcy2,hrow2,f2⟩;clear or d1;have hapc:∀k,HBlk BA' k→k≠S.D.c:=fun k hk e=>hCH.ap k (.inl e) hk
  obtain⟨M2,j1,j2,j3⟩:=InS.setD' k1 k2 (⟨BA',A',S.D.c,ph',.slice none 0 0,lv',[],ls'⟩:HD) (f2.mono (fun k _ e=>.inl (.inl e))) ⟨XA',hCH.ha.fr f2 (fun k hk e=>hapc k hk e),hcy2,fun k hk=>by
    rcases hk with e|e|e
    · exact hCH.ap k (.inl e)
    · exact(InB.nil k e).elim
    · exact hCH.ap k (.inr (.inr e))⟩ (fun k hk=>by
    rcases hk with e|e|e|e
    · exact .inl e
    · exact .inr (.inl e)
    · exact(InB.nil k e).elim
    · exact .inr (.inr (.inr e))) rfl rfl
  obtain⟨S2,hS2⟩:∃S2:StD,({ S with D:=⟨BA',A',S.D.c,ph',.slice none 0 0,lv',[],ls'⟩ } : StD)=S2:=⟨_,rfl⟩;have j2':StIn M2 S2:=by rw[←hS2];exact j2
  have K2:=k3.trans j3;have e_sp:S2.sp=S.sp:=by rw[←hS2]
  have e_D:S2.D=⟨BA',A',S.D.c,ph',.slice none 0 0,lv',[],ls'⟩:=by rw[←hS2]
  have e_hp:S2.D.B.hp=BA'.hp:=by rw[e_D]
  have e_c:S2.D.c=S.D.c:=by rw[e_D]
  have e_qu:S2.qu=S.qu:=by rw[←hS2]
  have e_nx:S2.next=S.next:=by rw[←hS2]
  have e_ca:S2.came=S.came:=by rw[←hS2]
  have hI0:SlI w τ s q S2 rv' rd' 0 w2:=⟨τ1,M2,S2.qv,S2.qu,S2.next,S2.cv,S2.came,j1,j2',K2,by rw[e_qu];exact hok'.out.qu,Nat.le_refl _,Nat.le_refl _,Nat.le_refl _,hrow2,hrtag⟩;obtain⟨N,hN⟩:∃N,rd'.length=N:=⟨_,rfl⟩;obtain⟨ra,rc,hrv⟩:=hrow2.sliceN (n:=N) (by rw[←hN];simp[nI]);have hN':Hid (N≤s):=by show N≤s;omega
  replace hN:=hid hN;replace hrd:=hid hrd;replace hrv:=hid hrv;replace hI0:=hid hI0;rw[hrv.out];have hKhp:Hid (BA'.hp=S.D.B.hp):=hK.hp;clear hlr hrtag h1 h2 j1 j2 j3 j2' k1 k2 k3 hCH hcy2 hrow2 f2 hK K2 hapc;have hll':Hid (ls'.length≤s):=by show ls'.length≤s;omega
  replace hser:=hid hser;replace hsr:=hid hsr;replace hn:=hid hn;replace e_D:=hid e_D;replace e_qu:=hid e_qu;replace e_nx:=hid e_nx;replace e_ca:=hid e_ca;replace hS2:=hid hS2;replace e_hp:=hid e_hp;replace e_c:=hid e_c;replace e_sp:=hid e_sp;clear hll;go_wp2_with fail
  go_loopw [24] (fun z wr=>∃i:Nat,i≤N∧z=vI i∧SlI w τ s q S2 rv' rd' i wr) (fun z _=>N-(intOf z).toNat)
  case atStart=>exact⟨0,by omega,rfl,hI0.out⟩
  case round=>
    obtain⟨i,hi,rfl,τk,Mk,qv,qu,nx,cv,ca,g1,g2,K,hqo,hql,hnl,hcl,hrow,htag⟩:=hrel;clear hI0;have hNb:N≤100000:=by have:=hN'.out;omega
    have cs:=InS.cells g1 g2;have hsp:(S2.rdy qv qu nx cv ca).sp=S.sp:=e_sp.out;rw[hsp] at cs;have e_D2:(S2.rdy qv qu nx cv ca).D=⟨BA',A',S.D.c,ph',.slice none 0 0,lv',[],ls'⟩:=e_D.out;obtain⟨Xk,hch⟩:=InS.heap g1 g2;rw[e_D2] at hch;have y0:wr.cell? ⟨S.sp,0,none⟩=some (pV BA'.hp):=by have:=(cs 0 _ rfl).1;rw[e_D2] at this;exact this
    have y1:wr.cell? ⟨S.sp,1,none⟩=some (pV S.D.c):=by have:=(cs 1 _ rfl).1;rw[e_D2] at this;exact this
    have y4:wr.cell? ⟨S.sp,4,none⟩=some qv:=(cs 4 _ rfl).1
    by_cases hlt:i<N
    · obtain⟨gb,hslc,hown,hin⟩:=row_slc hrow;obtain⟨sa,sc,hsv,hsa⟩:=hslc;rw[hrv.out,hN.out] at hsv;injection hsv with v1 v2 v3
      have hNl:i<rd'.length:=by have:=hN.out;omega
      have hra:=hsa (by omega);rw[←v1] at hra;subst hra;obtain⟨p,hp⟩:∃p,rd'.getD i 0=p:=⟨_,rfl⟩;have hpm:p≤131072:=hrd.out p (by rw[←hp];exact get_mem 0 hNl);have yr:=(hown i hNl).1;rw[hp] at yr;clear hown v1 v2 v3 hsa hp;replace hin:=hid hin;have os:=hshape_any hch.ha hw' hpm;have hmono:Hid (∀W,Calm wr W→SlI w τ s q S2 rv' rd' (i+1) W):=fun W c=>⟨τk,Mk,qv,qu,nx,cv,ca,g1.calm c,g2,K.trans (KeepT.calm τk c),hqo,by omega,by omega,by omega,hrow.frB c (fun _ _=>id),htag⟩;replace hrow:=hid hrow;replace htag:=hid htag;replace hqo:=hid hqo;have hxq:¬InB qv S.sp:=fun e=>g1.apart (t:=5) (u:=2) (by omega) (by rw[g2.q];exact e) (by rw[g2.c];exact hsp.symm);have hxc:¬InB cv S.sp:=fun e=>g1.apart (t:=7) (u:=2) (by omega) (by rw[g2.m];exact e) (by rw[g2.c];exact hsp.symm);replace hxq:=hid hxq;replace hxc:=hid hxc;replace hsp:=hid hsp;replace e_D2:=hid e_D2;replace hql:=hid hql;replace hnl:=hid hnl;replace hcl:=hid hcl;go_wp2_with fail
      refine os.mono ?_;rintro en w4 ⟨k4,hcase⟩
      have hcase':∃ (p0 d0:Nat) (wk fn fr:Bool) (er:Int),en = .returned (.tuple #[shV p0 d0 wk fn,.bool fr,vI er]):=by
        rcases hcase with ⟨_,rfl⟩|⟨_,o,_,rfl⟩
        · exact⟨_,_,_,_,_,_,rfl⟩
        · exact⟨_,_,_,_,_,_,rfl⟩
      obtain⟨p0,d0,wk,fn,fr,er,rfl⟩:=hcase';clear os hcase y0 y1 yr y4;have k5:Calm w4 (w4.alloc (.cells #[vI p0,vI d0,.bool wk,.bool fn] 47)):=(Fr.refl _ _).alloc _;go_upto_region 8 with fail
      generalize hW5:w4.alloc (.cells #[vI p0,vI d0,.bool wk,.bool fn] 47)=W5 at *;clear hW5;have k45:=k4.trans k5
      cases fr with
      | true=>
        have hm2:=hid (hmono.out W5 k45);clear hmono;go_wp2_with fail
        exact⟨⟨i+1,by omega,by simp,hm2.out⟩,by simp[intOf] <;> omega⟩
      | false=>
        have cs5:=cs.calm k45;have hrq:W5.ownsRow 0 112 2 qv qu.length (qu.flatMap itC):=owns_frB (InS.que g1 g2) k45 (fun _ _=>id);obtain⟨qa,qc,hqv⟩:=owns_slice hrq;subst qv;obtain⟨n,hn1⟩:∃n,qu.length=n:=⟨_,rfl⟩;rw[hn1] at hrq;have z4:W5.cell? ⟨S.sp,4,none⟩=some (.slice qa n qc):=by rw[←hn1];exact(cs5 4 _ rfl).1
        have z0:W5.cell? ⟨S.sp,0,none⟩=some (pV BA'.hp):=by have:=(cs5 0 _ rfl).1;rw[e_D2.out] at this;exact this
        by_cases h100:100≤n
        · have hd:decide ((n:Int)≥100)=true:=by simp;omega
          have hm2:=hid (hmono.out W5 k45);clear hmono;replace hn1:=hid hn1;replace h100:=hid h100;go_wp2_with fail
          exact⟨⟨i+1,by omega,by simp,hm2.out⟩,by simp[intOf] <;> omega⟩
        · have hd:decide ((n:Int)≥100)=false:=by simp;omega
          have osr:=hserial_any (hch.ha.calm k45) hw' hpm;have hn1':=hid hn1;have h100':=hid h100;clear hmono hn1 h100;go_wp2_with fail
          refine osr.mono ?_;rintro en w6 ⟨⟨er2,rfl⟩,k6⟩;clear osr z4 z0 hd;obtain⟨sv,hsv⟩:∃sv:Nat,sr A' p=sv:=⟨_,rfl⟩;rw[hsv];clear hsv;have k46:=k45.trans k6;have kd:Calm w6 w6.drew:=(Fr.refl _ _).drew;have k46d:=k46.trans kd;have cs6:=cs.calm k46d;have x4:w6.drew.cell? ⟨S.sp,4,none⟩=some (.slice qa n qc):=by rw[←hn1'.out];exact(cs6 4 _ rfl).1
          have x5:w6.drew.cell? ⟨S.sp,5,none⟩=some (vI (nx:Int)):=(cs6 5 _ rfl).1;go_wp2_with fail
          refine wp_region_helds 11 13 (fun w'=>w'.cell? ⟨S.sp,4,none⟩=some (.slice qa n qc)∧w'.cell? ⟨S.sp,5,none⟩=some (vI (nx:Int))) (by kernel_rfl) (by kernel_rfl) ⟨x4,x5⟩ ?_;refine heldList_step (pV S.sp) rfl (fun w' hw'=>?_) (fun _ _ _ h=>h) ?_
          · simp[go_sem]
          refine heldList_step (pV S.sp) rfl (fun w' hw'=>?_) (fun _ _ _ h=>h) ?_
          · simp[go_sem]
          refine heldList_step (pV S.sp) rfl (fun w' hw'=>?_) (fun _ _ _ h=>h) ?_
          · simp[go_sem]
          refine heldList_step (.pointer (some ⟨S.sp,4,none⟩)) rfl (fun w' hw'=>?_) (fun _ _ _ h=>h) ?_
          · simp[go_sem]
          refine heldList_step (.slice qa n qc) rfl (fun w' hw'=>?_) (fun _ _ _ h=>h) ?_
          · have e1:=hw'.1;simp[go_sem,e1]
          refine heldList_step (vI (p:Int)) rfl (fun w' hw'=>?_) (fun _ _ _ h=>h) ?_
          · simp[go_sem]
          refine heldList_step (pV S.sp) rfl (fun w' hw'=>?_) (fun _ _ _ h=>h) ?_
          · simp[go_sem]
          refine heldList_step (pV S.sp) rfl (fun w' hw'=>?_) (fun _ _ _ h=>h) ?_
          · simp[go_sem]
          refine heldList_step (.pointer (some ⟨S.sp,5,none⟩)) rfl (fun w' hw'=>?_) (fun _ _ _ h=>h) ?_
          · simp[go_sem]
          refine heldList_step (vI (nx:Int)) rfl (fun w' hw'=>?_) (fun _ _ _ h=>h) ?_
          · have e1:=hw'.2;simp[go_sem,e1]
          refine heldList_step (.agg #[vI (p:Int),vI (nx:Int)]) rfl (fun w' hw'=>?_) (fun _ _ _ h=>h) ?_
          · simp[go_sem]
          simp only[heldList];have kA:Calm w6 (w6.drew.alloc (.cells #[vI (p:Int),vI (nx:Int)] 112)):=kd.alloc _;have kAA:=k46.trans kA;have csA:=cs.calm kAA
          have hrA:World.ownsRow (w6.drew.alloc (.cells #[vI (p:Int),vI (nx:Int)] 112)) 0 112 2 (.slice qa n qc) n (qu.flatMap itC):=by
            have:=owns_frB (InS.que g1 g2) kAA (fun _ _=>id);rw[←hn1'.out];exact this
          have hSA:World.cell? (w6.drew.alloc (.cells #[vI (p:Int),vI (nx:Int)] 112)) ⟨S.sp,4,none⟩=some (.slice qa n qc)∧World.cell? (w6.drew.alloc (.cells #[vI (p:Int),vI (nx:Int)] 112)) ⟨S.sp,5,none⟩=some (vI (nx:Int)):=⟨by rw[←hn1'.out];exact(csA 4 _ rfl).1,(csA 5 _ rfl).1⟩;have hxq':¬InB (.slice qa n qc) S.sp:=by rw[←hn1'.out];exact hxq.out
          have hb1:=hql.out;have hb2:=hnl.out;have hb3:=hcl.out;have hN2:=hN'.out;have hb4:S2.next≤q:=by rw[e_nx.out];exact hok'.out.nx
          have hb5:S2.came.length≤q:=by rw[e_ca.out];exact hok'.out.ca
          have hb6:=h100'.out;have hb7:=hn1'.out;clear x4 x5;refine heldSeq_step rfl ?_;unfold Oper.wp;go_simp
          first|refine⟨hSA,?_⟩|skip
          refine heldSeq_step rfl ?_;refine Eq.mp (if_pos (show Region.wanted _ (yielded _ _)=true from rfl)) (step_appG (ops:=#[]) (E:=True) giI rfl (.tmp 60) (.tmp 67) rfl (.slice qa n qc) n (qu.flatMap itC) hrA rfl (itC ⟨p,nx⟩) rfl (by simp[itC,Value.oneCell']) ⟨w6.heap.size,0,none⟩ 1 rfl (fun j u hj=>by rw[addr_at];simp only[Nat.zero_add];exact cell_row2 w6.drew _ _ _ hj) (by omega) ?_);intro g c w7 hr7 f7 hg7;have cs7:=csA.fr f7 hxq';have x47:w7.cell? ⟨S.sp,4,none⟩=some (.slice qa n qc):=by rw[←hn1'.out];exact(cs7 4 _ rfl).1
          have x57:w7.cell? ⟨S.sp,5,none⟩=some (vI (nx:Int)):=(cs7 5 _ rfl).1;have z47:=(cs7 4 _ rfl).2;have cs8:=cs7.set 4 (.slice (some ⟨g,0,none⟩) (n+1) c) (by simp[StD.cs]);have F8:=frS w7 (S.sp) 4 (.slice (some ⟨g,0,none⟩) (n+1) c);obtain⟨W8,hW8⟩:∃W8,w7.setCell ⟨S.sp,4,none⟩ (.slice (some ⟨g,0,none⟩) (n+1) c)=W8:=⟨_,rfl⟩;rw[hW8] at cs8 F8
          have hnew:∀b,InB (.slice (some ⟨g,0,none⟩) (n+1) c) b→InB (.slice qa n qc) b∨wr.heap.size≤b:=fun b hb=>by
            rw[InB.mk1 hb];rcases hg7 with e|e
            · exact .inl e
            · right;rw[e];exact kAA.size
          have hlts:S.sp<wr.heap.size:=cs.lt (by simp[StD.cs])
          have hqsp:∀b,InB (.slice (some ⟨g,0,none⟩) (n+1) c) b→b≠S.sp:=fun b hb e=>by
            rcases hnew b hb with h1|h1
            · exact hxq' (e ▸ h1)
            · omega
          have FF8:Fr (fun b=>b=S.sp∨InB (.slice qa n qc) b) wr W8:=((Calm.any kAA:Fr (fun b=>b=S.sp∨InB (.slice qa n qc) b) _ _).trans (f7.mono (fun b _ e=>.inr e))).trans (F8.mono (fun b _ e=>.inl e));have hlen:(qu++[⟨p,nx⟩]:List It).length=n+1:=by rw[List.length_append,hn1'.out];rfl
          obtain⟨τ8,M8,g18,g28,K8⟩:=InS.turn0 g1 g2 (.slice (some ⟨g,0,none⟩) (n+1) c) (qu++[⟨p,nx⟩]) (by
              show Fr (fun b=>b=(S2.rdy (.slice qa qu.length qc) qu nx cv ca).sp∨InB (.slice qa qu.length qc) b) wr W8
              rw[hsp.out,hn1'.out];exact FF8) (by
              show OwnL W8 (S2.rdy (.slice qa qu.length qc) qu nx cv ca).sp _
              rw[hsp.out];exact cs8) (by
              rw[hlen,List.flatMap_append];have e1:[(⟨p,nx⟩:It)].flatMap itC=itC ⟨p,nx⟩:=by simp
              rw[e1]
              exact owns_frB hr7 F8 hqsp) (by
              show ∀b,_→InB (.slice qa qu.length qc) b∨_
              rw[hn1'.out];exact hnew)
          have g28:StIn M8 (S2.rdy (.slice (some ⟨g,0,none⟩) (n+1) c) (qu++[⟨p,nx⟩]) nx cv ca):=g28
          have hrow8:ORow W8 0 rv' (nI rd'):=hrow.out.frB FF8 (fun b hb e=>by
            have ht:=htag.out b hb;rcases e with e|e
            · have:=g1.tag 2 b (by rw[g2.c];exact e.trans hsp.out.symm);omega
            · have:=g1.tag 5 b (by rw[g2.q];rw[←hn1'.out] at e;exact e);omega)
          have htag8:∀b,InB rv' b→τ8 b=0:=fun b hb=>(K8.tg b (hrow.out.lt hb).2).trans (htag.out b hb)
          have hqo8:∀x∈(qu++[⟨p,nx⟩]:List It),x.at_≤131072∧I64 x.seq:=fun x hx=>by
            rcases List.mem_append.1 hx with hx|hx
            · exact hqo.out x hx
            · rw[List.mem_singleton.1 hx];exact⟨hpm,⟨by show -(9223372036854775808:Int)≤nx;omega,by show(nx:Int)≤9223372036854775807;omega⟩⟩
          have hrc8:ORow W8 0 cv (nI ca):=InS.cameR g18 g28;obtain⟨ca0,cn0,cc0,hcv⟩:=hrc8.letters;have y98:W8.cell? ⟨S.sp,9,none⟩=some (.slice ca0 cn0 cc0):=by rw[←hcv];exact(cs8 9 _ rfl).1
          have hrc8':ORow W8 0 (.slice ca0 cn0 cc0) (nI ca):=by rw[←hcv];exact hrc8
          have hxc':¬InB (.slice ca0 cn0 cc0) S.sp:=by rw[←hcv];exact hxc.out
          have hcv':=hid hcv;clear hcv;have hcal:(nI ca).length≤1000000:=by simp[nI];omega
          obtain⟨m,hcm⟩:∃m,(nI ca).length=m:=⟨_,rfl⟩;replace hcm:=hid hcm;replace hcal:=hid hcal;have hwr:IntKind.i64.wrap ((nx:Int)+1)=(nx:Int)+1:=IntWalk.i64_in _ (by omega);have e_sp8:(S2.rdy (.slice (some ⟨g,0,none⟩) (n+1) c) (qu++[⟨p,nx⟩]) nx cv ca).sp=S.sp:=e_sp.out
          have hP:Hid (∀ (g9 c9:Nat) (w9:World),ORow w9 0 (.slice (some ⟨g9,0,none⟩) (m+1) c9) (nI ca++[(sv:Int)])→Fr (InB (.slice ca0 cn0 cc0)) W8 w9→(InB (.slice ca0 cn0 cc0) g9∨W8.heap.size≤g9)→SlI w τ s q S2 rv' rd' (i+1) ((w9.setCell ⟨S.sp,9,none⟩ (.slice (some ⟨g9,0,none⟩) (m+1) c9)).setCell ⟨S.sp,5,none⟩ (vI ((nx:Int)+1)))):=fun g9 c9 w9 hr9 f9 hn9=>by
            have cs9:=cs8.fr f9 hxc';have cs10:=cs9.set 9 (.slice (some ⟨g9,0,none⟩) (m+1) c9) (by simp[StD.cs]);have F10:=frS w9 (S.sp) 9 (.slice (some ⟨g9,0,none⟩) (m+1) c9);have hnew9:∀b,InB (.slice (some ⟨g9,0,none⟩) (m+1) c9) b→InB (.slice ca0 cn0 cc0) b∨W8.heap.size≤b:=fun b hb=>by rw[InB.mk1 hb];exact hn9
            have FF10:Fr (fun b=>b=S.sp∨InB (.slice ca0 cn0 cc0) b) W8 (w9.setCell ⟨S.sp,9,none⟩ (.slice (some ⟨g9,0,none⟩) (m+1) c9)):=(f9.mono (fun b _ e=>.inr e)).trans (F10.mono (fun b _ e=>.inl e));have hlt8:S.sp<W8.heap.size:=cs8.lt (by simp[StD.cs])
            obtain⟨τA,MA,g1A,g2A,KA⟩:=InS.turn2 g18 g28 (.slice (some ⟨g9,0,none⟩) (m+1) c9) (ca++[sv]) (by
                show Fr (fun b=>b=(S2.rdy (.slice (some ⟨g,0,none⟩) (n+1) c) (qu++[⟨p,nx⟩]) nx cv ca).sp∨InB cv b) W8 _
                rw[e_sp8,hcv'.out];exact FF10) (by
                show OwnL _ (S2.rdy (.slice (some ⟨g,0,none⟩) (n+1) c) (qu++[⟨p,nx⟩]) nx cv ca).sp _
                rw[e_sp8];exact cs10) (by
                have e1:nI (ca++[sv])=nI ca++[(sv:Int)]:=by simp[nI]
                rw[e1]
                exact hr9.frB F10 (fun b hb e=>by
                  subst e;rcases hnew9 _ hb with e|e
                  · exact hxc' e
                  · omega)) (by
                show ∀b,_→InB cv b∨_
                rw[hcv'.out];exact hnew9)
            have F11:Fr (fun b=>b=S.sp) (w9.setCell ⟨S.sp,9,none⟩ (.slice (some ⟨g9,0,none⟩) (m+1) c9)) ((w9.setCell ⟨S.sp,9,none⟩ (.slice (some ⟨g9,0,none⟩) (m+1) c9)).setCell ⟨S.sp,5,none⟩ (vI ((nx:Int)+1))):=(Fr.refl (fun b=>b=S.sp) _).setCell (p:=⟨S.sp,5,none⟩) (.inl rfl) _;have cs11:=cs10.set 5 (vI ((nx:Int)+1)) (by simp[StD.cs])
            obtain⟨MB,g1B,g2B,KB⟩:=InS.next g1A g2A (nx+1) (by
                show Fr (fun b=>b=(S2.rdy (.slice (some ⟨g,0,none⟩) (n+1) c) (qu++[⟨p,nx⟩]) nx cv ca).sp) _ _
                rw[e_sp8];exact F11) (by
                show OwnL _ (S2.rdy (.slice (some ⟨g,0,none⟩) (n+1) c) (qu++[⟨p,nx⟩]) nx cv ca).sp _
                rw[e_sp8];exact cs11)
            have t2:∀b,b=S.sp→τ8 b=2:=fun b e=>g18.tag 2 b (by rw[g28.c];exact e.trans e_sp8.symm);have t7:∀b,InB (.slice ca0 cn0 cc0) b→τ8 b=7:=fun b e=>g18.tag 7 b (by rw[g28.m];rw[←hcv'.out] at e;exact e)
            have hrowB:=(hrow8.frB FF10 (fun b hb e=>by
              have ht:=htag8 b hb;rcases e with e|e
              · have:=t2 b e;omega
              · have:=t7 b e;omega)).frB F11 (fun b hb e=>by
              have ht:=htag8 b hb
              have:=t2 b e;omega)
            exact⟨τA,MB,_,_,nx+1,_,_,g1B,g2B,((K.trans K8).trans KA).trans KB,hqo8,by show(qu++[⟨p,nx⟩]:List It).length≤_;rw[hlen];omega,by show nx+1≤_;omega,by show(ca++[sv]).length≤_;rw[List.length_append];simp;omega,hrowB,fun b hb=>(KA.tg b (hrow8.lt hb).2).trans (htag8 b hb)⟩
          refine⟨⟨x47,x57⟩,?_⟩;simp only[heldSeq];replace cs8:=hid cs8;clear F8 FF8 hr7 f7 hg7 cs7 x57 hSA hrA csA cs6 cs5 hnew hqsp hqo8 hrow8 htag8 g18 g28 hrc8 hch cs hrq;replace hlen:=hid hlen;replace e_sp8:=hid e_sp8;replace hb1:=hid hb1;replace hb2:=hid hb2;replace hb3:=hid hb3;replace hb4:=hid hb4;replace hb5:=hid hb5;clear hb6 hb7 hN2
          go_wp2_with (
            at_builtin
            go_must (refine wpList_app1b rfl _ _ rfl 0 (.slice ca0 cn0 cc0) (nI ca) hrc8' rfl (sv:Int) _ rfl rfl hcal.out (Nat.zero_le _) ?_)
            intro g9 c9 w9 hr9 f9 hn9;rw[hcm.out] at hr9 ⊢;have cs9:=cs8.out.fr f9 hxc';have d9:=(cs9 9 _ rfl).1;have d9':=(cs9 9 _ rfl).2;have cs10:=cs9.set 9 (.slice (some ⟨g9,0,none⟩) (m+1) c9) (by simp[StD.cs]);have hQ0:=hP.out g9 c9 w9 hr9 f9 hn9;obtain⟨W10,hW10⟩:∃W10,w9.setCell ⟨S.sp,9,none⟩ (.slice (some ⟨g9,0,none⟩) (m+1) c9)=W10:=⟨_,rfl⟩;rw[hW10] at cs10 hQ0;have hQ:=hid hQ0;have d5:W10.cell? ⟨S.sp,5,none⟩=some (vI (nx:Int)):=(cs10 5 _ rfl).1;have d5':=(cs10 5 _ rfl).2
            clear hP hr9 f9 hn9 cs9 cs10 hrc8' y98 hQ0)
          exact⟨⟨i+1,by omega,by simp,hQ.out⟩,by simp[intOf] <;> omega⟩
    · obtain rfl:i=N:=by omega
      have kd:Calm wr wr.drew:=(Fr.refl _ _).drew;have g1d:=g1.calm kd;have csd:=cs.calm kd;have hlrow:ORow wr.drew 0 S2.lv (nI S2.lost):=InS.lostR (S:=S2.rdy qv qu nx cv ca) g1d g2;obtain⟨la,ln,lc,hlv⟩:=hlrow.letters;have x8:wr.drew.cell? ⟨S.sp,8,none⟩=some (.slice la ln lc):=by rw[←hlv];exact(csd 8 _ rfl).1
      have x1:=kd.cellAt y1 id;have hxl:¬InB (.slice la ln lc) S.sp:=fun e=>g1.apart (t:=6) (u:=2) (by omega) (by rw[g2.l];rw[←hlv] at e;exact e) (by rw[g2.c];exact hsp.symm);have hcs:S.D.c≠S.sp:=fun e=>g1.apart (t:=0) (u:=2) (k:=S.D.c) (by omega) (by rw[g2.h,e_D2];exact .inr (.inl rfl)) (by rw[g2.c];exact e.trans hsp.symm);have ol:=lost_is (hch.cy.calm kd);have hlv':=hid hlv;rw[hlv] at hlrow;clear hlv;have hapc:∀k,HBlk BA' k→k≠S.D.c:=fun k hk e=>hch.ap k (.inl e) hk;replace hsp:=hid hsp;replace e_D2:=hid e_D2;replace hql:=hid hql;replace hnl:=hid hnl;replace hcl:=hid hcl;replace hrow:=hid hrow;replace htag:=hid htag;replace hqo:=hid hqo;go_wp2_with fail
      refine wp_region_helds 9 11 (fun w'=>w'.cell? ⟨S.sp,8,none⟩=some (.slice la ln lc)∧w'.cell? ⟨S.sp,1,none⟩=some (pV S.D.c)) (by kernel_rfl) (by kernel_rfl) ⟨x8,x1⟩ ?_;refine heldList_step (pV S.sp) rfl (fun w' hw'=>?_) (fun _ _ _ h=>h) ?_
      · simp[go_sem]
      refine heldList_step (pV S.sp) rfl (fun w' hw'=>?_) (fun _ _ _ h=>h) ?_
      · simp[go_sem]
      refine heldList_step (pV S.sp) rfl (fun w' hw'=>?_) (fun _ _ _ h=>h) ?_
      · simp[go_sem]
      refine heldList_step (.pointer (some ⟨S.sp,8,none⟩)) rfl (fun w' hw'=>?_) (fun _ _ _ h=>h) ?_
      · simp[go_sem]
      refine heldList_step (.slice la ln lc) rfl (fun w' hw'=>?_) (fun _ _ _ h=>h) ?_
      · have e1:=hw'.1;simp[go_sem,e1]
      refine heldList_step (pV S.sp) rfl (fun w' hw'=>?_) (fun _ _ _ h=>h) ?_
      · simp[go_sem]
      refine heldList_step (pV S.sp) rfl (fun w' hw'=>?_) (fun _ _ _ h=>h) ?_
      · simp[go_sem]
      refine heldList_step (.pointer (some ⟨S.sp,1,none⟩)) rfl (fun w' hw'=>?_) (fun _ _ _ h=>h) ?_
      · simp[go_sem]
      refine heldList_step (pV S.D.c) rfl (fun w' hw'=>?_) (fun _ _ _ h=>h) ?_
      · have e1:=hw'.2;simp[go_sem,e1]
      simp only[heldList];clear x1 y0 y1 y4;refine heldSeq_step rfl ?_;go_wp2_with fail
      refine ol.mono ?_;rintro en w3 ⟨rfl,hcy3,hrow3,f3⟩;clear ol;have z8:=f3.cellAt x8 (Ne.symm hcs);have z1:w3.cell? ⟨S.sp,1,none⟩=some (pV S.D.c):=f3.cellAt (kd.cellAt (by have:=(cs 1 _ rfl).1;rw[e_D2.out] at this;exact this) id) (Ne.symm hcs);have cs3:=csd.fr f3 (Ne.symm hcs);refine⟨⟨z8,z1⟩,?_⟩;obtain⟨l1,l2,l3,hlt2⟩:=hrow3.letters;subst lv'
      obtain⟨M3,j1,j2,j3⟩:=InS.setD' g1d g2 (⟨BA',A',S.D.c,ph',.slice none 0 0,.slice none 0 0,[],[]⟩:HD) (by rw[e_D2.out];exact f3.mono (fun k _ e=>.inl (.inl e))) ⟨Xk,(hch.ha.calm kd).fr f3 (fun k hk e=>hapc k hk e),hcy3,fun k hk=>by
        rcases hk with e|e|e
        · exact hch.ap k (.inl e)
        · exact(InB.nil k e).elim
        · exact(InB.nil k e).elim⟩ (by
          rw[e_D2.out];rintro k (e|e|e|e)
          · exact .inl e
          · exact .inr (.inl e)
          · exact(InB.nil k e).elim
          · exact(InB.nil k e).elim) (by rw[e_D2.out]) (by rw[e_D2.out])
      have hlr3:ORow w3 0 (.slice la ln lc) (nI S2.lost):=by
        have:=InS.lostR j1 j2;rw[←hlv'.out];exact this
      have hb8:S2.lost.length≤q:=by have:=hok'.out.lo;have:=hS2.out;subst this;exact hok'.out.lo
      have hb9:=hll'.out;refine heldSeq_step rfl ?_;refine Eq.mp (if_pos (show Region.wanted _ (yielded _ _)=true from rfl)) (step_appL (ops:=#[]) (E:=True) rfl (.tmp 93) (.tmp 98) rfl 0 (.slice la ln lc) (nI S2.lost) hlr3 rfl (.slice l1 l2 l3) (nI ls') hrow3.row rfl (by simp[nI];omega) (Nat.zero_le _) ?_);intro v' w5 hr5 f5 hn5;have z85:=f5.cellAt z8 hxl;have z15:=f5.cellAt z1 hxl;have cs5:=cs3.fr f5 hxl;have z85':=(cs5 8 _ rfl).2;obtain⟨va,vn,vc,hvv⟩:=hr5.letters;subst v';have cs6:=cs5.set 8 (.slice va vn vc) (by simp[StD.cs]);have F6:=frS w5 (S.sp) 8 (.slice va vn vc);have hlt3:S.sp<w3.heap.size:=cs3.lt (by simp[StD.cs])
      obtain⟨τ5,M5,m1,m2,m3⟩:=InS.turn1 j1 j2 (.slice va vn vc) (S2.lost++ls') (by
          show Fr (fun b=>b=(S2.rdy qv qu nx cv ca).sp∨InB S2.lv b) w3 _;rw[hsp.out,hlv'.out]
          exact(f5.mono (fun b _ e=>.inr e)).trans (F6.mono (fun b _ e=>.inl e))) (by
          show OwnL _ (S2.rdy qv qu nx cv ca).sp _;rw[hsp.out]
          have e9:(({ (S2.rdy qv qu nx cv ca) with D:=⟨BA',A',S.D.c,ph',.slice none 0 0,.slice none 0 0,[],[]⟩,lv:=.slice va vn vc,lost:=S2.lost++ls' } : StD)).cs=(S2.rdy qv qu nx cv ca).cs.set 8 (.slice va vn vc):=by
            show[pV BA'.hp,pV S.D.c,_,_,_,_,_,_,_,_]=[pV (S2.rdy qv qu nx cv ca).D.B.hp,pV (S2.rdy qv qu nx cv ca).D.c,_,_,_,_,_,_,_,_];rw[e_D2.out]
          exact e9 ▸ cs6) (by
          have e1:nI (S2.lost++ls')=nI S2.lost++nI ls':=by simp[nI]
          rw[e1]
          exact hr5.frB F6 (fun b hb e=>by
            subst e;rcases hn5 _ hb with e|e
            · exact hxl e
            · omega)) (by
          show ∀b,_→InB S2.lv b∨_
          rw[hlv'.out];exact hn5)
      have hfin:SstP w τ s q S (.returned (.bool b)) (w5.setCell ⟨S.sp,8,none⟩ (.slice va vn vc)):=by
        have hk:=hok'.out;have h2':=hS2.out;subst h2';have hN2:=hN'.out;refine⟨⟨b,rfl⟩,τ5,_,⟨M5,m1,m2,⟨hw',hph.out,hp2,?_,rfl,rfl,hk.ck,hk.n,hk.x,hqo.out,?_,?_,hk.ho,hk.ve,?_,?_⟩⟩,((K.trans (KeepT.calm τk kd)).trans j3).trans m3,⟨rfl,hKhp.out,rfl,rfl,hn.out,rfl,fun _=>rfl,fun _=>rfl⟩,trivial⟩
        · show A'.ser≤s;rw[hsr.out];exact hser.out
        · have h3:=hk.tt;have h4:=hql.out;unfold StD.tot at h3;show qu.length+(S.txs.map fun x=>x.took.length).sum≤q+s;have h4:qu.length≤S.qu.length+i:=h4;omega
        · have h3:=hk.nx;have h4:nx≤S.next+i:=hnl.out;show nx≤q+s;omega
        · show(S.lost++ls').length≤q+s;have h4:S.lost.length≤q:=hb8;rw[List.length_append];omega
        · have h3:=hk.ca;have h4:ca.length≤S.came.length+i:=hcl.out;show ca.length≤q+s;omega
      replace hfin:=hid hfin;refine⟨⟨z85,z15⟩,?_⟩;simp only[heldSeq];clear hr5 f5 hn5 cs5 cs6 F6 m1 m2 m3 j1 j2 j3 hcy3 hrow3 f3 hlr3 g1d csd hlrow hch cs3 hapc cs g1 g2 K z8 z1 x8;go_wp2;go_ret;exact hfin.out
end
section
open Go.RowKit Go.Shelf
def SRow (T:Nat→Prop)(w:World)(v:Value)(l:List Nat):Prop:=
  ∃a cap,v = .slice a l.length cap∧l.length≤cap∧((a=none∧l=[])∨∃b off,a=some ⟨b,off,none⟩∧T b∧∀j,j<l.length→w.cell? ⟨b,off+j,none⟩=some (vI (l.getD j 0:Nat)))
theorem SRow.fr {T S:Nat→Prop}{w w':World}{v:Value}{l:List Nat}(h:SRow T w v l)(f:Fr S w w')(hs:∀b,T b→¬S b):SRow T w' v l:=by
  obtain⟨a,cap,hv,hc,h⟩:=h;refine⟨a,cap,hv,hc,?_⟩;rcases h with h|⟨b,off,e,t,hcell⟩
  · exact .inl h
  · exact .inr ⟨b,off,e,t,fun j hj=>f.cellAt (hcell j hj) (hs b t)⟩
theorem SRow.calm {T:Nat→Prop}{w w':World}{v:Value}{l:List Nat}(h:SRow T w v l)(f:Calm w w'):SRow T w' v l:=h.fr f fun _ _=>id
theorem SRow.of {w:World}{base:Nat}{v:Value}{l:List Nat}(h:ORow w base v (nI l)):SRow (InB v) w v l:=by
  obtain⟨e1,e2⟩:=h;rcases e2 with ⟨rfl,e3⟩|⟨g,cap,cur,rfl,h3,h4,h5,h6,h7,h8⟩
  · have:l.length=0:=by simpa[nI] using e3
    have:l=[]:=List.length_eq_zero_iff.1 this;subst this;exact⟨none,0,rfl,Nat.le_refl _,.inl ⟨rfl,rfl⟩⟩
  · have hl:(nI l).length=l.length:=by simp[nI]
    rw[hl] at h5 h8 ⊢;refine⟨_,cap,rfl,h5,.inr ⟨g,0,rfl,InB.mk.2 rfl,fun j hj=>?_⟩⟩;obtain⟨b,⟨a,c,hv,ha⟩,hc,hin⟩:=row_slc (w:=w) (v:=.slice (some ⟨g,0,none⟩) l.length cap) (l:=l) ⟨by simp,.inr ⟨g,cap,cur,by rw[hl],Nat.zero_le _,h4,by rw[hl];exact h5,h6,h7,by rw[hl];exact h8⟩⟩;injection hv with a1 _ _
    have:=ha (by omega);rw[←a1] at this;injection this with this
    injection this with this
    subst this;rw[Nat.zero_add];exact(hc j hj).1
theorem SRow.row {T:Nat→Prop}{w:World}{v:Value}{l:List Nat}(h:SRow T w v l):Row w v (iVs (nI l)):=by
  obtain⟨a,cap,hv,hc,h⟩:=h;refine⟨a,cap,by simp[nI,hv],?_⟩;rcases h with ⟨_,rfl⟩|⟨b,off,e,t,hcell⟩
  · exact .inl rfl
  · right;refine⟨b,off,e,fun i hi=>?_⟩;have hi':i<l.length:=by simpa[nI] using hi
    have:=hcell i hi';rw[this];simp[nI,List.getD_eq_getElem?_getD,hi']
theorem SRow.tag {T:Nat→Prop}{w:World}{v:Value}{l:List Nat}(h:SRow T w v l):∀b,inRow v b→T b:=by
  obtain⟨a,cap,rfl,hc,h⟩:=h;rintro k ⟨off',n',c',hk⟩;injection hk with a1 _ _
  rcases h with ⟨e,_⟩|⟨b,off,e,t,hcell⟩
  · rw[e] at a1;cases a1
  · rw[e] at a1;injection a1 with a1
    injection a1 with a1
    exact a1 ▸ t
theorem run_sliceL (a:Option Addr)(n c lo:Nat)(w:World)(h1:lo≤n) :
    (Instr.slice 23 (.slice a n c) (some (vI (lo:Int))) none none).run Tryz.prog w = .ok (.slice (if c=lo then a else a.map (·.add lo)) (n-lo) (c-lo)) w:=by
  simp[Instr.slice,Instr.sliceBounds,Instr.sliceBound,asIntOf,go_sem,Tryz.runUnderlying23,Tryz.sizeOf3,h1]
theorem run_sliceH (a:Option Addr)(n c hi:Nat)(w:World)(h2:hi≤c) :
    (Instr.slice 23 (.slice a n c) none (some (vI (hi:Int))) none).run Tryz.prog w = .ok (.slice (if c=0 then a else a.map (·.add 0)) hi c) w:=by
  simp[Instr.slice,Instr.sliceBounds,Instr.sliceBound,asIntOf,go_sem,Tryz.runUnderlying23,Tryz.sizeOf3,h2]
theorem SRow.drop {T:Nat→Prop}{w:World}{a:Option Addr}{n c:Nat}{l:List Nat}(h:SRow T w (.slice a n c) l){lo:Nat}(hlo:lo≤n) :
    ∃a' c',(∀W,(Instr.slice 23 (.slice a n c) (some (vI (lo:Int))) none none).run Tryz.prog W = .ok (.slice a' (n-lo) c') W)∧SRow T w (.slice a' (n-lo) c') (l.drop lo):=by
  obtain⟨a0,cap,hv,hc,h⟩:=h;injection hv with e1 e2 e3
  subst e1 e2 e3;refine⟨_,_,fun W=>run_sliceL _ _ _ _ _ hlo,⟨_,_,by rw[List.length_drop],by rw[List.length_drop];omega,?_⟩⟩;rcases h with ⟨e,rfl⟩|⟨b,off,e,t,hcell⟩
  · left;rw[e];refine⟨by split <;> rfl,by simp⟩
  right
  by_cases h0:c=lo
  · rw[if_pos h0];refine⟨b,off,e,t,fun j hj=>?_⟩;rw[List.length_drop] at hj;omega
  refine⟨b,off+lo,?_,t,fun j hj=>?_⟩
  · rw[if_neg h0,e];show some (Addr.add _ _)=_;rw[addr_add]
  · rw[List.length_drop] at hj;have:=hcell (lo+j) (by omega);rw[Nat.add_assoc,this];simp[List.getD_eq_getElem?_getD]
theorem SRow.take {T:Nat→Prop}{w:World}{a:Option Addr}{n c:Nat}{l:List Nat}(h:SRow T w (.slice a n c) l){hi:Nat}(hhi:hi≤n) :
    ∃a' c',(∀W,(Instr.slice 23 (.slice a n c) none (some (vI (hi:Int))) none).run Tryz.prog W = .ok (.slice a' hi c') W)∧SRow T w (.slice a' hi c') (l.take hi):=by
  obtain⟨a0,cap,hv,hc,h⟩:=h;injection hv with e1 e2 e3
  subst e1 e2 e3;have hl:(l.take hi).length=hi:=by rw[List.length_take];omega
  refine⟨_,_,fun W=>run_sliceH _ _ _ _ _ (by omega),⟨_,_,by rw[hl],by rw[hl];omega,?_⟩⟩;rcases h with ⟨e,rfl⟩|⟨b,off,e,t,hcell⟩
  · left;rw[e];refine⟨by split <;> rfl,by simp⟩
  right;refine⟨b,off,?_,t,fun j hj=>?_⟩
  · rw[e];split
    · rfl
    · show some (Addr.add _ _)=_;rw[addr_add,Nat.add_zero]
  · rw[hl] at hj;rw[hcell j (by omega)];simp[List.getD_eq_getElem?_getD,List.getElem?_take,hj]
def reI (l:List It)(ps:List Nat)(k:Nat):List It:=l.mapIdx fun j x=>if j<k then ⟨ps.getD j 0,x.seq⟩ else x
theorem reI_len (l:List It)(ps:List Nat)(k:Nat):(reI l ps k).length=l.length:=by simp[reI]
theorem reI_get (l:List It)(ps:List Nat)(k j:Nat)(hj:j<l.length):(reI l ps k).getD j dI=if j<k then ⟨ps.getD j 0,(l.getD j dI).seq⟩ else l.getD j dI:=by
  simp[reI,List.getD_eq_getElem?_getD,hj]
theorem reI_succ (l:List It)(ps:List Nat)(k:Nat)(hk:k<l.length):reI l ps (k+1)=(reI l ps k).set k ⟨ps.getD k 0,(l.getD k dI).seq⟩:=by
  apply List.ext_getElem?;intro j
  by_cases hj:j<l.length
  · by_cases e:j=k
    · subst e;simp[reI,hj,List.getD_eq_getElem?_getD]
    · rw[List.getElem?_set_ne (by omega)];have:(j<k+1)=(j<k):=by simp;omega
      simp[reI,hj,this]
  · rw[List.getElem?_eq_none (by simp[reI];omega),List.getElem?_eq_none (by simp[reI];omega)]
theorem reI_zero (l:List It)(ps:List Nat):reI l ps 0=l:=by
  apply List.ext_getElem?;intro j
  by_cases hj:j<l.length
  · simp[reI,hj]
  · rw[List.getElem?_eq_none (by simp[reI];omega),List.getElem?_eq_none (by omega)]
def PlcP (w:World)(v:Value)(l:List It)(T:Nat→Prop)(ps:List Nat)(e:Ending)(w':World):Prop:=
  ∃a c,e = .returned (.slice a (ps.length-l.length) c)∧SRow T w' (.slice a (ps.length-l.length) c) (ps.drop l.length)∧w'.ownsRow 0 112 2 v l.length ((reI l ps l.length).flatMap itC)∧Fr (InB v) w w'
theorem place_is {w:World}{v:Value}{l:List It}(h:w.ownsRow 0 112 2 v l.length (l.flatMap itC)){a:Option Addr}{n c:Nat}{ps:List Nat}{T:Nat→Prop}(hu:SRow T w (.slice a n c) ps)(hlen:l.length≤ps.length)(hap:∀b,T b→¬InB v b)(hl:l.length≤100000)(hp:∀p∈ps,p≤131072) :
    Calls Tryz.prog 42 #[v,.slice a n c] w (PlcP w v l T ps):=by
  have hn:ps.length=n:=by obtain⟨_,_,e,_⟩:=hu;injection e with _ e2 _;exact e2.symm
  obtain⟨N,hN⟩:∃N,l.length=N:=⟨_,rfl⟩;obtain⟨va,vc,hv⟩:=owns_slice h;rw[hN] at hv;obtain⟨a',c',hrun,hdr⟩:=hu.drop (lo:=N) (by omega)
  have hI0:Hid (w.ownsRow 0 112 2 v N ((reI l ps 0).flatMap itC)):=by
    rw[reI_zero,←hN];exact h
  have hu':=hid hu;have hN':=hid hN;have hn':=hid hn;have hNb:N≤100000:=by omega
  have hNn:Hid (N≤n):=by show N≤n;omega
  have hdr':=hid hdr
  have hsp:Hid (∀i,i<N→∃g,a=some g):=fun i hi=>by
    obtain⟨_,_,e,_,k⟩:=hu;injection e with e1 _ _
    rcases k with ⟨_,k⟩|⟨b,off,e2,_⟩
    · subst k;simp at hn;omega
    · exact⟨_,e1.trans e2⟩
  have hv':=hid hv;rw[hv];clear h hu hdr hv hN hn;go_enter Tryz.func42,Tryz.ntmps42;go_wp2_with fail
  go_loopw [8] (fun z wr=>∃i:Nat,i≤N∧z=vI i∧wr.ownsRow 0 112 2 v N ((reI l ps i).flatMap itC)∧Fr (InB v) w wr) (fun z _=>N-(intOf z).toNat)
  case atStart=>exact⟨0,by omega,rfl,hI0.out,Fr.refl _ _⟩
  case round=>
    obtain⟨i,hi,rfl,hrow,hfr⟩:=hrel;clear hI0
    by_cases hlt:i<N
    · have hNl:l.length=N:=hN'.out;have hrl:=reI_len l ps i;obtain⟨g,c2,hvv,hget⟩:=rows_get (k:=2) (ety:=112) itC_len (by decide) (l:=reI l ps i) (by rw[hrl,hNl];exact hrow) dI (i:=i) (by omega);rw[hv'.out] at hvv;injection hvv with e1 e2 e3
      subst e1;rw[reI_get l ps i i (by omega),if_neg (by omega)] at hget;have y0:=(hget 0 _ rfl).1;have y0':=(hget 0 _ rfl).2;rw[Nat.add_zero] at y0 y0';have hur:=hu'.out.fr hfr hap;obtain⟨_,_,eu,_,hcu⟩:=hur;injection eu with u1 u2 u3
      obtain⟨b,off,ea,tb,hcell⟩:∃b off,_:=hcu.resolve_left (fun e=>by have h1:=hn'.out;have h2:=hNn.out;rw[e.2] at h1;simp at h1;omega);rw[←u1] at ea;subst ea;obtain⟨p,hpe⟩:∃p,ps.getD i 0=p:=⟨_,rfl⟩;have x0:=hcell i (by have:=hn'.out;have:=hNn.out;omega);rw[hpe] at x0;have hset:=owns_set (g:=g) (c:=vc) (ety:=112) (k:=2) (w:=wr) (n:=N) (xs:=(reI l ps i).flatMap itC) (by rw[←hv'.out];exact hrow) (j:=i*2) (by rw[flat_len itC 2 itC_len,hrl,hNl];omega) (vI (p:Int))
      have e9:((reI l ps i).flatMap itC).set (i*2) (vI (p:Int))=(reI l ps (i+1)).flatMap itC:=by
        have:=flat_set itC 2 itC_len dI ⟨p,(l.getD i dI).seq⟩ 0 (by decide) (vI (p:Int)) (reI l ps i) i (by omega) (by rw[reI_get l ps i i (by omega),if_neg (by omega)];rfl);rw[Nat.add_zero] at this;rw[this,←hpe,←reI_succ l ps i (by omega)]
      rw[e9] at hset;have F:Fr (InB v) wr (wr.setCell ⟨g,i*2,none⟩ (vI (p:Int))):=(Fr.refl (InB v) wr).setCell (p:=⟨g,i*2,none⟩) (.inl (by rw[hv'.out];exact InB.mk.2 rfl)) _;have hfin:=hid (show World.ownsRow (wr.setCell ⟨g,i*2,none⟩ (vI (p:Int))) 0 112 2 v N ((reI l ps (i+1)).flatMap itC)∧Fr (InB v) w (wr.setCell ⟨g,i*2,none⟩ (vI (p:Int))) from⟨by rw[hv'.out];exact hset,hfr.trans F⟩);have hNn':decide ((i:Int)<(n:Int))=true:=by have:=hNn.out;simp;omega
      have hin:i<n:=by have:=hNn.out;omega
      clear hset F hrow hfr hcell hget hcu e9 e2 e3 u2 u3 u1 hpe hsp hrl hNl;go_wp2;exact⟨⟨i+1,by omega,by simp,hfin.out⟩,by simp[intOf] <;> omega⟩
    · obtain rfl:i=N:=by omega
      have hfin:Hid (PlcP w v l T ps (.returned (.slice a' (n-i) c')) wr):=by
        refine⟨a',c',by rw[hn'.out,hN'.out],?_,by rw[hN'.out];exact hrow,hfr⟩;have:=hdr'.out.fr hfr hap;rw[hn'.out,hN'.out];exact this
      clear hrow hfr hsp;go_wp2;go_ret;have h9:=hfin.out;rw[hv'.out] at h9;exact h9
end
end Go.Proofs.YtdffnjikmkgjkaaGreat
