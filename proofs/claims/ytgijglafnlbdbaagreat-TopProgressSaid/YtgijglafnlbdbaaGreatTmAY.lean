import Derived.Conc.MuLone
import Derived.Test.YtgijglafnlbdbaaGreatTmAW
set_option linter.all false
set_option maxHeartbeats 8000000
set_option maxRecDepth 8000
namespace Go.Proofs.YtgijglafnlbdbaaGreat
open RowKit Shelf Proofs.Tryz
open Go renaming World->ag,Value->aA,Calls->aJ
abbrev VZ:Go.Conc.Locks.MuLink:={ lock:=41,unlock:=42,ilock:=62,iunlock:=63,lockSlow:=114,unlockSlow:=117,disable:=110,enable:=112,acquire:=113,relMerge:=115,cas32:=111,add32:=116,tMutex:=66,tIMutex:=64,tPMutex:=169,tPIMutex:=205,tPI32:=207,tUP:=209,tNoCopy:=61,tU32:=62 }
theorem sj:Go.Conc.Locks.MuLib prog VZ:=
 ⟨func41,func42,func62,func63,func110,func112,func113,func115,func111,func116,Tryz.underlying64,Tryz.runUnderlying64,Tryz.sizeOf64,Tryz.isAgg64,Tryz.zeroValue64,Tryz.underlying66,Tryz.runUnderlying66,Tryz.sizeOf66,Tryz.isAgg66,Tryz.zeroValue66,Tryz.underlying169,Tryz.runUnderlying169,Tryz.sizeOf169,Tryz.isAgg169,Tryz.zeroValue169,Tryz.underlying205,Tryz.runUnderlying205,Tryz.sizeOf205,Tryz.isAgg205,Tryz.zeroValue205,Tryz.underlying207,Tryz.runUnderlying207,Tryz.sizeOf207,Tryz.isAgg207,Tryz.zeroValue207,Tryz.underlying209,Tryz.runUnderlying209,Tryz.sizeOf209,Tryz.isAgg209,Tryz.zeroValue209,Tryz.underlying61,Tryz.runUnderlying61,Tryz.sizeOf61,Tryz.isAgg61,Tryz.zeroValue61,Tryz.underlying21,Tryz.runUnderlying21,Tryz.sizeOf21,Tryz.isAgg21,Tryz.zeroValue21,(by kernel_rfl)⟩
section
open Go.RowKit Go.Shelf Go.MuLone
def Re(w:ag)(mp:Nat)(cs:List aA)(n:Nat)(e:Ending)(w':ag):Prop:=e=.returned (.bool (decide ((2000:Int)<=(n:Int))))/\Fr (λk=>k=mp) w w'/\af w' mp cs
theorem Pe{w:ag}{mp:Nat}{a0 a1 a2:aA}{ea:Option Addr}{en ec:Nat}(h:af w mp [a0,a1,a2,.int .i32 0,.int .u32 0,.slice ea en ec]) :
 aJ prog 20 #[.pointer (some ⟨mp,3,none⟩)] w (Re w mp [a0,a1,a2,.int .i32 0,.int .u32 0,.slice ea en ec] en):=by
 have c3:=(h 3 _ rfl).1;have f3:=(h 3 _ rfl).2;have h1:=h.set 3 (.int .i32 1) (by simp);have F1:=jR w (mp) 3 (.int .i32 1);obtain⟨W1,gO⟩:=ao (w.setCell ⟨mp,3,none⟩ (.int .i32 1));rw[gO] at h1 F1;have h2:=h1.set 3 (.int .i32 0) (by simp);have F2:=jR W1 (mp) 3 (.int .i32 0);have d5:W1.cell? ⟨mp,5,none⟩=some (.slice ea en ec):=(h1 5 _ rfl).1;have d3:W1.cell? ⟨mp,3,none⟩=some (.int .i32 1):=(h1 3 _ rfl).1;have g3:=(h1 3 _ rfl).2;have hP:Re w mp [a0,a1,a2,.int .i32 0,.int .u32 0,.slice ea en ec] en (.returned (.bool (decide ((2000:Int)<=(en:Int))))) (W1.setCell ⟨mp,3,none⟩ (.int .i32 0)):=⟨rfl,F1.trans F2,h2⟩;replace hP:=hid hP;clear F1 F2 h1 h2 h;go_enter_defers func20,ntmps20;go_wp2_with (go_at_call 41;refine(lock_free sj ⟨mp,3,none⟩ _ c3 f3).mono ?_;rintro e w' ⟨rfl,rfl⟩;rw[gO])
 refine leaves_cons (f:=42) (args:=#[.pointer (some ⟨mp,3,none⟩)]) (by simp) (by simp[go_sem]) ?_;refine(unlock_deferred sj ⟨mp,3,none⟩ .returning _ d3 g3).mono ?_;rintro e u' w'' ⟨rfl,rfl,rfl⟩;exact⟨_,results_tmp (t:=2) rfl _ _ _,hP.out⟩
def Rg(w:ag)(mp:Nat)(a0 a1 a2 ev:aA)(n:Nat)(xs ent:List aA)(e:Ending)(w':ag):Prop:=
 e=.returned (.tuple #[])/\∃ (ev':aA) (n':Nat) (AM:List aA),af w' mp [a0,a1,a2,.int .i32 0,.int .u32 0,ev']/\w'.ownsRow 0 76 6 ev' n' AM/\n'<=2000/\Fr (λk=>k=mp\/ay ev k) w w'/\(∀b,ay ev' b->ay ev b\/w.heap.size<=b)/\((n<2000/\n'=n+1/\AM=xs++ent)\/(¬n<2000/\n'=n/\AM=xs))
theorem L4{w:ag}{mp:Nat}{a0 a1 a2 ev:aA}{n:Nat}{xs:List aA}(h:af w mp [a0,a1,a2,.int .i32 0,.int .u32 0,ev])(hr:w.ownsRow 0 76 6 ev n xs)(hne:¬ay ev mp)(hn:n<=2000)(et eb en ek ee ex:Int) :
 aJ prog 22 #[.pointer (some ⟨mp,3,none⟩),.agg #[vI et,vI eb,vI en,vI ek,vI ee,vI ex]] w (Rg w mp a0 a1 a2 ev n xs (mB et eb en ek ee ex)):=by
 obtain⟨ea,ec,rfl⟩:=aF hr;have k0:Calm w (w.alloc (.cells #[vI et,vI eb,vI en,vI ek,vI ee,vI ex] 76)):=ah.alloc _;have oE:af (w.alloc (.cells #[vI et,vI eb,vI en,vI ek,vI ee,vI ex] 76)) w.heap.size (mB et eb en ek ee ex):=af.kC w [_,_,_,_,_,_] _ _ rfl;obtain⟨W0,gF⟩:=ao (w.alloc (.cells #[vI et,vI eb,vI en,vI ek,vI ee,vI ex] 76));rw[gF] at k0 oE;have Ew:mp<w.heap.size:=h.lt (by simp);have h0:=h.calm k0;have uI:=aw hr k0 (λ_ _=>id);have c3:=(h0 3 _ rfl).1;have f3:=(h0 3 _ rfl).2;have h1:=h0.set 3 (.int .i32 1) (by simp);have F1:=jR W0 (mp) 3 (.int .i32 1);obtain⟨W1,gO⟩:=ao (W0.setCell ⟨mp,3,none⟩ (.int .i32 1));rw[gO] at h1 F1;have gA:=aw uI F1 (λb hb e=>hne (e ▸ hb));have xg:=oE.fr F1 (by omega);have d5:W1.cell? ⟨mp,5,none⟩=some (.slice ea n ec):=(h1 5 _ rfl).1;have d3:W1.cell? ⟨mp,3,none⟩=some (.int .i32 1):=(h1 3 _ rfl).1;have g3:=(h1 3 _ rfl).2;have hf:Fr (λk=>k=mp\/ay (.slice ea n ec) k) w W1:=(Calm.any k0:Fr (λk=>k=mp\/ay (.slice ea n ec) k) _ _).trans (F1.mono (λ_ _ e=>.inl e))
 have lD:Hid (∀ (W:ag) (ev':aA) (n':Nat) (AM:List aA),af W mp [a0,a1,a2,.int .i32 1,.int .u32 0,ev']->W.ownsRow 0 76 6 ev' n' AM->n'<=2000->Fr (λk=>k=mp\/ay (.slice ea n ec) k) w W->(∀b,ay ev' b->ay (.slice ea n ec) b\/w.heap.size<=b)->((n<2000/\n'=n+1/\AM=xs++mB et eb en ek ee ex)\/(¬n<2000/\n'=n/\AM=xs))->Rg w mp a0 a1 a2 (.slice ea n ec) n xs (mB et eb en ek ee ex) (.returned (.tuple #[])) (W.setCell ⟨mp,3,none⟩ (.int .i32 0))):=λW ev' n' AM e1 e2 e3 e4 e5 e6=>by
  have F2:=jR W (mp) 3 (.int .i32 0);refine⟨rfl,ev',n',AM,e1.set 3 (.int .i32 0) (by simp),aw e2 F2 (λb hb e=>?_),e3,e4.trans (F2.mono (λ_ _ e=>.inl e)),e5,e6⟩;subst e;rcases e5 b hb with e|e
  ·exact hne e
  ·omega
 by_cases aM:n<2000
 ·have dO:decide ((n:Int)<2000)=true:=by simp;omega
  replace aM:=hid aM;replace hn:=hid hn;replace hne:=hid hne;replace Ew:=hid Ew;have AE:=hid hr;have iG:Hid (w.heap.size<=W1.heap.size):=hf.size;replace hf:=hid hf;clear h h0 hr uI oE;go_enter_defers func22,ntmps22;go_wp2_with (go_at_call 41;refine(lock_free sj ⟨mp,3,none⟩ _ c3 f3).mono ?_;rintro e w' ⟨rfl,rfl⟩;rw[gO])
  have kd:Calm W1 W1.drew:=ah.drew;have x5:=kd.cellAt d5 id;have Qs:=xg.calm kd;obtain⟨g0,g1,g2,g3',g4,g5⟩:=af.Ry Qs;refine wp_region_noPanic ?_;refine aO 6 8 (λw'=>w'.cell? ⟨mp,5,none⟩=some (.slice ea n ec)/\af w' w.heap.size (mB et eb en ek ee ex)) (by kernel_rfl) (by kernel_rfl) ⟨x5,Qs⟩ ?_;refine ae (.pointer (some ⟨mp,3,none⟩)) rfl (λw' hw'=>?_) ak ?_
  ·simp[go_sem]
  refine ae (.pointer (some ⟨mp,3,none⟩)) rfl (λw' hw'=>?_) ak ?_
  ·simp[go_sem]
  refine ae (.pointer (some ⟨mp,3,none⟩)) rfl (λw' hw'=>?_) ak ?_
  ·simp[go_sem]
  refine ae (.pointer (some ⟨mp,5,none⟩)) rfl (λw' hw'=>?_) ak ?_
  ·simp[go_sem]
  refine ae (.slice ea n ec) rfl (λw' hw'=>?_) ak ?_
  ·have e1:=hw'.1;simp[go_sem,e1]
  refine ae (.agg #[vI et,vI eb,vI en,vI ek,vI ee,vI ex]) rfl (λw' hw'=>?_) ak ?_
  ·have o:=hw'.2;simp only[mB] at o;obtain⟨z0,z1,z2,z3,z4,z5⟩:=af.Ry o;simp[go_sem,z0,z1,z2,z3,z4,z5]
  simp only[bG];have kA:Calm W1 (W1.drew.alloc (.cells #[vI et,vI eb,vI en,vI ek,vI ee,vI ex] 76)):=kd.alloc _;have xA:=kA.cellAt d5 id;have oA:=xg.calm kA;have Dx:=aw gA kA (λ_ _=>id);have hS:World.cell? (W1.drew.alloc (.cells #[vI et,vI eb,vI en,vI ek,vI ee,vI ex] 76)) ⟨mp,5,none⟩=some (.slice ea n ec)/\af (W1.drew.alloc (.cells #[vI et,vI eb,vI en,vI ek,vI ee,vI ex] 76)) w.heap.size (mB et eb en ek ee ex):=⟨xA,oA⟩;have hbE:¬ay (.slice ea n ec) w.heap.size:=λe=>by have:=AE.out.lt _ e;omega
  clear g0 g1 g2 g3' g4 g5 x5 xA oA;refine aQ rfl ?_;unfold Oper.wp;go_simp
  first|refine⟨hS,?_⟩|skip
  refine aQ rfl ?_;refine Eq.mp (if_pos (show Region.wanted _ (yielded _ _)=true from rfl)) (gu (ops:=#[]) (E:=True) giE rfl (.tmp 21) (.tmp 23) rfl (.slice ea n ec) n xs Dx rfl (mB et eb en ek ee ex) rfl (by simp[mB,Value.oneCell']) ⟨W1.heap.size,0,none⟩ 1 rfl (λj u hj=>by rw[dM];simp only[ia];exact iV W1.drew _ _ _ hj) (by have:=aM.out;omega) ?_);intro g c w3 fp TS BR;have h3:=(h1.calm kA).fr TS hne.out;have ET:=(xg.calm kA).fr TS hbE;have x53:=(h3 5 _ rfl).1;have f53:=(h3 5 _ rfl).2;have h4:=h3.set 5 (.slice (some ⟨g,0,none⟩) (n+1) c) (by simp);have F4:=jR w3 (mp) 5 (.slice (some ⟨g,0,none⟩) (n+1) c)
  have wN:∀b,ay (.slice (some ⟨g,0,none⟩) (n+1) c) b->ay (.slice ea n ec) b\/w.heap.size<=b:=λb hb=>by
   rw[ay.fJ hb];rcases BR with e|e
   ·exact .inl e
   ·right;rw[e];exact gw iG.out kA.size
  have acU:mp<w.heap.size:=Ew.out
  have nX:=aw fp F4 (λb hb e=>by
   subst e;rcases wN b hb with e2|e2
   ·exact hne.out e2
   ·omega)
  have hft:Fr (λk=>k=mp\/ay (.slice ea n ec) k) w (w3.setCell ⟨mp,5,none⟩ (.slice (some ⟨g,0,none⟩) (n+1) c)):=((hf.out.trans (Calm.any kA)).trans (TS.mono (λb _ e=>.inr e))).trans (F4.mono (λb _ e=>.inl e));have hP:=hid (lD.out _ _ _ _ h4 nX (by have:=aM.out;omega) hft wN (.inl ⟨aM.out,rfl,rfl⟩));have d34:=(h4 3 _ rfl).1;have g34:=(h4 3 _ rfl).2;refine⟨⟨x53,ET⟩,?_⟩;simp only[bV];clear h3 h4 nX hft lD F4 hS Dx ET fp TS BR wN h1 gA d5 d3 F1 xg Qs;go_wp2;refine NoPanic.normal ?_;go_wp2;refine leaves_cons (f:=42) (args:=#[.pointer (some ⟨mp,3,none⟩)]) (by simp) (by simp[go_sem]) ?_;refine(unlock_deferred sj ⟨mp,3,none⟩ .returning _ d34 g34).mono ?_;rintro e u' w'' ⟨rfl,rfl,rfl⟩;exact⟨_,results_none rfl _ _ _,hP.out⟩
 ·clear F1 h0 uI oE xg k0;have hP:=hid (lD.out W1 (.slice ea n ec) n xs h1 gA hn hf (λ_ h=>.inl h) (.inr ⟨aM,rfl,rfl⟩));clear lD h1 gA hf h hr hn Ew hne;have dO:decide ((n:Int)<2000)=false:=by simp;omega
  clear aM;go_enter_defers func22,ntmps22;go_wp2_with (go_at_call 41;refine(lock_free sj ⟨mp,3,none⟩ _ c3 f3).mono ?_;rintro e w' ⟨rfl,rfl⟩;rw[gO])
  refine leaves_cons (f:=42) (args:=#[.pointer (some ⟨mp,3,none⟩)]) (by simp) (by simp[go_sem]) ?_;refine(unlock_deferred sj ⟨mp,3,none⟩ .returning _ d3 g3).mono ?_;rintro e u' w'' ⟨rfl,rfl,rfl⟩;exact⟨_,results_none rfl _ _ _,hP.out⟩
end
attribute [local go_sem] yE yD qz qA
def Ow(w:ag)(c:Nat)(BA:HB)(A:HS)(ph:Nat)(rv lv:aA)(en:Ending)(w':ag):Prop:=
 ∃ (b:Bool) (DD:Nat) (A':HS) (fF:HB) (oQ:aj) (jM sg:aA) (rd' ls':aj),en=.returned (.bool b)/\CH w' 0 c fF A' oQ DD jM sg rd' ls'/\dg w c rv lv BA w' jM sg fF/\HW A'/\(DD=0↔A'.mv=false)/\DD<=2/\A'.n=A.n/\A'.ser=A.ser/\(∀q∈rd',q<=131072)/\rd'.length<=A.ser/\ls'.length<=A.ser/\Lv A A'/\A'.fin.length+rd'.length<=A.fin.length/\iI A A'/\(ls'=[]\/(ph=2/\DD=0))
theorem Hl{w:ag}{c:Nat}{BA:HB}{A:HS}{XA:aj}{ph:Nat}{rv lv:aA}(h:CH w 0 c BA A XA ph rv lv [] [])(hw:HW A)(hp:ph=0↔A.mv=false)(Dw:ph<=2) :
 aJ prog 97 #[pV c] w (Ow w c BA A ph rv lv):=by
 have Jo:Hid (∀ (ph1:Nat) (b:Bool) (A1:HS) (qC:HB) (GZ:aj) W,ph1=ph->CH W 0 c qC A1 GZ ph1 rv lv [] []->dg w c rv lv BA W rv lv qC->HW A1->A1.n=A.n->A1.ser=A.ser->A1.mv=A.mv->Lv A A1->A1.fin=A.fin->iI A A1->Ow w c BA A ph rv lv (.returned (.bool b)) W):=λph1 b A1 qC GZ W e1 h1 h2 h3 h4 h5 h6 h7 h8 h9=>⟨b,ph1,A1,qC,GZ,rv,lv,[],[],rfl,h1,h2,h3,by rw[e1,h6];exact hp,by omega,h4,h5,λ_ h=>(by cases h),bY _,bY _,h7,by rw[h8];exact aD _,h9,.inl rfl⟩;rcases(by omega:ph=0\/ph=1\/ph=2) with rfl|rfl|rfl
 ·have il:aJ prog 87 #[pV c] w λe w'=>e=.returned (.bool false)/\w=w':=tF h.cy;replace il:=hid il;have YY:=hid (Jo.out 0 false A BA XA w rfl h (dg.refl _ _ _ _ _) hw rfl rfl rfl (.refl A) rfl (.refl A));clear h Jo hp hw;go_in;go_wp2_with fail
  refine(il.out).mono ?_;rintro e w1 ⟨rfl,rfl⟩;go_wp2;go_ret;exact YY.out
 ·have hm:A.mv=true:=by
   cases kU:A.mv with
   | true=>rfl
   | false=>exact absurd (hp.2 kU) (by decide)
  have il:aJ prog 87 #[pV c] w λe w'=>e=.returned (.bool true)/\w=w':=tF h.cy;replace il:=hid il;have Un:=hid (yb h.ha hw hm);have y0:=h.cy.c0;have H:=hid h;clear h hp;go_in;go_wp2_with fail
  refine(il.out).mono ?_;rintro e w1 ⟨rfl,rfl⟩;go_wp2_with fail
  refine(Un.out).mono ?_;rintro e w4 h4;rcases h4 with ⟨rfl,cM,k4⟩|⟨rfl,A1,⟨qC,GZ,Ht,Bv,fA⟩,hn,hs,qi,U8,PM,UD⟩
  ·have H1:=H.out.calm k4;have z1:=H1.cy.c1.1;unfold vB at z1;have hFi:=hid (Kk (Q:=XW A) H1 (by simp) (λW cw=>BQ (H1.ha.calm cw) hw hm));clear H1 H il Un;go_wp2_with fail
   refine hFi.out.mono ?_;rintro e w5 ⟨rfl,l',A',fF,oQ,jM,hC,RZ,hq⟩
   have hP:Ow w c BA A 1 rv lv (.returned (.bool false)) w5:=by
    exact⟨false,2,A',fF,oQ,jM,lv,[]++l',[],rfl,hC,(dg.calm k4).trans RZ,hq.1,by rw[hq.2.2.2.1,hm];simp,by decide,hq.2.1,hq.2.2.1,by simpa using hq.2.2.2.2.1,by simpa using hq.2.2.2.2.2.1,bY _,hq.2.2.2.2.2.2.1,by simpa using hq.2.2.2.2.2.2.2.1,hq.2.2.2.2.2.2.2.2,.inl rfl⟩
   replace hP:=hid hP;clear hC RZ hq;go_wp2;go_ret;exact hP.out
  ·have YY:=hid (Jo.out 1 false A1 qC GZ w4 rfl (H.out.jz Ht Bv) (dg.jz Bv) fA hn hs qi U8 PM UD);clear H Jo il Un Ht Bv fA;go_wp2;go_ret;exact YY.out
 ·have hm:A.mv=true:=by
   cases kU:A.mv with
   | true=>rfl
   | false=>exact absurd (hp.2 kU) (by decide)
  have il:aJ prog 87 #[pV c] w λe w'=>e=.returned (.bool true)/\w=w':=tF h.cy;replace il:=hid il;have Un:=hid (yb h.ha hw hm);have y0:=h.cy.c0;have H:=hid h;clear h hp;go_in;go_wp2_with fail
  refine(il.out).mono ?_;rintro e w1 ⟨rfl,rfl⟩;go_wp2_with fail
  refine(Un.out).mono ?_;rintro e w4 h4;rcases h4 with ⟨rfl,cM,k4⟩|⟨rfl,A1,⟨qC,GZ,Ht,Bv,fA⟩,hn,hs,qi,U8,PM,UD⟩
  ·have H1:=H.out.calm k4;have z1:=H1.cy.c1.1;unfold vB at z1;have hFi:=hid (IJ (Q:=XR A) H1 (by simp) (HH H1.ha hw hm cM));clear H1 H il Un;go_wp2_with fail
   refine hFi.out.mono ?_;rintro e w5 ⟨rfl,l',A',fF,oQ,sg,hC,RZ,hq⟩
   have hP:Ow w c BA A 2 rv lv (.returned (.bool true)) w5:=by
    exact⟨true,0,A',fF,oQ,rv,sg,[],[]++l',rfl,hC,(dg.calm k4).trans RZ,hq.1,by rw[hq.2.2.2.1];simp,by decide,hq.2.1,hq.2.2.1,λ_ h=>(by cases h),bY _,by simpa using hq.2.2.2.2.1,hq.2.2.2.2.2.1,by simpa using hq.2.2.2.2.2.2.1,hq.2.2.2.2.2.2.2,.inr ⟨rfl,rfl⟩⟩
   replace hP:=hid hP;clear hC RZ hq;go_wp2;go_ret;exact hP.out
  ·have YY:=hid (Jo.out 2 false A1 qC GZ w4 rfl (H.out.jz Ht Bv) (dg.jz Bv) fA hn hs qi U8 PM UD);clear H Jo il Un Ht Bv fA;go_wp2;go_ret;exact YY.out
section
section
variable {w w':ag}{τ:Nat->Nat}{M:Mem}{S:aE}
theorem sJ.cells(h1:bE w τ M)(h2:gZ M S):af w S.sp S.cs:=by
 have:=h1.at_ 2;rw[h2.c] at this;exact this
theorem sJ.heap(h1:bE w τ M)(h2:gZ M S):∃X,CH w 0 S.D.c S.D.B S.D.A X S.D.ph S.D.rv S.D.lv S.D.rd S.D.ls:=by
 have:=h1.at_ 0;rw[h2.h] at this;exact this
theorem sJ.QB(h1:bE w τ M)(h2:gZ M S):w.ownsRow 0 123 2 S.qv S.qu.length (S.qu.flatMap iH):=by
 have:=h1.at_ 5;rw[h2.q] at this;exact this
theorem sJ.SH(h1:bE w τ M)(h2:gZ M S):aI w 0 S.lv (nI S.lost):=by
 have:=h1.at_ 6;rw[h2.l] at this;exact this
theorem sJ.Yo(h1:bE w τ M)(h2:gZ M S):aI w 0 S.cv (nI S.bK):=by
 have:=h1.at_ 7;rw[h2.m] at this;exact this
theorem sJ.aaS(h1:bE w τ M)(h2:gZ M S)(v:aA)(l:List It)(f:Fr (λb=>b=S.sp\/ay S.qv b) w w')(hc:af w' S.sp ({ S with qv:=v,qu:=l } : aE).cs)(ho:w'.ownsRow 0 123 2 v l.length (l.flatMap iH))(fZ:∀b,ay v b->ay S.qv b\/w.heap.size<=b) :
 ∃aL M',bE w' aL M'/\gZ M' { S with qv:=v,qu:=l } /\ aC w τ w' aL:=by
 have hb:(M 2).dh=λk=>k=S.sp:=by rw[h2.c];rfl
 have kG:(M 5).dh=ay S.qv:=by rw[h2.q];rfl
 obtain⟨aL,k1,k2⟩:=h1.xm (t:=2) (u:=5) (by omega) (a:=bD S.sp (pV S.D.B.hp) [pV S.D.c,pV S.ck,S.mj,v,vI S.next,vI S.aK,vI S.dm,S.lv,S.cv]) (b:=pP v l)
  (by rw[hb,kG];exact f) hc ho (λk hk=>by rw[hb];exact hk) (λk hk=>by rw[kG];exact fZ k hk) (by omega) (by omega)
 have o:=(Mem.cf.put M (P:=λj=>j=2\/j=5) (bD S.sp (pV S.D.B.hp) [pV S.D.c,pV S.ck,S.mj,v,vI S.next,vI S.aK,vI S.dm,S.lv,S.cv]) (.inl rfl)).trans (Mem.cf.put _ (pP v l) (.inr rfl));refine⟨aL,_,k1,⟨(o 0 (by omega)).trans h2.h,?_,(o 3 (by omega)).trans h2.k,(o 4 (by omega)).trans h2.t,?_,(o 6 (by omega)).trans h2.l,(o 7 (by omega)).trans h2.m,λt ht=>(h2.x t ht).only o (λj h1 h2=>by omega),λu hu=>(o u (by omega)).trans (h2.z u hu)⟩,k2⟩
 ·rw[Mem.aB _ _ (by omega),Mem.aG]
 ·rw[Mem.aG]
theorem sJ.aaT(h1:bE w τ M)(h2:gZ M S)(v:aA)(l:aj)(f:Fr (λb=>b=S.sp\/ay S.lv b) w w')(hc:af w' S.sp ({ S with lv:=v,lost:=l } : aE).cs)(ho:aI w' 0 v (nI l))(fZ:∀b,ay v b->ay S.lv b\/w.heap.size<=b) :
 ∃aL M',bE w' aL M'/\gZ M' { S with lv:=v,lost:=l } /\ aC w τ w' aL:=by
 have hb:(M 2).dh=λk=>k=S.sp:=by rw[h2.c];rfl
 have kG:(M 6).dh=ay S.lv:=by rw[h2.l];rfl
 obtain⟨aL,k1,k2⟩:=h1.xm (t:=2) (u:=6) (by omega) (a:=bD S.sp (pV S.D.B.hp) [pV S.D.c,pV S.ck,S.mj,S.qv,vI S.next,vI S.aK,vI S.dm,v,S.cv]) (b:=fV v (nI l))
  (by rw[hb,kG];exact f) hc ho (λk hk=>by rw[hb];exact hk) (λk hk=>by rw[kG];exact fZ k hk) (by omega) (by omega)
 have o:=(Mem.cf.put M (P:=λj=>j=2\/j=6) (bD S.sp (pV S.D.B.hp) [pV S.D.c,pV S.ck,S.mj,S.qv,vI S.next,vI S.aK,vI S.dm,v,S.cv]) (.inl rfl)).trans (Mem.cf.put _ (fV v (nI l)) (.inr rfl));refine⟨aL,_,k1,⟨(o 0 (by omega)).trans h2.h,?_,(o 3 (by omega)).trans h2.k,(o 4 (by omega)).trans h2.t,(o 5 (by omega)).trans h2.q,?_,(o 7 (by omega)).trans h2.m,λt ht=>(h2.x t ht).only o (λj h1 h2=>by omega),λu hu=>(o u (by omega)).trans (h2.z u hu)⟩,k2⟩
 ·rw[Mem.aB _ _ (by omega),Mem.aG]
 ·rw[Mem.aG]
theorem sJ.aaU(h1:bE w τ M)(h2:gZ M S)(v:aA)(l:aj)(f:Fr (λb=>b=S.sp\/ay S.cv b) w w')(hc:af w' S.sp ({ S with cv:=v,bK:=l } : aE).cs)(ho:aI w' 0 v (nI l))(fZ:∀b,ay v b->ay S.cv b\/w.heap.size<=b) :
 ∃aL M',bE w' aL M'/\gZ M' { S with cv:=v,bK:=l } /\ aC w τ w' aL:=by
 have hb:(M 2).dh=λk=>k=S.sp:=by rw[h2.c];rfl
 have kG:(M 7).dh=ay S.cv:=by rw[h2.m];rfl
 obtain⟨aL,k1,k2⟩:=h1.xm (t:=2) (u:=7) (by omega) (a:=bD S.sp (pV S.D.B.hp) [pV S.D.c,pV S.ck,S.mj,S.qv,vI S.next,vI S.aK,vI S.dm,S.lv,v]) (b:=fV v (nI l))
  (by rw[hb,kG];exact f) hc ho (λk hk=>by rw[hb];exact hk) (λk hk=>by rw[kG];exact fZ k hk) (by omega) (by omega)
 have o:=(Mem.cf.put M (P:=λj=>j=2\/j=7) (bD S.sp (pV S.D.B.hp) [pV S.D.c,pV S.ck,S.mj,S.qv,vI S.next,vI S.aK,vI S.dm,S.lv,v]) (.inl rfl)).trans (Mem.cf.put _ (fV v (nI l)) (.inr rfl));refine⟨aL,_,k1,⟨(o 0 (by omega)).trans h2.h,?_,(o 3 (by omega)).trans h2.k,(o 4 (by omega)).trans h2.t,(o 5 (by omega)).trans h2.q,(o 6 (by omega)).trans h2.l,?_,λt ht=>(h2.x t ht).only o (λj h1 h2=>by omega),λu hu=>(o u (by omega)).trans (h2.z u hu)⟩,k2⟩
 ·rw[Mem.aB _ _ (by omega),Mem.aG]
 ·rw[Mem.aG]
theorem sJ.next(h1:bE w τ M)(h2:gZ M S)(n:Nat)(f:Fr (λb=>b=S.sp) w w')(hc:af w' S.sp ({ S with next:=n } : aE).cs):∃M',bE w' τ M'/\gZ M' { S with next:=n } /\ aC w τ w' τ:=by
 have hb:(M 2).dh=λk=>k=S.sp:=by rw[h2.c];rfl
 have f':Fr (M 2).dh w w':=f.mono (λk _ e=>by rw[hb];exact e);have k1:=h1.put' (t:=2) (a:=bD S.sp (pV S.D.B.hp) [pV S.D.c,pV S.ck,S.mj,S.qv,vI n,vI S.aK,vI S.dm,S.lv,S.cv]) f' hc (λk hk=>by rw[hb];exact hk);have o:=Mem.cf.put M (P:=λj=>j=2) (bD S.sp (pV S.D.B.hp) [pV S.D.c,pV S.ck,S.mj,S.qv,vI n,vI S.aK,vI S.dm,S.lv,S.cv]) rfl;exact⟨_,k1,⟨(o 0 (by omega)).trans h2.h,by rw[Mem.aG],(o 3 (by omega)).trans h2.k,(o 4 (by omega)).trans h2.t,(o 5 (by omega)).trans h2.q,(o 6 (by omega)).trans h2.l,(o 7 (by omega)).trans h2.m,λt ht=>(h2.x t ht).only o (λj h1 h2 (e:j=2)=>by omega),λu hu=>(o u (by omega)).trans (h2.z u hu)⟩,aC.piece h1 f' (by omega)⟩
theorem sJ.IK(h1:bE w τ M)(h2:gZ M S)(D':HD)(hf:Fr (λk=>v_ S.D.c S.D.rv S.D.lv k\/dz S.D.B k) w w')(ha:(aH D').at_ w')(hn:∀k,(aH D').dh k->(dz S.D.B k\/v_ S.D.c S.D.rv S.D.lv k)\/w.heap.size<=k)(e1:D'.B.hp=S.D.B.hp)(e2:D'.c=S.D.c) :
 ∃aL M',bE w' aL M'/\gZ M' { S with D:=D' } /\ aC w τ w' aL:=by
 have hb:(M 0).dh=λk=>dz S.D.B k\/v_ S.D.c S.D.rv S.D.lv k:=by rw[h2.h];rfl
 obtain⟨aL,j1,j2⟩:=h1.put (t:=0) (a:=aH D') (hf.mono (λk _ e=>by rw[hb];exact e.symm)) ha (λk hk=>by rw[hb];exact hn k hk) (by decide);exact⟨aL,_,j1,h2.IK (Mem.cf.put M _ rfl) (Mem.aG _ _ _) e1 e2,j2⟩
theorem sJ.SY(h1:bE w τ M)(h2:gZ M S)(D':HD)(hf:Fr (λk=>v_ S.D.c S.D.rv S.D.lv k\/dz S.D.B k) w w')(ha:(aH D').at_ w')(hn:∀k,(aH D').dh k->(dz S.D.B k\/v_ S.D.c S.D.rv S.D.lv k))(e1:D'.B.hp=S.D.B.hp)(e2:D'.c=S.D.c) :
 ∃M',bE w' τ M'/\gZ M' { S with D:=D' } /\ aC w τ w' τ:=by
 have hb:(M 0).dh=λk=>dz S.D.B k\/v_ S.D.c S.D.rv S.D.lv k:=by rw[h2.h];rfl
 have f':Fr (M 0).dh w w':=hf.mono (λk _ e=>by rw[hb];exact e.symm);exact⟨_,h1.put' (t:=0) (a:=aH D') f' ha (λk hk=>by rw[hb];exact hn k hk),h2.IK (Mem.cf.put M _ rfl) (Mem.aG _ _ _) e1 e2,aC.piece h1 f' (by decide)⟩
end
def aE.AJ(S:aE)(qv:aA)(qu:List It)(nx:Nat)(cv:aA)(ca:aj):aE:={ S with qv:=qv,qu:=qu,next:=nx,cv:=cv,bK:=ca }
structure SlI(w:ag)(τ:Nat->Nat)(s q:Nat)(S:aE)(rv:aA)(rd:aj)(i:Nat)(W:ag):Prop where
 ex:∃pF Mk qv qu nx cv ca,bE W pF Mk/\gZ Mk (S.AJ qv qu nx cv ca)/\aC w τ W pF/\(∀x∈qu,x.at_<=131072/\bX x.seq)/\qu.length<=S.qu.length+i/\nx<=S.next+i/\ca.length<=S.bK.length+i/\aI W 0 rv (nI rd)/\∀b,ay rv b->pF b=0
def aa3(S S':aE):Prop:=Rn S S'/\S'.aW=S.aW/\S'.lost.length<=S.lost.length+S.D.A.ser/\(S'.lost=S.lost\/(S.D.ph=2/\S'.D.ph=0))/\S'.D.A.ser=S.D.A.ser
def Nx1(w:ag)(τ:Nat->Nat)(s q:Nat)(S:aE)(w':ag)(R:aE->Prop):Prop:=∃aL S',St w' aL s q S'/\aC w τ w' aL/\wG S S'/\R S'
def Yc(w:ag)(τ:Nat->Nat)(s q:Nat)(S:aE)(e:Ending)(w':ag):Prop:=(∃b:Bool,e=.returned (.bool b))/\Nx1 w τ s (q+s) S w' (aa3 S)
theorem MT{w:ag}{τ:Nat->Nat}{s q:Nat}{S:aE}(h:St w τ s q S)(hs:s<100000)(hq:q+s<=100000):aJ prog 53 #[pV S.sp] w (Yc w τ s q S):=by
 have bU:=h.ok;have rr:S.D.A.ser<=s:=bU.se;obtain⟨X0,BG⟩:=h.heap;rw[bU.rd,bU.ls] at BG;have oc:=Hl BG bU.hw bU.ph bU.p2;have c1:=(h.cells 1 _ rfl).1;obtain⟨M,h1,h2,h3⟩:=h;have jD:=hid bU;clear bU BG h3;go_in;go_wp2_with fail
 refine oc.mono ?_;rintro en w1 ⟨b,DD,A',fF,oQ,jM,sg,rd',ls',rfl,Uc,hK,hw',Js,Dw,hn,Dy,Vm,hlr,PU,hLv,Zz,uB,ZS⟩;clear oc c1;replace hLv:=hid hLv;replace Zz:=hid Zz;replace uB:=hid uB;replace ZS:=hid ZS;have bU:=jD.out
 obtain⟨gI,M1,k1,k2,k3⟩:=sJ.IK h1 h2 (⟨fF,A',S.D.c,DD,jM,sg,rd',ls'⟩:HD) hK.fr ⟨oQ,Uc⟩ (λk hk=>by
  rcases hk with hk|hk
  ·rcases hK.new k hk with e|e
   ·exact .inl (.inl e)
   ·exact .inr e
  ·rcases hK.J7 k hk with e|e
   ·exact .inl (.inr e)
   ·exact .inr e) hK.hp rfl
 have or:=MC Uc.cy;have d1:w1.cell? ⟨S.sp,1,none⟩=some (pV S.D.c):=(sJ.cells k1 k2 1 _ rfl).1;have Sn:∀b,ay jM b->gI b=0:=λb hb=>k1.tag 0 b (by rw[k2.h];exact .inr (.inr (.inl hb)));clear bU;replace Js:=hid Js;go_wp2_with fail
 refine or.mono ?_;rintro en w2 ⟨rfl,Zp,rW,f2⟩;clear or d1;have KE:∀k,dz fF k->k≠S.D.c:=λk hk e=>Uc.ap k (.inl e) hk
 obtain⟨M2,j1,j2,j3⟩:=sJ.SY k1 k2 (⟨fF,A',S.D.c,DD,.slice none 0 0,sg,[],ls'⟩:HD) (f2.mono (λk _ e=>.inl (.inl e))) ⟨oQ,Uc.ha.fr f2 (λk hk e=>KE k hk e),Zp,λk hk=>by
  rcases hk with e|e|e
  ·exact Uc.ap k (.inl e)
  ·exact(ay.nil k e).elim
  ·exact Uc.ap k (.inr (.inr e))⟩ (λk hk=>by
  rcases hk with e|e|e|e
  ·exact .inl e
  ·exact .inr (.inl e)
  ·exact(ay.nil k e).elim
  ·exact .inr (.inr (.inr e))) rfl rfl
 obtain⟨S2,jo⟩:=ao (({ S with D:=⟨fF,A',S.D.c,DD,.slice none 0 0,sg,[],ls'⟩ } : aE):aE);have j2':gZ M2 S2:=by rw[<-jo];exact j2
 have K2:=k3.trans j3;have wJ:S2.sp=S.sp:=by rw[<-jo]
 have YA:S2.D=⟨fF,A',S.D.c,DD,.slice none 0 0,sg,[],ls'⟩:=by rw[<-jo]
 have YD:S2.D.B.hp=fF.hp:=by rw[YA]
 have YB:S2.D.c=S.D.c:=by rw[YA]
 have zl:S2.qu=S.qu:=by rw[<-jo]
 have TJ:S2.next=S.next:=by rw[<-jo]
 have TG:S2.bK=S.bK:=by rw[<-jo]
 have kg:SlI w τ s q S2 jM rd' 0 w2:=⟨gI,M2,S2.qv,S2.qu,S2.next,S2.cv,S2.bK,j1,j2',K2,by rw[zl];exact jD.out.qu,aD _,aD _,aD _,rW,Sn⟩;obtain⟨N,hN⟩:=ao rd'.length;obtain⟨ra,rc,Sq⟩:=rW.iy (n:=N) (by rw[<-hN];simp[nI]);have tq:Hid (N<=s):=by show N<=s;omega
 replace hN:=hid hN;replace Vm:=hid Vm;replace Sq:=hid Sq;replace kg:=hid kg;rw[Sq.out];have aa_:Hid (fF.hp=S.D.B.hp):=hK.hp;clear hlr Sn h1 h2 j1 j2 j3 j2' k1 k2 k3 Uc Zp rW f2 hK K2 KE;have abE:Hid (ls'.length<=s):=by show ls'.length<=s;omega
 replace rr:=hid rr;replace Dy:=hid Dy;replace hn:=hid hn;replace YA:=hid YA;replace zl:=hid zl;replace TJ:=hid TJ;replace TG:=hid TG;replace jo:=hid jo;replace YD:=hid YD;replace YB:=hid YB;replace wJ:=hid wJ;have abF:=hid PU;clear PU;go_wp2_with fail
 go_loopw [24] (λz wr=>∃i:Nat,i<=N/\z=vI i/\SlI w τ s q S2 jM rd' i wr) (λz _=>N-(intOf z).toNat)
 case atStart=>exact⟨0,by omega,rfl,kg.out⟩
 case round=>
  obtain⟨i,hi,rfl,pF,Mk,qv,qu,nx,cv,ca,g1,g2,K,Vi,Xg,B8,k_,aP,EJ⟩:=hrel;clear kg;have hNb:N<=100000:=by have:=tq.out;omega
  have cs:=sJ.cells g1 g2;have gU:(S2.AJ qv qu nx cv ca).sp=S.sp:=wJ.out;rw[gU] at cs;have oT:(S2.AJ qv qu nx cv ca).D=⟨fF,A',S.D.c,DD,.slice none 0 0,sg,[],ls'⟩:=YA.out;obtain⟨Xk,KL⟩:=sJ.heap g1 g2;rw[oT] at KL;have y0:wr.cell? ⟨S.sp,0,none⟩=some (pV fF.hp):=by have:=(cs 0 _ rfl).1;rw[oT] at this;exact this
  have y1:wr.cell? ⟨S.sp,1,none⟩=some (pV S.D.c):=by have:=(cs 1 _ rfl).1;rw[oT] at this;exact this
  have y4:wr.cell? ⟨S.sp,4,none⟩=some qv:=(cs 4 _ rfl).1
  by_cases aM:i<N
  ·obtain⟨gb,ab0,bS,gi⟩:=jE aP;obtain⟨sa,sc,AG,Gh⟩:=ab0;rw[Sq.out,hN.out] at AG;injection AG with v1 v2 v3
   have Bw:i<rd'.length:=by have:=hN.out;omega
   have Gc:=Gh (by omega);rw[<-v1] at Gc;subst Gc;obtain⟨p,hp⟩:=ao (rd'.getD i 0);have Z8:p<=131072:=Vm.out p (by rw[<-hp];exact get_mem 0 Bw);have yr:=(bS i Bw).1;rw[hp] at yr;clear bS v1 v2 v3 Gh hp;replace gi:=hid gi;have os:=uN KL.ha hw' Z8;have BZ:Hid (∀W,Calm wr W->SlI w τ s q S2 jM rd' (i+1) W):=λW c=>⟨pF,Mk,qv,qu,nx,cv,ca,g1.calm c,g2,K.trans (aC.calm pF c),Vi,by omega,by omega,by omega,aP.dw c (λ_ _=>id),EJ⟩;replace aP:=hid aP;replace EJ:=hid EJ;replace Vi:=hid Vi;have hxq:¬ay qv S.sp:=λe=>g1.apart (t:=5) (u:=2) (by omega) (by rw[g2.q];exact e) (by rw[g2.c];exact gU.symm);have EM:¬ay cv S.sp:=λe=>g1.apart (t:=7) (u:=2) (by omega) (by rw[g2.m];exact e) (by rw[g2.c];exact gU.symm);replace hxq:=hid hxq;replace EM:=hid EM;replace gU:=hid gU;replace oT:=hid oT;replace Xg:=hid Xg;replace B8:=hid B8;replace k_:=hid k_;go_wp2_with fail
   refine os.mono ?_;rintro en w4 ⟨k4,RQ⟩
   have UA:∃ (p0 d0:Nat) (wk fn fr:Bool) (er:Int),en=.returned (.tuple #[mz p0 d0 wk fn,.bool fr,vI er]):=by
    rcases RQ with ⟨_,rfl⟩|⟨_,o,_,rfl⟩
    ·exact⟨_,_,_,_,_,_,rfl⟩
    ·exact⟨_,_,_,_,_,_,rfl⟩
   obtain⟨p0,d0,wk,fn,fr,er,rfl⟩:=UA;clear os RQ y0 y1 yr y4;have k5:Calm w4 (w4.alloc (.cells #[vI p0,vI d0,.bool wk,.bool fn] 179)):=ah.alloc _;go_upto_region 8 with fail
   generalize mK:w4.alloc (.cells #[vI p0,vI d0,.bool wk,.bool fn] 179)=W5 at *;clear mK;have Xo:=k4.trans k5
   cases fr with
   | true=>
     have wu:=hid (BZ.out W5 Xo);clear BZ;go_wp2_with fail
     exact⟨⟨i+1,by omega,by simp,wu.out⟩,by simp[intOf] <;> omega⟩
   | false=>
     have Tz:=cs.calm Xo;have hrq:W5.ownsRow 0 123 2 qv qu.length (qu.flatMap iH):=aw (sJ.QB g1 g2) Xo (λ_ _=>id);obtain⟨qa,qc,Ju⟩:=aF hrq;subst qv;obtain⟨n,rh⟩:=ao qu.length;rw[rh] at hrq;have z4:W5.cell? ⟨S.sp,4,none⟩=some (.slice qa n qc):=by rw[<-rh];exact(Tz 4 _ rfl).1
     have z0:W5.cell? ⟨S.sp,0,none⟩=some (pV fF.hp):=by have:=(Tz 0 _ rfl).1;rw[oT.out] at this;exact this
     by_cases Kr:100<=n
     ·have hd:decide ((n:Int)>=100)=true:=by simp;omega
      have wu:=hid (BZ.out W5 Xo);clear BZ;replace rh:=hid rh;replace Kr:=hid Kr;go_wp2_with fail
      exact⟨⟨i+1,by omega,by simp,wu.out⟩,by simp[intOf] <;> omega⟩
     ·have hd:decide ((n:Int)>=100)=false:=by simp;omega
      have osr:=rY (KL.ha.calm Xo) hw' Z8;have oZ:=hid rh;have YL:=hid Kr;clear BZ rh Kr;go_wp2_with fail
      refine osr.mono ?_;rintro en w6 ⟨⟨er2,rfl⟩,k6⟩;clear osr z4 z0 hd;obtain⟨sv,AG⟩:=ao (sr A' p:Nat);rw[AG];clear AG;have k46:=Xo.trans k6;have kd:Calm w6 w6.drew:=ah.drew;have acb:=k46.trans kd;have WK:=cs.calm acb;have x4:w6.drew.cell? ⟨S.sp,4,none⟩=some (.slice qa n qc):=by rw[<-oZ.out];exact(WK 4 _ rfl).1
      have x5:w6.drew.cell? ⟨S.sp,5,none⟩=some (vI (nx:Int)):=(WK 5 _ rfl).1;go_wp2_with fail
      refine aO 11 13 (λw'=>w'.cell? ⟨S.sp,4,none⟩=some (.slice qa n qc)/\w'.cell? ⟨S.sp,5,none⟩=some (vI (nx:Int))) (by kernel_rfl) (by kernel_rfl) ⟨x4,x5⟩ ?_;refine ae (pV S.sp) rfl (λw' hw'=>?_) ak ?_
      ·simp[go_sem]
      refine ae (pV S.sp) rfl (λw' hw'=>?_) ak ?_
      ·simp[go_sem]
      refine ae (pV S.sp) rfl (λw' hw'=>?_) ak ?_
      ·simp[go_sem]
      refine ae (.pointer (some ⟨S.sp,4,none⟩)) rfl (λw' hw'=>?_) ak ?_
      ·simp[go_sem]
      refine ae (.slice qa n qc) rfl (λw' hw'=>?_) ak ?_
      ·have e1:=hw'.1;simp[go_sem,e1]
      refine ae (vI (p:Int)) rfl (λw' hw'=>?_) ak ?_
      ·simp[go_sem]
      refine ae (pV S.sp) rfl (λw' hw'=>?_) ak ?_
      ·simp[go_sem]
      refine ae (pV S.sp) rfl (λw' hw'=>?_) ak ?_
      ·simp[go_sem]
      refine ae (.pointer (some ⟨S.sp,5,none⟩)) rfl (λw' hw'=>?_) ak ?_
      ·simp[go_sem]
      refine ae (vI (nx:Int)) rfl (λw' hw'=>?_) ak ?_
      ·have e1:=hw'.2;simp[go_sem,e1]
      refine ae (.agg #[vI (p:Int),vI (nx:Int)]) rfl (λw' hw'=>?_) ak ?_
      ·simp[go_sem]
      simp only[bG];have kA:Calm w6 (w6.drew.alloc (.cells #[vI (p:Int),vI (nx:Int)] 123)):=kd.alloc _;have kAA:=k46.trans kA;have csA:=cs.calm kAA
      have Dx:World.ownsRow (w6.drew.alloc (.cells #[vI (p:Int),vI (nx:Int)] 123)) 0 123 2 (.slice qa n qc) n (qu.flatMap iH):=by
       have:=aw (sJ.QB g1 g2) kAA (λ_ _=>id);rw[<-oZ.out];exact this
      have hSA:World.cell? (w6.drew.alloc (.cells #[vI (p:Int),vI (nx:Int)] 123)) ⟨S.sp,4,none⟩=some (.slice qa n qc)/\World.cell? (w6.drew.alloc (.cells #[vI (p:Int),vI (nx:Int)] 123)) ⟨S.sp,5,none⟩=some (vI (nx:Int)):=⟨by rw[<-oZ.out];exact(csA 4 _ rfl).1,(csA 5 _ rfl).1⟩;have aav:¬ay (.slice qa n qc) S.sp:=by rw[<-oZ.out];exact hxq.out
      have RO:=Xg.out;have tz:=B8.out;have xU:=k_.out;have hN2:=tq.out;have KH:S2.next<=q:=by rw[TJ.out];exact jD.out.nx
      have F_:S2.bK.length<=q:=by rw[TG.out];exact jD.out.ca
      have kG:=YL.out;have hb7:=oZ.out;clear x4 x5;refine aQ rfl ?_;unfold Oper.wp;go_simp
      first|refine⟨hSA,?_⟩|skip
      refine aQ rfl ?_;refine Eq.mp (if_pos (show Region.wanted _ (yielded _ _)=true from rfl)) (gu (ops:=#[]) (E:=True) Pf rfl (.tmp 60) (.tmp 67) rfl (.slice qa n qc) n (qu.flatMap iH) Dx rfl (iH ⟨p,nx⟩) rfl (by simp[iH,Value.oneCell']) ⟨w6.heap.size,0,none⟩ 1 rfl (λj u hj=>by rw[dM];simp only[ia];exact iV w6.drew _ _ _ hj) (by omega) ?_);intro g c w7 lZ f7 wO;have Yv:=csA.fr f7 aav;have x47:w7.cell? ⟨S.sp,4,none⟩=some (.slice qa n qc):=by rw[<-oZ.out];exact(Yv 4 _ rfl).1
      have XG:w7.cell? ⟨S.sp,5,none⟩=some (vI (nx:Int)):=(Yv 5 _ rfl).1;have z47:=(Yv 4 _ rfl).2;have Rz:=Yv.set 4 (.slice (some ⟨g,0,none⟩) (n+1) c) (by simp[aE.cs]);have F8:=jR w7 (S.sp) 4 (.slice (some ⟨g,0,none⟩) (n+1) c);obtain⟨W8,wh⟩:=ao (w7.setCell ⟨S.sp,4,none⟩ (.slice (some ⟨g,0,none⟩) (n+1) c));rw[wh] at Rz F8
      have fZ:∀b,ay (.slice (some ⟨g,0,none⟩) (n+1) c) b->ay (.slice qa n qc) b\/wr.heap.size<=b:=λb hb=>by
       rw[ay.fJ hb];rcases wO with e|e
       ·exact .inl e
       ·right;rw[e];exact kAA.size
      have acT:S.sp<wr.heap.size:=cs.lt (by simp[aE.cs])
      have aab:∀b,ay (.slice (some ⟨g,0,none⟩) (n+1) c) b->b≠S.sp:=λb hb e=>by
       rcases fZ b hb with h1|h1
       ·exact aav (e ▸ h1)
       ·omega
      have FF8:Fr (λb=>b=S.sp\/ay (.slice qa n qc) b) wr W8:=((Calm.any kAA:Fr (λb=>b=S.sp\/ay (.slice qa n qc) b) _ _).trans (f7.mono (λb _ e=>.inr e))).trans (F8.mono (λb _ e=>.inl e));have hlen:(qu++[⟨p,nx⟩]:List It).length=n+1:=by rw[b_,oZ.out];rfl
      obtain⟨yR,M8,g18,TY,K8⟩:=sJ.aaS g1 g2 (.slice (some ⟨g,0,none⟩) (n+1) c) (qu++[⟨p,nx⟩]) (by
       show Fr (λb=>b=(S2.AJ (.slice qa qu.length qc) qu nx cv ca).sp\/ay (.slice qa qu.length qc) b) wr W8
       rw[gU.out,oZ.out];exact FF8) (by
       show af W8 (S2.AJ (.slice qa qu.length qc) qu nx cv ca).sp _
       rw[gU.out];exact Rz) (by
       rw[hlen,List.flatMap_append];have e1:[(⟨p,nx⟩:It)].flatMap iH=iH ⟨p,nx⟩:=by simp
       rw[e1]
       exact aw lZ F8 aab) (by
       show ∀b,_->ay (.slice qa qu.length qc) b\/_
       rw[oZ.out];exact fZ)
      have TY:gZ M8 (S2.AJ (.slice (some ⟨g,0,none⟩) (n+1) c) (qu++[⟨p,nx⟩]) nx cv ca):=TY
      have xZ:aI W8 0 jM (nI rd'):=aP.out.dw FF8 (λb hb e=>by
       have ht:=EJ.out b hb;rcases e with e|e
       ·have:=g1.tag 2 b (by rw[g2.c];exact e.trans gU.out.symm);omega
       ·have:=g1.tag 5 b (by rw[g2.q];rw[<-oZ.out] at e;exact e);omega)
      have Gi:∀b,ay jM b->yR b=0:=λb hb=>(K8.tg b (aP.out.lt hb).2).trans (EJ.out b hb)
      have aaa:∀x∈(qu++[⟨p,nx⟩]:List It),x.at_<=131072/\bX x.seq:=λx hx=>by
       rcases cJ.1 hx with hx|hx
       ·exact Vi.out x hx
       ·rw[gH.1 hx];exact⟨Z8,⟨by show -(9223372036854775808:Int)<=nx;omega,by show(nx:Int)<=9223372036854775807;omega⟩⟩
      have Vl:aI W8 0 cv (nI ca):=sJ.Yo g18 TY;obtain⟨OY,O0,OZ,hcv⟩:=Vl.letters;have y98:W8.cell? ⟨S.sp,9,none⟩=some (.slice OY O0 OZ):=by rw[<-hcv];exact(Rz 9 _ rfl).1
      have Sj:aI W8 0 (.slice OY O0 OZ) (nI ca):=by rw[<-hcv];exact Vl
      have VI:¬ay (.slice OY O0 OZ) S.sp:=by rw[<-hcv];exact EM.out
      have UH:=hid hcv;clear hcv;have Uz:(nI ca).length<=1000000:=by simp[nI];omega
      obtain⟨m,Du⟩:=ao ((nI ca).length);replace Du:=hid Du;replace Uz:=hid Uz;have hwr:IntKind.i64.wrap ((nx:Int)+1)=(nx:Int)+1:=IntWalk.i64_in _ (by omega);have ur:(S2.AJ (.slice (some ⟨g,0,none⟩) (n+1) c) (qu++[⟨p,nx⟩]) nx cv ca).sp=S.sp:=wJ.out
      have hP:Hid (∀ (g9 c9:Nat) (w9:ag),aI w9 0 (.slice (some ⟨g9,0,none⟩) (m+1) c9) (nI ca++[(sv:Int)])->Fr (ay (.slice OY O0 OZ)) W8 w9->(ay (.slice OY O0 OZ) g9\/W8.heap.size<=g9)->SlI w τ s q S2 jM rd' (i+1) ((w9.setCell ⟨S.sp,9,none⟩ (.slice (some ⟨g9,0,none⟩) (m+1) c9)).setCell ⟨S.sp,5,none⟩ (vI ((nx:Int)+1)))):=λg9 c9 w9 wB f9 oG=>by
       have WL:=Rz.fr f9 VI;have DY:=WL.set 9 (.slice (some ⟨g9,0,none⟩) (m+1) c9) (by simp[aE.cs]);have tT:=jR w9 (S.sp) 9 (.slice (some ⟨g9,0,none⟩) (m+1) c9);have Sa:∀b,ay (.slice (some ⟨g9,0,none⟩) (m+1) c9) b->ay (.slice OY O0 OZ) b\/W8.heap.size<=b:=λb hb=>by rw[ay.fJ hb];exact oG
       have XU:Fr (λb=>b=S.sp\/ay (.slice OY O0 OZ) b) W8 (w9.setCell ⟨S.sp,9,none⟩ (.slice (some ⟨g9,0,none⟩) (m+1) c9)):=(f9.mono (λb _ e=>.inr e)).trans (tT.mono (λb _ e=>.inl e));have acS:S.sp<W8.heap.size:=Rz.lt (by simp[aE.cs])
       obtain⟨τA,MA,g1A,g2A,KA⟩:=sJ.aaU g18 TY (.slice (some ⟨g9,0,none⟩) (m+1) c9) (ca++[sv]) (by
        show Fr (λb=>b=(S2.AJ (.slice (some ⟨g,0,none⟩) (n+1) c) (qu++[⟨p,nx⟩]) nx cv ca).sp\/ay cv b) W8 _
        rw[ur,UH.out];exact XU) (by
        show af _ (S2.AJ (.slice (some ⟨g,0,none⟩) (n+1) c) (qu++[⟨p,nx⟩]) nx cv ca).sp _
        rw[ur];exact DY) (by
        have e1:nI (ca++[sv])=nI ca++[(sv:Int)]:=by simp[nI]
        rw[e1]
        exact wB.dw tT (λb hb e=>by
         subst e;rcases Sa _ hb with e|e
         ·exact VI e
         ·omega)) (by
        show ∀b,_->ay cv b\/_
        rw[UH.out];exact Sa)
       have tU:Fr (λb=>b=S.sp) (w9.setCell ⟨S.sp,9,none⟩ (.slice (some ⟨g9,0,none⟩) (m+1) c9)) ((w9.setCell ⟨S.sp,9,none⟩ (.slice (some ⟨g9,0,none⟩) (m+1) c9)).setCell ⟨S.sp,5,none⟩ (vI ((nx:Int)+1))):=(Fr.refl (λb=>b=S.sp) _).setCell (p:=⟨S.sp,5,none⟩) (.inl rfl) _;have aa5:=DY.set 5 (vI ((nx:Int)+1)) (by simp[aE.cs])
       obtain⟨MB,g1B,g2B,KB⟩:=sJ.next g1A g2A (nx+1) (by
        show Fr (λb=>b=(S2.AJ (.slice (some ⟨g,0,none⟩) (n+1) c) (qu++[⟨p,nx⟩]) nx cv ca).sp) _ _
        rw[ur];exact tU) (by
        show af _ (S2.AJ (.slice (some ⟨g,0,none⟩) (n+1) c) (qu++[⟨p,nx⟩]) nx cv ca).sp _
        rw[ur];exact aa5)
       have t2:∀b,b=S.sp->yR b=2:=λb e=>g18.tag 2 b (by rw[TY.c];exact e.trans ur.symm);have t7:∀b,ay (.slice OY O0 OZ) b->yR b=7:=λb e=>g18.tag 7 b (by rw[TY.m];rw[<-UH.out] at e;exact e)
       have aae:=(xZ.dw XU (λb hb e=>by
        have ht:=Gi b hb;rcases e with e|e
        ·have:=t2 b e;omega
        ·have:=t7 b e;omega)).dw tU (λb hb e=>by
        have ht:=Gi b hb
        have:=t2 b e;omega)
       exact⟨τA,MB,_,_,nx+1,_,_,g1B,g2B,((K.trans K8).trans KA).trans KB,aaa,by show(qu++[⟨p,nx⟩]:List It).length<=_;rw[hlen];omega,by show nx+1<=_;omega,by show(ca++[sv]).length<=_;rw[b_];simp;omega,aae,λb hb=>(KA.tg b (xZ.lt hb).2).trans (Gi b hb)⟩
      refine⟨⟨x47,XG⟩,?_⟩;simp only[bV];replace Rz:=hid Rz;clear F8 FF8 lZ f7 wO Yv XG hSA Dx csA WK Tz fZ aab aaa xZ Gi g18 TY Vl KL cs hrq;replace hlen:=hid hlen;replace ur:=hid ur;replace RO:=hid RO;replace tz:=hid tz;replace xU:=hid xU;replace KH:=hid KH;replace F_:=hid F_;clear kG hb7 hN2
      go_wp2_with (
       at_builtin
       go_must (refine jG rfl _ _ rfl 0 (.slice OY O0 OZ) (nI ca) Sj rfl (sv:Int) _ rfl rfl Uz.out (bY _) ?_)
       intro g9 c9 w9 wB f9 oG;rw[Du.out] at wB ⊢;have WL:=Rz.out.fr f9 VI;have d9:=(WL 9 _ rfl).1;have d9':=(WL 9 _ rfl).2;have DY:=WL.set 9 (.slice (some ⟨g9,0,none⟩) (m+1) c9) (by simp[aE.cs]);have Uk:=hP.out g9 c9 w9 wB f9 oG;obtain⟨Dq,Ea⟩:=ao (w9.setCell ⟨S.sp,9,none⟩ (.slice (some ⟨g9,0,none⟩) (m+1) c9));rw[Ea] at DY Uk;have hQ:=hid Uk;have d5:Dq.cell? ⟨S.sp,5,none⟩=some (vI (nx:Int)):=(DY 5 _ rfl).1;have d5':=(DY 5 _ rfl).2
       clear hP wB f9 oG WL DY Sj y98 Uk)
      exact⟨⟨i+1,by omega,by simp,hQ.out⟩,by simp[intOf] <;> omega⟩
  ·obtain rfl:i=N:=by omega
   have kd:Calm wr wr.drew:=ah.drew;have g1d:=g1.calm kd;have csd:=cs.calm kd;have Lc:aI wr.drew 0 S2.lv (nI S2.lost):=sJ.SH (S:=S2.AJ qv qu nx cv ca) g1d g2;obtain⟨la,ln,lc,il⟩:=Lc.letters;have x8:wr.drew.cell? ⟨S.sp,8,none⟩=some (.slice la ln lc):=by rw[<-il];exact(csd 8 _ rfl).1
   have x1:=kd.cellAt y1 id;have xe:¬ay (.slice la ln lc) S.sp:=λe=>g1.apart (t:=6) (u:=2) (by omega) (by rw[g2.l];rw[<-il] at e;exact e) (by rw[g2.c];exact gU.symm);have hcs:S.D.c≠S.sp:=λe=>g1.apart (t:=0) (u:=2) (k:=S.D.c) (by omega) (by rw[g2.h,oT];exact .inr (.inl rfl)) (by rw[g2.c];exact e.trans gU.symm);have ol:=Qf (KL.cy.calm kd);have uH:=hid il;rw[il] at Lc;clear il;have KE:∀k,dz fF k->k≠S.D.c:=λk hk e=>KL.ap k (.inl e) hk;replace gU:=hid gU;replace oT:=hid oT;replace Xg:=hid Xg;replace B8:=hid B8;replace k_:=hid k_;replace aP:=hid aP;replace EJ:=hid EJ;replace Vi:=hid Vi;go_wp2_with fail
   refine aO 9 11 (λw'=>w'.cell? ⟨S.sp,8,none⟩=some (.slice la ln lc)/\w'.cell? ⟨S.sp,1,none⟩=some (pV S.D.c)) (by kernel_rfl) (by kernel_rfl) ⟨x8,x1⟩ ?_;refine ae (pV S.sp) rfl (λw' hw'=>?_) ak ?_
   ·simp[go_sem]
   refine ae (pV S.sp) rfl (λw' hw'=>?_) ak ?_
   ·simp[go_sem]
   refine ae (pV S.sp) rfl (λw' hw'=>?_) ak ?_
   ·simp[go_sem]
   refine ae (.pointer (some ⟨S.sp,8,none⟩)) rfl (λw' hw'=>?_) ak ?_
   ·simp[go_sem]
   refine ae (.slice la ln lc) rfl (λw' hw'=>?_) ak ?_
   ·have e1:=hw'.1;simp[go_sem,e1]
   refine ae (pV S.sp) rfl (λw' hw'=>?_) ak ?_
   ·simp[go_sem]
   refine ae (pV S.sp) rfl (λw' hw'=>?_) ak ?_
   ·simp[go_sem]
   refine ae (.pointer (some ⟨S.sp,1,none⟩)) rfl (λw' hw'=>?_) ak ?_
   ·simp[go_sem]
   refine ae (pV S.D.c) rfl (λw' hw'=>?_) ak ?_
   ·have e1:=hw'.2;simp[go_sem,e1]
   simp only[bG];clear x1 y0 y1 y4;refine aQ rfl ?_;go_wp2_with fail
   refine ol.mono ?_;rintro en w3 ⟨rfl,Zq,Lt,f3⟩;clear ol;have z8:=f3.cellAt x8 (Ne.symm hcs);have z1:w3.cell? ⟨S.sp,1,none⟩=some (pV S.D.c):=f3.cellAt (kd.cellAt (by have:=(cs 1 _ rfl).1;rw[oT.out] at this;exact this) id) (Ne.symm hcs);have cs3:=csd.fr f3 (Ne.symm hcs);refine⟨⟨z8,z1⟩,?_⟩;obtain⟨l1,l2,l3,dO⟩:=Lt.letters;subst sg
   obtain⟨M3,j1,j2,j3⟩:=sJ.SY g1d g2 (⟨fF,A',S.D.c,DD,.slice none 0 0,.slice none 0 0,[],[]⟩:HD) (by rw[oT.out];exact f3.mono (λk _ e=>.inl (.inl e))) ⟨Xk,(KL.ha.calm kd).fr f3 (λk hk e=>KE k hk e),Zq,λk hk=>by
    rcases hk with e|e|e
    ·exact KL.ap k (.inl e)
    ·exact(ay.nil k e).elim
    ·exact(ay.nil k e).elim⟩ (by
     rw[oT.out];rintro k (e|e|e|e)
     ·exact .inl e
     ·exact .inr (.inl e)
     ·exact(ay.nil k e).elim
     ·exact(ay.nil k e).elim) (by rw[oT.out]) (by rw[oT.out])
   have ZR:aI w3 0 (.slice la ln lc) (nI S2.lost):=by
    have:=sJ.SH j1 j2;rw[<-uH.out];exact this
   have hb8:S2.lost.length<=q:=by have:=jD.out.lo;have:=jo.out;subst this;exact jD.out.lo
   have hb9:=abE.out;refine aQ rfl ?_;refine Eq.mp (if_pos (show Region.wanted _ (yielded _ _)=true from rfl)) (yI (ops:=#[]) (E:=True) rfl (.tmp 93) (.tmp 98) rfl 0 (.slice la ln lc) (nI S2.lost) ZR rfl (.slice l1 l2 l3) (nI ls') Lt.row rfl (by simp[nI];omega) (bY _) ?_);intro v' w5 Ca f5 Xc;have z85:=f5.cellAt z8 xe;have z15:=f5.cellAt z1 xe;have Tz:=cs3.fr f5 xe;have adh:=(Tz 8 _ rfl).2;obtain⟨va,vn,vc,nZ⟩:=Ca.letters;subst v';have WK:=Tz.set 8 (.slice va vn vc) (by simp[aE.cs]);have F6:=jR w5 (S.sp) 8 (.slice va vn vc);have wS:S.sp<w3.heap.size:=cs3.lt (by simp[aE.cs])
   obtain⟨dW,M5,m1,m2,m3⟩:=sJ.aaT j1 j2 (.slice va vn vc) (S2.lost++ls') (by
    show Fr (λb=>b=(S2.AJ qv qu nx cv ca).sp\/ay S2.lv b) w3 _;rw[gU.out,uH.out]
    exact(f5.mono (λb _ e=>.inr e)).trans (F6.mono (λb _ e=>.inl e))) (by
    show af _ (S2.AJ qv qu nx cv ca).sp _;rw[gU.out]
    have e9:(({ (S2.AJ qv qu nx cv ca) with D:=⟨fF,A',S.D.c,DD,.slice none 0 0,.slice none 0 0,[],[]⟩,lv:=.slice va vn vc,lost:=S2.lost++ls' } : aE)).cs=(S2.AJ qv qu nx cv ca).cs.set 8 (.slice va vn vc):=by
     show[pV fF.hp,pV S.D.c,_,_,_,_,_,_,_,_]=[pV (S2.AJ qv qu nx cv ca).D.B.hp,pV (S2.AJ qv qu nx cv ca).D.c,_,_,_,_,_,_,_,_];rw[oT.out]
    exact e9 ▸ WK) (by
    have e1:nI (S2.lost++ls')=nI S2.lost++nI ls':=by simp[nI]
    rw[e1]
    exact Ca.dw F6 (λb hb e=>by
     subst e;rcases Xc _ hb with e|e
     ·exact xe e
     ·omega)) (by
    show ∀b,_->ay S2.lv b\/_
    rw[uH.out];exact Xc)
   have bM:Yc w τ s q S (.returned (.bool b)) (w5.setCell ⟨S.sp,8,none⟩ (.slice va vn vc)):=by
    have hk:=jD.out;have h2':=jo.out;subst h2';have hN2:=tq.out;have kg:Inv (S.h_ fF A'):=hk.iv.lv (uB.out.vK hk.hw hw') hLv.out;have PM:=Zz.out;have acN:ca.length<=S.bK.length+i:=k_.out;have aaj:=Dy.out;refine⟨⟨b,rfl⟩,dW,_,⟨M5,m1,m2,⟨hw',Js.out,Dw,?_,rfl,rfl,hk.ck,hk.n,hk.x,Vi.out,?_,?_,hk.ho,hk.ve,?_,?_,⟨kg.hv,kg.ve,kg.st,kg.vs,kg.ho⟩⟩⟩,((K.trans (aC.calm pF kd)).trans j3).trans m3,⟨rfl,aa_.out,rfl,rfl,hn.out,rfl,λ_=>rfl,λ_=>rfl,?_,aD _⟩,⟨⟨λ_=>rfl,λ_=>rfl,rfl,rfl⟩,rfl,?_,?_,aaj⟩⟩
    ·show A'.ser<=s;rw[Dy.out];exact rr.out
    ·have h3:=hk.tt;have h4:=Xg.out;unfold aE.tM at h3;show qu.length+(S.aW.map λx=>x.took.length).sum<=q+s;have h4:qu.length<=S.qu.length+i:=h4;omega
    ·have h3:=hk.nx;have h4:nx<=S.next+i:=B8.out;show nx<=q+s;omega
    ·show(S.lost++ls').length<=q+s;have h4:S.lost.length<=q:=hb8;rw[b_];omega
    ·have h3:=hk.ca;have h4:ca.length<=S.bK.length+i:=k_.out;show ca.length<=q+s;omega
    ·show ca.length+A'.fin.length+S.D.A.ser<=S.bK.length+S.D.A.fin.length+A'.ser;rw[aaj];have:=hN.out;omega
    ·show(S.lost++ls').length<=S.lost.length+S.D.A.ser;rw[b_];have:=abF.out;omega
    ·rcases ZS.out with e|⟨e1,e2⟩
     ·exact .inl (by show S.lost++ls'=S.lost;rw[e,List.append_nil])
     ·exact .inr ⟨e1,e2⟩
   replace bM:=hid bM;refine⟨⟨z85,z15⟩,?_⟩;simp only[bV];clear Ca f5 Xc Tz WK F6 m1 m2 m3 j1 j2 j3 Zq Lt f3 ZR g1d csd Lc KL cs3 KE cs g1 g2 K z8 z1 x8;go_wp2;go_ret;exact bM.out
end
def iU(T:Nat->Prop)(w:ag)(v:aA)(l:aj):Prop:=
 ∃a cap,v=.slice a l.length cap/\l.length<=cap/\((a=none/\l=[])\/∃b off,a=some ⟨b,off,none⟩/\T b/\∀j,j<l.length->w.cell? ⟨b,off+j,none⟩=some (vI (l.getD j 0:Nat)))
theorem iU.fr{T S:Nat->Prop}{w w':ag}{v:aA}{l:aj}(h:iU T w v l)(f:Fr S w w')(hs:∀b,T b->¬S b):iU T w' v l:=by
 obtain⟨a,cap,hv,hc,h⟩:=h;refine⟨a,cap,hv,hc,?_⟩;rcases h with h|⟨b,off,e,t,hcell⟩
 ·exact .inl h
 ·exact .inr ⟨b,off,e,t,λj hj=>f.cellAt (hcell j hj) (hs b t)⟩
theorem iU.calm{T:Nat->Prop}{w w':ag}{v:aA}{l:aj}(h:iU T w v l)(f:Calm w w'):iU T w' v l:=h.fr f λ_ _=>id
theorem iU.of{w:ag}{base:Nat}{v:aA}{l:aj}(h:aI w base v (nI l)):iU (ay v) w v l:=by
 obtain⟨e1,e2⟩:=h;rcases e2 with ⟨rfl,e3⟩|⟨g,cap,cur,rfl,h3,h4,h5,h6,h7,h8⟩
 ·have:l.length=0:=by simpa[nI] using e3
  have:l=[]:=List.length_eq_zero_iff.1 this;subst this;exact⟨none,0,rfl,aD _,.inl ⟨rfl,rfl⟩⟩
 ·have hl:(nI l).length=l.length:=by simp[nI]
  rw[hl] at h5 h8 ⊢;refine⟨_,cap,rfl,h5,.inr ⟨g,0,rfl,ay.mk.2 rfl,λj hj=>?_⟩⟩;obtain⟨b,⟨a,c,hv,ha⟩,hc,gi⟩:=jE (w:=w) (v:=.slice (some ⟨g,0,none⟩) l.length cap) (l:=l) ⟨by simp,.inr ⟨g,cap,cur,by rw[hl],bY _,h4,by rw[hl];exact h5,h6,h7,by rw[hl];exact h8⟩⟩;injection hv with a1 _ _
  have:=ha (by omega);rw[<-a1] at this;injection this with this
  injection this with this
  subst this;rw[ia];exact(hc j hj).1
theorem iU.row{T:Nat->Prop}{w:ag}{v:aA}{l:aj}(h:iU T w v l):Row w v (lj (nI l)):=by
 obtain⟨a,cap,hv,hc,h⟩:=h;refine⟨a,cap,by simp[nI,hv],?_⟩;rcases h with ⟨_,rfl⟩|⟨b,off,e,t,hcell⟩
 ·exact .inl rfl
 ·right;refine⟨b,off,e,λi hi=>?_⟩;have oY:i<l.length:=by simpa[nI] using hi
  have:=hcell i oY;rw[this];simp[nI,aS,oY]
theorem iU.tag{T:Nat->Prop}{w:ag}{v:aA}{l:aj}(h:iU T w v l):∀b,Gj v b->T b:=by
 obtain⟨a,cap,rfl,hc,h⟩:=h;rintro k ⟨ade,n',c',hk⟩;injection hk with a1 _ _
 rcases h with ⟨e,_⟩|⟨b,off,e,t,hcell⟩
 ·rw[e] at a1;cases a1
 ·rw[e] at a1;injection a1 with a1
  injection a1 with a1
  exact a1 ▸ t
theorem Fo(a:Option Addr)(n c lo:Nat)(w:ag)(h1:lo<=n) :
 (Instr.slice 43 (.slice a n c) (some (vI (lo:Int))) none none).run prog w=.ok (.slice (if c=lo then a else a.map (·.add lo)) (n-lo) (c-lo)) w:=by
 simp[Instr.slice,Instr.sliceBounds,Instr.sliceBound,asIntOf,go_sem,Tryz.runUnderlying43,Tryz.sizeOf3,h1]
theorem pq(a:Option Addr)(n c hi:Nat)(w:ag)(h2:hi<=c) :
 (Instr.slice 43 (.slice a n c) none (some (vI (hi:Int))) none).run prog w=.ok (.slice (if c=0 then a else a.map (·.add 0)) hi c) w:=by
 simp[Instr.slice,Instr.sliceBounds,Instr.sliceBound,asIntOf,go_sem,Tryz.runUnderlying43,Tryz.sizeOf3,h2]
theorem iU.drop{T:Nat->Prop}{w:ag}{a:Option Addr}{n c:Nat}{l:aj}(h:iU T w (.slice a n c) l){lo:Nat}(Lb:lo<=n) :
 ∃a' c',(∀W,(Instr.slice 43 (.slice a n c) (some (vI (lo:Int))) none none).run prog W=.ok (.slice a' (n-lo) c') W)/\iU T w (.slice a' (n-lo) c') (l.drop lo):=by
 obtain⟨a0,cap,hv,hc,h⟩:=h;injection hv with e1 e2 e3
 subst e1 e2 e3;refine⟨_,_,λW=>Fo _ _ _ _ _ Lb,⟨_,_,by rw[List.length_drop],by rw[List.length_drop];omega,?_⟩⟩;rcases h with ⟨e,rfl⟩|⟨b,off,e,t,hcell⟩
 ·left;rw[e];refine⟨by split <;> rfl,by simp⟩
 right
 by_cases h0:c=lo
 ·rw[if_pos h0];refine⟨b,off,e,t,λj hj=>?_⟩;rw[List.length_drop] at hj;omega
 refine⟨b,off+lo,?_,t,λj hj=>?_⟩
 ·rw[if_neg h0,e];show some (Addr.add _ _)=_;rw[ei]
 ·rw[List.length_drop] at hj;have:=hcell (lo+j) (by omega);rw[Nat.add_assoc,this];simp[aS]
theorem iU.take{T:Nat->Prop}{w:ag}{a:Option Addr}{n c:Nat}{l:aj}(h:iU T w (.slice a n c) l){hi:Nat}(hhi:hi<=n) :
 ∃a' c',(∀W,(Instr.slice 43 (.slice a n c) none (some (vI (hi:Int))) none).run prog W=.ok (.slice a' hi c') W)/\iU T w (.slice a' hi c') (l.take hi):=by
 obtain⟨a0,cap,hv,hc,h⟩:=h;injection hv with e1 e2 e3
 subst e1 e2 e3;have hl:(l.take hi).length=hi:=by rw[List.length_take];omega
 refine⟨_,_,λW=>pq _ _ _ _ _ (by omega),⟨_,_,by rw[hl],by rw[hl];omega,?_⟩⟩;rcases h with ⟨e,rfl⟩|⟨b,off,e,t,hcell⟩
 ·left;rw[e];refine⟨by split <;> rfl,by simp⟩
 right;refine⟨b,off,?_,t,λj hj=>?_⟩
 ·rw[e];split
  ·rfl
  ·show some (Addr.add _ _)=_;rw[ei,fM]
 ·rw[hl] at hj;rw[hcell j (by omega)];simp[aS,List.getElem?_take,hj]
def n_(l:List It)(ps:aj)(k:Nat):List It:=l.mapIdx λj x=>if j<k then ⟨ps.getD j 0,x.seq⟩ else x
theorem qx(l:List It)(ps:aj)(k:Nat):(n_ l ps k).length=l.length:=by simp[n_]
theorem tJ(l:List It)(ps:aj)(k j:Nat)(hj:j<l.length):(n_ l ps k).getD j dI=if j<k then ⟨ps.getD j 0,(l.getD j dI).seq⟩ else l.getD j dI:=by
 simp[n_,aS,hj]
theorem My(l:List It)(ps:aj)(k:Nat)(hk:k<l.length):n_ l ps (k+1)=(n_ l ps k).set k ⟨ps.getD k 0,(l.getD k dI).seq⟩:=by
 apply List.ext_getElem?;intro j
 by_cases hj:j<l.length
 ·by_cases e:j=k
  ·subst e;simp[n_,hj,aS]
  ·rw[List.getElem?_set_ne (by omega)];have:(j<k+1)=(j<k):=by simp;omega
   simp[n_,hj,this]
 ·rw[List.getElem?_eq_none (by simp[n_];omega),List.getElem?_eq_none (by simp[n_];omega)]
theorem Mz(l:List It)(ps:aj):n_ l ps 0=l:=by
 apply List.ext_getElem?;intro j
 by_cases hj:j<l.length
 ·simp[n_,hj]
 ·rw[List.getElem?_eq_none (by simp[n_];omega),List.getElem?_eq_none (by omega)]
def Ya(w:ag)(v:aA)(l:List It)(T:Nat->Prop)(ps:aj)(e:Ending)(w':ag):Prop:=
 ∃a c,e=.returned (.slice a (ps.length-l.length) c)/\iU T w' (.slice a (ps.length-l.length) c) (ps.drop l.length)/\w'.ownsRow 0 123 2 v l.length ((n_ l ps l.length).flatMap iH)/\Fr (ay v) w w'
theorem CS{w:ag}{v:aA}{l:List It}(h:w.ownsRow 0 123 2 v l.length (l.flatMap iH)){a:Option Addr}{n c:Nat}{ps:aj}{T:Nat->Prop}(hu:iU T w (.slice a n c) ps)(hlen:l.length<=ps.length)(cT:∀b,T b->¬ay v b)(hl:l.length<=100000)(hp:∀p∈ps,p<=131072) :
 aJ prog 92 #[v,.slice a n c] w (Ya w v l T ps):=by
 have hn:ps.length=n:=by obtain⟨_,_,e,_⟩:=hu;injection e with _ e2 _;exact e2.symm
 obtain⟨N,hN⟩:=ao l.length;obtain⟨va,vc,hv⟩:=aF h;rw[hN] at hv;obtain⟨a',c',mE,hdr⟩:=hu.drop (lo:=N) (by omega)
 have kg:Hid (w.ownsRow 0 123 2 v N ((n_ l ps 0).flatMap iH)):=by
  rw[Mz,<-hN];exact h
 have Ik:=hid hu;have tq:=hid hN;have sP:=hid hn;have hNb:N<=100000:=by omega
 have hNn:Hid (N<=n):=by show N<=n;omega
 have abq:=hid hdr
 have gU:Hid (∀i,i<N->∃g,a=some g):=λi hi=>by
  obtain⟨_,_,e,_,k⟩:=hu;injection e with e1 _ _
  rcases k with ⟨_,k⟩|⟨b,off,e2,_⟩
  ·subst k;simp at hn;omega
  ·exact⟨_,e1.trans e2⟩
 have wC:=hid hv;rw[hv];clear h hu hdr hv hN hn;go_in;go_wp2_with fail
 go_loopw [8] (λz wr=>∃i:Nat,i<=N/\z=vI i/\wr.ownsRow 0 123 2 v N ((n_ l ps i).flatMap iH)/\Fr (ay v) w wr) (λz _=>N-(intOf z).toNat)
 case atStart=>exact⟨0,by omega,rfl,kg.out,ah⟩
 case round=>
  obtain⟨i,hi,rfl,aP,oX⟩:=hrel;clear kg
  by_cases aM:i<N
  ·have Bw:l.length=N:=tq.out;have ma:=qx l ps i;obtain⟨g,c2,nZ,gG⟩:=bT (k:=2) (ety:=123) kL (by decide) (l:=n_ l ps i) (by rw[ma,Bw];exact aP) dI (i:=i) (by omega);rw[wC.out] at nZ;injection nZ with e1 e2 e3
   subst e1;rw[tJ l ps i i (by omega),if_neg (by omega)] at gG;have y0:=(gG 0 _ rfl).1;have Wz:=(gG 0 _ rfl).2;rw[fM] at y0 Wz;have hur:=Ik.out.fr oX cT;obtain⟨_,_,eu,_,ku⟩:=hur;injection eu with u1 u2 u3
   obtain⟨b,off,ea,tb,hcell⟩:∃b off,_:=ku.resolve_left (λe=>by have h1:=sP.out;have h2:=hNn.out;rw[e.2] at h1;simp at h1;omega);rw[<-u1] at ea;subst ea;obtain⟨p,rU⟩:=ao (ps.getD i 0);have x0:=hcell i (by have:=sP.out;have:=hNn.out;omega);rw[rU] at x0;have mF:=lM (g:=g) (c:=vc) (ety:=123) (k:=2) (w:=wr) (n:=N) (xs:=(n_ l ps i).flatMap iH) (by rw[<-wC.out];exact aP) (j:=i*2) (by rw[ij iH 2 kL,ma,Bw];omega) (vI (p:Int))
   have e9:((n_ l ps i).flatMap iH).set (i*2) (vI (p:Int))=(n_ l ps (i+1)).flatMap iH:=by
    have:=pY iH 2 kL dI ⟨p,(l.getD i dI).seq⟩ 0 (by decide) (vI (p:Int)) (n_ l ps i) i (by omega) (by rw[tJ l ps i i (by omega),if_neg (by omega)];rfl);rw[fM] at this;rw[this,<-rU,<-My l ps i (by omega)]
   rw[e9] at mF;have F:Fr (ay v) wr (wr.setCell ⟨g,i*2,none⟩ (vI (p:Int))):=(Fr.refl (ay v) wr).setCell (p:=⟨g,i*2,none⟩) (.inl (by rw[wC.out];exact ay.mk.2 rfl)) _;have bM:=hid (show World.ownsRow (wr.setCell ⟨g,i*2,none⟩ (vI (p:Int))) 0 123 2 v N ((n_ l ps (i+1)).flatMap iH)/\Fr (ay v) w (wr.setCell ⟨g,i*2,none⟩ (vI (p:Int))) from⟨by rw[wC.out];exact mF,oX.trans F⟩);have acK:decide ((i:Int)<(n:Int))=true:=by have:=hNn.out;simp;omega
   have gi:i<n:=by have:=hNn.out;omega
   clear mF F aP oX hcell gG ku e9 e2 e3 u2 u3 u1 rU gU ma Bw;go_wp2;exact⟨⟨i+1,by omega,by simp,bM.out⟩,by simp[intOf] <;> omega⟩
  ·obtain rfl:i=N:=by omega
   have bM:Hid (Ya w v l T ps (.returned (.slice a' (n-i) c')) wr):=by
    refine⟨a',c',by rw[sP.out,tq.out],?_,by rw[tq.out];exact aP,oX⟩;have:=abq.out.fr oX cT;rw[sP.out,tq.out];exact this
   clear aP oX gU;go_wp2;go_ret;have h9:=bM.out;rw[wC.out] at h9;exact h9
