import Derived.Conc.MuLone
import Derived.Test.YtgijglafnlbdbaaGreatTmAU
set_option linter.all false
set_option maxHeartbeats 4000000
set_option maxRecDepth 8000
namespace Go.Proofs.YtgijglafnlbdbaaGreat
open RowKit Shelf Proofs.Tryz
open Go renaming World->aj,Value->aC,Calls->aL
abbrev Te:Go.Conc.Locks.MuLink:={ lock:=41,unlock:=42,ilock:=62,iunlock:=63,lockSlow:=114,unlockSlow:=117,disable:=110,enable:=112,acquire:=113,relMerge:=115,cas32:=111,add32:=116,tMutex:=66,tIMutex:=64,tPMutex:=169,tPIMutex:=205,tPI32:=207,tUP:=209,tNoCopy:=61,tU32:=62 }
theorem rT:Go.Conc.Locks.MuLib prog Te:=
 ⟨func41,func42,func62,func63,func110,func112,func113,func115,func111,func116,Tryz.underlying64,Tryz.runUnderlying64,Tryz.sizeOf64,Tryz.isAgg64,Tryz.zeroValue64,Tryz.underlying66,Tryz.runUnderlying66,Tryz.sizeOf66,Tryz.isAgg66,Tryz.zeroValue66,Tryz.underlying169,Tryz.runUnderlying169,Tryz.sizeOf169,Tryz.isAgg169,Tryz.zeroValue169,Tryz.underlying205,Tryz.runUnderlying205,Tryz.sizeOf205,Tryz.isAgg205,Tryz.zeroValue205,Tryz.underlying207,Tryz.runUnderlying207,Tryz.sizeOf207,Tryz.isAgg207,Tryz.zeroValue207,Tryz.underlying209,Tryz.runUnderlying209,Tryz.sizeOf209,Tryz.isAgg209,Tryz.zeroValue209,Tryz.underlying61,Tryz.runUnderlying61,Tryz.sizeOf61,Tryz.isAgg61,Tryz.zeroValue61,Tryz.underlying21,Tryz.runUnderlying21,Tryz.sizeOf21,Tryz.isAgg21,Tryz.zeroValue21,(by kernel_rfl)⟩
section
open Go.RowKit Go.Shelf Go.MuLone
def PL(w:aj)(mp:Nat)(cs:List aC)(n:Nat)(e:Ending)(w':aj):Prop:=e=.returned (.bool (decide ((2000:Int)<=(n:Int))))/\Fr (λk=>k=mp) w w'/\ag w' mp cs
theorem Nm{w:aj}{mp:Nat}{a0 a1 a2:aC}{ea:Option Addr}{en ec:Nat}(h:ag w mp [a0,a1,a2,.int .i32 0,.int .u32 0,.slice ea en ec]) :
 aL prog 20 #[.pointer (some ⟨mp,3,none⟩)] w (PL w mp [a0,a1,a2,.int .i32 0,.int .u32 0,.slice ea en ec] en):=by
 have c3:=(h 3 _ rfl).1;have f3:=(h 3 _ rfl).2;have h1:=h.set 3 (.int .i32 1) (by simp);have F1:=l_ w (mp) 3 (.int .i32 1);obtain⟨W1,iM⟩:=au (w.setCell ⟨mp,3,none⟩ (.int .i32 1));rw[iM] at h1 F1;have h2:=h1.set 3 (.int .i32 0) (by simp);have F2:=l_ W1 (mp) 3 (.int .i32 0);have d5:W1.cell? ⟨mp,5,none⟩=some (.slice ea en ec):=(h1 5 _ rfl).1;have d3:W1.cell? ⟨mp,3,none⟩=some (.int .i32 1):=(h1 3 _ rfl).1;have g3:=(h1 3 _ rfl).2;have hP:PL w mp [a0,a1,a2,.int .i32 0,.int .u32 0,.slice ea en ec] en (.returned (.bool (decide ((2000:Int)<=(en:Int))))) (W1.setCell ⟨mp,3,none⟩ (.int .i32 0)):=⟨rfl,F1.trans F2,h2⟩;replace hP:=af hP;clear F1 F2 h1 h2 h;go_enter_defers func20,ntmps20;go_wp2_with (go_at_call 41;refine(lock_free rT ⟨mp,3,none⟩ _ c3 f3).mono ?_;rintro e w' ⟨rfl,rfl⟩;rw[iM])
 refine leaves_cons (f:=42) (args:=#[.pointer (some ⟨mp,3,none⟩)]) (by simp) (by simp[go_sem]) ?_;refine(unlock_deferred rT ⟨mp,3,none⟩ .returning _ d3 g3).mono ?_;rintro e u' w'' ⟨rfl,rfl,rfl⟩;exact⟨_,results_tmp (t:=2) rfl _ _ _,hP.out⟩
def PM(w:aj)(mp:Nat)(a0 a1 a2 ev:aC)(n:Nat)(xs ent:List aC)(e:Ending)(w':aj):Prop:=
 e=.returned (.tuple #[])/\∃ (ev':aC) (n':Nat) (MD:List aC),ag w' mp [a0,a1,a2,.int .i32 0,.int .u32 0,ev']/\w'.ownsRow 0 76 6 ev' n' MD/\n'<=2000/\Fr (λk=>k=mp\/aB ev k) w w'/\(∀b,aB ev' b->aB ev b\/w.heap.size<=b)/\((n<2000/\n'=n+1/\MD=xs++ent)\/(¬n<2000/\n'=n/\MD=xs))
theorem Kp{w:aj}{mp:Nat}{a0 a1 a2 ev:aC}{n:Nat}{xs:List aC}(h:ag w mp [a0,a1,a2,.int .i32 0,.int .u32 0,ev])(hr:w.ownsRow 0 76 6 ev n xs)(hne:¬aB ev mp)(hn:n<=2000)(et eb en ek ee ex:Int) :
 aL prog 22 #[.pointer (some ⟨mp,3,none⟩),.agg #[vI et,vI eb,vI en,vI ek,vI ee,vI ex]] w (PM w mp a0 a1 a2 ev n xs (lG et eb en ek ee ex)):=by
 obtain⟨ea,ec,rfl⟩:=aG hr;have k0:Calm w (w.alloc (.cells #[vI et,vI eb,vI en,vI ek,vI ee,vI ex] 76)):=aq.alloc _;have oE:ag (w.alloc (.cells #[vI et,vI eb,vI en,vI ek,vI ee,vI ex] 76)) w.heap.size (lG et eb en ek ee ex):=ag.lI w [_,_,_,_,_,_] _ _ rfl;obtain⟨W0,gS⟩:=au (w.alloc (.cells #[vI et,vI eb,vI en,vI ek,vI ee,vI ex] 76));rw[gS] at k0 oE;have JG:mp<w.heap.size:=h.lt (by simp);have h0:=h.calm k0;have Gw:=az hr k0 (λ_ _=>id);have c3:=(h0 3 _ rfl).1;have f3:=(h0 3 _ rfl).2;have h1:=h0.set 3 (.int .i32 1) (by simp);have F1:=l_ W0 (mp) 3 (.int .i32 1);obtain⟨W1,iM⟩:=au (W0.setCell ⟨mp,3,none⟩ (.int .i32 1));rw[iM] at h1 F1;have jF:=az Gw F1 (λb hb e=>hne (e ▸ hb));have vX:=oE.fr F1 (by omega);have d5:W1.cell? ⟨mp,5,none⟩=some (.slice ea n ec):=(h1 5 _ rfl).1;have d3:W1.cell? ⟨mp,3,none⟩=some (.int .i32 1):=(h1 3 _ rfl).1;have g3:=(h1 3 _ rfl).2;have hf:Fr (λk=>k=mp\/aB (.slice ea n ec) k) w W1:=(Calm.any k0:Fr (λk=>k=mp\/aB (.slice ea n ec) k) _ _).trans (F1.mono (λ_ _ e=>.inl e))
 have sD:Hid (∀ (W:aj) (ev':aC) (n':Nat) (MD:List aC),ag W mp [a0,a1,a2,.int .i32 1,.int .u32 0,ev']->W.ownsRow 0 76 6 ev' n' MD->n'<=2000->Fr (λk=>k=mp\/aB (.slice ea n ec) k) w W->(∀b,aB ev' b->aB (.slice ea n ec) b\/w.heap.size<=b)->((n<2000/\n'=n+1/\MD=xs++lG et eb en ek ee ex)\/(¬n<2000/\n'=n/\MD=xs))->PM w mp a0 a1 a2 (.slice ea n ec) n xs (lG et eb en ek ee ex) (.returned (.tuple #[])) (W.setCell ⟨mp,3,none⟩ (.int .i32 0))):=λW ev' n' MD e1 e2 e3 e4 e5 e6=>by
  have F2:=l_ W (mp) 3 (.int .i32 0);refine⟨rfl,ev',n',MD,e1.set 3 (.int .i32 0) (by simp),az e2 F2 (λb hb e=>?_),e3,e4.trans (F2.mono (λ_ _ e=>.inl e)),e5,e6⟩;subst e;rcases e5 b hb with e|e
  ·exact hne e
  ·omega
 by_cases aZ:n<2000
 ·have gJ:decide ((n:Int)<2000)=true:=by simp;omega
  replace aZ:=af aZ;replace hn:=af hn;replace hne:=af hne;replace JG:=af JG;have ux:=af hr;have nL:Hid (w.heap.size<=W1.heap.size):=hf.size;replace hf:=af hf;clear h h0 hr Gw oE;go_enter_defers func22,ntmps22;go_wp2_with (go_at_call 41;refine(lock_free rT ⟨mp,3,none⟩ _ c3 f3).mono ?_;rintro e w' ⟨rfl,rfl⟩;rw[iM])
  have kd:Calm W1 W1.drew:=aq.drew;have x5:=kd.cellAt d5 id;have OP:=vX.calm kd;obtain⟨g0,g1,g2,VV,g4,g5⟩:=ag.t_ OP;refine wp_region_noPanic ?_;refine a_ 6 8 (λw'=>w'.cell? ⟨mp,5,none⟩=some (.slice ea n ec)/\ag w' w.heap.size (lG et eb en ek ee ex)) (by kernel_rfl) (by kernel_rfl) ⟨x5,OP⟩ ?_;refine ae (.pointer (some ⟨mp,3,none⟩)) rfl (λw' hw'=>?_) ai ?_
  ·simp[go_sem]
  refine ae (.pointer (some ⟨mp,3,none⟩)) rfl (λw' hw'=>?_) ai ?_
  ·simp[go_sem]
  refine ae (.pointer (some ⟨mp,3,none⟩)) rfl (λw' hw'=>?_) ai ?_
  ·simp[go_sem]
  refine ae (.pointer (some ⟨mp,5,none⟩)) rfl (λw' hw'=>?_) ai ?_
  ·simp[go_sem]
  refine ae (.slice ea n ec) rfl (λw' hw'=>?_) ai ?_
  ·have e1:=hw'.1;simp[go_sem,e1]
  refine ae (.agg #[vI et,vI eb,vI en,vI ek,vI ee,vI ex]) rfl (λw' hw'=>?_) ai ?_
  ·have o:=hw'.2;simp only[lG] at o;obtain⟨z0,z1,z2,z3,z4,z5⟩:=ag.t_ o;simp[go_sem,z0,z1,z2,z3,z4,z5]
  simp only[bG];have kA:Calm W1 (W1.drew.alloc (.cells #[vI et,vI eb,vI en,vI ek,vI ee,vI ex] 76)):=kd.alloc _;have xA:=kA.cellAt d5 id;have oA:=vX.calm kA;have hrA:=az jF kA (λ_ _=>id);have hS:World.cell? (W1.drew.alloc (.cells #[vI et,vI eb,vI en,vI ek,vI ee,vI ex] 76)) ⟨mp,5,none⟩=some (.slice ea n ec)/\ag (W1.drew.alloc (.cells #[vI et,vI eb,vI en,vI ek,vI ee,vI ex] 76)) w.heap.size (lG et eb en ek ee ex):=⟨xA,oA⟩;have hbE:¬aB (.slice ea n ec) w.heap.size:=λe=>by have:=ux.out.lt _ e;omega
  clear g0 g1 g2 VV g4 g5 x5 xA oA;refine bH rfl ?_;unfold Oper.wp;go_simp
  first|refine⟨hS,?_⟩|skip
  refine bH rfl ?_;refine Eq.mp (if_pos (show Region.wanted _ (yielded _ _)=true from rfl)) (gu (ops:=#[]) (E:=True) giE rfl (.tmp 21) (.tmp 23) rfl (.slice ea n ec) n xs hrA rfl (lG et eb en ek ee ex) rfl (by simp[lG,Value.oneCell']) ⟨W1.heap.size,0,none⟩ 1 rfl (λj u hj=>by rw[cT];simp only[fk];exact gW W1.drew _ _ _ hj) (by have:=aZ.out;omega) ?_);intro g c w3 fu Ro Da;have h3:=(h1.calm kA).fr Ro hne.out;have DG:=(vX.calm kA).fr Ro hbE;have x53:=(h3 5 _ rfl).1;have f53:=(h3 5 _ rfl).2;have h4:=h3.set 5 (.slice (some ⟨g,0,none⟩) (n+1) c) (by simp);have F4:=l_ w3 (mp) 5 (.slice (some ⟨g,0,none⟩) (n+1) c)
  have hg4:∀b,aB (.slice (some ⟨g,0,none⟩) (n+1) c) b->aB (.slice ea n ec) b\/w.heap.size<=b:=λb hb=>by
   rw[aB.fg hb];rcases Da with e|e
   ·exact .inl e
   ·right;rw[e];exact fH nL.out kA.size
  have abL:mp<w.heap.size:=JG.out
  have N8:=az fu F4 (λb hb e=>by
   subst e;rcases hg4 b hb with e2|e2
   ·exact hne.out e2
   ·omega)
  have WI:Fr (λk=>k=mp\/aB (.slice ea n ec) k) w (w3.setCell ⟨mp,5,none⟩ (.slice (some ⟨g,0,none⟩) (n+1) c)):=((hf.out.trans (Calm.any kA)).trans (Ro.mono (λb _ e=>.inr e))).trans (F4.mono (λb _ e=>.inl e));have hP:=af (sD.out _ _ _ _ h4 N8 (by have:=aZ.out;omega) WI hg4 (.inl ⟨aZ.out,rfl,rfl⟩));have d34:=(h4 3 _ rfl).1;have g34:=(h4 3 _ rfl).2;refine⟨⟨x53,DG⟩,?_⟩;simp only[bW];clear h3 h4 N8 WI sD F4 hS hrA DG fu Ro Da hg4 h1 jF d5 d3 F1 vX OP;go_wp2;refine NoPanic.normal ?_;go_wp2;refine leaves_cons (f:=42) (args:=#[.pointer (some ⟨mp,3,none⟩)]) (by simp) (by simp[go_sem]) ?_;refine(unlock_deferred rT ⟨mp,3,none⟩ .returning _ d34 g34).mono ?_;rintro e u' w'' ⟨rfl,rfl,rfl⟩;exact⟨_,results_none rfl _ _ _,hP.out⟩
 ·clear F1 h0 Gw oE vX k0;have hP:=af (sD.out W1 (.slice ea n ec) n xs h1 jF hn hf (λ_ h=>.inl h) (.inr ⟨aZ,rfl,rfl⟩));clear sD h1 jF hf h hr hn JG hne;have gJ:decide ((n:Int)<2000)=false:=by simp;omega
  clear aZ;go_enter_defers func22,ntmps22;go_wp2_with (go_at_call 41;refine(lock_free rT ⟨mp,3,none⟩ _ c3 f3).mono ?_;rintro e w' ⟨rfl,rfl⟩;rw[iM])
  refine leaves_cons (f:=42) (args:=#[.pointer (some ⟨mp,3,none⟩)]) (by simp) (by simp[go_sem]) ?_;refine(unlock_deferred rT ⟨mp,3,none⟩ .returning _ d3 g3).mono ?_;rintro e u' w'' ⟨rfl,rfl,rfl⟩;exact⟨_,results_none rfl _ _ _,hP.out⟩
end
section
structure Ej(w:aj)(τ:Nat->Nat)(w':aj)(aX:Nat->Nat):Prop where
 fr:Fr (λk=>τ k<500) w w'
 tg:∀b,b<w.heap.size->500<=τ b->aX b=τ b
theorem aF.w{w w':aj}{τ aX:Nat->Nat}(h:aF w τ w' aX):Ej w τ w' aX:=⟨h.fr,λb hb _=>h.tg b hb⟩
structure eQ(w:aj)(τ:Nat->Nat)(w':aj)(aX:Nat->Nat):Prop where
 fr:Fr (λk=>τ k<603) w w'
 tg:∀b,b<w.heap.size->603<=τ b->aX b=τ b
theorem Ej.m{w w':aj}{τ aX:Nat->Nat}(h:Ej w τ w' aX):eQ w τ w' aX:=⟨h.fr.mono λk _ e=>by omega,λb hb e=>h.tg b hb (by omega)⟩
theorem eQ.calm{w w':aj}(τ:Nat->Nat)(c:Calm w w'):eQ w τ w' τ:=⟨c.any,λ_ _ _=>rfl⟩
theorem eQ.trans{w w1 w2:aj}{τ gi eY:Nat->Nat}(h:eQ w τ w1 gi)(k:eQ w1 gi w2 eY):eQ w τ w2 eY:=
 ⟨h.fr.join k.fr (λj hj e=>by
  by_cases e2:603<=τ j
  ·rw[h.tg j hj e2] at e;omega
  ·show τ j<603;omega),λb hb e=>by
  have h1:=h.tg b hb e
  rw[k.tg b (Nat.lt_of_lt_of_le hb h.fr.size) (by omega),h1]⟩
def d0:bT:=⟨0,0,[],[],false⟩
structure QX(w:aj)(τ:Nat->Nat)(mp sp:Nat)(Q:List (List (List Dd)))(tv hv:aC)(ev:Eh)(X:List bT):Prop where
 c:ag w mp [pV sp,tv,hv,.int .i32 0,.int .u32 0,ev]
 h:w.ownsRow 0 31 15 hv X.length (X.flatMap bq)
 e:w.ownsRow 0 76 6 ev ev.H.length (ev.H.flatMap En.c)/\ev.H.length<=2000
 p:dJ (λb=>τ b=603) w tv Q
 t0:τ mp=600
 t1:∀b,aB hv b->τ b=601
 t2:∀b,aB ev b->τ b=602
 n:X.length=Q.length
 ok:∀t,t<X.length->kG (Q.getD t []).length (X.getD t d0)
 pk:tL Q
theorem QX.keep{w w':aj}{τ aX:Nat->Nat}{mp sp:Nat}{Q:List (List (List Dd))}{tv hv:aC}{ev:Eh}{X:List bT}(h:QX w τ mp sp Q tv hv ev X)(k:Ej w τ w' aX):QX w' aX mp sp Q tv hv ev X:=by
 have JG:mp<w.heap.size:=h.c.lt (by simp);obtain⟨he,hn⟩:=h.e;refine⟨h.c.fr k.fr (by rw[h.t0];omega),az h.h k.fr (λb hb e=>by rw[h.t1 b hb] at e;omega),⟨az he k.fr (λb hb e=>by rw[h.t2 b hb] at e;omega),hn⟩,?_,?_,?_,?_,h.n,h.ok,h.pk⟩
 ·exact(h.p.mono (T':=λb=>τ b=603/\b<w.heap.size) (λb hb e=>⟨e,hb⟩)).fr k.fr (λb e e2=>by rw[e.1] at e2;omega) |>.mono (λb _ e=>by rw[k.tg b e.2 (by rw[e.1];omega)];exact e.1)
 ·rw[k.tg mp JG (by rw[h.t0];omega)];exact h.t0
 ·exact λb hb=>(k.tg b (World.ownsRow.lt h.h b hb).2 (by rw[h.t1 b hb];omega)).trans (h.t1 b hb)
 ·exact λb hb=>(k.tg b (World.ownsRow.lt he b hb).2 (by rw[h.t2 b hb];omega)).trans (h.t2 b hb)
theorem QX.calm{w w':aj}{τ:Nat->Nat}{mp sp:Nat}{Q:List (List (List Dd))}{tv hv:aC}{ev:Eh}{X:List bT}(h:QX w τ mp sp Q tv hv ev X)(c:Calm w w'):QX w' τ mp sp Q tv hv ev X:=h.keep (aF.calm τ c).w
structure Mc(w:aj)(τ:Nat->Nat)(s mp:Nat)(S:aY)(Q:List (List (List Dd)))(tv hv:aC)(ev:Eh)(X:List bT):Prop where
 st:St w τ s S
 r:QX w τ mp S.sp Q tv hv ev X
variable {w:aj}{τ:Nat->Nat}{s mp:Nat}{S:aY}{Q:List (List (List Dd))}{tv hv:aC}{ev:Eh}{X:List bT}
theorem Mc.calm{w':aj}(h:Mc w τ s mp S Q tv hv ev X)(c:Calm w w'):Mc w' τ s mp S Q tv hv ev X:=⟨h.st.calm c,h.r.calm c⟩
theorem Mc.fresh(h:Mc w τ s mp S Q tv hv ev X):∃τ0,Mc w τ0 s mp S Q tv hv ev X/\nV w τ τ0/\∀k,w.heap.size<=k->τ0 k=1000:=by
 obtain⟨τ0,h1,h2,h3⟩:=h.st.fresh;exact⟨τ0,⟨h1,h.r.keep ⟨aq,λb hb _=>h2 b hb⟩⟩,h2,h3⟩
theorem DA(h:Mc w τ s mp S Q tv hv ev X){a:Nat}(ha:a<=131072):aL prog 19 #[pV mp,vI (a:Int)] w λe w'=>e=.returned (vI (D6 (vw S) a:Nat))/\Calm w w':=by
 have hs:=uV h.st ha;have y0:=(h.r.c 0 _ rfl).1;clear h
 by_cases h0:a=0
 ·subst h0;clear hs;go_in;go_wp2;go_ret;exact⟨by simp[D6],aq⟩
 ·have e0:((a:Int)==0)=false:=by simp;omega
  have e1:D6 (vw S) a=sr S.D.A a:=if_neg h0;rw[e1];replace h0:=af h0;replace e1:=af e1;go_in;go_wp2_with fail
  refine hs.mono ?_;rintro e w' ⟨⟨x,rfl⟩,c⟩;clear hs;go_wp2;go_ret;exact⟨rfl,c⟩
end
structure Vl(σ:PS)(M:Nat->FM)(t:Nat)(σ':PS):Prop where
 pw:PW σ'
 gm:GM σ' M
 lv:(σ'.tx t).live=true
 nw:σ'.now=σ.now
 ot:∀u,u≠t->σ'.tx u=σ.tx u
 sk:qE σ σ'
 oi:∀u,u≠t->∀R V Q aJ,TI σ M u R V Q aJ->TI σ' M u R V Q aJ
theorem Vl.rd{σ:PS}{M:Nat->FM}{t:Nat}(hw:PW σ)(hg:GM σ M)(hl:(σ.tx t).live=true)(l:aE):Vl σ M t (σ.aO t { σ.tx t with reads:=l }):=
 ⟨hw.rd hl l,hg.rd l,by rw[show(σ.aO t { σ.tx t with reads:=l }).tx t = { σ.tx t with reads:=l } from aV _ _ _];exact hl,rfl,λu hu=>bN _ _ hu,λa o h=>⟨o,h,rfl⟩,λu hu R V Q aJ hi=>hi.frame hw hw.z (bN _ _ hu) (λa o h=>⟨o,h,rfl⟩) (λ_ _=>rfl) rfl⟩
theorem Co.law{σ σ':PS}{M:Nat->FM}{t:Nat}(h:Co σ t σ')(hw:PW σ)(hg:GM σ M)(hl:(σ.tx t).live=true):Vl σ M t σ':=by
 cases h with
 | refl=>exact⟨hw,hg,hl,rfl,λ_ _=>rfl,.refl σ,λ_ _ _ _ _ _ h=>h⟩
 | rd l uu=>exact .rd hw hg hl l
 | hold l uu a o v ho hv hs=>
   have p1:=Vl.rd hw hg hl l;have et:=aV σ t { σ.tx t with reads:=l };obtain⟨dE,e1⟩:∃dE,σ.aO t { σ.tx t with reads:=l } = dE:=⟨_,rfl⟩;rw[e1] at p1 et;have GV:dE.ob=σ.ob:=by rw[<-e1];rfl
   have eS:((σ.cN a { o with snd:=2*t+1 }).aO t { σ.tx t with reads:=l,holds:=(σ.tx t).holds++[⟨a,v⟩] })=((dE.cN a { o with snd:=2*t+1 }).aO t { σ.tx t with reads:=l,holds:=(σ.tx t).holds++[⟨a,v⟩] }):=by
    rw[<-e1];unfold PS.cN PS.aO;simp only[PS.mk.injEq,true_and];funext u
    by_cases e:u=t <;> simp[e]
   rw[eS];clear eS;have xe:dE.ob a=some o:=by rw[GV];exact ho
   have hn:∀y∈(dE.tx t).holds,y.at_≠a:=λy hy e=>by
    obtain⟨_,q,h1,h2⟩:=p1.pw.hs t y hy;rw[e,xe] at h1;injection h1 with h1;subst h1;omega
   have hold:∀y∈(σ.tx t).holds++[⟨a,v⟩],y∈(dE.tx t).holds\/y=⟨a,v⟩:=λy hy=>by
    rw[et];rcases mD.1 hy with h1|h1
    ·exact .inl h1
    ·exact .inr (nu.1 h1)
   have tr:tQ dE t a o { o with snd:=2*t+1 } { σ.tx t with reads:=l,holds:=(σ.tx t).holds++[⟨a,v⟩] }:=by
    refine⟨xe,.inl ⟨v,hv⟩,p1.lv,rfl,rfl,rfl,(p1.pw.ln a o xe).1,(p1.pw.ln a o xe).2,rfl,p1.pw.ps a o xe,hl,by rw[et],by rw[et],λy hy=>?_,λy hy=>?_,⟨⟨a,v⟩,by simp,rfl⟩,λy hy y' xh e e'=>?_,⟨[],by rw[et];simp,λu hu=>by cases hu⟩⟩
    ·rw[et] at hy;exact List.mem_append_left _ hy
    ·rcases hold y hy with h1|h1
     ·exact .inl h1
     ·exact .inr (by rw[h1])
    ·rcases hold y hy with h1|h1
     ·exact absurd e (hn y h1)
     ·rcases hold y' xh with h2|h2
      ·exact absurd e' (hn y' h2)
      ·rw[h1,h2]
   have Uy:=p1.gm.dN p1.pw tr λy hy e=>by
    rcases hold y hy with h1|h1
    ·exact absurd e (hn y h1)
    ·rw[h1];obtain⟨g1,g2,g3⟩:=p1.gm.un _ o v xe hv
     have XV:∀u∈(σ.tx t).aQ,u.at_≠a:=λu hu e=>by
      obtain⟨k,k1,k2,_⟩:=p1.pw.us t u (by rw[et];exact hu);exact hn k k1 (k2.trans e)
     refine⟨by show(0:Int)<=(v:Nat);omega,by show((v:Nat):Int)<=_;rw[et];show((v:Nat):Int)<=((σ.tx t).start:Int);omega,λh5=>g2 (by have h5:((v:Nat):Int)=0:=h5;omega),λh5 u h6 h7=>?_⟩;have:=kZ (o:={ o with snd:=2*t+1 }) (σ.tx t).aQ [] XV;rw[List.nil_append] at this;show M u o.ser=some (dE.mo (pj (σ.tx t).aQ a { o with snd:=2*t+1 }));rw[this];have h6:((v:Nat):Int)<=u:=h6;exact g3 (by have h5:(1:Int)<=(v:Nat):=h5;omega) u (by omega) h7
   exact⟨p1.pw.dN tr,Uy,by rw[aV];exact hl,p1.nw,λu hu=>(bN _ _ hu).trans (p1.ot u hu),λb q hq=>tr.r_ b q (by rw[GV];exact hq),λu hu R V Q aJ hi=>tr.GW p1.pw hu (p1.oi u hu R V Q aJ hi)⟩
 | junk a o no a0 Bj lp ln hp hs=>
   have ly:jP σ t a o (σ.tx t):=⟨no,a0,hl,Bj,lp,ln,λp hq=>.inl (hp p hq),hl,rfl,rfl,rfl,.inr ⟨hs,rfl⟩⟩;exact⟨hw.lay ly,hg.lay hw ly,by rw[aV];exact hl,rfl,λu hu=>bN _ _ hu,ly.r_,λu hu R V Q aJ hi=>ly.GW hw hu hi⟩
inductive MS (Q:Pg) (aW:Nat) (σ:PS) (t:Nat) (x:bT):PS->bT->Int->Int->Int->Prop
 | beg (hb:x.b<(Q.getD t []).length) (hl:x.live=false) (hc:fZ σ Q.length+1+σ.now<=aW):MS Q aW σ t x (σ.aO t ((σ.tx t).beg σ.now)) { x with live:=true,p:=0,V:=x.R } 1 0 (σ.now:Nat)
 | no (hb:x.b<(Q.getD t []).length) (hl:x.live=false):MS Q aW σ t x σ { x with b:=((Q.getD t []).length:Nat) } 1 120 0
 | cm0 (σ':PS) (hl:x.live=true) (hp:x.p=((bU Q t x.b).length:Nat)) (hh:(σ.tx t).holds=[]) (he:sj σ t σ') (hn:σ'.now=σ.now):MS Q aW σ t x σ' { x with live:=false,p:=0,b:=x.b+1,V:=x.R } 3 0 0
 | cm (σ':PS) (hl:x.live=true) (hp:x.p=((bU Q t x.b).length:Nat)) (hc:YL σ t σ'):MS Q aW σ t x σ' { x with live:=false,p:=0,b:=x.b+1,V:=x.R } 3 0 (σ.now+1:Nat)
 | cmx (σ':PS) (hl:x.live=true) (hp:x.p=((bU Q t x.b).length:Nat)) (ha:PD σ t σ'):MS Q aW σ t x σ' x.back 3 141 0
 | dd (σ':PS) (R':aE) (v e:Int) (hl:x.live=true) (hp:x.p<((bU Q t x.b).length:Nat)) (hd:DN σ t ((bU Q t x.b).getD x.p.toNat dD) x.R σ' R' v e):MS Q aW σ t x σ' { x with p:=x.p+1,R:=R' } 2 e v
 | ft (dE σ':PS) (e:Int) (hl:x.live=true) (hp:x.p<((bU Q t x.b).length:Nat)) (hm:Co σ t dE) (ha:PD dE t σ') (he:e=141\/e=100\/e=130):MS Q aW σ t x σ' (x.cV e) 2 e 0
 | ab (σ':PS) (hl:x.live=true) (hp:x.p<((bU Q t x.b).length:Nat)) (hk:((bU Q t x.b).getD x.p.toNat dD).k=14) (ha:PD σ t σ'):MS Q aW σ t x σ' { x.back with b:=x.b+1 } 2 0 0
structure qG(Q:Pg)(M:Nat->FM)(now:Nat)(RB:List Int)(x:Tr)(i:Nat):Prop where
 th:0<=x.th/\x.th<Q.length
 bl:0<=x.bl/\x.bl<(Q.getD x.th.toNat []).length
 st:0<=x.st/\x.st<=now
 se:x.se=0
 fr:0<=x.fr/\x.fr<i
 al:x.aJ.length<=(bU Q x.th x.bl).length/\x.gF.length=x.aJ.length
 en:(x.en=0/\x.dr = -1/\x.bt=0/\(∀a∈x.aJ,n_ a.e=false)/\∃y,dV (bU Q x.th x.bl) x.aJ 0 (M x.st.toNat,RB)=some y) \/
  (x.en=2/\x.bt=0/\((∀a∈x.aJ,n_ a.e=false)/\∃y,dV (bU Q x.th x.bl) x.aJ 0 (M x.st.toNat,RB)=some y)\/x.en=2/\x.bt=0/\∃l a,x.aJ=l++[a]/\n_ a.e=true/\(∀a∈l,n_ a.e=false)/\∃y,dV (bU Q x.th x.bl) l 0 (M x.st.toNat,RB)=some y) \/
  (x.en=1/\0<=x.bt/\x.bt<=now/\(∀a∈x.aJ,n_ a.e=false)/\(∃y,dV (bU Q x.th x.bl) x.aJ 0 (M x.st.toNat,RB)=some y)/\(1<=x.bt->x.dr<i/\-1<x.dr/\∃R,dV (bU Q x.th x.bl) x.aJ 0 (M (x.bt-1).toNat,RB)=some (M x.bt.toNat,R)))
theorem qG.mono{Q:Pg}{M M':Nat->FM}{now kT:Nat}{RB:List Int}{x:Tr}{i i':Nat}(h:qG Q M now RB x i)(hm:∀u,u<=now->M' u=M u)(hn:now<=kT)(hi:i<=i'):qG Q M' kT RB x i':=by
 have hs:=h.st;have e:M' x.st.toNat=M x.st.toNat:=hm _ (by omega);refine⟨h.th,h.bl,⟨hs.1,by omega⟩,h.se,⟨h.fr.1,by have:=h.fr.2;omega⟩,h.al,?_⟩;rw[e];rcases h.en with h1|h1|⟨h1,h2,h3,h4,h5,h6⟩
 ·exact .inl h1
 ·exact .inr (.inl h1)
 ·refine .inr (.inr ⟨h1,h2,by omega,h4,h5,λhv=>?_⟩);obtain⟨g1,g2,g3⟩:=h6 hv;rw[hm (x.bt-1).toNat (by omega),hm x.bt.toNat (by omega)];exact⟨by omega,g2,g3⟩
def L7(Q:Pg)(σ:PS)(M:Nat->FM)(t:Nat)(x:bT)(s:tN)(tr:List Tr):Prop:=
 x.R.length=6/\x.V.length=6/\s.block=x.b/\x.live=(σ.tx t).live/\0<=x.b/\x.b<=(Q.getD t []).length /\
 ((x.live=false/\s.tr<0/\(∀p∈x.R,KM σ (M σ.now) p)/\gA Q tr t=x.R.map (λp=>(σ.fh p:Int))/\∀j,j<tr.length->(tr.getD j aK).th=(t:Int)->(tr.getD j aK).en≠0) \/
  (x.live=true/\∃k:Nat,s.tr=k/\k<tr.length/\x.b<(Q.getD t []).length/\(tr.getD k aK).th=(t:Int)/\(tr.getD k aK).bl=x.b/\(tr.getD k aK).st=((σ.tx t).start:Int)/\(tr.getD k aK).en=0/\x.p=((tr.getD k aK).aJ.length:Nat)/\(∀j,j<tr.length->(tr.getD j aK).th=(t:Int)->j≠k->j<k/\(tr.getD j aK).en≠0)/\gA Q (tr.take k) t=x.V.map (λp=>(σ.fh p:Int))/\gA Q tr t=x.V.map (λp=>(σ.fh p:Int))/\TI σ M t x.R x.V (bU Q t x.b) (tr.getD k aK).aJ))
structure CI(Q:Pg)(aW:Nat)(σ:PS)(M:Nat->FM)(X:List bT)(r:Rd)(i:Nat)(wr:Nat->Nat):Prop where
 pw:PW σ
 gm:GM σ M
 m0:∀s,M 0 s=none
 nX:X.length=Q.length
 nr:r.sp.length=Q.length
 cm:r.bY=0
 cn:fZ σ Q.length+σ.now<=aW
 th:∀t,t<Q.length->L7 Q σ M t (X.getD t d0) (r.sp.getD t cJ) r.tr
 tr:∀k,k<r.tr.length->qG Q M σ.now (gA Q (r.tr.take k) (r.tr.getD k aK).th.toNat) (r.tr.getD k aK) i
 w1:∀v,1<=v->v<=σ.now->wr v<r.tr.length/\(r.tr.getD (wr v) aK).en=1/\(r.tr.getD (wr v) aK).bt=(v:Nat)
 w2:∀k,k<r.tr.length->lh (r.tr.getD k aK)=true->wr (r.tr.getD k aK).bt.toNat=k
 w3:∀v v',1<=v->v<v'->v'<=σ.now->(r.tr.getD (wr v) aK).dr<(r.tr.getD (wr v') aK).dr
 c1:∀k,k<r.tr.length->(cw r.tr (r.tr.getD k aK).fr:Int)=(r.tr.getD k aK).st
 c2:cw r.tr i=σ.now
section
structure Q1(Q:Pg)(u:Nat)(tr MC:List Tr):Prop where
 len:tr.length<=MC.length
 eq:∀j,j<tr.length->(tr.getD j aK).th=(u:Int)->MC.getD j aK=tr.getD j aK
 th:∀j,j<tr.length->(MC.getD j aK).th=(tr.getD j aK).th
 new:∀j,tr.length<=j->j<MC.length->(MC.getD j aK).th≠(u:Int)
 rg:gA Q MC u=gA Q tr u
 rt:∀j,j<tr.length->gA Q (MC.take j) u=gA Q (tr.take j) u
theorem Q1.snoc(Q:Pg){u:Nat}{tr:List Tr}{x:Tr}(hx:x.th≠(u:Int)):Q1 Q u tr (tr++[x]):=by
 refine⟨by simp,λj hj _=>P1 hj _,λj hj=>by rw[P1 hj],λj h1 h2=>?_,?_,λj hj=>?_⟩
 ·have:j=tr.length:=by simp at h2;omega
  subst this;rw[Rw];exact hx
 ·rw[ki,if_neg (λe=>hx e.1)]
 ·rw[List.take_append_of_le_length (by omega)]
theorem wU{α:Type}(l:List α)(k j:Nat)(x d:α)(hk:k<l.length):(l.set k x).getD j d=if j=k then x else l.getD j d:=by
 by_cases e:j=k
 ·subst e;rw[if_pos rfl,ks hk]
 ·rw[if_neg e,rH e]
theorem Q1.set(Q:Pg){u t k:Nat}{tr:List Tr}{x:Tr}(hk:k<tr.length)(h1:(tr.getD k aK).th=(t:Int))(h2:x.th=(t:Int))(hu:u≠t):Q1 Q u tr (tr.set k x):=by
 refine⟨by simp,λj hj e=>?_,λj hj=>?_,λj h3 h4=>by simp at h4;omega,Fu h1 h2 hu,λj hj=>?_⟩
 ·rw[wU _ _ _ _ _ hk,if_neg];intro e2;subst e2;rw[h1] at e;omega
 ·rw[wU _ _ _ _ _ hk];split
  ·rename_i e;rw[e,h1,h2]
  ·rfl
 ·rw[List.take_set]
  by_cases e:k<j
  ·refine Fu ?_ h2 hu;rw[aS,List.getElem?_take,if_pos e,<-aS];exact h1
  ·rw[List.set_eq_of_length_le (by rw[List.length_take];omega)]
section
variable {Q:Pg}{σ σ':PS}{M M':Nat->FM}{t u:Nat}{tr MC:List Tr}{X:List bT}{r:Rd}{i aW:Nat}{wr:Nat->Nat}
theorem L7.GW{x:bT}{s:tN}(h:L7 Q σ M u x s tr)(hw:PW σ)(hz:σ'.ob 0=none)(sk:qE σ σ')(ot:σ'.tx u=σ.tx u)(oi:(σ.tx u).live=true->∀R V Q aJ,TI σ M u R V Q aJ->TI σ' M' u R V Q aJ)(hm:∀s,M σ.now s≠none->M' σ'.now s≠none)(tc:Q1 Q u tr MC):L7 Q σ' M' u x s MC:=by
 obtain⟨h1,h2,h3,h4,h5,h6,h7⟩:=h;refine⟨h1,h2,h3,by rw[ot];exact h4,h5,h6,?_⟩;rcases h7 with ⟨g1,g2,g3,g4,g5⟩|⟨g1,k,g2,g3,g4,g5,g6,g7,g8,g9,yt,ui,P0,wS⟩
 ·left;refine⟨g1,g2,λp hp=>?_,?_,λj hj e=>?_⟩
  ·rcases sk.km (g3 p hp) with e|⟨o,e1,e2⟩
   ·exact .inl e
   ·exact .inr ⟨o,e1,hm _ e2⟩
  ·rw[tc.rg,g4,sk.map hw.z hz (λp hp=>(g3 p hp).here)]
  ·by_cases e2:j<tr.length
   ·have e3:(tr.getD j aK).th=(u:Int):=by rw[<-tc.th j e2];exact e
    rw[tc.eq j e2 e3];exact g5 j e2 e3
   ·exact absurd e (tc.new j (by omega) hj)
 ·right;have e:=tc.eq k g3 g5;refine⟨g1,k,g2,Nat.lt_of_lt_of_le g3 tc.len,g4,by rw[e];exact g5,by rw[e];exact g6,by rw[e,ot];exact g7,by rw[e];exact g8,by rw[e];exact g9,λj iJ Mj hj=>?_,?_,?_,by rw[e];exact oi (h4 ▸ g1) _ _ _ _ wS⟩
  ·by_cases e2:j<tr.length
   ·have e3:(tr.getD j aK).th=(u:Int):=by rw[<-tc.th j e2];exact Mj
    rw[tc.eq j e2 e3];exact yt j e2 e3 hj
   ·exact absurd Mj (tc.new j (by omega) iJ)
  ·rw[tc.rt k g3,ui,sk.map hw.z hz (λp hp=>(wS.kv p hp).here)]
  ·rw[tc.rg,P0,sk.map hw.z hz (λp hp=>(wS.kv p hp).here)]
theorem CI.YH(h:CI Q aW σ M X r i wr){k:Nat}(hk:k<r.tr.length)(hw:lh (r.tr.getD k aK)=true):(r.tr.getD k aK).dr<i:=by
 unfold lh at hw;have hw:(r.tr.getD k aK).en=1/\1<=(r.tr.getD k aK).bt:=by simpa using hw
 rcases(h.tr k hk).en with e|e|e
 ·have:=e.1;omega
 ·rcases e with e|e <;> have:=e.1 <;> omega
 ·exact(e.2.2.2.2.2 hw.2).1
theorem Ev{l:List Tr}{i:Int}(h:∀k,k<l.length->lh (l.getD k aK)=true->(l.getD k aK).dr<i){f:Int}(hf:i<=f):cw l f=cw l i:=by
 unfold cw;refine List.countP_congr λx hx=>?_;obtain⟨k,hk,rfl⟩:=List.getElem_of_mem hx;have:=h k hk;rw[aS,jI hk] at this;simp only[Option.getD_some] at this;simp only[wj,decide_eq_true_eq];constructor
 ·rintro ⟨h1,_⟩;exact⟨h1,this h1⟩
 ·rintro ⟨h1,h2⟩;exact⟨h1,by omega⟩
theorem Ov{n:Nat}(h:∀u,u<n->(σ'.tx u).live=(σ.tx u).live):fZ σ' n=fZ σ n:=by
 unfold fZ;refine List.countP_congr λu hu=>?_;rw[h u (List.mem_range.1 hu)]
theorem jZ:∀ (n:Nat),t<n->(∀u,u≠t->(σ'.tx u).live=(σ.tx u).live)->fZ σ' n+(if (σ.tx t).live then 1 else 0)=fZ σ n+(if (σ'.tx t).live then 1 else 0)
 | 0,h,_=>by omega
 | n+1,h,ho=>by
   have e:∀σ:PS,fZ σ (n+1)=fZ σ n+(if (σ.tx n).live then 1 else 0):=λσ=>by
    unfold fZ;rw[List.range_succ,List.countP_append,List.countP_cons,List.countP_nil];simp
   rw[e,e]
   by_cases hn:t=n
   ·subst hn;rw[Ov (n:=t) (λu hu=>ho u (by omega))];omega
   ·have:=jZ n (by omega) ho;rw[ho n (Ne.symm hn)];omega
theorem CI.TK(h:CI Q aW σ M X r i wr)(ht:t<Q.length){k:Nat}{x':Tr}{th':bT}{G9:List tN}(hk:k<r.tr.length)(sJ:(r.tr.getD k aK).th=(t:Int))(HT:(r.tr.getD k aK).en=0)(aZ:∀j,k<j->j<r.tr.length->(r.tr.getD j aK).th≠(t:Int))
 (e1:x'.th=(t:Int)) (e2:x'.fr=(r.tr.getD k aK).fr) (e3:x'.st=(r.tr.getD k aK).st) (ew:lh x'=false)
 (Cz:PW σ') (P2:GM σ' M) (nw:σ'.now=σ.now) (sk:qE σ σ') (ot:∀u,u≠t->σ'.tx u=σ.tx u) (oi:∀u,u≠t->∀R V Q aJ,TI σ M u R V Q aJ->TI σ' M u R V Q aJ)
 (hl:(σ.tx t).live=true) (sI:G9.length=r.sp.length/\∀u,u≠t->G9.getD u cJ=r.sp.getD u cJ)
 (UI:qG Q M σ.now (gA Q (r.tr.take k) t) x' (i+1)) (JX:L7 Q σ' M t th' (G9.getD t cJ) (r.tr.set k x')):CI Q aW σ' M (X.set t th') ⟨G9,r.tr.set k x',r.bY⟩ (i+1) wr:=by
 have UJ:((t:Nat):Int).toNat=t:=Int.toNat_natCast t;have Ib:lh (r.tr.getD k aK)=false:=by unfold lh;rw[HT];rfl
 have gs:=λj=>wU r.tr k j x' aK hk;have VH:∀f,cw (r.tr.set k x') f=cw r.tr f:=λf=>by rw[CN hk f Ib,ew];simp
 have wk:∀v,1<=v->v<=σ.now->wr v≠k:=λv h1 h2 e=>by
  have:=(h.w1 v h1 h2).2.1;rw[e,HT] at this;omega
 refine⟨Cz,P2,h.m0,by simp[h.nX],by rw[sI.1];exact h.nr,h.cm,?_,λu hu=>?_,λj hj=>?_,λv h1 h2=>?_,λj hj iJ=>?_,λv v' h1 h2 h3=>?_,λj hj=>?_,?_⟩
 ·have h1:=jZ (σ:=σ) (σ':=σ') Q.length ht (λu hu=>by rw[ot u hu]);rw[hl,if_pos rfl] at h1;have h2:=h.cn;rw[nw];split at h1 <;> omega
 ·show L7 Q σ' M u ((X.set t th').getD u d0) (G9.getD u cJ) (r.tr.set k x')
  by_cases e:u=t
  ·subst e;rw[ks (by rw[h.nX];exact ht)];exact JX
  ·rw[rH e,sI.2 u e];exact(h.th u hu).GW h.pw Cz.z sk (ot u e) (λ_=>oi u e) (by rw[nw];exact λ_ h=>h) (.set Q hk sJ e1 e)
 ·have hj:j<r.tr.length:=by simpa using hj
  show qG Q M σ'.now (gA Q ((r.tr.set k x').take j) ((r.tr.set k x').getD j aK).th.toNat) ((r.tr.set k x').getD j aK) (i+1);rw[nw,gs j]
  by_cases e:j=k
  ·subst e;rw[if_pos rfl,e1,UJ,List.take_set,List.set_eq_of_length_le (by rw[List.length_take];omega)];exact UI
  ·rw[if_neg e];have WN:=h.tr j hj
   have:gA Q ((r.tr.set k x').take j) (r.tr.getD j aK).th.toNat=gA Q (r.tr.take j) (r.tr.getD j aK).th.toNat:=by
    by_cases e4:j<k
    ·rw[List.take_set,List.set_eq_of_length_le (by rw[List.length_take];omega)]
    ·refine(Q1.set Q hk sJ e1 (u:=(r.tr.getD j aK).th.toNat) (λe6=>?_)).rt j hj;exact aZ j (by omega) hj (by have:=WN.th.1;omega)
   rw[this];exact WN.mono (λ_ _=>rfl) (aM _) (by omega)
 ·rw[nw] at h2;obtain⟨a1,a2,a3⟩:=h.w1 v h1 h2;show wr v<(r.tr.set k x').length/\((r.tr.set k x').getD (wr v) aK).en=1/\((r.tr.set k x').getD (wr v) aK).bt=_;rw[gs,if_neg (wk v h1 h2)];exact⟨by simpa using a1,a2,a3⟩
 ·have hj:j<r.tr.length:=by simpa using hj
  have iJ:lh ((r.tr.set k x').getD j aK)=true:=iJ;show wr ((r.tr.set k x').getD j aK).bt.toNat=j;rw[gs] at iJ ⊢
  by_cases e:j=k
  ·rw[if_pos e,ew] at iJ;cases iJ
  ·rw[if_neg e] at iJ ⊢;exact h.w2 j hj iJ
 ·rw[nw] at h3;show((r.tr.set k x').getD (wr v) aK).dr<((r.tr.set k x').getD (wr v') aK).dr;rw[gs,gs,if_neg (wk v h1 (by omega)),if_neg (wk v' (by omega) h3)];exact h.w3 v v' h1 h2 h3
 ·have hj:j<r.tr.length:=by simpa using hj
  show(cw (r.tr.set k x') ((r.tr.set k x').getD j aK).fr:Int)=((r.tr.set k x').getD j aK).st;rw[VH,gs]
  by_cases e:j=k
  ·subst e;rw[if_pos rfl,e2,e3];exact h.c1 j hk
  ·rw[if_neg e];exact h.c1 j hj
 ·show cw (r.tr.set k x') ((i+1:Nat):Int)=σ'.now;rw[VH,nw,Ev (i:=i) (λk hk hw=>h.YH hk hw) (by omega)];exact h.c2
end
end
section
section
variable {Q:Pg}{σ σ':PS}{M M':Nat->FM}{t u:Nat}{X:List bT}{r:Rd}{i aW:Nat}{wr:Nat->Nat}
theorem DN.nf{d:Dd}{R R':aE}{v e:Int}(h:DN σ t d R σ' R' v e):n_ e=false/\(e=0->d.k≠14):=by
 have key:∀ (o:Ob) (k i:Int),n_ (fO o k i)=false:=λo k i=>by
  unfold fO;split
  ·rfl
  ·split
   ·rfl
   ·split
    ·rfl
    ·by_cases e:(if k=6\/k=7 then (o.d:Int) else (o.p:Int))<=i
     ·rw[if_pos e];rfl
     ·rw[if_neg e];rfl
 cases h with
 | reg _ _ h=>exact⟨rfl,λ_=>by omega⟩
 | nil hk h=>exact⟨rfl,λe=>by omega⟩
 | bad hk=>exact⟨key _ _ _,λ_=>by omega⟩
 | get hk=>exact⟨rfl,λ_=>by omega⟩
 | read hk=>exact⟨rfl,λ_=>by omega⟩
 | chg hk=>exact⟨rfl,λ_=>by omega⟩
 | lay hk=>exact⟨rfl,λ_=>by omega⟩
theorem PW.beg(hw:PW σ)(hl:(σ.tx t).live=false):PW (σ.aO t ((σ.tx t).beg σ.now)):=by
 have tx:∀u,((σ.aO t ((σ.tx t).beg σ.now)).tx u).holds=(σ.tx u).holds/\((σ.aO t ((σ.tx t).beg σ.now)).tx u).aQ=(σ.tx u).aQ:=λu=>by
  by_cases e:u=t
  ·subst e;rw[aV];exact⟨rfl,rfl⟩
  ·rw[bN _ _ e];exact⟨rfl,rfl⟩
 refine⟨hw.z,hw.sr,hw.inj,hw.ps,hw.ln,λu x hx=>?_,λu x hx y hy=>?_,λu x hx=>?_,λu hu=>?_,λu hu=>?_⟩
 ·rw[(tx u).1] at hx;obtain⟨h1,h2⟩:=hw.hs u x hx
  by_cases e:u=t
  ·subst e;rw[hl] at h1;cases h1
  ·rw[bN _ _ e];exact⟨h1,h2⟩
 ·rw[(tx u).1] at hx hy;exact hw.nd u x hx y hy
 ·rw[(tx u).2] at hx;rw[(tx u).1];exact hw.us u x hx
 ·by_cases e:u=t
  ·subst e;rw[aV] at hu;cases hu
  ·rw[bN _ _ e] at hu ⊢;exact hw.lv u hu
 ·by_cases e:u=t
  ·subst e;rw[aV];exact aM _
  ·rw[bN _ _ e] at hu ⊢;exact hw.st u hu
theorem GM.beg(hg:GM σ M)(hw:PW σ)(hl:(σ.tx t).live=false):GM (σ.aO t ((σ.tx t).beg σ.now)) M:=by
 refine⟨hg.un,λa o u h1 h2=>?_,λu x hx o ho=>?_,hg.cl,hg.mm,hg.mf⟩
 ·obtain⟨y,y1,y2⟩:=hg.ex a o u h1 h2
  by_cases e:u=t
  ·subst e;rw[aV];exact⟨y,y1,y2⟩
  ·rw[bN _ _ e];exact⟨y,y1,y2⟩
 ·by_cases e:u=t
  ·subst e;rw[aV] at hx;have:=(hw.hs u x hx).1;rw[hl] at this;cases this
  ·rw[bN _ _ e] at hx ⊢;exact hg.hd u x hx o ho
theorem TI.beg(hw:PW σ)(hl:(σ.tx t).live=false){R:aE}(Qd:List Dd)(hr:∀p∈R,KM σ (M σ.now) p):TI (σ.aO t ((σ.tx t).beg σ.now)) M t R R Qd []:=by
 have et:(σ.aO t ((σ.tx t).beg σ.now)).tx t=((σ.tx t).beg σ.now):=aV _ _ _;have hh:(σ.tx t).holds=[]:=(hw.lv t hl).1;refine⟨λp hp=>.inl (by rw[et];exact hr p hp),λp hp=>by rw[et];exact hr p hp,λx hx=>?_,λf hf=>?_⟩
 ·rw[et] at hx;have hx:x∈(σ.tx t).holds:=hx;rw[hh] at hx;cases hx
 ·show some (f,_)=some (_,_)
  congr 2
  funext s;rw[lz];intro x hx;rw[et] at hx;have hx:x∈(σ.tx t).holds:=hx;rw[hh] at hx;cases hx
theorem CI.at_(h:CI Q aW σ M X r i wr)(ht:t<Q.length)(hb:(X.getD t d0).b<(Q.getD t []).length)(k e v:Int) :
 r.take Q i ⟨t,(X.getD t d0).b,(X.getD t d0).p,k,e,v⟩=if k=1 then (if 0<=(r.sp.getD t cJ).tr then none else some (r.begin Q i ⟨t,(X.getD t d0).b,(X.getD t d0).p,k,e,v⟩)) else if k=2 then (if 0<=(r.sp.getD t cJ).tr then r.gX Q i ⟨t,(X.getD t d0).b,(X.getD t d0).p,k,e,v⟩ else none) else if k=3 then (if 0<=(r.sp.getD t cJ).tr then r.fe Q i ⟨t,(X.getD t d0).b,(X.getD t d0).p,k,e,v⟩ else none) else none:=by
 obtain⟨_,_,h3,_,h5,_,_⟩:=h.th t ht;unfold Rd.take Rd.spot;simp only[Int.toNat_natCast];rw[if_neg (by omega),if_neg (by omega),if_neg (by rw[h3];omega)]
theorem uk{l:List tN}{t:Nat}(ht:t<l.length)(s:tN):(l.set t s).length=l.length/\∀u,u≠t->(l.set t s).getD u cJ=l.getD u cJ:=⟨by simp,λ_ hu=>rH hu _ _⟩
theorem nQ{α:Type}(l:List α)(k:Nat)(x:α):(l.set k x).take k=l.take k:=by
 rw[List.take_set,List.set_eq_of_length_le (by rw[List.length_take];omega)]
theorem KM.now(hg:GM σ M){s:Nat}(hs:s<=σ.now){p:Nat}(h:KM σ (M s) p):KM σ (M σ.now) p:=by
 rcases h with e|⟨o,h1,h2⟩
 ·exact .inl e
 ·exact .inr ⟨o,h1,hg.mm _ _ hs (aM _) _ h2⟩
theorem CI.Ef(h:CI Q aW σ M X r i wr)(ht:t<Q.length){k:Nat}{x':Tr}{b':Int}(hk:k<r.tr.length)(hx:(X.getD t d0).live=true)(NR:(r.sp.getD t cJ).tr=k)
 (e1:x'.th=(t:Int)) (e2:x'.fr=(r.tr.getD k aK).fr) (e3:x'.st=(r.tr.getD k aK).st) (ew:x'.en=2)
 (dE:PS) (hm:Vl σ M t dE) (ha:PD dE t σ') (mX:0<=b') (hb:b'<=(Q.getD t []).length)
 (UI:qG Q M σ.now (gA Q (r.tr.take k) t) x' (i+1)):CI Q aW σ' M (X.set t { (X.getD t d0).back with b:=b' }) ⟨r.sp.set t ⟨b',-1⟩,r.tr.set k x',r.bY⟩ (i+1) wr:=by
 obtain⟨Cz,P2,sk'⟩:=ha.law hm.pw hm.gm;obtain⟨h1,h2,h3,h4,h5,h6,h7⟩:=h.th t ht;have lq:t<r.sp.length:=by rw[h.nr];exact ht
 rcases h7 with ⟨g,_⟩|⟨_,k',g2,g3,g4,g5,g6,g7,g8,g9,yt,ui,P0,wS⟩
 ·rw[hx] at g;cases g
 have:k'=k:=by omega
 subst this
 have sk:qE σ σ':=λa o ho=>by
  obtain⟨o1,k1,k2⟩:=hm.sk a o ho;obtain⟨o2,k3,k4⟩:=sk' a o1 k1;exact⟨o2,k3,k4.trans k2⟩
 have nw:σ'.now=σ.now:=ha.nw.trans hm.nw;have hl:(σ.tx t).live=true:=h4 ▸ hx;refine h.TK ht hk g5 g8 (λj hj iJ e=>?_) e1 e2 e3 (by unfold lh;rw[ew];rfl) Cz P2 nw sk (λu hu=>(ha.ot u hu).trans (hm.ot u hu)) (λu hu R V Q aJ hi=>ha.tosj.GW hm.pw sk' hu rfl (hm.oi u hu R V Q aJ hi)) hl (uk lq _) UI ?_
 ·have:=(yt j iJ e (by omega)).1;omega
 ·rw[ks lq];refine⟨h2,h2,rfl,ha.tl.symm,mX,hb,.inl ⟨rfl,by show(-1:Int)<0;omega,λp hp=>?_,?_,λj hj e=>?_⟩⟩
  ·rw[nw];exact sk.km ((wS.kv p hp).now h.gm (h.pw.st t hl))
  ·rw[qm hk e1 (λj hj iJ e=>by have:=(yt j iJ e (by omega)).1;omega),if_neg (by omega),ui];exact(sk.map h.pw.z Cz.z (λp hp=>(wS.kv p hp).here)).symm
  ·have hj:j<r.tr.length:=by simpa using hj
   rw[wU _ _ _ _ _ hk] at e ⊢
   by_cases ej:j=k'
   ·rw[if_pos ej];omega
   ·rw[if_neg ej] at e ⊢;exact(yt j hj e ej).2
end
end
section
section
variable {Q:Pg}{σ σ':PS}{M M':Nat->FM}{t u:Nat}{X:List bT}{r:Rd}{i aW:Nat}{wr:Nat->Nat}
theorem Rd.yk{k:Nat}(hk:(r.sp.getD t cJ).tr=k){b p:Int}(hp:p=((r.tr.getD k aK).aJ.length:Nat))(aZ:p<((bU Q t b).length:Nat))(e v:Int) :
 r.gX Q i ⟨t,b,p,2,e,v⟩=some ⟨if last Q ⟨t,b,p,2,e,v⟩ then r.sp.set t ⟨if e≠141 then (r.sp.getD t cJ).block+1 else (r.sp.getD t cJ).block,-1⟩ else r.sp,
  r.tr.set k { r.tr.getD k aK with aJ:=(r.tr.getD k aK).aJ++[⟨2,e,v⟩],gF:=(r.tr.getD k aK).gF++[(i:Int)],en:=if last Q ⟨t,b,p,2,e,v⟩ then 2 else (r.tr.getD k aK).en,dr:=if last Q ⟨t,b,p,2,e,v⟩ then i else (r.tr.getD k aK).dr },r.bY⟩:=by
 unfold Rd.gX Rd.kY Rd.spot;simp only[Int.toNat_natCast,hk];rw[if_neg (by simp only[hp];rw[hp] at aZ;omega)]
theorem Rd.qM{k:Nat}(hk:(r.sp.getD t cJ).tr=k){b p:Int}(hp:p=((r.tr.getD k aK).aJ.length:Nat))(aZ:p=((bU Q t b).length:Nat))(e v:Int) :
 r.fe Q i ⟨t,b,p,3,e,v⟩=some ⟨r.sp.set t ⟨if e≠0 then (r.sp.getD t cJ).block else (r.sp.getD t cJ).block+1,-1⟩,
  r.tr.set k (if e≠0 then { r.tr.getD k aK with dr:=i,en:=2 } else { r.tr.getD k aK with dr:=i,en:=1,bt:=v }),r.bY⟩:=by
 unfold Rd.fe Rd.kY Rd.spot;simp only[Int.toNat_natCast,hk];rw[if_neg (by simp only[hp];rw[hp] at aZ;omega)]
theorem yX(b p e v:Int)(hp:0<=p):last Q ⟨t,b,p,2,e,v⟩=(n_ e || (e==0 && ((bU Q t b).getD p.toNat dD).k==14)):=rfl
theorem CI.step(hQ:∀t b,∀d∈bU Q t b,d.Rt)(h:CI Q aW σ M X r i wr)(ht:t<Q.length){x':bT}{k e v:Int}(hs:MS Q aW σ t (X.getD t d0) σ' x' k e v) :
 ∃M' r' wr',r.take Q i ⟨t,(X.getD t d0).b,(X.getD t d0).p,k,e,v⟩=some r'/\CI Q aW σ' M' (X.set t x') r' (i+1) wr':=by
 have sJ:=h.th t ht;obtain⟨h1,h2,h3,h4,h5,h6,h7⟩:=sJ;have lq:t<r.sp.length:=by rw[h.nr];exact ht
 have live:∀ (hl:(X.getD t d0).live=true),∃k:Nat,(r.sp.getD t cJ).tr=k/\k<r.tr.length/\(X.getD t d0).b<(Q.getD t []).length/\(r.tr.getD k aK).th=(t:Int)/\(r.tr.getD k aK).bl=(X.getD t d0).b/\(r.tr.getD k aK).st=((σ.tx t).start:Int)/\(r.tr.getD k aK).en=0/\(X.getD t d0).p=((r.tr.getD k aK).aJ.length:Nat)/\(∀j,j<r.tr.length->(r.tr.getD j aK).th=(t:Int)->j≠k->j<k/\(r.tr.getD j aK).en≠0)/\gA Q (r.tr.take k) t=(X.getD t d0).V.map (λp=>(σ.fh p:Int))/\gA Q r.tr t=(X.getD t d0).V.map (λp=>(σ.fh p:Int))/\TI σ M t (X.getD t d0).R (X.getD t d0).V (bU Q t (X.getD t d0).b) (r.tr.getD k aK).aJ:=λhl=>by
  rcases h7 with ⟨g,_⟩|⟨_,g⟩
  ·rw[hl] at g;cases g
  ·exact g
 have tok:∀k:Nat,k<r.tr.length->(r.tr.getD k aK).th=(t:Int)->qG Q M σ.now (gA Q (r.tr.take k) t) (r.tr.getD k aK) i:=λk hk e=>by
  have:=h.tr k hk;rw[e,Int.toNat_natCast] at this;exact this
 cases hs with
 | beg hb hl hc=>
   rcases h7 with ⟨_,g2,g3,g4,g5⟩|⟨g,_⟩
   ·have pY:(σ.tx t).live=false:=h4 ▸ hl;refine⟨M,_,wr,by rw[h.at_ ht hb,if_pos rfl,if_neg (by omega)],?_⟩
    have er:r.begin Q i ⟨t,(X.getD t d0).b,(X.getD t d0).p,1,0,(σ.now:Nat)⟩=⟨r.sp.set t ⟨(r.sp.getD t cJ).block,(r.tr.length:Nat)⟩,r.tr++[⟨t,(X.getD t d0).b,(σ.now:Nat),r.bY,i,-1,[],[],0,0⟩],r.bY⟩:=by
     unfold Rd.begin Rd.spot;simp only[Int.toNat_natCast];rw[if_neg (by simp)]
    rw[er];obtain⟨y,ey⟩:=au ((⟨t,(X.getD t d0).b,(σ.now:Nat),r.bY,i,-1,[],[],0,0⟩:Tr):Tr);rw[ey];have y1:y.th=(t:Int):=by rw[<-ey]
    have yw:lh y=false:=by rw[<-ey];rfl
    have gl:∀j,j<r.tr.length->(r.tr++[y]).getD j aK=r.tr.getD j aK:=λj hj=>P1 hj _;have gn:(r.tr++[y]).getD r.tr.length aK=y:=Rw _ _ _;have VH:∀f,cw (r.tr++[y]) f=cw r.tr f:=λf=>MX yw f;have Cz:=h.pw.beg pY;have et:(σ.aO t ((σ.tx t).beg σ.now)).tx t=((σ.tx t).beg σ.now):=aV _ _ _
    have hy:qG Q M σ.now (gA Q r.tr t) y (i+1):=by
     rw[<-ey];exact⟨⟨by show(0:Int)<=(t:Nat);omega,by show((t:Nat):Int)<_;omega⟩,⟨h5,by show _<(((Q.getD ((t:Nat):Int).toNat []).length:Nat):Int);rw[Int.toNat_natCast];exact hb⟩,⟨by show(0:Int)<=(σ.now:Nat);omega,Int.le_refl _⟩,h.cm,⟨by show(0:Int)<=(i:Nat);omega,by show((i:Nat):Int)<_;omega⟩,⟨cK _,rfl⟩,.inl ⟨rfl,rfl,rfl,(λa ha=>by cases ha),_,rfl⟩⟩
    have QN:=uk lq ⟨(r.sp.getD t cJ).block,(r.tr.length:Nat)⟩;refine⟨Cz,h.gm.beg h.pw pY,h.m0,by simp[h.nX],by rw[QN.1];exact h.nr,h.cm,?_,λu hu=>?_,λj hj=>?_,λv h1 h2=>?_,λj hj iJ=>?_,λv v' h1 h2 h3=>?_,λj hj=>?_,?_⟩
    ·have q1:=jZ (σ:=σ) (σ':=σ.aO t ((σ.tx t).beg σ.now)) Q.length ht (λu hu=>by rw[bN _ _ hu]);have q2:((σ.aO t ((σ.tx t).beg σ.now)).tx t).live=true:=by rw[et];rfl
     rw[pY,q2] at q1;simp only[Bool.false_eq_true,if_false,if_true] at q1;show fZ _ _+σ.now<=aW;omega
    ·show L7 Q _ M u ((X.set t _).getD u d0) ((r.sp.set t _).getD u cJ) (r.tr++[y])
     by_cases e:u=t
     ·subst e;rw[ks (by rw[h.nX];exact ht),ks lq];refine⟨h1,h1,h3,by rw[et];rfl,h5,h6,.inr ⟨rfl,r.tr.length,rfl,by simp,hb,by rw[gn];exact y1,by rw[gn,<-ey],by rw[gn,et,<-ey];rfl,by rw[gn,<-ey],by rw[gn,<-ey];rfl,λj hj e1 e2=>?_,?_,?_,?_⟩⟩
      ·have hj:j<r.tr.length:=by simp at hj;omega
       rw[gl j hj] at e1 ⊢;exact⟨hj,g5 j hj e1⟩
      ·rw[List.take_left];exact g4
      ·rw[ki,if_neg (by rw[<-ey];simp)];exact g4
      ·rw[gn,<-ey];exact TI.beg h.pw pY _ g3
     ·rw[rH e,QN.2 u e];exact(h.th u hu).GW h.pw Cz.z (.refl σ) (bN _ _ e) (λ_ R V Q aJ hi=>hi.frame h.pw Cz.z (bN _ _ e) (.refl σ) (λ_ _=>rfl) rfl) (λ_ h=>h) (.snoc Q (by rw[y1];omega))
    ·show qG Q M σ.now (gA Q ((r.tr++[y]).take j) ((r.tr++[y]).getD j aK).th.toNat) ((r.tr++[y]).getD j aK) (i+1)
     by_cases e:j<r.tr.length
     ·rw[gl j e,List.take_append_of_le_length (by omega)];exact(h.tr j e).mono (λ_ _=>rfl) (aM _) (by omega)
     ·have hj:j<(r.tr++[y]).length:=hj;have:j=r.tr.length:=by simp at hj;omega
      subst this;rw[gn,y1,Int.toNat_natCast,List.take_left];exact hy
    ·obtain⟨a1,a2,a3⟩:=h.w1 v h1 h2;show wr v<(r.tr++[y]).length/\((r.tr++[y]).getD (wr v) aK).en=1/\((r.tr++[y]).getD (wr v) aK).bt=_;rw[gl _ a1];exact⟨by simp;omega,a2,a3⟩
    ·have hj:j<(r.tr++[y]).length:=hj;have iJ:lh ((r.tr++[y]).getD j aK)=true:=iJ;show wr ((r.tr++[y]).getD j aK).bt.toNat=j
     by_cases e:j<r.tr.length
     ·rw[gl j e] at iJ ⊢;exact h.w2 j e iJ
     ·have:j=r.tr.length:=by simp at hj;omega
      subst this;rw[gn,yw] at iJ;cases iJ
    ·show((r.tr++[y]).getD (wr v) aK).dr<((r.tr++[y]).getD (wr v') aK).dr;have h3:v'<=σ.now:=h3;rw[gl _ (h.w1 v h1 (by omega)).1,gl _ (h.w1 v' (by omega) h3).1];exact h.w3 v v' h1 h2 h3
    ·show(cw (r.tr++[y]) ((r.tr++[y]).getD j aK).fr:Int)=((r.tr++[y]).getD j aK).st;have hj:j<(r.tr++[y]).length:=hj;rw[VH]
     by_cases e:j<r.tr.length
     ·rw[gl j e];exact h.c1 j e
     ·have:j=r.tr.length:=by simp at hj;omega
      subst this;rw[gn,<-ey];show(cw r.tr (i:Nat):Int)=(σ.now:Nat);rw[h.c2]
    ·show cw (r.tr++[y]) ((i+1:Nat):Int)=σ.now;rw[VH,Ev (i:=i) (λk hk hw=>h.YH hk hw) (by omega)];exact h.c2
   ·rw[hl] at g;cases g
 | no hb hl=>
   rcases h7 with ⟨_,g2,g3,g4,g5⟩|⟨g,_⟩
   ·refine⟨M,_,wr,by rw[h.at_ ht hb,if_pos rfl,if_neg (by omega)],?_⟩
    have er:r.begin Q i ⟨t,(X.getD t d0).b,(X.getD t d0).p,1,120,0⟩=⟨r.sp.set t ⟨((Q.getD t []).length:Nat),(r.sp.getD t cJ).tr⟩,r.tr,r.bY⟩:=by
     unfold Rd.begin Rd.spot;simp only[Int.toNat_natCast];rw[if_pos (by decide)]
    rw[er];have QN:=uk lq ⟨((Q.getD t []).length:Nat),(r.sp.getD t cJ).tr⟩;refine⟨h.pw,h.gm,h.m0,by simp[h.nX],by rw[QN.1];exact h.nr,h.cm,h.cn,λu hu=>?_,λj hj=>(h.tr j hj).mono (λ_ _=>rfl) (aM _) (by omega),h.w1,h.w2,h.w3,h.c1,?_⟩
    ·show L7 Q _ M u ((X.set t _).getD u d0) ((r.sp.set t _).getD u cJ) r.tr
     by_cases e:u=t
     ·subst e;rw[ks (by rw[h.nX];exact ht),ks lq];exact⟨h1,h2,rfl,h4,by show(0:Int)<=((Q.getD u []).length:Nat);omega,Int.le_refl _,.inl ⟨hl,g2,g3,g4,g5⟩⟩
     ·rw[rH e,QN.2 u e];exact h.th u hu
    ·show cw r.tr ((i+1:Nat):Int)=σ.now;rw[Ev (i:=i) (λk hk hw=>h.YH hk hw) (by omega)];exact h.c2
   ·rw[hl] at g;cases g
 | cm0 _ hl hp hh he hn=>
   obtain⟨k,g2,g3,g4,g5,g6,g7,g8,g9,yt,ui,P0,wS⟩:=live hl;have pY:(σ.tx t).live=true:=h4 ▸ hl;refine⟨M,_,wr,by rw[h.at_ ht g4,if_neg (by decide),if_neg (by decide),if_pos rfl,if_pos (by omega),Rd.qM g2 g9 hp],?_⟩;have ha:PD σ t σ':=⟨he,hn,λy hy=>(by rw[hh] at hy;cases hy),λy hy=>(by rw[hh] at hy;cases hy)⟩;obtain⟨Cz,P2,sk⟩:=ha.law h.pw h.gm;have ig:=tok k g3 g5;have JV:=wS.MA _ (Cp.start h.pw h.gm pY);rw[if_neg (show ¬(0:Int)≠0 by decide),if_neg (show ¬(0:Int)≠0 by decide),h3];refine h.TK ht g3 g5 g8 (λj hj iJ e=>by have:=(yt j iJ e (by omega)).1;omega) g5 rfl rfl rfl Cz P2 hn sk he.ot (λu hu R V Q aJ hi=>he.GW h.pw sk hu rfl hi) pY (uk lq _) ?_ ?_
   ·refine⟨ig.th,ig.bl,ig.st,ig.se,⟨ig.fr.1,by have:=ig.fr.2;show(r.tr.getD k aK).fr<_;omega⟩,ig.al,.inr (.inr ⟨rfl,Int.le_refl _,by show(0:Int)<=(σ.now:Nat);omega,?_,?_,λe=>absurd e (by show ¬(1:Int)<=0;decide)⟩)⟩
    ·rcases ig.en with e|e|e
     ·exact e.2.2.2.1
     ·rcases e with e|e <;> have:=e.1 <;> omega
     ·have:=e.1;omega
    ·show ∃y,dV (bU Q (r.tr.getD k aK).th (r.tr.getD k aK).bl) (r.tr.getD k aK).aJ 0 (M (r.tr.getD k aK).st.toNat,_)=some y;rw[g5,g6,g7,Int.toNat_natCast,ui];exact⟨_,JV⟩
   ·rw[ks lq]
    have XE:∀p∈(X.getD t d0).R,KM σ (M σ.now) p:=λp hp=>by
     rcases wS.kr p hp with e|⟨y,hy,_⟩
     ·exact e.now h.gm (h.pw.st t pY)
     ·rw[hh] at hy;cases hy
    refine⟨h1,h1,rfl,he.tl.symm,by show(0:Int)<=(X.getD t d0).b+1;omega,by show(X.getD t d0).b+1<=_;omega,.inl ⟨rfl,by show(-1:Int)<0;omega,λp hp=>by rw[hn];exact sk.km (XE p hp),?_,λj hj e=>?_⟩⟩
    ·refine(qm (x:={ r.tr.getD k aK with dr:=i,en:=1,bt:=0 }) g3 g5 (λj hj iJ e=>by have:=(yt j iJ e (by omega)).1;omega)).trans ?_;rw[if_pos rfl,ui];show rX (bU Q (r.tr.getD k aK).th (r.tr.getD k aK).bl) (r.tr.getD k aK).aJ 0 _=_;rw[g5,g6,sk.map h.pw.z Cz.z (λp hp=>(XE p hp).here)];exact(uh (hQ _ _) _ _ _ _ _ _ (by omega) JV).symm
    ·have hj:j<r.tr.length:=by simpa using hj
     rw[wU _ _ _ _ _ g3] at e ⊢
     by_cases ej:j=k
     ·rw[if_pos ej];show(1:Int)≠0;decide
     ·rw[if_neg ej] at e ⊢;exact(yt j hj e ej).2
 | cm _ hl hp hc=>
   obtain⟨k,g2,g3,g4,g5,g6,g7,g8,g9,yt,ui,P0,wS⟩:=live hl;have pY:(σ.tx t).live=true:=h4 ▸ hl;obtain⟨Cz,P2,sk⟩:=hc.law h.pw h.gm wS.kh;obtain⟨M',eM⟩:=au ((λu=>if u=σ.now+1 then σ.ov t (M σ.now) else M u):Nat->FM);rw[eM] at P2;have lo:∀u,u<=σ.now->M' u=M u:=λu hu=>by rw[<-eM];exact if_neg (by omega)
   have Y8:M' (σ.now+1)=σ.ov t (M σ.now):=by rw[<-eM];exact if_pos rfl
   have nw:σ'.now=σ.now+1:=hc.nw;refine⟨M',_,λv=>if v=σ.now+1 then k else wr v,by rw[h.at_ ht g4,if_neg (by decide),if_neg (by decide),if_pos rfl,if_pos (by omega),Rd.qM g2 g9 hp],?_⟩;have ig:=tok k g3 g5;have cy:=h.pw.st t pY;have JV:=wS.MA _ (Cp.start h.pw h.gm pY);have Xi:=wS.MA _ (Cp.now h.pw h.gm pY hc.rd);rw[if_neg (show ¬(0:Int)≠0 by decide),if_neg (show ¬(0:Int)≠0 by decide),h3]
   have YB:(∀a∈(r.tr.getD k aK).aJ,n_ a.e=false):=by
    rcases ig.en with e|e|e
    ·exact e.2.2.2.1
    ·rcases e with e|e <;> have:=e.1 <;> omega
    ·have:=e.1;omega
   obtain⟨y,ey⟩:∃y:Tr,{ r.tr.getD k aK with dr:=i,en:=1,bt:=(σ.now+1:Nat) } = y:=⟨_,rfl⟩;rw[ey];have y1:y.th=(t:Int):=by rw[<-ey];exact g5
   have y2:y.fr=(r.tr.getD k aK).fr/\y.st=(r.tr.getD k aK).st/\y.dr=i/\y.en=1/\y.bt=(σ.now+1:Nat):=by rw[<-ey];exact⟨rfl,rfl,rfl,rfl,rfl⟩
   have yw:lh y=true:=by rw[<-ey];show((1:Int)==1 && decide ((1:Int)<=(σ.now+1:Nat)))=true;simp;omega
   have Ib:lh (r.tr.getD k aK)=false:=by unfold lh;rw[g8];rfl
   have gs:=λj=>wU r.tr k j y aK g3
   have wk:∀v,1<=v->v<=σ.now->wr v≠k:=λv h1 h2 e=>by
    have:=(h.w1 v h1 h2).2.1;rw[e,g8] at this;omega
   have aZ:∀j,k<j->j<r.tr.length->(r.tr.getD j aK).th≠(t:Int):=λj hj iJ e=>by have:=(yt j iJ e (by omega)).1;omega
   have UJ:((t:Nat):Int).toNat=t:=Int.toNat_natCast t;have QN:=uk lq ⟨(X.getD t d0).b+1,-1⟩;have mvn:∀s,M σ.now s≠none->M' σ'.now s≠none:=λs hs=>by rw[nw,Y8];exact xC σ t hs
   have XE:∀p∈(X.getD t d0).R,KM σ (M' (σ.now+1)) p:=λp hp=>by
    rcases wS.kr p hp with e|⟨z,hz,rfl,_⟩
    ·rcases e.now h.gm cy with e|⟨o,e1,e2⟩
     ·exact .inl e
     ·exact .inr ⟨o,e1,by rw[Y8];exact xC σ t e2⟩
    ·obtain⟨_,o,ho,_⟩:=h.pw.hs t z hz;exact .inr ⟨o,ho,by rw[Y8,j_ h.pw _ hz ho];intro e;cases e⟩
   refine⟨Cz,P2,λs=>by rw[lo 0 (cK _)];exact h.m0 s,by simp[h.nX],by rw[QN.1];exact h.nr,h.cm,?_,λu hu=>?_,λj hj=>?_,λv h1 h2=>?_,λj hj iJ=>?_,λv v' h1 h2 h3=>?_,λj hj=>?_,?_⟩
   ·have q1:=jZ (σ:=σ) (σ':=σ') Q.length ht (λu hu=>by rw[hc.ot u hu]);rw[pY,hc.tl] at q1;simp only[Bool.false_eq_true,if_false,if_true] at q1;have:=h.cn;rw[nw];omega
   ·show L7 Q σ' M' u ((X.set t _).getD u d0) ((r.sp.set t _).getD u cJ) (r.tr.set k y)
    by_cases e:u=t
    ·subst e;rw[ks (by rw[h.nX];exact ht),ks lq];refine⟨h1,h1,rfl,hc.tl.symm,by show(0:Int)<=(X.getD u d0).b+1;omega,by show(X.getD u d0).b+1<=_;omega,.inl ⟨rfl,by show(-1:Int)<0;omega,λp hp=>by rw[nw];exact sk.km (XE p hp),?_,λj hj e=>?_⟩⟩
     ·refine(qm (x:=y) g3 y1 aZ).trans ?_;rw[if_pos y2.2.2.2.1,ui,<-ey];show rX (bU Q (r.tr.getD k aK).th (r.tr.getD k aK).bl) (r.tr.getD k aK).aJ 0 _=_;rw[g5,g6,sk.map h.pw.z Cz.z (λp hp=>(XE p hp).here)];exact(uh (hQ _ _) _ _ _ _ _ _ (by omega) JV).symm
     ·have hj:j<r.tr.length:=by simpa using hj
      rw[gs] at e ⊢
      by_cases ej:j=k
      ·rw[if_pos ej,y2.2.2.2.1];decide
      ·rw[if_neg ej] at e ⊢;exact(yt j hj e ej).2
    ·rw[rH e,QN.2 u e];refine(h.th u hu).GW h.pw Cz.z sk (hc.ot u e) (λhlu R V Qd aJ hi=>hc.tosj.GW h.pw sk e (lo _ (h.pw.st u hlu)) hi) mvn (.set Q g3 g5 y1 e)
   ·have hj:j<r.tr.length:=by simpa using hj
    show qG Q M' σ'.now (gA Q ((r.tr.set k y).take j) ((r.tr.set k y).getD j aK).th.toNat) ((r.tr.set k y).getD j aK) (i+1);rw[nw,gs j]
    by_cases e:j=k
    ·subst e;rw[if_pos rfl,y1,UJ,nQ,<-ey];refine⟨ig.th,ig.bl,⟨ig.st.1,by have:=ig.st.2;show(r.tr.getD j aK).st<=_;omega⟩,ig.se,⟨ig.fr.1,by have:=ig.fr.2;show(r.tr.getD j aK).fr<_;omega⟩,ig.al,.inr (.inr ⟨rfl,by show(0:Int)<=(σ.now+1:Nat);omega,Int.le_refl _,YB,?_,λ_=>⟨by show(i:Int)<(i+1:Nat);omega,by show(-1:Int)<(i:Nat);omega,?_⟩⟩)⟩
     ·show ∃y,dV (bU Q (r.tr.getD j aK).th (r.tr.getD j aK).bl) (r.tr.getD j aK).aJ 0 (M' (r.tr.getD j aK).st.toNat,_)=some y;rw[g5,g6,g7,Int.toNat_natCast,ui,lo _ cy];exact⟨_,JV⟩
     ·show ∃R,dV (bU Q (r.tr.getD j aK).th (r.tr.getD j aK).bl) (r.tr.getD j aK).aJ 0 (M' (((σ.now+1:Nat):Int)-1).toNat,_)=some (M' ((σ.now+1:Nat):Int).toNat,R);rw[g5,g6,ui,show(((σ.now+1:Nat):Int)-1).toNat=σ.now by omega,Int.toNat_natCast,lo _ (aM _),Y8];exact⟨_,Xi⟩
    ·rw[if_neg e];have WN:=h.tr j hj
     have:gA Q ((r.tr.set k y).take j) (r.tr.getD j aK).th.toNat=gA Q (r.tr.take j) (r.tr.getD j aK).th.toNat:=by
      by_cases e4:j<k
      ·rw[List.take_set,List.set_eq_of_length_le (by rw[List.length_take];omega)]
      ·refine(Q1.set Q g3 g5 y1 (u:=(r.tr.getD j aK).th.toNat) (λe6=>?_)).rt j hj;exact aZ j (by omega) hj (by have:=WN.th.1;omega)
     rw[this];exact WN.mono lo (by omega) (by omega)
   ·rw[nw] at h2;show(if v=σ.now+1 then k else wr v)<(r.tr.set k y).length/\((r.tr.set k y).getD (if v=σ.now+1 then k else wr v) aK).en=1/\((r.tr.set k y).getD (if v=σ.now+1 then k else wr v) aK).bt=_
    by_cases e:v=σ.now+1
    ·subst e;rw[if_pos rfl,gs,if_pos rfl];exact⟨by simpa using g3,y2.2.2.2.1,y2.2.2.2.2⟩
    ·obtain⟨a1,a2,a3⟩:=h.w1 v h1 (by omega);rw[if_neg e,gs,if_neg (wk v h1 (by omega))];exact⟨by simpa using a1,a2,a3⟩
   ·have hj:j<r.tr.length:=by simpa using hj
    have iJ:lh ((r.tr.set k y).getD j aK)=true:=iJ;show(if ((r.tr.set k y).getD j aK).bt.toNat=σ.now+1 then k else wr ((r.tr.set k y).getD j aK).bt.toNat)=j;rw[gs] at iJ ⊢
    by_cases e:j=k
    ·rw[if_pos e,y2.2.2.2.2,Int.toNat_natCast,if_pos rfl];exact e.symm
    ·rw[if_neg e] at iJ ⊢
     have hv:(r.tr.getD j aK).bt<=σ.now:=by
      have hw:(r.tr.getD j aK).en=1:=by unfold lh at iJ;simp at iJ;exact(by simpa using iJ.1)
      rcases(h.tr j hj).en with e|e|e
      ·have:=e.1;omega
      ·rcases e with e|e <;> have:=e.1 <;> omega
      ·exact e.2.2.1
     rw[if_neg (by omega)];exact h.w2 j hj iJ
   ·rw[nw] at h3;show((r.tr.set k y).getD (if v=σ.now+1 then k else wr v) aK).dr<((r.tr.set k y).getD (if v'=σ.now+1 then k else wr v') aK).dr;rw[if_neg (show v≠σ.now+1 by omega),gs,if_neg (wk v h1 (by omega))]
    by_cases e:v'=σ.now+1
    ·rw[if_pos e,gs,if_pos rfl,y2.2.2.1];have h9:=h.w1 v h1 (by omega);refine h.YH h9.1 ?_;unfold lh;rw[h9.2.1,h9.2.2];simp;omega
    ·rw[if_neg e,gs,if_neg (wk v' (by omega) (by omega))];exact h.w3 v v' h1 h2 (by omega)
   ·have hj:j<r.tr.length:=by simpa using hj
    show(cw (r.tr.set k y) ((r.tr.set k y).getD j aK).fr:Int)=((r.tr.set k y).getD j aK).st
    have dM:((r.tr.set k y).getD j aK).fr=(r.tr.getD j aK).fr/\((r.tr.set k y).getD j aK).st=(r.tr.getD j aK).st:=by
     rw[gs]
     by_cases e:j=k
     ·rw[if_pos e,e];exact⟨y2.1,y2.2.1⟩
     ·rw[if_neg e];exact⟨rfl,rfl⟩
    rw[dM.1,dM.2,CN g3 _ Ib,y2.2.2.1,decide_eq_false (by have:=(h.tr j hj).fr.2;omega),Bool.and_false];exact h.c1 j hj
   ·show cw (r.tr.set k y) ((i+1:Nat):Int)=σ'.now;rw[CN g3 _ Ib,yw,y2.2.2.1,decide_eq_true (by omega),Ev (i:=i) (λk hk hw=>h.YH hk hw) (by omega),h.c2,nw];rfl
 | cmx _ hl hp ha=>
   obtain⟨k,g2,g3,g4,g5,g6,g7,g8,g9,yt,ui,P0,wS⟩:=live hl;refine⟨M,_,wr,by rw[h.at_ ht g4,if_neg (by decide),if_neg (by decide),if_pos rfl,if_pos (by omega),Rd.qM g2 g9 hp],?_⟩;have pY:(σ.tx t).live=true:=h4 ▸ hl;have md:=Co.law (.refl (σ:=σ) (t:=t)) h.pw h.gm pY;have ig:=tok k g3 g5;have:=h.Ef ht (x':={ r.tr.getD k aK with dr:=i,en:=2 }) (b':=(X.getD t d0).b) g3 hl g2 g5 rfl rfl rfl σ md ha h5 h6 ?_
   ·rw[if_pos (show(141:Int)≠0 by decide),if_pos (show(141:Int)≠0 by decide),h3];exact this
   ·refine⟨ig.th,ig.bl,ig.st,ig.se,⟨ig.fr.1,by have:=ig.fr.2;show(r.tr.getD k aK).fr<_;omega⟩,ig.al,.inr (.inl (.inl ⟨rfl,?_⟩))⟩;rcases ig.en with e|e|e
    ·exact⟨e.2.2.1,e.2.2.2.1,e.2.2.2.2⟩
    ·rcases e with e|e <;> have:=e.1 <;> omega
    ·have:=e.1;omega
 | dd _ R' v e hl hp hd=>
   obtain⟨k,g2,g3,g4,g5,g6,g7,g8,g9,yt,ui,P0,wS⟩:=live hl;have pY:(σ.tx t).live=true:=h4 ▸ hl;have hnf:=hd.nf
   have JE:last Q ⟨t,(X.getD t d0).b,(X.getD t d0).p,2,e,v⟩=false:=by
    rw[yX _ _ _ _ (by omega),hnf.1]
    by_cases e0:e=0
    ·rw[beq_eq_false_iff_ne.2 (hnf.2 e0)];simp
    ·rw[beq_eq_false_iff_ne.2 e0];rfl
   refine⟨M,_,wr,by rw[h.at_ ht g4,if_neg (by decide),if_pos rfl,if_pos (by omega),Rd.yk g2 g9 hp,JE],?_⟩;have hdm:(bU Q t (X.getD t d0).b).getD (X.getD t d0).p.toNat dD∈bU Q t (X.getD t d0).b:=fC _ _ _ (by omega);have law:=hd.law wS h.pw h.gm pY (hQ _ _ _ hdm) h1 (by rw[show(X.getD t d0).p.toNat=(r.tr.getD k aK).aJ.length by omega]);have ig:=tok k g3 g5
   have YB:(r.tr.getD k aK).dr = -1/\(r.tr.getD k aK).bt=0/\(∀a∈(r.tr.getD k aK).aJ,n_ a.e=false):=by
    rcases ig.en with e|e|e
    ·exact⟨e.2.1,e.2.2.1,e.2.2.2.1⟩
    ·rcases e with e|e <;> have:=e.1 <;> omega
    ·have:=e.1;omega
   have hV:(X.getD t d0).V.map (λp=>((σ'.fh p:Nat):Int))=(X.getD t d0).V.map (λp=>(σ.fh p:Int)):=law.sk.map h.pw.z law.pw.z (λp hp=>(wS.kv p hp).here);have Sv:=law.ti.MA _ (Cp.start law.pw law.gm law.lv)
   have r6:R'.length=6:=by
    cases hd with
    | reg _ _ h=>rcases h with ⟨_,e,_⟩|⟨_,e,_⟩|⟨_,e,_⟩|⟨_,e,_⟩ <;> rw[e] <;> first|exact h1|exact bE.trans h1
    | nil=>exact h1
    | bad=>exact h1
    | get=>exact bE.trans h1
    | read=>exact h1
    | chg=>exact h1
    | lay=>exact bE.trans h1
   simp only[Bool.false_eq_true,if_false];refine h.TK ht g3 g5 g8 (λj hj iJ e=>by have:=(yt j iJ e (by omega)).1;omega) g5 rfl rfl (by unfold lh;show((r.tr.getD k aK).en==1 && _)=false;rw[g8];rfl) law.pw law.gm law.nw law.sk law.ot law.oi pY ⟨rfl,λ_ _=>rfl⟩ ?_ ?_
   ·refine⟨ig.th,ig.bl,ig.st,ig.se,⟨ig.fr.1,by have:=ig.fr.2;show(r.tr.getD k aK).fr<_;omega⟩,⟨?_,?_⟩,.inl ⟨g8,YB.1,YB.2.1,λa ha=>?_,?_⟩⟩
    ·show((r.tr.getD k aK).aJ++[_]).length<=(bU Q (r.tr.getD k aK).th (r.tr.getD k aK).bl).length;rw[g5,g6,cX,List.length_singleton];omega
    ·show((r.tr.getD k aK).gF++[_]).length=((r.tr.getD k aK).aJ++[_]).length;rw[cX,cX,ig.al.2];rfl
    ·rcases mD.1 ha with h8|h8
     ·exact YB.2.2 a h8
     ·rw[nu.1 h8];exact hnf.1
    ·show ∃y,dV (bU Q (r.tr.getD k aK).th (r.tr.getD k aK).bl) ((r.tr.getD k aK).aJ++[⟨2,e,v⟩]) 0 (M (r.tr.getD k aK).st.toNat,_)=some y;rw[g5,g6,g7,Int.toNat_natCast,ui,<-hV,<-law.st];exact⟨_,Sv⟩
   ·refine⟨r6,h2,h3,law.lv ▸ hl,h5,h6,.inr ⟨hl,k,g2,by simpa using g3,g4,?_⟩⟩;rw[ks g3];refine⟨g5,g6,by show(r.tr.getD k aK).st=_;rw[law.st];exact g7,g8,by show(X.getD t d0).p+1=(((r.tr.getD k aK).aJ++[_]).length:Nat);rw[cX,List.length_singleton];omega,λj hj e1 e2=>?_,?_,?_,law.ti⟩
    ·have hj:j<r.tr.length:=by simpa using hj
     rw[rH e2] at e1 ⊢;exact yt j hj e1 e2
    ·rw[nQ,hV];exact ui
    ·refine(qm (x:={ r.tr.getD k aK with aJ:=(r.tr.getD k aK).aJ++[⟨2,e,v⟩],gF:=(r.tr.getD k aK).gF++[(i:Int)] }) g3 g5 (λj hj iJ e=>by have:=(yt j iJ e (by omega)).1;omega)).trans ?_;rw[if_neg (by show(r.tr.getD k aK).en≠1;omega),hV];exact ui
 | ft dE _ e hl hp hm ha he=>
   obtain⟨k,g2,g3,g4,g5,g6,g7,g8,g9,yt,ui,P0,wS⟩:=live hl;have pY:(σ.tx t).live=true:=h4 ▸ hl;have hf:n_ e=true:=by rcases he with rfl|rfl|rfl <;> rfl
   have JE:last Q ⟨t,(X.getD t d0).b,(X.getD t d0).p,2,e,0⟩=true:=by rw[yX _ _ _ _ (by omega),hf];rfl
   refine⟨M,_,wr,by rw[h.at_ ht g4,if_neg (by decide),if_pos rfl,if_pos (by omega),Rd.yk g2 g9 hp,JE],?_⟩;have md:=hm.law h.pw h.gm pY;have ig:=tok k g3 g5;simp only[if_true];have:=h.Ef ht (x':={ r.tr.getD k aK with aJ:=(r.tr.getD k aK).aJ++[⟨2,e,0⟩],gF:=(r.tr.getD k aK).gF++[(i:Int)],en:=2,dr:=i }) (b':=if e≠141 then (X.getD t d0).b+1 else (X.getD t d0).b) g3 hl g2 g5 rfl rfl rfl dE md ha (by split <;> omega) (by split <;> omega) ?_
   ·have ex:(X.getD t d0).cV e = { (X.getD t d0).back with b:=if e≠141 then (X.getD t d0).b+1 else (X.getD t d0).b }:=by
     rcases he with rfl|rfl|rfl <;> rfl
    rw[ex,h3];exact this
   ·refine⟨ig.th,ig.bl,ig.st,ig.se,⟨ig.fr.1,by have:=ig.fr.2;show(r.tr.getD k aK).fr<_;omega⟩,⟨?_,?_⟩,.inr (.inl (.inr ⟨rfl,?_⟩))⟩
    ·show((r.tr.getD k aK).aJ++[_]).length<=(bU Q (r.tr.getD k aK).th (r.tr.getD k aK).bl).length;rw[g5,g6,cX,List.length_singleton];omega
    ·show((r.tr.getD k aK).gF++[_]).length=((r.tr.getD k aK).aJ++[_]).length;rw[cX,cX,ig.al.2];rfl
    ·rcases ig.en with e|e|e
     ·exact⟨e.2.2.1,_,_,rfl,hf,e.2.2.2.1,e.2.2.2.2⟩
     ·rcases e with e|e <;> have:=e.1 <;> omega
     ·have:=e.1;omega
 | ab _ hl hp hk ha=>
   obtain⟨k,g2,g3,g4,g5,g6,g7,g8,g9,yt,ui,P0,wS⟩:=live hl;have pY:(σ.tx t).live=true:=h4 ▸ hl;have JE:last Q ⟨t,(X.getD t d0).b,(X.getD t d0).p,2,0,0⟩=true:=by rw[yX _ _ _ _ (by omega),hk];rfl
   refine⟨M,_,wr,by rw[h.at_ ht g4,if_neg (by decide),if_pos rfl,if_pos (by omega),Rd.yk g2 g9 hp,JE],?_⟩;have md:=Co.law (.refl (σ:=σ) (t:=t)) h.pw h.gm pY;have ig:=tok k g3 g5;simp only[if_true];have:=h.Ef ht (x':={ r.tr.getD k aK with aJ:=(r.tr.getD k aK).aJ++[⟨2,0,0⟩],gF:=(r.tr.getD k aK).gF++[(i:Int)],en:=2,dr:=i }) (b':=(X.getD t d0).b+1) g3 hl g2 g5 rfl rfl rfl σ md ha (by omega) (by omega) ?_
   ·rw[if_pos (by decide),h3];exact this
   ·refine⟨ig.th,ig.bl,ig.st,ig.se,⟨ig.fr.1,by have:=ig.fr.2;show(r.tr.getD k aK).fr<_;omega⟩,⟨?_,?_⟩,.inr (.inl (.inl ⟨rfl,?_⟩))⟩
    ·show((r.tr.getD k aK).aJ++[_]).length<=(bU Q (r.tr.getD k aK).th (r.tr.getD k aK).bl).length;rw[g5,g6,cX,List.length_singleton];omega
    ·show((r.tr.getD k aK).gF++[_]).length=((r.tr.getD k aK).aJ++[_]).length;rw[cX,cX,ig.al.2];rfl
    ·rcases ig.en with e|e|e
     ·refine⟨e.2.2.1,λa ha=>?_,?_⟩
      ·rcases mD.1 ha with h8|h8
       ·exact e.2.2.2.1 a h8
       ·rw[nu.1 h8];rfl
      ·obtain⟨y,hy⟩:=e.2.2.2.2;refine⟨y,?_⟩
       have:l9 y.1 y.2 ((bU Q (r.tr.getD k aK).th (r.tr.getD k aK).bl).getD (r.tr.getD k aK).aJ.length dD) 0=(y.1,y.2,0,0):=by
        rw[g5,g6,show(r.tr.getD k aK).aJ.length=(X.getD t d0).p.toNat by omega];have key:∀d:Dd,d.k=14->l9 y.1 y.2 d 0=(y.1,y.2,0,0):=λd hk=>by unfold l9;simp[hk]
        exact key _ hk
       exact ja hy this
     ·rcases e with e|e <;> have:=e.1 <;> omega
     ·have:=e.1;omega
end
end
