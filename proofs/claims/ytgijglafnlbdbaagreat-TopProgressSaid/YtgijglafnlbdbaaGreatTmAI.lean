import Derived.Test.YtgijglafnlbdbaaGreatTmAH
set_option linter.all false
set_option maxHeartbeats 4000000
set_option maxRecDepth 8000
namespace Go.Proofs.YtgijglafnlbdbaaGreat
open RowKit Shelf Proofs.Tryz
open Go renaming World->ag,Value->aA,Calls->aJ
section
theorem C0(d:Nat)(W:ag):(Op.equalIn (d+1) 48 .nilFunc .nilFunc).run prog W=.ok true W:=by
 simp[Op.equalIn,run_underlying Tryz.underlying48]
theorem CZ(d:Nat)(f:Fn)(a c:Array aA)(W:ag):(Op.equalIn (d+1) 48 (.func f a c) .nilFunc).run prog W=.ok false W:=by
 simp[Op.equalIn,run_underlying Tryz.underlying48]
theorem IH(W:ag):(Op.equal 48 .nilFunc .nilFunc).run prog W=.ok true W:=C0 9999 W
theorem IG(f:Fn)(a c:Array aA)(W:ag):(Op.equal 48 (.func f a c) .nilFunc).run prog W=.ok false W:=CZ 9999 f a c W
theorem yE(W:ag):(binOp .neq 48 .nilFunc .nilFunc).run prog W=.ok (.bool false) W:=by
 simp only[binOp];simp[IH]
theorem yD(f:Fn)(a c:Array aA)(W:ag):(binOp .neq 48 (.func f a c) .nilFunc).run prog W=.ok (.bool true) W:=by
 simp only[binOp];simp[IG]
theorem qz(P:Program)(w:ag)(a:Addr)(m:Mode)(f:Fn)(x y:Array aA):(store a (.func f x y) m).run P w=stored P w a (.func f x y) m:=run_store P w a _ m rfl
theorem qA(P:Program)(w:ag)(a:Addr)(m:Mode):(store a .nilFunc m).run P w=stored P w a .nilFunc m:=run_store P w a _ m rfl
attribute [local go_sem] yE yD qz qA
abbrev pV(c:Nat):aA:=bw c
def vB(c:Nat):Nat->aA
 | 0=>.nilFunc
 | 1=>.func (.func 161) #[pV c] #[]
 | _=>.func (.func 208) #[pV c] #[]
structure fP(w:ag)(b1 c hp ph:Nat)(rv lv:aA)(rd ls:aj):Prop where
 cs:af w c [pV hp,vB c ph,rv,lv]
 r:aI w b1 rv (nI rd)
 l:aI w b1 lv (nI ls)
 rc:¬ay rv c
 lc:¬ay lv c
 rl:∀b,ay rv b->¬ay lv b
 lo:b1<=c
def v_(c:Nat)(rv lv:aA)(k:Nat):Prop:=k=c\/ay rv k\/ay lv k
theorem fP.fr{S:Nat->Prop}{w w':ag}{b1 c hp ph:Nat}{rv lv:aA}{rd ls:aj}(h:fP w b1 c hp ph rv lv rd ls)(f:Fr S w w')(hs:∀k,v_ c rv lv k->¬S k):fP w' b1 c hp ph rv lv rd ls:=
 ⟨h.cs.fr f (hs c (.inl rfl)),h.r.dw f (λb hb=>hs b (.inr (.inl hb))),h.l.dw f (λb hb=>hs b (.inr (.inr hb))),h.rc,h.lc,h.rl,h.lo⟩
theorem fP.calm{w w':ag}{b1 c hp ph:Nat}{rv lv:aA}{rd ls:aj}(h:fP w b1 c hp ph rv lv rd ls)(f:Calm w w'):fP w' b1 c hp ph rv lv rd ls:=h.fr f (λ_ _=>id)
theorem fP.lt{w:ag}{b1 c hp ph:Nat}{rv lv:aA}{rd ls:aj}(h:fP w b1 c hp ph rv lv rd ls):∀k,v_ c rv lv k->k<w.heap.size/\b1<=k:=by
 rintro k (rfl|hk|hk)
 ·exact⟨h.cs.lt (by simp),h.lo⟩
 ·exact⟨(h.r.lt hk).2,(h.r.lt hk).1⟩
 ·exact⟨(h.l.lt hk).2,(h.l.lt hk).1⟩
theorem fP.c0{w:ag}{b1 c hp ph:Nat}{rv lv:aA}{rd ls:aj}(h:fP w b1 c hp ph rv lv rd ls):w.cell? ⟨c,0,none⟩=some (pV hp):=(h.cs 0 _ rfl).1
theorem fP.c1{w:ag}{b1 c hp ph:Nat}{rv lv:aA}{rd ls:aj}(h:fP w b1 c hp ph rv lv rd ls):Own w c 1 (vB c ph):=h.cs 1 _ rfl
theorem fP.c2{w:ag}{b1 c hp ph:Nat}{rv lv:aA}{rd ls:aj}(h:fP w b1 c hp ph rv lv rd ls):Own w c 2 rv:=h.cs 2 _ rfl
theorem fP.c3{w:ag}{b1 c hp ph:Nat}{rv lv:aA}{rd ls:aj}(h:fP w b1 c hp ph rv lv rd ls):Own w c 3 lv:=h.cs 3 _ rfl
theorem fP.MO{w:ag}{b1 c hp ph:Nat}{rv lv:aA}{rd ls:aj}(h:fP w b1 c hp ph rv lv rd ls)(DD:Nat):fP (w.setCell ⟨c,1,none⟩ (vB c DD)) b1 c hp DD rv lv rd ls:=by
 have f:=jR w (c) 1 (vB c DD);exact⟨h.cs.set 1 _ (by simp),h.r.dw f (λb hb (e:b=c)=>h.rc (e ▸ hb)),h.l.dw f (λb hb (e:b=c)=>h.lc (e ▸ hb)),h.rc,h.lc,h.rl,h.lo⟩
theorem fP.aaK{w w1:ag}{b1 c hp ph:Nat}{rv jM lv:aA}{rd rd' ls:aj}(h:fP w b1 c hp ph rv lv rd ls)(f1:Fr (λk=>ay rv k) w w1)(hr:aI w1 b1 jM (nI rd'))(hn:∀b,ay jM b->ay rv b\/w.heap.size<=b):fP (w1.setCell ⟨c,2,none⟩ jM) b1 c hp ph jM lv rd' ls:=by
 have f:Fr (λk=>k=c) w1 (w1.setCell ⟨c,2,none⟩ jM):=(Fr.refl (λk=>k=c) w1).setCell (p:=⟨c,2,none⟩) (.inl rfl) _;have aM:=h.lt
 have e1:∀b,ay jM b->b≠c/\¬ay lv b:=λb hb=>by
  rcases hn b hb with h1|h1
  ·exact⟨λe=>h.rc (e ▸ h1),h.rl b h1⟩
  ·exact⟨λe=>by have:=(aM c (.inl rfl)).1;omega,λe=>by have:=(aM b (.inr (.inr e))).1;omega⟩
 exact⟨(h.cs.fr f1 h.rc).set 2 _ (by simp),hr.dw f (λb hb=>(e1 b hb).1),(h.l.dw f1 (λb hb e=>h.rl b e hb)).dw f (λb hb (e:b=c)=>h.lc (e ▸ hb)),λe=>(e1 c e).1 rfl,h.lc,λb hb=>(e1 b hb).2,h.lo⟩
theorem fP.aaL{w:ag}{b1 c hp ph:Nat}{rv jM lv:aA}{rd rd' ls:aj}(h:fP w b1 c hp ph rv lv rd ls)(hr:aI w b1 jM (nI rd'))(e1:∀b,ay jM b->b≠c/\¬ay lv b):fP (w.setCell ⟨c,2,none⟩ jM) b1 c hp ph jM lv rd' ls:=by
 have f:Fr (λk=>k=c) w (w.setCell ⟨c,2,none⟩ jM):=(Fr.refl (λk=>k=c) w).setCell (p:=⟨c,2,none⟩) (.inl rfl) _;exact⟨h.cs.set 2 _ (by simp),hr.dw f (λb hb=>(e1 b hb).1),h.l.dw f (λb hb (e:b=c)=>h.lc (e ▸ hb)),λe=>(e1 c e).1 rfl,h.lc,λb hb=>(e1 b hb).2,h.lo⟩
theorem fP.jX{w w1:ag}{b1 c hp ph:Nat}{rv lv sg:aA}{rd ls ls':aj}(h:fP w b1 c hp ph rv lv rd ls)(f1:Fr (λk=>ay lv k) w w1)(hr:aI w1 b1 sg (nI ls'))(hn:∀b,ay sg b->ay lv b\/w.heap.size<=b):fP (w1.setCell ⟨c,3,none⟩ sg) b1 c hp ph rv sg rd ls':=by
 have f:Fr (λk=>k=c) w1 (w1.setCell ⟨c,3,none⟩ sg):=(Fr.refl (λk=>k=c) w1).setCell (p:=⟨c,3,none⟩) (.inl rfl) _;have aM:=h.lt
 have e1:∀b,ay sg b->b≠c/\¬ay rv b:=λb hb=>by
  rcases hn b hb with h1|h1
  ·exact⟨λe=>h.lc (e ▸ h1),λe=>h.rl b e h1⟩
  ·exact⟨λe=>by have:=(aM c (.inl rfl)).1;omega,λe=>by have:=(aM b (.inr (.inl e))).1;omega⟩
 exact⟨(h.cs.fr f1 h.lc).set 3 _ (by simp),(h.r.dw f1 (λb hb e=>h.rl b hb e)).dw f (λb hb (e:b=c)=>h.rc (e ▸ hb)),hr.dw f (λb hb=>(e1 b hb).1),h.rc,λe=>(e1 c e).1 rfl,λb hb e=>(e1 b e).2 hb,h.lo⟩
structure CH(w:ag)(b1 c:Nat)(BA:HB)(A:HS)(XA:aj)(ph:Nat)(rv lv:aA)(rd ls:aj):Prop where
 ha:cz w BA A XA
 cy:fP w b1 c BA.hp ph rv lv rd ls
 ap:∀k,v_ c rv lv k->¬dz BA k
theorem CH.calm{w w':ag}{b1 c:Nat}{BA:HB}{A:HS}{XA:aj}{ph:Nat}{rv lv:aA}{rd ls:aj}(h:CH w b1 c BA A XA ph rv lv rd ls)(f:Calm w w'):CH w' b1 c BA A XA ph rv lv rd ls:=⟨h.ha.calm f,h.cy.calm f,h.ap⟩
theorem CH.jz{w w':ag}{b1 c:Nat}{BA fF:HB}{A A':HS}{XA oQ:aj}{ph:Nat}{rv lv:aA}{rd ls:aj}(h:CH w b1 c BA A XA ph rv lv rd ls)(hA:cz w' fF A' oQ)(hK:bz w BA w' fF):CH w' b1 c fF A' oQ ph rv lv rd ls:=by
 refine⟨hA,by rw[hK.hp];exact h.cy.fr hK.fr (λk hk=>h.ap k hk),λk hk e=>?_⟩;rcases hK.new k e with h1|h1
 ·exact h.ap k hk h1
 ·have:=(h.cy.lt k hk).1;omega
structure dg(w:ag)(c:Nat)(rv lv:aA)(BA:HB)(w':ag)(jM sg:aA)(fF:HB):Prop where
 fr:Fr (λk=>v_ c rv lv k\/dz BA k) w w'
 new:∀k,dz fF k->dz BA k\/w.heap.size<=k
 J7:∀k,v_ c jM sg k->v_ c rv lv k\/w.heap.size<=k
 hp:fF.hp=BA.hp
theorem dg.refl(w:ag)(c:Nat)(rv lv:aA)(BA:HB):dg w c rv lv BA w rv lv BA:=⟨ah,λ_ h=>.inl h,λ_ h=>.inl h,rfl⟩
theorem dg.calm{w w':ag}{c:Nat}{rv lv:aA}{BA:HB}(f:Calm w w'):dg w c rv lv BA w' rv lv BA:=⟨f.any,λ_ h=>.inl h,λ_ h=>.inl h,rfl⟩
theorem dg.jz{w w':ag}{c:Nat}{rv lv:aA}{BA fF:HB}(h:bz w BA w' fF):dg w c rv lv BA w' rv lv fF:=⟨h.fr.mono (λ_ _ e=>.inr e),h.new,λ_ h=>.inl h,h.hp⟩
theorem dg.trans{w w1 w2:ag}{c:Nat}{rv lv rv1 lv1 rv2 lv2:aA}{BA qC BA2:HB}(h:dg w c rv lv BA w1 rv1 lv1 qC)(k:dg w1 c rv1 lv1 qC w2 rv2 lv2 BA2):dg w c rv lv BA w2 rv2 lv2 BA2:=by
 have hs:=h.fr.size;refine⟨h.fr.join k.fr (λj hj e=>?_),λj hj=>?_,λj hj=>?_,k.hp.trans h.hp⟩
 ·rcases e with e|e
  ·exact .inl ((h.J7 j e).resolve_right (by omega))
  ·exact .inr ((h.new j e).resolve_right (by omega))
 ·rcases k.new j hj with h1|h1
  ·exact h.new j h1
  ·right;omega
 ·rcases k.J7 j hj with h1|h1
  ·exact h.J7 j h1
  ·right;omega
theorem dg.cells{w w':ag}{c:Nat}{rv lv jM sg:aA}{BA:HB}(f:Fr (λk=>v_ c rv lv k) w w')(hn:∀k,v_ c jM sg k->v_ c rv lv k\/w.heap.size<=k):dg w c rv lv BA w' jM sg BA:=
 ⟨f.mono (λ_ _ e=>.inl e),λ_ h=>.inl h,hn,rfl⟩
theorem J8(w:ag)(hp:Nat):aJ prog 37 #[pV hp] w λe w'=>e=.returned (pV w.heap.size)/\fP w' w.heap.size w.heap.size hp 0 (.slice none 0 0) (.slice none 0 0) [] []/\Calm w w':=by
 go_in;go_wp2;go_ret;exact⟨rfl,⟨af.new w [pV hp,.nilFunc,.slice none 0 0,.slice none 0 0] _,aI.nil _ _,aI.nil _ _,ay.nil _,ay.nil _,λb hb=>(ay.nil b hb).elim,aD _⟩,ah.alloc _⟩
section
variable {w:ag}{b1 c hp ph:Nat}{rv lv:aA}{rd ls:aj}
theorem tF(h:fP w b1 c hp ph rv lv rd ls):aJ prog 87 #[pV c] w λe w'=>e=.returned (.bool (decide (ph≠0)))/\w=w':=by
 have h1:=h.c1.1;clear h
 revert h1
 match ph with
 | 0=>
   intro h1;unfold vB at h1;go_in;go_wp2;go_ret;exact⟨rfl,rfl⟩
 | 1=>
   intro h1;unfold vB at h1;go_in;go_wp2;go_ret;exact⟨rfl,rfl⟩
 | n+2=>
   intro h1;unfold vB at h1;go_in;go_wp2;go_ret;exact⟨by simp,rfl⟩
theorem MC(h:fP w b1 c hp ph rv lv rd ls):aJ prog 98 #[pV c] w λe w'=>e=.returned rv/\fP w' b1 c hp ph (.slice none 0 0) lv [] ls/\aI w' b1 rv (nI rd)/\Fr (λk=>k=c) w w':=by
 have z0:=h.c2.1;have z1:=h.c2.2;have hy:=hid (h.aaK ah (aI.nil w b1) (rd':=[]) (λb hb=>(ay.nil b hb).elim));have hr:Hid (aI (w.setCell ⟨c,2,none⟩ (.slice none 0 0)) b1 rv (nI rd)):=h.r.dw ((Fr.refl (λk=>k=c) w).setCell (p:=⟨c,2,none⟩) (.inl rfl) _) (λb hb (e:b=c)=>h.rc (e ▸ hb));obtain⟨ra,rn,rc,rfl⟩:=h.r.letters;clear h;go_in;go_wp2;go_ret;exact⟨rfl,hy.out,hr.out,(Fr.refl (λk=>k=c) w).setCell (p:=⟨c,2,none⟩) (.inl rfl) _⟩
theorem Qf(h:fP w b1 c hp ph rv lv rd ls):aJ prog 100 #[pV c] w λe w'=>e=.returned lv/\fP w' b1 c hp ph rv (.slice none 0 0) rd []/\aI w' b1 lv (nI ls)/\Fr (λk=>k=c) w w':=by
 have z0:=h.c3.1;have z1:=h.c3.2;have hy:=hid (h.jX ah (aI.nil w b1) (ls':=[]) (λb hb=>(ay.nil b hb).elim));have hr:Hid (aI (w.setCell ⟨c,3,none⟩ (.slice none 0 0)) b1 lv (nI ls)):=h.l.dw ((Fr.refl (λk=>k=c) w).setCell (p:=⟨c,3,none⟩) (.inl rfl) _) (λb hb (e:b=c)=>h.lc (e ▸ hb));obtain⟨ra,rn,rc,rfl⟩:=h.l.letters;clear h;go_in;go_wp2;go_ret;exact⟨rfl,hy.out,hr.out,(Fr.refl (λk=>k=c) w).setCell (p:=⟨c,3,none⟩) (.inl rfl) _⟩
end
def Tm(w:ag)(A:HS)(BA:HB)(l:aj)(v:aA)(k:Nat)(wr:ag):Prop:=
 ∃A1 l1 qC GZ,cK A (l.take k) A1 l1/\cz wr qC A1 GZ/\bz w BA wr qC/\aI wr w.heap.size v (nI l1)/\∀b,ay v b->¬dz qC b
def FI(w:ag)(A:HS)(BA:HB)(l:aj)(e:Ending)(w':ag):Prop:=
 ∃u A1 l1 qC GZ,e=.returned u/\cK A l A1 l1/\cz w' qC A1 GZ/\bz w BA w' qC/\aI w' w.heap.size u (nI l1)/\∀b,ay u b->¬dz qC b
theorem xJ{w:ag}{c:Nat}{BA:HB}{A:HS}{XA:aj}(h:cz w BA A XA)(hc:w.cell? ⟨c,0,none⟩=some (eU BA))(hcB:¬dz BA c){v:aA}{l:aj}(aP:∀W,Fr (dz BA) w W->Row W v (lj (nI l)))(hl:∀p∈l,p<=131072)(hlen:l.length<=100000) :
 aJ prog 162 #[pV c,v] w (FI w A BA l):=by
 obtain⟨N,hN⟩:=ao l.length;obtain⟨va,vc,hv,qg⟩:=(aP w ah).loop;replace hv:v=.slice va N vc:=by rw[hv];simp[hN]
 subst hv;rw[hN] at hlen
 have Zn:c<w.heap.size:=by
  rcases fB c w.heap.size with h1|h1
  ·exact h1
  ·simp[World.cell?,Array.getElem?_eq_none h1] at hc
 have kg:Hid (Tm w A BA l (.slice none 0 0) 0 w):=⟨A,[],BA,XA,by rw[List.take_zero];exact .nil,h,bz.refl _ _,aI.nil _ _,λb hb=>(ay.nil b hb).elim⟩;replace aP:=hid aP;replace hl:=hid hl;replace hN:=hid hN;have uA:=hid hc;clear h qg hc;go_in;go_wp2_with fail
 go_loopw [5,10] (λx i wr=>∃k:Nat,k<=N/\i=vI k/\Tm w A BA l x k wr) (λ_ i _=>N-(intOf i).toNat)
 case atStart=>exact⟨0,by omega,rfl,kg.out⟩
 case round=>
  clear kg;obtain⟨k,hk,rfl,A1,l1,qC,GZ,hg,hA,hK,hr,cT⟩:=hrel;rename_i xv _;obtain⟨xa,xn,xc,rfl⟩:=hr.letters;rcases fB k N with aM|ic
  ·have ki:k<l.length:=by rw[hN.out];exact aM
   have qI:l1.length=k:=by rw[hg.len,List.length_take];omega
   obtain⟨ra,rc,Sq,hrk⟩:=(aP.out wr hK.fr).loop;injection Sq with e1 e2 e3
   subst e1;obtain⟨b,off,rfl,-,hcell⟩:=hrk k (by simpa using ki);rw[show(nI l).getD k 0=((l.getD k 0:Nat):Int) by simp[List.getD,ki]] at hcell;have jT:=hK.fr.cellAt uA.out hcB;have Sg:l.getD k 0<=131072:=hl.out _ (by simp[List.getD,ki]);have BX:=zD hA Sg;rw[show eU qC=eU BA by unfold eU;rw[hK.hp]] at BX;have iG:=hK.fr.size
   have cM:Hid (∀ (W:ag) (A2:HS) (q:Nat) (g2:Goes A1 (l.getD k 0) A2 q) (B2:HB) (X2:aj),cz W B2 A2 X2->bz wr qC W B2->aI W w.heap.size (.slice xa xn xc) (nI l1)/\(∀ (g gc:Nat) (W2:ag),aI W2 w.heap.size (.slice (some ⟨g,0,none⟩) ((nI l1).length+1) gc) (nI l1++[((q:Nat):Int)])->Fr (ay (.slice xa xn xc)) W W2->(ay (.slice xa xn xc) g\/W.heap.size<=g)->Tm w A BA l (.slice (some ⟨g,0,none⟩) ((nI l1).length+1) gc) (k+1) W2)):=λW A2 q g2 B2 X2 h2 k2=>by
    have rV:=hr.dw k2.fr (λb hb=>cT b hb)
    have Z2:∀b,ay (.slice xa xn xc) b->¬dz B2 b:=λb hb e=>by
     rcases k2.new b e with h3|h3
     ·exact cT b hb h3
     ·have:=(hr.lt hb).2;omega
    refine⟨rV,λg gc W2 fp f3 BR=>⟨A2,l1++[q],B2,X2,?_,h2.fr f3 (λb hb e=>Z2 b e hb),(hK.trans k2).gL f3 (λj hj e=>by have:=(hr.lt e).1;omega),by simpa using fp,λb hb=>?_⟩⟩
    ·rw[dR l ki];exact .snoc hg g2
    ·have:=ay.fJ hb;subst this;rcases BR with h3|h3
     ·exact Z2 b h3
     ·intro e;have:=h2.lt b e;omega
   have abG:Hid (l1.length=k):=qI;replace BX:=hid BX;clear hg hA hK hr cT qI hrk Sg e2 e3;generalize l.getD k 0=p at *;have BW:(nI l1).length<=1000000:=by rw[show(nI l1).length=l1.length by simp];have:=abG.out;omega
   go_wp2_with fail
   refine(BX.out).mono ?_;rintro e w4 ⟨A2,q,g2,rfl,B2,X2,h2,k2⟩;obtain⟨rV,nY⟩:=cM.out w4 A2 q g2 B2 X2 h2 k2;have KH:w.heap.size<=w4.heap.size:=by have:=k2.fr.size;omega
   replace rV:=hid rV;replace nY:=hid nY;clear cM g2 h2 k2 BX;go_wp2_with (at_builtin;go_must (refine cU rfl _ _ rfl w.heap.size _ (nI l1) rV.out rfl ((q:Nat):Int) rfl BW KH ?_);intro g gc w7 lZ hf7 wO)
   have hI:=nY.out g gc w7 lZ hf7 wO;replace hI:=hid hI;clear nY lZ hf7 wO rV;go_wp2
   go_roundw
   case rel=>exact⟨k+1,by omega,by go_num,by rw[show l1.length=(nI l1).length by simp];exact hI.out⟩
   case measure=>simp[intOf];omega
  ·obtain rfl:k=N:=by omega
   have hP:Hid (FI w A BA l (.returned (.slice xa xn xc)) wr):=⟨_,A1,l1,qC,GZ,rfl,by rw[List.take_of_length_le (by rw[hN.out];exact aD _)] at hg;exact hg,hA,hK,hr,cT⟩;clear hg hA hK hr cT;go_wp2;go_ret;exact hP.out
def GX(w:ag)(b1 c:Nat)(BA:HB)(A:HS)(rv lv:aA)(rd ls l:aj)(e:Ending)(w':ag):Prop:=
 ∃u A1 A2 l1 Gy fF oQ jM,e=.returned (.tuple #[u,.bool true])/\cK A.flip l A1 l1/\cK A1 rd A2 Gy/\CH w' b1 c fF A2 oQ 1 jM lv Gy ls/\dg w c rv lv BA w' jM lv fF/\aI w' w.heap.size u (nI l1)/\∀b,ay u b->¬dz fF b/\¬v_ c jM lv b
theorem IX{w:ag}{b1 c:Nat}{BA:HB}{A:HS}{XA:aj}{rv lv:aA}{rd ls:aj}(h:CH w b1 c BA A XA 0 rv lv rd ls)(hm:A.mv=false){v:aA}{l:aj}(aP:∀W,Fr (λk=>k=c\/dz BA k) w W->Row W v (lj (nI l)))(hl:∀p∈l,p<=131072)(hlen:l.length<=100000)(hd:∀p∈rd,p<=131072)(uC:rd.length<=100000) :
 aJ prog 89 #[pV c,v] w (GX w b1 c BA A rv lv rd ls l):=by
 have qG:=hid (HK h.ha hm);have y1:=h.cy.c1.1;have y0:=h.cy.c0;unfold vB at y1;obtain⟨va,vc,hv,-⟩:=(aP w ah).loop;have Lr:=hid aP;rw[show(nI l).length=l.length by simp] at hv;rw[hv] at Lr;subst hv;have H:=hid h;clear aP h;go_in;go_wp2_with fail
 refine(qG.out).mono ?_;rintro e w1 ⟨rfl,Ht,Bv⟩;have H1:=H.out.jz Ht Bv;have VV:=dg.jz (c:=c) (rv:=rv) (lv:=lv) Bv;generalize BA.flip A.u=qC at *;have z1:=H1.cy.c1;have z1a:=z1.1;have z1b:=z1.2;unfold vB at z1a;have H2:CH (w1.setCell ⟨c,1,none⟩ (vB c 1)) b1 c qC A.flip XA 1 rv lv rd ls:=⟨H1.ha.fr ((Fr.refl (λk=>k=c) w1).setCell (p:=⟨c,1,none⟩) (.inl rfl) _) (λk hk (e:k=c)=>H1.ap c (.inl rfl) (e ▸ hk)),H1.cy.MO 1,H1.ap⟩;have kk2:dg w1 c rv lv qC (w1.setCell ⟨c,1,none⟩ (vB c 1)) rv lv qC:=dg.cells ((Fr.refl _ w1).setCell (p:=⟨c,1,none⟩) (.inl (.inl rfl)) _) (λ_ h=>.inl h);replace VV:=VV.trans kk2;have N8:Hid (Fr (λk=>k=c\/dz BA k) w (w1.setCell ⟨c,1,none⟩ (vB c 1))):=(Bv.fr.mono (λ_ _ e=>.inr e)).setCell (p:=⟨c,1,none⟩) (.inl (.inl rfl)) _;have R_:=hid Bv.new;unfold vB at H2 VV N8;replace H2:=hid H2;replace VV:=hid VV;clear Ht Bv H1 kk2 z1 H qG;go_wp2_with fail
 generalize World.setCell w1 _ _=w2 at *
 have wT:=xJ (c:=c) H2.out.ha (show w2.cell? ⟨c,0,none⟩=some (eU qC) from H2.out.cy.c0) (H2.out.ap c (.inl rfl)) (v:=.slice va l.length vc) (l:=l) (λW f=>by
  have:=Lr.out W (N8.out.join f (λj hj e=>.inr ((R_.out j e).resolve_right (by omega))))
  simpa using this) hl hlen
 replace wT:=hid wT;refine(wT.out).mono ?_;rintro e w3 ⟨u,A1,l1,BA2,XA2,rfl,g1,Az,Jk,fp,Zd⟩;have H3:=H2.out.jz Az Jk;have kk3:=VV.out.trans (dg.jz (c:=c) (rv:=rv) (lv:=lv) Jk);have y2:=H3.cy.c2.1;have Wz:=H3.cy.c0;obtain⟨ua,un,uc,rfl⟩:=fp.letters;obtain⟨ra,rn,rc,rfl⟩:=H3.cy.r.letters;have ZZ:=hid (xJ (c:=c) H3.ha (show w3.cell? ⟨c,0,none⟩=some (eU BA2) from H3.cy.c0) (H3.ap c (.inl rfl)) (v:=.slice ra rn rc) (l:=rd) (λW f=>(H3.cy.r.dw f (λb hb=>H3.ap b (.inr (.inl hb)))).row) hd uC);replace H3:=hid H3;replace kk3:=hid kk3;replace fp:=hid fp;have UQ:Hid (w.heap.size<=w2.heap.size):=N8.out.size;have KD:=hid Zd;have aam:=hid Jk.fr.size;have dO:=hid H2.out.cy.lt;clear wT Az Jk Zd VV H2 N8 R_ y0 y1;go_wp2_with fail
 refine(ZZ.out).mono ?_;rintro e w4 ⟨u2,A2,l2,BA3,XA3,rfl,g2,hA4,WU,nX,Ze⟩;have H4:=H3.out.jz hA4 WU;have kk4:=kk3.out.trans (dg.jz (c:=c) (rv:=.slice ra rn rc) (lv:=lv) WU);obtain⟨Tc,Te,Td,rfl⟩:=nX.letters;have lF:=H3.out.cy.lt;have hf5:=jR w4 (c) 2 (.slice Tc Te Td);have ac3:=WU.fr.size
 have sU:∀b,ay (.slice Tc Te Td) b->b≠c/\¬ay lv b/\w3.heap.size<=b:=λb hb=>by
  have h1:=(nX.lt hb).1;exact⟨λe=>by have:=(lF c (.inl rfl)).1;omega,λe=>by have:=(lF b (.inr (.inr e))).1;omega,h1⟩
 have H5:CH (w4.setCell ⟨c,2,none⟩ (.slice Tc Te Td)) b1 c BA3 A2 XA3 1 (.slice Tc Te Td) lv l2 ls:=⟨H4.ha.fr hf5 (λk hk (e:k=c)=>H4.ap c (.inl rfl) (e ▸ hk)),H4.cy.aaL (nX.mono (by have:=(lF c (.inl rfl));omega)) (λb hb=>⟨(sU b hb).1,(sU b hb).2.1⟩),λk hk e=>by
  rcases hk with rfl|hk|hk
  ·exact H4.ap _ (.inl rfl) e
  ·exact Ze k hk e
  ·exact H4.ap _ (.inr (.inr hk)) e⟩
 have Ep:=UQ.out;have ab5:=aam.out
 have kk5:dg w c (.slice ra rn rc) lv BA (w4.setCell ⟨c,2,none⟩ (.slice Tc Te Td)) (.slice Tc Te Td) lv BA3:=by
  refine⟨kk4.fr.join hf5 (λj _ e=>.inl (.inl e)),kk4.new,λk hk=>?_,kk4.hp⟩;rcases hk with rfl|hk|hk
  ·exact .inl (.inl rfl)
  ·right;have:=(sU k hk).2.2;omega
  ·exact .inl (.inr (.inr hk))
 have o2:=H4.cy.c2;have o2a:=o2.1;have o2b:=o2.2
 have Ca:Hid (aI (w4.setCell ⟨c,2,none⟩ (.slice Tc Te Td)) w.heap.size (.slice ua un uc) (nI l1)):=
  ((fp.out.dw WU.fr (λb hb=>KD.out b hb)).dw hf5 (λb hb (e:b=c)=>by have:=(fp.out.lt hb).1;have:=(dO.out c (.inl rfl)).1;omega)).mono Ep
 have abh:Hid (∀b,ay (.slice ua un uc) b->¬dz BA3 b/\¬v_ c (.slice Tc Te Td) lv b):=λb hb=>by
  have h1:=fp.out.lt hb;refine⟨λe=>?_,λe=>?_⟩
  ·rcases WU.new b e with h2|h2
   ·exact KD.out b hb h2
   ·omega
  ·rcases e with e|e|e
   ·have:=(dO.out c (.inl rfl)).1;omega
   ·have:=(sU b e).2.2;omega
   ·have:=(dO.out b (.inr (.inr e))).1;omega
 replace H5:=hid H5;replace kk5:=hid kk5;have g1':=hid g1;have g2':=hid g2;clear H4 kk4 nX Ze hA4 WU o2 sU hf5 lF H3 kk3 ZZ fp KD UQ Lr;go_wp2
 go_ret2
 exact⟨_,A1,A2,l1,l2,BA3,XA3,_,rfl,g1'.out,g2'.out,H5.out,kk5.out,Ca.out,abh.out⟩
theorem yI{ops:Array Oper}{o:Oper}{a:Act}{w:ag}{K:Act->ag->Prop}{Q:Exit->Act->ag->Prop}{E:Prop}(pH:o.guard=none)(s x:Operand)
 (ho:o.op=.call { callee:=.builtin .append,args:=#[s,x],argTypes:=#[43,43] })
 (base:Nat) (v:aA) (l:List Int) (bS:aI w base v l) (hs:a.eval s=v) (u:aA) (r:List Int) (hr:Row w u (lj r)) (hx:a.eval x=u) (hl:l.length+r.length<=1000000) (oz:base<=w.heap.size)
 (h:∀v' w',aI w' base v' (l++r)->Fr (ay v) w w'->(∀b,ay v' b->ay v b\/w.heap.size<=b)->K (a.put o.dst v') w') :
 if Region.wanted o (yielded ops a.tmps)=true then Oper.wp prog o a w K Q else E:=by
 obtain⟨A,c,rfl,hA⟩:=hr;have hlen:(lj r).length=r.length:=by simp
 rw[hlen] at hx;rcases A with _|ad
 ·obtain rfl:r=[]:=by
   rcases hA with hA|⟨b,off,hb,_⟩
   ·simpa using hA
   ·cases hb
  have hw:Region.wanted o (yielded ops a.tmps)=true:=by simp[Region.wanted,pH]
  rw[if_pos hw];have mE:=qy bS o.type c;unfold Oper.wp execOp;simp only[ho,resolve,invoke,builtin,Sem.run_bind,Sem.run_pure,Result.andThen_ok,List.map_toArray,List.map_cons,List.map_nil,hs,hx,List.length_nil,mE];exact h v w (by simpa using bS) ah (λb hb=>.inl hb)
 ·obtain⟨i0,hi,iR,iT,jm⟩:=info_parts jV;have hw:Region.wanted o (yielded ops a.tmps)=true:=by simp[Region.wanted,pH]
  rw[if_pos hw]
  obtain⟨v',w',mE,fO,eK,_,jr⟩:=run_append_own_at (P:=prog) w base 43 o.type 3 i0 (vI 0) 1 8 Tryz.underlying43 hi iR iT jm rfl (by decide) v l.length (lj l) bS ad r.length c (lj r) (by simp) (λj y hj=>by
   have wQ:j<(lj r).length:=(List.getElem?_eq_some_iff.1 hj).1;rcases hA with hA|⟨b,off,hb,hc⟩
   ·rw[hA] at wQ;simp at wQ
   ·cases hb;rw[dM,hc j wQ];rw[lQ wQ] at hj
    exact hj) (by simp[Value.oneCell']) (by unfold maxLen;omega) (by omega) oz
  unfold Oper.wp execOp;simp only[ho,resolve,invoke,builtin,Sem.run_bind,Sem.run_pure,Result.andThen_ok,List.map_toArray,List.map_cons,List.map_nil,hs,hx,mE];refine h v' w' ?_ (Fr.grown ah eK (λk hk=>.inl hk)) ?_
  ·show World.ownsRow _ _ _ _ _ _ _;rw[b_,lj,List.map_append];exact fO
  ·intro b hb;rcases jr with jr|jr
   ·exact .inl (jr.symm.trans hb)
   ·right;have:some w.heap.size=some b:=jr.symm.trans hb;injection this with this;omega
def XV(w:ag)(BA:HB)(Q:HS->aj->Prop)(e:Ending)(w':ag):Prop:=
 ∃u l' A' fF oQ,e=.returned u/\cz w' fF A' oQ/\bz w BA w' fF/\aI w' w.heap.size u (nI l')/\(∀b,ay u b->¬dz fF b)/\l'.length<=100000/\Q A' l'
def xz(w:ag)(b1 c:Nat)(BA:HB)(rv lv:aA)(rd ls:aj)(Q:HS->aj->Prop)(e:Ending)(w':ag):Prop:=
 e=.returned (.bool false)/\∃l' A' fF oQ jM,CH w' b1 c fF A' oQ 2 jM lv (rd++l') ls/\dg w c rv lv BA w' jM lv fF/\Q A' l'
theorem Kk{w:ag}{b1 c:Nat}{BA:HB}{A:HS}{XA:aj}{ph:Nat}{rv lv:aA}{rd ls:aj}{Q:HS->aj->Prop}(h:CH w b1 c BA A XA ph rv lv rd ls)(uC:rd.length<=100000)
 (hF:∀W,Calm w W->aJ prog 207 #[eU BA] W (XV W BA Q)) :
 aJ prog 161 #[pV c] w (xz w b1 c BA rv lv rd ls Q):=by
 have y0:=h.cy.c0;have y2:=h.cy.c2.1;have y2b:=h.cy.c2.2;have Zn:=(h.cy.lt c (.inl rfl)).1;have Lb:Hid (b1<=w.heap.size):=by have:=h.cy.lo;show b1<=_;omega
 obtain⟨ra,rn,rc,rfl⟩:=h.cy.r.letters;have BJ:=hid uC;replace hF:=hid hF;have H:=hid h;clear h uC;go_in;go_wp2_with fail
 go_region_law (first
  | (refine yI rfl _ _ rfl b1 (.slice ra rn rc) (nI rd) gA.out rfl (.slice ua un uc) (nI l') Dz.out.row rfl (by simp;have:=BJ.out;have:=PU.out;omega) (by have:=Lb.out;have:=iG.out;omega) ?_;intro v' w7 lZ f7 HZ;have m0:=f7.cellAt z0 Ek.out;have m2:=f7.cellAt z2 Ek.out;have m2b:=f7.frozenAt z2 z2b Ek.out;obtain⟨va,vn,vc,rfl⟩:=lZ.letters;replace lZ:=hid lZ;replace f7:=hid f7;replace HZ:=hid HZ)
  | (go_simp;go_at_call 207;refine(hF.out _ (by first|exact ah|exact ah.drew)).mono ?_;rintro e w6 ⟨u,l',A',fF,oQ,rfl,hA,hK,hu,oH,PU,hq⟩;have H6:=hid ((H.out.calm (by first|exact ah|exact ah.drew)).jz hA hK);have iG:Hid (w.heap.size<=w6.heap.size):=hK.fr.size;have BV:Hid (dg w c (.slice ra rn rc) lv BA w6 (.slice ra rn rc) lv fF):=(dg.calm (by first|exact ah|exact ah.drew)).trans (dg.jz hK);have z0:w6.cell? ⟨c,0,none⟩=some (eU BA):=(by have:=H6.out.cy.c0;rw[hK.hp] at this;exact this);have z2:=H6.out.cy.c2.1;have z2b:=H6.out.cy.c2.2;have gA:=hid H6.out.cy.r;have Ek:Hid (¬ay (.slice ra rn rc) c):=H6.out.cy.rc;have ZT:=hid H6.out.cy.lt;obtain⟨ua,un,uc,rfl⟩:=hu.letters;have Dz:=hid hu;have aca:=hid oH;replace PU:=hid PU;replace hq:=hid hq;clear hA hK hu oH))
 all_goals
  have f7':=f7.out;have PX:=HZ.out;have n1:Own w7 c 1 (vB c ph):=H6.out.cy.c1.fr f7' Ek.out;have n1a:=n1.1;have n1b:=n1.2;have hy:=hid ((H6.out.cy.aaK f7' (by simpa using lZ.out) (rd':=rd++l') PX).MO 2)
  have KF:∀b,ay (.slice va vn vc) b->¬dz fF b:=λb hb e=>by
   rcases PX b hb with h1|h1
   ·exact H6.out.ap b (.inr (.inl h1)) e
   ·have:=H6.out.ha.lt b e;omega
  have f8:Fr (λk=>k=c\/ay (.slice ra rn rc) k) w6 ((w7.setCell ⟨c,2,none⟩ (.slice va vn vc)).setCell ⟨c,1,none⟩ (vB c 2)):=
   ((f7'.mono (λ_ _ e=>.inr e)).setCell (p:=⟨c,2,none⟩) (.inl (.inl rfl)) _).setCell (p:=⟨c,1,none⟩) (.inl (.inl rfl)) _
  have hP:Hid (xz w b1 c BA (.slice ra rn rc) lv rd ls Q (.returned (.bool false)) ((w7.setCell ⟨c,2,none⟩ (.slice va vn vc)).setCell ⟨c,1,none⟩ (vB c 2))):=by
   refine⟨rfl,l',A',fF,oQ,.slice va vn vc,⟨H6.out.ha.fr f8 (λk hk e=>?_),hy.out,λk hk e=>?_⟩,BV.out.trans (dg.cells (f8.mono (λk _ e=>?_)) (λk hk=>?_)),hq.out⟩
   ·rcases e with e|e
    ·exact H6.out.ap c (.inl rfl) (e ▸ hk)
    ·exact H6.out.ap k (.inr (.inl e)) hk
   ·rcases hk with hk|hk|hk
    ·exact H6.out.ap k (.inl hk) e
    ·exact KF k hk e
    ·exact H6.out.ap k (.inr (.inr hk)) e
   ·rcases e with e|e
    ·exact .inl e
    ·exact .inr (.inl e)
   ·rcases hk with hk|hk|hk
    ·exact .inl (.inl hk)
    ·rcases PX k hk with h1|h1
     ·exact .inl (.inr (.inl h1))
     ·right;exact h1
    ·exact .inl (.inr (.inr hk))
  unfold vB at hP;unfold vB at n1a;clear hy f8 KF n1 f7' PX lZ f7 HZ H6 Dz gA hq BV hF H aca ZT;go_wp2;go_ret;exact hP.out
def XQ(w:ag)(BA:HB)(Q:HS->aj->Prop)(e:Ending)(w':ag):Prop:=
 ∃v LO A' fF oQ,e=.returned (.tuple #[v,.bool true])/\cz w' fF A' oQ/\bz w BA w' fF/\aI w' w.heap.size v (nI LO)/\LO.length<=100000/\Q A' LO
def tZ(w:ag)(b1 c:Nat)(BA:HB)(rv lv:aA)(rd ls:aj)(Q:HS->aj->Prop)(e:Ending)(w':ag):Prop:=
 e=.returned (.bool true)/\∃LO A' fF oQ sg,CH w' b1 c fF A' oQ 0 rv sg rd (ls++LO)/\dg w c rv lv BA w' rv sg fF/\Q A' LO
theorem IJ{w:ag}{b1 c:Nat}{BA:HB}{A:HS}{XA:aj}{ph:Nat}{rv lv:aA}{rd ls:aj}{Q:HS->aj->Prop}(h:CH w b1 c BA A XA ph rv lv rd ls)(uC:ls.length<=100000)
 (hF:aJ prog 242 #[eU BA] w (XQ w BA Q)) :
 aJ prog 208 #[pV c] w (tZ w b1 c BA rv lv rd ls Q):=by
 have y0:=h.cy.c0;have Zn:=(h.cy.lt c (.inl rfl)).1;have Lb:Hid (b1<=w.heap.size):=by have:=h.cy.lo;show b1<=_;omega
 obtain⟨la,ln,lc,rfl⟩:=h.cy.l.letters;have BJ:=hid uC;replace hF:=hid hF;have H:=hid h;clear h uC;go_in;go_wp2_with fail
 refine(hF.out).mono ?_;rintro e w6 ⟨u,LO,A',fF,oQ,rfl,hA,hK,hu,PU,hq⟩;have H6:=H.out.jz hA hK;have iG:Hid (w.heap.size<=w6.heap.size):=hK.fr.size;have BV:Hid (dg w c rv (.slice la ln lc) BA w6 rv (.slice la ln lc) fF):=dg.jz hK;have z0:w6.cell? ⟨c,0,none⟩=some (eU BA):=by have:=H6.cy.c0;rw[hK.hp] at this;exact this
 have z3:=H6.cy.c3.1;have z3b:=H6.cy.c3.2;have z1:=H6.cy.c1;have gA:=hid H6.cy.l;have Ek:Hid (¬ay (.slice la ln lc) c):=H6.cy.lc;obtain⟨ua,un,uc,rfl⟩:=hu.letters;have Dz:=hid hu;have hlx:(nI ls).length+(nI LO).length<=1000000:=by simp;have:=BJ.out;omega
 have hbx:b1<=w6.heap.size:=by have:=Lb.out;have:=iG.out;omega
 replace H6:=hid H6;replace hq:=hid hq;replace z1:=hid z1;replace hlx:=hid hlx;clear hA hK hu PU hF H y0 BJ;go_wp2_with (at_builtin;go_must (refine nD rfl _ _ rfl b1 (.slice la ln lc) (nI ls) gA.out rfl (.slice ua un uc) (nI LO) Dz.out.row rfl hlx.out hbx ?_;intro v' w7 lZ f7 HZ;obtain⟨va,vn,vc,rfl⟩:=lZ.letters;have m3:=f7.cellAt z3 Ek.out;have m3b:=f7.frozenAt z3 z3b Ek.out;have m1a:=(z1.out.fr f7 Ek.out).1;have m1b:=(z1.out.fr f7 Ek.out).2;replace lZ:=hid lZ;replace f7:=hid f7;replace HZ:=hid HZ))
 replace lZ:=lZ.out;replace f7:=f7.out;replace HZ:=HZ.out;have hy:=hid ((H6.out.cy.jX f7 (by simpa using lZ) (ls':=ls++LO) HZ).MO 0);have ZT:=hid H6.out.cy.lt
 have KF:∀b,ay (.slice va vn vc) b->¬dz fF b:=λb hb e=>by
  rcases HZ b hb with h1|h1
  ·exact H6.out.ap b (.inr (.inr h1)) e
  ·have:=H6.out.ha.lt b e;omega
 have f8:Fr (λk=>k=c\/ay (.slice la ln lc) k) w6 ((w7.setCell ⟨c,3,none⟩ (.slice va vn vc)).setCell ⟨c,1,none⟩ (vB c 0)):=
  ((f7.mono (λ_ _ e=>.inr e)).setCell (p:=⟨c,3,none⟩) (.inl (.inl rfl)) _).setCell (p:=⟨c,1,none⟩) (.inl (.inl rfl)) _
 have hP:Hid (tZ w b1 c BA rv (.slice la ln lc) rd ls Q (.returned (.bool true)) ((w7.setCell ⟨c,3,none⟩ (.slice va vn vc)).setCell ⟨c,1,none⟩ (vB c 0))):=by
  refine⟨rfl,LO,A',fF,oQ,.slice va vn vc,⟨H6.out.ha.fr f8 (λk hk e=>?_),hy.out,λk hk e=>?_⟩,BV.out.trans (dg.cells (f8.mono (λk _ e=>?_)) (λk hk=>?_)),hq.out⟩
  ·rcases e with e|e
   ·exact H6.out.ap c (.inl rfl) (e ▸ hk)
   ·exact H6.out.ap k (.inr (.inr e)) hk
  ·rcases hk with hk|hk|hk
   ·exact H6.out.ap k (.inl hk) e
   ·exact H6.out.ap k (.inr (.inl hk)) e
   ·exact KF k hk e
  ·rcases e with e|e
   ·exact .inl e
   ·exact .inr (.inr e)
  ·rcases hk with hk|hk|hk
   ·exact .inl (.inl hk)
   ·exact .inl (.inr (.inl hk))
   ·rcases HZ k hk with h1|h1
    ·exact .inl (.inr (.inr h1))
    ·right;have:=f7.size;exact h1
 unfold vB at hP;clear hy f8 KF lZ f7 HZ z1 H6 Dz gA hq BV;go_wp2;go_ret;exact hP.out
end
section
def Je(A A':HS)(E:Nat->Nat->Prop):Prop:=∀p o,Live A' p o->(∃p0 o0,Live A p0 o0/\o0.ser=o.ser/\o0.snd=o.snd)\/E o.ser o.snd
def Lv(A A':HS):Prop:=∀p o,Live A' p o->∃p0 o0,Live A p0 o0/\o0.ser=o.ser/\o0.snd=o.snd
section
variable {A A' B C:HS}
theorem Lv.refl(A:HS):Lv A A:=λp o h=>⟨p,o,h,rfl,rfl⟩
theorem Lv.trans(h:Lv A B)(k:Lv B C):Lv A C:=λp o hl=>by
 obtain⟨p1,o1,l1,e1,f1⟩:=k p o hl;obtain⟨p0,o0,l0,e0,f0⟩:=h p1 o1 l1;exact⟨p0,o0,l0,e0.trans e1,f0.trans f1⟩
theorem Lv.x(h:Lv A B)(E:Nat->Nat->Prop):Je A B E:=λp o hl=>.inl (h p o hl)
theorem Lv.eq(hc:A'.cur=A.cur)(ho:A'.aV=A.aV):Lv A A':=λp o h=>⟨p,o,by unfold Live at *;rw[hc,ho] at h;exact h,rfl,rfl⟩
theorem Lv.goes{p q:Nat}(g:Goes A p A' q):Lv A A':=by
 cases g with
 | stay _=>exact .refl _
 | gone _=>exact .refl _
 | @move i o c=>
   intro x u hl;have e1:(A.aV.getD i oo).2.1=o:=by rw[c.get]
   rcases hl with hl|hl
   ·have hl:(x,u)∈A.cur++[(A.top,(A.aV.getD i oo).2.1)]:=hl;rw[e1] at hl;rcases cJ.1 hl with hl|hl
    ·exact⟨x,u,.inl hl,rfl,rfl⟩
    ·have:=gH.1 hl;obtain⟨rfl,rfl⟩:=Prod.mk.inj this;exact⟨p,u,.inr c.eP,rfl,rfl⟩
   ·have hl:(x,u,none)∈A.aV.set i ((A.aV.getD i oo).1,(A.aV.getD i oo).2.1,some A.top):=hl;rcases List.mem_or_eq_of_mem_set hl with h|h
    ·exact⟨x,u,.inr h,rfl,rfl⟩
    ·cases h
theorem Lv.jx{l l':aj}(g:cK A l A' l'):Lv A A':=by
 induction g with
 | nil=>exact .refl _
 | snoc h g ih=>exact ih.trans (.goes g)
theorem Lv.flip(A:HS):Lv A A.flip:=λp o hl=>by
 rcases hl with hl|hl
 ·cases hl
 ·have hl:(p,o,none)∈A.cur.map λx=>(x.1,x.2,(none:Option Nat)):=hl;obtain⟨⟨y,z⟩,hx,e⟩:=List.mem_map.1 hl;cases e;exact⟨_,_,.inl hx,rfl,rfl⟩
theorem Lv.drop(A:HS):Lv A A.drop:=λp o hl=>by
 rcases hl with hl|hl
 ·exact⟨p,o,.inl hl,rfl,rfl⟩
 ·cases hl
theorem zP{i a x:Nat}{o o' u:Ob}(c:aY A i a o)(h:(x,u)∈(A.cV i o').cur):(x,u)∈A.cur\/x=a/\u=o':=by
 have h:(x,u)∈A.cur.set i ((A.cur.getD i (0,Ob.new 0 0 false false 0)).1,o'):=h;have e:(A.cur.getD i (0,Ob.new 0 0 false false 0)).1=a:=by have:=c.get;simp only[eF] at this;rw[this]
 rw[e] at h;rcases List.mem_or_eq_of_mem_set h with h|h
 ·exact .inl h
 ·exact .inr (Prod.mk.inj h)
theorem Lv.cV{i a:Nat}{o o':Ob}(c:aY A i a o)(h1:o'.ser=o.ser)(h2:o'.snd=o.snd):Lv A (A.cV i o'):=λp u hl=>by
 rcases hl with hl|hl
 ·rcases zP c hl with h|⟨rfl,rfl⟩
  ·exact⟨p,u,.inl h,rfl,rfl⟩
  ·exact⟨_,o,.inl c.eP,h1.symm,h2.symm⟩
 ·exact⟨p,u,.inr hl,rfl,rfl⟩
theorem Je.cV{i a:Nat}{o o':Ob}(c:aY A i a o):Je A (A.cV i o') λs w=>s=o'.ser/\w=o'.snd:=λp u hl=>by
 rcases hl with hl|hl
 ·rcases zP c hl with h|⟨rfl,rfl⟩
  ·exact .inl ⟨p,u,.inl h,rfl,rfl⟩
  ·exact .inr ⟨rfl,rfl⟩
 ·exact .inl ⟨p,u,.inr hl,rfl,rfl⟩
theorem Je.alloc{p d:Nat}{wk fn:Bool} : Je A (A.alloc p d wk fn) λs w=>s=A.ser+1/\w=0:=λx u hl=>by
 rcases hl with hl|hl
 ·have hl:(x,u)∈A.cur++[(A.top,Ob.new p d wk fn (A.ser+1))]:=hl;rcases cJ.1 hl with hl|hl
  ·exact .inl ⟨x,u,.inl hl,rfl,rfl⟩
  ·obtain⟨rfl,rfl⟩:=Prod.mk.inj (gH.1 hl);exact .inr ⟨rfl,rfl⟩
 ·exact .inl ⟨x,u,.inr hl,rfl,rfl⟩
theorem Lv.NR{q:Nat}{m:aj}(g:ug A q A' m):Lv A A':=by
 cases g with
 | stay _ _=>exact .refl _
 | gone c d=>exact .cV c (Ob.cZ _ true 0 _).2.2.2.2 (by unfold Ob.e_;rfl)
 | lost c d=>exact .cV c (Ob.cZ _ true 0 _).2.2.2.2 (by unfold Ob.e_;rfl)
theorem Lv.NP{l ls:aj}(g:kD A l A' ls):Lv A A':=by
 induction g with
 | nil=>exact .refl _
 | snoc h g ih=>exact ih.trans (.NR g)
end
def iI(A A':HS):Prop:=∀i a o,aY A i a o->∃o',aY A' i a o'/\o'.ser=o.ser
section
variable {A A' B C:HS}
theorem iI.refl(A:HS):iI A A:=λi a o c=>⟨o,c,rfl⟩
theorem iI.trans(h:iI A B)(k:iI B C):iI A C:=λi a o c=>by
 obtain⟨o1,c1,e1⟩:=h i a o c;obtain⟨o2,c2,e2⟩:=k i a o1 c1;exact⟨o2,c2,e2.trans e1⟩
theorem iI.eq(hc:A'.cur=A.cur):iI A A':=λi a o c=>⟨o,⟨by rw[hc];exact c.lt,by rw[hc];exact c.get⟩,rfl⟩
theorem iI.jx{l l':aj}(g:cK A l A' l'):iI A A':=λi a o c=>⟨o,g.cur c,rfl⟩
theorem iI.cV{k b:Nat}{u u':Ob}(d:aY A k b u)(h:u'.ser=u.ser):iI A (A.cV k u'):=λi a o c=>by
 refine⟨_,aY.cV (u':=u') c d,?_⟩
 by_cases e:i=k
 ·subst e;rw[if_pos rfl,h];have e1:(b,u)=(a,o):=by rw[<-d.get,<-c.get]
  rw[(Prod.mk.inj e1).2]
 ·rw[if_neg e]
theorem iI.NR{q:Nat}{m:aj}(g:ug A q A' m):iI A A':=by
 cases g with
 | stay _ _=>exact .refl _
 | gone c d=>exact .cV c (Ob.cZ _ true 0 _).2.2.2.2
 | lost c d=>exact .cV c (Ob.cZ _ true 0 _).2.2.2.2
theorem iI.NP{l ls:aj}(g:kD A l A' ls):iI A A':=by
 induction g with
 | nil=>exact .refl _
 | snoc h g ih=>exact ih.trans (.NR g)
end
def To(K:Nat->Nat->Prop)(n ser snd:Nat):Prop:=(∃t,snd=2*t+1/\K t ser)\/(∃v,snd=2*v/\v<=n)
def iJ(A:HS)(K:Nat->Nat->Prop)(n:Nat):Prop:=∀p o,Live A p o->To K n o.ser o.snd
section
variable {A A':HS}{K K':Nat->Nat->Prop}{n n':Nat}
theorem To.mono{s w:Nat}(h:To K n s w)(hK:∀t,K t s->K' t s)(hn:n<=n'):To K' n' s w:=by
 rcases h with ⟨t,e,h⟩|⟨v,e,h⟩
 ·exact .inl ⟨t,e,hK t h⟩
 ·exact .inr ⟨v,e,by omega⟩
theorem iJ.mono(h:iJ A K n)(hK:∀t s,K t s->K' t s)(hn:n<=n'):iJ A K' n':=λp o hl=>(h p o hl).mono (λt=>hK t _) hn
theorem iJ.lv(h:iJ A K n)(l:Lv A A'):iJ A' K n:=λp o hl=>by
 obtain⟨p0,o0,l0,e1,e2⟩:=l p o hl;rw[<-e1,<-e2];exact h p0 o0 l0
theorem iJ.lvx{E:Nat->Nat->Prop}(h:iJ A K n)(l:Je A A' E)(he:∀s w,E s w->To K n s w):iJ A' K n:=λp o hl=>by
 rcases l p o hl with ⟨p0,o0,l0,e1,e2⟩|e
 ·rw[<-e1,<-e2];exact h p0 o0 l0
 ·exact he _ _ e
theorem iJ.free{z v:Nat}(h:iJ A K n)(l:Je A A' λs w=>s=z/\w=2*v)(hx:∀p o,Live A' p o->o.ser=z->o.snd=2*v)(hv:v<=n):iJ A' (λt s=>K t s/\s≠z) n:=λp o hl=>by
 by_cases e:o.ser=z
 ·exact .inr ⟨v,hx p o hl e,hv⟩
 ·rcases l p o hl with ⟨p0,o0,l0,e1,e2⟩|⟨e1,e2⟩
  ·rw[<-e1,<-e2];exact(h p0 o0 l0).imp (λ⟨t,a,b⟩=>⟨t,a,b,by rw[e1];exact e⟩) id
  ·exact absurd e1 e
theorem iJ.start(n m:Nat):iJ (HS.start n) K m:=λp o hl=>by
 rcases hl with hl|hl <;> cases hl
end
end
section
structure HW(s:HS):Prop where
 wf:WF s
 co:gJ s
abbrev eB:HS:=HS.start 16000
abbrev z4:aj:=[0,0,0,0]
theorem FC(j:Nat):z4.getD j 0=0:=by
 match j with
 | 0=>rfl|1=>rfl|2=>rfl|3=>rfl
 | n+4=>rfl
theorem HW.pair{s:HS}(h:HW s)(m:Nat):gK id s eB z4 z4 m:=by
 refine⟨⟨h.wf,WF.start _,rfl,rfl,λk h1 h2=>?_,λk m _ _ h=>h,λk p o h1 h2=>?_⟩,h.co,rfl,rfl,bY _,⟨bY _,bY _⟩,⟨rfl,rfl,λj hj=>.inl (FC j),λj hj=>⟨0,bY _,.inl ⟨FC j,rfl⟩,.inl ⟨FC j,rfl⟩⟩⟩⟩
 ·have h2:k<=0:=h2;omega
 ·have h2:k<=0:=h2;omega
theorem HW.of{σ:Nat->Nat}{A B:HS}{R S:aj}{m:Nat}(h:gK σ A B R S m):HW A:=⟨h.tw.wa,h.ca⟩
theorem HW.start(n:Nat):HW (HS.start n):=⟨WF.start n,gJ.start n⟩
theorem HW.alloc{s:HS}{X X':aj}(h:HW s)(hr:aR s X){p d:Nat}{wk fn:Bool}(h':aR (s.alloc p d wk fn) X'):HW (s.alloc p d wk fn):=HW.of ((h.pair 4).DN hr h')
theorem HW.flip{s:HS}{X:aj}(h:HW s)(hr:aR s X)(hm:s.mv=false):HW s.flip:=HW.of ((h.pair 4).flip hr hm)
theorem HW.goes{s s':HS}{X:aj}(h:HW s)(hr:aR s X){p q:Nat}(g:Goes s p s' q):HW s':=HW.of ((h.pair 4).goes hr g)
theorem HW.jx{s s':HS}{X:aj}(h:HW s)(hr:aR s X){l l':aj}(g:cK s l s' l'):HW s':=HW.of ((h.pair 4).jx hr g)
theorem HW.ptr{s s':HS}{X X':aj}(h:HW s)(hr:aR s X){i a k q:Nat}{o:Ob}(c:aY s i a o)(hk:k<o.p)(g:Goes s (o.ps.getD k 0) s' q)(h':aR (s'.cV i (o.e_ true k q)) X') :
 HW (s'.cV i (o.e_ true k q))/\cH (s'.cV i (o.e_ true k q)) q:=by
 have:=(h.pair 4).ptr hr c hk g h';exact⟨HW.of this.1,this.2.1⟩
theorem cH.ref{s:HS}{q:Nat}(h:cH s q):∃n,Ref s q n:=by
 rcases h with h|h
 ·exact⟨0,.inl ⟨h,rfl⟩⟩
 ·obtain⟨x,hx,rfl⟩:=List.mem_map.1 h;exact⟨x.2.ser,.inr (.inl ⟨x.2,hx,rfl⟩)⟩
theorem HW.cV{s:HS}{X X':aj}(h:HW s)(hr:aR s X){i a:Nat}{o o':Ob}(c:aY s i a o)(hs:dV o o')(h':aR (s.cV i o') X')(hp:∀q∈o'.ps,q∈o.ps\/cH s q):HW (s.cV i o'):=by
 refine⟨WF.of h' ((c.Dk hs).sem hr h.wf (λq hq=>?_)),h.co.cV hr c hs (λq hq=>?_)⟩
 ·rcases hp q hq with h1|h1
  ·exact h.wf.ptr a o (.inl c.eP) q h1
  ·exact h1.ref
 ·unfold Ob.aZ at hq ⊢;rw[hs.2.2.1] at hq;split at hq
  ·cases hq
  ·rename_i hw;rw[if_neg hw];exact hp q hq
theorem HW.place{s:HS}(h:HW s){p:Nat}{o:Ob}(hl:Live s p o){q:Nat}(hq:q∈o.ps):Place s q:=let ⟨_,hn⟩:=h.wf.ptr p o hl q hq;hn.place
theorem Ft{o:Ob}{q:Nat}(h:q∈o.aZ):q∈o.ps:=by
 unfold Ob.aZ at h;split at h
 ·cases h
 ·exact h
theorem QK{A:HS}{X:aj}(h:aR A X)(c:gJ A)(hm:A.mv=true):A.scan=A.top\/∃k o,aY A k A.scan o:=by
 obtain⟨k,k1,k2,_⟩:=c.scan hm;rcases Nat.lt_or_eq_of_le k1 with hl|he
 ·right;refine⟨k,(A.cur.getD k eF).2,hl,?_⟩;rw[k2,<-(h.place hl).1]
 ·left;rw[k2,he];exact h.half.cl.lie.end
def Av(w:ag)(BA:HB)(w':ag)(A':HS):Prop:=∃fF oQ,cz w' fF A' oQ/\bz w BA w' fF/\HW A'
theorem Av.calm{w w':ag}{BA:HB}{A:HS}{XA:aj}(h:cz w BA A XA)(hw:HW A)(c:Calm w w'):Av w BA w' A:=⟨BA,XA,h.calm c,bz.calm BA c,hw⟩
section
variable {w:ag}{BA:HB}{A:HS}{XA:aj}
theorem dZ(A:HS)(a:Nat):(∃i o,aY A i a o)\/a∉dL A.cur:=by
 by_cases h:a∈dL A.cur
 ·exact .inl (aY.im h)
 ·exact .inr h
theorem kW{a:Nat}{l:aj}(h:a∉l):((a:Nat):Int)∉nI l:=λe=>h (gV.1 e)
theorem uQ{a:Nat}(h:a<=131072):bX (a:Nat):=⟨by omega,by omega⟩
noncomputable def sr(A:HS)(a:Nat):Nat:=open Classical in if h:∃o,(a,o)∈A.cur then h.choose.ser else 0
theorem aaN(hw:HW A){i a:Nat}{o:Ob}(c:aY A i a o):sr A a=o.ser:=by
 unfold sr;have h:∃o,(a,o)∈A.cur:=⟨o,c.eP⟩;rw[dif_pos h];have:=hw.wf.Xx _ h.choose_spec _ c.eP rfl;have e:h.choose=o:=congrArg Prod.snd this;rw[e]
theorem aaM{a:Nat}(h:a∉dL A.cur):sr A a=0:=by
 unfold sr;rw[dif_neg];rintro ⟨o,ho⟩;exact h (List.mem_map.2 ⟨_,ho,rfl⟩)
theorem rY(h:cz w BA A XA)(hw:HW A){a:Nat}(ha:a<=131072) :
 aJ prog 61 #[eU BA,vI a] w λe w'=>(∃x:Int,e=.returned (.tuple #[vI (sr A a:Nat),vI x]))/\Calm w w':=by
 rcases dZ A a with ⟨i,o,c⟩|hm
 ·exact(Cf h c).mono (λe w' ⟨h1,h2⟩=>⟨⟨0,by rw[h1,aaN hw c]⟩,h2⟩)
 ·exact(EB h (uQ ha) (kW hm)).mono (λe w' ⟨h1,h2⟩=>⟨⟨70,by rw[h1,aaM hm];rfl⟩,h2⟩)
def HOk(w:ag)(BA:HB)(A:HS)(w':ag):Prop:=∃A',Av w BA w' A'/\A'.n=A.n/\A'.ser=A.ser/\A'.mv=A.mv/\Lv A A'/\A'.fin=A.fin/\iI A A'
theorem yb(h:cz w BA A XA)(hw:HW A)(hm:A.mv=true) :
 aJ prog 164 #[eU BA] w λe w'=>(e=.returned (.bool false)/\A.scan=A.top/\Calm w w')\/(e=.returned (.bool true)/\HOk w BA A w'):=by
 rcases QK h.rep hw.co hm with hs|⟨k,o,d⟩
 ·exact(Lw h hs).mono (λe w' ⟨h1,h2⟩=>.inl ⟨h1,hs,h2⟩)
 ·refine(Ic h hm d rfl (λq hq=>hw.place (.inl d.eP) (Ft hq))).mono (λe w' ⟨h1,s',l',g,hq,fF,X',hA,hK⟩=>.inr ⟨h1,_,⟨fF,X',hA,hK,HW.of ((hw.pair 4).scan h.rep d rfl hm g hq hA.rep)⟩,?_,?_,?_,?_,?_,?_⟩)
  ·exact g.same.1
  ·exact g.same.2.2.2.2.1
  ·exact g.same.2.2.1
  ·exact(Lv.jx g).trans ((Lv.cV (g.cur d) (o.jN l').2.2.2.2 rfl).trans (.eq rfl rfl))
  ·exact g.same.2.2.2.2.2.2.1
  ·exact(iI.jx g).trans ((iI.cV (g.cur d) (o.jN l').2.2.2.2).trans (.eq rfl))
def XW(A A':HS)(l':aj):Prop:=HW A'/\A'.n=A.n/\A'.ser=A.ser/\A'.mv=A.mv/\(∀q∈l',q<=131072)/\l'.length<=A.ser/\Lv A A'/\A'.fin.length+l'.length<=A.fin.length/\iI A A'
theorem BQ(h:cz w BA A XA)(hw:HW A)(hm:A.mv=true):aJ prog 207 #[eU BA] w (XV w BA (XW A)):=by
 refine(PN h hm (λp Xe=>Place.le h.rep (.inr (hw.co.fn p Xe)))).mono (λe w' ⟨st,lf,s',l',v,h1,h2,h3,h4,h5,fF,X',h6,h7,h8⟩=>⟨v,l',s',fF,X',h4,h6,h7,h5,h8,?_,?_⟩)
 ·have:=h1.len;have:=h2.len;have:=h.rep.mJ.2;omega
 ·refine⟨HW.of ((hw.pair 4).TT h.rep h1 (by have:=h1.len;have:=h.rep.mJ.2;omega) h2),h2.same.1,h2.same.2.2.2.2.1,h2.same.2.2.1,λq hq=>?_,?_,Lv.trans (B:={ A with fin:=st }) (.eq rfl rfl) (.jx h2),?_,iI.trans (B:={ A with fin:=st }) (.eq rfl) (.jx h2)⟩
  ·rcases h3 q hq with e|e
   ·omega
   ·exact h6.rep.mh e
  ·have:=h1.len;have:=h2.len;have:=hw.co.mJ.2;omega
  ·have e:s'.fin=st:=h2.same.2.2.2.2.2.2.1;rw[e];have:=h1.len;have:=h2.len;omega
def XR(A A':HS)(ls:aj):Prop:=HW A'/\A'.n=A.n/\A'.ser=A.ser/\A'.mv=false/\ls.length<=A.ser/\Lv A A'/\A'.fin.length<=A.fin.length/\iI A A'
theorem I_{s s':HS}{l ls:aj}(h:kD s l s' ls):ls.length<=l.length:=by
 induction h with
 | nil=>simp
 | snoc h g ih=>
   rw[b_,b_];cases g <;> simp <;> omega
theorem Yg{s s':HS}{l ls:aj}(h:kD s l s' ls):s'.fin=s.fin:=by
 induction h with
 | nil=>rfl
 | snoc h g ih=>
   cases g with
   | stay _ _=>exact ih
   | gone _ _=>exact ih
   | lost _ _=>exact ih
theorem HH(h:cz w BA A XA)(hw:HW A)(hm:A.mv=true)(hs:A.scan=A.top):aJ prog 242 #[eU BA] w (XQ w BA (XR A)):=by
 have Sv:∀p∈A.bI,Place A p:=λp Xe=>by
  rcases hw.co.wk p Xe with ⟨o,k,_⟩|⟨o,m,k,_⟩
  ·exact .inr (.inl (List.mem_map.2 ⟨_,k,rfl⟩))
  ·exact .inr (.inr (List.mem_map.2 ⟨_,k,rfl⟩))
 have bU:∀jd lf,bL A A.bI jd lf->∀q∈jd,mU A q:=λjd lf h1 q hq=>by
  have:∃o,(q,o)∈A.cur/\o.wk=true:=by
   rcases h1.Ah hq with ⟨k1,k2⟩|⟨a,k1,k2⟩
   ·rcases hw.co.wk q k1 with k3|⟨o,m,k3,_⟩
    ·exact k3
    ·exact absurd (List.mem_map.2 ⟨_,k3,rfl⟩) k2
   ·rcases hw.co.wk a k1 with ⟨o,k3,_⟩|⟨o,m,k3,k4⟩
    ·exfalso;obtain⟨i,u,c⟩:=k2;exact hw.wf.plM _ k3 _ c.eP rfl
    ·obtain⟨i,u,c⟩:=k2;have:=hw.wf.plO _ k3 _ c.eP rfl;cases this;obtain⟨o',k5,k6⟩:=hw.wf.gone a o q c.eP;exact⟨o',k5,by rw[k6.2.2.1];exact k4⟩
  obtain⟨o,k1,k2⟩:=this;obtain⟨i,hi,e⟩:=cX eF k1;have bU:o.Ok:=(h.rep.ig k1).1;have Ia:=Ob.Ap bU k2;exact⟨i,o,⟨hi,e⟩,k2,hw.place (.inl k1) (eO 0 (by rw[bU.lp];omega))⟩
 refine(Zu h hm hs (λp h1=>(Sv p h1).le h.rep) (λp h1=>Place.le h.rep (.inr (hw.co.fn p h1))) bU).mono (λe w' ⟨jd,sD,l1,l2,s',ls,v,h1,h2,h3,h4,h5,fF,X',h6,h7⟩=>?_);have fw:=h.rep.mJ;have W:=NX.of (A:={ A with bI:=jd,fin:=sD }) (X:=XA) ⟨h.rep.n1,h.rep.n2,h.rep.len,h.rep.zero,h.rep.half,h.rep.lL,h.rep.room,h.rep.still,h.rep.ser,⟨by have:=h1.len;show jd.length<=_;omega,by have:=h2.len;show sD.length<=_;omega⟩⟩ h3 (λq hq=>by obtain⟨i,o,c,k1,_⟩:=bU _ _ h1 q hq;exact⟨o,c.eP,k1⟩);have Xr:=h1.len;have l2':=h2.len;have l3':=I_ h3;have l4':=hw.co.mJ.1;refine⟨v,ls,s'.drop,fF,X',h4,h6,h7,h5,by omega,HW.of ((hw.pair 4).drop h.rep hm hs h1 h2 h3 h6.rep ⟨by omega,by omega⟩),W.n,W.ser,rfl,by omega,Lv.trans (Lv.trans (B:={ A with bI:=jd,fin:=sD }) (.eq rfl rfl) (.NP h3)) (.drop _),?_,iI.trans (iI.trans (B:={ A with bI:=jd,fin:=sD }) (.eq rfl) (.NP h3)) (.eq rfl)⟩;have e:s'.fin=sD:=Yg h3;show s'.fin.length<=_;rw[e];have:=h2.len;omega
end
end
structure tQ where
 dh:Nat->Prop
 at_:ag->Prop
 fr:∀ {S:Nat->Prop} {w w':ag},at_ w->Fr S w w'->(∀k,dh k->¬S k)->at_ w'
 lt:∀ {w:ag},at_ w->∀k,dh k->k<w.heap.size
def rQ:tQ:=⟨λ_=>False,λ_=>True,λ_ _ _=>trivial,λ_ _ h=>h.elim⟩
def bD(B:Nat)(v:aA)(vs:List aA):tQ:=⟨λk=>k=B,λw=>af w B (v::vs),λh f hs=>h.fr f (hs B rfl),λh k hk=>hk ▸ h.lt (by simp)⟩
def fV(v:aA)(l:List Int):tQ:=⟨ay v,λw=>aI w 0 v l,λh f hs=>h.dw f hs,λh _ hk=>(h.lt hk).2⟩
theorem aw{S:Nat->Prop}{w w':ag}{base:Nat}{e:TypeId}{size n:Nat}{v:aA}{xs:List aA}(h:w.ownsRow base e size v n xs)(f:Fr S w w')(hs:∀b,ay v b->¬S b):w'.ownsRow base e size v n xs:=by
 refine⟨h.1,?_⟩;rcases h.2 with hn|⟨g,cap,cur,hv,hb,ZD,rest⟩
 ·exact .inl hn
 ·exact .inr ⟨g,cap,cur,hv,hb,f.gT ZD (hs _ (by rw[hv];rfl)),rest⟩
def fU(e:TypeId)(size:Nat)(v:aA)(n:Nat)(xs:List aA):tQ:=⟨ay v,λw=>w.ownsRow 0 e size v n xs,λh f hs=>aw h f hs,λh _ hk=>(World.ownsRow.lt h _ hk).2⟩
abbrev Mem:=Nat->tQ
def Mem.put(A:Mem)(t:Nat)(a:tQ):Mem:=λj=>if j=t then a else A j
theorem Mem.aG(A:Mem)(t:Nat)(a:tQ):A.put t a t=a:=if_pos rfl
theorem Mem.aB(A:Mem){t j:Nat}(a:tQ)(h:j≠t):A.put t a j=A j:=if_neg h
structure bE(w:ag)(τ:Nat->Nat)(A:Mem):Prop where
 at_:∀t,(A t).at_ w
 tag:∀t k,(A t).dh k->τ k=t
def oO(w:ag)(τ aL:Nat->Nat):Prop:=∀k,k<w.heap.size->aL k=τ k
structure aC(w:ag)(τ:Nat->Nat)(w':ag)(aL:Nat->Nat):Prop where
 fr:Fr (λk=>τ k<500) w w'
 tg:oO w τ aL
theorem aC.refl(w:ag)(τ:Nat->Nat):aC w τ w τ:=⟨ah,λ_ _=>rfl⟩
theorem aC.trans{w w1 w2:ag}{τ gI fj:Nat->Nat}(h:aC w τ w1 gI)(k:aC w1 gI w2 fj):aC w τ w2 fj:=by
 have hs:=h.fr.size;exact⟨h.fr.join k.fr (λj hj e=>by rw[h.tg j hj] at e;exact e),λj hj=>by rw[k.tg j (by omega),h.tg j hj]⟩
theorem aC.calm{w w':ag}(τ:Nat->Nat)(c:Calm w w'):aC w τ w' τ:=⟨c.any,λ_ _=>rfl⟩
theorem aC.size{w w':ag}{τ aL:Nat->Nat}(h:aC w τ w' aL):w.heap.size<=w'.heap.size:=h.fr.size
theorem aC.cell{w w':ag}{τ aL:Nat->Nat}(h:aC w τ w' aL){p:Addr}{v:aA}(hc:w.cell? p=some v)(ht:500<=τ p.block):w'.cell? p=some v:=h.fr.cellAt hc (by omega)
theorem bE.frame{S:Nat->Prop}{w w':ag}{τ:Nat->Nat}{A:Mem}(h:bE w τ A)(f:Fr S w w')(hs:∀t k,(A t).dh k->¬S k):bE w' τ A:=⟨λt=>(A t).fr (h.at_ t) f (hs t),h.tag⟩
theorem bE.calm{w w':ag}{τ:Nat->Nat}{A:Mem}(h:bE w τ A)(f:Calm w w'):bE w' τ A:=h.frame f (λ_ _ _=>id)
theorem bE.lt{w:ag}{τ:Nat->Nat}{A:Mem}(h:bE w τ A)(t:Nat){k:Nat}(hk:(A t).dh k):k<w.heap.size:=(A t).lt (h.at_ t) k hk
theorem bE.put{w w':ag}{τ:Nat->Nat}{A:Mem}(h:bE w τ A){t:Nat}{a:tQ}(f:Fr (A t).dh w w')(ha:a.at_ w')(hn:∀k,a.dh k->(A t).dh k\/w.heap.size<=k)(ht:t<500) :
 ∃aL,bE w' aL (A.put t a)/\aC w τ w' aL:=by
 refine⟨λk=>if k<w.heap.size then τ k else t,⟨λj=>?_,λj k hk=>?_⟩,⟨f.mono (λk _ hk=>?_),λk hk=>if_pos hk⟩⟩
 ·by_cases e:j=t
  ·subst e;rw[Mem.aG];exact ha
  ·rw[Mem.aB _ _ e];exact(A j).fr (h.at_ j) f (λk hk gX=>e (by rw[<-h.tag j k hk,h.tag t k gX]))
 ·by_cases e:j=t
  ·subst e;rw[Mem.aG] at hk;rcases hn k hk with h1|h1
   ·simp only[if_pos (h.lt j h1)];exact h.tag j k h1
   ·simp only[if_neg (show ¬k<w.heap.size by omega)]
  ·rw[Mem.aB _ _ e] at hk;simp only[if_pos (h.lt j hk)];exact h.tag j k hk
 ·show τ k<500;rw[h.tag t k hk];exact ht
theorem bE.put'{w w':ag}{τ:Nat->Nat}{A:Mem}(h:bE w τ A){t:Nat}{a:tQ}(f:Fr (A t).dh w w')(ha:a.at_ w')(hn:∀k,a.dh k->(A t).dh k):bE w' τ (A.put t a):=by
 refine⟨λj=>?_,λj k hk=>?_⟩
 ·by_cases e:j=t
  ·subst e;rw[Mem.aG];exact ha
  ·rw[Mem.aB _ _ e];exact(A j).fr (h.at_ j) f (λk hk gX=>e (by rw[<-h.tag j k hk,h.tag t k gX]))
 ·by_cases e:j=t
  ·subst e;rw[Mem.aG] at hk;exact h.tag j k (hn k hk)
  ·rw[Mem.aB _ _ e] at hk;exact h.tag j k hk
theorem bE.xm{w w':ag}{τ:Nat->Nat}{A:Mem}(h:bE w τ A){t u:Nat}(hne:t≠u){a b:tQ}(f:Fr (λk=>(A t).dh k\/(A u).dh k) w w')(ha:a.at_ w')(hb:b.at_ w')(hn:∀k,a.dh k->(A t).dh k)(hm:∀k,b.dh k->(A u).dh k\/w.heap.size<=k)(ht:t<500)(hu:u<500) :
 ∃aL,bE w' aL ((A.put t a).put u b)/\aC w τ w' aL:=by
 refine⟨λk=>if k<w.heap.size then τ k else u,⟨λj=>?_,λj k hk=>?_⟩,⟨f.mono (λk _ hk=>?_),λk hk=>if_pos hk⟩⟩
 ·by_cases e:j=u
  ·subst e;rw[Mem.aG];exact hb
  ·rw[Mem.aB _ _ e]
   by_cases e2:j=t
   ·subst e2;rw[Mem.aG];exact ha
   ·rw[Mem.aB _ _ e2]
    exact(A j).fr (h.at_ j) f (λk hk gX=>by
     rcases gX with gX|gX
     ·exact e2 (by rw[<-h.tag j k hk,h.tag t k gX])
     ·exact e (by rw[<-h.tag j k hk,h.tag u k gX]))
 ·by_cases e:j=u
  ·subst e;rw[Mem.aG] at hk;rcases hm k hk with h1|h1
   ·simp only[if_pos (h.lt j h1)];exact h.tag j k h1
   ·simp only[if_neg (show ¬k<w.heap.size by omega)]
  ·rw[Mem.aB _ _ e] at hk
   by_cases e2:j=t
   ·subst e2;rw[Mem.aG] at hk;simp only[if_pos (h.lt j (hn k hk))];exact h.tag j k (hn k hk)
   ·rw[Mem.aB _ _ e2] at hk;simp only[if_pos (h.lt j hk)];exact h.tag j k hk
 ·show τ k<500;rcases hk with hk|hk
  ·rw[h.tag t k hk];exact ht
  ·rw[h.tag u k hk];exact hu
theorem aC.piece{w w':ag}{τ:Nat->Nat}{A:Mem}(h:bE w τ A){t:Nat}(f:Fr (A t).dh w w')(ht:t<500):aC w τ w' τ:=⟨f.mono (λk _ hk=>by show τ k<500;rw[h.tag t k hk];exact ht),λ_ _=>rfl⟩
theorem bE.fresh{w:ag}{τ:Nat->Nat}{A:Mem}(h:bE w τ A)(m:Nat):∃aL,bE w aL A/\oO w τ aL/\∀k,w.heap.size<=k->aL k=m:=
 ⟨λk=>if k<w.heap.size then τ k else m,⟨h.at_,λt k hk=>by simp only[if_pos (h.lt t hk)];exact h.tag t k hk⟩,λk hk=>if_pos hk,λk hk=>if_neg (by omega)⟩
theorem bE.apart{w:ag}{τ:Nat->Nat}{A:Mem}(h:bE w τ A){t u:Nat}(hne:t≠u){k:Nat}(h1:(A t).dh k)(h2:(A u).dh k):False:=hne (by rw[<-h.tag t k h1,h.tag u k h2])
def Mem.cf(P:Nat->Prop)(A A':Mem):Prop:=∀t,¬P t->A' t=A t
theorem Mem.cf.refl(P:Nat->Prop)(A:Mem):Mem.cf P A A:=λ_ _=>rfl
theorem Mem.cf.trans{P:Nat->Prop}{A B C:Mem}(h:Mem.cf P A B)(k:Mem.cf P B C):Mem.cf P A C:=λt ht=>(k t ht).trans (h t ht)
theorem Mem.cf.mono{P Q:Nat->Prop}{A B:Mem}(h:Mem.cf P A B)(hq:∀t,P t->Q t):Mem.cf Q A B:=λt ht=>h t (λe=>ht (hq t e))
theorem Mem.cf.put(A:Mem){P:Nat->Prop}{t:Nat}(a:tQ)(ht:P t):Mem.cf P A (A.put t a):=λj hj=>Mem.aB A a (λe=>hj (e ▸ ht))
section
structure GI(oK ety:TypeId)(k:Nat):Prop where
 und:prog.underlying oK=some (.slice ety)
 info:∃i z bytes,prog.info? ety=some i/\i.zero=some z/\i.size=k/\i.bytes=bytes/\z.cells.size=k/\0<k/\bytes<=1000
theorem giH:GI 165 219 2:=by
 obtain⟨i0,hi,iR,iT,jm⟩:=info_parts (show(prog.info? 219).map (λi=>(i.zero,i.size,i.bytes))=some (some (.agg #[vI 0,vI 0]),2,16) by kernel_rfl);exact⟨Tryz.underlying165,i0,_,_,hi,iR,iT,jm,rfl,by decide,by decide⟩
theorem giU:GI 166 231 4:=by
 obtain⟨i0,hi,iR,iT,jm⟩:=info_parts (show(prog.info? 231).map (λi=>(i.zero,i.size,i.bytes))=some (some (.agg #[vI 0,vI 0,vI 0,vI 0]),4,32) by kernel_rfl);exact⟨Tryz.underlying166,i0,_,_,hi,iR,iT,jm,rfl,by decide,by decide⟩
theorem Pf:GI 79 123 2:=by
 obtain⟨i0,hi,iR,iT,jm⟩:=info_parts (show(prog.info? 123).map (λi=>(i.zero,i.size,i.bytes))=some (some (.agg #[vI 0,vI 0]),2,16) by kernel_rfl);exact⟨Tryz.underlying79,i0,_,_,hi,iR,iT,jm,rfl,by decide,by decide⟩
theorem giE:GI 40 76 6:=by
 obtain⟨i0,hi,iR,iT,jm⟩:=info_parts (show(prog.info? 76).map (λi=>(i.zero,i.size,i.bytes))=some (some (.agg #[vI 0,vI 0,vI 0,vI 0,vI 0,vI 0]),6,48) by kernel_rfl);exact⟨Tryz.underlying40,i0,_,_,hi,iR,iT,jm,rfl,by decide,by decide⟩
theorem giP:GI 107 110 1:=by
 obtain⟨i0,hi,iR,iT,jm⟩:=info_parts (show(prog.info? 110).map (λi=>(i.zero,i.size,i.bytes))=some (some (.pointer none),1,8) by kernel_rfl);exact⟨Tryz.underlying107,i0,_,_,hi,iR,iT,jm,rfl,by decide,by decide⟩
section
variable {oK ety:TypeId}{k:Nat}
theorem gu(G:GI oK ety k){ops:Array Oper}{o:Oper}{a:Act}{w:ag}{K:Act->ag->Prop}{Q:Exit->Act->ag->Prop}{E:Prop}(pH:o.guard=none)(s x:Operand)
 (ho:o.op=.call { callee:=.builtin .append,args:=#[s,x],argTypes:=#[oK,oK] })
 (v:aA) (n:Nat) (xs:List aA) (bS:w.ownsRow 0 ety k v n xs) (hs:a.eval s=v) (ys:List aA) (Qa:ys.length=k) (h1:∀u∈ys,u.oneCell'=true) (ad:Addr) (c:Nat) (hx:a.eval x=.slice (some ad) 1 c)
 (hc:∀j u,ys[j]?=some u->w.cell? (ad.add j)=some u) (hl:n<=1000000)
 (h:∀g c w',w'.ownsRow 0 ety k (.slice (some ⟨g,0,none⟩) (n+1) c) (n+1) (xs++ys)->Fr (ay v) w w'->(ay v g\/g=w.heap.size)->K (a.put o.dst (.slice (some ⟨g,0,none⟩) (n+1) c)) w') :
 if Region.wanted o (yielded ops a.tmps)=true then Oper.wp prog o a w K Q else E:=by
 obtain⟨i0,z,bytes,hi,iR,iT,jm,Og,hk,hb⟩:=G.info;refine step_append_lies w pH s x oK ho 0 ety i0 z k bytes G.und hi iR iT jm Og hk v n xs hs bS ad 1 c ys hx (by omega) hc h1 (by omega) (by unfold maxLen;omega) ?_ (bY _) _ rfl ?_
 ·exact gw (Nat.mul_le_mul (show n+1<=1000001 by omega) hb) (by omega)
 intro g cap w' fO eK jr _;exact h g cap w' fO (Fr.grown ah eK (λk hk=>.inl hk)) jr
theorem sG(G:GI oK ety k){ops:Array Oper}{rest:List Oper}{o:Oper}{a:Act}{Q:Exit->Act->ag->Prop}{w:ag}(pH:o.guard=none)(s x:Operand)
 (ho:o.op=.call { callee:=.builtin .append,args:=#[s,x],argTypes:=#[oK,oK] })
 (v:aA) (n:Nat) (xs:List aA) (bS:w.ownsRow 0 ety k v n xs) (hs:a.eval s=v) (ys:List aA) (Qa:ys.length=k) (h1:∀u∈ys,u.oneCell'=true) (ad:Addr) (c:Nat) (hx:a.eval x=.slice (some ad) 1 c)
 (hc:∀j u,ys[j]?=some u->w.cell? (ad.add j)=some u) (hl:n<=1000000)
 (h:∀g c w',w'.ownsRow 0 ety k (.slice (some ⟨g,0,none⟩) (n+1) c) (n+1) (xs++ys)->Fr (ay v) w w'->(ay v g\/g=w.heap.size)->wpList prog ops Q rest (a.put o.dst (.slice (some ⟨g,0,none⟩) (n+1) c)) w') :
 wpList prog ops Q (o::rest) a w:=by
 obtain⟨i0,z,bytes,hi,iR,iT,jm,Og,hk,hb⟩:=G.info;refine wpList_append_own_at _ pH s x oK ho 0 ety i0 z k bytes G.und hi iR iT jm Og hk v n xs hs bS ad 1 c ys hx (by omega) hc h1 (by unfold maxLen;omega) ?_ (bY _) ?_
 ·exact gw (Nat.mul_le_mul (show n+1<=1000001 by omega) hb) (by omega)
 intro v' w' fO eK _ jr;obtain⟨g,c',rfl⟩:=ownsRow_succ fO;refine h g c' w' fO (Fr.grown ah eK (λk hk=>.inl hk)) ?_;rcases jr with e|e
 ·exact .inl (e.symm.trans rfl)
 ·right;simpa[Value.ownBlock] using e
theorem ji{w:ag}{v:aA}{n:Nat}{xs:List aA}(h:w.ownsRow 0 ety k v n xs)(hk:0<k){i:Nat}(hi:i<n):∃g c,v=.slice (some ⟨g,0,none⟩) n c/\∀j,j<k->Own w g (i*k+j) (xs.getD (i*k+j) .nilFunc):=by
 obtain⟨hl,⟨_,h0⟩|⟨g,cap,cur,rfl,hb,hg,hn,Du,kv,hx⟩⟩:=h
 ·omega
 ·refine⟨g,cap,rfl,λj hj=>?_⟩;have RX:i*k+j<n*k:=Nat.lt_of_lt_of_le (by rw[Nat.succ_mul];omega:i*k+j<(i+1)*k) (Nat.mul_le_mul_right k hi);have xe:i*k+j<xs.length:=by rw[hl];exact RX
  refine⟨?_,?_⟩
  ·have h2:cur.toList[i*k+j]?=xs[i*k+j]?:=by rw[<-hx,List.getElem?_take,if_pos RX]
   have:w.cell? ⟨g,i*k+j,none⟩=cur[i*k+j]?:=by simp[World.cell?,hg]
   rw[this,<-Array.getElem?_toList,h2];simp[List.getD,xe]
  ·simp[World.frozen?,hg]
theorem lM{w:ag}{g n c:Nat}{xs:List aA}(h:w.ownsRow 0 ety k (.slice (some ⟨g,0,none⟩) n c) n xs){j:Nat}(hj:j<xs.length)(y:aA):(w.setCell ⟨g,j,none⟩ y).ownsRow 0 ety k (.slice (some ⟨g,0,none⟩) n c) n (xs.set j y):=by
 obtain⟨hl,⟨h1,h0⟩|⟨g',cap,cur,hv,hb,hg,hn,Du,kv,hx⟩⟩:=h
 ·cases h1
 ·cases hv;refine⟨by rw[bN];exact hl,.inr ⟨g,c,cur.set! j y,rfl,hb,?_,hn,Du,by simpa using kv,?_⟩⟩
  ·rw[heap_setCell_same _ _ _ _ _ _ hg];simp
  ·simp only[Array.set!_eq_setIfInBounds,Array.toList_setIfInBounds];rw[List.take_set,hx]
theorem aF{w:ag}{v:aA}{n:Nat}{xs:List aA}(h:w.ownsRow 0 ety k v n xs):∃a c,v=.slice a n c:=by
 rcases h.2 with ⟨rfl,h0⟩|⟨g,cap,cur,rfl,_⟩
 ·exact⟨none,0,by rw[h0]⟩
 ·exact⟨_,_,rfl⟩
theorem FR{α:Type}(f:α->List aA)(k:Nat)(hf:∀a,(f a).length=k)(d:α):∀ (l:List α) (i:Nat),i<l.length->∀j,j<k->(l.flatMap f)[i*k+j]?=(f (l.getD i d))[j]?
 | [],i,h,_,_=>by simp at h
 | x::l,0,_,j,hj=>by
   rw[List.flatMap_cons,Nat.zero_mul,ia,List.getElem?_append_left (by rw[hf];exact hj)];rfl
 | x::l,i+1,h,j,hj=>by
   have e:(i+1)*k=i*k+k:=Nat.succ_mul i k;rw[List.flatMap_cons,rM (by rw[hf];omega),hf,show(i+1)*k+j-k=i*k+j by omega,FR f k hf d l i (by simpa using h) j hj];rfl
theorem ij{α:Type}(f:α->List aA)(k:Nat)(hf:∀a,(f a).length=k)(l:List α):(l.flatMap f).length=l.length*k:=by
 induction l with
 | nil=>simp
 | cons x l ih=>rw[List.flatMap_cons,b_,hf,ih,List.length_cons,Nat.succ_mul];omega
theorem bT{α:Type}{f:α->List aA}(hf:∀a,(f a).length=k)(hk:0<k){w:ag}{v:aA}{l:List α}(h:w.ownsRow 0 ety k v l.length (l.flatMap f))(d:α){i:Nat}(hi:i<l.length) :
 ∃g c,v=.slice (some ⟨g,0,none⟩) l.length c/\∀j u,(f (l.getD i d))[j]?=some u->Own w g (i*k+j) u:=by
 obtain⟨g,c,hv,hc⟩:=ji h hk hi;refine⟨g,c,hv,λj u hu=>?_⟩;have hj:j<k:=by have:=(List.getElem?_eq_some_iff.1 hu).1;rwa [hf] at this
 have e:=FR f k hf d l i hi j hj;rw[hu] at e;have:=hc j hj
 rwa [List.getD,e] at this
theorem vz{w:ag}{v:aA}{n:Nat}{xs:List aA}(h:w.ownsRow 0 ety k v n xs):xs.length=n*k:=h.1
end
section
variable {oK ety:TypeId}{k:Nat}
theorem fh(G:GI oK ety k){ops:Array Oper}{rest:List Oper}{o:Oper}{a:Act}{Q:Exit->Act->ag->Prop}{w:ag}(pH:o.guard=none)(s x:Operand)
 (ho:o.op=.call { callee:=.builtin .append,args:=#[s,x],argTypes:=#[oK,oK] })
 (v:aA) (n:Nat) (xs:List aA) (bS:w.ownsRow 0 ety k v n xs) (hs:a.eval s=v) (ad:Addr) (m c:Nat) (ys:List aA) (hx:a.eval x=.slice (some ad) m c) (Qa:ys.length=m*k) (h1:∀u∈ys,u.oneCell'=true)
 (hc:∀j u,ys[j]?=some u->w.cell? (ad.add j)=some u) (hl:n+m<=1000000)
 (h:∀v' w',w'.ownsRow 0 ety k v' (n+m) (xs++ys)->Fr (ay v) w w'->(∀b,ay v' b->ay v b\/w.heap.size<=b)->wpList prog ops Q rest (a.put o.dst v') w') :
 wpList prog ops Q (o::rest) a w:=by
 obtain⟨i0,z,bytes,hi,iR,iT,jm,Og,hk,hb⟩:=G.info;refine wpList_append_own_at _ pH s x oK ho 0 ety i0 z k bytes G.und hi iR iT jm Og hk v n xs hs bS ad m c ys hx Qa hc h1 (by unfold maxLen;omega) ?_ (bY _) ?_
 ·exact gw (Nat.mul_le_mul hl hb) (by omega)
 intro v' w' fO eK _ jr;refine h v' w' fO (Fr.grown ah eK (λk hk=>.inl hk)) (λb hb=>?_);rcases jr with e|e
 ·exact .inl (e.symm.trans hb)
 ·right;have:some w.heap.size=some b:=e.symm.trans hb;injection this with this;omega
theorem iX{w:ag}{v:aA}{n:Nat}{xs:List aA}(h:w.ownsRow 0 ety k v n xs)(hn:v≠.slice none 0 0):∃g c,v=.slice (some ⟨g,0,none⟩) n c/\∀j u,xs[j]?=some u->w.cell? ⟨g,j,none⟩=some u:=by
 obtain⟨hl,⟨h1,_⟩|⟨g,cap,cur,rfl,hb,hg,sP,Du,kv,hx⟩⟩:=h
 ·exact absurd h1 hn
 ·refine⟨g,cap,rfl,λj u hj=>?_⟩;have wQ:j<xs.length:=(List.getElem?_eq_some_iff.1 hj).1;have h2:cur.toList[j]?=xs[j]?:=by rw[<-hx,List.getElem?_take,if_pos (by omega)]
  have:w.cell? ⟨g,j,none⟩=cur[j]?:=by simp[World.cell?,hg]
  rw[this,<-Array.getElem?_toList,h2,hj]
theorem vA(w:ag)(base:Nat)(hb:base<=w.heap.size):(w.alloc (.cells #[] ety)).ownsRow base ety k (.slice (some ⟨w.heap.size,0,none⟩) 0 0) 0 []:=
 ⟨by simp,.inr ⟨w.heap.size,0,#[],rfl,hb,World.alloc_heap_new w _,aD _,by unfold maxLen;omega,by simp,by simp⟩⟩
end
theorem giN:GI 43 3 1:=by
 obtain⟨i0,hi,iR,iT,jm⟩:=info_parts jV;exact⟨Tryz.underlying43,i0,_,_,hi,iR,iT,jm,rfl,by decide,by decide⟩
end
