import Derived.Test.YtgijglafnlbdbaaGreatTmAK
set_option linter.all false
set_option maxHeartbeats 4000000
set_option maxRecDepth 8000
namespace Go.Proofs.YtgijglafnlbdbaaGreat
open RowKit Shelf Proofs.Tryz
open Go renaming World->aj,Value->aC,Calls->aL
section
variable {w:aj}{τ:Nat->Nat}{s:Nat}{S:aY}
abbrev Vw(S:aY)(R:Int->Int->PS->PS->Prop)(v x:Int)(S':aY):Prop:=R v x (vw S) (vw S')
def Ua(t:Nat)(x:Int)(σ σ':PS):Prop:=Fatal x/\Co σ t σ'
def lB(t p d:Nat)(wk fn:Bool)(v x:Int)(σ σ':PS):Prop:=
 (x=0/\∃a:Nat,v=a/\a<=131072/\σ.ob a=none/\a≠0/\σ'=(σ.lay a { Ob.new p d wk fn (σ.ser+1) with snd:=2*t+1 }).aO t { σ.tx t with holds:=(σ.tx t).holds++[⟨a,0⟩] })\/(v=0/\Ua t x σ σ')
theorem QW.Vt{t p d:Nat}{wk fn:Bool}{v x:Int}{σ σ':PS}(h:QW t p d wk fn v x σ σ'):lB t p d wk fn v x σ σ':=by
 rcases h with h|⟨rfl,rfl,rfl⟩|⟨rfl,rfl,a,h1,h2,rfl⟩
 ·exact .inl h
 ·exact .inr ⟨rfl,.inr (.inr rfl),.refl⟩
 ·refine .inr ⟨rfl,.inr (.inl rfl),?_⟩;have:=Co.junk (σ:=σ) (t:=t) a { Ob.new p d wk fn (σ.ser+1) with fr:=true } h1 h2 rfl (by simp[Ob.new]) (by simp[Ob.new]) (λq hq=>List.eq_of_mem_replicate (show q∈List.replicate p 0 from hq)) rfl;rw[show(σ.lay a { Ob.new p d wk fn (σ.ser+1) with fr:=true }).aO t (σ.tx t)=σ.lay a { Ob.new p d wk fn (σ.ser+1) with fr:=true } from mT _ _] at this;exact this
theorem lB.i64{t p d:Nat}{wk fn:Bool}{v x:Int}{σ σ':PS}(h:lB t p d wk fn v x σ σ'):cL v/\cL x:=by
 rcases h with ⟨rfl,a,rfl,h1,_⟩|⟨rfl,h1,_⟩
 ·exact⟨⟨by omega,by omega⟩,by decide⟩
 ·exact⟨by decide,by rcases h1 with e|e|e <;> rw[e] <;> decide⟩
theorem J8(h:St w τ s S)(hs:s<100000){t:Nat}(ht:t<S.bB.length){p d:Nat}{wk fn:Bool}(df:sK p d wk fn) :
 aL prog 131 #[pV S.sp,pV (S.tx t).xp,lV p d wk fn] w (iK w τ (s+1) S (Vw S (lB t p d wk fn))):=
 (Ta h hs ht df).mono λe w' ⟨v,x,h1,h2⟩=>⟨v,x,h1,(by obtain⟨_,_,_,_,_,h3⟩:=h2;exact h3.2.Vt.i64.1),(by obtain⟨_,_,_,_,_,h3⟩:=h2;exact h3.2.Vt.i64.2),h2.mono (aM _) λS' h3=>h3.2.Vt⟩
theorem FT(h:St w τ s S)(hs:s<100000){t:Nat}(ht:t<S.bB.length){p d:Nat}{fn:Bool}(df:sK p d false fn){b5 b3:Nat}(o5:ag w b5 (Mz p d false fn))(o3:Own w b3 0 (pV S.sp)) :
 aL prog 129 #[pV (S.tx t).xp,aR b5,aR b3] w (iK w τ (s+1) S (Vw S (lB t p d false fn))):=by
 obtain⟨y0,y1,y2,y3⟩:=ag.sQ o5;have y9:=o3.1;go_in;go_wp2_with fail
 refine(oM p d false fn df _).mono ?_;rintro e w1 ⟨rfl,k1⟩;have zi:=o5.calm k1;have o3':=o3.calm k1;clear y0 y1 y2 y3 y9;obtain⟨y0,y1,y2,y3⟩:=ag.sQ zi;have y9:=o3'.1;go_wp2_with fail
 refine(J8 (h.calm k1) hs ht df).mono ?_;rintro e w2 ⟨v,x,rfl,hv,hx,n⟩;go_wp2
 go_ret2
 exact⟨v,x,rfl,hv,hx,n.l5 k1⟩
def xY(t a:Nat)(v x:Int)(σ σ':PS):Prop:=
 (v=0/\x=143/\a=0/\σ'=σ)\/(v=0/\x=70/\a≠0/\σ.ob a=none/\σ'=σ)\/(v=0/\Ua t x σ σ') \/
 (x=0/\a≠0/\σ.ob a≠none/\∃b:Nat,v=b/\b<=131072/\σ.ob b=none/\b≠0/\σ'=(σ.lay b ⟨1,0,true,false,false,2*t+1,σ.ser+1,[a],[]⟩).aO t { σ.tx t with holds:=(σ.tx t).holds++[⟨b,0⟩] })
theorem Pd{σ:PS}{t a b:Nat}{x:PT}(h:σ.ob a≠none)(hb:σ.ob b=none):{ (σ.lay b { Ob.new 1 0 true false (σ.ser+1) with snd:=2*t+1 }).aO t x with ob:=Lo ((σ.lay b { Ob.new 1 0 true false (σ.ser+1) with snd:=2*t+1 }).aO t x).ob b 0 a } = (σ.lay b ⟨1,0,true,false,false,2*t+1,σ.ser+1,[a],[]⟩).aO t x:=by
 have e:((σ.lay b { Ob.new 1 0 true false (σ.ser+1) with snd:=2*t+1 }).aO t x).ob=λp=>if p=b then some { Ob.new 1 0 true false (σ.ser+1) with snd:=2*t+1 } else σ.ob p:=rfl
 have vL:a≠b:=λe=>h (e ▸ hb);unfold PS.aO PS.lay;simp only[PS.mk.injEq,and_true];funext p;unfold Lo;rw[if_pos (.inr (by simp only[if_neg vL];exact h))];unfold ni
 by_cases ep:p=b
 ·subst ep;simp[Ob.np,okF,Ob.new]
 ·simp[ep]
theorem LY(h:St w τ s S)(hs:s<100000){t:Nat}(ht:t<S.bB.length){a:Nat}(ha:a<=131072){b5 b3:Nat}(o5:Own w b5 0 (vI (a:Int)))(o3:Own w b3 0 (pV S.sp))(t5:500<=τ b5)(t3:500<=τ b3) :
 aL prog 132 #[pV (S.tx t).xp,aR b5,aR b3] w (iK w τ (s+1) S (Vw S (xY t a))):=by
 have y5:=o5.1;have y3:=o3.1
 by_cases h0:a=0
 ·subst h0;have hP:iK w τ (s+1) S (Vw S (xY t 0)) (.returned (.tuple #[vI 0,vI 143])) w:=⟨0,143,rfl,by decide,by decide,(Nx.calm h aq (R:=Vw S (xY t 0) 0 143) (.inl ⟨rfl,rfl,rfl,rfl⟩)).mono (Nat.le_succ _) λ_ h=>h⟩;replace hP:=af hP;go_in;go_wp2
  go_ret2
  exact hP.out
 ·have hz:((a:Int)==0)=false:=by simp;omega
  have c0:=(h.cells 0 _ rfl).1;obtain⟨X,hh⟩:=h.kE;have k1:Calm w w.drew:=aq.drew;go_in;go_wp2_with fail
  refine a_ 5 6 (λw'=>Calm w w') (by kernel_rfl) (by kernel_rfl) (aq.drew) ?_;refine ae (pV S.sp) rfl (λw' hw'=>?_) ai ?_
  ·have e1:=hw'.cellAt y3 id;simp[go_sem,e1]
  refine ae (pV S.sp) rfl (λw' hw'=>?_) ai ?_
  ·simp[go_sem]
  refine ae (aR S.sp) rfl (λw' hw'=>?_) ai ?_
  ·simp[go_sem]
  refine ae (pV S.D.B.hp) rfl (λw' hw'=>?_) ai ?_
  ·have e1:=hw'.cellAt c0 id;simp[go_sem,e1]
  refine ae (vI (a:Int)) rfl (λw' hw'=>?_) ai ?_
  ·have e1:=hw'.cellAt y5 id;simp[go_sem,e1]
  simp only[bG];refine bH rfl ?_;go_wp2_with fail
  refine(AX (hh.calm k1) ha).mono ?_;rintro e w1 ⟨bh,rfl,Js,k2⟩;refine⟨k1.trans k2,?_⟩;simp only[bW];have k3:=k1.trans k2;have h1:=h.calm k3;have y53:=(o5.calm k3).1;have y33:=(o3.calm k3).1;clear y5 y3 c0
  cases bh with
  | true=>
    have EN:=af (Js.1 rfl);clear Js;go_wp2_with fail
    refine(J8 (p:=1) (d:=0) (wk:=true) (fn:=false) h1 hs ht ⟨by omega,by omega,λ_=>⟨rfl,rfl,rfl⟩⟩).mono ?_;rintro e w2 ⟨v,x,rfl,hv,hx,eY,S2,m1,m2,m3,m4⟩;replace m4:=af m4;have y54:=(m2.own (o5.calm k3) t5).1;have y34:=(m2.own (o3.calm k3) t3).1;have CJ:=(m1.cells 0 _ rfl).1;rw[m3.sp,m3.hp] at CJ;have K2:=(aF.calm τ k3).trans m2
    by_cases gK:x=0
    ·subst gK
     obtain⟨b,rfl,hb,Mf,mX,eC⟩:∃b:Nat,v=b/\b<=131072/\(vw S).ob b=none/\b≠0/\vw S2=((vw S).lay b { Ob.new 1 0 true false ((vw S).ser+1) with snd:=2*t+1 }).aO t { (vw S).tx t with holds:=((vw S).tx t).holds++[⟨b,0⟩] }:=by
      rcases m4.out with ⟨_,h⟩|⟨_,h,_⟩
      ·exact h
      ·rcases h with e|e|e <;> cases e
     clear m4;replace Mf:=af Mf;replace eC:=af eC;have k5:Calm w2 w2.drew:=aq.drew;have o:=oY (m1.calm k5) hb ha 0;rw[m3.hp] at o;go_wp2_with fail
     refine a_ 6 6 (λw'=>Calm w2 w') (by kernel_rfl) (by kernel_rfl) (aq.drew) ?_;refine ae (pV S.sp) rfl (λw' hw'=>?_) ai ?_
     ·have e1:=hw'.cellAt y34 id;simp[go_sem,e1]
     refine ae (pV S.sp) rfl (λw' hw'=>?_) ai ?_
     ·simp[go_sem]
     refine ae (aR S.sp) rfl (λw' hw'=>?_) ai ?_
     ·simp[go_sem]
     refine ae (pV S.D.B.hp) rfl (λw' hw'=>?_) ai ?_
     ·have e1:=hw'.cellAt CJ id;simp[go_sem,e1]
     refine ae (vI (b:Int)) rfl (λw' hw'=>?_) ai ?_
     ·simp[go_sem]
     refine ae (vI (a:Int)) rfl (λw' hw'=>?_) ai ?_
     ·have e1:=hw'.cellAt y54 id;simp[go_sem,e1]
     simp only[bG,Nat.sub_self,bW];go_wp2_with fail
     refine o.mono ?_;rintro e w4 ⟨z,rfl,_,_,n4⟩
     have hP:iK w τ (s+1) S (Vw S (xY t a)) (.returned (.tuple #[vI (b:Int),vI 0])) w4:=⟨b,0,rfl,hv,hx,((n4.l5 k5).step K2 m3).mono (aM _) λS4 e=>.inr (.inr (.inr ⟨rfl,h0,EN.out,b,rfl,hb,Mf.out,mX,by
      rw[e.2,show S2.D.A.ob=(vw S2).ob from rfl,eC.out];exact Pd EN.out Mf.out⟩))⟩
     replace hP:=af hP;clear n4 o y54 y34 CJ;go_wp2
     go_ret2
     exact hP.out
    ·have J4:(x != 0)=true:=by simp[bne,gK]
     have hP:iK w τ (s+1) S (Vw S (xY t a)) (.returned (.tuple #[vI 0,vI x])) w2:=by
      refine⟨0,x,rfl,by decide,hx,eY,S2,m1,K2,m3,?_⟩;rcases m4.out with ⟨e,_⟩|⟨e,e2⟩
      ·exact absurd e gK
      ·exact .inr (.inr (.inl ⟨rfl,e2⟩))
     replace hP:=af hP;go_wp2
     go_ret2
     exact hP.out
  | false=>
    have qV:S.D.A.ob a=none:=Classical.byContradiction λe=>by cases Js.2 e
    have hP:iK w τ (s+1) S (Vw S (xY t a)) (.returned (.tuple #[vI 0,vI 70])) w1:=⟨0,70,rfl,by decide,by decide,(Nx.calm h k3 (R:=Vw S (xY t a) 0 70) (.inr (.inl ⟨rfl,rfl,h0,qV,rfl⟩))).mono (Nat.le_succ _) λ_ h=>h⟩;replace hP:=af hP;clear qV Js;go_wp2
    go_ret2
    exact hP.out
theorem pK.i64{x:Int}(h:pK x):cL x:=by unfold pK at h;unfold cL;omega
def iY(K:Int)(t a:Nat)(k:Int)(val:Ob->Int)(v x:Int)(σ σ':PS):Prop:=
 (x=143/\a=0/\σ'=σ)\/(x=70/\(a≠0/\σ.ob a=none)/\σ'=σ)\/Ua t x σ σ' \/
 ∃o l,σ.ob a=some o/\gO σ t o/\(∀y∈(σ.tx t).reads,y∈l)/\a∈l/\σ'=σ.aO t { σ.tx t with reads:=l } /\ a≠0/\x=fO o K k/\(x=0->v=val o)
theorem tK.err{K:Int}{t a:Nat}{k:Int}{val:Ob->Int}{v x:Int}{σ σ':PS}(hK:K≠8/\K≠9)(h:tK t a x σ σ')(hx:x≠0):iY K t a k val v x σ σ':=by
 rcases h with h|h|⟨rfl,rfl⟩|⟨rfl,l,h1,rfl⟩|⟨o,l,h1,h2,h3,h4,h5,h6,⟨rfl,h7⟩|⟨rfl,h7,h8⟩|⟨h7,_⟩⟩
 ·exact .inl h
 ·exact .inr (.inl h)
 ·exact .inr (.inr (.inl ⟨.inl rfl,.refl⟩))
 ·exact .inr (.inr (.inl ⟨.inr (.inl rfl),.rd l h1⟩))
 ·exact .inr (.inr (.inr ⟨o,l,h1,h2,h3,h4,h5,h6,by unfold fO;rw[if_pos h7],λe=>by cases e⟩))
 ·exact .inr (.inr (.inr ⟨o,l,h1,h2,h3,h4,h5,h6,by unfold fO;rw[if_neg (by rw[h7];decide),if_neg hK.1,if_pos (by rw[h8,beq_eq_false_iff_ne.2 hK.2];decide)],λe=>by cases e⟩))
 ·exact absurd h7 hx
theorem tK.get{K:Int}{t a:Nat}{k:Int}{val:Ob->Int}{v x:Int}{σ σ':PS}(hK:K≠8/\K≠9)(hk:0<=k)(h:tK t a 0 σ σ')(hv:∀o,σ'.ob a=some o->v=(bif okF k (if K=6\/K=7 then o.d else o.p) then val o else 0)/\x=bif okF k (if K=6\/K=7 then o.d else o.p) then 0 else 71):iY K t a k val v x σ σ':=by
 rcases h with ⟨e,_⟩|⟨e,_⟩|⟨e,_⟩|⟨e,_⟩|⟨o,l,h1,h2,h3,h4,rfl,h6,⟨e,_⟩|⟨e,_⟩|⟨_,h7,h8⟩⟩
 any_goals omega
 obtain⟨e1,e2⟩:=hv o h1;refine .inr (.inr (.inr ⟨o,l,h1,h2,h3,h4,rfl,h6,?_,λe=>?_⟩))
 ·unfold fO;rw[if_neg (by rw[h7];decide),if_neg hK.1,if_neg (by rw[h8,beq_eq_false_iff_ne.2 hK.2];decide),e2];unfold okF
  by_cases h9:K=6\/K=7
  ·rw[if_pos h9,if_pos h9]
   by_cases L_:k<o.d
   ·rw[decide_eq_true ⟨hk,L_⟩,if_neg (by omega)];rfl
   ·rw[decide_eq_false (λe=>L_ e.2),if_pos (by omega)];rfl
  ·rw[if_neg h9,if_neg h9]
   by_cases L_:k<o.p
   ·rw[decide_eq_true ⟨hk,L_⟩,if_neg (by omega)];rfl
   ·rw[decide_eq_false (λe=>L_ e.2),if_pos (by omega)];rfl
 ·rw[e1]
  cases hf:okF k (if K=6\/K=7 then o.d else o.p) with
  | true=>rfl
  | false=>rw[hf] at e2;rw[e2] at e;cases e
theorem Jb(h:St w τ s S){t:Nat}(ht:t<S.bB.length)(hl:(S.tx t).live=true){a:Nat}(ha:a<=131072){k:Int}(ic:0<=k){b3 b5 bf bk:Nat}(o3:Own w b3 0 (pV S.sp))(o5:Own w b5 0 (vI (a:Int)))(of:Own w bf 0 (.func (.func 135) #[] #[]))(ok:Own w bk 0 (vI k))
 (t3:500<=τ b3) (t5:500<=τ b5) (tf:500<=τ bf) (tk:500<=τ bk) :
 aL prog 187 #[pV (S.tx t).xp,aR b3,aR b5,aR bf,aR bk] w (iK w τ s S (λv x S'=>iY 4 t a k (λo=>(o.ps.getD k.toNat 0:Nat)) v x (vw S) (vw S')/\0<=v/\v<=131072)):=by
 have y3:=o3.1;have y5:=o5.1;go_in;go_wp2_with fail
 refine(mM h ht hl ha).mono ?_;rintro e w1 ⟨x,rfl,hx,gi,S1,m1,m2,m3,_,r1⟩;replace r1:=af r1
 by_cases h0:x=0
 ·subst h0;have z3:=(m2.own o3 t3).1;have z5:=(m2.own o5 t5).1;have zf:=(m2.own of tf).1;have zk:=(m2.own ok tk).1;have c0:=(m1.cells 0 _ rfl).1;rw[m3.sp,m3.hp] at c0;have k1:Calm w1 w1.drew:=aq.drew;have o:=zD (m1.calm k1) ha k;rw[m3.hp] at o;clear y3 y5;go_wp2_with fail
  refine cY [0,1,2,3,4,5,6] [7] 8 (λw'=>w'.cell? ⟨bf,0,none⟩=some (.func (.func 135) #[] #[])/\w'.cell? ⟨b3,0,none⟩=some (pV S.sp)/\w'.cell? ⟨S.sp,0,none⟩=some (pV S.D.B.hp)/\w'.cell? ⟨b5,0,none⟩=some (vI (a:Int))/\w'.cell? ⟨bk,0,none⟩=some (vI k)) (by kernel_rfl) (by kernel_rfl) ⟨zf,z3,c0,z5,zk⟩ ?_;refine ah (.func (.func 135) #[] #[]) rfl rfl (λw' hw'=>?_) ai ?_
  ·have e1:=hw'.1;simp[go_sem,e1]
  refine ah (pV S.sp) rfl rfl (λw' hw'=>?_) ai ?_
  ·have e1:=hw'.2.1;simp[go_sem,e1]
  refine ah (pV S.sp) rfl rfl (λw' hw'=>?_) ai ?_
  ·simp[go_sem]
  refine ah (aR S.sp) rfl rfl (λw' hw'=>?_) ai ?_
  ·simp[go_sem]
  refine ah (pV S.D.B.hp) rfl rfl (λw' hw'=>?_) ai ?_
  ·have e1:=hw'.2.2.1;simp[go_sem,e1]
  refine ah (vI (a:Int)) rfl rfl (λw' hw'=>?_) ai ?_
  ·have e1:=hw'.2.2.2.1;simp[go_sem,e1]
  refine ah (vI k) rfl rfl (λw' hw'=>?_) ai ?_
  ·have e1:=hw'.2.2.2.2;simp[go_sem,e1]
  simp only[aU];refine aw rfl rfl ?_;go_wp2_with fail
  refine o.mono ?_;rintro e w4 ⟨v,x,rfl,hv,rR,n4,tq⟩;have n5:Nx w1 gi s S1 w4 (λS'=>S'=S1):=Nx.calm m1 (k1.trans n4) rfl;obtain⟨fB,S5,p1,p2,p3,p4⟩:=n5;replace tq:=af tq;have hP:iK w τ s S (λv x S'=>iY 4 t a k (λo=>(o.ps.getD k.toNat 0:Nat)) v x (vw S) (vw S')/\0<=v/\v<=131072) (.returned (.tuple #[vI (v:Int),vI x])) w4:=⟨(v:Int),x,rfl,⟨by omega,by omega⟩,rR.i64,fB,S5,p1,m2.trans p2,m3.trans p3,by rw[p4];exact tK.get (by decide) ic r1.out (λo ho=>by have:=tq.out o ho;exact⟨by rw[this.1];simp;cases okF k o.p <;> rfl,this.2⟩),by omega,by omega⟩;have CJ:=(p1.cells 0 _ rfl).1;rw[p3.sp,p3.hp,m3.sp,m3.hp] at CJ;refine⟨⟨(p2.own (m2.own of tf) (by rw[m2.tg _ of.lt];exact tf)).1,(p2.own (m2.own o3 t3) (by rw[m2.tg _ o3.lt];exact t3)).1,CJ,(p2.own (m2.own o5 t5) (by rw[m2.tg _ o5.lt];exact t5)).1,(p2.own (m2.own ok tk) (by rw[m2.tg _ ok.lt];exact tk)).1⟩,?_⟩;replace hP:=af hP;clear n4 tq o z3 z5 zf zk c0 CJ p1 p2 p3 p4 m1 m2 m3;simp only[bj];refine cQ [8,9] [10,11] (λ_=>True) (by kernel_rfl) trivial ?_;refine ah (vI (v:Int)) rfl rfl (λw' hw'=>?_) ai ?_
  ·simp[go_sem]
  refine ah (vI x) rfl rfl (λw' hw'=>?_) ai ?_
  ·simp[go_sem]
  simp only[aU];refine aw rfl rfl ?_;unfold Oper.wp;go_simp
  try refine⟨trivial,?_⟩
  refine aw rfl rfl ?_;unfold Oper.wp;go_simp
  try refine⟨trivial,?_⟩
  simp only[bj];go_wp2
  go_ret2
  exact hP.out
 ·have J4:(x != 0)=true:=by simp[bne,h0]
  have hP:iK w τ s S (λv x S'=>iY 4 t a k (λo=>(o.ps.getD k.toNat 0:Nat)) v x (vw S) (vw S')/\0<=v/\v<=131072) (.returned (.tuple #[vI 0,vI x])) w1:=⟨0,x,rfl,by decide,hx,gi,S1,m1,m2,m3,tK.err (by decide) r1.out h0,by decide,by decide⟩;replace hP:=af hP;go_wp2
  go_ret2
  exact hP.out
theorem Jc(h:St w τ s S){t:Nat}(ht:t<S.bB.length)(hl:(S.tx t).live=true){a:Nat}(ha:a<=131072){k:Int}(ic:0<=k){b3 b5 bf bk:Nat}(o3:Own w b3 0 (pV S.sp))(o5:Own w b5 0 (vI (a:Int)))(of:Own w bf 0 (.func (.func 143) #[] #[]))(ok:Own w bk 0 (vI k))
 (t3:500<=τ b3) (t5:500<=τ b5) (tf:500<=τ bf) (tk:500<=τ bk) :
 aL prog 187 #[pV (S.tx t).xp,aR b3,aR b5,aR bf,aR bk] w (iK w τ s S (Vw S (iY 6 t a k (λo=>zt (o.ns.getD k.toNat 0))))):=by
 have y3:=o3.1;have y5:=o5.1;go_in;go_wp2_with fail
 refine(mM h ht hl ha).mono ?_;rintro e w1 ⟨x,rfl,hx,gi,S1,m1,m2,m3,_,r1⟩;replace r1:=af r1
 by_cases h0:x=0
 ·subst h0;have z3:=(m2.own o3 t3).1;have z5:=(m2.own o5 t5).1;have zf:=(m2.own of tf).1;have zk:=(m2.own ok tk).1;have c0:=(m1.cells 0 _ rfl).1;rw[m3.sp,m3.hp] at c0;have k1:Calm w1 w1.drew:=aq.drew;have o:=Fx (m1.calm k1) ha k;rw[m3.hp] at o;clear y3 y5;go_wp2_with fail
  refine cY [0,1,2,3,4,5,6] [7] 8 (λw'=>w'.cell? ⟨bf,0,none⟩=some (.func (.func 143) #[] #[])/\w'.cell? ⟨b3,0,none⟩=some (pV S.sp)/\w'.cell? ⟨S.sp,0,none⟩=some (pV S.D.B.hp)/\w'.cell? ⟨b5,0,none⟩=some (vI (a:Int))/\w'.cell? ⟨bk,0,none⟩=some (vI k)) (by kernel_rfl) (by kernel_rfl) ⟨zf,z3,c0,z5,zk⟩ ?_;refine ah (.func (.func 143) #[] #[]) rfl rfl (λw' hw'=>?_) ai ?_
  ·have e1:=hw'.1;simp[go_sem,e1]
  refine ah (pV S.sp) rfl rfl (λw' hw'=>?_) ai ?_
  ·have e1:=hw'.2.1;simp[go_sem,e1]
  refine ah (pV S.sp) rfl rfl (λw' hw'=>?_) ai ?_
  ·simp[go_sem]
  refine ah (aR S.sp) rfl rfl (λw' hw'=>?_) ai ?_
  ·simp[go_sem]
  refine ah (pV S.D.B.hp) rfl rfl (λw' hw'=>?_) ai ?_
  ·have e1:=hw'.2.2.1;simp[go_sem,e1]
  refine ah (vI (a:Int)) rfl rfl (λw' hw'=>?_) ai ?_
  ·have e1:=hw'.2.2.2.1;simp[go_sem,e1]
  refine ah (vI k) rfl rfl (λw' hw'=>?_) ai ?_
  ·have e1:=hw'.2.2.2.2;simp[go_sem,e1]
  simp only[aU];refine aw rfl rfl ?_;go_wp2_with fail
  refine o.mono ?_;rintro e w4 ⟨v,x,rfl,hv,rR,n4,tq⟩;have n5:Nx w1 gi s S1 w4 (λS'=>S'=S1):=Nx.calm m1 (k1.trans n4) rfl;obtain⟨fB,S5,p1,p2,p3,p4⟩:=n5;replace tq:=af tq;have hP:iK w τ s S (Vw S (iY 6 t a k (λo=>zt (o.ns.getD k.toNat 0)))) (.returned (.tuple #[vI v,vI x])) w4:=⟨v,x,rfl,hv,rR.i64,fB,S5,p1,m2.trans p2,m3.trans p3,by rw[p4];exact tK.get (by decide) ic r1.out (λo ho=>tq.out o ho)⟩;have CJ:=(p1.cells 0 _ rfl).1;rw[p3.sp,p3.hp,m3.sp,m3.hp] at CJ;refine⟨⟨(p2.own (m2.own of tf) (by rw[m2.tg _ of.lt];exact tf)).1,(p2.own (m2.own o3 t3) (by rw[m2.tg _ o3.lt];exact t3)).1,CJ,(p2.own (m2.own o5 t5) (by rw[m2.tg _ o5.lt];exact t5)).1,(p2.own (m2.own ok tk) (by rw[m2.tg _ ok.lt];exact tk)).1⟩,?_⟩;replace hP:=af hP;clear n4 tq o z3 z5 zf zk c0 CJ p1 p2 p3 p4 m1 m2 m3;simp only[bj];refine cQ [8,9] [10,11] (λ_=>True) (by kernel_rfl) trivial ?_;refine ah (vI v) rfl rfl (λw' hw'=>?_) ai ?_
  ·simp[go_sem]
  refine ah (vI x) rfl rfl (λw' hw'=>?_) ai ?_
  ·simp[go_sem]
  simp only[aU];refine aw rfl rfl ?_;unfold Oper.wp;go_simp
  try refine⟨trivial,?_⟩
  refine aw rfl rfl ?_;unfold Oper.wp;go_simp
  try refine⟨trivial,?_⟩
  simp only[bj];go_wp2
  go_ret2
  exact hP.out
 ·have J4:(x != 0)=true:=by simp[bne,h0]
  have hP:iK w τ s S (Vw S (iY 6 t a k (λo=>zt (o.ns.getD k.toNat 0)))) (.returned (.tuple #[vI 0,vI x])) w1:=⟨0,x,rfl,by decide,hx,gi,S1,m1,m2,m3,tK.err (by decide) r1.out h0⟩;replace hP:=af hP;go_wp2
  go_ret2
  exact hP.out
end
section
variable {w:aj}{τ:Nat->Nat}{s:Nat}{S:aY}
theorem Vj.err{K:Int}{t a p d:Nat}{wk fn:Bool}{k:Int}{val:Ob->Int}{v x:Int}{σ σ':PS}(h:Vj t a p d wk fn x σ σ')(hx:x≠0):iY K t a k val v x σ σ':=by
 rcases h with h|h|⟨rfl,rfl⟩|⟨rfl,l,h1,rfl⟩|⟨o,l,h1,h2,h3,h4,h5,h6,⟨rfl,h7⟩|⟨h7,_⟩⟩
 ·exact .inl h
 ·exact .inr (.inl h)
 ·exact .inr (.inr (.inl ⟨.inl rfl,.refl⟩))
 ·exact .inr (.inr (.inl ⟨.inr (.inl rfl),.rd l h1⟩))
 ·exact .inr (.inr (.inr ⟨o,l,h1,h2,h3,h4,h5,h6,by unfold fO;rw[if_pos h7],λe=>by cases e⟩))
 ·exact absurd h7 hx
def xW(t a:Nat)(o:Ob)(l:aE)(σ σ':PS):Prop:=σ.ob a=some o/\gO σ t o/\(∀y∈(σ.tx t).reads,y∈l)/\a∈l/\σ'=σ.aO t { σ.tx t with reads:=l } /\ a≠0
theorem Vj.ok{t a p d:Nat}{wk fn:Bool}{σ σ':PS}(h:Vj t a p d wk fn 0 σ σ'):∃o l,xW t a o l σ σ'/\o.fr=false/\p=o.p/\d=o.d/\wk=o.wk:=by
 rcases h with ⟨e,_⟩|⟨e,_⟩|⟨e,_⟩|⟨e,_⟩|⟨o,l,h1,h2,h3,h4,h5,h6,⟨e,_⟩|⟨_,h7,h8,h9,L_,_⟩⟩
 any_goals omega
 exact⟨o,l,⟨h1,h2,h3,h4,h5,h6⟩,h7,h8,h9,L_⟩
theorem tK.ok{t a:Nat}{σ σ':PS}(h:tK t a 0 σ σ'):∃o l,xW t a o l σ σ'/\o.fr=false/\o.wk=false:=by
 rcases h with ⟨e,_⟩|⟨e,_⟩|⟨e,_⟩|⟨e,_⟩|⟨o,l,h1,h2,h3,h4,h5,h6,⟨e,_⟩|⟨e,_⟩|⟨_,h7,h8⟩⟩
 any_goals omega
 exact⟨o,l,⟨h1,h2,h3,h4,h5,h6⟩,h7,h8⟩
theorem xW.ob{t a:Nat}{o:Ob}{l:aE}{σ σ':PS}(h:xW t a o l σ σ'):σ'.ob=σ.ob:=by rw[h.2.2.2.2.1];rfl
theorem xW.gt{K:Int}{t a:Nat}{k:Int}{val:Ob->Int}{v x:Int}{o:Ob}{l:aE}{σ σ':PS}(h:xW t a o l σ σ')(hx:x=fO o K k)(hv:x=0->v=val o):iY K t a k val v x σ σ':=
 .inr (.inr (.inr ⟨o,l,h.1,h.2.1,h.2.2.1,h.2.2.2.1,h.2.2.2.2.1,h.2.2.2.2.2,hx,hv⟩))
theorem xW.ft{t a:Nat}{o:Ob}{l:aE}{σ σ':PS}(h:xW t a o l σ σ'):Ua t 130 σ σ':=⟨.inr (.inl rfl),by rw[h.2.2.2.2.1];exact .rd l h.2.2.1⟩
def jK(d:Dd)(b t a:Nat)(x:Int)(σ σ':PS):Prop:=
 (x=143/\a=0/\σ'=σ)\/(x=70/\((a≠0/\σ.ob a=none)\/(b≠0/\σ.ob b=none))/\σ'=σ)\/Ua t x σ σ' \/
 ∃o l,σ.ob a=some o/\gO σ t o/\(∀y∈(σ.tx t).reads,y∈l)/\a∈l/\a≠0/\x=fO o d.k d.i/\((x≠0/\σ'=σ.aO t { σ.tx t with reads:=l }) \/
  (x=0/\∃x',x'.live=(σ.tx t).live/\x'.start=(σ.tx t).start/\x'.reads=l/\x'.aQ=(σ.tx t).aQ++[zN d a o]/\((o.snd=2*t+1/\x'.holds=(σ.tx t).holds)\/∃v:Nat,o.snd=2*v/\x'.holds=(σ.tx t).holds++[⟨a,v⟩])/\σ'=(σ.cN a { Aq d b o with snd:=2*t+1 }).aO t x'))
theorem iY.ch{d:Dd}{b t a:Nat}{val:Ob->Int}{v x:Int}{σ σ':PS}(h:iY d.k t a d.i val v x σ σ')(hx:x≠0):jK d b t a x σ σ':=by
 rcases h with h|⟨h1,h2,h3⟩|h|⟨o,l,h1,h2,h3,h4,h5,h6,h7,_⟩
 ·exact .inl h
 ·exact .inr (.inl ⟨h1,.inl h2,h3⟩)
 ·exact .inr (.inr (.inl h))
 ·exact .inr (.inr (.inr ⟨o,l,h1,h2,h3,h4,h6,h7,.inl ⟨hx,h5⟩⟩))
theorem xW.hold{t a:Nat}{o:Ob}{l:aE}{σ dE Cm:PS}(h:xW t a o l σ dE)(k:QV t a true dE Cm) :
 Ua t 130 σ Cm/\((o.snd=2*t+1/\Cm=dE)\/∃v:Nat,o.snd=2*v/\Cm=(σ.cN a { o with snd:=2*t+1 }).aO t { σ.tx t with reads:=l,holds:=(σ.tx t).holds++[⟨a,v⟩] }):=by
 have Qj:=h.ob;obtain⟨h1,h2,h3,h4,h5,h6⟩:=h;have ht:dE.tx t = { σ.tx t with reads:=l }:=by rw[h5];exact aV _ _ _
 rcases k o (by rw[Qj];exact h1) with ⟨e,_⟩|⟨_,⟨u,hu⟩,e⟩|⟨_,v,hv,e⟩
 ·cases e
 ·have:u=t:=by rcases h2 with h2|⟨v,h2,_⟩ <;> omega
  subst this;exact⟨⟨.inr (.inl rfl),by rw[e,h5];exact .rd l h3⟩,.inl ⟨hu,e⟩⟩
 ·have eS:Cm=(σ.cN a { o with snd:=2*t+1 }).aO t { σ.tx t with reads:=l,holds:=(σ.tx t).holds++[⟨a,v⟩] }:=by
   rw[e,ht,h5];unfold PS.cN PS.aO;simp only[PS.mk.injEq,true_and];funext u
   by_cases eu:u=t <;> simp[eu]
  have Xy:v<=(σ.tx t).start:=by rcases h2 with h2|⟨v',h2,h7⟩ <;> omega
  exact⟨⟨.inr (.inl rfl),by rw[eS];exact .hold l h3 a o v h1 hv Xy⟩,.inr ⟨v,hv,eS⟩⟩
theorem xW.und{t a:Nat}{o:Ob}{l:aE}{σ dE Cm TY:PS}{u:Ud}(h:xW t a o l σ dE)(k:QV t a true dE Cm)(h3:TY=Cm.aO t { Cm.tx t with aQ:=(Cm.tx t).aQ++[u] }) :
 TY.ob a=some { o with snd:=2*t+1 } /\ ∀b,σ.ob b≠none->TY.ob b≠none:=by
 have Qj:=h.ob;rcases(h.hold k).2 with ⟨e,rfl⟩|⟨v,e,rfl⟩ <;> rw[h3]
 ·refine⟨?_,λb hb=>by show Cm.ob b≠none;rw[Qj];exact hb⟩;show Cm.ob a=_;rw[Qj,h.1,<-e]
 ·refine⟨kl _ _ _,λb hb=>?_⟩;show(if b=a then some { o with snd:=2*t+1 } else σ.ob b)≠none;split
  ·intro e;cases e
  ·exact hb
theorem xW.ch{d:Dd}{b t a:Nat}{o:Ob}{l:aE}{σ dE Cm TY σ4:PS}{g:Ob->Ob}(h:xW t a o l σ dE)(hf:fO o d.k d.i=0)(k:QV t a true dE Cm)(h3:TY=Cm.aO t { Cm.tx t with aQ:=(Cm.tx t).aQ++[zN d a o] })(h4:σ4=TY.mod a g)(hg:g { o with snd:=2*t+1 } = { Aq d b o with snd:=2*t+1 }):jK d b t a 0 σ σ4:=by
 have Qj:=h.ob;have hu:=(h.und k h3).1;obtain⟨h1,h2,h5,h6,h7,h8⟩:=h;have h9:=(xW.hold ⟨h1,h2,h5,h6,h7,h8⟩ k).2;have pE:dE.tx t = { σ.tx t with reads:=l }:=by rw[h7];exact aV _ _ _
 have m:∀σ:PS,σ.ob a=some { o with snd:=2*t+1 } -> σ.mod a g = { σ with ob:=λp=>if p=a then some { Aq d b o with snd:=2*t+1 } else σ.ob p }:=λσ e=>by
  unfold PS.mod;rw[j9 g e,hg]
 refine .inr (.inr (.inr ⟨o,l,h1,h2,h5,h6,h8,hf.symm,.inr ⟨rfl,?_⟩⟩));rw[h4,m TY hu,h3];rcases h9 with ⟨e,rfl⟩|⟨v,e,rfl⟩
 ·refine⟨{ σ.tx t with reads:=l,aQ:=(σ.tx t).aQ++[zN d a o] },rfl,rfl,rfl,rfl,.inl ⟨e,rfl⟩,?_⟩;rw[pE,h7];unfold PS.cN PS.aO;simp only[PS.mk.injEq,true_and];funext u
  by_cases eu:u=t <;> simp[eu]
 ·refine⟨{ σ.tx t with reads:=l,holds:=(σ.tx t).holds++[⟨a,v⟩],aQ:=(σ.tx t).aQ++[zN d a o] },rfl,rfl,rfl,rfl,.inr ⟨v,e,rfl⟩,?_⟩;unfold PS.cN PS.aO;simp only[PS.mk.injEq,true_and,if_pos];constructor
  ·funext p
   by_cases ep:p=a <;> simp[ep]
  ·funext u
   by_cases eu:u=t <;> simp[eu]
theorem Ke(h:St w τ s S){t:Nat}(ht:t<S.bB.length)(hl:(S.tx t).live=true){a:Nat}(ha:a<=131072){b3 b5:Nat}(o3:Own w b3 0 (pV S.sp))(o5:Own w b5 0 (vI (a:Int)))(t3:500<=τ b3)(t5:500<=τ b5) :
 aL prog 136 #[pV (S.tx t).xp,aR b3,aR b5] w (iK w τ s S (λv x S'=>iY 9 t a 0 (λo=>(o.ps.getD 0 0:Nat)) v x (vw S) (vw S')/\0<=v/\v<=131072)):=by
 have y3:=o3.1;have y5:=o5.1;go_in;go_wp2_with fail
 refine(yY h ht hl ha).mono ?_;rintro e w0 ⟨p,d,wk,fn,x,rfl,hx,τ0,S1,m1,m2,m3,_,r1⟩;replace r1:=af r1;have k0:Calm w0 (w0.alloc (.cells #[vI p,vI d,.bool wk,.bool fn] 179)):=aq.alloc _;have og:=ag.new w0 (Mz p d wk fn) 179;have g2:=(og 2 _ rfl).1;clear y3 y5
 by_cases h0:x=0
 ·subst h0
  cases wk with
  | false=>
    have hP:iK w τ s S (λv x S'=>iY 9 t a 0 (λo=>(o.ps.getD 0 0:Nat)) v x (vw S) (vw S')/\0<=v/\v<=131072) (.returned (.tuple #[vI 0,vI 144])) (w0.alloc (.cells #[vI p,vI d,.bool false,.bool fn] 179)):=⟨0,144,rfl,by decide,by decide,τ0,S1,m1.calm k0,m2.trans (aF.calm τ0 k0),m3,by
     obtain⟨o,l,h1,h2,_,_,h3⟩:=r1.out.ok
     exact h1.gt (by unfold fO;rw[if_neg (by rw[h2];decide),if_neg (by decide),if_pos (by rw[<-h3];decide)]) (λe=>by cases e),by decide,by decide⟩
    replace hP:=af hP;go_wp2
    go_ret2
    exact hP.out
  | true=>
    obtain⟨ob,lr,r2,dM,hp9,jY,iF⟩:=r1.out.ok;clear r1 hp9 jY;have N6:S1.D.A.ob a=some ob:=by have:=r2.ob;rw[show S1.D.A.ob=(vw S1).ob from rfl,this];exact r2.1
    replace r2:=af r2;replace dM:=af dM;replace iF:=af iF;replace N6:=af N6;have z3:=k0.cellAt (m2.own o3 t3).1 id;have z5:=k0.cellAt (m2.own o5 t5).1 id;have c0:=k0.cellAt (m1.cells 0 _ rfl).1 id;rw[m3.sp,m3.hp] at c0;obtain⟨w1,fL⟩:=au (w0.alloc (.cells #[vI p,vI d,.bool true,.bool fn] 179));replace og:ag w1 w0.heap.size [vI p,vI d,.bool true,.bool fn]:=by rw[<-fL];exact og
    have g2:=(og 2 _ rfl).1;rw[fL] at z3 z5 c0 k0;have k1:Calm w1 w1.drew:=aq.drew;have Ig:=(m1.calm k0).calm k1;have o:=zD Ig ha 0;rw[m3.hp] at o;have K1:aF w τ w1.drew τ0:=m2.trans (aF.calm τ0 (k0.trans k1));go_wp2_with fail
    refine cY [0,1,2,3,4] [5,6] 7 (λw'=>w'.cell? ⟨b3,0,none⟩=some (pV S.sp)/\w'.cell? ⟨S.sp,0,none⟩=some (pV S.D.B.hp)/\w'.cell? ⟨b5,0,none⟩=some (vI (a:Int))) (by kernel_rfl) (by kernel_rfl) ⟨z3,c0,z5⟩ ?_;refine ah (pV S.sp) rfl rfl (λw' hw'=>?_) ai ?_
    ·have e1:=hw'.1;simp[go_sem,e1]
    refine ah (pV S.sp) rfl rfl (λw' hw'=>?_) ai ?_
    ·simp[go_sem]
    refine ah (aR S.sp) rfl rfl (λw' hw'=>?_) ai ?_
    ·simp[go_sem]
    refine ah (pV S.D.B.hp) rfl rfl (λw' hw'=>?_) ai ?_
    ·have e1:=hw'.2.1;simp[go_sem,e1]
    refine ah (vI (a:Int)) rfl rfl (λw' hw'=>?_) ai ?_
    ·have e1:=hw'.2.2;simp[go_sem,e1]
    simp only[aU];refine aw rfl rfl ?_;go_wp2_with fail
    refine o.mono ?_;rintro e w4 ⟨v,x,rfl,hv,rR,n4,tq⟩;obtain⟨fB,S5,p1,p2,p3,p4⟩:Nx w1.drew τ0 s S1 w4 (λS'=>S'=S1):=Nx.calm Ig n4 rfl;have Ol:=tq ob N6.out;clear tq;have r5:Hid (xW t a ob lr (vw S) (vw S5)):=by show xW t a ob lr (vw S) (vw S5);rw[p4];exact r2.out
    have C_:Hid (x=fO ob 9 0/\(x=0->v=ob.ps.getD 0 0)):=by
     show x=fO ob 9 0/\(x=0->v=ob.ps.getD 0 0);refine⟨?_,λe=>?_⟩
     ·rw[Ol.2];unfold fO okF;rw[if_neg (by rw[dM.out];decide),if_neg (by decide),if_neg (by rw[<-iF.out];decide),if_neg (show ¬((9:Int)=6\/(9:Int)=7) by decide)]
      by_cases L_:(0:Int)<ob.p
      ·rw[decide_eq_true ⟨Int.le_refl _,L_⟩,if_neg (by omega)];rfl
      ·rw[decide_eq_false (λe=>L_ e.2),if_pos (by omega)];rfl
     ·rw[Ol.1]
      cases hf:okF 0 ob.p with
      | true=>rfl
      | false=>have:=Ol.2;rw[hf,e] at this;cases this
    clear Ol r2 N6 dM iF;have CJ:=(p1.cells 0 _ rfl).1;rw[p3.sp,p3.hp,m3.sp,m3.hp] at CJ;have K2:=K1.trans p2;have X2:=m3.trans p3;have hS:w4.cell? ⟨b3,0,none⟩=some (pV S.sp)/\w4.cell? ⟨S.sp,0,none⟩=some (pV S.D.B.hp)/\w4.cell? ⟨b5,0,none⟩=some (vI (a:Int)):=⟨(K2.own o3 t3).1,CJ,(K2.own o5 t5).1⟩;refine⟨hS,?_⟩;clear o z3 z5 c0 CJ g2 og Ig m2 p2;replace fL:=af fL;refine aw rfl rfl ?_;unfold Oper.wp;go_simp
    try refine⟨hS.1,hS.2.1,hS.2.2,?_⟩
    clear hS
    try simp only[bj]
    refine cQ [7,8] [9,10] (λw'=>True) (by kernel_rfl) trivial ?_;refine ah (vI (v:Int)) rfl rfl (λw' hw'=>?_) ai ?_
    ·simp[go_sem]
    refine ah (vI x) rfl rfl (λw' hw'=>?_) ai ?_
    ·simp[go_sem]
    simp only[aU];refine aw rfl rfl ?_;unfold Oper.wp;go_simp
    try refine⟨trivial,?_⟩
    refine aw rfl rfl ?_;unfold Oper.wp;go_simp
    try refine⟨trivial,?_⟩
    simp only[bj]
    by_cases gK:x=0
    ·subst gK
     by_cases tj:v=0
     ·subst tj;have hP:iK w τ s S (λv x S'=>iY 9 t a 0 (λo=>(o.ps.getD 0 0:Nat)) v x (vw S) (vw S')/\0<=v/\v<=131072) (.returned (.tuple #[vI (0:Nat),vI 0])) w4:=⟨(0:Nat),0,rfl,by decide,by decide,fB,S5,p1,K2,X2,r5.out.gt C_.out.1 (λ_=>by rw[<-C_.out.2 (by simp)]),by decide,by decide⟩;replace hP:=af hP;go_wp2
      go_ret2
      exact hP.out
     ·have H_:((v:Int) != 0)=true:=by simp[bne];omega
      have JW:t<S5.bB.length:=by rw[X2.len];exact ht
      have c4:=(p1.ny JW 4 _ rfl).1;rw[X2.xp,X2.lp] at c4;have ok:=Kd p1 JW hv;rw[X2.lp] at ok;go_wp2_with fail
      refine ok.mono ?_;rintro e w5 ⟨b,rfl,n5⟩;have n6:Nx w τ s S w5 (λS'=>xW t a ob lr (vw S) (vw S')):=(n5.step K2 X2).mono (aM _) λS' e=>by rw[e.2];exact r5.out
      cases b with
      | true=>
        have hP:iK w τ s S (λv x S'=>iY 9 t a 0 (λo=>(o.ps.getD 0 0:Nat)) v x (vw S) (vw S')/\0<=v/\v<=131072) (.returned (.tuple #[vI (v:Int),vI 0])) w5:=⟨v,0,rfl,⟨by omega,by omega⟩,by decide,n6.mono (aM _) λ_ e=>⟨e.gt C_.out.1 (λ_=>by rw[<-C_.out.2 (by simp)]),by omega,by omega⟩⟩;replace hP:=af hP;clear n6 n5;go_wp2
        go_ret2
        exact hP.out
      | false=>
        have hP:iK w τ s S (λv x S'=>iY 9 t a 0 (λo=>(o.ps.getD 0 0:Nat)) v x (vw S) (vw S')/\0<=v/\v<=131072) (.returned (.tuple #[vI 0,vI 130])) w5:=⟨0,130,rfl,by decide,by decide,n6.mono (aM _) λ_ e=>⟨.inr (.inr (.inl e.ft)),by decide,by decide⟩⟩;replace hP:=af hP;clear n6 n5;go_wp2
        go_ret2
        exact hP.out
    ·have J4:(x != 0)=true:=by simp[bne,gK]
     have hP:iK w τ s S (λv x S'=>iY 9 t a 0 (λo=>(o.ps.getD 0 0:Nat)) v x (vw S) (vw S')/\0<=v/\v<=131072) (.returned (.tuple #[vI 0,vI x])) w4:=⟨0,x,rfl,by decide,rR.i64,fB,S5,p1,K2,X2,r5.out.gt C_.out.1 (λe=>absurd e gK),by decide,by decide⟩;replace hP:=af hP;go_wp2
     go_ret2
     exact hP.out
 ·have J4:(x != 0)=true:=by simp[bne,h0]
  have hP:iK w τ s S (λv x S'=>iY 9 t a 0 (λo=>(o.ps.getD 0 0:Nat)) v x (vw S) (vw S')/\0<=v/\v<=131072) (.returned (.tuple #[vI 0,vI x])) (w0.alloc (.cells #[vI p,vI d,.bool wk,.bool fn] 179)):=⟨0,x,rfl,by decide,hx,τ0,S1,m1.calm k0,m2.trans (aF.calm τ0 k0),m3,r1.out.err h0,by decide,by decide⟩;replace hP:=af hP;go_wp2
  go_ret2
  exact hP.out
theorem Hl{a:Nat}(ha:a<=131072):Q2 ⟨3,a,0,0⟩/\cL (⟨3,a,0,0⟩:Ud).kind/\cL (⟨3,a,0,0⟩:Ud).i:=⟨⟨ha,by show cL 0;decide,λe=>absurd (show(3:Int)=1 from e) (by decide)⟩,by show cL 3;decide,by show cL 0;decide⟩
theorem Jf(h:St w τ s S){t:Nat}(ht:t<S.bB.length)(hl:(S.tx t).live=true){a:Nat}(ha:a<=131072){d9:Dd}(jY:d9.k=8)(b9:Nat){b3 b5:Nat}(o3:Own w b3 0 (pV S.sp))(o5:Own w b5 0 (vI (a:Int)))(t3:500<=τ b3)(t5:500<=τ b5) :
 aL prog 146 #[pV (S.tx t).xp,aR b3,aR b5] w (iK w τ s S (λv x S'=>v=0/\jK d9 b9 t a x (vw S) (vw S'))):=by
 have y3:=o3.1;have y5:=o5.1;go_in;go_wp2_with fail
 refine(yY h ht hl ha).mono ?_;rintro e w0 ⟨p,d,wk,fn,x,rfl,hx,τ0,S1,m1,m2,m3,_,r1⟩;replace r1:=af r1;have k0:Calm w0 (w0.alloc (.cells #[vI p,vI d,.bool wk,.bool fn] 179)):=aq.alloc _;clear y3 y5
 by_cases h0:x=0
 ·subst h0;obtain⟨ob,lr,r2,dM,hp8,Wv,iF⟩:=r1.out.ok;clear r1 hp8 Wv iF;have C_:Hid (fO ob d9.k d9.i=0):=by show fO ob d9.k d9.i=0;unfold fO;rw[if_neg (by rw[dM];decide),if_pos jY]
  clear dM;replace r2:=af r2;have z3:=k0.cellAt (m2.own o3 t3).1 id;have z5:=k0.cellAt (m2.own o5 t5).1 id;obtain⟨w1,fL⟩:=au (w0.alloc (.cells #[vI p,vI d,.bool wk,.bool fn] 179));rw[fL] at z3 z5 k0;have k1:Calm w1 w1.drew:=aq.drew;have Ig:=(m1.calm k0).calm k1;have pE:t<S1.bB.length:=by rw[m3.len];exact ht
  have o:=yO Ig pE ha;rw[m3.sp,m3.xp] at o;have K1:aF w τ w1.drew τ0:=m2.trans (aF.calm τ0 (k0.trans k1));go_wp2_with fail
  refine cY [0,1,2] [3,4,5] 6 (λw'=>w'.cell? ⟨b3,0,none⟩=some (pV S.sp)/\w'.cell? ⟨b5,0,none⟩=some (vI (a:Int))) (by kernel_rfl) (by kernel_rfl) ⟨z3,z5⟩ ?_;refine ah (pV S.sp) rfl rfl (λw' hw'=>?_) ai ?_
  ·have e1:=hw'.1;simp[go_sem,e1]
  refine ah (pV (S.tx t).xp) rfl rfl (λw' hw'=>?_) ai ?_
  ·simp[go_sem]
  refine ah (vI (a:Int)) rfl rfl (λw' hw'=>?_) ai ?_
  ·have e1:=hw'.2;simp[go_sem,e1]
  simp only[aU];refine aw rfl rfl ?_;go_wp2_with fail
  refine o.mono ?_;rintro e w4 ⟨b,rfl,fB,S5,p1,p2,p3,_,p4⟩;replace p4:=af p4;have K2:=K1.trans p2;have X2:=m3.trans p3;have JW:t<S5.bB.length:=by rw[X2.len];exact ht
  have hS:w4.cell? ⟨b3,0,none⟩=some (pV S.sp)/\w4.cell? ⟨b5,0,none⟩=some (vI (a:Int)):=⟨(K2.own o3 t3).1,(K2.own o5 t5).1⟩;have c4:=(p1.ny JW 4 _ rfl).1;rw[X2.xp,X2.lp] at c4;refine⟨hS,?_⟩;clear o z3 z5 Ig m2 p2;replace fL:=af fL;refine aw rfl rfl ?_;unfold Oper.wp;go_simp
  try refine⟨hS.1,hS.2,?_⟩
  refine aw rfl rfl ?_;unfold Oper.wp;go_simp
  try refine⟨hS.1,hS.2,?_⟩
  try simp only[bj]
  obtain⟨z3,z5⟩:=hS
  cases b with
  | false=>
    refine cQ [6,7,8,9,10,11,12,13,14] [] (λw'=>True) (by kernel_rfl) trivial ?_;refine aT rfl rfl ai ?_;go_simp;refine aT rfl rfl ai ?_;go_simp;refine aT rfl rfl ai ?_;go_simp;refine aT rfl rfl ai ?_;go_simp;refine aT rfl rfl ai ?_;go_simp;refine aT rfl rfl ai ?_;go_simp;refine aT rfl rfl ai ?_;go_simp;refine aT rfl rfl ai ?_;go_simp;refine ah (.bool true) rfl rfl (λw' hw'=>?_) ai ?_
    ·simp[go_sem]
    simp only[aU];simp only[bj]
    have hP:iK w τ s S (λv x S'=>v=0/\jK d9 b9 t a x (vw S) (vw S')) (.returned (.tuple #[vI 0,vI 130])) w4:=⟨0,130,rfl,by decide,by decide,fB,S5,p1,K2,X2,rfl,by
     have h1:(vw S1).ob a=some ob:=by rw[r2.out.ob];exact r2.out.1
     rcases p4.out ob h1 with ⟨_,e⟩|⟨e,_⟩|⟨e,_⟩
     ·rw[e];exact .inr (.inr (.inl r2.out.ft))
     ·simp at e
     ·simp at e⟩
    replace hP:=af hP;go_wp2
    go_ret2
    exact hP.out
  | true=>
    refine cQ [6,7,8,9,10,11] [12,13,14] (λw'=>w'.cell? ⟨(S.tx t).xp,4,none⟩=some (pV (S.tx t).lp)/\w'.cell? ⟨b5,0,none⟩=some (vI (a:Int))) (by kernel_rfl) ⟨c4,z5⟩ ?_;refine ah (pV (S.tx t).xp) rfl rfl (λw' hw'=>?_) ai ?_
    ·simp[go_sem]
    go_simp;refine ah (pV (S.tx t).xp) rfl rfl (λw' hw'=>?_) ai ?_
    ·simp[go_sem]
    go_simp;refine ah (.pointer (some ⟨(S.tx t).xp,4,none⟩)) rfl rfl (λw' hw'=>?_) ai ?_
    ·simp[go_sem]
    go_simp;refine ah (pV (S.tx t).lp) rfl rfl (λw' hw'=>?_) ai ?_
    ·have e1:=hw'.1;simp[go_sem,e1]
    go_simp;refine ah (vI (a:Int)) rfl rfl (λw' hw'=>?_) ai ?_
    ·have e1:=hw'.2;simp[go_sem,e1]
    go_simp;refine ah (.agg #[vI 3,vI (a:Int),vI 0,vI 0]) rfl rfl (λw' hw'=>?_) ai ?_
    ·simp[go_sem]
    go_simp
    try simp only[aU]
    have ou:=uE p1 JW (u:=⟨3,a,0,0⟩) (Hl ha);rw[X2.lp] at ou;refine aw rfl rfl ?_;go_wp2_with fail
    refine ou.mono ?_;rintro e w6 ⟨b2,rfl,L4,S7,n1,n2,n3,_,n4,n5⟩;replace n4:=af n4;replace n5:=af n5;have p5:Hid (QV t a true (vw S1) (vw S5)):=af p4.out;clear p4;have K3:=K2.trans n2;have X3:=X2.trans n3;have Xp:t<S7.bB.length:=by rw[X3.len];exact ht
    have z36:=(K3.own o3 t3).1;have z56:=(K3.own o5 t5).1;have CK:=(n1.ny Xp 4 _ rfl).1;rw[X3.xp,X3.lp] at CK;have L9:=(n1.cells 0 _ rfl).1;rw[X3.sp,X3.hp] at L9;have hS:w6.cell? ⟨(S.tx t).xp,4,none⟩=some (pV (S.tx t).lp)/\w6.cell? ⟨b5,0,none⟩=some (vI (a:Int)):=⟨CK,z56⟩;refine⟨hS,?_⟩;clear ou c4 z3 z5 K2 n2;refine aw rfl rfl ?_;unfold Oper.wp;go_simp
    try refine⟨hS.1,hS.2,?_⟩
    refine aw rfl rfl ?_;unfold Oper.wp;go_simp
    try refine⟨hS.1,hS.2,?_⟩
    try simp only[bj]
    clear hS
    cases b2 with
    | false=>
      have hP:iK w τ s S (λv x S'=>v=0/\jK d9 b9 t a x (vw S) (vw S')) (.returned (.tuple #[vI 0,vI 130])) w6:=⟨0,130,rfl,by decide,by decide,L4,S7,n1,K3,X3,rfl,by rw[n5.out (by simp)];exact .inr (.inr (.inl (r2.out.hold p5.out).1))⟩;replace hP:=af hP;go_wp2
      go_ret2
      exact hP.out
    | true=>
      have kd:Calm w6 w6.drew:=aq.drew;have of:=iP (n1.calm kd) ha true;rw[X3.hp] at of;go_wp2_with fail
      refine a_ 5 5 (λw'=>Calm w6 w') (by kernel_rfl) (by kernel_rfl) (aq.drew) ?_;refine ae (pV S.sp) rfl (λw' hw'=>?_) ai ?_
      ·have e1:=hw'.cellAt z36 id;simp[go_sem,e1]
      refine ae (pV S.sp) rfl (λw' hw'=>?_) ai ?_
      ·simp[go_sem]
      refine ae (aR S.sp) rfl (λw' hw'=>?_) ai ?_
      ·simp[go_sem]
      refine ae (pV S.D.B.hp) rfl (λw' hw'=>?_) ai ?_
      ·have e1:=hw'.cellAt L9 id;simp[go_sem,e1]
      refine ae (vI (a:Int)) rfl (λw' hw'=>?_) ai ?_
      ·have e1:=hw'.cellAt z56 id;simp[go_sem,e1]
      simp only[bG,Nat.sub_self,bW];go_wp2_with fail
      refine of.mono ?_;rintro e w8 ⟨y,rfl,hy,Qr,n8⟩
      have JY:vw S7=(vw S5).aO t { (vw S5).tx t with aQ:=((vw S5).tx t).aQ++[zN d9 a ob] }:=by
       rw[n4.out (by simp)];unfold zN;rw[if_neg (by rw[jY];decide),if_neg (by rw[jY];decide)];rfl
      have vA:y=0:=Qr (by rw[show S7.D.A.ob=(vw S7).ob from rfl,(r2.out.und p5.out JY).1];intro e;cases e);subst vA;have hP:iK w τ s S (λv x S'=>v=0/\jK d9 b9 t a x (vw S) (vw S')) (.returned (.tuple #[vI 0,vI 0])) w8:=⟨0,0,rfl,by decide,by decide,((n8.l5 kd).step K3 X3).mono (aM _) λS' e=>⟨rfl,r2.out.ch C_.out p5.out JY e.2 (by unfold Aq;rw[if_neg (by rw[jY];decide),if_neg (by rw[jY];decide)])⟩⟩;replace hP:=af hP;clear of n8 z36 z56 L9 CK JY Qr hy;go_wp2
      go_ret2
      exact hP.out
 ·have J4:(x != 0)=true:=by simp[bne,h0]
  have hP:iK w τ s S (λv x S'=>v=0/\jK d9 b9 t a x (vw S) (vw S')) (.returned (.tuple #[vI 0,vI x])) (w0.alloc (.cells #[vI p,vI d,.bool wk,.bool fn] 179)):=⟨0,x,rfl,by decide,hx,τ0,S1,m1.calm k0,m2.trans (aF.calm τ0 k0),m3,rfl,iY.ch (val:=λ_=>0) (v:=0) (r1.out.err h0) h0⟩;replace hP:=af hP;go_wp2
  go_ret2
  exact hP.out
end
section
variable {w:aj}{τ:Nat->Nat}{s:Nat}{S:aY}
theorem tK.QC{K:Int}{t a:Nat}{k:Int}{val:Ob->Int}{v:Int}{σ σ':PS}(hK:K≠8/\K≠9)(hk:0<=k)(h:tK t a 0 σ σ')(hv:∀o,σ'.ob a=some o->v=(bif okF k (if K=6\/K=7 then o.d else o.p) then val o else 0)/\(0:Int)=bif okF k (if K=6\/K=7 then o.d else o.p) then 0 else 71) :
 ∃o l,xW t a o l σ σ'/\fO o K k=0/\v=val o/\okF k (if K=6\/K=7 then o.d else o.p)=true:=by
 obtain⟨o,l,h1,h7,h8⟩:=h.ok;obtain⟨e1,e2⟩:=hv o (by rw[h1.ob];exact h1.1)
 cases hf:okF k (if K=6\/K=7 then o.d else o.p) with
 | false=>rw[hf] at e2;cases e2
 | true=>
   rw[hf] at e1;refine⟨o,l,h1,?_,e1,hf⟩;unfold fO;rw[if_neg (by rw[h7];decide),if_neg hK.1,if_neg (by rw[h8,beq_eq_false_iff_ne.2 hK.2];decide)];unfold okF at hf;have hf:=of_decide_eq_true hf
   by_cases h9:K=6\/K=7
   ·rw[if_pos h9] at hf ⊢;rw[if_neg (by omega)]
   ·rw[if_neg h9] at hf ⊢;rw[if_neg (by omega)]
theorem Pe{σ:PS}{a b:Nat}{k:Int}(h:b=0\/σ.ob b≠none):{ σ with ob:=Lo σ.ob a k b } = σ.mod a (λo=>o.np (okF k o.p) k b):=by
 unfold PS.mod Lo;rw[if_pos h]
def Hu(w:aj)(τ:Nat->Nat)(s:Nat)(S:aY)(d:Dd)(b t a:Nat)(e:Ending)(w':aj):Prop:=∃x:Int,e=.returned (vI x)/\cL x/\Nx w τ s S w' λS'=>jK d b t a x (vw S) (vw S')
theorem Au(h:St w τ s S){t:Nat}(ht:t<S.bB.length)(hl:(S.tx t).live=true){a:Nat}(ha:a<=131072){k:Int}(hk:cL k)(ic:0<=k){b:Nat}(hb:b<=131072)(Js:b=0\/S.D.A.ob b≠none){d9:Dd}(jY:d9.k=5)(sy:d9.i=k) :
 aL prog 142 #[pV S.sp,pV (S.tx t).xp,.agg #[vI 1,vI (a:Int),vI k,vI 0],.func (.func 135) #[pV S.D.B.hp] #[],.func (.func 133) #[pV S.D.B.hp] #[],vI (b:Int)] w (Hu w τ s S d9 b t a):=by
 obtain⟨τ0,hf,tk,fr⟩:=h.fresh;obtain⟨k0,o8⟩:=gL w [vI 1,vI (a:Int),vI k,vI 0] 231;obtain⟨W1,iM⟩:=au (w.alloc (.cells #[vI 1,vI (a:Int),vI k,vI 0] 231));rw[iM] at k0 o8;have t8:500<=τ0 w.heap.size:=by rw[fr _ (aM _)];omega
 have Sg:w.heap.size<W1.heap.size:=o8.lt (by simp);have c1:=(o8 1 _ rfl).1
 have fin:Hid (∀ (W:aj) (fB:Nat->Nat) (S5:aY),St W fB s S5->(∃W0,aF W1 τ0 W0 fB/\Fr (λb=>b=w.heap.size) W0 W)->Fix S S5->∀ {R:aY->Prop},R S5->Nx w τ s S W R):=by
  rintro W fB S5 a1 ⟨W0,a2,a3⟩ a4 R a5;refine⟨fB,S5,a1,?_,a4,a5⟩;have K:aF w τ0 W0 fB:=(aF.calm τ0 k0).trans a2;exact aF.dp ⟨K.fr.join a3 (λj hj e=>by omega),K.tg⟩ tk
 go_in;go_wp2_with fail
 refine(mM (hf.calm k0) ht hl ha).mono ?_;rintro e w1 ⟨x,rfl,hx,gi,S1,m1,m2,m3,_,r1⟩;replace r1:=af r1;clear iM;have p8:=m2.bw o8 t8;clear c1
 by_cases h0:x=0
 ·subst h0;have pE:t<S1.bB.length:=by rw[m3.len];exact ht
  have c1:=(p8 1 _ rfl).1;have c2:=(p8 2 _ rfl).1;have o:=zD m1 ha k;rw[m3.hp] at o;go_wp2_with fail
  refine o.mono ?_;rintro e w2 ⟨v,x,rfl,hv,rR,nc,tq⟩;obtain⟨eY,S2,n1,n2,n3,n4⟩:Nx w1 gi s S1 w2 (λS'=>S'=S1):=Nx.calm m1 nc rfl;replace tq:=af tq;have r2:Hid (tK t a 0 (vw S) (vw S2)):=by show tK t a 0 (vw S) (vw S2);rw[n4];exact r1.out
  replace n4:=af n4;clear r1;clear c1 c2 o;have q8:=n2.bw p8 (by rw[m2.tg _ Sg];exact t8);have K2:=m2.trans n2;have X2:=m3.trans n3
  by_cases gK:x=0
  ·subst gK;obtain⟨ob,lr,r3,C_,SI,df⟩:=tK.QC (v:=((v:Nat):Int)) (K:=d9.k) (k:=k) (val:=(λo=>((o.ps.getD k.toNat 0:Nat):Int))) (by rw[jY];decide) ic r2.out (λo ho=>by have:=tq.out o (by rw[<-n4.out];exact ho);rw[jY,if_neg (by decide)];exact⟨by rw[this.1];cases okF k o.p <;> rfl,this.2⟩);rw[jY,if_neg (by decide)] at df;have C_:Hid (fO ob d9.k d9.i=0):=by show fO ob d9.k d9.i=0;rw[sy];exact C_
   replace r3:=af r3;replace SI:=af SI;replace df:=af df;clear r2 tq;have d3:=(q8 3 _ rfl).1;have f3:=(q8 3 _ rfl).2;have F3:=l_ w2 (w.heap.size) 3 (vI (v:Int));have r8:=q8.set 3 (vI (v:Int)) (by simp);obtain⟨w3,Cv⟩:=au (w2.setCell ⟨w.heap.size,3,none⟩ (vI (v:Int)));rw[Cv] at F3 r8;have t82:500<=eY w.heap.size:=by rw[K2.tg _ Sg];exact t8
   have XP:=n1.jC F3 (λb hb=>by rw[hb];exact t82);have z1:=(r8 1 _ rfl).1;have z2:=(r8 2 _ rfl).1;have yS:t<S2.bB.length:=by rw[X2.len];exact ht
   have kd:Calm w3 w3.drew:=aq.drew;have oh:=yO (XP.calm kd) yS ha;rw[X2.sp,X2.xp] at oh;have r8d:ag w3.drew w.heap.size [vI 1,vI (a:Int),vI k,vI (v:Int)]:=r8.calm kd;replace Cv:=af Cv;have SJ:=Cv.out;go_wp2_with fail
   clear SJ d3 f3;refine cY [0,1,2,3] [4,5,6] 7 (λw'=>w'.cell? ⟨w.heap.size,1,none⟩=some (vI (a:Int))) (by kernel_rfl) (by kernel_rfl) z1 ?_;refine ah (pV S.sp) rfl rfl (λw' hw'=>?_) ai ?_
   ·simp[go_sem]
   refine ah (pV (S.tx t).xp) rfl rfl (λw' hw'=>?_) ai ?_
   ·simp[go_sem]
   refine ah (.pointer (some ⟨w.heap.size,1,none⟩)) rfl rfl (λw' hw'=>?_) ai ?_
   ·simp[go_sem]
   refine ah (vI (a:Int)) rfl rfl (λw' hw'=>?_) ai ?_
   ·have e1:=hw';simp[go_sem,e1]
   simp only[aU];refine aw rfl rfl ?_;go_wp2_with fail
   refine oh.mono ?_;rintro e w4 ⟨b2,rfl,fB,S5,p1,p2,p3,_,p4⟩;replace p4:=af p4;have s8:=p2.bw r8d t82;have X5:=X2.trans p3;have JW:t<S5.bB.length:=by rw[X5.len];exact ht
   have hS:=(s8 1 _ rfl).1;have c4:=(p1.ny JW 4 _ rfl).1;rw[X5.xp,X5.lp] at c4;refine⟨hS,?_⟩;clear oh z1 z2 XP;refine aw rfl rfl ?_;unfold Oper.wp;go_simp
   try refine⟨hS,?_⟩
   refine aw rfl rfl ?_;unfold Oper.wp;go_simp
   try refine⟨hS,?_⟩
   try simp only[bj]
   have K5:aF w τ0 w4 fB:=by
    have e1:aF w τ0 w2 eY:=(aF.calm τ0 k0).trans K2;have e2:aF w τ0 w3.drew eY:=⟨e1.fr.join (F3.trans (Calm.any kd)) (λj hj e=>by omega),e1.tg⟩;exact e2.trans p2
   cases b2 with
   | false=>
     refine cQ [7,8,9,10,11,12,13,14] [] (λw'=>True) (by kernel_rfl) trivial ?_;refine aT rfl rfl ai ?_;go_simp;refine aT rfl rfl ai ?_;go_simp;refine aT rfl rfl ai ?_;go_simp;refine aT rfl rfl ai ?_;go_simp;refine aT rfl rfl ai ?_;go_simp;refine aT rfl rfl ai ?_;go_simp;refine aT rfl rfl ai ?_;go_simp;refine ah (.bool true) rfl rfl (λw' hw'=>?_) ai ?_
     ·simp[go_sem]
     simp only[aU];simp only[bj]
     have hP:Hu w τ s S d9 b t a (.returned (vI 130)) w4:=⟨130,rfl,by decide,fB,S5,p1,K5.dp tk,X5,by
      show jK d9 b t a 130 (vw S) (vw S5);have h1:(vw S2).ob a=some ob:=by rw[r3.out.ob];exact r3.out.1
      rcases p4.out ob h1 with ⟨_,e⟩|⟨e,_⟩|⟨e,_⟩
      ·rw[e];exact .inr (.inr (.inl r3.out.ft))
      ·simp at e
      ·simp at e⟩
     replace hP:=af hP;go_wp2;go_ret;exact hP.out
   | true=>
     refine cQ [7,8,9,10,11] [12,13,14] (λw'=>w'.cell? ⟨(S.tx t).xp,4,none⟩=some (pV (S.tx t).lp)/\w'.cell? ⟨w.heap.size,0,none⟩=some (vI 1)/\w'.cell? ⟨w.heap.size,1,none⟩=some (vI (a:Int))/\w'.cell? ⟨w.heap.size,2,none⟩=some (vI k)/\w'.cell? ⟨w.heap.size,3,none⟩=some (vI (v:Int))) (by kernel_rfl) ⟨c4,(s8 0 _ rfl).1,(s8 1 _ rfl).1,(s8 2 _ rfl).1,(s8 3 _ rfl).1⟩ ?_;refine ah (pV (S.tx t).xp) rfl rfl (λw' hw'=>?_) ai ?_
     ·simp[go_sem]
     go_simp;refine ah (pV (S.tx t).xp) rfl rfl (λw' hw'=>?_) ai ?_
     ·simp[go_sem]
     go_simp;refine ah (.pointer (some ⟨(S.tx t).xp,4,none⟩)) rfl rfl (λw' hw'=>?_) ai ?_
     ·simp[go_sem]
     go_simp;refine ah (pV (S.tx t).lp) rfl rfl (λw' hw'=>?_) ai ?_
     ·have e1:=hw'.1;simp[go_sem,e1]
     go_simp;refine ah (.agg #[vI 1,vI (a:Int),vI k,vI (v:Int)]) rfl rfl (λw' hw'=>?_) ai ?_
     ·obtain⟨-,e0,e1,e2,e3⟩:=hw';simp[go_sem,e0,e1,e2,e3]
     go_simp
     try simp only[aU]
     have ou:=uE p1 JW (u:=⟨1,a,k,(v:Int)⟩) ⟨⟨ha,⟨by show(-9223372036854775808:Int)<=(v:Int);omega,by show(v:Int)<=9223372036854775807;omega⟩,λ_=>⟨by show(0:Int)<=(v:Int);omega,by show(v:Int)<=131072;omega⟩⟩,by show cL 1;decide,hk⟩;rw[X5.lp] at ou;refine aw rfl rfl ?_;go_wp2_with fail
     refine ou.mono ?_;rintro e w6 ⟨b3,rfl,L4,S7,j1,j2,j3,_,j4,j5⟩;replace j4:=af j4;replace j5:=af j5;have p5:Hid (QV t a true (vw S2) (vw S5)):=af p4.out;clear p4;have t85:500<=fB w.heap.size:=by rw[p2.tg _ (by have:=F3.size;have:=K2.size;have:=kd.size;omega)];exact t82
     have v8:=j2.bw s8 t85;have X7:=X5.trans j3;have Xp:t<S7.bB.length:=by rw[X7.len];exact ht
     have CK:=(j1.ny Xp 4 _ rfl).1;rw[X7.xp,X7.lp] at CK;have K7:=K5.trans j2;have mh:w6.cell? ⟨(S.tx t).xp,4,none⟩=some (pV (S.tx t).lp)/\w6.cell? ⟨w.heap.size,0,none⟩=some (vI 1)/\w6.cell? ⟨w.heap.size,1,none⟩=some (vI (a:Int))/\w6.cell? ⟨w.heap.size,2,none⟩=some (vI k)/\w6.cell? ⟨w.heap.size,3,none⟩=some (vI (v:Int)):=⟨CK,(v8 0 _ rfl).1,(v8 1 _ rfl).1,(v8 2 _ rfl).1,(v8 3 _ rfl).1⟩;refine⟨mh,?_⟩;clear ou c4 s8 p2 j2 hS;refine aw rfl rfl ?_;unfold Oper.wp;go_simp
     try refine⟨mh.1,mh.2.1,mh.2.2.1,mh.2.2.2.1,mh.2.2.2.2,?_⟩
     refine aw rfl rfl ?_;unfold Oper.wp;go_simp
     try refine⟨mh.1,mh.2.1,mh.2.2.1,mh.2.2.2.1,mh.2.2.2.2,?_⟩
     try simp only[bj]
     obtain⟨-,-,y1,y2,-⟩:=mh
     cases b3 with
     | false=>
       have hP:Hu w τ s S d9 b t a (.returned (vI 130)) w6:=⟨130,rfl,by decide,L4,S7,j1,K7.dp tk,X7,by show jK d9 b t a 130 (vw S) (vw S7);rw[j5.out (by simp)];exact .inr (.inr (.inl (r3.out.hold p5.out).1))⟩;replace hP:=af hP;go_wp2;go_ret;exact hP.out
     | true=>
       have of:=oY j1 ha hb k;rw[X7.hp] at of;go_wp2_with fail
       refine of.mono ?_;rintro e w8 ⟨y,rfl,hy,Qr,QS,S9,i1,i2,i3,_,i4⟩
       have JY:vw S7=(vw S5).aO t { (vw S5).tx t with aQ:=((vw S5).tx t).aQ++[zN d9 a ob] }:=by
        rw[j4.out (by simp)];unfold zN;rw[if_pos jY,sy,<-SI.out];rfl
       have GD:=r3.out.und p5.out JY;have yD:b=0\/(vw S7).ob b≠none:=Js.imp id (GD.2 b);have vA:y=0:=Qr _ GD.1 df.out yD;subst vA;have i5:vw S9=(vw S7).mod a (λo=>o.np (okF k o.p) k b):=i4.trans (Pe yD);have hP9:=af (r3.out.ch (b:=b) C_.out p5.out JY i5 (by unfold Aq;rw[if_pos jY,sy];unfold Ob.np;rw[show okF k ({ ob with snd:=2*t+1 } : Ob).p=true from df.out];rfl));clear i4 i5 Qr GD yD JY;have hP:Hu w τ s S d9 b t a (.returned (vI 0)) w8:=⟨0,rfl,by decide,QS,S9,i1,(K7.trans i2).dp tk,X7.trans i3,hP9.out⟩;replace hP:=af hP;clear of;go_wp2;go_ret;exact hP.out
  ·have J4:(x != 0)=true:=by simp[bne,gK]
   have hP:Hu w τ s S d9 b t a (.returned (vI x)) w2:=⟨x,rfl,rR.i64,fin.out _ _ _ n1 ⟨w2,K2,aq⟩ X2 (by
    have g:=tK.get (K:=d9.k) (k:=d9.i) (val:=(λo=>((o.ps.getD k.toNat 0:Nat):Int))) (by rw[jY];decide) (by rw[sy];exact ic) r2.out (v:=((v:Nat):Int)) (x:=x) (by rw[sy];exact λo ho=>by have:=tq.out o (by rw[<-n4.out];exact ho);rw[jY,if_neg (by decide)];exact⟨by rw[this.1];cases okF k o.p <;> rfl,this.2⟩)
    exact g.ch gK)⟩
   replace hP:=af hP;go_wp2;go_ret;exact hP.out
 ·have J4:(x != 0)=true:=by simp[bne,h0]
  have hP:Hu w τ s S d9 b t a (.returned (vI x)) w1:=⟨x,rfl,hx,fin.out _ _ _ m1 ⟨w1,m2,aq⟩ m3 (iY.ch (val:=λ_=>0) (v:=0) (tK.err (by rw[jY];decide) r1.out h0) h0)⟩;replace hP:=af hP;go_wp2;go_ret;exact hP.out
theorem IU(h:St w τ s S){t:Nat}(ht:t<S.bB.length)(hl:(S.tx t).live=true){a:Nat}(ha:a<=131072){k:Int}(hk:cL k)(ic:0<=k){b:Int}(hb:cL b){d9:Dd}(jY:d9.k=7)(sy:d9.i=k)(RZ:d9.n=b)(b9:Nat) :
 aL prog 142 #[pV S.sp,pV (S.tx t).xp,.agg #[vI 2,vI (a:Int),vI k,vI 0],.func (.func 143) #[pV S.D.B.hp] #[],.func (.func 145) #[pV S.D.B.hp] #[],vI b] w (Hu w τ s S d9 b9 t a):=by
 obtain⟨τ0,hf,tk,fr⟩:=h.fresh;obtain⟨k0,o8⟩:=gL w [vI 2,vI (a:Int),vI k,vI 0] 231;obtain⟨W1,iM⟩:=au (w.alloc (.cells #[vI 2,vI (a:Int),vI k,vI 0] 231));rw[iM] at k0 o8;have t8:500<=τ0 w.heap.size:=by rw[fr _ (aM _)];omega
 have Sg:w.heap.size<W1.heap.size:=o8.lt (by simp);have c1:=(o8 1 _ rfl).1
 have fin:Hid (∀ (W:aj) (fB:Nat->Nat) (S5:aY),St W fB s S5->(∃W0,aF W1 τ0 W0 fB/\Fr (λb=>b=w.heap.size) W0 W)->Fix S S5->∀ {R:aY->Prop},R S5->Nx w τ s S W R):=by
  rintro W fB S5 a1 ⟨W0,a2,a3⟩ a4 R a5;refine⟨fB,S5,a1,?_,a4,a5⟩;have K:aF w τ0 W0 fB:=(aF.calm τ0 k0).trans a2;exact aF.dp ⟨K.fr.join a3 (λj hj e=>by omega),K.tg⟩ tk
 go_in;go_wp2_with fail
 refine(mM (hf.calm k0) ht hl ha).mono ?_;rintro e w1 ⟨x,rfl,hx,gi,S1,m1,m2,m3,_,r1⟩;replace r1:=af r1;clear iM;have p8:=m2.bw o8 t8;clear c1
 by_cases h0:x=0
 ·subst h0;have pE:t<S1.bB.length:=by rw[m3.len];exact ht
  have c1:=(p8 1 _ rfl).1;have c2:=(p8 2 _ rfl).1;have o:=Fx m1 ha k;rw[m3.hp] at o;go_wp2_with fail
  refine o.mono ?_;rintro e w2 ⟨v,x,rfl,hv,rR,nc,tq⟩;obtain⟨eY,S2,n1,n2,n3,n4⟩:Nx w1 gi s S1 w2 (λS'=>S'=S1):=Nx.calm m1 nc rfl;replace tq:=af tq;have r2:Hid (tK t a 0 (vw S) (vw S2)):=by show tK t a 0 (vw S) (vw S2);rw[n4];exact r1.out
  replace n4:=af n4;clear r1;clear c1 c2 o;have q8:=n2.bw p8 (by rw[m2.tg _ Sg];exact t8);have K2:=m2.trans n2;have X2:=m3.trans n3
  by_cases gK:x=0
  ·subst gK;obtain⟨ob,lr,r3,C_,SI,df⟩:=tK.QC (v:=v) (K:=d9.k) (k:=k) (val:=(λo=>zt (o.ns.getD k.toNat 0))) (by rw[jY];decide) ic r2.out (λo ho=>by have:=tq.out o (by rw[<-n4.out];exact ho);rw[jY,if_pos (by decide)];exact this);rw[jY,if_pos (by decide)] at df;have C_:Hid (fO ob d9.k d9.i=0):=by show fO ob d9.k d9.i=0;rw[sy];exact C_
   replace r3:=af r3;replace SI:=af SI;replace df:=af df;clear r2 tq;have d3:=(q8 3 _ rfl).1;have f3:=(q8 3 _ rfl).2;have F3:=l_ w2 (w.heap.size) 3 (vI v);have r8:=q8.set 3 (vI v) (by simp);obtain⟨w3,Cv⟩:=au (w2.setCell ⟨w.heap.size,3,none⟩ (vI v));rw[Cv] at F3 r8;have t82:500<=eY w.heap.size:=by rw[K2.tg _ Sg];exact t8
   have XP:=n1.jC F3 (λb hb=>by rw[hb];exact t82);have z1:=(r8 1 _ rfl).1;have z2:=(r8 2 _ rfl).1;have yS:t<S2.bB.length:=by rw[X2.len];exact ht
   have kd:Calm w3 w3.drew:=aq.drew;have oh:=yO (XP.calm kd) yS ha;rw[X2.sp,X2.xp] at oh;have r8d:ag w3.drew w.heap.size [vI 2,vI (a:Int),vI k,vI v]:=r8.calm kd;replace Cv:=af Cv;have SJ:=Cv.out;go_wp2_with fail
   clear SJ d3 f3;refine cY [0,1,2,3] [4,5,6] 7 (λw'=>w'.cell? ⟨w.heap.size,1,none⟩=some (vI (a:Int))) (by kernel_rfl) (by kernel_rfl) z1 ?_;refine ah (pV S.sp) rfl rfl (λw' hw'=>?_) ai ?_
   ·simp[go_sem]
   refine ah (pV (S.tx t).xp) rfl rfl (λw' hw'=>?_) ai ?_
   ·simp[go_sem]
   refine ah (.pointer (some ⟨w.heap.size,1,none⟩)) rfl rfl (λw' hw'=>?_) ai ?_
   ·simp[go_sem]
   refine ah (vI (a:Int)) rfl rfl (λw' hw'=>?_) ai ?_
   ·have e1:=hw';simp[go_sem,e1]
   simp only[aU];refine aw rfl rfl ?_;go_wp2_with fail
   refine oh.mono ?_;rintro e w4 ⟨b2,rfl,fB,S5,p1,p2,p3,_,p4⟩;replace p4:=af p4;have s8:=p2.bw r8d t82;have X5:=X2.trans p3;have JW:t<S5.bB.length:=by rw[X5.len];exact ht
   have hS:=(s8 1 _ rfl).1;have c4:=(p1.ny JW 4 _ rfl).1;rw[X5.xp,X5.lp] at c4;refine⟨hS,?_⟩;clear oh z1 z2 XP;refine aw rfl rfl ?_;unfold Oper.wp;go_simp
   try refine⟨hS,?_⟩
   refine aw rfl rfl ?_;unfold Oper.wp;go_simp
   try refine⟨hS,?_⟩
   try simp only[bj]
   have K5:aF w τ0 w4 fB:=by
    have e1:aF w τ0 w2 eY:=(aF.calm τ0 k0).trans K2;have e2:aF w τ0 w3.drew eY:=⟨e1.fr.join (F3.trans (Calm.any kd)) (λj hj e=>by omega),e1.tg⟩;exact e2.trans p2
   cases b2 with
   | false=>
     refine cQ [7,8,9,10,11,12,13,14] [] (λw'=>True) (by kernel_rfl) trivial ?_;refine aT rfl rfl ai ?_;go_simp;refine aT rfl rfl ai ?_;go_simp;refine aT rfl rfl ai ?_;go_simp;refine aT rfl rfl ai ?_;go_simp;refine aT rfl rfl ai ?_;go_simp;refine aT rfl rfl ai ?_;go_simp;refine aT rfl rfl ai ?_;go_simp;refine ah (.bool true) rfl rfl (λw' hw'=>?_) ai ?_
     ·simp[go_sem]
     simp only[aU];simp only[bj]
     have hP:Hu w τ s S d9 b9 t a (.returned (vI 130)) w4:=⟨130,rfl,by decide,fB,S5,p1,K5.dp tk,X5,by
      show jK d9 b9 t a 130 (vw S) (vw S5);have h1:(vw S2).ob a=some ob:=by rw[r3.out.ob];exact r3.out.1
      rcases p4.out ob h1 with ⟨_,e⟩|⟨e,_⟩|⟨e,_⟩
      ·rw[e];exact .inr (.inr (.inl r3.out.ft))
      ·simp at e
      ·simp at e⟩
     replace hP:=af hP;go_wp2;go_ret;exact hP.out
   | true=>
     refine cQ [7,8,9,10,11] [12,13,14] (λw'=>w'.cell? ⟨(S.tx t).xp,4,none⟩=some (pV (S.tx t).lp)/\w'.cell? ⟨w.heap.size,0,none⟩=some (vI 2)/\w'.cell? ⟨w.heap.size,1,none⟩=some (vI (a:Int))/\w'.cell? ⟨w.heap.size,2,none⟩=some (vI k)/\w'.cell? ⟨w.heap.size,3,none⟩=some (vI v)) (by kernel_rfl) ⟨c4,(s8 0 _ rfl).1,(s8 1 _ rfl).1,(s8 2 _ rfl).1,(s8 3 _ rfl).1⟩ ?_;refine ah (pV (S.tx t).xp) rfl rfl (λw' hw'=>?_) ai ?_
     ·simp[go_sem]
     go_simp;refine ah (pV (S.tx t).xp) rfl rfl (λw' hw'=>?_) ai ?_
     ·simp[go_sem]
     go_simp;refine ah (.pointer (some ⟨(S.tx t).xp,4,none⟩)) rfl rfl (λw' hw'=>?_) ai ?_
     ·simp[go_sem]
     go_simp;refine ah (pV (S.tx t).lp) rfl rfl (λw' hw'=>?_) ai ?_
     ·have e1:=hw'.1;simp[go_sem,e1]
     go_simp;refine ah (.agg #[vI 2,vI (a:Int),vI k,vI v]) rfl rfl (λw' hw'=>?_) ai ?_
     ·obtain⟨-,e0,e1,e2,e3⟩:=hw';simp[go_sem,e0,e1,e2,e3]
     go_simp
     try simp only[aU]
     have ou:=uE p1 JW (u:=⟨2,a,k,v⟩) ⟨⟨ha,hv,λe=>absurd (show(2:Int)=1 from e) (by decide)⟩,by show cL 2;decide,hk⟩;rw[X5.lp] at ou;refine aw rfl rfl ?_;go_wp2_with fail
     refine ou.mono ?_;rintro e w6 ⟨b3,rfl,L4,S7,j1,j2,j3,_,j4,j5⟩;replace j4:=af j4;replace j5:=af j5;have p5:Hid (QV t a true (vw S2) (vw S5)):=af p4.out;clear p4;have t85:500<=fB w.heap.size:=by rw[p2.tg _ (by have:=F3.size;have:=K2.size;have:=kd.size;omega)];exact t82
     have v8:=j2.bw s8 t85;have X7:=X5.trans j3;have Xp:t<S7.bB.length:=by rw[X7.len];exact ht
     have CK:=(j1.ny Xp 4 _ rfl).1;rw[X7.xp,X7.lp] at CK;have K7:=K5.trans j2;have mh:w6.cell? ⟨(S.tx t).xp,4,none⟩=some (pV (S.tx t).lp)/\w6.cell? ⟨w.heap.size,0,none⟩=some (vI 2)/\w6.cell? ⟨w.heap.size,1,none⟩=some (vI (a:Int))/\w6.cell? ⟨w.heap.size,2,none⟩=some (vI k)/\w6.cell? ⟨w.heap.size,3,none⟩=some (vI v):=⟨CK,(v8 0 _ rfl).1,(v8 1 _ rfl).1,(v8 2 _ rfl).1,(v8 3 _ rfl).1⟩;refine⟨mh,?_⟩;clear ou c4 s8 p2 j2 hS;refine aw rfl rfl ?_;unfold Oper.wp;go_simp
     try refine⟨mh.1,mh.2.1,mh.2.2.1,mh.2.2.2.1,mh.2.2.2.2,?_⟩
     refine aw rfl rfl ?_;unfold Oper.wp;go_simp
     try refine⟨mh.1,mh.2.1,mh.2.2.1,mh.2.2.2.1,mh.2.2.2.2,?_⟩
     try simp only[bj]
     obtain⟨-,-,y1,y2,-⟩:=mh
     cases b3 with
     | false=>
       have hP:Hu w τ s S d9 b9 t a (.returned (vI 130)) w6:=⟨130,rfl,by decide,L4,S7,j1,K7.dp tk,X7,by show jK d9 b9 t a 130 (vw S) (vw S7);rw[j5.out (by simp)];exact .inr (.inr (.inl (r3.out.hold p5.out).1))⟩;replace hP:=af hP;go_wp2;go_ret;exact hP.out
     | true=>
       have of:=uW j1 ha k b hb;rw[X7.hp] at of;go_wp2_with fail
       refine of.mono ?_;rintro e w8 ⟨y,rfl,hy,Qr,QS,S9,i1,i2,i3,_,i4⟩
       have JY:vw S7=(vw S5).aO t { (vw S5).tx t with aQ:=((vw S5).tx t).aQ++[zN d9 a ob] }:=by
        rw[j4.out (by simp)];unfold zN;rw[if_neg (by rw[jY];decide),if_pos jY,sy,<-SI.out];rfl
       have GD:=r3.out.und p5.out JY;have vA:y=0:=Qr _ GD.1 df.out;subst vA;have hP9:=af (r3.out.ch (b:=b9) C_.out p5.out JY i4 (by unfold Aq;rw[if_neg (by rw[jY];decide),if_pos jY,sy,RZ];unfold Ob.oU;rw[show okF k ({ ob with snd:=2*t+1 } : Ob).d=true from df.out];rfl));clear i4 Qr GD JY;have hP:Hu w τ s S d9 b9 t a (.returned (vI 0)) w8:=⟨0,rfl,by decide,QS,S9,i1,(K7.trans i2).dp tk,X7.trans i3,hP9.out⟩;replace hP:=af hP;clear of;go_wp2;go_ret;exact hP.out
  ·have J4:(x != 0)=true:=by simp[bne,gK]
   have hP:Hu w τ s S d9 b9 t a (.returned (vI x)) w2:=⟨x,rfl,rR.i64,fin.out _ _ _ n1 ⟨w2,K2,aq⟩ X2 (by
    have g:=tK.get (K:=d9.k) (k:=d9.i) (val:=(λo=>zt (o.ns.getD k.toNat 0))) (by rw[jY];decide) (by rw[sy];exact ic) r2.out (v:=v) (x:=x) (by rw[sy];exact λo ho=>by have:=tq.out o (by rw[<-n4.out];exact ho);rw[jY,if_pos (by decide)];exact this)
    exact g.ch gK)⟩
   replace hP:=af hP;go_wp2;go_ret;exact hP.out
 ·have J4:(x != 0)=true:=by simp[bne,h0]
  have hP:Hu w τ s S d9 b9 t a (.returned (vI x)) w1:=⟨x,rfl,hx,fin.out _ _ _ m1 ⟨w1,m2,aq⟩ m3 (iY.ch (val:=λ_=>0) (v:=0) (tK.err (by rw[jY];decide) r1.out h0) h0)⟩;replace hP:=af hP;go_wp2;go_ret;exact hP.out
end
