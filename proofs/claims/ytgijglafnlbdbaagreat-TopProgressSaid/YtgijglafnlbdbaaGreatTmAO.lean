import Derived.Test.YtgijglafnlbdbaaGreatTmAN
set_option linter.all false
set_option maxHeartbeats 4000000
set_option maxRecDepth 8000
namespace Go.Proofs.YtgijglafnlbdbaaGreat
open RowKit Shelf Proofs.Tryz
open Go renaming World->ag,Value->aA,Calls->aJ
section
variable {w:ag}{τ:Nat->Nat}{s q:Nat}{S:aE}
theorem wH.i64{S S':aE}{p d:Nat}{v x:Int}(h:wH S p d v x S'):bX v/\bX x:=by
 rcases h with ⟨rfl,a,rfl,h1,_⟩|⟨rfl,rfl,_⟩|⟨rfl,rfl⟩
 ·exact⟨⟨by omega,by omega⟩,by decide⟩
 ·exact⟨by decide,by decide⟩
 ·exact⟨by decide,by decide⟩
theorem wH.x{S S':aE}{p d:Nat}{v x:Int}(h:wH S p d v x S'):x≠140/\x≠141:=by
 rcases h with ⟨rfl,_⟩|⟨rfl,_⟩|⟨rfl,_⟩ <;> decide
theorem LI(h:St w τ s q S)(hs:s<100000){t:Nat}(ht:t<S.aW.length)(hl:(S.tx t).live=true){p d:Nat}{wk fn:Bool}(bU:sV p d wk fn) :
 aJ prog 131 #[pV S.sp,pV (S.tx t).xp,mz p d wk fn] w (jB w τ (s+1) q S (WR S (t:Nat) (wH S p d))):=
 (VX h hs ht hl bU).mono λe w' ⟨v,x,h1,h2⟩=>⟨v,x,h1,(by obtain⟨_,_,_,_,_,h3⟩:=h2;exact h3.1.i64.1),(by obtain⟨_,_,_,_,_,h3⟩:=h2;exact h3.1.i64.2),h2.mono (aD _) (aD _) λS' h3=>.of h3.1 h3.2 h3.1.x⟩
theorem G0(h:St w τ s q S)(hs:s<100000){t:Nat}(ht:t<S.aW.length)(hl:(S.tx t).live=true){p d:Nat}{fn:Bool}(bU:sV p d false fn){b5 b3:Nat}(o5:af w b5 (Ol p d false fn))(o3:Own w b3 0 (pV S.sp)) :
 aJ prog 129 #[pV (S.tx t).xp,bw b5,bw b3] w (jB w τ (s+1) q S (WR S (t:Nat) (wH S p d))):=by
 obtain⟨y0,y1,y2,y3⟩:=af.Bh o5;have y9:=o3.1;go_in;go_wp2_with fail
 refine(pg p d false fn bU _).mono ?_;rintro e w1 ⟨rfl,k1⟩;have o5':=o5.calm k1;have o3':=o3.calm k1;clear y0 y1 y2 y3 y9;obtain⟨y0,y1,y2,y3⟩:=af.Bh o5';have y9:=o3'.1;go_wp2_with fail
 refine(LI (h.calm k1) hs ht hl bU).mono ?_;rintro e w2 ⟨v,x,rfl,hv,hx,n⟩;go_wp2
 go_ret2
 exact⟨v,x,rfl,hv,hx,n.lA k1⟩
def NY(S:aE)(a:Nat)(v x:Int)(S':aE):Prop:=
 (x=0/\∃b:Nat,v=b/\b<=131072/\S'.D.A.room=S.D.A.room-ju 4/\ju 4<=S.D.A.room)\/(x=100/\a∈dL S.D.A.cur/\S.D.A.room<ju 4/\S'.D=S.D)\/(x≠0/\x≠100)
theorem NN(h:St w τ s q S)(hs:s<100000){t:Nat}(ht:t<S.aW.length)(hl:(S.tx t).live=true){a:Nat}(ha:a<=131072){b5 b3:Nat}(o5:Own w b5 0 (vI (a:Int)))(o3:Own w b3 0 (pV S.sp))(t5:500<=τ b5)(t3:500<=τ b3) :
 aJ prog 132 #[pV (S.tx t).xp,bw b5,bw b3] w (jB w τ (s+1) q S (WR S (t:Nat) (NY S a))):=by
 have y5:=o5.1;have y3:=o3.1
 by_cases h0:a=0
 ·subst h0;have hP:jB w τ (s+1) q S (WR S (t:Nat) (NY S 0)) (.returned (.tuple #[vI 0,vI 143])) w:=⟨0,143,rfl,by decide,by decide,(Nx.calm h ah (R:=WR S (t:Nat) (NY S 0) 0 143) (.of (.inr (.inr ⟨by decide,by decide⟩)) (.refl S) (by decide))).mono (Nat.le_succ _) (aD _) λ_ h=>h⟩;replace hP:=hid hP;go_in;go_wp2
  go_ret2
  exact hP.out
 ·have hz:((a:Int)==0)=false:=by simp;omega
  have c0:=(h.cells 0 _ rfl).1;obtain⟨X,hh⟩:=h.iW;have k1:Calm w w.drew:=ah.drew;go_in;go_wp2_with fail
  refine aO 5 6 (λw'=>Calm w w') (by kernel_rfl) (by kernel_rfl) (ah.drew) ?_;refine ae (pV S.sp) rfl (λw' hw'=>?_) ak ?_
  ·have e1:=hw'.cellAt y3 id;simp[go_sem,e1]
  refine ae (pV S.sp) rfl (λw' hw'=>?_) ak ?_
  ·simp[go_sem]
  refine ae (bw S.sp) rfl (λw' hw'=>?_) ak ?_
  ·simp[go_sem]
  refine ae (pV S.D.B.hp) rfl (λw' hw'=>?_) ak ?_
  ·have e1:=hw'.cellAt c0 id;simp[go_sem,e1]
  refine ae (vI (a:Int)) rfl (λw' hw'=>?_) ak ?_
  ·have e1:=hw'.cellAt y5 id;simp[go_sem,e1]
  simp only[bG];refine aQ rfl ?_;go_wp2_with fail
  refine(qe (hh.calm k1) (a:Int) ⟨by omega,by omega⟩).mono ?_;rintro e w1 ⟨rfl,k2⟩;refine⟨k1.trans k2,?_⟩;simp only[bV];have k3:=k1.trans k2;have h1:=h.calm k3;have y53:=(o5.calm k3).1;have y33:=(o3.calm k3).1;clear y5 y3 c0
  by_cases hm:(a:Int)∈nI (dL S.D.A.cur)
  ·have hd:decide ((a:Int)∈nI (dL S.D.A.cur))=true:=by simp only[hm,decide_true]
   rw[hd]
   have Xa:a∈dL S.D.A.cur:=by
    obtain⟨b,hb,e⟩:=List.mem_map.1 hm;have:b=a:=by omega
    exact this ▸ hb
   replace hm:=hid hm;go_wp2_with fail
   refine(LI (p:=1) (d:=0) (wk:=true) (fn:=false) h1 hs ht hl ⟨by omega,by omega,λ_=>⟨rfl,rfl,rfl⟩⟩).mono ?_;rintro e w2 ⟨v,x,rfl,hv,hx,fj,S2,m1,m2,m3,m4,r2⟩;have y54:=(m2.own (o5.calm k3) t5).1;have y34:=(m2.own (o3.calm k3) t3).1;have DS:=(m1.cells 0 _ rfl).1;rw[m3.sp,m3.hp] at DS;have K2:=(aC.calm τ k3).trans m2
   by_cases jb:x=0
   ·subst jb
    obtain⟨b,rfl,hb,gA,rV⟩:∃b:Nat,v=b/\b<=131072/\S2.D.A.room=S.D.A.room-ju 4/\ju 4<=S.D.A.room:=by
     rcases m4 with ⟨_,b,e1,e2,e3,e4⟩|⟨e,_⟩|⟨e,_⟩
     ·exact⟨b,e1,e2,e3,e4⟩
     ·cases e
     ·cases e
    have k5:Calm w2 w2.drew:=ah.drew;have o:=pC (m1.calm k5) hb ha 0;rw[m3.hp] at o;go_wp2_with fail
    refine aO 6 6 (λw'=>Calm w2 w') (by kernel_rfl) (by kernel_rfl) (ah.drew) ?_;refine ae (pV S.sp) rfl (λw' hw'=>?_) ak ?_
    ·have e1:=hw'.cellAt y34 id;simp[go_sem,e1]
    refine ae (pV S.sp) rfl (λw' hw'=>?_) ak ?_
    ·simp[go_sem]
    refine ae (bw S.sp) rfl (λw' hw'=>?_) ak ?_
    ·simp[go_sem]
    refine ae (pV S.D.B.hp) rfl (λw' hw'=>?_) ak ?_
    ·have e1:=hw'.cellAt DS id;simp[go_sem,e1]
    refine ae (vI (b:Int)) rfl (λw' hw'=>?_) ak ?_
    ·simp[go_sem]
    refine ae (vI (a:Int)) rfl (λw' hw'=>?_) ak ?_
    ·have e1:=hw'.cellAt y54 id;simp[go_sem,e1]
    simp only[bG,Nat.sub_self,bV];go_wp2_with fail
    refine o.mono ?_;rintro e w4 ⟨z,rfl,_,n4⟩;have hP:jB w τ (s+1) q S (WR S (t:Nat) (NY S a)) (.returned (.tuple #[vI (b:Int),vI 0])) w4:=⟨b,0,rfl,hv,hx,((n4.lA k5).step K2 m3).mono (aD _) (aD _) λS4 e=>.of (.inl ⟨rfl,b,rfl,hb,by rw[e.1.1.room,gA],rV⟩) (r2.1.trans e.1.rn) (by decide)⟩;replace hP:=hid hP;clear n4 o y54 y34 DS;go_wp2
    go_ret2
    exact hP.out
   ·have LG:(x != 0)=true:=by simp[bne,jb]
    have hP:jB w τ (s+1) q S (WR S (t:Nat) (NY S a)) (.returned (.tuple #[vI 0,vI x])) w2:=by
     refine⟨0,x,rfl,by decide,hx,fj,S2,m1,K2,m3,.of ?_ r2.1 m4.x⟩;rcases m4 with ⟨e,_⟩|⟨e,_,hr,hD⟩|⟨e,_⟩
     ·exact absurd e jb
     ·exact .inr (.inl ⟨e,Xa,hr,hD⟩)
     ·exact .inr (.inr ⟨jb,by rw[e];decide⟩)
    replace hP:=hid hP;go_wp2
    go_ret2
    exact hP.out
  ·have hd:decide ((a:Int)∈nI (dL S.D.A.cur))=false:=by simp only[hm,decide_false]
   rw[hd];have hP:jB w τ (s+1) q S (WR S (t:Nat) (NY S a)) (.returned (.tuple #[vI 0,vI 70])) w1:=⟨0,70,rfl,by decide,by decide,(Nx.calm h k3 (R:=WR S (t:Nat) (NY S a) 0 70) (.of (.inr (.inr ⟨by decide,by decide⟩)) (.refl S) (by decide))).mono (Nat.le_succ _) (aD _) λ_ h=>h⟩;replace hP:=hid hP;replace hm:=hid hm;go_wp2
   go_ret2
   exact hP.out
def kj(v x:Int)(S':aE):Prop:=0<=v/\v<=131072/\x≠100
def jO(v x:Int)(S':aE):Prop:=x≠100
theorem nU.gL{x:Int}(h:nU x):x≠140/\x≠141:=by unfold nU at h;omega
theorem nU.i64{x:Int}(h:nU x):bX x/\x≠100:=by unfold nU at h;unfold bX;omega
theorem Kg(h:St w τ s q S){t:Nat}(ht:t<S.aW.length){a:Nat}(ha:a<=131072){k:Int}{b3 b5 bf bk:Nat}(o3:Own w b3 0 (pV S.sp))(o5:Own w b5 0 (vI (a:Int)))(of:Own w bf 0 (.func (.func 135) #[] #[]))(ok:Own w bk 0 (vI k))
 (t3:500<=τ b3) (t5:500<=τ b5) (tf:500<=τ bf) (tk:500<=τ bk) :
 aJ prog 187 #[pV (S.tx t).xp,bw b3,bw b5,bw bf,bw bk] w (jB w τ s q S (WR S (t:Nat) kj)):=by
 have y3:=o3.1;have y5:=o5.1;go_in;go_wp2_with fail
 refine(nH h ht ha).mono ?_;rintro e w1 ⟨x,rfl,hx,ft,gI,S1,m1,m2,m3,r1⟩;replace ft:=hid ft
 by_cases h0:x=0
 ·subst h0;have z3:=(m2.own o3 t3).1;have z5:=(m2.own o5 t5).1;have zf:=(m2.own of tf).1;have zk:=(m2.own ok tk).1;have c0:=(m1.cells 0 _ rfl).1;rw[m3.sp,m3.hp] at c0;have k1:Calm w1 w1.drew:=ah.drew;have o:=Ag (m1.calm k1) ha k;rw[m3.hp] at o;clear y3 y5;go_wp2_with fail
  refine dF [0,1,2,3,4,5,6] [7] 8 (λw'=>w'.cell? ⟨bf,0,none⟩=some (.func (.func 135) #[] #[])/\w'.cell? ⟨b3,0,none⟩=some (pV S.sp)/\w'.cell? ⟨S.sp,0,none⟩=some (pV S.D.B.hp)/\w'.cell? ⟨b5,0,none⟩=some (vI (a:Int))/\w'.cell? ⟨bk,0,none⟩=some (vI k)) (by kernel_rfl) (by kernel_rfl) ⟨zf,z3,c0,z5,zk⟩ ?_;refine ai (.func (.func 135) #[] #[]) rfl rfl (λw' hw'=>?_) ak ?_
  ·have e1:=hw'.1;simp[go_sem,e1]
  refine ai (pV S.sp) rfl rfl (λw' hw'=>?_) ak ?_
  ·have e1:=hw'.2.1;simp[go_sem,e1]
  refine ai (pV S.sp) rfl rfl (λw' hw'=>?_) ak ?_
  ·simp[go_sem]
  refine ai (bw S.sp) rfl rfl (λw' hw'=>?_) ak ?_
  ·simp[go_sem]
  refine ai (pV S.D.B.hp) rfl rfl (λw' hw'=>?_) ak ?_
  ·have e1:=hw'.2.2.1;simp[go_sem,e1]
  refine ai (vI (a:Int)) rfl rfl (λw' hw'=>?_) ak ?_
  ·have e1:=hw'.2.2.2.1;simp[go_sem,e1]
  refine ai (vI k) rfl rfl (λw' hw'=>?_) ak ?_
  ·have e1:=hw'.2.2.2.2;simp[go_sem,e1]
  simp only[bq];refine aq rfl rfl ?_;go_wp2_with fail
  refine o.mono ?_;rintro e w4 ⟨v,x,rfl,hv,mg,n4⟩;have n5:=n4.lA k1;obtain⟨dW,S5,p1,p2,p3,p4⟩:=n5;have hP:jB w τ s q S (WR S (t:Nat) kj) (.returned (.tuple #[vI (v:Int),vI x])) w4:=⟨(v:Int),x,rfl,⟨by omega,by omega⟩,mg.i64.1,dW,S5,p1,m2.trans p2,m3.trans p3,.of ⟨by omega,by omega,mg.i64.2⟩ (r1.trans p4) mg.gL⟩;have DS:=(p1.cells 0 _ rfl).1;rw[p3.sp,p3.hp,m3.sp,m3.hp] at DS;refine⟨⟨(p2.own (m2.own of tf) (by rw[m2.tg _ of.lt];exact tf)).1,(p2.own (m2.own o3 t3) (by rw[m2.tg _ o3.lt];exact t3)).1,DS,(p2.own (m2.own o5 t5) (by rw[m2.tg _ o5.lt];exact t5)).1,(p2.own (m2.own ok tk) (by rw[m2.tg _ ok.lt];exact tk)).1⟩,?_⟩;replace hP:=hid hP;clear n4 o z3 z5 zf zk c0 DS p1 p2 p3 p4 m1 m2 m3;simp only[bJ];refine df [8,9] [10,11] (λ_=>True) (by kernel_rfl) trivial ?_;refine ai (vI (v:Int)) rfl rfl (λw' hw'=>?_) ak ?_
  ·simp[go_sem]
  refine ai (vI x) rfl rfl (λw' hw'=>?_) ak ?_
  ·simp[go_sem]
  simp only[bq];refine aq rfl rfl ?_;unfold Oper.wp;go_simp
  try refine⟨trivial,?_⟩
  refine aq rfl rfl ?_;unfold Oper.wp;go_simp
  try refine⟨trivial,?_⟩
  simp only[bJ];go_wp2
  go_ret2
  exact hP.out
 ·have LG:(x != 0)=true:=by simp[bne,h0]
  have hP:jB w τ s q S (WR S (t:Nat) kj) (.returned (.tuple #[vI 0,vI x])) w1:=⟨0,x,rfl,by decide,hx,gI,S1,m1,m2,m3,.ec ⟨by decide,by decide,ft.out.1⟩ r1 ft.out⟩;replace hP:=hid hP;go_wp2
  go_ret2
  exact hP.out
theorem Kh(h:St w τ s q S){t:Nat}(ht:t<S.aW.length){a:Nat}(ha:a<=131072){k:Int}{b3 b5 bf bk:Nat}(o3:Own w b3 0 (pV S.sp))(o5:Own w b5 0 (vI (a:Int)))(of:Own w bf 0 (.func (.func 143) #[] #[]))(ok:Own w bk 0 (vI k))
 (t3:500<=τ b3) (t5:500<=τ b5) (tf:500<=τ bf) (tk:500<=τ bk) :
 aJ prog 187 #[pV (S.tx t).xp,bw b3,bw b5,bw bf,bw bk] w (jB w τ s q S (WR S (t:Nat) jO)):=by
 have y3:=o3.1;have y5:=o5.1;go_in;go_wp2_with fail
 refine(nH h ht ha).mono ?_;rintro e w1 ⟨x,rfl,hx,ft,gI,S1,m1,m2,m3,r1⟩;replace ft:=hid ft
 by_cases h0:x=0
 ·subst h0;have z3:=(m2.own o3 t3).1;have z5:=(m2.own o5 t5).1;have zf:=(m2.own of tf).1;have zk:=(m2.own ok tk).1;have c0:=(m1.cells 0 _ rfl).1;rw[m3.sp,m3.hp] at c0;have k1:Calm w1 w1.drew:=ah.drew;have o:=GH (m1.calm k1) ha k;rw[m3.hp] at o;clear y3 y5;go_wp2_with fail
  refine dF [0,1,2,3,4,5,6] [7] 8 (λw'=>w'.cell? ⟨bf,0,none⟩=some (.func (.func 143) #[] #[])/\w'.cell? ⟨b3,0,none⟩=some (pV S.sp)/\w'.cell? ⟨S.sp,0,none⟩=some (pV S.D.B.hp)/\w'.cell? ⟨b5,0,none⟩=some (vI (a:Int))/\w'.cell? ⟨bk,0,none⟩=some (vI k)) (by kernel_rfl) (by kernel_rfl) ⟨zf,z3,c0,z5,zk⟩ ?_;refine ai (.func (.func 143) #[] #[]) rfl rfl (λw' hw'=>?_) ak ?_
  ·have e1:=hw'.1;simp[go_sem,e1]
  refine ai (pV S.sp) rfl rfl (λw' hw'=>?_) ak ?_
  ·have e1:=hw'.2.1;simp[go_sem,e1]
  refine ai (pV S.sp) rfl rfl (λw' hw'=>?_) ak ?_
  ·simp[go_sem]
  refine ai (bw S.sp) rfl rfl (λw' hw'=>?_) ak ?_
  ·simp[go_sem]
  refine ai (pV S.D.B.hp) rfl rfl (λw' hw'=>?_) ak ?_
  ·have e1:=hw'.2.2.1;simp[go_sem,e1]
  refine ai (vI (a:Int)) rfl rfl (λw' hw'=>?_) ak ?_
  ·have e1:=hw'.2.2.2.1;simp[go_sem,e1]
  refine ai (vI k) rfl rfl (λw' hw'=>?_) ak ?_
  ·have e1:=hw'.2.2.2.2;simp[go_sem,e1]
  simp only[bq];refine aq rfl rfl ?_;go_wp2_with fail
  refine o.mono ?_;rintro e w4 ⟨v,x,rfl,hv,mg,n4⟩;have n5:=n4.lA k1;obtain⟨dW,S5,p1,p2,p3,p4⟩:=n5;have hP:jB w τ s q S (WR S (t:Nat) jO) (.returned (.tuple #[vI v,vI x])) w4:=⟨v,x,rfl,hv,mg.i64.1,dW,S5,p1,m2.trans p2,m3.trans p3,.of mg.i64.2 (r1.trans p4) mg.gL⟩;have DS:=(p1.cells 0 _ rfl).1;rw[p3.sp,p3.hp,m3.sp,m3.hp] at DS;refine⟨⟨(p2.own (m2.own of tf) (by rw[m2.tg _ of.lt];exact tf)).1,(p2.own (m2.own o3 t3) (by rw[m2.tg _ o3.lt];exact t3)).1,DS,(p2.own (m2.own o5 t5) (by rw[m2.tg _ o5.lt];exact t5)).1,(p2.own (m2.own ok tk) (by rw[m2.tg _ ok.lt];exact tk)).1⟩,?_⟩;replace hP:=hid hP;clear n4 o z3 z5 zf zk c0 DS p1 p2 p3 p4 m1 m2 m3;simp only[bJ];refine df [8,9] [10,11] (λ_=>True) (by kernel_rfl) trivial ?_;refine ai (vI v) rfl rfl (λw' hw'=>?_) ak ?_
  ·simp[go_sem]
  refine ai (vI x) rfl rfl (λw' hw'=>?_) ak ?_
  ·simp[go_sem]
  simp only[bq];refine aq rfl rfl ?_;unfold Oper.wp;go_simp
  try refine⟨trivial,?_⟩
  refine aq rfl rfl ?_;unfold Oper.wp;go_simp
  try refine⟨trivial,?_⟩
  simp only[bJ];go_wp2
  go_ret2
  exact hP.out
 ·have LG:(x != 0)=true:=by simp[bne,h0]
  have hP:jB w τ s q S (WR S (t:Nat) jO) (.returned (.tuple #[vI 0,vI x])) w1:=⟨0,x,rfl,by decide,hx,gI,S1,m1,m2,m3,.ec ft.out.1 r1 ft.out⟩;replace hP:=hid hP;go_wp2
  go_ret2
  exact hP.out
end
section
variable {w:ag}{τ:Nat->Nat}{s q:Nat}{S:aE}
theorem LK(h:St w τ s q S){t:Nat}(ht:t<S.aW.length){a:Nat}(ha:a<=131072){b3 b5:Nat}(o3:Own w b3 0 (pV S.sp))(o5:Own w b5 0 (vI (a:Int)))(t3:500<=τ b3)(t5:500<=τ b5) :
 aJ prog 136 #[pV (S.tx t).xp,bw b3,bw b5] w (jB w τ s q S (WR S (t:Nat) kj)):=by
 have y3:=o3.1;have y5:=o5.1;go_in;go_wp2_with fail
 refine(zN h ht ha).mono ?_;rintro e w0 ⟨p,d,wk,fn,x,rfl,hx,ft,τ0,S1,m1,m2,m3,r1⟩;replace ft:=hid ft;have k0:Calm w0 (w0.alloc (.cells #[vI p,vI d,.bool wk,.bool fn] 179)):=ah.alloc _;have og:=af.new w0 (Ol p d wk fn) 179;have g2:=(og 2 _ rfl).1;clear y3 y5
 by_cases h0:x=0
 ·subst h0
  cases wk with
  | false=>
    have hP:jB w τ s q S (WR S (t:Nat) kj) (.returned (.tuple #[vI 0,vI 144])) (w0.alloc (.cells #[vI p,vI d,.bool false,.bool fn] 179)):=⟨0,144,rfl,by decide,by decide,τ0,S1,m1.calm k0,m2.trans (aC.calm τ0 k0),m3,.of ⟨by decide,by decide,by decide⟩ r1 (by decide)⟩;replace hP:=hid hP;go_wp2
    go_ret2
    exact hP.out
  | true=>
    have z3:=k0.cellAt (m2.own o3 t3).1 id;have z5:=k0.cellAt (m2.own o5 t5).1 id;have c0:=k0.cellAt (m1.cells 0 _ rfl).1 id;rw[m3.sp,m3.hp] at c0;obtain⟨w1,fA⟩:=ao (w0.alloc (.cells #[vI p,vI d,.bool true,.bool fn] 179));replace og:af w1 w0.heap.size [vI p,vI d,.bool true,.bool fn]:=by rw[<-fA];exact og
    have g2:=(og 2 _ rfl).1;rw[fA] at z3 z5 c0 k0;have k1:Calm w1 w1.drew:=ah.drew;have LS:=(m1.calm k0).calm k1;have o:=Ag LS ha 0;rw[m3.hp] at o;have K1:aC w τ w1.drew τ0:=m2.trans (aC.calm τ0 (k0.trans k1));go_wp2_with fail
    refine dF [0,1,2,3,4] [5,6] 7 (λw'=>w'.cell? ⟨b3,0,none⟩=some (pV S.sp)/\w'.cell? ⟨S.sp,0,none⟩=some (pV S.D.B.hp)/\w'.cell? ⟨b5,0,none⟩=some (vI (a:Int))) (by kernel_rfl) (by kernel_rfl) ⟨z3,c0,z5⟩ ?_;refine ai (pV S.sp) rfl rfl (λw' hw'=>?_) ak ?_
    ·have e1:=hw'.1;simp[go_sem,e1]
    refine ai (pV S.sp) rfl rfl (λw' hw'=>?_) ak ?_
    ·simp[go_sem]
    refine ai (bw S.sp) rfl rfl (λw' hw'=>?_) ak ?_
    ·simp[go_sem]
    refine ai (pV S.D.B.hp) rfl rfl (λw' hw'=>?_) ak ?_
    ·have e1:=hw'.2.1;simp[go_sem,e1]
    refine ai (vI (a:Int)) rfl rfl (λw' hw'=>?_) ak ?_
    ·have e1:=hw'.2.2;simp[go_sem,e1]
    simp only[bq];refine aq rfl rfl ?_;go_wp2_with fail
    refine o.mono ?_;rintro e w4 ⟨v,x,rfl,hv,mg,dW,S5,p1,p2,p3,p4⟩;have r5:=r1.trans p4;have DS:=(p1.cells 0 _ rfl).1;rw[p3.sp,p3.hp,m3.sp,m3.hp] at DS;have K2:=K1.trans p2;have X2:=m3.trans p3;have hS:w4.cell? ⟨b3,0,none⟩=some (pV S.sp)/\w4.cell? ⟨S.sp,0,none⟩=some (pV S.D.B.hp)/\w4.cell? ⟨b5,0,none⟩=some (vI (a:Int)):=⟨(K2.own o3 t3).1,DS,(K2.own o5 t5).1⟩;refine⟨hS,?_⟩;clear o z3 z5 c0 DS g2 og LS m2 p2;replace fA:=hid fA;refine aq rfl rfl ?_;unfold Oper.wp;go_simp
    try refine⟨hS.1,hS.2.1,hS.2.2,?_⟩
    clear hS
    try simp only[bJ]
    refine df [7,8] [9,10] (λw'=>True) (by kernel_rfl) trivial ?_;refine ai (vI (v:Int)) rfl rfl (λw' hw'=>?_) ak ?_
    ·simp[go_sem]
    refine ai (vI x) rfl rfl (λw' hw'=>?_) ak ?_
    ·simp[go_sem]
    simp only[bq];refine aq rfl rfl ?_;unfold Oper.wp;go_simp
    try refine⟨trivial,?_⟩
    refine aq rfl rfl ?_;unfold Oper.wp;go_simp
    try refine⟨trivial,?_⟩
    simp only[bJ]
    by_cases jb:x=0
    ·subst jb
     by_cases ye:v=0
     ·subst ye;have hP:jB w τ s q S (WR S (t:Nat) kj) (.returned (.tuple #[vI (0:Nat),vI 0])) w4:=⟨(0:Nat),0,rfl,by decide,by decide,dW,S5,p1,K2,X2,.of ⟨by decide,by decide,by decide⟩ r5 (by decide)⟩;replace hP:=hid hP;go_wp2
      go_ret2
      exact hP.out
     ·have hve:((v:Int) != 0)=true:=by simp[bne];omega
      have EI:t<S5.aW.length:=by rw[X2.len];exact ht
      have c4:=(p1.lW EI 4 _ rfl).1;rw[X2.xp,X2.lp] at c4;have ok:=LJ p1 EI hv;rw[X2.lp] at ok;go_wp2_with fail
      refine ok.mono ?_;rintro e w5 ⟨⟨b,rfl⟩,n5⟩;have n6:=(n5.any λS' h=>h.rn EI).go0 K2 X2 r5
      cases b with
      | true=>
        have hP:jB w τ s q S (WR S (t:Nat) kj) (.returned (.tuple #[vI (v:Int),vI 0])) w5:=⟨v,0,rfl,⟨by omega,by omega⟩,by decide,n6.mono (aD _) (aD _) λ_ e=>.of ⟨by omega,by omega,by decide⟩ e (by decide)⟩;replace hP:=hid hP;clear n6 n5;go_wp2
        go_ret2
        exact hP.out
      | false=>
        have hP:jB w τ s q S (WR S (t:Nat) kj) (.returned (.tuple #[vI 0,vI 130])) w5:=⟨0,130,rfl,by decide,by decide,n6.mono (aD _) (aD _) λ_ e=>.of ⟨by decide,by decide,by decide⟩ e (by decide)⟩;replace hP:=hid hP;clear n6 n5;go_wp2
        go_ret2
        exact hP.out
    ·have LG:(x != 0)=true:=by simp[bne,jb]
     have hP:jB w τ s q S (WR S (t:Nat) kj) (.returned (.tuple #[vI 0,vI x])) w4:=⟨0,x,rfl,by decide,mg.i64.1,dW,S5,p1,K2,X2,.of ⟨by decide,by decide,mg.i64.2⟩ r5 mg.gL⟩;replace hP:=hid hP;go_wp2
     go_ret2
     exact hP.out
 ·have LG:(x != 0)=true:=by simp[bne,h0]
  have hP:jB w τ s q S (WR S (t:Nat) kj) (.returned (.tuple #[vI 0,vI x])) (w0.alloc (.cells #[vI p,vI d,.bool wk,.bool fn] 179)):=⟨0,x,rfl,by decide,hx,τ0,S1,m1.calm k0,m2.trans (aC.calm τ0 k0),m3,.ec ⟨by decide,by decide,ft.out.1⟩ r1 ft.out⟩;replace hP:=hid hP;go_wp2
  go_ret2
  exact hP.out
theorem I8{a:Nat}(ha:a<=131072):AZ ⟨3,a,0,0⟩/\bX (⟨3,a,0,0⟩:Ud).kind/\bX (⟨3,a,0,0⟩:Ud).i:=⟨⟨ha,by show bX 0;decide,λe=>absurd (show(3:Int)=1 from e) (by decide)⟩,by show bX 3;decide,by show bX 0;decide⟩
theorem Ko(h:St w τ s q S){t:Nat}(ht:t<S.aW.length)(hl:(S.tx t).live=true){a:Nat}(ha:a<=131072){b3 b5:Nat}(o3:Own w b3 0 (pV S.sp))(o5:Own w b5 0 (vI (a:Int)))(t3:500<=τ b3)(t5:500<=τ b5) :
 aJ prog 146 #[pV (S.tx t).xp,bw b3,bw b5] w (jB w τ s q S (WR S (t:Nat) jO)):=by
 have y3:=o3.1;have y5:=o5.1;go_in;go_wp2_with fail
 refine(zN h ht ha).mono ?_;rintro e w0 ⟨p,d,wk,fn,x,rfl,hx,ft,τ0,S1,m1,m2,m3,r1⟩;replace ft:=hid ft;have k0:Calm w0 (w0.alloc (.cells #[vI p,vI d,.bool wk,.bool fn] 179)):=ah.alloc _;clear y3 y5
 by_cases h0:x=0
 ·subst h0;have z3:=k0.cellAt (m2.own o3 t3).1 id;have z5:=k0.cellAt (m2.own o5 t5).1 id;obtain⟨w1,fA⟩:=ao (w0.alloc (.cells #[vI p,vI d,.bool wk,.bool fn] 179));rw[fA] at z3 z5 k0;have k1:Calm w1 w1.drew:=ah.drew;have LS:=(m1.calm k0).calm k1;have kV:t<S1.aW.length:=by rw[m3.len];exact ht
  have o:=zF LS kV ((r1.lv t).trans hl) ha;rw[m3.sp,m3.xp] at o;have K1:aC w τ w1.drew τ0:=m2.trans (aC.calm τ0 (k0.trans k1));go_wp2_with fail
  refine dF [0,1,2] [3,4,5] 6 (λw'=>w'.cell? ⟨b3,0,none⟩=some (pV S.sp)/\w'.cell? ⟨b5,0,none⟩=some (vI (a:Int))) (by kernel_rfl) (by kernel_rfl) ⟨z3,z5⟩ ?_;refine ai (pV S.sp) rfl rfl (λw' hw'=>?_) ak ?_
  ·have e1:=hw'.1;simp[go_sem,e1]
  refine ai (pV (S.tx t).xp) rfl rfl (λw' hw'=>?_) ak ?_
  ·simp[go_sem]
  refine ai (vI (a:Int)) rfl rfl (λw' hw'=>?_) ak ?_
  ·have e1:=hw'.2;simp[go_sem,e1]
  simp only[bq];refine aq rfl rfl ?_;go_wp2_with fail
  refine o.mono ?_;rintro e w4 ⟨⟨b,rfl⟩,dW,S5,p1,p2,p3,p4⟩;have r5:=r1.trans p4;have K2:=K1.trans p2;have X2:=m3.trans p3;have EI:t<S5.aW.length:=by rw[X2.len];exact ht
  have hS:w4.cell? ⟨b3,0,none⟩=some (pV S.sp)/\w4.cell? ⟨b5,0,none⟩=some (vI (a:Int)):=⟨(K2.own o3 t3).1,(K2.own o5 t5).1⟩;have c4:=(p1.lW EI 4 _ rfl).1;rw[X2.xp,X2.lp] at c4;refine⟨hS,?_⟩;clear o z3 z5 LS m2 p2;replace fA:=hid fA;refine aq rfl rfl ?_;unfold Oper.wp;go_simp
  try refine⟨hS.1,hS.2,?_⟩
  refine aq rfl rfl ?_;unfold Oper.wp;go_simp
  try refine⟨hS.1,hS.2,?_⟩
  try simp only[bJ]
  obtain⟨z3,z5⟩:=hS
  cases b with
  | false=>
    refine df [6,7,8,9,10,11,12,13,14] [] (λw'=>True) (by kernel_rfl) trivial ?_;refine aT rfl rfl ak ?_;go_simp;refine aT rfl rfl ak ?_;go_simp;refine aT rfl rfl ak ?_;go_simp;refine aT rfl rfl ak ?_;go_simp;refine aT rfl rfl ak ?_;go_simp;refine aT rfl rfl ak ?_;go_simp;refine aT rfl rfl ak ?_;go_simp;refine aT rfl rfl ak ?_;go_simp;refine ai (.bool true) rfl rfl (λw' hw'=>?_) ak ?_
    ·simp[go_sem]
    simp only[bq];simp only[bJ];have hP:jB w τ s q S (WR S (t:Nat) jO) (.returned (.tuple #[vI 0,vI 130])) w4:=⟨0,130,rfl,by decide,by decide,dW,S5,p1,K2,X2,.of (by show(130:Int)≠100;decide) r5 (by decide)⟩;replace hP:=hid hP;go_wp2
    go_ret2
    exact hP.out
  | true=>
    refine df [6,7,8,9,10,11] [12,13,14] (λw'=>w'.cell? ⟨(S.tx t).xp,4,none⟩=some (pV (S.tx t).lp)/\w'.cell? ⟨b5,0,none⟩=some (vI (a:Int))) (by kernel_rfl) ⟨c4,z5⟩ ?_;refine ai (pV (S.tx t).xp) rfl rfl (λw' hw'=>?_) ak ?_
    ·simp[go_sem]
    go_simp;refine ai (pV (S.tx t).xp) rfl rfl (λw' hw'=>?_) ak ?_
    ·simp[go_sem]
    go_simp;refine ai (.pointer (some ⟨(S.tx t).xp,4,none⟩)) rfl rfl (λw' hw'=>?_) ak ?_
    ·simp[go_sem]
    go_simp;refine ai (pV (S.tx t).lp) rfl rfl (λw' hw'=>?_) ak ?_
    ·have e1:=hw'.1;simp[go_sem,e1]
    go_simp;refine ai (vI (a:Int)) rfl rfl (λw' hw'=>?_) ak ?_
    ·have e1:=hw'.2;simp[go_sem,e1]
    go_simp;refine ai (.agg #[vI 3,vI (a:Int),vI 0,vI 0]) rfl rfl (λw' hw'=>?_) ak ?_
    ·simp[go_sem]
    go_simp
    try simp only[bq]
    have ou:=uT p1 EI (u:=⟨3,a,0,0⟩) (I8 ha);rw[X2.lp] at ou;refine aq rfl rfl ?_;go_wp2_with fail
    refine ou.mono ?_;rintro e w6 ⟨⟨b2,rfl⟩,vZ,S7,n1,n2,n3,n4⟩;have r7:=r5.trans (n4.rn EI);have K3:=K2.trans n2;have X3:=X2.trans n3;have ht7:t<S7.aW.length:=by rw[X3.len];exact ht
    have z36:=(K3.own o3 t3).1;have z56:=(K3.own o5 t5).1;have DT:=(n1.lW ht7 4 _ rfl).1;rw[X3.xp,X3.lp] at DT;have N0:=(n1.cells 0 _ rfl).1;rw[X3.sp,X3.hp] at N0;have hS:w6.cell? ⟨(S.tx t).xp,4,none⟩=some (pV (S.tx t).lp)/\w6.cell? ⟨b5,0,none⟩=some (vI (a:Int)):=⟨DT,z56⟩;refine⟨hS,?_⟩;clear ou c4 z3 z5 K2 n2;refine aq rfl rfl ?_;unfold Oper.wp;go_simp
    try refine⟨hS.1,hS.2,?_⟩
    refine aq rfl rfl ?_;unfold Oper.wp;go_simp
    try refine⟨hS.1,hS.2,?_⟩
    try simp only[bJ]
    clear hS
    cases b2 with
    | false=>
      have hP:jB w τ s q S (WR S (t:Nat) jO) (.returned (.tuple #[vI 0,vI 130])) w6:=⟨0,130,rfl,by decide,by decide,vZ,S7,n1,K3,X3,.of (by show(130:Int)≠100;decide) r7 (by decide)⟩;replace hP:=hid hP;go_wp2
      go_ret2
      exact hP.out
    | true=>
      have kd:Calm w6 w6.drew:=ah.drew;have of:=jF (n1.calm kd) ha true;rw[X3.hp] at of;go_wp2_with fail
      refine aO 5 5 (λw'=>Calm w6 w') (by kernel_rfl) (by kernel_rfl) (ah.drew) ?_;refine ae (pV S.sp) rfl (λw' hw'=>?_) ak ?_
      ·have e1:=hw'.cellAt z36 id;simp[go_sem,e1]
      refine ae (pV S.sp) rfl (λw' hw'=>?_) ak ?_
      ·simp[go_sem]
      refine ae (bw S.sp) rfl (λw' hw'=>?_) ak ?_
      ·simp[go_sem]
      refine ae (pV S.D.B.hp) rfl (λw' hw'=>?_) ak ?_
      ·have e1:=hw'.cellAt N0 id;simp[go_sem,e1]
      refine ae (vI (a:Int)) rfl (λw' hw'=>?_) ak ?_
      ·have e1:=hw'.cellAt z56 id;simp[go_sem,e1]
      simp only[bG,Nat.sub_self,bV];go_wp2_with fail
      refine of.mono ?_;rintro e w8 ⟨y,rfl,hy,n8⟩;have hP:jB w τ s q S (WR S (t:Nat) jO) (.returned (.tuple #[vI 0,vI y])) w8:=⟨0,y,rfl,by decide,hy.i64.1,((n8.lA kd).step K3 X3).mono (aD _) (aD _) λ_ e=>.of hy.i64.2 (r7.trans e.1.rn) hy.gL⟩;replace hP:=hid hP;clear of n8 z36 z56 N0 DT;go_wp2
      go_ret2
      exact hP.out
 ·have LG:(x != 0)=true:=by simp[bne,h0]
  have hP:jB w τ s q S (WR S (t:Nat) jO) (.returned (.tuple #[vI 0,vI x])) (w0.alloc (.cells #[vI p,vI d,.bool wk,.bool fn] 179)):=⟨0,x,rfl,by decide,hx,τ0,S1,m1.calm k0,m2.trans (aC.calm τ0 k0),m3,.ec ft.out.1 r1 ft.out⟩;replace hP:=hid hP;go_wp2
  go_ret2
  exact hP.out
end
section
variable {w:ag}{τ:Nat->Nat}{s q:Nat}{S:aE}
def Jc(w:ag)(τ:Nat->Nat)(s q:Nat)(S:aE)(t:Nat)(e:Ending)(w':ag):Prop:=∃x:Int,e=.returned (vI x)/\bX x/\Ec S t x/\JQ w τ s q S w'
theorem Bi(h:St w τ s q S){t:Nat}(ht:t<S.aW.length)(hl:(S.tx t).live=true){a:Nat}(ha:a<=131072){k:Int}(hk:bX k){b:Nat}(hb:b<=131072) :
 aJ prog 142 #[pV S.sp,pV (S.tx t).xp,.agg #[vI 1,vI (a:Int),vI k,vI 0],.func (.func 135) #[pV S.D.B.hp] #[],.func (.func 133) #[pV S.D.B.hp] #[],vI (b:Int)] w (Jc w τ s q S t):=by
 obtain⟨τ0,hf,tk,fr⟩:=h.fresh;obtain⟨k0,o8⟩:=mG w [vI 1,vI (a:Int),vI k,vI 0] 231;obtain⟨W1,gO⟩:=ao (w.alloc (.cells #[vI 1,vI (a:Int),vI k,vI 0] 231));rw[gO] at k0 o8;have t8:500<=τ0 w.heap.size:=by rw[fr _ (aD _)];omega
 have Oa:w.heap.size<W1.heap.size:=o8.lt (by simp);have c1:=(o8 1 _ rfl).1
 have fin:Hid (∀ (W:ag) (dW:Nat->Nat) (S5:aE),St W dW s q S5->(∃W0,aC W1 τ0 W0 dW/\Fr (λb=>b=w.heap.size) W0 W)->Fix S S5->Rn S S5->JQ w τ s q S W):=by
  rintro W dW S5 a1 ⟨W0,a2,a3⟩ a4 a5;refine⟨dW,S5,a1,?_,a4,a5⟩;have K:aC w τ0 W0 dW:=(aC.calm τ0 k0).trans a2;exact aC.dE ⟨K.fr.join a3 (λj hj e=>by omega),K.tg⟩ tk
 go_in;go_wp2_with fail
 refine(nH (hf.calm k0) ht ha).mono ?_;rintro e w1 ⟨x,rfl,hx,ft,gI,S1,m1,m2,m3,r1⟩;replace ft:=hid ft;clear gO;have p8:=m2.bH o8 t8;clear c1
 by_cases h0:x=0
 ·subst h0;have kV:t<S1.aW.length:=by rw[m3.len];exact ht
  have c1:=(p8 1 _ rfl).1;have c2:=(p8 2 _ rfl).1;have o:=Ag m1 ha k;rw[m3.hp] at o;go_wp2_with fail
  refine o.mono ?_;rintro e w2 ⟨v,x,rfl,hv,mg,fj,S2,n1,n2,n3,n4⟩;have r2:=r1.trans n4;clear c1 c2 o;have q8:=n2.bH p8 (by rw[m2.tg _ Oa];exact t8);have K2:=m2.trans n2;have X2:=m3.trans n3
  by_cases jb:x=0
  ·subst jb;have d3:=(q8 3 _ rfl).1;have f3:=(q8 3 _ rfl).2;have F3:=jR w2 (w.heap.size) 3 (vI (v:Int));have r8:=q8.set 3 (vI (v:Int)) (by simp);obtain⟨w3,yf⟩:=ao (w2.setCell ⟨w.heap.size,3,none⟩ (vI (v:Int)));rw[yf] at F3 r8;have t82:500<=fj w.heap.size:=by rw[K2.tg _ Oa];exact t8
   have n1':=n1.gL F3 (λb hb=>by rw[hb];exact t82);have z1:=(r8 1 _ rfl).1;have z2:=(r8 2 _ rfl).1;have Cl:t<S2.aW.length:=by rw[X2.len];exact ht
   have kd:Calm w3 w3.drew:=ah.drew;have oh:=zF (n1'.calm kd) Cl ((r2.lv t).trans hl) ha;rw[X2.sp,X2.xp] at oh;have r8d:af w3.drew w.heap.size [vI 1,vI (a:Int),vI k,vI (v:Int)]:=r8.calm kd;replace yf:=hid yf;have VG:=yf.out;go_wp2_with fail
   clear VG d3 f3;refine dF [0,1,2,3] [4,5,6] 7 (λw'=>w'.cell? ⟨w.heap.size,1,none⟩=some (vI (a:Int))) (by kernel_rfl) (by kernel_rfl) z1 ?_;refine ai (pV S.sp) rfl rfl (λw' hw'=>?_) ak ?_
   ·simp[go_sem]
   refine ai (pV (S.tx t).xp) rfl rfl (λw' hw'=>?_) ak ?_
   ·simp[go_sem]
   refine ai (.pointer (some ⟨w.heap.size,1,none⟩)) rfl rfl (λw' hw'=>?_) ak ?_
   ·simp[go_sem]
   refine ai (vI (a:Int)) rfl rfl (λw' hw'=>?_) ak ?_
   ·have e1:=hw';simp[go_sem,e1]
   simp only[bq];refine aq rfl rfl ?_;go_wp2_with fail
   refine oh.mono ?_;rintro e w4 ⟨⟨b2,rfl⟩,dW,S5,p1,p2,p3,p4⟩;have r5:=r2.trans p4;have s8:=p2.bH r8d t82;have X5:=X2.trans p3;have EI:t<S5.aW.length:=by rw[X5.len];exact ht
   have hS:=(s8 1 _ rfl).1;have c4:=(p1.lW EI 4 _ rfl).1;rw[X5.xp,X5.lp] at c4;refine⟨hS,?_⟩;clear oh z1 z2 n1';refine aq rfl rfl ?_;unfold Oper.wp;go_simp
   try refine⟨hS,?_⟩
   refine aq rfl rfl ?_;unfold Oper.wp;go_simp
   try refine⟨hS,?_⟩
   try simp only[bJ]
   have K5:aC w τ0 w4 dW:=by
    have e1:aC w τ0 w2 fj:=(aC.calm τ0 k0).trans K2;have e2:aC w τ0 w3.drew fj:=⟨e1.fr.join (F3.trans (Calm.any kd)) (λj hj e=>by omega),e1.tg⟩;exact e2.trans p2
   cases b2 with
   | false=>
     refine df [7,8,9,10,11,12,13,14] [] (λw'=>True) (by kernel_rfl) trivial ?_;refine aT rfl rfl ak ?_;go_simp;refine aT rfl rfl ak ?_;go_simp;refine aT rfl rfl ak ?_;go_simp;refine aT rfl rfl ak ?_;go_simp;refine aT rfl rfl ak ?_;go_simp;refine aT rfl rfl ak ?_;go_simp;refine aT rfl rfl ak ?_;go_simp;refine ai (.bool true) rfl rfl (λw' hw'=>?_) ak ?_
     ·simp[go_sem]
     simp only[bq];simp only[bJ];have hP:Jc w τ s q S t (.returned (vI 130)) w4:=⟨130,rfl,by decide,.of (by decide),dW,S5,p1,K5.dE tk,X5,r5⟩;replace hP:=hid hP;go_wp2;go_ret;exact hP.out
   | true=>
     refine df [7,8,9,10,11] [12,13,14] (λw'=>w'.cell? ⟨(S.tx t).xp,4,none⟩=some (pV (S.tx t).lp)/\w'.cell? ⟨w.heap.size,0,none⟩=some (vI 1)/\w'.cell? ⟨w.heap.size,1,none⟩=some (vI (a:Int))/\w'.cell? ⟨w.heap.size,2,none⟩=some (vI k)/\w'.cell? ⟨w.heap.size,3,none⟩=some (vI (v:Int))) (by kernel_rfl) ⟨c4,(s8 0 _ rfl).1,(s8 1 _ rfl).1,(s8 2 _ rfl).1,(s8 3 _ rfl).1⟩ ?_;refine ai (pV (S.tx t).xp) rfl rfl (λw' hw'=>?_) ak ?_
     ·simp[go_sem]
     go_simp;refine ai (pV (S.tx t).xp) rfl rfl (λw' hw'=>?_) ak ?_
     ·simp[go_sem]
     go_simp;refine ai (.pointer (some ⟨(S.tx t).xp,4,none⟩)) rfl rfl (λw' hw'=>?_) ak ?_
     ·simp[go_sem]
     go_simp;refine ai (pV (S.tx t).lp) rfl rfl (λw' hw'=>?_) ak ?_
     ·have e1:=hw'.1;simp[go_sem,e1]
     go_simp;refine ai (.agg #[vI 1,vI (a:Int),vI k,vI (v:Int)]) rfl rfl (λw' hw'=>?_) ak ?_
     ·obtain⟨-,e0,e1,e2,e3⟩:=hw';simp[go_sem,e0,e1,e2,e3]
     go_simp
     try simp only[bq]
     have ou:=uT p1 EI (u:=⟨1,a,k,(v:Int)⟩) ⟨⟨ha,⟨by show(-9223372036854775808:Int)<=(v:Int);omega,by show(v:Int)<=9223372036854775807;omega⟩,λ_=>⟨by show(0:Int)<=(v:Int);omega,by show(v:Int)<=131072;omega⟩⟩,by show bX 1;decide,hk⟩;rw[X5.lp] at ou;refine aq rfl rfl ?_;go_wp2_with fail
     refine ou.mono ?_;rintro e w6 ⟨⟨b3,rfl⟩,vZ,S7,j1,j2,j3,j4⟩;have r7:=r5.trans (j4.rn EI);have t85:500<=dW w.heap.size:=by rw[p2.tg _ (by have:=F3.size;have:=K2.size;have:=kd.size;omega)];exact t82
     have v8:=j2.bH s8 t85;have X7:=X5.trans j3;have ht7:t<S7.aW.length:=by rw[X7.len];exact ht
     have DT:=(j1.lW ht7 4 _ rfl).1;rw[X7.xp,X7.lp] at DT;have K7:=K5.trans j2;have jo:w6.cell? ⟨(S.tx t).xp,4,none⟩=some (pV (S.tx t).lp)/\w6.cell? ⟨w.heap.size,0,none⟩=some (vI 1)/\w6.cell? ⟨w.heap.size,1,none⟩=some (vI (a:Int))/\w6.cell? ⟨w.heap.size,2,none⟩=some (vI k)/\w6.cell? ⟨w.heap.size,3,none⟩=some (vI (v:Int)):=⟨DT,(v8 0 _ rfl).1,(v8 1 _ rfl).1,(v8 2 _ rfl).1,(v8 3 _ rfl).1⟩;refine⟨jo,?_⟩;clear ou c4 s8 p2 j2 hS;refine aq rfl rfl ?_;unfold Oper.wp;go_simp
     try refine⟨jo.1,jo.2.1,jo.2.2.1,jo.2.2.2.1,jo.2.2.2.2,?_⟩
     refine aq rfl rfl ?_;unfold Oper.wp;go_simp
     try refine⟨jo.1,jo.2.1,jo.2.2.1,jo.2.2.2.1,jo.2.2.2.2,?_⟩
     try simp only[bJ]
     obtain⟨-,-,y1,y2,-⟩:=jo
     cases b3 with
     | false=>
       have hP:Jc w τ s q S t (.returned (vI 130)) w6:=⟨130,rfl,by decide,.of (by decide),vZ,S7,j1,K7.dE tk,X7,r7⟩;replace hP:=hid hP;go_wp2;go_ret;exact hP.out
     | true=>
       have of:=pC j1 ha hb k;rw[X7.hp] at of;go_wp2_with fail
       refine of.mono ?_;rintro e w8 ⟨y,rfl,hy,GP,S9,i1,i2,i3,i4⟩;have r9:=r7.trans i4.1.rn;have hP:Jc w τ s q S t (.returned (vI y)) w8:=⟨y,rfl,hy.i64.1,.of ⟨hy.i64.2,hy.gL⟩,GP,S9,i1,(K7.trans i2).dE tk,X7.trans i3,r9⟩;replace hP:=hid hP;clear of;go_wp2;go_ret;exact hP.out
  ·have LG:(x != 0)=true:=by simp[bne,jb]
   have hP:Jc w τ s q S t (.returned (vI x)) w2:=⟨x,rfl,mg.i64.1,.of ⟨mg.i64.2,mg.gL⟩,fin.out _ _ _ n1 ⟨w2,K2,ah⟩ X2 r2⟩;replace hP:=hid hP;go_wp2;go_ret;exact hP.out
 ·have LG:(x != 0)=true:=by simp[bne,h0]
  have hP:Jc w τ s q S t (.returned (vI x)) w1:=⟨x,rfl,hx,ft.out,fin.out _ _ _ m1 ⟨w1,m2,ah⟩ m3 r1⟩;replace hP:=hid hP;go_wp2;go_ret;exact hP.out
theorem J5(h:St w τ s q S){t:Nat}(ht:t<S.aW.length)(hl:(S.tx t).live=true){a:Nat}(ha:a<=131072){k:Int}(hk:bX k){b:Int}(hb:bX b) :
 aJ prog 142 #[pV S.sp,pV (S.tx t).xp,.agg #[vI 2,vI (a:Int),vI k,vI 0],.func (.func 143) #[pV S.D.B.hp] #[],.func (.func 145) #[pV S.D.B.hp] #[],vI b] w (Jc w τ s q S t):=by
 obtain⟨τ0,hf,tk,fr⟩:=h.fresh;obtain⟨k0,o8⟩:=mG w [vI 2,vI (a:Int),vI k,vI 0] 231;obtain⟨W1,gO⟩:=ao (w.alloc (.cells #[vI 2,vI (a:Int),vI k,vI 0] 231));rw[gO] at k0 o8;have t8:500<=τ0 w.heap.size:=by rw[fr _ (aD _)];omega
 have Oa:w.heap.size<W1.heap.size:=o8.lt (by simp);have c1:=(o8 1 _ rfl).1
 have fin:Hid (∀ (W:ag) (dW:Nat->Nat) (S5:aE),St W dW s q S5->(∃W0,aC W1 τ0 W0 dW/\Fr (λb=>b=w.heap.size) W0 W)->Fix S S5->Rn S S5->JQ w τ s q S W):=by
  rintro W dW S5 a1 ⟨W0,a2,a3⟩ a4 a5;refine⟨dW,S5,a1,?_,a4,a5⟩;have K:aC w τ0 W0 dW:=(aC.calm τ0 k0).trans a2;exact aC.dE ⟨K.fr.join a3 (λj hj e=>by omega),K.tg⟩ tk
 go_in;go_wp2_with fail
 refine(nH (hf.calm k0) ht ha).mono ?_;rintro e w1 ⟨x,rfl,hx,ft,gI,S1,m1,m2,m3,r1⟩;replace ft:=hid ft;clear gO;have p8:=m2.bH o8 t8;clear c1
 by_cases h0:x=0
 ·subst h0;have kV:t<S1.aW.length:=by rw[m3.len];exact ht
  have c1:=(p8 1 _ rfl).1;have c2:=(p8 2 _ rfl).1;have o:=GH m1 ha k;rw[m3.hp] at o;go_wp2_with fail
  refine o.mono ?_;rintro e w2 ⟨v,x,rfl,hv,mg,fj,S2,n1,n2,n3,n4⟩;have r2:=r1.trans n4;clear c1 c2 o;have q8:=n2.bH p8 (by rw[m2.tg _ Oa];exact t8);have K2:=m2.trans n2;have X2:=m3.trans n3
  by_cases jb:x=0
  ·subst jb;have d3:=(q8 3 _ rfl).1;have f3:=(q8 3 _ rfl).2;have F3:=jR w2 (w.heap.size) 3 (vI v);have r8:=q8.set 3 (vI v) (by simp);obtain⟨w3,yf⟩:=ao (w2.setCell ⟨w.heap.size,3,none⟩ (vI v));rw[yf] at F3 r8;have t82:500<=fj w.heap.size:=by rw[K2.tg _ Oa];exact t8
   have n1':=n1.gL F3 (λb hb=>by rw[hb];exact t82);have z1:=(r8 1 _ rfl).1;have z2:=(r8 2 _ rfl).1;have Cl:t<S2.aW.length:=by rw[X2.len];exact ht
   have kd:Calm w3 w3.drew:=ah.drew;have oh:=zF (n1'.calm kd) Cl ((r2.lv t).trans hl) ha;rw[X2.sp,X2.xp] at oh;have r8d:af w3.drew w.heap.size [vI 2,vI (a:Int),vI k,vI v]:=r8.calm kd;replace yf:=hid yf;have VG:=yf.out;go_wp2_with fail
   clear VG d3 f3;refine dF [0,1,2,3] [4,5,6] 7 (λw'=>w'.cell? ⟨w.heap.size,1,none⟩=some (vI (a:Int))) (by kernel_rfl) (by kernel_rfl) z1 ?_;refine ai (pV S.sp) rfl rfl (λw' hw'=>?_) ak ?_
   ·simp[go_sem]
   refine ai (pV (S.tx t).xp) rfl rfl (λw' hw'=>?_) ak ?_
   ·simp[go_sem]
   refine ai (.pointer (some ⟨w.heap.size,1,none⟩)) rfl rfl (λw' hw'=>?_) ak ?_
   ·simp[go_sem]
   refine ai (vI (a:Int)) rfl rfl (λw' hw'=>?_) ak ?_
   ·have e1:=hw';simp[go_sem,e1]
   simp only[bq];refine aq rfl rfl ?_;go_wp2_with fail
   refine oh.mono ?_;rintro e w4 ⟨⟨b2,rfl⟩,dW,S5,p1,p2,p3,p4⟩;have r5:=r2.trans p4;have s8:=p2.bH r8d t82;have X5:=X2.trans p3;have EI:t<S5.aW.length:=by rw[X5.len];exact ht
   have hS:=(s8 1 _ rfl).1;have c4:=(p1.lW EI 4 _ rfl).1;rw[X5.xp,X5.lp] at c4;refine⟨hS,?_⟩;clear oh z1 z2 n1';refine aq rfl rfl ?_;unfold Oper.wp;go_simp
   try refine⟨hS,?_⟩
   refine aq rfl rfl ?_;unfold Oper.wp;go_simp
   try refine⟨hS,?_⟩
   try simp only[bJ]
   have K5:aC w τ0 w4 dW:=by
    have e1:aC w τ0 w2 fj:=(aC.calm τ0 k0).trans K2;have e2:aC w τ0 w3.drew fj:=⟨e1.fr.join (F3.trans (Calm.any kd)) (λj hj e=>by omega),e1.tg⟩;exact e2.trans p2
   cases b2 with
   | false=>
     refine df [7,8,9,10,11,12,13,14] [] (λw'=>True) (by kernel_rfl) trivial ?_;refine aT rfl rfl ak ?_;go_simp;refine aT rfl rfl ak ?_;go_simp;refine aT rfl rfl ak ?_;go_simp;refine aT rfl rfl ak ?_;go_simp;refine aT rfl rfl ak ?_;go_simp;refine aT rfl rfl ak ?_;go_simp;refine aT rfl rfl ak ?_;go_simp;refine ai (.bool true) rfl rfl (λw' hw'=>?_) ak ?_
     ·simp[go_sem]
     simp only[bq];simp only[bJ];have hP:Jc w τ s q S t (.returned (vI 130)) w4:=⟨130,rfl,by decide,.of (by decide),dW,S5,p1,K5.dE tk,X5,r5⟩;replace hP:=hid hP;go_wp2;go_ret;exact hP.out
   | true=>
     refine df [7,8,9,10,11] [12,13,14] (λw'=>w'.cell? ⟨(S.tx t).xp,4,none⟩=some (pV (S.tx t).lp)/\w'.cell? ⟨w.heap.size,0,none⟩=some (vI 2)/\w'.cell? ⟨w.heap.size,1,none⟩=some (vI (a:Int))/\w'.cell? ⟨w.heap.size,2,none⟩=some (vI k)/\w'.cell? ⟨w.heap.size,3,none⟩=some (vI v)) (by kernel_rfl) ⟨c4,(s8 0 _ rfl).1,(s8 1 _ rfl).1,(s8 2 _ rfl).1,(s8 3 _ rfl).1⟩ ?_;refine ai (pV (S.tx t).xp) rfl rfl (λw' hw'=>?_) ak ?_
     ·simp[go_sem]
     go_simp;refine ai (pV (S.tx t).xp) rfl rfl (λw' hw'=>?_) ak ?_
     ·simp[go_sem]
     go_simp;refine ai (.pointer (some ⟨(S.tx t).xp,4,none⟩)) rfl rfl (λw' hw'=>?_) ak ?_
     ·simp[go_sem]
     go_simp;refine ai (pV (S.tx t).lp) rfl rfl (λw' hw'=>?_) ak ?_
     ·have e1:=hw'.1;simp[go_sem,e1]
     go_simp;refine ai (.agg #[vI 2,vI (a:Int),vI k,vI v]) rfl rfl (λw' hw'=>?_) ak ?_
     ·obtain⟨-,e0,e1,e2,e3⟩:=hw';simp[go_sem,e0,e1,e2,e3]
     go_simp
     try simp only[bq]
     have ou:=uT p1 EI (u:=⟨2,a,k,v⟩) ⟨⟨ha,hv,λe=>absurd (show(2:Int)=1 from e) (by decide)⟩,by show bX 2;decide,hk⟩;rw[X5.lp] at ou;refine aq rfl rfl ?_;go_wp2_with fail
     refine ou.mono ?_;rintro e w6 ⟨⟨b3,rfl⟩,vZ,S7,j1,j2,j3,j4⟩;have r7:=r5.trans (j4.rn EI);have t85:500<=dW w.heap.size:=by rw[p2.tg _ (by have:=F3.size;have:=K2.size;have:=kd.size;omega)];exact t82
     have v8:=j2.bH s8 t85;have X7:=X5.trans j3;have ht7:t<S7.aW.length:=by rw[X7.len];exact ht
     have DT:=(j1.lW ht7 4 _ rfl).1;rw[X7.xp,X7.lp] at DT;have K7:=K5.trans j2;have jo:w6.cell? ⟨(S.tx t).xp,4,none⟩=some (pV (S.tx t).lp)/\w6.cell? ⟨w.heap.size,0,none⟩=some (vI 2)/\w6.cell? ⟨w.heap.size,1,none⟩=some (vI (a:Int))/\w6.cell? ⟨w.heap.size,2,none⟩=some (vI k)/\w6.cell? ⟨w.heap.size,3,none⟩=some (vI v):=⟨DT,(v8 0 _ rfl).1,(v8 1 _ rfl).1,(v8 2 _ rfl).1,(v8 3 _ rfl).1⟩;refine⟨jo,?_⟩;clear ou c4 s8 p2 j2 hS;refine aq rfl rfl ?_;unfold Oper.wp;go_simp
     try refine⟨jo.1,jo.2.1,jo.2.2.1,jo.2.2.2.1,jo.2.2.2.2,?_⟩
     refine aq rfl rfl ?_;unfold Oper.wp;go_simp
     try refine⟨jo.1,jo.2.1,jo.2.2.1,jo.2.2.2.1,jo.2.2.2.2,?_⟩
     try simp only[bJ]
     obtain⟨-,-,y1,y2,-⟩:=jo
     cases b3 with
     | false=>
       have hP:Jc w τ s q S t (.returned (vI 130)) w6:=⟨130,rfl,by decide,.of (by decide),vZ,S7,j1,K7.dE tk,X7,r7⟩;replace hP:=hid hP;go_wp2;go_ret;exact hP.out
     | true=>
       have of:=vQ j1 ha k b hb;rw[X7.hp] at of;go_wp2_with fail
       refine of.mono ?_;rintro e w8 ⟨y,rfl,hy,GP,S9,i1,i2,i3,i4⟩;have r9:=r7.trans i4.1.rn;have hP:Jc w τ s q S t (.returned (vI y)) w8:=⟨y,rfl,hy.i64.1,.of ⟨hy.i64.2,hy.gL⟩,GP,S9,i1,(K7.trans i2).dE tk,X7.trans i3,r9⟩;replace hP:=hid hP;clear of;go_wp2;go_ret;exact hP.out
  ·have LG:(x != 0)=true:=by simp[bne,jb]
   have hP:Jc w τ s q S t (.returned (vI x)) w2:=⟨x,rfl,mg.i64.1,.of ⟨mg.i64.2,mg.gL⟩,fin.out _ _ _ n1 ⟨w2,K2,ah⟩ X2 r2⟩;replace hP:=hid hP;go_wp2;go_ret;exact hP.out
 ·have LG:(x != 0)=true:=by simp[bne,h0]
  have hP:Jc w τ s q S t (.returned (vI x)) w1:=⟨x,rfl,hx,ft.out,fin.out _ _ _ m1 ⟨w1,m2,ah⟩ m3 r1⟩;replace hP:=hid hP;go_wp2;go_ret;exact hP.out
end
section
variable {w:ag}{τ:Nat->Nat}{s q:Nat}{S:aE}
theorem Qz(h:St w τ s q S){t:Nat}(ht:t<S.aW.length)(hl:(S.tx t).live=true){a:Nat}(ha:a<=131072){k:Int}(hk:bX k){b:Nat}(hb:b<=131072){b3 b5 b7 b9:Nat}
 (o3:Own w b3 0 (pV S.sp)) (o5:Own w b5 0 (vI (a:Int))) (o7:Own w b7 0 (vI k)) (o9:Own w b9 0 (vI (b:Int))) :
 aJ prog 141 #[pV (S.tx t).xp,bw b9,bw b3,bw b5,bw b7] w (jB w τ s q S (WR S (t:Nat) jO)):=by
 have iQ:Hid (∀ (fn:Fn) (first cap:Array aA) (w:ag),(Instr.makeFunc fn first cap).run prog w=.ok (.func fn first cap) w):=λ_ _ _ _=>rfl;have y3:=o3.1;have y5:=o5.1;have y7:=o7.1;have y9:=o9.1
 by_cases qE:b=0
 ·subst qE;go_in;go_wp2_with fail
  go_quiet (fail)
  have hW:St (w.drewN nq) τ s q S:=h.calm (ah.drewN nq);have cW:Calm w (w.drewN nq):=ah.drewN nq;have z0:=cW.cellAt y3 id;have z1:=cW.cellAt y5 id;have z2:=cW.cellAt y7 id;have z4:=cW.cellAt y9 id;clear y3 y5 y7 y9;have y3:=z0;have y5:=z1;have y7:=z2;have y9:=z4;clear z0 z1 z2 z4;generalize w.drewN nq=W at *;obtain⟨ka,og⟩:=mG W [vI 1,vI (a:Int),vI k,vI 0] 231;obtain⟨w1,fA⟩:=ao (W.alloc (.cells #[vI 1,vI (a:Int),vI k,vI 0] 231));rw[fA] at ka og;replace fA:=hid fA;have z3:=ka.cellAt y3 id;have z9:=ka.cellAt y9 id;have c0:=(((hW.calm ka).cells 0 _ rfl).1);obtain⟨g0,g1,g2,g3⟩:=af.Bh og;have kd:Calm w1 w1.drew:=ah.drew;have SL:=Bi ((hW.calm ka).calm kd) ht hl ha hk (b:=0) hb;go_wp2_with fail
  rw[fA.out];refine aO 14 14 (λw'=>Calm w1 w') (by kernel_rfl) (by kernel_rfl) (ah.drew) ?_;refine ae (pV S.sp) rfl (λw' hw'=>?_) ak ?_
  ·have e1:=hw'.cellAt z3 id;simp[go_sem,e1]
  refine ae (pV (S.tx t).xp) rfl (λw' hw'=>?_) ak ?_
  ·simp[go_sem]
  refine ae (.agg #[vI 1,vI (a:Int),vI k,vI 0]) rfl (λw' hw'=>?_) ak ?_
  ·have e0:=hw'.cellAt g0 id;have e1:=hw'.cellAt g1 id;have e2:=hw'.cellAt g2 id;have e3:=hw'.cellAt g3 id;simp[go_sem,e0,e1,e2,e3]
  refine ae (pV S.sp) rfl (λw' hw'=>?_) ak ?_
  ·have e1:=hw'.cellAt z3 id;simp[go_sem,e1]
  refine ae (pV S.sp) rfl (λw' hw'=>?_) ak ?_
  ·simp[go_sem]
  refine ae (bw S.sp) rfl (λw' hw'=>?_) ak ?_
  ·simp[go_sem]
  refine ae (pV S.D.B.hp) rfl (λw' hw'=>?_) ak ?_
  ·have e1:=hw'.cellAt c0 id;simp[go_sem,e1]
  refine ae (.func (.func 135) #[pV S.D.B.hp] #[]) rfl (λw' hw'=>?_) ak ?_
  ·simp[go_sem,iQ.out]
  refine ae (pV S.sp) rfl (λw' hw'=>?_) ak ?_
  ·have e1:=hw'.cellAt z3 id;simp[go_sem,e1]
  refine ae (pV S.sp) rfl (λw' hw'=>?_) ak ?_
  ·simp[go_sem]
  refine ae (bw S.sp) rfl (λw' hw'=>?_) ak ?_
  ·simp[go_sem]
  refine ae (pV S.D.B.hp) rfl (λw' hw'=>?_) ak ?_
  ·have e1:=hw'.cellAt c0 id;simp[go_sem,e1]
  refine ae (.func (.func 133) #[pV S.D.B.hp] #[]) rfl (λw' hw'=>?_) ak ?_
  ·simp[go_sem,iQ.out]
  refine ae (vI ((0:Nat):Int)) rfl (λw' hw'=>?_) ak ?_
  ·have e1:=hw'.cellAt z9 id;simp[go_sem,e1]
  simp only[bG,Nat.sub_self,bV];go_wp2_with fail
  refine SL.mono ?_;rintro e w5 ⟨x,rfl,hx,ft,n5⟩;have hP:jB w τ s q S (WR S (t:Nat) jO) (.returned (.tuple #[vI 0,vI x])) w5:=⟨0,x,rfl,by decide,hx,(n5.lA (cW.trans (ka.trans kd))).mono (aD _) (aD _) λ_ e=>.ec ft.1 e ft⟩;replace hP:=hid hP;clear SL n5 z3 z9 c0 g0 g1 g2 g3;go_wp2
  go_ret2
  exact hP.out
 ·have PE:((b:Int) != 0)=true:=by simp[bne];omega
  have c0:=(h.cells 0 _ rfl).1;obtain⟨X,hh⟩:=h.iW;have k1:Calm w w.drew:=ah.drew;have ohr:=qe (hh.calm k1) (b:Int) ⟨by omega,by omega⟩;go_in;go_wp2_with fail
  refine wp_region_any (by kernel_rfl) (df [0,1,2,3,4,5,6,7] [8,9,10] (λw'=>Calm w w') (by kernel_rfl) k1 ?_);refine ai (vI (b:Int)) rfl rfl (λw' hw'=>?_) ak ?_
  ·have e1:=hw'.cellAt y9 id;simp[go_sem,e1]
  refine ai (.bool true) rfl rfl (λw' hw'=>?_) ak ?_
  ·simp[go_sem,qE]
  go_simp;refine ai (.bool true) rfl rfl (λw' hw'=>?_) ak ?_
  ·simp[go_sem]
  go_simp;refine ai (pV S.sp) rfl rfl (λw' hw'=>?_) ak ?_
  ·have e1:=hw'.cellAt y3 id;simp[go_sem,e1]
  go_simp;refine ai (pV S.sp) rfl rfl (λw' hw'=>?_) ak ?_
  ·simp[go_sem]
  go_simp;refine ai (bw S.sp) rfl rfl (λw' hw'=>?_) ak ?_
  ·simp[go_sem]
  go_simp;refine ai (pV S.D.B.hp) rfl rfl (λw' hw'=>?_) ak ?_
  ·have e1:=hw'.cellAt c0 id;simp[go_sem,e1]
  go_simp;refine ai (vI (b:Int)) rfl rfl (λw' hw'=>?_) ak ?_
  ·have e1:=hw'.cellAt y9 id;simp[go_sem,e1]
  go_simp
  try simp only[bq]
  refine aq rfl rfl ?_;go_wp2_with fail
  refine ohr.mono ?_;rintro e W ⟨rfl,k2⟩;have cW:Calm w W:=k1.trans k2;have hW:=h.calm cW;refine⟨cW,?_⟩;have z0:=cW.cellAt y3 id;have z1:=cW.cellAt y5 id;have z2:=cW.cellAt y7 id;have z4:=cW.cellAt y9 id;clear y3 y5 y7 y9 ohr;have y3:=z0;have y5:=z1;have y7:=z2;have y9:=z4;clear z0 z1 z2 z4
  by_cases hm:(b:Int)∈nI (dL S.D.A.cur)
  ·have hd:decide ((b:Int)∈nI (dL S.D.A.cur))=true:=by simp only[hm,decide_true]
   rw[hd];replace hm:=hid hm;refine aq rfl rfl ?_;unfold Oper.wp;go_simp
   try refine⟨cW,?_⟩
   refine aq rfl rfl ?_;unfold Oper.wp;go_simp
   try refine⟨cW,?_⟩
   try simp only[bJ]
   obtain⟨ka,og⟩:=mG W [vI 1,vI (a:Int),vI k,vI 0] 231;obtain⟨w1,fA⟩:=ao (W.alloc (.cells #[vI 1,vI (a:Int),vI k,vI 0] 231));rw[fA] at ka og;replace fA:=hid fA;have z3:=ka.cellAt y3 id;have z9:=ka.cellAt y9 id;have c0:=(((hW.calm ka).cells 0 _ rfl).1);obtain⟨g0,g1,g2,g3⟩:=af.Bh og;have kd:Calm w1 w1.drew:=ah.drew;have SL:=Bi ((hW.calm ka).calm kd) ht hl ha hk (b:=b) hb;go_wp2_with fail
   rw[fA.out];refine aO 14 14 (λw'=>Calm w1 w') (by kernel_rfl) (by kernel_rfl) (ah.drew) ?_;refine ae (pV S.sp) rfl (λw' hw'=>?_) ak ?_
   ·have e1:=hw'.cellAt z3 id;simp[go_sem,e1]
   refine ae (pV (S.tx t).xp) rfl (λw' hw'=>?_) ak ?_
   ·simp[go_sem]
   refine ae (.agg #[vI 1,vI (a:Int),vI k,vI 0]) rfl (λw' hw'=>?_) ak ?_
   ·have e0:=hw'.cellAt g0 id;have e1:=hw'.cellAt g1 id;have e2:=hw'.cellAt g2 id;have e3:=hw'.cellAt g3 id;simp[go_sem,e0,e1,e2,e3]
   refine ae (pV S.sp) rfl (λw' hw'=>?_) ak ?_
   ·have e1:=hw'.cellAt z3 id;simp[go_sem,e1]
   refine ae (pV S.sp) rfl (λw' hw'=>?_) ak ?_
   ·simp[go_sem]
   refine ae (bw S.sp) rfl (λw' hw'=>?_) ak ?_
   ·simp[go_sem]
   refine ae (pV S.D.B.hp) rfl (λw' hw'=>?_) ak ?_
   ·have e1:=hw'.cellAt c0 id;simp[go_sem,e1]
   refine ae (.func (.func 135) #[pV S.D.B.hp] #[]) rfl (λw' hw'=>?_) ak ?_
   ·simp[go_sem,iQ.out]
   refine ae (pV S.sp) rfl (λw' hw'=>?_) ak ?_
   ·have e1:=hw'.cellAt z3 id;simp[go_sem,e1]
   refine ae (pV S.sp) rfl (λw' hw'=>?_) ak ?_
   ·simp[go_sem]
   refine ae (bw S.sp) rfl (λw' hw'=>?_) ak ?_
   ·simp[go_sem]
   refine ae (pV S.D.B.hp) rfl (λw' hw'=>?_) ak ?_
   ·have e1:=hw'.cellAt c0 id;simp[go_sem,e1]
   refine ae (.func (.func 133) #[pV S.D.B.hp] #[]) rfl (λw' hw'=>?_) ak ?_
   ·simp[go_sem,iQ.out]
   refine ae (vI (b:Int)) rfl (λw' hw'=>?_) ak ?_
   ·have e1:=hw'.cellAt z9 id;simp[go_sem,e1]
   simp only[bG,Nat.sub_self,bV];go_wp2_with fail
   refine SL.mono ?_;rintro e w5 ⟨x,rfl,hx,ft,n5⟩;have hP:jB w τ s q S (WR S (t:Nat) jO) (.returned (.tuple #[vI 0,vI x])) w5:=⟨0,x,rfl,by decide,hx,(n5.lA (cW.trans (ka.trans kd))).mono (aD _) (aD _) λ_ e=>.ec ft.1 e ft⟩;replace hP:=hid hP;clear SL n5 z3 z9 c0 g0 g1 g2 g3;go_wp2
   go_ret2
   exact hP.out
  ·have hd:decide ((b:Int)∈nI (dL S.D.A.cur))=false:=by simp only[hm,decide_false]
   rw[hd];replace hm:=hid hm;refine aq rfl rfl ?_;unfold Oper.wp;go_simp
   try refine⟨cW,?_⟩
   refine aq rfl rfl ?_;unfold Oper.wp;go_simp
   try refine⟨cW,?_⟩
   try simp only[bJ]
   have hP:jB w τ s q S (WR S (t:Nat) jO) (.returned (.tuple #[vI 0,vI 70])) W:=⟨0,70,rfl,by decide,by decide,Nx.calm h cW (.of (by show(70:Int)≠100;decide) (.refl S) (by decide))⟩;replace hP:=hid hP;go_wp2
   go_ret2
   exact hP.out
theorem Jb(h:St w τ s q S){t:Nat}(ht:t<S.aW.length)(hl:(S.tx t).live=true){a:Nat}(ha:a<=131072){k:Int}(hk:bX k){b:Int}(hb:bX b){b3 b5 b7 b9:Nat}
 (o3:Own w b3 0 (pV S.sp)) (o5:Own w b5 0 (vI (a:Int))) (o7:Own w b7 0 (vI k)) (o9:Own w b9 0 (vI b)) :
 aJ prog 144 #[pV (S.tx t).xp,bw b5,bw b7,bw b3,bw b9] w (jB w τ s q S (WR S (t:Nat) jO)):=by
 have iQ:Hid (∀ (fn:Fn) (first cap:Array aA) (w:ag),(Instr.makeFunc fn first cap).run prog w=.ok (.func fn first cap) w):=λ_ _ _ _=>rfl;have y3:=o3.1;have y5:=o5.1;have y7:=o7.1;have y9:=o9.1;have hW:=h;have cW:Calm w w:=ah;go_in;obtain⟨ka,og⟩:=mG w [vI 2,vI (a:Int),vI k,vI 0] 231;obtain⟨w1,fA⟩:=ao (w.alloc (.cells #[vI 2,vI (a:Int),vI k,vI 0] 231));rw[fA] at ka og;replace fA:=hid fA;have z3:=ka.cellAt y3 id;have z9:=ka.cellAt y9 id;have c0:=(((hW.calm ka).cells 0 _ rfl).1);obtain⟨g0,g1,g2,g3⟩:=af.Bh og;have kd:Calm w1 w1.drew:=ah.drew;have SL:=J5 ((hW.calm ka).calm kd) ht hl ha hk (b:=b) hb;go_wp2_with fail
 rw[fA.out];refine aO 14 14 (λw'=>Calm w1 w') (by kernel_rfl) (by kernel_rfl) (ah.drew) ?_;refine ae (pV S.sp) rfl (λw' hw'=>?_) ak ?_
 ·have e1:=hw'.cellAt z3 id;simp[go_sem,e1]
 refine ae (pV (S.tx t).xp) rfl (λw' hw'=>?_) ak ?_
 ·simp[go_sem]
 refine ae (.agg #[vI 2,vI (a:Int),vI k,vI 0]) rfl (λw' hw'=>?_) ak ?_
 ·have e0:=hw'.cellAt g0 id;have e1:=hw'.cellAt g1 id;have e2:=hw'.cellAt g2 id;have e3:=hw'.cellAt g3 id;simp[go_sem,e0,e1,e2,e3]
 refine ae (pV S.sp) rfl (λw' hw'=>?_) ak ?_
 ·have e1:=hw'.cellAt z3 id;simp[go_sem,e1]
 refine ae (pV S.sp) rfl (λw' hw'=>?_) ak ?_
 ·simp[go_sem]
 refine ae (bw S.sp) rfl (λw' hw'=>?_) ak ?_
 ·simp[go_sem]
 refine ae (pV S.D.B.hp) rfl (λw' hw'=>?_) ak ?_
 ·have e1:=hw'.cellAt c0 id;simp[go_sem,e1]
 refine ae (.func (.func 143) #[pV S.D.B.hp] #[]) rfl (λw' hw'=>?_) ak ?_
 ·simp[go_sem,iQ.out]
 refine ae (pV S.sp) rfl (λw' hw'=>?_) ak ?_
 ·have e1:=hw'.cellAt z3 id;simp[go_sem,e1]
 refine ae (pV S.sp) rfl (λw' hw'=>?_) ak ?_
 ·simp[go_sem]
 refine ae (bw S.sp) rfl (λw' hw'=>?_) ak ?_
 ·simp[go_sem]
 refine ae (pV S.D.B.hp) rfl (λw' hw'=>?_) ak ?_
 ·have e1:=hw'.cellAt c0 id;simp[go_sem,e1]
 refine ae (.func (.func 145) #[pV S.D.B.hp] #[]) rfl (λw' hw'=>?_) ak ?_
 ·simp[go_sem,iQ.out]
 refine ae (vI b) rfl (λw' hw'=>?_) ak ?_
 ·have e1:=hw'.cellAt z9 id;simp[go_sem,e1]
 simp only[bG,Nat.sub_self,bV];go_wp2_with fail
 refine SL.mono ?_;rintro e w5 ⟨x,rfl,hx,ft,n5⟩;have hP:jB w τ s q S (WR S (t:Nat) jO) (.returned (.tuple #[vI 0,vI x])) w5:=⟨0,x,rfl,by decide,hx,(n5.lA (cW.trans (ka.trans kd))).mono (aD _) (aD _) λ_ e=>.ec ft.1 e ft⟩;replace hP:=hid hP;clear SL n5 z3 z9 c0 g0 g1 g2 g3;go_wp2
 go_ret2
 exact hP.out
end
