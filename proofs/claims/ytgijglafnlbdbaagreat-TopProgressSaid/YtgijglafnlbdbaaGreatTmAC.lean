import Derived.Laws.CopyOwn
import Derived.Deep.CutBlock
import Derived.Maps.OwnIn
import Derived.Test.YtgijglafnlbdbaaGreatTmAB
set_option linter.all false
set_option maxHeartbeats 2000000
set_option maxRecDepth 8000
namespace Go.Proofs.YtgijglafnlbdbaaGreat
open RowKit Shelf Proofs.Tryz
open Go renaming World->ag,Value->aA,Calls->aJ
def sz:Nat->Int
 | 0=>4
 | 1=>6
 | k+2=>2*sz k
theorem GK(k:Nat):sz (k+2)=2*sz k:=rfl
theorem S_(k:Nat):sz k<sz (k+1)/\sz (k+1)<2*sz k/\4<=sz k:=by
 induction k using Nat.strongRecOn with
 | ind k ih=>
   match k with
   | 0=>decide
   | 1=>decide
   | k+2=>
     have h:=ih k (by omega);have h2:=ih (k+1) (by omega);rw[GK k,show sz (k+2+1)=2*sz (k+1) from rfl];omega
theorem Aj{a b:Nat}(h:a<=b):sz a<=sz b:=by
 induction b with
 | zero=> obtain rfl:a=0:=(by omega);exact Int.le_refl _
 | succ b ih=>
   by_cases e:a=b+1
   ·rw[e];exact Int.le_refl _
   ·have:=ih (by omega);have:=S_ b;omega
theorem SZ:sz 28=65536:=by decide
theorem aaO:sz 30=131072:=by decide
theorem MY(k:Nat)(h:k<=30):4<=sz k/\sz k<=131072:=by
 have:=Aj h;rw[aaO] at this;have:=S_ k;omega
def kE(n:Int):Nat->Nat->Nat
 | 0,k=>k
 | f+1,k=>if n<=sz k then k else kE n f (k+1)
def cls(n:Int):Nat:=kE n 28 0
theorem ze(n:Int):∀ (f k:Nat),n<=sz (k+f)->k<=kE n f k/\kE n f k<=k+f/\n<=sz (kE n f k)/\∀j,k<=j->j<kE n f k->sz j<n:=by
 intro f
 induction f with
 | zero=>intro k h;exact⟨aD _,aD _,h,λj h1 h2=>by simp[kE] at h2;omega⟩
 | succ f ih=>
   intro k h;unfold kE;split
   ·rename_i hk;exact⟨aD _,by omega,hk,λj h1 h2=>by omega⟩
   ·rename_i hk;obtain⟨h1,h2,h3,h4⟩:=ih (k+1) (by rw[show k+1+f=k+(f+1) from by omega];exact h);refine⟨by omega,by omega,h3,λj HU pK=>?_⟩
    by_cases e:j=k
    ·subst e;omega
    ·exact h4 j (by omega) pK
theorem pU{n:Int}(h:n<=65536):cls n<=28/\n<=sz (cls n)/\∀j,j<cls n->sz j<n:=by
 obtain⟨_,h2,h3,h4⟩:=ze n 28 0 (by rw[ia,SZ];exact h);exact⟨by rw[ia] at h2;exact h2,h3,λj hj=>h4 j (bY _) hj⟩
def ju(n:Int):Int:=sz (cls n)
theorem iw{n:Int}(h:n<=65536):n<=ju n/\4<=ju n/\ju n<=65536:=by
 obtain⟨a,b,_⟩:=pU h;have:=Aj a;rw[SZ] at this;exact⟨b,(MY _ (by omega)).1,this⟩
theorem J6{a b:Int}(h:a<=b)(hb:b<=65536):cls a<=cls b:=by
 obtain⟨_,_,a3⟩:=pU (show a<=65536 by omega);obtain⟨_,b2,_⟩:=pU hb;rcases fB (cls b) (cls a) with aM|ic
 ·have:=a3 _ aM;omega
 ·exact ic
theorem MK{a b:Int}(h:a<=b)(hb:b<=65536):ju a<=ju b:=Aj (J6 h hb)
attribute [local go_sem] Oper.semAt_some
theorem Fq(n:Nat)(hn:1<=n)(N:Nat)(acF:N<=29)(keep:Nat->Prop)(w0:ag) :
 Rp Fence.wide n prog 260 #[] (λk=>#[vI (k:Nat),vI (sz k)]) N false keep w0:=λl J Jx W _ _ hJ WT hN hY h0=>by
 refine callsIn_of_wp func260 rfl trivial ?_ rfl;simp only[ntmps260,List.size_toArray,List.length_cons,List.length_nil,Nat.reduceAdd,Nat.reduceSub,Array.replicate_succ,Array.replicate_zero,List.push_toArray,List.append_toArray,List.nil_append,List.cons_append,Array.append_empty];have HN:Hid (∀W,¬J N W):=hN rfl;clear hN
 gi_wp2
 gi_loopw [2,3,4] (λs x p wr=>∃k:Nat,k<=N/\p=vI k/\s=vI (sz k)/\x=vI (sz (k+1))/\J k wr) (λ_ _ p _=>N-(intOf p).toNat)
 case atStart=>exact⟨0,bY _,rfl,rfl,rfl,h0⟩
 case round=>
  obtain⟨k,hk,rfl,rfl,rfl,hj⟩:=hrel
  have aM:k<N:=by
   rcases fB k N with h|h
   ·exact h
   ·obtain rfl:k=N:=by omega
    exact(HN.out _ hj).elim
  obtain⟨fn,tmps,assign,body,hy,hR⟩:=hY k wr aM hj;have hb:=MY k (by omega);have RO:=MY (k+1) (by omega);have hs:Hid (sz (k+1+1)=2*sz k):=GK k
  gi_wp2
  refine hR.mono ?_;rintro e W1 (⟨rfl,uy,jg⟩|⟨rfl,ft⟩)
  ·gi_wp2
   go_roundw
   case rel=>exact⟨k+1,by omega,by go_num,rfl,by rw[hs.out],uy⟩
   case measure=>simp[intOf];omega
  ·gi_wp2
   go_end0
   exact⟨⟨_,rfl⟩,.inr ft⟩
theorem MS(F:Fence)(n:Nat)(w:ag)(hF:F.fn 256)(hro:F.round=none) :
 CallsIn F n prog 256 #[] w λe w'=>e=.returned (.func (.func 260) #[] #[])/\w=w':=by
 refine callsIn_of_wp func256 rfl hF ?_ hro;simp only[ntmps256,List.size_toArray,List.length_cons,List.length_nil,Nat.reduceAdd,Nat.reduceSub,Array.replicate_succ,Array.replicate_zero,List.push_toArray,List.append_toArray,List.nil_append,List.cons_append]
 gi_wp2
 go_ret;exact⟨rfl,rfl⟩
def OD(n:Int)(w:ag)(k:Nat)(a:Act)(W:ag):Prop:=
 Own W w.heap.size 0 (vI n)/\Own W (w.heap.size+1) 0 (vI (k:Nat))/\Own W (w.heap.size+2) 0 (vI (sz k))/\Calm w W/\k<=cls n /\
 a = { tmps:=#[Value.int IntKind.i64 n,Value.pointer (some { block:=w.heap.size,off:=0 }),Value.pointer (some { block:=w.heap.size+1,off:=0 }),Value.pointer (some { block:=w.heap.size+1+1,off:=0 }),Value.bool false,Value.int IntKind.i64 n,Value.bool (decide (n<1)),Value.bool (decide (n<1)),Value.int IntKind.i64 n,Value.bool (decide (65536<n)),Value.bool (decide (n<1) || decide (65536<n)),Value.func (Fn.func 260) #[] #[],vI (k:Nat),vI (sz k),undef,undef,undef,undef,undef],defers:=[] }
theorem Ip(n:Int)(h1:1<=n)(h2:n<=65536)(w:ag) :
 aJ prog 244 #[vI n] w λe w'=>e=.returned (.tuple #[vI (cls n:Nat),vI (ju n),.bool true])/\Calm w w':=by
 refine(callsIn_wide (n:=9)).1 ?_;refine callsIn_of_wp_marks func244 rfl trivial ?_ rfl;simp only[ntmps244,List.size_toArray,List.length_cons,List.length_nil,Nat.reduceAdd,Nat.reduceSub,Array.replicate_succ,Array.replicate_zero,List.push_toArray,List.append_toArray,List.nil_append,List.cons_append]
 gi_wp2_with (refine⟨trivial,?_⟩;gi_at_call 256;refine(MS _ _ _ trivial rfl).mono ?_;rintro e w' ⟨rfl,rfl⟩)
 obtain⟨c28,csz,clt⟩:=pU h2;obtain⟨W0,gF⟩:=ao ((((w.alloc (Obj.cells #[Value.int IntKind.i64 n] 3)).alloc (Obj.cells #[Value.int IntKind.i64 0] 3)).alloc (Obj.cells #[Value.int IntKind.i64 0] 3)));have i1:Own W0 w.heap.size 0 (vI n):=by rw[<-gF];exact(((Own.new w _ _ 0 rfl).alloc _).alloc _)
 have i2:Own W0 (w.heap.size+1) 0 (vI 0):=by rw[<-gF];exact(Own.at (w.alloc _) _ _ _ 0 (by simp) rfl).alloc _
 have i3:Own W0 (w.heap.size+2) 0 (vI 0):=by rw[<-gF];exact Own.at ((w.alloc _).alloc _) _ _ _ 0 (by simp) rfl
 have i4:W0.heap.size=w.heap.size+3:=by rw[<-gF];simp
 have i5:Calm w W0:=by rw[<-gF];exact(((Fr.refl _ w).alloc _).alloc _).alloc _
 rw[gF]
 refine Au (g:=.tmp 11) rfl (by decide) (gf:=260) (lb:=#[]) rfl trivial (enters_of func260 (by kernel_rfl) rfl)
  (Fq 8 (by decide) 29 (by decide) (λ_=>False) W0) (cE.refl _ _) (λ_ h=>h.elim) (λ_=>rfl)
  (λk W=>Own W w.heap.size 0 (vI n)/\(∃v,Own W (w.heap.size+1) 0 v)/\(∃v,Own W (w.heap.size+2) 0 v)/\Calm w W/\k<=cls n)
  (OD n w)
  (λc W=>c=.exit 0/\Own W (w.heap.size+1) 0 (vI (cls n:Nat))/\Own W (w.heap.size+2) 0 (vI (sz (cls n)))/\Calm w W)
  ?hI ?hI1 ?hIx ?hN ?h0 ?assign ?body ?done ?stop
 case hI=>
  rintro k A B ⟨a1,⟨v2,a2⟩,⟨v3,a3⟩,a4,a5⟩ hl;exact⟨a1.fr hl (by simp;omega),⟨v2,a2.fr hl (by simp;omega)⟩,⟨v3,a3.fr hl (by simp;omega)⟩,a4.join hl (by simp;omega),a5⟩
 case hI1=>
  rintro k a' A B ⟨a1,a2,a3,a4,a5⟩ hl;exact⟨a1.fr hl (by simp;omega),a2.fr hl (by simp;omega),a3.fr hl (by simp;omega),a4.join hl (by simp;omega),a5⟩
 case hIx=>
  rintro c A B ⟨a1,a2,a3,a4⟩ hl;exact⟨a1,a2.fr hl (by simp;omega),a3.fr hl (by simp;omega),a4.join hl (by simp;omega)⟩
 case hN=>
  rintro _ W ⟨_,_,_,_,h⟩;omega
 case h0=>exact⟨i1,⟨_,i2⟩,⟨_,i3⟩,i5,bY _⟩
 case assign=>
  rintro l k W hk ⟨a1,⟨v2,a2⟩,⟨v3,a3⟩,a4,a5⟩ hs;have b1:=a2.1;have b2:=a2.2;have b3:=a3.1;have b4:=a3.2
  gi_wp2
  have hc:Calm w ((W.setCell ⟨w.heap.size+1,0,none⟩ (vI (k:Nat))).setCell ⟨w.heap.size+1+1,0,none⟩ (vI (sz k))):=(a4.setCell (.inr (by simp)) _).setCell (.inr (by simp;omega)) _
  exact⟨cE.yv (S:=λb=>b=w.heap.size+1\/b=w.heap.size+2) ((ah.setCell (.inl (.inl rfl)) _).setCell (.inl (.inr rfl)) _) (by simp;omega),
   (a1.gL _ _ (by simp)).gL _ _ (by simp;omega),(a2.set _).gL _ _ (by simp),(a3.gL _ _ (by simp)).set _,hc,a5,rfl⟩
 case body=>
  rintro l k a W hk ⟨a1,a2,a3,a4,a5,rfl⟩ hs;have b1:=a1.1;have b3:=a3.1
  gi_wp2
  ·rename_i ic;refine⟨cE.refl _ _,rfl,?_,?_,a4⟩
   ·have:k=cls n:=by
     rcases fB k (cls n) with h|h
     ·have:=clt _ h;omega
     ·omega
    rw[<-this];exact a2
   ·have:k=cls n:=by
     rcases fB k (cls n) with h|h
     ·have:=clt _ h;omega
     ·omega
    rw[<-this];exact a3
  ·rename_i aM;refine⟨cE.refl _ _,a1,⟨_,a2⟩,⟨_,a3⟩,a4,?_⟩;rcases fB k (cls n) with h|h
   ·exact h
   ·obtain rfl:k=cls n:=by omega
    omega
 case done=>
  rintro W hf;cases hf
 case stop=>
  rintro c W ⟨rfl,a2,a3,a4⟩ hD;have b1:=a2.1;have b2:=a2.2;have b3:=a3.1;have b4:=a3.2
  gi_wp2
  gi_region
  all_goals gi_wp2
  obtain⟨V,hV⟩:=ao (((W.setCell ⟨w.heap.size+1,0,none⟩ (vI (cls n:Nat))).setCell ⟨w.heap.size+1+1,0,none⟩ (vI (sz (cls n)))).drew);rw[hV];have v2:Own V (w.heap.size+1) 0 (vI (cls n:Nat)):=by rw[<-hV];exact((a2.set _).gL _ _ (by simp)).drew
  have v3:Own V (w.heap.size+1+1) 0 (vI (ju n)):=by rw[<-hV];exact((a3.gL _ _ (by simp)).set _).drew
  have v4:Calm w V:=by rw[<-hV];exact((a4.setCell (.inr (by simp)) _).setCell (.inr (by simp;omega)) _).drew
  have v5:V.heap[W0.heap.size]?=some (.deferred (some [])):=by
   rw[<-hV];exact(((Fr.refl (λb=>b=w.heap.size+1\/b=w.heap.size+2) W).setCell (.inl (.inl rfl)) _).setCell (.inl (.inr rfl)) _).drew.gT hD (by simp;omega)
  clear hV gF;refine⟨by simp,.inl ⟨_,_,rfl,run_takeDeferred v5,?_⟩⟩;have hp:Fr (λb=>b=W0.heap.size) V (V.putObj W0.heap.size (.deferred none)):=(Fr.refl (λb=>b=W0.heap.size) V).putObj (.inl rfl) _;have u2:=(v2.fr hp (by omega)).1;have u3:=(v3.fr hp (by omega)).1;have u4:Calm w (V.putObj W0.heap.size (.deferred none)):=v4.join hp (by simp;omega);refine⟨.tuple #[vI (cls n:Nat),vI (ju n),.bool true],?_,rfl,u4⟩;simp[results,Tryz.f244,go_sem,u2,u3]
theorem lN(n:Int)(h1:1<=n)(h2:n<=65536)(w:ag) :
 aJ prog 215 #[vI n] w λe w'=>e=.returned (.tuple #[vI (ju n),.bool true])/\Calm w w':=by
 go_in;go_wp2_with (go_at_call 244;refine(Ip _ h1 h2 _).mono ?_;rintro e w' ⟨rfl,hc⟩)
 go_ret2
 exact⟨rfl,hc⟩
abbrev wE(b s t:Int):aA:=.agg #[vI b,vI s,vI t]
def zU(b s t:Int):Prop:=0<=b/\b<=65536/\0<=s/\s<=65536/\b<=t/\t<=b+s
theorem Pa(b s t:Int)(w:ag)(h:zU b s t) :
 aJ prog 166 #[wE b s t] w λe w'=>e=.returned (wE b s t)/\Calm w w':=by
 obtain⟨h1,h2,h3,h4,h5,h6⟩:=h;go_in;go_wp2;exact bodyPost_ret (v:=wE b s t) (by simp[results,Tryz.f166,go_sem]) rfl ⟨rfl,(Fr.alloc ah _).alloc _⟩
theorem jZ(b s t:Int)(w:ag)(h:zU b s t) :
 aJ prog 108 #[wE b s t] w λe w'=>e=.returned (.bool true)/\Calm w w':=by
 go_in;go_wp2_with fail
 obtain⟨W1,gO⟩:=ao (w.alloc (.cells #[vI b,vI s,vI t] 150));obtain⟨B,hB⟩:=ao w.heap.size;have q0:∀x:a_ W1,x.w.cell? ⟨B,0,none⟩=some (vI b):=λx=>x.cell (by rw[<-gO,<-hB];exact World.cell?_alloc_new w _ _ 0);have q1:∀x:a_ W1,x.w.cell? ⟨B,1,none⟩=some (vI s):=λx=>x.cell (by rw[<-gO,<-hB];exact World.cell?_alloc_new w _ _ 1);have q2:∀x:a_ W1,x.w.cell? ⟨B,2,none⟩=some (vI t):=λx=>x.cell (by rw[<-gO,<-hB];exact World.cell?_alloc_new w _ _ 2);have k1:Calm w W1:=by rw[<-gO];exact Fr.alloc ah _
 rw[gO,hB];clear gO hB;refine bO (by kernel_rfl) (by kernel_rfl) ?_
 repeat (go_big_quiet_step ((go_at_call 166;exact Calls.dC (Pa b s t _ h))))
 refine wpQuiet_nil ?_;intro w2 hw';have c2:=a_.out hw';clear hw';go_wp2;go_ret;exact⟨by simp,k1.trans c2⟩
theorem j9(b s t:Int)(w:ag)(h:zU b s t) :
 aJ prog 206 #[wE b s t] w λe w'=>e=.returned (vI (t-b))/\Calm w w':=by
 have H:Hid (zU b s t):=h;obtain⟨h1,h2,h3,h4,h5,h6⟩:=h;go_in;go_wp2_with fail
 refine(jZ b s t _ H.out).mono ?_;rintro e w1 ⟨rfl,c1⟩;have b0:=((Own.new w #[vI b,vI s,vI t] 150 0 rfl).fr c1 id).1;have b1:=((Own.new w #[vI b,vI s,vI t] 150 1 rfl).fr c1 id).1;have b2:=((Own.new w #[vI b,vI s,vI t] 150 2 rfl).fr c1 id).1;go_wp2;go_ret;exact⟨rfl,Fr.trans (Fr.alloc ah _) c1⟩
theorem uS(b s t:Int)(w:ag)(h:zU b s t) :
 aJ prog 247 #[wE b s t] w λe w'=>e=.returned (vI (s-(t-b)))/\Calm w w':=by
 have H:Hid (zU b s t):=h;obtain⟨h1,h2,h3,h4,h5,h6⟩:=h;go_in;go_wp2_with fail
 refine(jZ b s t _ H.out).mono ?_;rintro e w1 ⟨rfl,c1⟩;have b0:=((Own.new w #[vI b,vI s,vI t] 150 0 rfl).fr c1 id).1;have b1:=((Own.new w #[vI b,vI s,vI t] 150 1 rfl).fr c1 id).1;have b2:=((Own.new w #[vI b,vI s,vI t] 150 2 rfl).fr c1 id).1;go_wp2_with fail
 have q0:∀x:a_ w1,x.w.cell? ⟨w.heap.size,0,none⟩=some (vI b):=λx=>x.cell b0;have q1:∀x:a_ w1,x.w.cell? ⟨w.heap.size,1,none⟩=some (vI s):=λx=>x.cell b1;have q2:∀x:a_ w1,x.w.cell? ⟨w.heap.size,2,none⟩=some (vI t):=λx=>x.cell b2;refine bO (by kernel_rfl) (by kernel_rfl) ?_
 repeat (go_big_quiet_step ((go_at_call 206;exact Calls.dC (j9 b s t _ H.out))))
 refine wpQuiet_nil ?_;intro w2 hw';have c2:=a_.out hw';clear hw';go_wp2;go_ret;exact⟨rfl,(Fr.trans (Fr.alloc ah _) c1).trans c2⟩
theorem nF(b s t:Int)(w:ag)(h:zU b s t) :
 aJ prog 205 #[wE b s t] w λe w'=>e=.returned (wE b s b)/\Calm w w':=by
 have H:Hid (zU b s t):=h;obtain⟨h1,h2,h3,h4,h5,h6⟩:=h;go_in;go_wp2_with fail
 have o:=λi v h=>(Own.new w #[vI b,vI s,vI t] 150 i (v:=v) h).alloc (.cells #[vI 0,vI 0,vI 0] 150);have r:=λi v h=>Own.at (w.alloc (.cells #[vI b,vI s,vI t] 150)) #[vI 0,vI 0,vI 0] 150 (w.heap.size+1) i (v:=v) (by simp) h;obtain⟨W1,gO⟩:=ao ((w.alloc (.cells #[vI b,vI s,vI t] 150)).alloc (.cells #[vI 0,vI 0,vI 0] 150));have k1:Calm w W1:=by rw[<-gO];exact(Fr.alloc ah _).alloc _
 rw[gO] at o r ⊢;clear gO;obtain⟨B,hB⟩:=ao w.heap.size;have HB:Hid (w.heap.size=B):=hB;rw[hB] at o r ⊢;clear hB;refine(jZ b s t _ H.out).mono ?_;rintro e w1 ⟨rfl,c1⟩;have o0:=((o 0 _ rfl).fr c1 id);have o1:=((o 1 _ rfl).fr c1 id);have o2:=((o 2 _ rfl).fr c1 id);have r0:=((r 0 _ rfl).fr c1 id);have r1:=((r 1 _ rfl).fr c1 id);have r2:=((r 2 _ rfl).fr c1 id);clear o r;have o0a:=o0.1;have o0b:=o0.2;have o1a:=o1.1;have o1b:=o1.2;have o2a:=o2.1;have o2b:=o2.2;have r0a:=r0.1;have r0b:=r0.2;have r1a:=r1.1;have r1b:=r1.2;have r2a:=r2.1;have r2b:=r2.2;go_wp2;obtain⟨s0,s1,s2,sf⟩:=CN (r0.gL ⟨B,2,none⟩ (vI b) (by simp)) (r1.gL ⟨B,2,none⟩ (vI b) (by simp)) (r2.gL ⟨B,2,none⟩ (vI b) (by simp)) (vI b) (vI s) (vI b);have kf:Calm w (w1.setCell ⟨B,2,none⟩ (vI b)):=(k1.trans c1).setCell (.inr (by have:=HB.out;simp;omega)) _;refine bodyPost_ret (v:=wE b s b) ?_ rfl ⟨rfl,kf.join sf (by have:=HB.out;intro k h1 h2;omega)⟩;simp[results,Tryz.f205,go_sem,s0.1,s1.1,s2.1]
theorem Cu(b s:Int)(w:ag)(h1:0<=b)(h2:b<=65536)(h3:0<=s)(h4:s<=65536) :
 aJ prog 59 #[vI b,vI s] w λe w'=>e=.returned (.tuple #[wE b s b,.bool true])/\Calm w w':=by
 go_in;go_wp2_with fail
 have r:af ((w.alloc (.cells #[vI 0,vI 0,vI 0] 150)).alloc (.cells #[vI b,vI s,vI b] 150)) w.heap.size [vI 0,vI 0,vI 0]:=(af.new w [vI 0,vI 0,vI 0] _).alloc _;have o:af ((w.alloc (.cells #[vI 0,vI 0,vI 0] 150)).alloc (.cells #[vI b,vI s,vI b] 150)) (w.heap.size+1) [vI b,vI s,vI b]:=af.at (w.alloc _) [vI b,vI s,vI b] _ _ (by simp);refine(jZ b s b _ ⟨by omega,by omega,by omega,by omega,by omega,by omega⟩).mono ?_;rintro e w1 ⟨rfl,c1⟩;replace r:=r.calm c1;replace o:=o.calm c1;have k1:Calm w w1:=((Fr.alloc ah _).alloc _).trans c1;clear c1;obtain⟨B,hB⟩:=ao w.heap.size;have HB:Hid (w.heap.size=B):=hB;rw[hB] at o r ⊢;clear hB;obtain⟨o0,o1,o2⟩:=af.mI o;obtain⟨r0,r1,r2⟩:=af.mI r;have s0:=(r 0 _ rfl).2;have s1:=(r 1 _ rfl).2;have s2:=(r 2 _ rfl).2;go_wp2;obtain⟨t0,tf⟩:=r.xr (vI b) (vI s) (vI b);refine bodyPost_ret (v:=.tuple #[wE b s b,.bool true]) ?_ rfl ⟨rfl,k1.join tf (by have:=HB.out;intro k h1 h2;omega)⟩;simp[results,Tryz.f59,go_sem,(t0 0 _ rfl).1,(t0 1 _ rfl).1,(t0 2 _ rfl).1]
theorem vS(b s t n:Int)(w:ag)(h:zU b s t)(n1:1<=n)(n2:n<=65536)(hl:ju n<=s-(t-b)) :
 aJ prog 223 #[wE b s t,vI n] w λe w'=>e=.returned (.tuple #[wE b s (t+ju n),vI t,.bool true])/\Calm w w':=by
 have rb:=iw n2;obtain⟨x,hx⟩:=ao (ju n);rw[hx] at hl rb;obtain⟨Xz,XB,XC⟩:=rb;rw[hx];have HR:Hid (ju n=x):=hx;clear hx;have H:Hid (zU b s t):=h;obtain⟨h1,h2,h3,h4,h5,h6⟩:=h;go_in;go_wp2_with fail
 have o:af ((w.alloc (.cells #[vI b,vI s,vI t] 150)).alloc (.cells #[vI 0,vI 0,vI 0] 150)) w.heap.size [vI b,vI s,vI t]:=(af.new w [vI b,vI s,vI t] _).alloc _;have r:af ((w.alloc (.cells #[vI b,vI s,vI t] 150)).alloc (.cells #[vI 0,vI 0,vI 0] 150)) (w.heap.size+1) [vI 0,vI 0,vI 0]:=af.at (w.alloc _) [vI 0,vI 0,vI 0] _ _ (by simp);refine(jZ b s t _ H.out).mono ?_;rintro e w1 ⟨rfl,c1⟩;replace r:=r.calm c1;replace o:=o.calm c1;have k1:Calm w w1:=((Fr.alloc ah _).alloc _).trans c1;clear c1;obtain⟨B,hB⟩:=ao w.heap.size;have HB:Hid (w.heap.size=B):=hB;rw[hB] at o r ⊢;clear hB;go_wp2_with fail
 refine(lN n n1 n2 _).mono ?_;rintro e w2 ⟨rfl,c2⟩;replace r:=r.calm c2;replace o:=o.calm c2;have k2:=k1.trans c2;clear c2 k1;rw[HR.out];obtain⟨o0,o1,o2⟩:=af.mI o;go_wp2_with fail
 clear o0 o1 o2;refine(uS b s t _ H.out).mono ?_;rintro e w3 ⟨rfl,c3⟩;replace r:=r.calm c3;replace o:=o.calm c3;have k3:=k2.trans c3;clear c3 k2;obtain⟨o0,o0f,o1,o1f,o2,o2f⟩:=af.pG o;obtain⟨r0,r0f,r1,r1f,r2,r2f⟩:=af.pG r;go_wp2;have o':=(o.set 2 (vI (t+x)) (by simp));obtain⟨t0,tf⟩:=(r.gL ⟨B,2,none⟩ (vI (t+x)) (by simp)).xr (vI b) (vI s) (vI (t+x));have k4:=k3.setCell (p:=⟨B,2,none⟩) (.inr (by have:=HB.out;simp;omega)) (vI (t+x));refine bodyPost_ret (v:=.tuple #[wE b s (t+x),vI t,.bool true]) ?_ rfl ⟨rfl,k4.join tf (by have:=HB.out;intro k h1 h2;omega)⟩;simp[results,Tryz.f223,go_sem,(t0 0 _ rfl).1,(t0 1 _ rfl).1,(t0 2 _ rfl).1]
structure mP(xs:aj)(a t:Nat):Prop where
 lt:a<xs.length
 pos:1<=t
 le:t<=131072
 word:xs.getD a 0=t*4+2
theorem uU(w:ag)(b c:Nat)(xs:aj)(h:Ar w b c xs)(a t:Nat)(hg:mP xs a t) :
 aJ prog 251 #[eL b,vI a] w λe w'=>e=.returned (.tuple #[vI t,.bool true])/\w'=w:=by
 obtain⟨h1,h2,h3,h4⟩:=hg;have HA:=hid h;replace h4:=hid h4;have h5:Hid ((t*4+2) / 4=t):=by show(t*4+2) / 4=t;omega
 clear h;go_in;go_wp2_with fail
 refine(jh _ b c xs HA.out a h1).mono ?_;rintro e w' ⟨rfl,rfl⟩;rw[h4.out];go_wp2_with fail
 refine(Ja (t*4+2) (by omega) (by omega) (by omega) (by omega) _).mono ?_;rintro e w' ⟨rfl,rfl⟩;rw[h5.out];go_wp2
 go_ret2
 exact⟨rfl,rfl⟩
theorem VY(w:ag)(b c:Nat)(xs:aj)(h:Ar w b c xs)(a:Nat)(h1:a<xs.length)(hW:xs.getD a 0<18446744073709551616)(ho:xs.getD a 0 / 4<1\/131072<xs.getD a 0 / 4\/xs.getD a 0 % 4≠2) :
 aJ prog 251 #[eL b,vI a] w λe w'=>e=.returned (.tuple #[vI 0,.bool false])/\w'=w:=by
 have HA:=hid h;obtain⟨s,hS⟩:=ao (xs.getD a 0);rw[hS] at hW ho;have HW:=hid hW;have HO:=hid ho;replace hS:=hid hS;clear h hW ho;go_in;go_wp2_with fail
 refine(jh _ b c xs HA.out a h1).mono ?_;rintro e w' ⟨rfl,rfl⟩;rw[hS.out];go_wp2_with fail
 refine(NU s HW.out HO.out _).mono ?_;rintro e w' ⟨rfl,rfl⟩;go_wp2
 go_ret2
 exact⟨rfl,rfl⟩
theorem UI(p d:Nat)(wk fn fr:Bool):hd p d wk fn fr % 2=1:=by
 unfold hd;omega
theorem At.head{xs:aj}{a:Nat}{o:Ob}(h:At xs a o):xs.getD a 0=hd o.p o.d o.wk o.fn o.fr:=h.isObj.head
theorem At.lt{xs:aj}{a:Nat}{o:Ob}(h:At xs a o):a<xs.length:=by have:=h.room;simp only[Ob.size] at this;omega
theorem uV(w:ag)(b c:Nat)(xs:aj)(h:Ar w b c xs)(a:Nat)(o:Ob)(ho:At xs a o) :
 aJ prog 251 #[eL b,vI a] w λe w'=>e=.returned (.tuple #[vI 0,.bool false])/\w'=w:=by
 have h1:=ho.head;have h2:=UI o.p o.d o.wk o.fn o.fr;have h3:=RT (fr:=o.fr) ho.ok.sh;exact VY w b c xs h a ho.lt (by omega) (.inr (.inr (by omega)))
def mv(xs:aj)(f t n:Nat):aj:=Go.splice xs t ((List.range n).map λi=>xs.getD (f+i) 0)
theorem lI{xs:aj}{f t n:Nat}(h:t+n<=xs.length):(mv xs f t n).length=xs.length:=length_splice _ _ _ (by simpa using h)
theorem Qm{xs:aj}{f t n:Nat}(h:t+n<=xs.length)(j:Nat):(mv xs f t n).getD j 0=if t<=j/\j<t+n then xs.getD (f+(j-t)) 0 else xs.getD j 0:=by
 unfold mv Go.splice;simp only[List.getD,List.getElem?_append,List.length_take,List.length_map,List.length_range,List.getElem?_map,List.getElem?_drop,List.getElem?_take];have e:min t xs.length=t:=by omega
 rw[e]
 by_cases h1:j<t
 ·rw[if_pos h1,if_pos h1,if_neg (by omega)]
 ·rw[if_neg h1]
  by_cases h2:j-t<n
  ·rw[if_pos h2,if_pos (by omega),List.getElem?_range h2];simp
  ·rw[if_neg h2,if_neg (by omega),show t+n+(j-t-n)=j by omega]
theorem Fr.setRow{S:Nat->Prop}{a w:ag}(h:Fr S a w){g:Nat}(hg:S g\/a.heap.size<=g)(cs:Array aA):Fr S a (w.setRow g cs):=
 ⟨h.os,h.tape,h.output,gw h.size (by simp),λk hk hs=>by
  rw[setRow_other w g k cs (by rintro rfl;rcases hg with hg|hg;exact hs hg;omega)];exact h.block k hk hs⟩
theorem dM{b off n:Nat} : (⟨b,off,none⟩:Addr).add n=⟨b,off+n,none⟩:=by
 unfold Addr.add;split <;> simp_all
theorem aaD:(prog.info? 252).map (·.size)=some 1:=by kernel_rfl
theorem LY(w:ag)(b c:Nat)(xs:aj)(h:Ar w b c xs)(f t n:Nat)(hn:0<n)(hf:f+n<=xs.length)(ht:t+n<=xs.length) :
 aJ prog 253 #[eL b,vI f,vI t,vI n] w λe w'=>e=.returned (vI 0)/\Ar w' b c (mv xs f t n)/\Fr (λk=>k=c) w w':=by
 have HA:=hid h;have h4:=h.2.2.2;have wU:(0:Int)<n:=by omega
 go_in;go_wp2_with fail
 refine(np _ b c xs HA.out f n hf).mono ?_;rintro e w' ⟨rfl,rfl⟩;go_wp2_with fail
 refine(np _ b c xs HA.out t n ht).mono ?_;rintro e w' ⟨rfl,rfl⟩;clear h;go_wp2_with fail
 have Hu:=HA.out;obtain⟨q1,q2,q3,q4⟩:=Hu;have r1:∀x:a_ w',x.w.cell? ⟨b,0,none⟩=some (.slice (some ⟨c,0,none⟩) xs.length xs.length):=λx=>x.cell q1.1;clear q1 q2 q3 q4;refine bB 18 (by kernel_rfl) (by kernel_rfl) ?_;simp only[List.take_succ_cons,List.take_zero,List.drop_succ_cons,List.drop_zero]
 repeat (go_big_quiet_step (fail))
 refine wpQuiet_nil ?_;intro w2 hw';have c2:=a_.out hw';clear hw' r1;have Az:=HA.out.calm c2;obtain⟨q1,⟨T0,q2⟩,q3,q4⟩:=Az;have k_:c<w2.heap.size:=(sY.1 q2).1
 have Ly:∀j v,((List.range n).map λi=>wV (xs.getD (f+i) 0))[j]?=some v->w2.cell? ((⟨c,f,none⟩:Addr).add j)=some v:=by
  intro j v hj;have qh:j<n:=by simpa using(List.getElem?_eq_some_iff.1 hj).1
  rw[dM];rw[List.getElem?_map,List.getElem?_range qh] at hj;simp at hj;subst hj;have:=((Whole.own ⟨T0,q2⟩) (f+j) (wV (xs.getD (f+j) 0)) (by simp[List.getD,show f+j<xs.length by omega])).1;exact this
 rw[show t+n-t=n by omega,show f+n-f=n by omega];refine wpList_copy_own rfl (.tmp 31) (.tmp 40) 200 200 rfl 252 Tryz.underlying200 aaD c t n (xs.length-t) ⟨c,f,none⟩ n (xs.length-f) rfl rfl (xs.map wV).toArray T0 q2 ((List.range n).map λi=>wV (xs.getD (f+i) 0)) (by simp) Ly (by simp;omega) (by intro v hv;simp at hv;obtain⟨i,_,rfl⟩:=hv;simp[Value.oneCell']) ?_;have aP:=setRow_heap w2 c _ ((xs.map wV).toArray.toList.take t++(((List.range n).map λi=>wV (xs.getD (f+i) 0))++(xs.map wV).toArray.toList.drop (t+((List.range n).map λi=>wV (xs.getD (f+i) 0)).length))).toArray T0 (0,0) q2;have oX:=Fr.setRow (Fr.refl (λk=>k=c) w2) (.inl rfl) ((xs.map wV).toArray.toList.take t++(((List.range n).map λi=>wV (xs.getD (f+i) 0))++(xs.map wV).toArray.toList.drop (t+((List.range n).map λi=>wV (xs.getD (f+i) 0)).length))).toArray;generalize w2.setRow c ((xs.map wV).toArray.toList.take t++(((List.range n).map λi=>wV (xs.getD (f+i) 0))++(xs.map wV).toArray.toList.drop (t+((List.range n).map λi=>wV (xs.getD (f+i) 0)).length))).toArray=w3 at *
 have e:((xs.map wV).toArray.toList.take t++(((List.range n).map λi=>wV (xs.getD (f+i) 0))++(xs.map wV).toArray.toList.drop (t+((List.range n).map λi=>wV (xs.getD (f+i) 0)).length)))=(mv xs f t n).map wV:=by
  simp[mv,Go.splice,List.map_take,List.map_drop]
 rw[e] at aP;have ar:Hid (Ar w3 b c (mv xs f t n)):=⟨by rw[lI ht];exact q1.fr oX q3,⟨T0,aP⟩,q3,by rw[lI ht];exact q4⟩;have fr:Hid (Fr (λk=>k=c) w' w3):=(Calm.any c2).trans oX;clear aP oX q1 q2 Ly c2 e;go_wp2;go_ret;exact⟨rfl,ar.out,fr.out⟩
theorem xK(w:ag)(b c:Nat)(xs:aj)(h:Ar w b c xs)(a t:Nat)(hg:mP xs a t)(B S T:Int) :
 aJ prog 230 #[eL b,vI a,wE B S T] w λe w'=>e=.returned (.tuple #[wE B S T,vI t,vI 0])/\Calm w w':=by
 have HA:=hid h;have HG:=hid hg;clear h hg;go_in;have o5:=(af.new w [vI B,vI S,vI T] 150).alloc (.cells #[vI 0,vI 0,vI 0] 150);have o6:=af.at (w.alloc (.cells #[vI B,vI S,vI T] 150)) [vI 0,vI 0,vI 0] 150 (w.heap.size+1) (by simp);have k1:Calm w ((w.alloc (.cells #[vI B,vI S,vI T] 150)).alloc (.cells #[vI 0,vI 0,vI 0] 150)):=(ah.alloc _).alloc _;replace HA:=hid (HA.out.calm k1);go_wp2_with fail
 refine(uU _ b c xs HA.out a t HG.out).mono ?_;rintro e w' ⟨rfl,rfl⟩;generalize hW:World.alloc _ (.cells #[vI 0,vI 0,vI 0] 150)=W at *;obtain⟨x0,x1,x2⟩:=af.mI o5;obtain⟨y0,z0,y1,z1,y2,z2⟩:=af.pG o6;have lt6:=o6.lt (by simp);go_wp2;have o7:=o6.xr (vI B) (vI S) (vI T);replace k1:Calm w _:=k1.join o7.2 (by intros;omega);clear x0 x1 x2 y0 y1 y2 z0 z1 z2 o5 o6;obtain⟨u0,u1,u2⟩:=af.mI o7.1;exact bodyPost_ret (v:=.tuple #[wE B S T,vI t,vI 0]) (by simp[results,Tryz.f230,go_sem,u0,u1,u2]) rfl ⟨rfl,k1⟩
theorem Bl(w:ag)(b c:Nat)(xs:aj)(h:Ar w b c xs)(a:Nat)(o:Ob)(ho:At xs a o)(B S:Int)(T:Nat)(hp:zU B S T)(hl:ju o.size<=S-(T-B))(hT:1<=T)(hr:T+o.size<=xs.length) :
 aJ prog 230 #[eL b,vI a,wE B S T] w λe w'=>e=.returned (.tuple #[wE B S (T+ju o.size),vI T,vI 0])/\Ar w' b c ((mv xs a T o.size).set a (T*4+2))/\Fr (λk=>k=c) w w':=by
 have HA:=hid h;have HO:=hid ho;have HP:=hid hp;have p8:=ho.ok.sh.1;have d8:=ho.ok.sh.2.1;have hs:Hid (o.size=3+o.p+o.d):=rfl;have Ut:=ho.lt;have har:=ho.room;have hlen:=h.2.2.2;have k_:c<w.heap.size:=(h.cell Ut).lt;have xV:=h.lt;clear h ho hp;go_in;have o5:=(af.new w [vI B,vI S,vI T] 150).alloc (.cells #[vI 0,vI 0,vI 0] 150);have o6:=af.at (w.alloc (.cells #[vI B,vI S,vI T] 150)) [vI 0,vI 0,vI 0] 150 (w.heap.size+1) (by simp);have k1:Calm w ((w.alloc (.cells #[vI B,vI S,vI T] 150)).alloc (.cells #[vI 0,vI 0,vI 0] 150)):=(ah.alloc _).alloc _;replace HA:=hid (HA.out.calm k1);go_wp2_with fail
 refine(uV _ b c xs HA.out a o HO.out).mono ?_;rintro e w' ⟨rfl,rfl⟩;generalize hW:World.alloc _ (.cells #[vI 0,vI 0,vI 0] 150)=W at *;have kw:=k1.size;go_wp2_with fail
 refine(mW HA.out HO.out).mono ?_;rintro e w1 ⟨rfl,c1⟩;have Xt:=af.new w1 [vI o.p,vI o.d,.bool o.wk,.bool o.fn] 179;replace c1:=c1.alloc (.cells #[vI o.p,vI o.d,.bool o.wk,.bool o.fn] 179);replace o5:=o5.calm c1;replace o6:=o6.calm c1;replace HA:=hid (HA.out.calm c1);replace k1:=k1.trans c1;obtain⟨x0,x1,x2,x3⟩:=af.Bh Xt;clear hW c1;go_wp2_with fail
 refine(jY o.p o.d o.wk o.fn HO.out.ok.sh _).mono ?_;rintro e w2 ⟨rfl,c2⟩;replace o5:=o5.calm c2;replace o6:=o6.calm c2;replace HA:=hid (HA.out.calm c2);replace k1:=k1.trans c2;clear x0 x1 x2 x3 Xt c2;have hc:(3:Int)+o.p+o.d=(o.size:Int):=by rw[hs.out];push_cast;rfl
 rw[hc];have iG:o.size<=19:=by have:=hs.out;omega
 have Ck:3<=o.size:=by have:=hs.out;omega
 replace hc:=hid hc;obtain⟨n,hn⟩:=ao o.size;rw[hn] at hl hr har iG Ck hs ⊢;replace hn:=hid hn;obtain⟨r,uI⟩:=ao (ju (n:Int));have Oc:=iw (n:=(n:Int)) (by omega);rw[uI] at hl Oc;obtain⟨gA,rV,fp⟩:=Oc;obtain⟨x0,x1,x2⟩:=af.mI o5;have kK:=vS B S T n w2 HP.out (by omega) (by omega) (by rw[uI];exact hl);rw[uI] at kK;replace kK:=hid kK;replace uI:=hid uI;have Y3:((T:Int)==0)=false:=by simp;omega
 have hgt:¬((n:Int)>xs.length-T):=by omega
 go_wp2_with fail
 refine(kK.out).mono ?_;rintro e w3 ⟨rfl,c3⟩;replace o5:=o5.calm c3;replace o6:=o6.calm c3;replace HA:=hid (HA.out.calm c3);replace k1:=k1.trans c3;have kw4:=k1.size;clear x0 x1 x2 c3 kK o5;have Xu:=af.new w3 [vI B,vI S,vI (T+r)] 150;have c4:Calm w3 (w3.alloc (.cells #[vI B,vI S,vI (T+r)] 150)):=ah.alloc _;replace o6:=o6.calm c4;replace HA:=hid (HA.out.calm c4);replace k1:=k1.trans c4;have kw3:=c4.size;clear c4;go_wp2_with fail
 refine(rC _ b c xs HA.out).mono ?_;rintro e w' ⟨rfl,rfl⟩;go_wp2_with fail
 refine(ux T (by omega) (by omega) _).mono ?_;rintro e w' ⟨rfl,rfl⟩;rw[Int.toNat_natCast];go_wp2_with fail
 refine(LY _ b c xs HA.out a T n (by omega) har hr).mono ?_;rintro e w5 ⟨rfl,G7,f5⟩;have ZL:(mv xs a T n).length=xs.length:=lI hr;replace o6:=o6.fr f5 (by omega);replace Xu:=Xu.fr f5 (by omega);replace G7:=hid G7;have kf:Fr (λk=>k=c) w w5:=(Calm.any k1).trans f5;obtain⟨Y,hY⟩:=ao (mv xs a T n);rw[hY] at ZL G7;replace hY:=hid hY;have k5:=f5.size;clear f5;go_wp2_with fail
 refine(lO _ b c Y G7.out a (by omega) (T*4+2)).mono ?_;rintro e w6 ⟨rfl,rfl⟩;have JV:=hid (G7.out.set (k:=a) (by omega) (T*4+2));have f6:Fr (λk=>k=c) w5 (w5.setCell ⟨c,a,none⟩ (wV (T*4+2))):=(Fr.refl (λk=>k=c) w5).setCell (p:=⟨c,a,none⟩) (.inl rfl) _;replace o6:=o6.fr f6 (by omega);replace Xu:=Xu.fr f6 (by omega);replace kf:=kf.trans f6;generalize w5.setCell ⟨c,a,none⟩ (wV (T*4+2))=w6 at *;have lt6:=o6.lt (by simp);have adb:=Xu.lt (by simp);obtain⟨x0,x1,x2⟩:=af.mI Xu;obtain⟨y0,z0,y1,z1,y2,z2⟩:=af.pG o6;clear hl hr Ut har;go_wp2;have o7:=o6.xr (vI B) (vI S) (vI (T+r));have G8:=JV.out.fr o7.2 (by omega) (by omega);replace kf:Fr (λk=>k=c) w _:=kf.join o7.2 (λk hk (e:k=w.heap.size+1)=>absurd hk (by omega));clear x0 x1 x2 y0 y1 y2 z0 z1 z2 o6;obtain⟨u0,u1,u2⟩:=af.mI o7.1;exact bodyPost_ret (v:=.tuple #[wE B S (T+r),vI T,vI 0]) (by simp[results,Tryz.f230,go_sem,u0,u1,u2]) rfl ⟨by rw[hn.out,uI.out],by rw[hn.out,hY.out];exact G8,kf⟩
theorem jV:(prog.info? 3).map (λi=>(i.zero,i.size,i.bytes))=some (some (vI 0),1,8):=by kernel_rfl
abbrev lj(l:List Int):List aA:=l.map (Value.int .i64)
abbrev nI(l:aj):List Int:=l.map λx:Nat=>(x:Int)
def aI(w:ag)(base:Nat)(v:aA)(l:List Int):Prop:=w.ownsRow base 3 1 v l.length (lj l)
theorem aI.nil(w:ag)(base:Nat):aI w base (.slice none 0 0) []:=World.ownsRow_nil _ _ _ _
theorem aI.row{w:ag}{base:Nat}{v:aA}{l:List Int}(h:aI w base v l):Row w v (lj l):=Row.Qt h
theorem aI.calm{w w':ag}{base:Nat}{v:aA}{l:List Int}(h:aI w base v l)(f:Calm w w'):aI w' base v l:=E2 h f (λ_ _=>id)
theorem aI.slice{w:ag}{base:Nat}{v:aA}{l:List Int}(h:aI w base v l):∃a c,v=.slice a l.length c:=by
 obtain⟨a,c,h,_⟩:=h.row;exact⟨a,c,by simpa using h⟩
theorem aI.letters{w:ag}{base:Nat}{v:aA}{l:List Int}(h:aI w base v l):∃a n c,v=.slice a n c:=by
 obtain⟨a,c,h⟩:=h.slice;exact⟨a,_,c,h⟩
theorem aI.iy{w:ag}{base:Nat}{v:aA}{l:List Int}(h:aI w base v l){n:Nat}(hn:l.length=n):∃a c,v=.slice a n c:=hn ▸ h.slice
theorem aI.mono{w:ag}{base Be:Nat}{v:aA}{l:List Int}(h:aI w base v l)(hb:Be<=base):aI w Be v l:=by
 refine⟨h.1,?_⟩;rcases h.2 with h|⟨g,cap,cur,h1,h2,h3⟩
 ·exact .inl h
 ·exact .inr ⟨g,cap,cur,h1,by omega,h3⟩
def Ob.aZ(o:Ob):aj:=if o.wk then [] else o.ps
theorem Ob.jc{o:Ob}(h:o.Ok):o.aZ.length=if o.wk then 0 else o.p:=by
 unfold Ob.aZ;split
 ·rfl
 ·exact h.lp
theorem Ob.rL{o:Ob}(h:o.Ok):o.aZ.length<=o.p:=by
 rw[Ob.jc h];split <;> omega
theorem Ob.Fs{o:Ob}(h:o.Ok){k:Nat}(hk:k<o.aZ.length):o.aZ.getD k 0=o.ps.getD k 0:=by
 have:=Ob.jc h;unfold Ob.aZ at *;split
 ·rename_i hw;rw[if_pos hw] at hk;simp at hk
 ·rfl
theorem vR(w:ag)(o:Ob)(h:o.Ok) :
 aJ prog 243 #[mz o.p o.d o.wk o.fn] w λe w'=>e=.returned (vI o.aZ.length)/\Calm w w':=by
 rw[Ob.jc h];cases hw:o.wk
 all_goals
  go_in;go_wp2;go_ret;exact⟨rfl,Fr.alloc ah _⟩
theorem dR(l:aj){k:Nat}(hk:k<l.length):l.take (k+1)=l.take k++[l.getD k 0]:=by
 rw[List.take_succ_eq_append_getElem hk];simp[List.getD,hk]
theorem Fu{w:ag}{b c:Nat}{xs:aj}(h:Ar w b c xs){a:Nat}{o:Ob}(ho:At xs a o) :
 aJ prog 212 #[eL b,vI a] w λe w'=>∃v,e=.returned (.tuple #[v,vI 0])/\aI w' w.heap.size v (nI o.aZ)/\Calm w w':=by
 obtain⟨i0,hi,iR,iT,jm⟩:=info_parts jV;have HA:=hid h;have HO:=hid ho;have p8:=ho.ok.sh.1;have Ig:=Ob.rL ho.ok;have hsg:Hid (∀k,k<o.aZ.length->o.aZ.getD k 0=o.ps.getD k 0):=λk hk=>Ob.Fs ho.ok hk;clear h ho;go_in;go_wp2_with fail
 refine(mW HA.out HO.out).mono ?_;rintro e w1 ⟨rfl,c1⟩;have o6:=af.new w1 [vI o.p,vI o.d,.bool o.wk,.bool o.fn] 179;replace c1:=c1.alloc (.cells #[vI o.p,vI o.d,.bool o.wk,.bool o.fn] 179);obtain⟨x0,x1,x2,x3⟩:=af.Bh o6;go_wp2_with fail
 refine(vR _ o HO.out.ok).mono ?_;rintro e w2 ⟨rfl,c2⟩;replace c1:=c1.trans c2;clear c2 x0 x1 x2 x3 o6;obtain⟨n,hn⟩:=ao o.aZ.length;rw[hn] at Ig hsg ⊢;replace hn:=hid hn;go_wp2_with fail
 go_loopw [9,25] (λl i wr=>∃k:Nat,k<=n/\i=vI k/\Hid (aI wr w.heap.size l (nI (o.aZ.take k)))/\Calm w wr) (λ_ i _=>n-(intOf i).toNat)
 case atStart=>exact⟨0,by omega,rfl,aI.nil _ _,c1⟩
 case round=>
  obtain⟨k,hk,rfl,hr,ck⟩:=hrel;rcases fB k n with aM|ic
  ·have e1:=hsg.out k aM;have e2:Hid (nI (o.aZ.take (k+1))=nI (o.aZ.take k)++[((o.aZ.getD k 0:Nat):Int)]):=by show nI (o.aZ.take (k+1))=_;rw[dR o.aZ (by rw[hn.out];exact aM)];simp
   have Jq:Hid ((nI (o.aZ.take k)).length=k):=by show(nI (o.aZ.take k)).length=k;simp[hn.out];omega
   have hq:o.ps.getD k 0<=131072:=HO.out.ok.ptr (by omega);obtain⟨sa,sn,sc,rfl⟩:=hr.out.letters;have cT:=hid (λW (cw:Calm wr W)=>kR (HA.out.calm (ck.trans cw)) HO.out (i:=k) (by omega));rw[<-e1] at cT hq;replace e1:=hid e1;generalize nI (o.aZ.take k)=L at *;generalize o.aZ.getD k 0=q at *;go_wp2_with fail
   refine(cT.out _ ah).mono ?_;rintro e w3 ⟨rfl,c3⟩;have ho3:=hid (hr.out.calm c3);have P5:Hid (w.heap.size<=w3.heap.size):=(ck.trans c3).size;clear cT;go_wp2_with (at_builtin;refine wpList_append_own _ rfl _ _ 43 rfl w.heap.size 3 i0 (vI 0) 1 8 Tryz.underlying43 hi iR iT jm rfl (by decide) _ _ _ rfl (ho3.out.alloc _) ⟨w3.heap.size,0,none⟩ 1 1 [vI q] rfl rfl (cell_one_new _ _ _) (by simp[Value.oneCell']) (by have:=Jq.out;unfold maxLen;omega) (by have:=Jq.out;omega) (by have:=P5.out;simp;omega) ?_;intro v' w4 fO eK _;obtain⟨g',Yp,rfl⟩:=ownsRow_succ fO;have hF:=hid (Fr.OP ho3.out eK);clear eK;replace fO:=hid fO)
   go_roundw
   case rel=>
    refine⟨k+1,by omega,by go_num,?_,(ck.trans c3).join hF.out (λj h1 h2=>absurd h1 (by omega))⟩;have:=fO.out;rw[e2.out];show World.ownsRow _ _ _ _ _ _ _;rw[b_,lj,List.map_append];exact this
   case measure=>simp[intOf];omega
  ·obtain rfl:k=n:=by omega
   have e3:Hid (o.aZ.take k=o.aZ):=List.take_of_length_le (by rw[hn.out];omega);have Jq:Hid ((nI (o.aZ.take k)).length=k):=by show(nI (o.aZ.take k)).length=k;simp[hn.out]
   obtain⟨sa,sc,rfl⟩:=hr.out.iy Jq.out;go_wp2;refine bodyPost_ret (v:=.tuple #[.slice sa k sc,vI 0]) (by simp[results,Tryz.f212,go_sem]) rfl ⟨_,rfl,?_,ck⟩;have:=hr.out
   rwa [e3.out] at this
def Was(xs:aj)(a:Nat)(o:Ob):Prop:=At xs a o\/∃t,mP xs a t/\At xs t o
def Ob.took(o:Ob):Nat:=(ju o.size).toNat
theorem Ob.bF{o:Ob}(h:o.Ok):(o.took:Int)=ju o.size/\o.size<=o.took/\4<=o.took/\o.took<=24:=by
 have h1:o.size=3+o.p+o.d:=rfl;have h2:=h.sh.1;have h3:=h.sh.2.1;have h4:=iw (n:=(o.size:Int)) (by omega);have h5:=MK (a:=(o.size:Int)) (b:=19) (by omega) (by omega);have h6:ju 19=24:=by decide
 unfold Ob.took;omega
def Aw(xs:aj):Nat->Nat->List (Nat × Ob)->Prop
 | b,e,[]=>b=e
 | b,e,(a,o)::l=>a=b/\o.Ok/\Was xs a o/\Aw xs (b+o.took) e l
theorem Aw.le{xs:aj} : ∀ {l:List (Nat × Ob)} {b e:Nat},Aw xs b e l->b+4*l.length<=e
 | [],b,e,h=>by simp[Aw] at h;simp;omega
 | (a,o)::l,b,e,⟨_,h1,_,h2⟩=>by
   have:=Aw.le h2;have:=(Ob.bF h1).2.2.1;simp;omega
attribute [local go_sem] Oper.semAt_some
theorem Own.keeps{keep:Nat->Prop}{w w':ag}{b i:Nat}{v:aA}(h:Own w b i v)(k:cE keep w w')(hb:keep b):Own w' b i v:=
 ⟨(World.cell?_of_block (w:=w) (a:=⟨b,i,none⟩) (k.2 b hb)).trans h.1,(World.frozen?_of_block (w:=w) (a:=⟨b,i,none⟩) (k.2 b hb)).trans h.2⟩
abbrev dL(l:List (Nat × Ob)):aj:=l.map (·.1)
def cO(b:Nat)(l:List (Nat × Ob)):Nat->Nat
 | 0=>b
 | k+1=>cO b l k+(l.getD k (0,Ob.new 0 0 false false 0)).2.took
theorem jH(b:Nat)(x:Nat × Ob)(l:List (Nat × Ob)):∀k,cO b (x::l) (k+1)=cO (b+x.2.took) l k
 | 0=>rfl
 | k+1=>by
   show cO b (x::l) (k+1)+_=cO (b+x.2.took) l k+_;rw[jH b x l k];rfl
theorem Aw.at{xs:aj} : ∀ {l:List (Nat × Ob)} {b e:Nat},Aw xs b e l->∀k,k<l.length ->
 (l.getD k (0,Ob.new 0 0 false false 0)).1=cO b l k/\(l.getD k (0,Ob.new 0 0 false false 0)).2.Ok/\Was xs (cO b l k) (l.getD k (0,Ob.new 0 0 false false 0)).2/\cO b l (k+1)<=e
 | (a,o)::l,b,e,⟨h0,h1,h2,h3⟩,0,_=>⟨h0,h1,h0 ▸ h2,by have:=h3.le;show b+o.took<=e;omega⟩
 | (a,o)::l,b,e,⟨h0,h1,h2,h3⟩,k+1,hk=>by
   have:=Aw.at h3 k (by simpa using hk);rw[jH,jH];exact this
theorem Aw.end{xs:aj} : ∀ {l:List (Nat × Ob)} {b e:Nat},Aw xs b e l->cO b l l.length=e
 | [],b,e,h=>h
 | (a,o)::l,b,e,⟨h0,h1,h2,h3⟩=>by
   show cO b ((a,o)::l) (l.length+1)=e;rw[jH];exact Aw.end h3
attribute [local go_sem] Oper.semAt_some
def Hk(xs:aj)(a T n:Nat):aj:=(mv xs a T n).set a (T*4+2)
theorem lX{xs:aj}{a T n:Nat}(h:T+n<=xs.length):(Hk xs a T n).length=xs.length:=by
 rw[Hk,bN,lI h]
theorem pW{xs:aj}{a T n:Nat}(h:T+n<=xs.length)(ha:a<xs.length)(j:Nat) :
 (Hk xs a T n).getD j 0=if j=a then T*4+2 else if T<=j/\j<T+n then xs.getD (a+(j-T)) 0 else xs.getD j 0:=by
 rw[Hk,dr,lI h,Qm h]
 by_cases e:j=a
 ·rw[if_pos (by omega),if_pos e]
 ·rw[if_neg (by omega),if_neg e]
theorem Ty{xs:aj}{a T:Nat}{o:Ob}(ho:At xs a o)(hr:T+o.size<=xs.length)(hd:a+o.size<=T\/T+o.size<=a):At (Hk xs a T o.size) T o:=by
 have hs:3<=o.size:=by simp only[Ob.size];omega
 refine ho.of_eq (by rw[lX hr];exact hr) λi hi=>?_;rw[pW hr ho.lt,if_neg (by omega),if_pos (by omega),show T+i-T=i by omega]
theorem Kb{xs:aj}{a T:Nat}{o:Ob}(ho:At xs a o)(hr:T+o.size<=xs.length)(hT:1<=T)(Y5:T<=131072):mP (Hk xs a T o.size) a T:=
 ⟨by rw[lX hr];exact ho.lt,hT,Y5,by rw[pW hr ho.lt,if_pos rfl]⟩
def Laid(xs:aj):Nat->Nat->List (Nat × Ob)->Prop
 | b,e,[]=>b=e
 | b,e,(a,o)::l=>a=b/\At xs a o/\Laid xs (b+o.took) e l
theorem Laid.lie{xs:aj} : ∀ {l:List (Nat × Ob)} {b e:Nat},Laid xs b e l->Aw xs b e l
 | [],_,_,h=>h
 | (_,_)::_,_,_,⟨h1,h2,h3⟩=>⟨h1,h2.ok,.inl h2,h3.lie⟩
theorem Laid.congr{xs ys:aj}(hl:ys.length=xs.length):∀ {l:List (Nat × Ob)} {b e:Nat},Laid xs b e l->(∀j,b<=j->j<e->ys.getD j 0=xs.getD j 0)->Laid ys b e l
 | [],_,_,h,_=>h
 | (a,o)::l,b,e,⟨h1,h2,h3⟩,hj=>by
   have:=h3.lie.le;obtain⟨_,q2,q3,_⟩:=Ob.bF h2.ok;refine⟨h1,h2.of_eq (by rw[hl];exact h2.room) (λi hi=>hj _ (by omega) (by omega)),Laid.congr hl h3 (λj k1 k2=>hj j (by omega) k2)⟩
theorem Laid.snoc{xs:aj}{o:Ob} : ∀ {l:List (Nat × Ob)} {b e:Nat},Laid xs b e l->At xs e o->Laid xs b (e+o.took) (l++[(e,o)])
 | [],b,e,h,ho=>by
   have h:b=e:=h;subst h;exact⟨rfl,ho,rfl⟩
 | (a,p)::l,b,e,⟨h1,h2,h3⟩,ho=>⟨h1,h2,h3.snoc ho⟩
theorem Laid.at{xs:aj} : ∀ {l:List (Nat × Ob)} {b e:Nat},Laid xs b e l->∀k,k<l.length->At xs (cO b l k) (l.getD k (0,Ob.new 0 0 false false 0)).2
 | (a,o)::l,b,e,⟨h1,h2,h3⟩,0,_=>h1 ▸ h2
 | (a,o)::l,b,e,⟨h1,h2,h3⟩,k+1,hk=>by
   rw[jH];exact Laid.at h3 k (by simpa using hk)
theorem pT(b:Nat)(ls:List (Nat × Ob)):∀i,b<=cO b ls i
 | 0=>aD _
 | i+1=>gw (pT b ls i) (Nat.le_add_right _ _)
theorem lx(b:Nat)(ls:List (Nat × Ob)){i j:Nat}(h:i<=j):cO b ls i<=cO b ls j:=by
 induction h with
 | refl=>exact aD _
 | step _ ih=>exact gw ih (Nat.le_add_right _ _)
abbrev oo:Nat × Ob × Option Nat:=(0,Ob.new 0 0 false false 0,none)
def gB(X:aj):Nat->Nat->List (Nat × Ob × Option Nat)->Prop
 | b,e,[]=>b=e
 | b,e,(a,o,m)::l=>a=b/\o.Ok/\(match m with|none=>At X a o|some t=>mP X a t)/\gB X (b+o.took) e l
theorem gB.Gr{X:aj} : ∀ {l:List (Nat × Ob)} {b e:Nat},Laid X b e l->gB X b e (l.map λx=>(x.1,x.2,none))
 | [],_,_,h=>h
 | (a,o)::l,b,e,⟨h1,h2,h3⟩=>⟨h1,h2.ok,h2,gB.Gr h3⟩
theorem gB.le{X:aj} : ∀ {l:List (Nat × Ob × Option Nat)} {b e:Nat},gB X b e l->b+4*l.length<=e
 | [],b,e,h=>by have h:b=e:=h;simp;omega
 | (a,o,m)::l,b,e,⟨h1,h2,_,h3⟩=>by
   have:=gB.le h3;obtain⟨_,_,q3,_⟩:=Ob.bF h2;simp only[List.length_cons];omega
theorem gB.at{X:aj} : ∀ {l:List (Nat × Ob × Option Nat)} {b e:Nat},gB X b e l->∀i,i<l.length ->
 b<=(l.getD i oo).1/\(l.getD i oo).1+(l.getD i oo).2.1.took<=e/\(l.getD i oo).2.1.Ok/\(match (l.getD i oo).2.2 with|none=>At X (l.getD i oo).1 (l.getD i oo).2.1|some t=>mP X (l.getD i oo).1 t)
 | (a,o,m)::l,b,e,⟨h1,h2,h3,h4⟩,0,_=>by
   have:=gB.le h4;subst h1;exact⟨aD _,by show a+o.took<=e;omega,h2,h3⟩
 | (a,o,m)::l,b,e,⟨h1,h2,h3,h4⟩,i+1,hi=>by
   obtain⟨k1,k2,k3,k4⟩:=gB.at h4 i (by simpa using hi);exact⟨by show b<=(l.getD i oo).1;omega,k2,k3,k4⟩
theorem gB.apart{X:aj} : ∀ {l:List (Nat × Ob × Option Nat)} {b e:Nat},gB X b e l->∀i j,i<j->j<l.length->(l.getD i oo).1+(l.getD i oo).2.1.took<=(l.getD j oo).1
 | (a,o,m)::l,b,e,⟨h1,h2,h3,h4⟩,0,j+1,_,hj=>by
   have:=(gB.at h4 j (by simpa using hj)).1;subst h1;exact this
 | (a,o,m)::l,b,e,⟨h1,h2,h3,h4⟩,i+1,j+1,Et,hj=>gB.apart h4 i j (by omega) (by simpa using hj)
theorem mP.congr{X Y:aj}{a t:Nat}(h:mP X a t)(hl:Y.length=X.length)(he:Y.getD a 0=X.getD a 0):mP Y a t:=⟨by rw[hl];exact h.lt,h.pos,h.le,by rw[he];exact h.word⟩
theorem gB.congr{X Y:aj}(hl:Y.length=X.length):∀ {l:List (Nat × Ob × Option Nat)} {b e:Nat},gB X b e l->(∀j,b<=j->j<e->Y.getD j 0=X.getD j 0)->gB Y b e l
 | [],_,_,h,_=>h
 | (a,o,m)::l,b,e,⟨h1,h2,h3,h4⟩,hj=>by
   have:=gB.le h4;obtain⟨_,q2,q3,_⟩:=Ob.bF h2;subst h1;refine⟨rfl,h2,?_,gB.congr hl h4 (λj k1 k2=>hj j (by omega) k2)⟩
   cases m with
   | none=>exact At.of_eq h3 (by rw[hl];exact h3.room) (λi hi=>hj _ (by omega) (by omega))
   | some t=>exact mP.congr h3 hl (hj _ (by omega) (by omega))
theorem gB.go{X Y:aj}(hl:Y.length=X.length){t:Nat} : ∀ {l:List (Nat × Ob × Option Nat)} {b e:Nat} {i:Nat},gB X b e l->i<l.length->mP Y (l.getD i oo).1 t ->
 (∀j,b<=j->j<e->j≠(l.getD i oo).1->Y.getD j 0=X.getD j 0)->gB Y b e (l.set i ((l.getD i oo).1,(l.getD i oo).2.1,some t))
 | (a,o,m)::l,b,e,0,⟨h1,h2,h3,h4⟩,_,hg,hj=>by
   subst h1;obtain⟨_,q2,q3,_⟩:=Ob.bF h2;have hh:∀j,a+o.took<=j->j<e->Y.getD j 0=X.getD j 0:=λj k1 k2=>hj j (by omega) k2 (λ(e:j=a)=>by omega);exact⟨rfl,h2,hg,gB.congr hl h4 hh⟩
 | (a,o,m)::l,b,e,i+1,⟨h1,h2,h3,h4⟩,hi,hg,hj=>by
   subst h1;obtain⟨_,q2,q3,_⟩:=Ob.bF h2;have nK:i<l.length:=by simpa using hi
   have hb:=(gB.at h4 i nK).1;have hle:=gB.le h4;have hne:∀j,j<a+o.took->j≠(l.getD i oo).1:=λj h=>by omega
   refine⟨rfl,h2,?_,gB.go hl h4 nK hg (λj k1 k2 k3=>hj j (by omega) k2 k3)⟩
   cases m with
   | none=>exact At.of_eq h3 (by rw[hl];exact h3.room) (λk hk=>hj _ (by omega) (by omega) (hne _ (by omega)))
   | some t'=>exact mP.congr h3 hl (hj _ (by omega) (by omega) (hne _ (by omega)))
structure tV(Rel:Ob->Ob->Prop)(X:aj)(bo eo:Nat)(aV:List (Nat × Ob × Option Nat))(bn en:Nat)(cur:List (Nat × Ob)):Prop where
 ol:gB X bo eo aV
 cl:Laid X bn en cur
 gone:∀i,i<aV.length->∀t,(aV.getD i oo).2.2=some t->∃j,j<cur.length/\cO bn cur j=t/\Rel (aV.getD i oo).2.1 (cur.getD j (0,Ob.new 0 0 false false 0)).2
 inj:∀i j t,i<aV.length->j<aV.length->(aV.getD i oo).2.2=some t->(aV.getD j oo).2.2=some t->i=j
theorem fH{α:Type}(l:List α)(x d:α){i:Nat}(h:i<l.length):(l++[x]).getD i d=l.getD i d:=by simp[List.getD,List.getElem?_append,h]
theorem jS{α:Type}(l:List α)(x d:α):(l++[x]).getD l.length d=x:=by simp[List.getD]
theorem jI(b:Nat)(l:List (Nat × Ob))(x:Nat × Ob):∀ {i:Nat},i<=l.length->cO b (l++[x]) i=cO b l i
 | 0,_=>rfl
 | i+1,h=>by
   show cO b (l++[x]) i+_=cO b l i+_;rw[jI b l x (by omega),fH l x _ (by omega)]
theorem tV.go{Rel:Ob->Ob->Prop}(hrel:∀o,Rel o o){X:aj}{bo eo:Nat}{aV:List (Nat × Ob × Option Nat)}{bn en:Nat}{cur:List (Nat × Ob)}(h:tV Rel X bo eo aV bn en cur){i:Nat}(hi:i<aV.length){a:Nat}{o:Ob}(hg:aV.getD i oo=(a,o,none))
 {lim:Nat} (acR:en+o.took<=lim) (hX:lim<=X.length) (cT:eo<=bn\/lim<=bo) (h1:1<=en) (h2:en<=131072) :
 tV Rel (Hk X a en o.size) bo eo (aV.set i (a,o,some en)) bn (en+o.took) (cur++[(en,o)])/\At X a o:=by
 have iW:=gB.at h.ol i hi;rw[hg] at iW;obtain⟨k1,k2,k3,k4⟩:=iW;have k1:bo<=a:=k1;have k2:a+o.took<=eo:=k2;have k3:o.Ok:=k3;have k4:At X a o:=k4;have lD:=Aw.end h.cl.lie;have N4:bn<=en:=by rw[<-lD];exact pT _ _ _
 obtain⟨_,q2,q3,_⟩:=Ob.bF k3;have hr:en+o.size<=X.length:=by omega
 have hd:a+o.size<=en\/en+o.size<=a:=by omega
 have Ut:=k4.lt;have hlen:=lX (xs:=X) (a:=a) hr;have hA:=Ty k4 hr hd;have hG:=Kb k4 hr h1 h2;have hw:=pW (a:=a) hr Ut;generalize Hk X a en o.size=Y at *;refine⟨⟨?_,?_,?_,?_⟩,k4⟩
 ·have:=gB.go (Y:=Y) hlen (t:=en) h.ol hi (by rw[hg];exact hG) (λj j1 j2 j3=>by
   rw[hg] at j3;have j3:j≠a:=j3
   rw[hw,if_neg j3,if_neg (by omega)])
  rw[hg] at this;exact this
 ·refine Laid.snoc (Laid.congr hlen h.cl (λj j1 j2=>?_)) hA;rw[hw,if_neg (by omega),if_neg (by omega)]
 ·intro j hj t ht;rw[bN] at hj
  by_cases e:j=i
  ·subst e;have this:(aV.set j (a,o,some en)).getD j oo=(a,o,some en):=by simp[List.getD,hj]
   rw[this] at ht;have ht:some en=some t:=ht;injection ht with ht
   subst ht;exact⟨cur.length,by simp,by rw[jI _ _ _ (aD _)];exact lD,by rw[jS,this];exact hrel o⟩
  ·have:(aV.set i (a,o,some en)).getD j oo=aV.getD j oo:=by simp[List.getD,List.getElem?_set_ne (Ne.symm e)]
   rw[this] at ht ⊢;obtain⟨k,k5,k6,k7⟩:=h.gone j hj t ht;exact⟨k,by simp;omega,by rw[jI _ _ _ (by omega)];exact k6,by rw[fH _ _ _ k5];exact k7⟩
 ·have ZQ:∀j,j<aV.length->(aV.getD j oo).2.2≠some en:=λj hj e=>by
   obtain⟨k,k5,k6,_⟩:=h.gone j hj en e;obtain⟨_,k8,_,k9⟩:=Aw.at h.cl.lie k k5;obtain⟨_,_,k10,_⟩:=Ob.bF k8;have:cO bn cur k+(cur.getD k (0,Ob.new 0 0 false false 0)).2.took<=en:=k9;omega
  have mF:∀j,j<aV.length->j≠i->(aV.set i (a,o,some en)).getD j oo=aV.getD j oo:=λj hj e=>by simp[List.getD,List.getElem?_set_ne (Ne.symm e)]
  have Ss:(aV.set i (a,o,some en)).getD i oo=(a,o,some en):=by simp[List.getD,hi]
  intro j k t hj hk h3 h4;rw[bN] at hj hk
  by_cases e1:j=i
  ·by_cases e2:k=i
   ·rw[e1,e2]
   ·rw[e1,Ss] at h3;rw[mF k hk e2] at h4;have h3:some en=some t:=h3;injection h3 with h3;subst h3
    exact absurd h4 (ZQ k hk)
  ·rw[mF j hj e1] at h3
   by_cases e2:k=i
   ·rw[e2,Ss] at h4;have h4:some en=some t:=h4;injection h4 with h4;subst h4
    exact absurd h3 (ZQ j hj)
   ·rw[mF k hk e2] at h4;exact h.inj j k t hj hk h3 h4
def eQ:List (Nat × Ob × Option Nat)->Nat
 | []=>0
 | (_,o,none)::l=>o.took+eQ l
 | (_,_,some _)::l=>eQ l
theorem Gt{t:Nat} : ∀ {l:List (Nat × Ob × Option Nat)} {i:Nat} {a:Nat} {o:Ob},i<l.length->l.getD i oo=(a,o,none)->eQ (l.set i (a,o,some t))+o.took=eQ l
 | (a',o',m)::l,0,a,o,_,h=>by
   have h:(a',o',m)=(a,o,none):=h;injection h with h1 h2;injection h2 with h2 h3;subst h1;subst h2;subst h3
   show eQ l+o'.took=o'.took+eQ l;omega
 | (a',o',m)::l,i+1,a,o,hi,h=>by
   have ih:=Gt (t:=t) (l:=l) (i:=i) (a:=a) (o:=o) (by simpa using hi) h
   cases m with
   | none=>show o'.took+eQ (l.set i (a,o,some t))+o.took=o'.took+eQ l;omega
   | some t'=>exact ih
theorem tV.start{Rel:Ob->Ob->Prop}{X:aj}{b e bn:Nat}{l:List (Nat × Ob)}(h:Laid X b e l):tV Rel X b e (l.map λx=>(x.1,x.2,none)) bn bn []:=by
 have hn:∀i,i<(l.map λx:Nat × Ob=>(x.1,x.2,(none:Option Nat))).length->((l.map λx:Nat × Ob=>(x.1,x.2,(none:Option Nat))).getD i oo).2.2=none:=λi hi=>by
  have:i<l.length:=by simpa using hi
  simp[List.getD,this]
 exact⟨gB.Gr h,rfl,(λi hi t ht=>by rw[hn i hi] at ht;cases ht),(λi j t hi hj h1 h2=>by rw[hn i hi] at h1;cases h1)⟩
abbrev o0:Nat × Ob:=(0,Ob.new 0 0 false false 0)
theorem Laid.cV{X X':aj}{o':Ob}(hl:X'.length=X.length):∀ {ls:List (Nat × Ob)} {b e i:Nat},Laid X b e ls->i<ls.length->At X' (cO b ls i) o'->o'.took=(ls.getD i o0).2.took ->
 (∀j,j<cO b ls i\/cO b ls i+o'.took<=j->X'.getD j 0=X.getD j 0)->Laid X' b e (ls.set i (cO b ls i,o'))
 | (a,o)::ls,b,e,0,⟨h1,h2,h3⟩,_,ha,ht,hj=>by
   have ht:o'.took=o.took:=ht;show Laid X' b e ((b,o')::ls);refine⟨rfl,ha,?_⟩;rw[ht];exact Laid.congr hl h3 (λj k1 k2=>hj j (.inr (by show b+o'.took<=j;omega)))
 | (a,o)::ls,b,e,i+1,⟨h1,h2,h3⟩,hi,ha,ht,hj=>by
   rw[jH] at ha hj ⊢;have hb:b+o.took<=cO (b+o.took) ls i:=pT _ _ _;have hr:=h2.room;obtain⟨_,q2,_,_⟩:=Ob.bF h2.ok;refine⟨h1,h2.of_eq (by rw[hl];exact hr) (λk hk=>hj _ (.inl (by simp only at hb ⊢;omega))),?_⟩;exact Laid.cV hl h3 (by simpa using hi) ha ht hj
theorem dQ{α:Type}(l:List α){i:Nat}(x d:α)(h:i<l.length):(l.set i x).getD i d=x:=by simp[List.getD,h]
theorem getD_set_ne{α:Type}(l:List α){i j:Nat}(x d:α)(h:i≠j):(l.set i x).getD j d=l.getD j d:=by simp[List.getD,List.getElem?_set_ne h]
section
open Go.RowKit Go.Maps
end
section
open Go.RowKit Go.Maps
end
section
def ay(v:aA)(b:Nat):Prop:=v.ownBlock=some b
def Ot(a b:aA):Prop:=∀k,ay a k->¬ay b k
theorem ay.nil(b:Nat):¬ay (.slice none 0 0) b:=by simp[ay,Value.ownBlock]
theorem ay.mk{g n c b:Nat} : ay (.slice (some ⟨g,0,none⟩) n c) b↔b=g:=by simp[ay,Value.ownBlock,eq_comm]
theorem ay.fJ{g n c b:Nat}(h:ay (.slice (some ⟨g,0,none⟩) n c) b):b=g:=ay.mk.1 h
theorem aI.lt{w:ag}{base:Nat}{v:aA}{l:List Int}(h:aI w base v l){b:Nat}(hb:ay v b):base<=b/\b<w.heap.size:=World.ownsRow.lt h b hb
theorem aI.dw{S:Nat->Prop}{w w':ag}{base:Nat}{v:aA}{l:List Int}(h:aI w base v l)(f:Fr S w w')(hs:∀b,ay v b->¬S b):aI w' base v l:=by
 refine⟨h.1,?_⟩;rcases h.2 with hn|⟨g,cap,cur,hv,hb,ZD,rest⟩
 ·exact .inl hn
 ·exact .inr ⟨g,cap,cur,hv,hb,f.gT ZD (hs _ (by rw[hv];rfl)),rest⟩
theorem aI.base{w:ag}{base Be:Nat}{v:aA}{l:List Int}(h:aI w base v l)(hb:∀b,ay v b->Be<=b):aI w Be v l:=by
 refine⟨h.1,?_⟩;rcases h.2 with hn|⟨g,cap,cur,hv,F0,rest⟩
 ·exact .inl hn
 ·exact .inr ⟨g,cap,cur,hv,hb _ (by rw[hv];rfl),rest⟩
theorem aI.get{w:ag}{base:Nat}{v:aA}{l:List Int}(h:aI w base v l){k:Nat}(hk:k<l.length):∃g c,v=.slice (some ⟨g,0,none⟩) l.length c/\base<=g/\Own w g k (vI (l.getD k 0)):=by
 obtain⟨hl,⟨_,h0⟩|⟨g,cap,cur,rfl,hb,hg,hn,Du,kv,hx⟩⟩:=h
 ·omega
 ·refine⟨g,cap,rfl,hb,?_,?_⟩
  ·have h2:cur.toList[k]?=(lj l)[k]?:=by rw[<-hx,List.getElem?_take];simp;omega
   have:w.cell? ⟨g,k,none⟩=cur[k]?:=by simp[World.cell?,hg]
   rw[this,<-Array.getElem?_toList,h2];simp[hk]
  ·simp[World.frozen?,hg]
theorem aI.set{w:ag}{base:Nat}{l:List Int}{g n c:Nat}(h:aI w base (.slice (some ⟨g,0,none⟩) n c) l){k:Nat}(hk:k<l.length)(y:Int):aI (w.setCell ⟨g,k,none⟩ (vI y)) base (.slice (some ⟨g,0,none⟩) n c) (l.set k y):=by
 obtain⟨hl,⟨h1,h0⟩|⟨g',cap,cur,hv,hb,hg,hn,Du,kv,hx⟩⟩:=h
 ·cases h1
 ·cases hv;refine⟨by simp,.inr ⟨g,c,cur.set! k (vI y),by simp,hb,?_,by simpa using hn,Du,by simpa using kv,?_⟩⟩
  ·have aM:g<w.heap.size:=(sY.1 hg).1;rw[heap_setCell_same _ _ _ _ _ _ hg];simp
  ·have hc:k<cur.size:=by rw[kv];omega
   simp only[Array.set!_eq_setIfInBounds,Array.toList_setIfInBounds,bN,lj,List.map_set];have yg:=hx;simp only[lj] at yg;rw[List.take_set,yg]
theorem Own.calm{w w':ag}{b i:Nat}{v:aA}(h:Own w b i v)(f:Calm w w'):Own w' b i v:=h.fr f id
theorem zo{w w':ag}{v:aA}{o:Obj}(hg:(w.alloc o).grownBy w' v.ownBlock):Fr (ay v) w w':=
 Fr.grown (Fr.alloc ah _) hg (λk hk=>.inl hk)
theorem cU{ops:Array Oper}{rest:List Oper}{o:Oper}{a:Act}{Q:Exit->Act->ag->Prop}{w:ag}(pH:o.guard=none)(s x:Operand)
 (ho:o.op=.call { callee:=.builtin .append,args:=#[s,x],argTypes:=#[43,43] })
 (base:Nat) (v:aA) (l:List Int) (bS:aI w base v l) (hs:a.eval s=v) (y:Int) (hx:a.eval x=.slice (some ⟨w.heap.size,0,none⟩) 1 1) (hl:l.length<=1000000) (oz:base<=w.heap.size)
 (h:∀g c w',aI w' base (.slice (some ⟨g,0,none⟩) (l.length+1) c) (l++[y])->Fr (ay v) w w'->(ay v g\/w.heap.size<=g)->wpList prog ops Q rest (a.put o.dst (.slice (some ⟨g,0,none⟩) (l.length+1) c)) w') :
 wpList prog ops Q (o::rest) a (w.alloc (.cells #[vI y] 3)):=by
 obtain⟨i0,hi,iR,iT,jm⟩:=info_parts jV;refine wpList_append_own_at _ pH s x 43 ho base 3 i0 (vI 0) 1 8 Tryz.underlying43 hi iR iT jm rfl (by decide) v l.length (lj l) hs (World.ownsRow.alloc bS _) ⟨w.heap.size,0,none⟩ 1 1 [vI y] hx rfl (cell_one_new _ _ _) (by simp[Value.oneCell']) (by unfold maxLen;omega) (by omega) (by simp;omega) ?_;intro v' w' fO eK _ jr;obtain⟨g,c,rfl⟩:=ownsRow_succ fO;refine h g c w' ?_ (zo eK) ?_
 ·show World.ownsRow _ _ _ _ _ _ _;rw[b_,lj,List.map_append];exact fO
 ·rcases jr with jr|jr
  ·exact .inl (jr.symm.trans rfl)
  ·right;simp[Value.ownBlock] at jr;omega
theorem jG{ops:Array Oper}{rest:List Oper}{o:Oper}{a:Act}{Q:Exit->Act->ag->Prop}{w:ag}(pH:o.guard=none)(s x:Operand)
 (ho:o.op=.call { callee:=.builtin .append,args:=#[s,x],argTypes:=#[43,43] })
 (base:Nat) (v:aA) (l:List Int) (bS:aI w base v l) (hs:a.eval s=v) (y:Int) (nb:Nat) (hx:a.eval x=.slice (some ⟨nb,0,none⟩) 1 1) (Z2:nb=w.heap.size) (hl:l.length<=1000000) (oz:base<=w.heap.size)
 (h:∀g c w',aI w' base (.slice (some ⟨g,0,none⟩) (l.length+1) c) (l++[y])->Fr (ay v) w w'->(ay v g\/w.heap.size<=g)->wpList prog ops Q rest (a.put o.dst (.slice (some ⟨g,0,none⟩) (l.length+1) c)) w') :
 wpList prog ops Q (o::rest) a (w.alloc (.cells #[vI y] 3)):=by
 subst Z2;exact cU pH s x ho base v l bS hs y hx hl oz h
end
section
theorem qy{w:ag}{base:Nat}{v:aA}{l:List Int}(bS:aI w base v l)(ty:TypeId)(c:Nat):(Builtin.append_ #[43,43] ty #[v,.slice none 0 c]).run prog w=.ok v w:=by
 obtain⟨i0,hi,iR,iT,jm⟩:=info_parts jV;rcases bS.2 with ⟨rfl,_⟩|⟨g,cap,cur,rfl,_,_,hn,_⟩
 ·simp[Builtin.append_,run_underlying Tryz.underlying43,sizeOf,typeInfo,hi,Builtin.lenOf,Builtin.firstCells]
 ·simp[Builtin.append_,run_underlying Tryz.underlying43,sizeOf,typeInfo,hi,Builtin.lenOf,Builtin.firstCells,hn,storeCells]
theorem nD{ops:Array Oper}{rest:List Oper}{o:Oper}{a:Act}{Q:Exit->Act->ag->Prop}{w:ag}(pH:o.guard=none)(s x:Operand)
 (ho:o.op=.call { callee:=.builtin .append,args:=#[s,x],argTypes:=#[43,43] })
 (base:Nat) (v:aA) (l:List Int) (bS:aI w base v l) (hs:a.eval s=v) (u:aA) (r:List Int) (hr:Row w u (lj r)) (hx:a.eval x=u) (hl:l.length+r.length<=1000000) (oz:base<=w.heap.size)
 (h:∀v' w',aI w' base v' (l++r)->Fr (ay v) w w'->(∀b,ay v' b->ay v b\/w.heap.size<=b)->wpList prog ops Q rest (a.put o.dst v') w') :
 wpList prog ops Q (o::rest) a w:=by
 obtain⟨A,c,rfl,hA⟩:=hr;have hlen:(lj r).length=r.length:=by simp
 rw[hlen] at hx;rcases A with _|ad
 ·obtain rfl:r=[]:=by
   rcases hA with hA|⟨b,off,hb,_⟩
   ·simpa using hA
   ·cases hb
  refine wpList_plain pH λK hK=>?_;have mE:=qy bS o.type c;unfold Oper.wp execOp;simp only[ho,resolve,invoke,builtin,Sem.run_bind,Sem.run_pure,Result.andThen_ok,List.map_toArray,List.map_cons,List.map_nil,hs,hx,List.length_nil,mE];exact hK _ _ (h v w (by simpa using bS) ah (λb hb=>.inl hb))
 ·obtain⟨i0,hi,iR,iT,jm⟩:=info_parts jV;refine wpList_append_own_at _ pH s x 43 ho base 3 i0 (vI 0) 1 8 Tryz.underlying43 hi iR iT jm rfl (by decide) v l.length (lj l) hs bS ad r.length c (lj r) hx (by simp) ?_ (by simp[Value.oneCell']) (by unfold maxLen;omega) (by omega) oz ?_
  ·intro j y hj;have wQ:j<(lj r).length:=(List.getElem?_eq_some_iff.1 hj).1;rcases hA with hA|⟨b,off,hb,hc⟩
   ·rw[hA] at wQ;simp at wQ
   ·cases hb;rw[dM,hc j wQ];rw[lQ wQ] at hj;exact hj
  ·intro v' w' fO eK _ jr;refine h v' w' ?_ (Fr.grown ah eK (λk hk=>.inl hk)) ?_
   ·show World.ownsRow _ _ _ _ _ _ _;rw[b_,lj,List.map_append];exact fO
   ·intro b hb;rcases jr with jr|jr
    ·exact .inl (jr.symm.trans hb)
    ·right;have:some w.heap.size=some b:=jr.symm.trans hb;injection this with this;omega
end
section
open Go.RowKit Go.Shelf Go.Maps
end
section
open Go.RowKit Go.Shelf Go.Maps
theorem Row.loop{w:ag}{v:aA}{l:List Int}(h:Row w v (lj l)):∃a c,v=.slice a l.length c/\∀k,k<l.length->∃b off,a=some ⟨b,off,none⟩/\b<w.heap.size/\w.cell? ⟨b,off+k,none⟩=some (vI (l.getD k 0)):=by
 obtain⟨a,cap,hv,h⟩:=h;refine⟨a,cap,by simpa using hv,λk hk=>?_⟩;rcases h with h|⟨b,off,ha,hc⟩
 ·simp at h;subst h;simp at hk
 ·have:=hc k (by simpa using hk);refine⟨b,off,ha,nt w _ this,?_⟩;rw[this];simp[List.getD,hk]
end
