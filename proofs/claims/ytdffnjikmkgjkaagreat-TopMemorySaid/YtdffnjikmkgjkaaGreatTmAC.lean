/- TopMemory: a part of its proof (Space Mover Lay Come). -/
import Derived.WalkKit
import Derived.Test.YtdffnjikmkgjkaaGreatRows
import Derived.Laws.CopyOwn
import Derived.OwnWalk
import Derived.OwnWalkIn
import Derived.LoopN
import Derived.Deep.CutBlock
import Derived.Maps.OwnSet
import Derived.Maps.AppendAt
import Derived.Maps.OwnIn
import Derived.Test.YtdffnjikmkgjkaaGreatTmAA
import Derived.Test.YtdffnjikmkgjkaaGreatTmAB
set_option linter.unusedSimpArgs false
set_option linter.unusedVariables false
set_option maxHeartbeats 2000000
namespace Go.Proofs.YtdffnjikmkgjkaaGreat
section
def sz:Nat→Int
  | 0=>4
  | 1=>6
  | k+2=>2*sz k
theorem sz_step (k:Nat):sz (k+2)=2*sz k:=rfl
theorem sz_lt (k:Nat):sz k<sz (k+1)∧sz (k+1)<2*sz k∧4≤sz k:=by
  induction k using Nat.strongRecOn with
  | ind k ih=>
    match k with
    | 0=>decide
    | 1=>decide
    | k+2=>
      have h:=ih k (by omega);have h2:=ih (k+1) (by omega);rw[sz_step k,show sz (k+2+1)=2*sz (k+1) from rfl];omega
theorem sz_mono {a b:Nat}(h:a≤b):sz a≤sz b:=by
  induction b with
  | zero=> obtain rfl:a=0:=by omega
           exact Int.le_refl _
  | succ b ih=>
    by_cases e:a=b+1
    · rw[e];exact Int.le_refl _
    · have:=ih (by omega);have:=sz_lt b;omega
theorem sz_28:sz 28=65536:=by decide
theorem sz_30:sz 30=131072:=by decide
theorem sz_le (k:Nat)(h:k≤30):4≤sz k∧sz k≤131072:=by
  have:=sz_mono h;rw[sz_30] at this;have:=sz_lt k;omega
def clsFrom (n:Int):Nat→Nat→Nat
  | 0,k=>k
  | f+1,k=>if n≤sz k then k else clsFrom n f (k+1)
def cls (n:Int):Nat:=clsFrom n 28 0
theorem clsFrom_spec (n:Int):∀ (f k:Nat),n≤sz (k+f)→k≤clsFrom n f k∧clsFrom n f k≤k+f∧n≤sz (clsFrom n f k)∧∀j,k≤j→j<clsFrom n f k→sz j<n:=by
  intro f
  induction f with
  | zero=>intro k h;exact⟨Nat.le_refl _,Nat.le_refl _,h,fun j h1 h2=>by simp[clsFrom] at h2;omega⟩
  | succ f ih=>
    intro k h;unfold clsFrom;split
    · rename_i hk;exact⟨Nat.le_refl _,by omega,hk,fun j h1 h2=>by omega⟩
    · rename_i hk;obtain⟨h1,h2,h3,h4⟩:=ih (k+1) (by rw[show k+1+f=k+(f+1) from by omega];exact h);refine⟨by omega,by omega,h3,fun j hj1 hj2=>?_⟩
      by_cases e:j=k
      · subst e;omega
      · exact h4 j (by omega) hj2
theorem cls_spec {n:Int}(h:n≤65536):cls n≤28∧n≤sz (cls n)∧∀j,j<cls n→sz j<n:=by
  obtain⟨_,h2,h3,h4⟩:=clsFrom_spec n 28 0 (by rw[Nat.zero_add,sz_28];exact h);exact⟨by rw[Nat.zero_add] at h2;exact h2,h3,fun j hj=>h4 j (Nat.zero_le _) hj⟩
def rnd (n:Int):Int:=sz (cls n)
theorem rnd_spec {n:Int}(h:n≤65536):n≤rnd n∧4≤rnd n∧rnd n≤65536:=by
  obtain⟨a,b,_⟩:=cls_spec h;have:=sz_mono a;rw[sz_28] at this;exact⟨b,(sz_le _ (by omega)).1,this⟩
theorem cls_mono {a b:Int}(h:a≤b)(hb:b≤65536):cls a≤cls b:=by
  obtain⟨_,_,a3⟩:=cls_spec (show a≤65536 by omega);obtain⟨_,b2,_⟩:=cls_spec hb;rcases Nat.lt_or_ge (cls b) (cls a) with hlt|hge
  · have:=a3 _ hlt;omega
  · exact hge
theorem rnd_mono {a b:Int}(h:a≤b)(hb:b≤65536):rnd a≤rnd b:=sz_mono (cls_mono h hb)
end
section
open Go.RowKit Go.Shelf
attribute [local go_sem] Oper.semAt_some
theorem sizes1_seq (n:Nat)(hn:1≤n)(N:Nat)(hN30:N≤29)(keep:Nat→Prop)(w0:World) :
    SeqAt Fence.wide n Tryz.prog 92 #[] (fun k=>#[vI (k:Nat),vI (sz k)]) N false keep w0:=fun l J Jx W _ _ hJ hJx hN hY h0=>by
  refine callsIn_of_wp Tryz.func92 rfl trivial ?_ rfl;simp only[Tryz.ntmps92,List.size_toArray,List.length_cons,List.length_nil,Nat.reduceAdd,Nat.reduceSub,Array.replicate_succ,Array.replicate_zero,List.push_toArray,List.append_toArray,List.nil_append,List.cons_append,Array.append_empty];have HN:Hid (∀W,¬J N W):=hN rfl;clear hN
  gi_wp2
  gi_loopw [2,3,4] (fun s x p wr=>∃k:Nat,k≤N∧p=vI k∧s=vI (sz k)∧x=vI (sz (k+1))∧J k wr) (fun _ _ p _=>N-(intOf p).toNat)
  case atStart=>exact⟨0,Nat.zero_le _,rfl,rfl,rfl,h0⟩
  case round=>
    obtain⟨k,hk,rfl,rfl,rfl,hj⟩:=hrel
    have hlt:k<N:=by
      rcases Nat.lt_or_ge k N with h|h
      · exact h
      · obtain rfl:k=N:=by omega
        exact(HN.out _ hj).elim
    obtain⟨fn,tmps,assign,body,hy,hR⟩:=hY k wr hlt hj;have hb:=sz_le k (by omega);have hb1:=sz_le (k+1) (by omega);have hs:Hid (sz (k+1+1)=2*sz k):=sz_step k
    gi_wp2
    refine hR.mono ?_;rintro e W1 (⟨rfl,hJ1,hk1⟩|⟨rfl,hx1⟩)
    · gi_wp2
      go_roundw
      case rel=>exact⟨k+1,by omega,by go_num,rfl,by rw[hs.out],hJ1⟩
      case measure=>simp[intOf];omega
    · gi_wp2
      go_end0
      exact⟨⟨_,rfl⟩,.inr hx1⟩
theorem sizes_in (F:Fence)(n:Nat)(w:World)(hF:F.fn 58)(hro:F.round=none) :
    CallsIn F n Tryz.prog 58 #[] w fun e w'=>e = .returned (.func (.func 92) #[] #[])∧w=w':=by
  refine callsIn_of_wp Tryz.func58 rfl hF ?_ hro;simp only[Tryz.ntmps58,List.size_toArray,List.length_cons,List.length_nil,Nat.reduceAdd,Nat.reduceSub,Array.replicate_succ,Array.replicate_zero,List.push_toArray,List.append_toArray,List.nil_append,List.cons_append]
  gi_wp2
  go_ret;exact⟨rfl,rfl⟩
def LeastI1 (n:Int)(w:World)(k:Nat)(a:Act)(W:World):Prop:=
  Own W w.heap.size 0 (vI n)∧Own W (w.heap.size+1) 0 (vI (k:Nat))∧Own W (w.heap.size+2) 0 (vI (sz k))∧Calm w W∧k≤cls n ∧
  a = { tmps:=#[Value.int IntKind.i64 n,Value.pointer (some { block:=w.heap.size,off:=0 }),Value.pointer (some { block:=w.heap.size+1,off:=0 }),Value.pointer (some { block:=w.heap.size+1+1,off:=0 }),Value.bool false,Value.int IntKind.i64 n,Value.bool (decide (n<1)),Value.bool (decide (n<1)),Value.int IntKind.i64 n,Value.bool (decide (65536<n)),Value.bool (decide (n<1) || decide (65536<n)),Value.func (Fn.func 92) #[] #[],vI (k:Nat),vI (sz k),undef,undef,undef,undef,undef],defers:=[] }
theorem least_yes (n:Int)(h1:1≤n)(h2:n≤65536)(w:World) :
    Calls Tryz.prog 28 #[vI n] w fun e w'=>e = .returned (.tuple #[vI (cls n:Nat),vI (rnd n),.bool true])∧Calm w w':=by
  refine(callsIn_wide (n:=9)).1 ?_;refine callsIn_of_wp_marks Tryz.func28 rfl trivial ?_ rfl;simp only[Tryz.ntmps28,List.size_toArray,List.length_cons,List.length_nil,Nat.reduceAdd,Nat.reduceSub,Array.replicate_succ,Array.replicate_zero,List.push_toArray,List.append_toArray,List.nil_append,List.cons_append]
  gi_wp2_with (refine⟨trivial,?_⟩;gi_at_call 58;refine(sizes_in _ _ _ trivial rfl).mono ?_;rintro e w' ⟨rfl,rfl⟩)
  obtain⟨c28,csz,clt⟩:=cls_spec h2;obtain⟨W0,hW0⟩:∃W0,(((w.alloc (Obj.cells #[Value.int IntKind.i64 n] 3)).alloc (Obj.cells #[Value.int IntKind.i64 0] 3)).alloc (Obj.cells #[Value.int IntKind.i64 0] 3))=W0:=⟨_,rfl⟩;have i1:Own W0 w.heap.size 0 (vI n):=by rw[←hW0];exact(((Own.new w _ _ 0 rfl).alloc _).alloc _)
  have i2:Own W0 (w.heap.size+1) 0 (vI 0):=by rw[←hW0];exact(Own.at (w.alloc _) _ _ _ 0 (by simp) rfl).alloc _
  have i3:Own W0 (w.heap.size+2) 0 (vI 0):=by rw[←hW0];exact Own.at ((w.alloc _).alloc _) _ _ _ 0 (by simp) rfl
  have i4:W0.heap.size=w.heap.size+3:=by rw[←hW0];simp
  have i5:Calm w W0:=by rw[←hW0];exact(((Fr.refl _ w).alloc _).alloc _).alloc _
  rw[hW0]
  refine wpIn_rangeAt (g:=.tmp 11) rfl (by decide) (gf:=92) (lb:=#[]) rfl trivial (enters_of Tryz.func92 (by kernel_rfl) rfl)
    (sizes1_seq 8 (by decide) 29 (by decide) (fun _=>False) W0) (Keeps.refl _ _) (fun _ h=>h.elim) (fun _=>rfl)
    (fun k W=>Own W w.heap.size 0 (vI n)∧(∃v,Own W (w.heap.size+1) 0 v)∧(∃v,Own W (w.heap.size+2) 0 v)∧Calm w W∧k≤cls n)
    (LeastI1 n w)
    (fun c W=>c = .exit 0∧Own W (w.heap.size+1) 0 (vI (cls n:Nat))∧Own W (w.heap.size+2) 0 (vI (sz (cls n)))∧Calm w W)
    ?hI ?hI1 ?hIx ?hN ?h0 ?assign ?body ?done ?stop
  case hI=>
    rintro k A B ⟨a1,⟨v2,a2⟩,⟨v3,a3⟩,a4,a5⟩ hl;exact⟨a1.fr hl (by simp;omega),⟨v2,a2.fr hl (by simp;omega)⟩,⟨v3,a3.fr hl (by simp;omega)⟩,a4.join hl (by simp;omega),a5⟩
  case hI1=>
    rintro k a' A B ⟨a1,a2,a3,a4,a5⟩ hl;exact⟨a1.fr hl (by simp;omega),a2.fr hl (by simp;omega),a3.fr hl (by simp;omega),a4.join hl (by simp;omega),a5⟩
  case hIx=>
    rintro c A B ⟨a1,a2,a3,a4⟩ hl;exact⟨a1,a2.fr hl (by simp;omega),a3.fr hl (by simp;omega),a4.join hl (by simp;omega)⟩
  case hN=>
    rintro _ W ⟨_,_,_,_,h⟩;omega
  case h0=>exact⟨i1,⟨_,i2⟩,⟨_,i3⟩,i5,Nat.zero_le _⟩
  case assign=>
    rintro l k W hk ⟨a1,⟨v2,a2⟩,⟨v3,a3⟩,a4,a5⟩ hs;have b1:=a2.1;have b2:=a2.2;have b3:=a3.1;have b4:=a3.2
    gi_wp2
    have hc:Calm w ((W.setCell ⟨w.heap.size+1,0,none⟩ (vI (k:Nat))).setCell ⟨w.heap.size+1+1,0,none⟩ (vI (sz k))):=(a4.setCell (.inr (by simp)) _).setCell (.inr (by simp;omega)) _
    exact⟨Keeps.of_fr (S:=fun b=>b=w.heap.size+1∨b=w.heap.size+2) (((Fr.refl _ _).setCell (.inl (.inl rfl)) _).setCell (.inl (.inr rfl)) _) (by simp;omega),
      (a1.far _ _ (by simp)).far _ _ (by simp;omega),(a2.set _).far _ _ (by simp),(a3.far _ _ (by simp)).set _,hc,a5,rfl⟩
  case body=>
    rintro l k a W hk ⟨a1,a2,a3,a4,a5,rfl⟩ hs;have b1:=a1.1;have b3:=a3.1
    gi_wp2
    · rename_i hge;refine⟨Keeps.refl _ _,rfl,?_,?_,a4⟩
      · have:k=cls n:=by
          rcases Nat.lt_or_ge k (cls n) with h|h
          · have:=clt _ h;omega
          · omega
        rw[←this];exact a2
      · have:k=cls n:=by
          rcases Nat.lt_or_ge k (cls n) with h|h
          · have:=clt _ h;omega
          · omega
        rw[←this];exact a3
    · rename_i hlt;refine⟨Keeps.refl _ _,a1,⟨_,a2⟩,⟨_,a3⟩,a4,?_⟩;rcases Nat.lt_or_ge k (cls n) with h|h
      · exact h
      · obtain rfl:k=cls n:=by omega
        omega
  case done=>
    rintro W hf;cases hf
  case stop=>
    rintro c W ⟨rfl,a2,a3,a4⟩ hD;have b1:=a2.1;have b2:=a2.2;have b3:=a3.1;have b4:=a3.2
    gi_wp2
    gi_region
    all_goals gi_wp2
    obtain⟨V,hV⟩:∃V,((W.setCell ⟨w.heap.size+1,0,none⟩ (vI (cls n:Nat))).setCell ⟨w.heap.size+1+1,0,none⟩ (vI (sz (cls n)))).drew=V:=⟨_,rfl⟩;rw[hV];have v2:Own V (w.heap.size+1) 0 (vI (cls n:Nat)):=by rw[←hV];exact((a2.set _).far _ _ (by simp)).drew
    have v3:Own V (w.heap.size+1+1) 0 (vI (rnd n)):=by rw[←hV];exact((a3.far _ _ (by simp)).set _).drew
    have v4:Calm w V:=by rw[←hV];exact((a4.setCell (.inr (by simp)) _).setCell (.inr (by simp;omega)) _).drew
    have v5:V.heap[W0.heap.size]?=some (.deferred (some [])):=by
      rw[←hV];exact(((Fr.refl (fun b=>b=w.heap.size+1∨b=w.heap.size+2) W).setCell (.inl (.inl rfl)) _).setCell (.inl (.inr rfl)) _).drew.heapAt hD (by simp;omega)
    clear hV hW0;refine⟨by simp,.inl ⟨_,_,rfl,run_takeDeferred v5,?_⟩⟩;have hp:Fr (fun b=>b=W0.heap.size) V (V.putObj W0.heap.size (.deferred none)):=(Fr.refl (fun b=>b=W0.heap.size) V).putObj (.inl rfl) _;have u2:=(v2.fr hp (by omega)).1;have u3:=(v3.fr hp (by omega)).1;have u4:Calm w (V.putObj W0.heap.size (.deferred none)):=v4.join hp (by simp;omega);refine⟨.tuple #[vI (cls n:Nat),vI (rnd n),.bool true],?_,rfl,u4⟩;simp[results,Tryz.f28,go_sem,u2,u3]
theorem round_yes (n:Int)(h1:1≤n)(h2:n≤65536)(w:World) :
    Calls Tryz.prog 12 #[vI n] w fun e w'=>e = .returned (.tuple #[vI (rnd n),.bool true])∧Calm w w':=by
  go_enter Tryz.func12,Tryz.ntmps12;go_wp2_with (go_at_call 28;refine(least_yes _ h1 h2 _).mono ?_;rintro e w' ⟨rfl,hc⟩)
  go_ret2
  exact⟨rfl,hc⟩
end
section
open Go.RowKit Go.Shelf
abbrev spV (b s t:Int):Value:=.agg #[vI b,vI s,vI t]
def okP (b s t:Int):Prop:=0≤b∧b≤65536∧0≤s∧s≤65536∧b≤t∧t≤b+s
theorem fit_yes (b s t:Int)(w:World)(h:okP b s t) :
    Calls Tryz.prog 154 #[spV b s t] w fun e w'=>e = .returned (spV b s t)∧Calm w w':=by
  obtain⟨h1,h2,h3,h4,h5,h6⟩:=h;go_enter Tryz.func154,Tryz.ntmps154;go_wp2;exact bodyPost_ret (v:=spV b s t) (by simp[results,Tryz.f154,go_sem]) rfl ⟨rfl,(Fr.alloc (Fr.refl _ _) _).alloc _⟩
theorem sright_yes (b s t:Int)(w:World)(h:okP b s t) :
    Calls Tryz.prog 97 #[spV b s t] w fun e w'=>e = .returned (.bool true)∧Calm w w':=by
  go_enter Tryz.func97,Tryz.ntmps97;go_wp2_with fail
  obtain⟨W1,hW1⟩:∃W1,w.alloc (.cells #[vI b,vI s,vI t] 133)=W1:=⟨_,rfl⟩;obtain⟨B,hB⟩:∃B,w.heap.size=B:=⟨_,rfl⟩;have q0:∀x:Later W1,x.w.cell? ⟨B,0,none⟩=some (vI b):=fun x=>x.cell (by rw[←hW1,←hB];exact World.cell?_alloc_new w _ _ 0);have q1:∀x:Later W1,x.w.cell? ⟨B,1,none⟩=some (vI s):=fun x=>x.cell (by rw[←hW1,←hB];exact World.cell?_alloc_new w _ _ 1);have q2:∀x:Later W1,x.w.cell? ⟨B,2,none⟩=some (vI t):=fun x=>x.cell (by rw[←hW1,←hB];exact World.cell?_alloc_new w _ _ 2);have k1:Calm w W1:=by rw[←hW1];exact Fr.alloc (Fr.refl _ _) _
  rw[hW1,hB];clear hW1 hB;refine wp_region_calm (by kernel_rfl) (by kernel_rfl) ?_
  repeat (go_big_quiet_step ((go_at_call 154;exact Calls.calm_of (fit_yes b s t _ h))))
  refine wpQuiet_nil ?_;intro w2 hw';have c2:=Later.out hw';clear hw';go_wp2;go_ret;exact⟨by simp,k1.trans c2⟩
theorem used_any (b s t:Int)(w:World)(h:okP b s t) :
    Calls Tryz.prog 109 #[spV b s t] w fun e w'=>e = .returned (vI (t-b))∧Calm w w':=by
  have H:Hid (okP b s t):=h;obtain⟨h1,h2,h3,h4,h5,h6⟩:=h;go_enter Tryz.func109,Tryz.ntmps109;go_wp2_with fail
  refine(sright_yes b s t _ H.out).mono ?_;rintro e w1 ⟨rfl,c1⟩;have b0:=((Own.new w #[vI b,vI s,vI t] 133 0 rfl).fr c1 id).1;have b1:=((Own.new w #[vI b,vI s,vI t] 133 1 rfl).fr c1 id).1;have b2:=((Own.new w #[vI b,vI s,vI t] 133 2 rfl).fr c1 id).1;go_wp2;go_ret;exact⟨rfl,Fr.trans (Fr.alloc (Fr.refl _ _) _) c1⟩
theorem left_any (b s t:Int)(w:World)(h:okP b s t) :
    Calls Tryz.prog 73 #[spV b s t] w fun e w'=>e = .returned (vI (s-(t-b)))∧Calm w w':=by
  have H:Hid (okP b s t):=h;obtain⟨h1,h2,h3,h4,h5,h6⟩:=h;go_enter Tryz.func73,Tryz.ntmps73;go_wp2_with fail
  refine(sright_yes b s t _ H.out).mono ?_;rintro e w1 ⟨rfl,c1⟩;have b0:=((Own.new w #[vI b,vI s,vI t] 133 0 rfl).fr c1 id).1;have b1:=((Own.new w #[vI b,vI s,vI t] 133 1 rfl).fr c1 id).1;have b2:=((Own.new w #[vI b,vI s,vI t] 133 2 rfl).fr c1 id).1;go_wp2_with fail
  have q0:∀x:Later w1,x.w.cell? ⟨w.heap.size,0,none⟩=some (vI b):=fun x=>x.cell b0;have q1:∀x:Later w1,x.w.cell? ⟨w.heap.size,1,none⟩=some (vI s):=fun x=>x.cell b1;have q2:∀x:Later w1,x.w.cell? ⟨w.heap.size,2,none⟩=some (vI t):=fun x=>x.cell b2;refine wp_region_calm (by kernel_rfl) (by kernel_rfl) ?_
  repeat (go_big_quiet_step ((go_at_call 109;exact Calls.calm_of (used_any b s t _ H.out))))
  refine wpQuiet_nil ?_;intro w2 hw';have c2:=Later.out hw';clear hw';go_wp2;go_ret;exact⟨rfl,(Fr.trans (Fr.alloc (Fr.refl _ _) _) c1).trans c2⟩
theorem empty_any (b s t:Int)(w:World)(h:okP b s t) :
    Calls Tryz.prog 108 #[spV b s t] w fun e w'=>e = .returned (spV b s b)∧Calm w w':=by
  have H:Hid (okP b s t):=h;obtain⟨h1,h2,h3,h4,h5,h6⟩:=h;go_enter Tryz.func108,Tryz.ntmps108;go_wp2_with fail
  have o:=fun i v h=>(Own.new w #[vI b,vI s,vI t] 133 i (v:=v) h).alloc (.cells #[vI 0,vI 0,vI 0] 133);have r:=fun i v h=>Own.at (w.alloc (.cells #[vI b,vI s,vI t] 133)) #[vI 0,vI 0,vI 0] 133 (w.heap.size+1) i (v:=v) (by simp) h;obtain⟨W1,hW1⟩:∃W1,(w.alloc (.cells #[vI b,vI s,vI t] 133)).alloc (.cells #[vI 0,vI 0,vI 0] 133)=W1:=⟨_,rfl⟩;have k1:Calm w W1:=by rw[←hW1];exact(Fr.alloc (Fr.refl _ _) _).alloc _
  rw[hW1] at o r ⊢;clear hW1;obtain⟨B,hB⟩:∃B,w.heap.size=B:=⟨_,rfl⟩;have HB:Hid (w.heap.size=B):=hB;rw[hB] at o r ⊢;clear hB;refine(sright_yes b s t _ H.out).mono ?_;rintro e w1 ⟨rfl,c1⟩;have o0:=((o 0 _ rfl).fr c1 id);have o1:=((o 1 _ rfl).fr c1 id);have o2:=((o 2 _ rfl).fr c1 id);have r0:=((r 0 _ rfl).fr c1 id);have r1:=((r 1 _ rfl).fr c1 id);have r2:=((r 2 _ rfl).fr c1 id);clear o r;have o0a:=o0.1;have o0b:=o0.2;have o1a:=o1.1;have o1b:=o1.2;have o2a:=o2.1;have o2b:=o2.2;have r0a:=r0.1;have r0b:=r0.2;have r1a:=r1.1;have r1b:=r1.2;have r2a:=r2.1;have r2b:=r2.2;go_wp2;obtain⟨s0,s1,s2,sf⟩:=own_set3 (r0.far ⟨B,2,none⟩ (vI b) (by simp)) (r1.far ⟨B,2,none⟩ (vI b) (by simp)) (r2.far ⟨B,2,none⟩ (vI b) (by simp)) (vI b) (vI s) (vI b);have kf:Calm w (w1.setCell ⟨B,2,none⟩ (vI b)):=(k1.trans c1).setCell (.inr (by have:=HB.out;simp;omega)) _;refine bodyPost_ret (v:=spV b s b) ?_ rfl ⟨rfl,kf.join sf (by have:=HB.out;intro k h1 h2;omega)⟩;simp[results,Tryz.f108,go_sem,s0.1,s1.1,s2.1]
theorem make_yes (b s:Int)(w:World)(h1:0≤b)(h2:b≤65536)(h3:0≤s)(h4:s≤65536) :
    Calls Tryz.prog 61 #[vI b,vI s] w fun e w'=>e = .returned (.tuple #[spV b s b,.bool true])∧Calm w w':=by
  go_enter Tryz.func61,Tryz.ntmps61;go_wp2_with fail
  have r:OwnL ((w.alloc (.cells #[vI 0,vI 0,vI 0] 133)).alloc (.cells #[vI b,vI s,vI b] 133)) w.heap.size [vI 0,vI 0,vI 0]:=(OwnL.new w [vI 0,vI 0,vI 0] _).alloc _;have o:OwnL ((w.alloc (.cells #[vI 0,vI 0,vI 0] 133)).alloc (.cells #[vI b,vI s,vI b] 133)) (w.heap.size+1) [vI b,vI s,vI b]:=OwnL.at (w.alloc _) [vI b,vI s,vI b] _ _ (by simp);refine(sright_yes b s b _ ⟨by omega,by omega,by omega,by omega,by omega,by omega⟩).mono ?_;rintro e w1 ⟨rfl,c1⟩;replace r:=r.calm c1;replace o:=o.calm c1;have k1:Calm w w1:=((Fr.alloc (Fr.refl _ _) _).alloc _).trans c1;clear c1;obtain⟨B,hB⟩:∃B,w.heap.size=B:=⟨_,rfl⟩;have HB:Hid (w.heap.size=B):=hB;rw[hB] at o r ⊢;clear hB;obtain⟨o0,o1,o2⟩:=OwnL.ce3 o;obtain⟨r0,r1,r2⟩:=OwnL.ce3 r;have s0:=(r 0 _ rfl).2;have s1:=(r 1 _ rfl).2;have s2:=(r 2 _ rfl).2;go_wp2;obtain⟨t0,tf⟩:=r.set3 (vI b) (vI s) (vI b);refine bodyPost_ret (v:=.tuple #[spV b s b,.bool true]) ?_ rfl ⟨rfl,k1.join tf (by have:=HB.out;intro k h1 h2;omega)⟩;simp[results,Tryz.f61,go_sem,(t0 0 _ rfl).1,(t0 1 _ rfl).1,(t0 2 _ rfl).1]
theorem take_yes (b s t n:Int)(w:World)(h:okP b s t)(n1:1≤n)(n2:n≤65536)(hl:rnd n≤s-(t-b)) :
    Calls Tryz.prog 197 #[spV b s t,vI n] w fun e w'=>e = .returned (.tuple #[spV b s (t+rnd n),vI t,.bool true])∧Calm w w':=by
  have rb:=rnd_spec n2;obtain⟨x,hx⟩:∃x,rnd n=x:=⟨_,rfl⟩;rw[hx] at hl rb;obtain⟨rb1,rb2,rb3⟩:=rb;rw[hx];have HR:Hid (rnd n=x):=hx;clear hx;have H:Hid (okP b s t):=h;obtain⟨h1,h2,h3,h4,h5,h6⟩:=h;go_enter Tryz.func197,Tryz.ntmps197;go_wp2_with fail
  have o:OwnL ((w.alloc (.cells #[vI b,vI s,vI t] 133)).alloc (.cells #[vI 0,vI 0,vI 0] 133)) w.heap.size [vI b,vI s,vI t]:=(OwnL.new w [vI b,vI s,vI t] _).alloc _;have r:OwnL ((w.alloc (.cells #[vI b,vI s,vI t] 133)).alloc (.cells #[vI 0,vI 0,vI 0] 133)) (w.heap.size+1) [vI 0,vI 0,vI 0]:=OwnL.at (w.alloc _) [vI 0,vI 0,vI 0] _ _ (by simp);refine(sright_yes b s t _ H.out).mono ?_;rintro e w1 ⟨rfl,c1⟩;replace r:=r.calm c1;replace o:=o.calm c1;have k1:Calm w w1:=((Fr.alloc (Fr.refl _ _) _).alloc _).trans c1;clear c1;obtain⟨B,hB⟩:∃B,w.heap.size=B:=⟨_,rfl⟩;have HB:Hid (w.heap.size=B):=hB;rw[hB] at o r ⊢;clear hB;go_wp2_with fail
  refine(round_yes n n1 n2 _).mono ?_;rintro e w2 ⟨rfl,c2⟩;replace r:=r.calm c2;replace o:=o.calm c2;have k2:=k1.trans c2;clear c2 k1;rw[HR.out];obtain⟨o0,o1,o2⟩:=OwnL.ce3 o;go_wp2_with fail
  clear o0 o1 o2;refine(left_any b s t _ H.out).mono ?_;rintro e w3 ⟨rfl,c3⟩;replace r:=r.calm c3;replace o:=o.calm c3;have k3:=k2.trans c3;clear c3 k2;obtain⟨o0,o0f,o1,o1f,o2,o2f⟩:=OwnL.cf3 o;obtain⟨r0,r0f,r1,r1f,r2,r2f⟩:=OwnL.cf3 r;go_wp2;have o':=(o.set 2 (vI (t+x)) (by simp));obtain⟨t0,tf⟩:=(r.far ⟨B,2,none⟩ (vI (t+x)) (by simp)).set3 (vI b) (vI s) (vI (t+x));have k4:=k3.setCell (p:=⟨B,2,none⟩) (.inr (by have:=HB.out;simp;omega)) (vI (t+x));refine bodyPost_ret (v:=.tuple #[spV b s (t+x),vI t,.bool true]) ?_ rfl ⟨rfl,k4.join tf (by have:=HB.out;intro k h1 h2;omega)⟩;simp[results,Tryz.f197,go_sem,(t0 0 _ rfl).1,(t0 1 _ rfl).1,(t0 2 _ rfl).1]
end
section
open Go.RowKit Go.Shelf
structure Gone (xs:List Nat)(a t:Nat):Prop where
  lt:a<xs.length
  pos:1≤t
  le:t≤131072
  word:xs.getD a 0=t*4+2
theorem mat_gone (w:World)(b c:Nat)(xs:List Nat)(h:Ar w b c xs)(a t:Nat)(hg:Gone xs a t) :
    Calls Tryz.prog 196 #[arV b,vI a] w fun e w'=>e = .returned (.tuple #[vI t,.bool true])∧w'=w:=by
  obtain⟨h1,h2,h3,h4⟩:=hg;have HA:=hid h;replace h4:=hid h4;have h5:Hid ((t*4+2) / 4=t):=by show(t*4+2) / 4=t;omega
  clear h;go_enter Tryz.func196,Tryz.ntmps196;go_wp2_with fail
  refine(load_yes _ b c xs HA.out a h1).mono ?_;rintro e w' ⟨rfl,rfl⟩;rw[h4.out];go_wp2_with fail
  refine(where_yes (t*4+2) (by omega) (by omega) (by omega) (by omega) _).mono ?_;rintro e w' ⟨rfl,rfl⟩;rw[h5.out];go_wp2
  go_ret2
  exact⟨rfl,rfl⟩
theorem mat_no (w:World)(b c:Nat)(xs:List Nat)(h:Ar w b c xs)(a:Nat)(h1:a<xs.length)(hW:xs.getD a 0<18446744073709551616)(ho:xs.getD a 0 / 4<1∨131072<xs.getD a 0 / 4∨xs.getD a 0 % 4≠2) :
    Calls Tryz.prog 196 #[arV b,vI a] w fun e w'=>e = .returned (.tuple #[vI 0,.bool false])∧w'=w:=by
  have HA:=hid h;obtain⟨s,hS⟩:∃s,xs.getD a 0=s:=⟨_,rfl⟩;rw[hS] at hW ho;have HW:=hid hW;have HO:=hid ho;replace hS:=hid hS;clear h hW ho;go_enter Tryz.func196,Tryz.ntmps196;go_wp2_with fail
  refine(load_yes _ b c xs HA.out a h1).mono ?_;rintro e w' ⟨rfl,rfl⟩;rw[hS.out];go_wp2_with fail
  refine(where_no s HW.out HO.out _).mono ?_;rintro e w' ⟨rfl,rfl⟩;go_wp2
  go_ret2
  exact⟨rfl,rfl⟩
theorem hd_odd (p d:Nat)(wk fn fr:Bool):hd p d wk fn fr % 2=1:=by
  unfold hd;omega
theorem At.head {xs:List Nat}{a:Nat}{o:Ob}(h:At xs a o):xs.getD a 0=hd o.p o.d o.wk o.fn o.fr:=h.isObj.head
theorem At.lt {xs:List Nat}{a:Nat}{o:Ob}(h:At xs a o):a<xs.length:=by have:=h.room;simp only[Ob.size] at this;omega
theorem mat_here (w:World)(b c:Nat)(xs:List Nat)(h:Ar w b c xs)(a:Nat)(o:Ob)(ho:At xs a o) :
    Calls Tryz.prog 196 #[arV b,vI a] w fun e w'=>e = .returned (.tuple #[vI 0,.bool false])∧w'=w:=by
  have h1:=ho.head;have h2:=hd_odd o.p o.d o.wk o.fn o.fr;have h3:=hd_lt (fr:=o.fr) ho.ok.sh;exact mat_no w b c xs h a ho.lt (by omega) (.inr (.inr (by omega)))
def mv (xs:List Nat)(f t n:Nat):List Nat:=Go.splice xs t ((List.range n).map fun i=>xs.getD (f+i) 0)
theorem mv_length {xs:List Nat}{f t n:Nat}(h:t+n≤xs.length):(mv xs f t n).length=xs.length:=length_splice _ _ _ (by simpa using h)
theorem mv_getD {xs:List Nat}{f t n:Nat}(h:t+n≤xs.length)(j:Nat):(mv xs f t n).getD j 0=if t≤j∧j<t+n then xs.getD (f+(j-t)) 0 else xs.getD j 0:=by
  unfold mv Go.splice;simp only[List.getD,List.getElem?_append,List.length_take,List.length_map,List.length_range,List.getElem?_map,List.getElem?_drop,List.getElem?_take];have e:min t xs.length=t:=by omega
  rw[e]
  by_cases h1:j<t
  · rw[if_pos h1,if_pos h1,if_neg (by omega)]
  · rw[if_neg h1]
    by_cases h2:j-t<n
    · rw[if_pos h2,if_pos (by omega),List.getElem?_range h2];simp
    · rw[if_neg h2,if_neg (by omega),show t+n+(j-t-n)=j by omega]
theorem Fr.setRow {S:Nat→Prop}{a w:World}(h:Fr S a w){g:Nat}(hg:S g∨a.heap.size≤g)(cs:Array Value):Fr S a (w.setRow g cs):=
  ⟨h.os,h.tape,h.output,Nat.le_trans h.size (by simp),fun k hk hs=>by
    rw[setRow_other w g k cs (by rintro rfl;rcases hg with hg|hg;exact hs hg;omega)];exact h.block k hk hs⟩
theorem addr_at {b off n:Nat} : (⟨b,off,none⟩:Addr).add n=⟨b,off+n,none⟩:=by
  unfold Addr.add;split <;> simp_all
theorem one_w:(Tryz.prog.info? 195).map (·.size)=some 1:=by kernel_rfl
theorem move_yes (w:World)(b c:Nat)(xs:List Nat)(h:Ar w b c xs)(f t n:Nat)(hn:0<n)(hf:f+n≤xs.length)(ht:t+n≤xs.length) :
    Calls Tryz.prog 199 #[arV b,vI f,vI t,vI n] w fun e w'=>e = .returned (vI 0)∧Ar w' b c (mv xs f t n)∧Fr (fun k=>k=c) w w':=by
  have HA:=hid h;have h4:=h.2.2.2;have hn0:(0:Int)<n:=by omega
  go_enter Tryz.func199,Tryz.ntmps199;go_wp2_with fail
  refine(stretch_yes _ b c xs HA.out f n hf).mono ?_;rintro e w' ⟨rfl,rfl⟩;go_wp2_with fail
  refine(stretch_yes _ b c xs HA.out t n ht).mono ?_;rintro e w' ⟨rfl,rfl⟩;clear h;go_wp2_with fail
  have hA2:=HA.out;obtain⟨q1,q2,q3,q4⟩:=hA2;have r1:∀x:Later w',x.w.cell? ⟨b,0,none⟩=some (.slice (some ⟨c,0,none⟩) xs.length xs.length):=fun x=>x.cell q1.1;clear q1 q2 q3 q4;refine wp_region_calm_tail 18 (by kernel_rfl) (by kernel_rfl) ?_;simp only[List.take_succ_cons,List.take_zero,List.drop_succ_cons,List.drop_zero]
  repeat (go_big_quiet_step (fail))
  refine wpQuiet_nil ?_;intro w2 hw';have c2:=Later.out hw';clear hw' r1;have hA3:=HA.out.calm c2;obtain⟨q1,⟨T0,q2⟩,q3,q4⟩:=hA3;have hcl:c<w2.heap.size:=(Array.getElem?_eq_some_iff.1 q2).1
  have hsrc:∀j v,((List.range n).map fun i=>wV (xs.getD (f+i) 0))[j]?=some v→w2.cell? ((⟨c,f,none⟩:Addr).add j)=some v:=by
    intro j v hj;have hjn:j<n:=by simpa using(List.getElem?_eq_some_iff.1 hj).1
    rw[addr_at];rw[List.getElem?_map,List.getElem?_range hjn] at hj;simp at hj;subst hj;have:=((Whole.own ⟨T0,q2⟩) (f+j) (wV (xs.getD (f+j) 0)) (by simp[List.getD,show f+j<xs.length by omega])).1;exact this
  rw[show t+n-t=n by omega,show f+n-f=n by omega];refine wpList_copy_own rfl (.tmp 31) (.tmp 40) 172 172 rfl 195 Tryz.underlying172 one_w c t n (xs.length-t) ⟨c,f,none⟩ n (xs.length-f) rfl rfl (xs.map wV).toArray T0 q2 ((List.range n).map fun i=>wV (xs.getD (f+i) 0)) (by simp) hsrc (by simp;omega) (by intro v hv;simp at hv;obtain⟨i,_,rfl⟩:=hv;simp[Value.oneCell']) ?_;have hrow:=setRow_heap w2 c _ ((xs.map wV).toArray.toList.take t++(((List.range n).map fun i=>wV (xs.getD (f+i) 0))++(xs.map wV).toArray.toList.drop (t+((List.range n).map fun i=>wV (xs.getD (f+i) 0)).length))).toArray T0 (0,0) q2;have hfr:=Fr.setRow (Fr.refl (fun k=>k=c) w2) (.inl rfl) ((xs.map wV).toArray.toList.take t++(((List.range n).map fun i=>wV (xs.getD (f+i) 0))++(xs.map wV).toArray.toList.drop (t+((List.range n).map fun i=>wV (xs.getD (f+i) 0)).length))).toArray;generalize w2.setRow c ((xs.map wV).toArray.toList.take t++(((List.range n).map fun i=>wV (xs.getD (f+i) 0))++(xs.map wV).toArray.toList.drop (t+((List.range n).map fun i=>wV (xs.getD (f+i) 0)).length))).toArray=w3 at *
  have e:((xs.map wV).toArray.toList.take t++(((List.range n).map fun i=>wV (xs.getD (f+i) 0))++(xs.map wV).toArray.toList.drop (t+((List.range n).map fun i=>wV (xs.getD (f+i) 0)).length)))=(mv xs f t n).map wV:=by
    simp[mv,Go.splice,List.map_take,List.map_drop]
  rw[e] at hrow;have ar:Hid (Ar w3 b c (mv xs f t n)):=⟨by rw[mv_length ht];exact q1.fr hfr q3,⟨T0,hrow⟩,q3,by rw[mv_length ht];exact q4⟩;have fr:Hid (Fr (fun k=>k=c) w' w3):=(Calm.any c2).trans hfr;clear hrow hfr q1 q2 hsrc c2 e;go_wp2;go_ret;exact⟨rfl,ar.out,fr.out⟩
end
section
open Go.RowKit Go.Shelf
theorem copy_gone (w:World)(b c:Nat)(xs:List Nat)(h:Ar w b c xs)(a t:Nat)(hg:Gone xs a t)(B S T:Int) :
    Calls Tryz.prog 166 #[arV b,vI a,spV B S T] w fun e w'=>e = .returned (.tuple #[spV B S T,vI t,vI 0])∧Calm w w':=by
  have HA:=hid h;have HG:=hid hg;clear h hg;go_enter Tryz.func166,Tryz.ntmps166;have o5:=(OwnL.new w [vI B,vI S,vI T] 133).alloc (.cells #[vI 0,vI 0,vI 0] 133);have o6:=OwnL.at (w.alloc (.cells #[vI B,vI S,vI T] 133)) [vI 0,vI 0,vI 0] 133 (w.heap.size+1) (by simp);have k1:Calm w ((w.alloc (.cells #[vI B,vI S,vI T] 133)).alloc (.cells #[vI 0,vI 0,vI 0] 133)):=((Fr.refl _ _).alloc _).alloc _;replace HA:=hid (HA.out.calm k1);go_wp2_with fail
  refine(mat_gone _ b c xs HA.out a t HG.out).mono ?_;rintro e w' ⟨rfl,rfl⟩;generalize hW:World.alloc _ (.cells #[vI 0,vI 0,vI 0] 133)=W at *;obtain⟨x0,x1,x2⟩:=OwnL.ce3 o5;obtain⟨y0,z0,y1,z1,y2,z2⟩:=OwnL.cf3 o6;have lt6:=o6.lt (by simp);go_wp2;have o7:=o6.set3 (vI B) (vI S) (vI T);replace k1:Calm w _:=k1.join o7.2 (by intros;omega);clear x0 x1 x2 y0 y1 y2 z0 z1 z2 o5 o6;obtain⟨u0,u1,u2⟩:=OwnL.ce3 o7.1;exact bodyPost_ret (v:=.tuple #[spV B S T,vI t,vI 0]) (by simp[results,Tryz.f166,go_sem,u0,u1,u2]) rfl ⟨rfl,k1⟩
theorem copy_yes (w:World)(b c:Nat)(xs:List Nat)(h:Ar w b c xs)(a:Nat)(o:Ob)(ho:At xs a o)(B S:Int)(T:Nat)(hp:okP B S T)(hl:rnd o.size≤S-(T-B))(hT:1≤T)(hr:T+o.size≤xs.length) :
    Calls Tryz.prog 166 #[arV b,vI a,spV B S T] w fun e w'=>e = .returned (.tuple #[spV B S (T+rnd o.size),vI T,vI 0])∧Ar w' b c ((mv xs a T o.size).set a (T*4+2))∧Fr (fun k=>k=c) w w':=by
  have HA:=hid h;have HO:=hid ho;have HP:=hid hp;have p8:=ho.ok.sh.1;have d8:=ho.ok.sh.2.1;have hs:Hid (o.size=3+o.p+o.d):=rfl;have hal:=ho.lt;have har:=ho.room;have hlen:=h.2.2.2;have hcl:c<w.heap.size:=(h.cell hal).lt;have hbl:=h.lt;clear h ho hp;go_enter Tryz.func166,Tryz.ntmps166;have o5:=(OwnL.new w [vI B,vI S,vI T] 133).alloc (.cells #[vI 0,vI 0,vI 0] 133);have o6:=OwnL.at (w.alloc (.cells #[vI B,vI S,vI T] 133)) [vI 0,vI 0,vI 0] 133 (w.heap.size+1) (by simp);have k1:Calm w ((w.alloc (.cells #[vI B,vI S,vI T] 133)).alloc (.cells #[vI 0,vI 0,vI 0] 133)):=((Fr.refl _ _).alloc _).alloc _;replace HA:=hid (HA.out.calm k1);go_wp2_with fail
  refine(mat_here _ b c xs HA.out a o HO.out).mono ?_;rintro e w' ⟨rfl,rfl⟩;generalize hW:World.alloc _ (.cells #[vI 0,vI 0,vI 0] 133)=W at *;have kw:=k1.size;go_wp2_with fail
  refine(at_shape HA.out HO.out).mono ?_;rintro e w1 ⟨rfl,c1⟩;have o11:=OwnL.new w1 [vI o.p,vI o.d,.bool o.wk,.bool o.fn] 47;replace c1:=c1.alloc (.cells #[vI o.p,vI o.d,.bool o.wk,.bool o.fn] 47);replace o5:=o5.calm c1;replace o6:=o6.calm c1;replace HA:=hid (HA.out.calm c1);replace k1:=k1.trans c1;obtain⟨x0,x1,x2,x3⟩:=OwnL.ce4 o11;clear hW c1;go_wp2_with fail
  refine(size_yes o.p o.d o.wk o.fn HO.out.ok.sh _).mono ?_;rintro e w2 ⟨rfl,c2⟩;replace o5:=o5.calm c2;replace o6:=o6.calm c2;replace HA:=hid (HA.out.calm c2);replace k1:=k1.trans c2;clear x0 x1 x2 x3 o11 c2;have hc:(3:Int)+o.p+o.d=(o.size:Int):=by rw[hs.out];push_cast;rfl
  rw[hc];have hsz:o.size≤19:=by have:=hs.out;omega
  have hsz1:3≤o.size:=by have:=hs.out;omega
  replace hc:=hid hc;obtain⟨n,hn⟩:∃n,o.size=n:=⟨_,rfl⟩;rw[hn] at hl hr har hsz hsz1 hs ⊢;replace hn:=hid hn;obtain⟨r,hr0⟩:∃r,rnd (n:Int)=r:=⟨_,rfl⟩;have hrb:=rnd_spec (n:=(n:Int)) (by omega);rw[hr0] at hl hrb;obtain⟨hr1,hr2,hr3⟩:=hrb;obtain⟨x0,x1,x2⟩:=OwnL.ce3 o5;have htk:=take_yes B S T n w2 HP.out (by omega) (by omega) (by rw[hr0];exact hl);rw[hr0] at htk;replace htk:=hid htk;replace hr0:=hid hr0;have hT0:((T:Int)==0)=false:=by simp;omega
  have hgt:¬((n:Int)>xs.length-T):=by omega
  go_wp2_with fail
  refine(htk.out).mono ?_;rintro e w3 ⟨rfl,c3⟩;replace o5:=o5.calm c3;replace o6:=o6.calm c3;replace HA:=hid (HA.out.calm c3);replace k1:=k1.trans c3;have kw4:=k1.size;clear x0 x1 x2 c3 htk o5;have o16:=OwnL.new w3 [vI B,vI S,vI (T+r)] 133;have c4:Calm w3 (w3.alloc (.cells #[vI B,vI S,vI (T+r)] 133)):=(Fr.refl _ _).alloc _;replace o6:=o6.calm c4;replace HA:=hid (HA.out.calm c4);replace k1:=k1.trans c4;have kw3:=c4.size;clear c4;go_wp2_with fail
  refine(len_is _ b c xs HA.out).mono ?_;rintro e w' ⟨rfl,rfl⟩;go_wp2_with fail
  refine(gone_yes T (by omega) (by omega) _).mono ?_;rintro e w' ⟨rfl,rfl⟩;rw[Int.toNat_natCast];go_wp2_with fail
  refine(move_yes _ b c xs HA.out a T n (by omega) har hr).mono ?_;rintro e w5 ⟨rfl,ar5,f5⟩;have hl5:(mv xs a T n).length=xs.length:=mv_length hr;replace o6:=o6.fr f5 (by omega);replace o16:=o16.fr f5 (by omega);replace ar5:=hid ar5;have kf:Fr (fun k=>k=c) w w5:=(Calm.any k1).trans f5;obtain⟨Y,hY⟩:∃Y,mv xs a T n=Y:=⟨_,rfl⟩;rw[hY] at hl5 ar5;replace hY:=hid hY;have k5:=f5.size;clear f5;go_wp2_with fail
  refine(store_yes _ b c Y ar5.out a (by omega) (T*4+2)).mono ?_;rintro e w6 ⟨rfl,rfl⟩;have ar6:=hid (ar5.out.set (k:=a) (by omega) (T*4+2));have f6:Fr (fun k=>k=c) w5 (w5.setCell ⟨c,a,none⟩ (wV (T*4+2))):=(Fr.refl (fun k=>k=c) w5).setCell (p:=⟨c,a,none⟩) (.inl rfl) _;replace o6:=o6.fr f6 (by omega);replace o16:=o16.fr f6 (by omega);replace kf:=kf.trans f6;generalize w5.setCell ⟨c,a,none⟩ (wV (T*4+2))=w6 at *;have lt6:=o6.lt (by simp);have lt16:=o16.lt (by simp);obtain⟨x0,x1,x2⟩:=OwnL.ce3 o16;obtain⟨y0,z0,y1,z1,y2,z2⟩:=OwnL.cf3 o6;clear hl hr hal har;go_wp2;have o7:=o6.set3 (vI B) (vI S) (vI (T+r));have ar7:=ar6.out.fr o7.2 (by omega) (by omega);replace kf:Fr (fun k=>k=c) w _:=kf.join o7.2 (fun k hk (e:k=w.heap.size+1)=>absurd hk (by omega));clear x0 x1 x2 y0 y1 y2 z0 z1 z2 o6;obtain⟨u0,u1,u2⟩:=OwnL.ce3 o7.1;exact bodyPost_ret (v:=.tuple #[spV B S (T+r),vI T,vI 0]) (by simp[results,Tryz.f166,go_sem,u0,u1,u2]) rfl ⟨by rw[hn.out,hr0.out],by rw[hn.out,hY.out];exact ar7,kf⟩
end
section
open Go.RowKit Go.Shelf
theorem info_int:(Tryz.prog.info? 3).map (fun i=>(i.zero,i.size,i.bytes))=some (some (vI 0),1,8):=by kernel_rfl
abbrev iVs (l:List Int):List Value:=l.map (Value.int .i64)
abbrev nI (l:List Nat):List Int:=l.map fun x:Nat=>(x:Int)
def ORow (w:World)(base:Nat)(v:Value)(l:List Int):Prop:=w.ownsRow base 3 1 v l.length (iVs l)
theorem ORow.nil (w:World)(base:Nat):ORow w base (.slice none 0 0) []:=World.ownsRow_nil _ _ _ _
theorem ORow.row {w:World}{base:Nat}{v:Value}{l:List Int}(h:ORow w base v l):Row w v (iVs l):=Row.of_owns h
theorem ORow.calm {w w':World}{base:Nat}{v:Value}{l:List Int}(h:ORow w base v l)(f:Calm w w'):ORow w' base v l:=ownsRow_fr h f (fun _ _=>id)
theorem ORow.slice {w:World}{base:Nat}{v:Value}{l:List Int}(h:ORow w base v l):∃a c,v = .slice a l.length c:=by
  obtain⟨a,c,h,_⟩:=h.row;exact⟨a,c,by simpa using h⟩
theorem ORow.letters {w:World}{base:Nat}{v:Value}{l:List Int}(h:ORow w base v l):∃a n c,v = .slice a n c:=by
  obtain⟨a,c,h⟩:=h.slice;exact⟨a,_,c,h⟩
theorem ORow.sliceN {w:World}{base:Nat}{v:Value}{l:List Int}(h:ORow w base v l){n:Nat}(hn:l.length=n):∃a c,v = .slice a n c:=hn ▸ h.slice
theorem ORow.mono {w:World}{base base':Nat}{v:Value}{l:List Int}(h:ORow w base v l)(hb:base'≤base):ORow w base' v l:=by
  refine⟨h.1,?_⟩;rcases h.2 with h|⟨g,cap,cur,h1,h2,h3⟩
  · exact .inl h
  · exact .inr ⟨g,cap,cur,h1,by omega,h3⟩
def Ob.strong (o:Ob):List Nat:=if o.wk then [] else o.ps
theorem Ob.strong_length {o:Ob}(h:o.Ok):o.strong.length=if o.wk then 0 else o.p:=by
  unfold Ob.strong;split
  · rfl
  · exact h.lp
theorem Ob.strong_le {o:Ob}(h:o.Ok):o.strong.length≤o.p:=by
  rw[Ob.strong_length h];split <;> omega
theorem Ob.strong_get {o:Ob}(h:o.Ok){k:Nat}(hk:k<o.strong.length):o.strong.getD k 0=o.ps.getD k 0:=by
  have:=Ob.strong_length h;unfold Ob.strong at *;split
  · rename_i hw;rw[if_pos hw] at hk;simp at hk
  · rfl
theorem strcnt_yes (w:World)(o:Ob)(h:o.Ok) :
    Calls Tryz.prog 168 #[shV o.p o.d o.wk o.fn] w fun e w'=>e = .returned (vI o.strong.length)∧Calm w w':=by
  rw[Ob.strong_length h];cases hw:o.wk
  all_goals
    go_enter Tryz.func168,Tryz.ntmps168;go_wp2;go_ret;exact⟨rfl,Fr.alloc (Fr.refl _ _) _⟩
theorem take_succ_getD (l:List Nat){k:Nat}(hk:k<l.length):l.take (k+1)=l.take k++[l.getD k 0]:=by
  rw[List.take_succ_eq_append_getElem hk];simp[List.getD,hk]
set_option maxRecDepth 4000 in
theorem strong_yes {w:World}{b c:Nat}{xs:List Nat}(h:Ar w b c xs){a:Nat}{o:Ob}(ho:At xs a o) :
    Calls Tryz.prog 116 #[arV b,vI a] w fun e w'=>∃v,e = .returned (.tuple #[v,vI 0])∧ORow w' w.heap.size v (nI o.strong)∧Calm w w':=by
  obtain⟨i0,hi,hz0,hz1,hz2⟩:=info_parts info_int;have HA:=hid h;have HO:=hid ho;have p8:=ho.ok.sh.1;have hsl:=Ob.strong_le ho.ok;have hsg:Hid (∀k,k<o.strong.length→o.strong.getD k 0=o.ps.getD k 0):=fun k hk=>Ob.strong_get ho.ok hk;clear h ho;go_enter Tryz.func116,Tryz.ntmps116;go_wp2_with fail
  refine(at_shape HA.out HO.out).mono ?_;rintro e w1 ⟨rfl,c1⟩;have o6:=OwnL.new w1 [vI o.p,vI o.d,.bool o.wk,.bool o.fn] 47;replace c1:=c1.alloc (.cells #[vI o.p,vI o.d,.bool o.wk,.bool o.fn] 47);obtain⟨x0,x1,x2,x3⟩:=OwnL.ce4 o6;go_wp2_with fail
  refine(strcnt_yes _ o HO.out.ok).mono ?_;rintro e w2 ⟨rfl,c2⟩;replace c1:=c1.trans c2;clear c2 x0 x1 x2 x3 o6;obtain⟨n,hn⟩:∃n,o.strong.length=n:=⟨_,rfl⟩;rw[hn] at hsl hsg ⊢;replace hn:=hid hn;go_wp2_with fail
  go_loopw [9,25] (fun l i wr=>∃k:Nat,k≤n∧i=vI k∧Hid (ORow wr w.heap.size l (nI (o.strong.take k)))∧Calm w wr) (fun _ i _=>n-(intOf i).toNat)
  case atStart=>exact⟨0,by omega,rfl,ORow.nil _ _,c1⟩
  case round=>
    obtain⟨k,hk,rfl,hr,ck⟩:=hrel;rcases Nat.lt_or_ge k n with hlt|hge
    · have e1:=hsg.out k hlt;have e2:Hid (nI (o.strong.take (k+1))=nI (o.strong.take k)++[((o.strong.getD k 0:Nat):Int)]):=by show nI (o.strong.take (k+1))=_;rw[take_succ_getD o.strong (by rw[hn.out];exact hlt)];simp
      have hln:Hid ((nI (o.strong.take k)).length=k):=by show(nI (o.strong.take k)).length=k;simp[hn.out];omega
      have hq:o.ps.getD k 0≤131072:=HO.out.ok.ptr (by omega);obtain⟨sa,sn,sc,rfl⟩:=hr.out.letters;have hap:=hid (fun W (cw:Calm wr W)=>at_ptr (HA.out.calm (ck.trans cw)) HO.out (i:=k) (by omega));rw[←e1] at hap hq;replace e1:=hid e1;generalize nI (o.strong.take k)=L at *;generalize o.strong.getD k 0=q at *;go_wp2_with fail
      refine(hap.out _ (Fr.refl _ _)).mono ?_;rintro e w3 ⟨rfl,c3⟩;have ho3:=hid (hr.out.calm c3);have hs3:Hid (w.heap.size≤w3.heap.size):=(ck.trans c3).size;clear hap;go_wp2_with (at_builtin;refine wpList_append_own _ rfl _ _ 23 rfl w.heap.size 3 i0 (vI 0) 1 8 Tryz.underlying23 hi hz0 hz1 hz2 rfl (by decide) _ _ _ rfl (ho3.out.alloc _) ⟨w3.heap.size,0,none⟩ 1 1 [vI q] rfl rfl (cell_one_new _ _ _) (by simp[Value.oneCell']) (by have:=hln.out;unfold maxLen;omega) (by have:=hln.out;omega) (by have:=hs3.out;simp;omega) ?_;intro v' w4 hown' hgrow _;obtain⟨g',cap',rfl⟩:=ownsRow_succ hown';have hF:=hid (Fr.append1 ho3.out hgrow);clear hgrow;replace hown':=hid hown')
      go_roundw
      case rel=>
        refine⟨k+1,by omega,by go_num,?_,(ck.trans c3).join hF.out (fun j h1 h2=>absurd h1 (by omega))⟩;have:=hown'.out;rw[e2.out];show World.ownsRow _ _ _ _ _ _ _;rw[List.length_append,iVs,List.map_append];exact this
      case measure=>simp[intOf];omega
    · obtain rfl:k=n:=by omega
      have e3:Hid (o.strong.take k=o.strong):=List.take_of_length_le (by rw[hn.out];omega);have hln:Hid ((nI (o.strong.take k)).length=k):=by show(nI (o.strong.take k)).length=k;simp[hn.out]
      obtain⟨sa,sc,rfl⟩:=hr.out.sliceN hln.out;go_wp2;refine bodyPost_ret (v:=.tuple #[.slice sa k sc,vI 0]) (by simp[results,Tryz.f116,go_sem]) rfl ⟨_,rfl,?_,ck⟩;have:=hr.out
      rwa [e3.out] at this
end
section
open Go.RowKit Go.Shelf
def Was (xs:List Nat)(a:Nat)(o:Ob):Prop:=At xs a o∨∃t,Gone xs a t∧At xs t o
def Ob.took (o:Ob):Nat:=(rnd o.size).toNat
theorem Ob.took_eq {o:Ob}(h:o.Ok):(o.took:Int)=rnd o.size∧o.size≤o.took∧4≤o.took∧o.took≤24:=by
  have h1:o.size=3+o.p+o.d:=rfl;have h2:=h.sh.1;have h3:=h.sh.2.1;have h4:=rnd_spec (n:=(o.size:Int)) (by omega);have h5:=rnd_mono (a:=(o.size:Int)) (b:=19) (by omega) (by omega);have h6:rnd 19=24:=by decide
  unfold Ob.took;omega
def Lie (xs:List Nat):Nat→Nat→List (Nat × Ob)→Prop
  | b,e,[]=>b=e
  | b,e,(a,o)::l=>a=b∧o.Ok∧Was xs a o∧Lie xs (b+o.took) e l
theorem Lie.le {xs:List Nat} : ∀ {l:List (Nat × Ob)} {b e:Nat},Lie xs b e l→b+4*l.length≤e
  | [],b,e,h=>by simp[Lie] at h;simp;omega
  | (a,o)::l,b,e,⟨_,h1,_,h2⟩=>by
    have:=Lie.le h2;have:=(Ob.took_eq h1).2.2.1;simp;omega
end
section
open Go.RowKit Go.Shelf
attribute [local go_sem] Oper.semAt_some
theorem Own.keeps {keep:Nat→Prop}{w w':World}{b i:Nat}{v:Value}(h:Own w b i v)(k:Keeps keep w w')(hb:keep b):Own w' b i v:=
  ⟨(World.cell?_of_block (w:=w) (a:=⟨b,i,none⟩) (k.2 b hb)).trans h.1,(World.frozen?_of_block (w:=w) (a:=⟨b,i,none⟩) (k.2 b hb)).trans h.2⟩
abbrev plc (l:List (Nat × Ob)):List Nat:=l.map (·.1)
def begs (b:Nat)(l:List (Nat × Ob)):Nat→Nat
  | 0=>b
  | k+1=>begs b l k+(l.getD k (0,Ob.new 0 0 false false 0)).2.took
theorem begs_cons (b:Nat)(x:Nat × Ob)(l:List (Nat × Ob)):∀k,begs b (x::l) (k+1)=begs (b+x.2.took) l k
  | 0=>rfl
  | k+1=>by
    show begs b (x::l) (k+1)+_=begs (b+x.2.took) l k+_;rw[begs_cons b x l k];rfl
theorem Lie.at {xs:List Nat} : ∀ {l:List (Nat × Ob)} {b e:Nat},Lie xs b e l→∀k,k<l.length →
    (l.getD k (0,Ob.new 0 0 false false 0)).1=begs b l k∧(l.getD k (0,Ob.new 0 0 false false 0)).2.Ok∧Was xs (begs b l k) (l.getD k (0,Ob.new 0 0 false false 0)).2∧begs b l (k+1)≤e
  | (a,o)::l,b,e,⟨h0,h1,h2,h3⟩,0,_=>⟨h0,h1,h0 ▸ h2,by have:=h3.le;show b+o.took≤e;omega⟩
  | (a,o)::l,b,e,⟨h0,h1,h2,h3⟩,k+1,hk=>by
    have:=Lie.at h3 k (by simpa using hk);rw[begs_cons,begs_cons];exact this
theorem Lie.end {xs:List Nat} : ∀ {l:List (Nat × Ob)} {b e:Nat},Lie xs b e l→begs b l l.length=e
  | [],b,e,h=>h
  | (a,o)::l,b,e,⟨h0,h1,h2,h3⟩=>by
    show begs b ((a,o)::l) (l.length+1)=e;rw[begs_cons];exact Lie.end h3
end
section
open Go.RowKit Go.Shelf
attribute [local go_sem] Oper.semAt_some
end
section
def cpd (xs:List Nat)(a T n:Nat):List Nat:=(mv xs a T n).set a (T*4+2)
theorem cpd_length {xs:List Nat}{a T n:Nat}(h:T+n≤xs.length):(cpd xs a T n).length=xs.length:=by
  rw[cpd,List.length_set,mv_length h]
theorem cpd_getD {xs:List Nat}{a T n:Nat}(h:T+n≤xs.length)(ha:a<xs.length)(j:Nat) :
    (cpd xs a T n).getD j 0=if j=a then T*4+2 else if T≤j∧j<T+n then xs.getD (a+(j-T)) 0 else xs.getD j 0:=by
  rw[cpd,getD_set,mv_length h,mv_getD h]
  by_cases e:j=a
  · rw[if_pos (by omega),if_pos e]
  · rw[if_neg (by omega),if_neg e]
theorem cpd_at {xs:List Nat}{a T:Nat}{o:Ob}(ho:At xs a o)(hr:T+o.size≤xs.length)(hd:a+o.size≤T∨T+o.size≤a):At (cpd xs a T o.size) T o:=by
  have hs:3≤o.size:=by simp only[Ob.size];omega
  refine ho.of_eq (by rw[cpd_length hr];exact hr) fun i hi=>?_;rw[cpd_getD hr ho.lt,if_neg (by omega),if_pos (by omega),show T+i-T=i by omega]
theorem cpd_gone {xs:List Nat}{a T:Nat}{o:Ob}(ho:At xs a o)(hr:T+o.size≤xs.length)(hT:1≤T)(hT2:T≤131072):Gone (cpd xs a T o.size) a T:=
  ⟨by rw[cpd_length hr];exact ho.lt,hT,hT2,by rw[cpd_getD hr ho.lt,if_pos rfl]⟩
end
section
open Go.RowKit Go.Shelf
end
section
open Go.RowKit Go.Shelf
end
section
open Go.RowKit Go.Shelf
def Laid (xs:List Nat):Nat→Nat→List (Nat × Ob)→Prop
  | b,e,[]=>b=e
  | b,e,(a,o)::l=>a=b∧At xs a o∧Laid xs (b+o.took) e l
theorem Laid.lie {xs:List Nat} : ∀ {l:List (Nat × Ob)} {b e:Nat},Laid xs b e l→Lie xs b e l
  | [],_,_,h=>h
  | (_,_)::_,_,_,⟨h1,h2,h3⟩=>⟨h1,h2.ok,.inl h2,h3.lie⟩
theorem Laid.congr {xs ys:List Nat}(hl:ys.length=xs.length):∀ {l:List (Nat × Ob)} {b e:Nat},Laid xs b e l→(∀j,b≤j→j<e→ys.getD j 0=xs.getD j 0)→Laid ys b e l
  | [],_,_,h,_=>h
  | (a,o)::l,b,e,⟨h1,h2,h3⟩,hj=>by
    have:=h3.lie.le;obtain⟨_,q2,q3,_⟩:=Ob.took_eq h2.ok;refine⟨h1,h2.of_eq (by rw[hl];exact h2.room) (fun i hi=>hj _ (by omega) (by omega)),Laid.congr hl h3 (fun j k1 k2=>hj j (by omega) k2)⟩
theorem Laid.snoc {xs:List Nat}{o:Ob} : ∀ {l:List (Nat × Ob)} {b e:Nat},Laid xs b e l→At xs e o→Laid xs b (e+o.took) (l++[(e,o)])
  | [],b,e,h,ho=>by
    have h:b=e:=h;subst h;exact⟨rfl,ho,rfl⟩
  | (a,p)::l,b,e,⟨h1,h2,h3⟩,ho=>⟨h1,h2,h3.snoc ho⟩
theorem Laid.at {xs:List Nat} : ∀ {l:List (Nat × Ob)} {b e:Nat},Laid xs b e l→∀k,k<l.length→At xs (begs b l k) (l.getD k (0,Ob.new 0 0 false false 0)).2
  | (a,o)::l,b,e,⟨h1,h2,h3⟩,0,_=>h1 ▸ h2
  | (a,o)::l,b,e,⟨h1,h2,h3⟩,k+1,hk=>by
    rw[begs_cons];exact Laid.at h3 k (by simpa using hk)
end
section
open Go.RowKit
theorem begs_ge (b:Nat)(ls:List (Nat × Ob)):∀i,b≤begs b ls i
  | 0=>Nat.le_refl _
  | i+1=>Nat.le_trans (begs_ge b ls i) (Nat.le_add_right _ _)
theorem begs_mono (b:Nat)(ls:List (Nat × Ob)){i j:Nat}(h:i≤j):begs b ls i≤begs b ls j:=by
  induction h with
  | refl=>exact Nat.le_refl _
  | step _ ih=>exact Nat.le_trans ih (Nat.le_add_right _ _)
abbrev oo:Nat × Ob × Option Nat:=(0,Ob.new 0 0 false false 0,none)
def OldL (X:List Nat):Nat→Nat→List (Nat × Ob × Option Nat)→Prop
  | b,e,[]=>b=e
  | b,e,(a,o,m)::l=>a=b∧o.Ok∧(match m with|none=>At X a o|some t=>Gone X a t)∧OldL X (b+o.took) e l
theorem OldL.of_laid {X:List Nat} : ∀ {l:List (Nat × Ob)} {b e:Nat},Laid X b e l→OldL X b e (l.map fun x=>(x.1,x.2,none))
  | [],_,_,h=>h
  | (a,o)::l,b,e,⟨h1,h2,h3⟩=>⟨h1,h2.ok,h2,OldL.of_laid h3⟩
theorem OldL.le {X:List Nat} : ∀ {l:List (Nat × Ob × Option Nat)} {b e:Nat},OldL X b e l→b+4*l.length≤e
  | [],b,e,h=>by have h:b=e:=h;simp;omega
  | (a,o,m)::l,b,e,⟨h1,h2,_,h3⟩=>by
    have:=OldL.le h3;obtain⟨_,_,q3,_⟩:=Ob.took_eq h2;simp only[List.length_cons];omega
theorem OldL.at {X:List Nat} : ∀ {l:List (Nat × Ob × Option Nat)} {b e:Nat},OldL X b e l→∀i,i<l.length →
    b≤(l.getD i oo).1∧(l.getD i oo).1+(l.getD i oo).2.1.took≤e∧(l.getD i oo).2.1.Ok∧(match (l.getD i oo).2.2 with|none=>At X (l.getD i oo).1 (l.getD i oo).2.1|some t=>Gone X (l.getD i oo).1 t)
  | (a,o,m)::l,b,e,⟨h1,h2,h3,h4⟩,0,_=>by
    have:=OldL.le h4;subst h1;exact⟨Nat.le_refl _,by show a+o.took≤e;omega,h2,h3⟩
  | (a,o,m)::l,b,e,⟨h1,h2,h3,h4⟩,i+1,hi=>by
    obtain⟨k1,k2,k3,k4⟩:=OldL.at h4 i (by simpa using hi);exact⟨by show b≤(l.getD i oo).1;omega,k2,k3,k4⟩
theorem OldL.apart {X:List Nat} : ∀ {l:List (Nat × Ob × Option Nat)} {b e:Nat},OldL X b e l→∀i j,i<j→j<l.length→(l.getD i oo).1+(l.getD i oo).2.1.took≤(l.getD j oo).1
  | (a,o,m)::l,b,e,⟨h1,h2,h3,h4⟩,0,j+1,_,hj=>by
    have:=(OldL.at h4 j (by simpa using hj)).1;subst h1;exact this
  | (a,o,m)::l,b,e,⟨h1,h2,h3,h4⟩,i+1,j+1,hij,hj=>OldL.apart h4 i j (by omega) (by simpa using hj)
theorem Gone.congr {X Y:List Nat}{a t:Nat}(h:Gone X a t)(hl:Y.length=X.length)(he:Y.getD a 0=X.getD a 0):Gone Y a t:=⟨by rw[hl];exact h.lt,h.pos,h.le,by rw[he];exact h.word⟩
theorem OldL.congr {X Y:List Nat}(hl:Y.length=X.length):∀ {l:List (Nat × Ob × Option Nat)} {b e:Nat},OldL X b e l→(∀j,b≤j→j<e→Y.getD j 0=X.getD j 0)→OldL Y b e l
  | [],_,_,h,_=>h
  | (a,o,m)::l,b,e,⟨h1,h2,h3,h4⟩,hj=>by
    have:=OldL.le h4;obtain⟨_,q2,q3,_⟩:=Ob.took_eq h2;subst h1;refine⟨rfl,h2,?_,OldL.congr hl h4 (fun j k1 k2=>hj j (by omega) k2)⟩
    cases m with
    | none=>exact At.of_eq h3 (by rw[hl];exact h3.room) (fun i hi=>hj _ (by omega) (by omega))
    | some t=>exact Gone.congr h3 hl (hj _ (by omega) (by omega))
theorem OldL.go {X Y:List Nat}(hl:Y.length=X.length){t:Nat} : ∀ {l:List (Nat × Ob × Option Nat)} {b e:Nat} {i:Nat},OldL X b e l→i<l.length→Gone Y (l.getD i oo).1 t →
    (∀j,b≤j→j<e→j≠(l.getD i oo).1→Y.getD j 0=X.getD j 0)→OldL Y b e (l.set i ((l.getD i oo).1,(l.getD i oo).2.1,some t))
  | (a,o,m)::l,b,e,0,⟨h1,h2,h3,h4⟩,_,hg,hj=>by
    subst h1;obtain⟨_,q2,q3,_⟩:=Ob.took_eq h2;have hh:∀j,a+o.took≤j→j<e→Y.getD j 0=X.getD j 0:=fun j k1 k2=>hj j (by omega) k2 (fun(e:j=a)=>by omega);exact⟨rfl,h2,hg,OldL.congr hl h4 hh⟩
  | (a,o,m)::l,b,e,i+1,⟨h1,h2,h3,h4⟩,hi,hg,hj=>by
    subst h1;obtain⟨_,q2,q3,_⟩:=Ob.took_eq h2;have hi2:i<l.length:=by simpa using hi
    have hb:=(OldL.at h4 i hi2).1;have hle:=OldL.le h4;have hne:∀j,j<a+o.took→j≠(l.getD i oo).1:=fun j h=>by omega
    refine⟨rfl,h2,?_,OldL.go hl h4 hi2 hg (fun j k1 k2 k3=>hj j (by omega) k2 k3)⟩
    cases m with
    | none=>exact At.of_eq h3 (by rw[hl];exact h3.room) (fun k hk=>hj _ (by omega) (by omega) (hne _ (by omega)))
    | some t'=>exact Gone.congr h3 hl (hj _ (by omega) (by omega) (hne _ (by omega)))
structure Half (Rel:Ob→Ob→Prop)(X:List Nat)(bo eo:Nat)(old:List (Nat × Ob × Option Nat))(bn en:Nat)(cur:List (Nat × Ob)):Prop where
  ol:OldL X bo eo old
  cl:Laid X bn en cur
  gone:∀i,i<old.length→∀t,(old.getD i oo).2.2=some t→∃j,j<cur.length∧begs bn cur j=t∧Rel (old.getD i oo).2.1 (cur.getD j (0,Ob.new 0 0 false false 0)).2
  inj:∀i j t,i<old.length→j<old.length→(old.getD i oo).2.2=some t→(old.getD j oo).2.2=some t→i=j
theorem getD_snoc {α:Type}(l:List α)(x d:α){i:Nat}(h:i<l.length):(l++[x]).getD i d=l.getD i d:=by simp[List.getD,List.getElem?_append,h]
theorem getD_snoc' {α:Type}(l:List α)(x d:α):(l++[x]).getD l.length d=x:=by simp[List.getD]
theorem begs_snoc (b:Nat)(l:List (Nat × Ob))(x:Nat × Ob):∀ {i:Nat},i≤l.length→begs b (l++[x]) i=begs b l i
  | 0,_=>rfl
  | i+1,h=>by
    show begs b (l++[x]) i+_=begs b l i+_;rw[begs_snoc b l x (by omega),getD_snoc l x _ (by omega)]
theorem Half.go {Rel:Ob→Ob→Prop}(hrel:∀o,Rel o o){X:List Nat}{bo eo:Nat}{old:List (Nat × Ob × Option Nat)}{bn en:Nat}{cur:List (Nat × Ob)}(h:Half Rel X bo eo old bn en cur){i:Nat}(hi:i<old.length){a:Nat}{o:Ob}(hg:old.getD i oo=(a,o,none))
    {lim:Nat} (hlim:en+o.took≤lim) (hX:lim≤X.length) (hap:eo≤bn∨lim≤bo) (h1:1≤en) (h2:en≤131072) :
    Half Rel (cpd X a en o.size) bo eo (old.set i (a,o,some en)) bn (en+o.took) (cur++[(en,o)])∧At X a o:=by
  have hat:=OldL.at h.ol i hi;rw[hg] at hat;obtain⟨k1,k2,k3,k4⟩:=hat;have k1:bo≤a:=k1;have k2:a+o.took≤eo:=k2;have k3:o.Ok:=k3;have k4:At X a o:=k4;have hend:=Lie.end h.cl.lie;have hbn:bn≤en:=by rw[←hend];exact begs_ge _ _ _
  obtain⟨_,q2,q3,_⟩:=Ob.took_eq k3;have hr:en+o.size≤X.length:=by omega
  have hd:a+o.size≤en∨en+o.size≤a:=by omega
  have hal:=k4.lt;have hlen:=cpd_length (xs:=X) (a:=a) hr;have hA:=cpd_at k4 hr hd;have hG:=cpd_gone k4 hr h1 h2;have hw:=cpd_getD (a:=a) hr hal;generalize cpd X a en o.size=Y at *;refine⟨⟨?_,?_,?_,?_⟩,k4⟩
  · have:=OldL.go (Y:=Y) hlen (t:=en) h.ol hi (by rw[hg];exact hG) (fun j j1 j2 j3=>by
      rw[hg] at j3;have j3:j≠a:=j3
      rw[hw,if_neg j3,if_neg (by omega)])
    rw[hg] at this;exact this
  · refine Laid.snoc (Laid.congr hlen h.cl (fun j j1 j2=>?_)) hA;rw[hw,if_neg (by omega),if_neg (by omega)]
  · intro j hj t ht;rw[List.length_set] at hj
    by_cases e:j=i
    · subst e;have this:(old.set j (a,o,some en)).getD j oo=(a,o,some en):=by simp[List.getD,hj]
      rw[this] at ht;have ht:some en=some t:=ht;injection ht with ht
      subst ht;exact⟨cur.length,by simp,by rw[begs_snoc _ _ _ (Nat.le_refl _)];exact hend,by rw[getD_snoc',this];exact hrel o⟩
    · have:(old.set i (a,o,some en)).getD j oo=old.getD j oo:=by simp[List.getD,List.getElem?_set_ne (Ne.symm e)]
      rw[this] at ht ⊢;obtain⟨k,k5,k6,k7⟩:=h.gone j hj t ht;exact⟨k,by simp;omega,by rw[begs_snoc _ _ _ (by omega)];exact k6,by rw[getD_snoc _ _ _ k5];exact k7⟩
  · have hlow:∀j,j<old.length→(old.getD j oo).2.2≠some en:=fun j hj e=>by
      obtain⟨k,k5,k6,_⟩:=h.gone j hj en e;obtain⟨_,k8,_,k9⟩:=Lie.at h.cl.lie k k5;obtain⟨_,_,k10,_⟩:=Ob.took_eq k8;have:begs bn cur k+(cur.getD k (0,Ob.new 0 0 false false 0)).2.took≤en:=k9;omega
    have hset:∀j,j<old.length→j≠i→(old.set i (a,o,some en)).getD j oo=old.getD j oo:=fun j hj e=>by simp[List.getD,List.getElem?_set_ne (Ne.symm e)]
    have hself:(old.set i (a,o,some en)).getD i oo=(a,o,some en):=by simp[List.getD,hi]
    intro j k t hj hk h3 h4;rw[List.length_set] at hj hk
    by_cases e1:j=i
    · by_cases e2:k=i
      · rw[e1,e2]
      · rw[e1,hself] at h3;rw[hset k hk e2] at h4;have h3:some en=some t:=h3;injection h3 with h3;subst h3
        exact absurd h4 (hlow k hk)
    · rw[hset j hj e1] at h3
      by_cases e2:k=i
      · rw[e2,hself] at h4;have h4:some en=some t:=h4;injection h4 with h4;subst h4
        exact absurd h3 (hlow j hj)
      · rw[hset k hk e2] at h4;exact h.inj j k t hj hk h3 h4
def owed:List (Nat × Ob × Option Nat)→Nat
  | []=>0
  | (_,o,none)::l=>o.took+owed l
  | (_,_,some _)::l=>owed l
theorem owed_go {t:Nat} : ∀ {l:List (Nat × Ob × Option Nat)} {i:Nat} {a:Nat} {o:Ob},i<l.length→l.getD i oo=(a,o,none)→owed (l.set i (a,o,some t))+o.took=owed l
  | (a',o',m)::l,0,a,o,_,h=>by
    have h:(a',o',m)=(a,o,none):=h;injection h with h1 h2;injection h2 with h2 h3;subst h1;subst h2;subst h3
    show owed l+o'.took=o'.took+owed l;omega
  | (a',o',m)::l,i+1,a,o,hi,h=>by
    have ih:=owed_go (t:=t) (l:=l) (i:=i) (a:=a) (o:=o) (by simpa using hi) h
    cases m with
    | none=>show o'.took+owed (l.set i (a,o,some t))+o.took=o'.took+owed l;omega
    | some t'=>exact ih
theorem Half.start {Rel:Ob→Ob→Prop}{X:List Nat}{b e bn:Nat}{l:List (Nat × Ob)}(h:Laid X b e l):Half Rel X b e (l.map fun x=>(x.1,x.2,none)) bn bn []:=by
  have hn:∀i,i<(l.map fun x:Nat × Ob=>(x.1,x.2,(none:Option Nat))).length→((l.map fun x:Nat × Ob=>(x.1,x.2,(none:Option Nat))).getD i oo).2.2=none:=fun i hi=>by
    have:i<l.length:=by simpa using hi
    simp[List.getD,this]
  exact⟨OldL.of_laid h,rfl,(fun i hi t ht=>by rw[hn i hi] at ht;cases ht),(fun i j t hi hj h1 h2=>by rw[hn i hi] at h1;cases h1)⟩
abbrev o0:Nat × Ob:=(0,Ob.new 0 0 false false 0)
theorem Laid.upd {X X':List Nat}{o':Ob}(hl:X'.length=X.length):∀ {ls:List (Nat × Ob)} {b e i:Nat},Laid X b e ls→i<ls.length→At X' (begs b ls i) o'→o'.took=(ls.getD i o0).2.took →
    (∀j,j<begs b ls i∨begs b ls i+o'.took≤j→X'.getD j 0=X.getD j 0)→Laid X' b e (ls.set i (begs b ls i,o'))
  | (a,o)::ls,b,e,0,⟨h1,h2,h3⟩,_,ha,ht,hj=>by
    have ht:o'.took=o.took:=ht;show Laid X' b e ((b,o')::ls);refine⟨rfl,ha,?_⟩;rw[ht];exact Laid.congr hl h3 (fun j k1 k2=>hj j (.inr (by show b+o'.took≤j;omega)))
  | (a,o)::ls,b,e,i+1,⟨h1,h2,h3⟩,hi,ha,ht,hj=>by
    rw[begs_cons] at ha hj ⊢;have hb:b+o.took≤begs (b+o.took) ls i:=begs_ge _ _ _;have hr:=h2.room;obtain⟨_,q2,_,_⟩:=Ob.took_eq h2.ok;refine⟨h1,h2.of_eq (by rw[hl];exact hr) (fun k hk=>hj _ (.inl (by simp only at hb ⊢;omega))),?_⟩;exact Laid.upd hl h3 (by simpa using hi) ha ht hj
theorem getD_set_self {α:Type}(l:List α){i:Nat}(x d:α)(h:i<l.length):(l.set i x).getD i d=x:=by simp[List.getD,h]
theorem getD_set_ne {α:Type}(l:List α){i j:Nat}(x d:α)(h:i≠j):(l.set i x).getD j d=l.getD j d:=by simp[List.getD,List.getElem?_set_ne h]
end
section
open Go.RowKit Go.Maps
end
section
open Go.RowKit Go.Maps
end
section
open Go.RowKit Go.Shelf
def InB (v:Value)(b:Nat):Prop:=v.ownBlock=some b
def Aprt (a b:Value):Prop:=∀k,InB a k→¬InB b k
theorem InB.nil (b:Nat):¬InB (.slice none 0 0) b:=by simp[InB,Value.ownBlock]
theorem InB.mk {g n c b:Nat} : InB (.slice (some ⟨g,0,none⟩) n c) b↔b=g:=by simp[InB,Value.ownBlock,eq_comm]
theorem InB.mk1 {g n c b:Nat}(h:InB (.slice (some ⟨g,0,none⟩) n c) b):b=g:=InB.mk.1 h
theorem ORow.lt {w:World}{base:Nat}{v:Value}{l:List Int}(h:ORow w base v l){b:Nat}(hb:InB v b):base≤b∧b<w.heap.size:=World.ownsRow.lt h b hb
theorem ORow.frB {S:Nat→Prop}{w w':World}{base:Nat}{v:Value}{l:List Int}(h:ORow w base v l)(f:Fr S w w')(hs:∀b,InB v b→¬S b):ORow w' base v l:=by
  refine⟨h.1,?_⟩;rcases h.2 with hn|⟨g,cap,cur,hv,hb,hgg,rest⟩
  · exact .inl hn
  · exact .inr ⟨g,cap,cur,hv,hb,f.heapAt hgg (hs _ (by rw[hv];rfl)),rest⟩
theorem ORow.base {w:World}{base base':Nat}{v:Value}{l:List Int}(h:ORow w base v l)(hb:∀b,InB v b→base'≤b):ORow w base' v l:=by
  refine⟨h.1,?_⟩;rcases h.2 with hn|⟨g,cap,cur,hv,hb',rest⟩
  · exact .inl hn
  · exact .inr ⟨g,cap,cur,hv,hb _ (by rw[hv];rfl),rest⟩
theorem ORow.get {w:World}{base:Nat}{v:Value}{l:List Int}(h:ORow w base v l){k:Nat}(hk:k<l.length):∃g c,v = .slice (some ⟨g,0,none⟩) l.length c∧base≤g∧Own w g k (vI (l.getD k 0)):=by
  obtain⟨hl,⟨_,h0⟩|⟨g,cap,cur,rfl,hb,hg,hn,hcm,hcur,hx⟩⟩:=h
  · omega
  · refine⟨g,cap,rfl,hb,?_,?_⟩
    · have h2:cur.toList[k]?=(iVs l)[k]?:=by rw[←hx,List.getElem?_take];simp;omega
      have:w.cell? ⟨g,k,none⟩=cur[k]?:=by simp[World.cell?,hg]
      rw[this,←Array.getElem?_toList,h2];simp[hk]
    · simp[World.frozen?,hg]
theorem ORow.set {w:World}{base:Nat}{l:List Int}{g n c:Nat}(h:ORow w base (.slice (some ⟨g,0,none⟩) n c) l){k:Nat}(hk:k<l.length)(y:Int):ORow (w.setCell ⟨g,k,none⟩ (vI y)) base (.slice (some ⟨g,0,none⟩) n c) (l.set k y):=by
  obtain⟨hl,⟨h1,h0⟩|⟨g',cap,cur,hv,hb,hg,hn,hcm,hcur,hx⟩⟩:=h
  · cases h1
  · cases hv;refine⟨by simp,.inr ⟨g,c,cur.set! k (vI y),by simp,hb,?_,by simpa using hn,hcm,by simpa using hcur,?_⟩⟩
    · have hlt:g<w.heap.size:=(Array.getElem?_eq_some_iff.1 hg).1;rw[heap_setCell_same _ _ _ _ _ _ hg];simp
    · have hc:k<cur.size:=by rw[hcur];omega
      simp only[Array.set!_eq_setIfInBounds,Array.toList_setIfInBounds,List.length_set,iVs,List.map_set];have hx':=hx;simp only[iVs] at hx';rw[List.take_set,hx']
theorem Own.calm {w w':World}{b i:Nat}{v:Value}(h:Own w b i v)(f:Calm w w'):Own w' b i v:=h.fr f id
theorem fr_of_grown1 {w w':World}{v:Value}{o:Obj}(hg:(w.alloc o).grownBy w' v.ownBlock):Fr (InB v) w w':=
  Fr.grown (Fr.alloc (Fr.refl _ _) _) hg (fun k hk=>.inl hk)
theorem wpList_app1 {ops:Array Oper}{rest:List Oper}{o:Oper}{a:Act}{Q:Exit→Act→World→Prop}{w:World}(hgd:o.guard=none)(s x:Operand)
    (ho:o.op = .call { callee:=.builtin .append,args:=#[s,x],argTypes:=#[23,23] })
    (base:Nat) (v:Value) (l:List Int) (hown:ORow w base v l) (hs:a.eval s=v) (y:Int) (hx:a.eval x = .slice (some ⟨w.heap.size,0,none⟩) 1 1) (hl:l.length≤1000000) (hbase:base≤w.heap.size)
    (h:∀g c w',ORow w' base (.slice (some ⟨g,0,none⟩) (l.length+1) c) (l++[y])→Fr (InB v) w w'→(InB v g∨w.heap.size≤g)→wpList Tryz.prog ops Q rest (a.put o.dst (.slice (some ⟨g,0,none⟩) (l.length+1) c)) w') :
    wpList Tryz.prog ops Q (o::rest) a (w.alloc (.cells #[vI y] 3)):=by
  obtain⟨i0,hi,hz0,hz1,hz2⟩:=info_parts info_int;refine wpList_append_own_at _ hgd s x 23 ho base 3 i0 (vI 0) 1 8 Tryz.underlying23 hi hz0 hz1 hz2 rfl (by decide) v l.length (iVs l) hs (World.ownsRow.alloc hown _) ⟨w.heap.size,0,none⟩ 1 1 [vI y] hx rfl (cell_one_new _ _ _) (by simp[Value.oneCell']) (by unfold maxLen;omega) (by omega) (by simp;omega) ?_;intro v' w' hown' hgrow _ hloc;obtain⟨g,c,rfl⟩:=ownsRow_succ hown';refine h g c w' ?_ (fr_of_grown1 hgrow) ?_
  · show World.ownsRow _ _ _ _ _ _ _;rw[List.length_append,iVs,List.map_append];exact hown'
  · rcases hloc with hloc|hloc
    · exact .inl (hloc.symm.trans rfl)
    · right;simp[Value.ownBlock] at hloc;omega
theorem wpList_app1b {ops:Array Oper}{rest:List Oper}{o:Oper}{a:Act}{Q:Exit→Act→World→Prop}{w:World}(hgd:o.guard=none)(s x:Operand)
    (ho:o.op = .call { callee:=.builtin .append,args:=#[s,x],argTypes:=#[23,23] })
    (base:Nat) (v:Value) (l:List Int) (hown:ORow w base v l) (hs:a.eval s=v) (y:Int) (nb:Nat) (hx:a.eval x = .slice (some ⟨nb,0,none⟩) 1 1) (hnb:nb=w.heap.size) (hl:l.length≤1000000) (hbase:base≤w.heap.size)
    (h:∀g c w',ORow w' base (.slice (some ⟨g,0,none⟩) (l.length+1) c) (l++[y])→Fr (InB v) w w'→(InB v g∨w.heap.size≤g)→wpList Tryz.prog ops Q rest (a.put o.dst (.slice (some ⟨g,0,none⟩) (l.length+1) c)) w') :
    wpList Tryz.prog ops Q (o::rest) a (w.alloc (.cells #[vI y] 3)):=by
  subst hnb;exact wpList_app1 hgd s x ho base v l hown hs y hx hl hbase h
end
section
open Go.RowKit Go.Shelf
theorem run_app_none {w:World}{base:Nat}{v:Value}{l:List Int}(hown:ORow w base v l)(ty:TypeId)(c:Nat):(Builtin.append_ #[23,23] ty #[v,.slice none 0 c]).run Tryz.prog w = .ok v w:=by
  obtain⟨i0,hi,hz0,hz1,hz2⟩:=info_parts info_int;rcases hown.2 with ⟨rfl,_⟩|⟨g,cap,cur,rfl,_,_,hn,_⟩
  · simp[Builtin.append_,run_underlying Tryz.underlying23,sizeOf,typeInfo,hi,Builtin.lenOf,Builtin.firstCells]
  · simp[Builtin.append_,run_underlying Tryz.underlying23,sizeOf,typeInfo,hi,Builtin.lenOf,Builtin.firstCells,hn,storeCells]
theorem wpList_appL {ops:Array Oper}{rest:List Oper}{o:Oper}{a:Act}{Q:Exit→Act→World→Prop}{w:World}(hgd:o.guard=none)(s x:Operand)
    (ho:o.op = .call { callee:=.builtin .append,args:=#[s,x],argTypes:=#[23,23] })
    (base:Nat) (v:Value) (l:List Int) (hown:ORow w base v l) (hs:a.eval s=v) (u:Value) (r:List Int) (hr:Row w u (iVs r)) (hx:a.eval x=u) (hl:l.length+r.length≤1000000) (hbase:base≤w.heap.size)
    (h:∀v' w',ORow w' base v' (l++r)→Fr (InB v) w w'→(∀b,InB v' b→InB v b∨w.heap.size≤b)→wpList Tryz.prog ops Q rest (a.put o.dst v') w') :
    wpList Tryz.prog ops Q (o::rest) a w:=by
  obtain⟨A,c,rfl,hA⟩:=hr;have hlen:(iVs r).length=r.length:=by simp
  rw[hlen] at hx;rcases A with _|ad
  · obtain rfl:r=[]:=by
      rcases hA with hA|⟨b,off,hb,_⟩
      · simpa using hA
      · cases hb
    refine wpList_plain hgd fun K hK=>?_;have hrun:=run_app_none hown o.type c;unfold Oper.wp execOp;simp only[ho,resolve,invoke,builtin,Sem.run_bind,Sem.run_pure,Result.andThen_ok,List.map_toArray,List.map_cons,List.map_nil,hs,hx,List.length_nil,hrun];exact hK _ _ (h v w (by simpa using hown) (Fr.refl _ _) (fun b hb=>.inl hb))
  · obtain⟨i0,hi,hz0,hz1,hz2⟩:=info_parts info_int;refine wpList_append_own_at _ hgd s x 23 ho base 3 i0 (vI 0) 1 8 Tryz.underlying23 hi hz0 hz1 hz2 rfl (by decide) v l.length (iVs l) hs hown ad r.length c (iVs r) hx (by simp) ?_ (by simp[Value.oneCell']) (by unfold maxLen;omega) (by omega) hbase ?_
    · intro j y hj;have hjl:j<(iVs r).length:=(List.getElem?_eq_some_iff.1 hj).1;rcases hA with hA|⟨b,off,hb,hc⟩
      · rw[hA] at hjl;simp at hjl
      · cases hb;rw[addr_at,hc j hjl];rw[List.getElem?_eq_getElem hjl] at hj;exact hj
    · intro v' w' hown' hgrow _ hloc;refine h v' w' ?_ (Fr.grown (Fr.refl _ _) hgrow (fun k hk=>.inl hk)) ?_
      · show World.ownsRow _ _ _ _ _ _ _;rw[List.length_append,iVs,List.map_append];exact hown'
      · intro b hb;rcases hloc with hloc|hloc
        · exact .inl (hloc.symm.trans hb)
        · right;have:some w.heap.size=some b:=hloc.symm.trans hb;injection this with this;omega
end
section
open Go.RowKit Go.Shelf Go.Maps
end
section
open Go.RowKit Go.Shelf Go.Maps
theorem Row.loop {w:World}{v:Value}{l:List Int}(h:Row w v (iVs l)):∃a c,v = .slice a l.length c∧∀k,k<l.length→∃b off,a=some ⟨b,off,none⟩∧b<w.heap.size∧w.cell? ⟨b,off+k,none⟩=some (vI (l.getD k 0)):=by
  obtain⟨a,cap,hv,h⟩:=h;refine⟨a,cap,by simpa using hv,fun k hk=>?_⟩;rcases h with h|⟨b,off,ha,hc⟩
  · simp at h;subst h;simp at hk
  · have:=hc k (by simpa using hk);refine⟨b,off,ha,World.block_lt_of_cell? w _ this,?_⟩;rw[this];simp[List.getD,hk]
end
end Go.Proofs.YtdffnjikmkgjkaaGreat
