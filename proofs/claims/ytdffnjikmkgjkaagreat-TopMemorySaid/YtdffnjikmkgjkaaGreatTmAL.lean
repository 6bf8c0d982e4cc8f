/- TopMemory: a part of its proof (Pls5 Clk St St1 St2 St3 St4). -/
import Derived.Laws.LoneSync
import Derived.Deep.RegionHeld3
import Derived.Test.YtdffnjikmkgjkaaGreatTmAA
import Derived.Test.YtdffnjikmkgjkaaGreatTmAK
import Derived.Test.YtdffnjikmkgjkaaGreatTmAI
set_option linter.unusedSimpArgs false
set_option linter.unusedVariables false
set_option maxHeartbeats 4000000
namespace Go.Proofs.YtdffnjikmkgjkaaGreat
section
open Go.RowKit Go.Shelf
structure RcI (w:World)(lp bu:Nat)(L:LogD)(v:Value)(X:Nat→Prop)(k:Nat)(W:World):Prop where
  n:Own W (w.heap.size+1) 0 (vI k)
  v:Own W w.heap.size 0 v
  c:Calm w W
  q:PlQ (w.heap.size+2) lp bu L W
  x:∀b,X b→b≠w.heap.size∧b≠w.heap.size+1
theorem RcI.loops {w A B:World}{lp bu:Nat}{L:LogD}{v:Value}{X:Nat→Prop}{k:Nat}(h:RcI w lp bu L v X k A)(f:Fr (fun b=>b=w.heap.size+3∨b=w.heap.size+3+1) A B)(h2:lp<w.heap.size)(h3:0<L.undos.length→bu<w.heap.size):RcI w lp bu L v X k B:=
  ⟨h.n.fr f (by omega),h.v.fr f (by omega),h.c.join f (fun j hj e=>by omega),h.q.fr f (by omega) (by omega) (fun h0 e=>by have:=h3 h0;omega),h.x⟩
theorem RcI.grow {w A:World}{lp bu:Nat}{L:LogD}{v:Value}{X:Nat→Prop}{k:Nat}{o:Obj}(h:RcI w lp bu L v X k A):RcI w lp bu L v (fun b=>X b∨b=A.heap.size) k (A.alloc o):=by
  have f:Calm A (A.alloc o):=(Fr.refl _ _).alloc _;have:=h.n.lt;refine⟨h.n.calm f,h.v.calm f,h.c.trans f,h.q.fr f id id (fun _=>id),fun b hb=>?_⟩;rcases hb with hb|rfl
  · exact h.x b hb
  · omega
def RcI1 (w:World)(lp bu:Nat)(L:LogD)(v:Value)(E:Nat→Ad)(X:Nat→Prop)(k:Nat)(a:Act)(W:World):Prop:=
  RcI w lp bu L v X k W∧a = { tmps:=#[pV lp,v,undef,.pointer (some ⟨w.heap.size,0,none⟩),.bool false,.pointer (some ⟨w.heap.size+1,0,none⟩),undef,undef,pV lp,
    .func (.func 113) #[] #[.pointer (some ⟨w.heap.size+2,0,none⟩)],.pointer (some ⟨(E k).1,(E k).2,none⟩),undef,undef,undef,undef,undef,undef,undef,undef,undef,undef,undef,undef,undef,undef,undef,undef,undef],defers:=[] }
theorem LRows.plq {τ:Nat→Nat}{g lp cb bu:Nat}{L L':LogD}{W:World}(h:LRows τ g W lp L')(hs:LSame L L')(su:Slc L.vu L.undos.length bu)(hc:W.cell? ⟨cb,0,none⟩=some (pV lp)):PlQ cb lp bu L W:=by
  refine⟨hc,hs.vr ▸ (h.c 2 _ rfl).1,hs.vk ▸ (h.c 3 _ rfl).1,hs.vh ▸ (h.c 4 _ rfl).1,hs.vu ▸ (h.c 5 _ rfl).1,fun j hj=>?_⟩;obtain⟨a,c,hv,ha⟩:=su;obtain⟨b,c2,hv2,ho⟩:=rows_get udC_len (by decide) h.u dU (i:=j) (by have:=hs.lu;omega);rw[hs.vu,hv,ha (by omega)] at hv2;injection hv2 with e1;injection e1 with e1;injection e1 with e1;subst e1
  have:=(ho 0 _ rfl).1;rw[Nat.add_zero,hs.kd] at this;exact this
structure RwI (w:World)(τ:Nat→Nat)(g lp bu:Nat)(L:LogD)(v:Value)(C:Nat)(X:Nat→Prop)(k:Nat)(W:World):Prop where
  le:w.heap.size+3<C
  n:Own W C 0 (vI k)
  v:Own W w.heap.size 0 v
  f:Fr (fun b=>g+2≤τ b∧τ b≤g+5) w W
  q:PlQ (C+1) lp bu L W
  d:W.heap[w.heap.size+3]?=some (.deferred (some []))
  l:∃L',LSame L L'∧LOk L'∧LRows τ g W lp L'
  x:∀b,X b→b≠w.heap.size∧w.heap.size≤b∧b≠C∧b≠C+1
theorem RwI.loops {w A B:World}{τ:Nat→Nat}{g lp bu:Nat}{L:LogD}{v:Value}{C:Nat}{X:Nat→Prop}{k:Nat}(h:RwI w τ g lp bu L v C X k A)(f:Fr (fun b=>b=C+2∨b=C+2+1) A B)(h2:lp<w.heap.size)(h3:0<L.undos.length→bu<w.heap.size)(hg:g≤400)(ht:∀b,w.heap.size≤b→τ b=1000):RwI w τ g lp bu L v C X k B:=by
  have hle:=h.le;obtain⟨L',l1,l2,l3⟩:=h.l;exact⟨hle,h.n.fr f (by omega),h.v.fr f (by omega),h.f.join f (fun j hj e=>by omega),h.q.fr f (by omega) (by omega) (fun h0 e=>by have:=h3 h0;omega),f.heapAt h.d (by omega),⟨L',l1,l2,l3.fr f (fun b _ h4 h5 e=>by have:=ht b (by omega);omega)⟩,h.x⟩
theorem RwI.grow {w A:World}{τ:Nat→Nat}{g lp bu:Nat}{L:LogD}{v:Value}{C:Nat}{X:Nat→Prop}{k:Nat}{o:Obj}(h:RwI w τ g lp bu L v C X k A):RwI w τ g lp bu L v C (fun b=>X b∨b=A.heap.size) k (A.alloc o):=by
  have f:Calm A (A.alloc o):=(Fr.refl _ _).alloc _;have:=h.n.lt;have hle:=h.le;have hq:C+1<A.heap.size:=World.block_lt_of_cell? _ _ h.q.c;obtain⟨L',l1,l2,l3⟩:=h.l;refine⟨h.le,h.n.calm f,h.v.calm f,h.f.alloc _,h.q.fr f id id (fun _=>id),f.heapAt h.d id,⟨L',l1,l2,l3.fr f (fun _ _ _ _=>id)⟩,fun b hb=>?_⟩;rcases hb with hb|rfl
  · exact h.x b hb
  · omega
def RwI1 (w:World)(τ:Nat→Nat)(g lp bu:Nat)(L:LogD)(va:Option Addr)(N vc C:Nat)(E:Nat→Ad)(X:Nat→Prop)(k:Nat)(a:Act)(W:World):Prop:=
  RwI w τ g lp bu L (.slice va N vc) C X k W∧a = { tmps:=#[pV lp,.slice va N vc,undef,.pointer (some ⟨w.heap.size,0,none⟩),.bool false,.pointer (some ⟨w.heap.size+1,0,none⟩),.pointer (some ⟨C,0,none⟩),.pointer (some ⟨(E k).1,(E k).2,none⟩),pV lp,
    .func (.func 113) #[] #[.pointer (some ⟨w.heap.size+1+1,0,none⟩)],undef,undef,undef,vI N,.slice va N vc,vI N,.bool false,pV lp,
    .func (.func 113) #[] #[.pointer (some ⟨C+1,0,none⟩)],.pointer (some ⟨(E k).1,(E k).2,none⟩),undef,undef,undef,undef,undef,undef,undef,undef],defers:=[] }
theorem KeepT.retag {w w':World}{τ τ' τ2:Nat→Nat}(h:KeepT w τ' w' τ2)(t:TagK w τ τ'):KeepT w τ w' τ2:=⟨h.fr.mono (fun k hk e=>by rw[t k hk] at e;exact e),fun k hk=>(h.tg k hk).trans (t k hk)⟩
def ReplPost (w:World)(τ:Nat→Nat)(M:Mem)(g lp:Nat)(L:LogD)(e:Ending)(w':World):Prop:=
  e = .returned (.bool true)∧∃L' M' τ',LSame L L'∧LOk L'∧Hold w' τ' M'∧LogIn M' g lp L'∧Mem.Only (fun t=>g+2≤t∧t≤g+5) M M'∧KeepT w τ w' τ'
set_option maxRecDepth 4000 in
theorem log_replace {w:World}{τ:Nat→Nat}{M:Mem}{g lp:Nat}{L:LogD}(h:Hold w τ M)(hl:LogIn M g lp L)(hg:g≤400)(ho:LOk L)
    (hf:L.reads.length≤100000∧L.keeps.length≤100000∧L.holds.length≤100000∧L.undos.length≤100000)
    {v:Value} {vs:List Nat} (hv:Row w v (iVs (nI vs))) (hvn:vs.length=L.roots.length) (hvl:∀p∈vs,p≤131072) (hvt:∀b,inRow v b→500≤τ b) :
    Calls Tryz.prog 44 #[pV lp,v] w (ReplPost w τ M g lp L):=by
  obtain⟨τ0,h',htk,ht⟩:=h.fresh 1000
  suffices hh:Calls Tryz.prog 44 #[pV lp,v] w (ReplPost w τ0 M g lp L) from hh.mono (by
    rintro e w' ⟨h1,L',M',τ2,h2,h3,h4,h5,h6,h7⟩
    exact⟨h1,L',M',τ2,h2,h3,h4,h5,h6,h7.retag htk⟩)
  replace hvt:∀b,inRow v b→500≤τ0 b:=fun b hb=>by
    by_cases e:b<w.heap.size
    · rw[htk b e];exact hvt b hb
    · rw[ht b (by omega)];omega
  clear htk;replace h:=h';clear h';obtain⟨br,bk,bh,bu,HB⟩:=hl.blks h;have hc:=hl.cells h;have hlp:lp<w.heap.size:=hc.lt (by simp);have hbu:0<L.undos.length→bu<w.heap.size:=fun h0=>(HB.cu 0 h0 0 _ rfl).lt;have hrl:=roots_len (L:=L) (br:=br) (bk:=bk) (bh:=bh) (bu:=bu)
  have hul:(ua bu L.undos L.undos.length).length≤200000:=by
    have:∀m,(ua bu L.undos m).length≤2*m:=by
      intro m;induction m with
      | zero=>simp[ua]
      | succ m ih=>rw[ua,List.length_append];split <;> simp <;> omega
    have:=this L.undos.length;omega
  have hNl:(plsA L br bk bh bu).length≤600000:=by rw[pls_len];omega
  have PQ:∀W cb,Calm w W→W.cell? ⟨cb,0,none⟩=some (pV lp)→PlQ cb lp bu L W:=fun W cb c h1=>
    ⟨h1,c.cellAt (hc 2 _ rfl).1 id,c.cellAt (hc 3 _ rfl).1 id,c.cellAt (hc 4 _ rfl).1 id,c.cellAt (hc 5 _ rfl).1 id,fun j hj=>by have:=c.cellAt (HB.cu j hj 0 _ rfl).1 id;rwa [Nat.add_zero] at this⟩
  obtain⟨N,hN⟩:∃N,(plsA L br bk bh bu).length=N:=⟨_,rfl⟩;rw[hN] at hNl hrl
  obtain⟨va,vc,hvv,hvx⟩:∃a c,v = .slice a N c∧∀i,i<N→∃b off,a=some ⟨b,off,none⟩∧w.cell? ⟨b,off+i,none⟩=some (vI (vs.getD i 0:Nat)):=by
    obtain⟨a,c,h1,h2⟩:=hv.at;have e:(iVs (nI vs)).length=N:=by simp;omega
    refine⟨a,c,by rw[h1,e],fun i hi=>?_⟩;obtain⟨b,off,h3,h4⟩:=h2 i (by omega);refine⟨b,off,h3,h4.trans ?_⟩;have:i<vs.length:=by omega
    simp[List.getD_eq_getElem?_getD,this]
  have hNh:=hid hN;have hvn':=hid (hvn.trans hrl);have hrow:=hid hv;clear hv hvn hrl hul;subst hvv;refine(callsIn_wide (n:=9)).1 ?_;refine callsIn_of_wp_marks Tryz.func44 rfl trivial ?_ rfl;simp only[Tryz.ntmps44,List.size_toArray,List.length_cons,List.length_nil,Nat.reduceAdd,Nat.reduceSub,Array.replicate_succ,Array.replicate_zero,List.push_toArray,List.append_toArray,List.nil_append,List.cons_append]
  gi_wp2_with (refine⟨trivial,?_⟩;gi_at_call 69;refine(places_in _ _ _ lp trivial rfl).mono ?_;rintro e w' ⟨rfl,rfl⟩)
  have hsz0:(((w.alloc (.cells #[.slice va N vc] 23)).alloc (.cells #[vI 0] 3)).alloc (.cells #[pV lp] 96)).heap.size=w.heap.size+3:=by simp
  have i1:Own (((w.alloc (.cells #[.slice va N vc] 23)).alloc (.cells #[vI 0] 3)).alloc (.cells #[pV lp] 96)) w.heap.size 0 (.slice va N vc):=((Own.new w _ _ 0 rfl).alloc _).alloc _;have i2:Own (((w.alloc (.cells #[.slice va N vc] 23)).alloc (.cells #[vI 0] 3)).alloc (.cells #[pV lp] 96)) (w.heap.size+1) 0 (vI (0:Nat)):=(Own.at (w.alloc _) _ _ _ 0 (by simp) rfl).alloc _;have i3:Own (((w.alloc (.cells #[.slice va N vc] 23)).alloc (.cells #[vI 0] 3)).alloc (.cells #[pV lp] 96)) (w.heap.size+2) 0 (pV lp):=Own.at ((w.alloc _).alloc _) _ _ _ 0 (by simp) rfl;have i5:Calm w (((w.alloc (.cells #[.slice va N vc] 23)).alloc (.cells #[vI 0] 3)).alloc (.cells #[pV lp] 96)):=(((Fr.refl _ w).alloc _).alloc _).alloc _;generalize hW0:(((w.alloc (.cells #[.slice va N vc] 23)).alloc (.cells #[vI 0] 3)).alloc (.cells #[pV lp] 96))=W0 at hsz0 i1 i2 i3 i5 ⊢;clear hW0;have hsq:∀cb W,SeqAtX (PlQ cb lp bu L) Fence.wide 8 Tryz.prog 113 #[.pointer (some ⟨cb,0,none⟩)] (fun k=>#[.pointer (some ⟨(plE L br bk bh bu k).1,(plE L br bk bh bu k).2,none⟩)]) N true W:=fun cb W=>hNh.out ▸ places_seq 8 (by decide) W cb lp br bk bh bu L HB.sr HB.sk HB.sh HB.su hf
  refine wpIn_rangeX (Qp:=PlQ (w.heap.size+2) lp bu L) (g:=.tmp 9) rfl (by decide) (gf:=113) (lb:=#[.pointer (some ⟨w.heap.size+2,0,none⟩)]) rfl trivial (enters_of Tryz.func113 (by kernel_rfl) rfl)
    (hsq _ W0) (Nat.le_refl _) (fun _=>rfl)
    (RcI w lp bu L (.slice va N vc)) (RcI1 w lp bu L (.slice va N vc) (plE L br bk bh bu)) (fun c W=>False)
    ?hI ?hI1 ?hG ?hQ ?hIx ?hN ?h0 ?assign ?body ?done ?stop
  case hI=>
    rintro X k A A' a hl2;rw[hsz0] at hl2;exact a.loops hl2 hlp hbu
  case hI1=>
    rintro X k a' A A' ⟨a,rfl⟩ hl2;rw[hsz0] at hl2;exact⟨a.loops hl2 hlp hbu,rfl⟩
  case hG=>
    rintro X k A o a -;exact a.grow
  case hQ=>
    rintro X k A a;exact a.q
  case hIx=>
    rintro c A A' h _;exact h
  case hN=>
    rintro h;cases h
  case h0=>exact⟨i2,i1,i5,PQ _ _ i5 i3.1,fun b hb=>hb.elim⟩
  case assign=>
    rintro y X k W hk ha hX hs;clear i1 i2 i3 i5
    gi_wp2
    simp[Oper.semAt,go_sem,Act.eval];exact⟨Keeps.refl _ _,ha,rfl⟩
  case body=>
    rintro y X k a W hk ⟨⟨a1,a2,a4,a5,a6⟩,rfl⟩ hX hs;rw[hsz0] at hs;have b1:=a1.1;have b2:=a1.2;have hlt:=a1.lt;have hV:=frS W (w.heap.size+1) 0 (vI ((k+1:Nat):Int));have j1:=a1.set (vI ((k+1:Nat):Int));have j2:=a2.fr hV (by omega);have j4:Calm w _:=a4.join hV (fun j hj e=>by omega);have j5:=a5.fr hV (by omega) (by omega) (fun h0 e=>by have:=hbu h0;omega)
    have hK:Keeps (fun b=>X b∨b=W0.heap.size∨b=W0.heap.size+1) W (W.setCell ⟨w.heap.size+1,0,none⟩ (vI ((k+1:Nat):Int))):=by
      refine Keeps.of_fr hV ?_;rw[hsz0];rintro b (hb|rfl|rfl)
      · exact⟨hX b hb,(a6 b hb).2⟩
      · omega
      · omega
    have hk1:I64 ((k:Int)+1):=⟨by omega,by omega⟩;have hw1:=hk1;have e9:((k+1:Nat):Int)=(k:Int)+1:=by omega
    clear hV i1 i2 i3 i5
    gi_wp2
    simp[Oper.semAt,go_sem,Act.eval,b1]
    gi_wp2
    simp[Oper.semAt,go_sem,Act.eval,b1];rw[IntWalk.i64_in _ hk1]
    gi_wp2
    simp[Oper.semAt,go_sem,Act.eval,b1,b2]
    gi_wp2
    rw[e9] at hK j1 j2 j4 j5;exact⟨hK,j1,j2,j4,j5,a6⟩
  case done=>
    rintro X W hf2 a hD;rw[hsz0] at hD;obtain⟨a1,a2,a4,a5,a6⟩:=a;have b1:=a1.1;have b2:=a2.1;have b3:=hvn'.out;clear i1 i2 i3 i5
    gi_wp2_with (refine⟨trivial,?_⟩;gi_at_call 69;refine(places_in _ _ _ lp trivial rfl).mono ?_;rintro e w' ⟨rfl,rfl⟩)
    have hsW:w.heap.size+3<W.heap.size:=(Array.getElem?_eq_some_iff.1 hD).1;have hsz1:((W.alloc (.cells #[vI 0] 3)).alloc (.cells #[pV lp] 96)).heap.size=W.heap.size+2:=by simp
    have i1:Own ((W.alloc (.cells #[vI 0] 3)).alloc (.cells #[pV lp] 96)) w.heap.size 0 (.slice va N vc):=(a2.alloc _).alloc _;have i2:Own ((W.alloc (.cells #[vI 0] 3)).alloc (.cells #[pV lp] 96)) W.heap.size 0 (vI (0:Nat)):=(Own.new W _ _ 0 rfl).alloc _;have i3:Own ((W.alloc (.cells #[vI 0] 3)).alloc (.cells #[pV lp] 96)) (W.heap.size+1) 0 (pV lp):=Own.at (W.alloc _) _ _ _ 0 (by simp) rfl;have i5:Calm w ((W.alloc (.cells #[vI 0] 3)).alloc (.cells #[pV lp] 96)):=(a4.alloc _).alloc _;generalize hW1:((W.alloc (.cells #[vI 0] 3)).alloc (.cells #[pV lp] 96))=W1 at hsz1 i1 i2 i3 i5 ⊢;have hDlt:w.heap.size+3<W.heap.size:=(Array.getElem?_eq_some_iff.1 hD).1
    have hD1:W1.heap[w.heap.size+3]?=some (.deferred (some [])):=by
      rw[←hW1,Below.heap_alloc _ _ _ (by simp;omega),Below.heap_alloc _ _ _ (by omega)];exact hD
    clear hW1 a1 a2 a4 a5 a6 b1 b2 hD hf2;generalize W.heap.size=C at *
    refine wpIn_rangeX (Qp:=PlQ (C+1) lp bu L) (g:=.tmp 18) rfl (by decide) (gf:=113) (lb:=#[.pointer (some ⟨C+1,0,none⟩)]) rfl trivial (enters_of Tryz.func113 (by kernel_rfl) rfl)
      (hsq _ W1) (Nat.le_refl _) (fun _=>rfl)
      (RwI w τ0 g lp bu L (.slice va N vc) C) (RwI1 w τ0 g lp bu L va N vc C (plE L br bk bh bu)) (fun c W=>False)
      ?hI2 ?hI12 ?hG2 ?hQ2 ?hIx2 ?hN2 ?h02 ?assign2 ?body2 ?done2 ?stop2
    case hI2=>
      rintro X k A A' a hl2;rw[hsz1] at hl2;exact a.loops hl2 hlp hbu hg ht
    case hI12=>
      rintro X k a' A A' ⟨a,rfl⟩ hl2;rw[hsz1] at hl2;exact⟨a.loops hl2 hlp hbu hg ht,rfl⟩
    case hG2=>
      rintro X k A o a -;exact a.grow
    case hQ2=>
      rintro X k A a;exact a.q
    case hIx2=>
      rintro c A A' h _;exact h
    case hN2=>
      rintro h;cases h
    case h02=>exact⟨hsW,i2,i1,i5.any,PQ _ _ i5 i3.1,hD1,⟨L,LSame.refl L,ho,(LRows.of h hl).fr i5 (fun _ _ _ _=>id)⟩,fun b hb=>hb.elim⟩
    case assign2=>
      rintro y X k W hk ha hX hs;clear i1 i2 i3 i5
      gi_wp2
      simp[Oper.semAt,go_sem,Act.eval]
      gi_wp2
      exact⟨Keeps.refl _ _,ha,rfl⟩
    case body2=>
      rintro y X k a W hk ⟨⟨a0,a1,a2,a3,a4,ad,⟨L1,l1,l2,l3⟩,a6⟩,rfl⟩ hX hs;rw[hsz1] at hs;obtain⟨vb,vo,rfl,hcell⟩:=hvx k hk;have b1:=a1.1;have b2:=a1.2;have b3:=a2.1;have ht1:=hvt vb ⟨_,_,_,rfl⟩;have b4:=a3.cellAt hcell (by show ¬(_∧_);simp only[];omega);have hkv:k<vs.length:=by have:=hvn'.out;omega
      obtain⟨L2,m1,m2,m3,m4,⟨u0,m5⟩,m6,m7⟩:=l3.write l1 l2 HB.sr HB.sk HB.sh HB.su (k:=k) (by have:=hNh.out;omega) (hvl _ (get_mem 0 hkv));clear i1 i2 i3 i5;generalize plE L br bk bh bu k=E at *;generalize vs.getD k 0=P at *;obtain⟨eb,eo⟩:=E;simp only[] at m3 m4 m5 m6 m7;have hk64:(k:Int)<N:=by omega
      have hk0:(0:Int)≤k:=by omega
      gi_wp2
      simp[Oper.semAt,go_sem,Act.eval,b3]
      gi_wp2
      simp[Oper.semAt,go_sem,Act.eval,b1]
      gi_wp2
      simp[Oper.semAt,go_sem,Act.eval,hk]
      gi_wp2
      simp[Oper.semAt,go_sem,Act.eval,b4]
      gi_wp2
      simp[Oper.semAt,go_sem,Act.eval]
      gi_wp2
      simp[Oper.semAt,go_sem,Act.eval,m4,m5];have hE1:eb≠C:=fun e=>by rw[e,ht C (by omega)] at m7;omega
      have hE2:eb≠w.heap.size:=fun e=>by rw[e,ht w.heap.size (by omega)] at m7;omega
      have hE3:eb≠C+1:=fun e=>by rw[e,ht (C+1) (by omega)] at m7;omega
      have hE4:eb≠lp:=fun e=>by have:=l3.t1;rw[e] at m6;omega
      have hE5:eb<w.heap.size:=by
        rcases Nat.lt_or_ge eb w.heap.size with h1|h1
        · exact h1
        · have:=ht eb h1;omega
      have fE:Fr (fun b=>b=eb) W (W.setCell ⟨eb,eo,none⟩ (vI (P:Int))):=(Fr.refl (fun b=>b=eb) W).setCell (p:=⟨eb,eo,none⟩) (.inl rfl) _;have n1:=a1.fr fE (fun e=>hE1 e.symm);have n2:=a2.fr fE (fun e=>hE2 e.symm);have n3:Fr (fun b=>g+2≤τ0 b∧τ0 b≤g+5) w (W.setCell ⟨eb,eo,none⟩ (vI (P:Int))):=a3.setCell (p:=⟨eb,eo,none⟩) (.inl ⟨m6,m7⟩) _;have n4:PlQ (C+1) lp bu L (W.setCell ⟨eb,eo,none⟩ (vI (P:Int))):=m3.plq m1 HB.su (fE.cellAt a4.c (fun e=>hE3 e.symm));have nd:=fE.heapAt ad (show ¬_=_ by omega);have fK:Fr (fun b=>b=eb∨b=C) W (W.setCell ⟨eb,eo,none⟩ (vI (P:Int))):=fE.mono (fun _ _ h=>.inl h);generalize W.setCell ⟨eb,eo,none⟩ (vI (P:Int))=W2 at *;have c1:=n1.1;have c2:=n1.2;have hk1:I64 ((k:Int)+1):=⟨by omega,by omega⟩;have e9:((k+1:Nat):Int)=(k:Int)+1:=by omega
      gi_wp2
      simp[Oper.semAt,go_sem,Act.eval,c1]
      gi_wp2
      simp[Oper.semAt,go_sem,Act.eval];rw[IntWalk.i64_in _ hk1]
      gi_wp2
      simp[Oper.semAt,go_sem,Act.eval,c1,c2]
      gi_wp2
      have fC:=frS W2 (C) 0 (vI ((k:Int)+1));have fL:Fr (fun b=>b=eb∨b=C) W (W2.setCell ⟨C,0,none⟩ (vI ((k:Int)+1))):=fK.setCell (p:=⟨C,0,none⟩) (.inl (.inr rfl)) _
      have hK:Keeps (fun b=>X b∨b=W1.heap.size∨b=W1.heap.size+1) W (W2.setCell ⟨C,0,none⟩ (vI ((k:Int)+1))):=by
        refine Keeps.of_fr fL ?_;rw[hsz1];rintro b (hb|rfl|rfl)
        · exact⟨hX b hb,by have:=a6 b hb;omega⟩
        · omega
        · omega
      have hn1:=n1.set (vI ((k:Int)+1));rw[←e9] at hn1;rw[←e9] at fC hK ⊢;exact⟨hK,hsW,hn1,n2.fr fC (by omega),n3.join fC (fun j hj e=>by omega),n4.fr fC (by omega) (by omega) (fun h0 e=>by have:=hbu h0;omega),fC.heapAt nd (by omega),⟨L2,m1,m2,m3.fr fC (fun b _ h5 h6 e=>by rw[e,ht C (by omega)] at h6;omega)⟩,a6⟩
    case done2=>
      rintro X W hf3 ⟨a0,a1,a2,a3,a4,ad,⟨L1,l1,l2,l3⟩,a6⟩ hD2;rw[hsz1] at hD2;clear i1 i2 i3 i5
      gi_wp2
      have hp1:Fr (fun b=>b=C+2) W (W.putObj (C+2) (.deferred none)):=(Fr.refl (fun b=>b=C+2) W).putObj (.inl rfl) _;have ad2:=hp1.heapAt ad (show ¬_=_ by omega);have hp2:Fr (fun b=>b=w.heap.size+3) (W.putObj (C+2) (.deferred none)) ((W.putObj (C+2) (.deferred none)).putObj (w.heap.size+3) (.deferred none)):=(Fr.refl (fun b=>b=w.heap.size+3) _).putObj (.inl rfl) _;refine⟨by simp,.inl ⟨_,_,rfl,run_takeDeferred hD2,?_⟩⟩;refine⟨by simp,.inl ⟨_,_,rfl,run_takeDeferred ad2,?_⟩⟩;have h3:=(a3.join hp1 (fun j hj e=>by omega)).join hp2 (fun j hj e=>by omega);obtain⟨M',k1,k2,k3,k4⟩:=LRows.mem h hl hg l1 ((l3.fr hp1 (fun b _ h5 h6 e=>by rw[e,ht (C+2) (by omega)] at h6;omega)).fr hp2 (fun b _ h5 h6 e=>by rw[e,ht (w.heap.size+3) (by omega)] at h6;omega)) h3;exact⟨_,results_tmp rfl _ _ _,rfl,L1,M',τ0,l1,l2,k1,k2,k3,k4⟩
    case stop2=>
      rintro c W h;exact h.elim
  case stop=>
    rintro c W h;exact h.elim
end
section
open Go.RowKit Go.Shelf
theorem aload_is {c i:Nat}{now:Int}{w:World}(h:w.cell? ⟨c,i,none⟩=some (vI now)):Calls Tryz.prog 174 #[.pointer (some ⟨c,i,none⟩)] w fun e w'=>e = .returned (vI now)∧w'=w:=by
  have hl:=run_call_load (P:=Tryz.prog) Tryz.func207 (by kernel_rfl) (by kernel_rfl) (by kernel_rfl) .i64 (by kernel_rfl) h;go_enter Tryz.func174,Tryz.ntmps174;go_wp2;go_ret;exact⟨rfl,rfl⟩
theorem acas_is {c i:Nat}{now y:Int}{w:World}(h:w.cell? ⟨c,i,none⟩=some (vI now))(hf:w.frozen? ⟨c,i,none⟩=false):Calls Tryz.prog 180 #[.pointer (some ⟨c,i,none⟩),vI now,vI y] w fun e w'=>e = .returned (.bool true)∧w'=w.setCell ⟨c,i,none⟩ (vI y):=by
  have hl:=run_call_cas_hit (P:=Tryz.prog) Tryz.func210 (by kernel_rfl) (by kernel_rfl) (by kernel_rfl) .i64 (by kernel_rfl) (y:=y) h hf;go_enter Tryz.func180,Tryz.ntmps180;go_wp2;go_ret;exact⟨rfl,rfl⟩
theorem clock_new (w:World)(n:Int):Calls Tryz.prog 33 #[vI n] w fun e w'=>∃m:Int,e = .returned (pV w.heap.size)∧0≤m∧m≤1099511627776∧OwnL w' w.heap.size [vI (0:Nat),vI m]∧Calm w w':=by
  go_enter Tryz.func33,Tryz.ntmps33;go_wp2
  all_goals first
    | (go_ret;exact⟨rfl,_,by omega,by omega,OwnL.new w [vI 0,vI _] _,(Fr.refl _ _).alloc _⟩)
theorem clock_now {w:World}{c:Nat}{now:Int}(h:Own w c 0 (vI now)):Calls Tryz.prog 123 #[pV c] w fun e w'=>e = .returned (vI now)∧w'=w:=by
  have h1:=h.1;go_enter Tryz.func123,Tryz.ntmps123;go_wp2_with (go_at_call 174;refine(aload_is h1).mono ?_;rintro e w' ⟨rfl,rfl⟩)
  go_ret;exact⟨rfl,rfl⟩
def ClkO (now:Nat)(most:Int):Prop:=0≤most∧most≤1099511627776∧now≤1099511627776
theorem clock_may {w:World}{c:Nat}{now:Nat}{most:Int}(h:OwnL w c [vI (now:Int),vI most])(ho:ClkO now most)(n:Nat)(hn:n≤1000):Calls Tryz.prog 122 #[pV c,vI (n:Int)] w fun e w'=>(∃b:Bool,e = .returned (.bool b))∧Calm w w':=by
  have h0:=h 0 _ rfl;have h1:=(h 1 _ rfl).1;obtain⟨o1,o2,o3⟩:=ho;have hw1:IntKind.i64.wrap (most-now)=most-now:=IntWalk.i64_in _ (by omega);have hn0:((0:Int)≤n):=by omega
  go_enter Tryz.func122,Tryz.ntmps122;go_wp2_with fail
  have q0:∀x:Later w,x.w.cell? ⟨c,0,none⟩=some (vI (now:Int)):=fun x=>x.cell h0.1;have q1:∀x:Later w,x.w.cell? ⟨c,1,none⟩=some (vI most):=fun x=>x.cell h1;refine wp_region_calm (by kernel_rfl) (by kernel_rfl) ?_
  repeat (go_big_quiet_step ((go_at_call 123;exact Calls.calm_of ((clock_now (h0.calm (Later.calm _))).mono (fun e w' h=>⟨h.1,by rw[h.2];exact Fr.refl _ _⟩)))))
  refine wpQuiet_nil ?_;intro V2 hw';have c4:=Later.out hw';clear hw' q0 q1;go_wp2;go_ret;exact⟨⟨_,rfl⟩,c4⟩
theorem clock_tick {w:World}{c:Nat}{now:Nat}{most:Int}(h:OwnL w c [vI (now:Int),vI most])(ho:ClkO now most):Calls Tryz.prog 131 #[pV c] w fun e w'=>∃ (v now':Nat) (b:Bool),e = .returned (.tuple #[vI (v:Int),.bool b])∧OwnL w' c [vI (now':Int),vI most]∧ClkO now' most∧v≤1099511627776∧Fr (fun b=>b=c) w w':=by
  have h0:=h 0 _ rfl;have h1:=(h 1 _ rfl).1;have h00:=h0.1;have h01:=h0.2;obtain⟨o1,o2,o3⟩:=ho;have hw1:IntKind.i64.wrap ((now:Int)+1)=now+1:=IntWalk.i64_in _ (by omega);have hF:=frS w (c) 0 (vI ((now:Int)+1));go_enter Tryz.func131,Tryz.ntmps131;go_wp2_with fail
  refine wp_loop_once ?_
  by_cases hm:most≤now
  · go_wp2_with (go_at_call 174;refine(aload_is h0.1).mono ?_;rintro e w' ⟨rfl,rfl⟩)
    go_ret2
    exact⟨0,now,false,rfl,h,⟨o1,o2,o3⟩,by omega,Fr.refl _ _⟩
  · go_wp2_with (go_at_call 174;refine(aload_is h0.1).mono ?_;rintro e w' ⟨rfl,rfl⟩)
    go_wp2_with (go_at_call 180;refine(acas_is h0.1 h0.2).mono ?_;rintro e w' ⟨rfl,rfl⟩)
    go_ret2
    refine⟨now+1,now+1,true,?_,?_,⟨o1,o2,by omega⟩,by omega,hF⟩
    · rw[show((now+1:Nat):Int)=(now:Int)+1 by omega];rfl
    · have:=h.set 0 (vI ((now:Int)+1)) (by simp);rw[show((now+1:Nat):Int)=(now:Int)+1 by omega];exact this
end
section
open Go.RowKit Go.Shelf
structure It where
  at_:Nat
  seq:Int
def itC (x:It):List Value:=[vI x.at_,vI x.seq]
theorem itC_len (x:It):(itC x).length=2:=rfl
abbrev dI:It:=⟨0,0⟩
def aIts (v:Value)(l:List It):Asr:=aOwn 112 2 v l.length (l.flatMap itC)
structure HD where
  B:HB
  A:HS
  c:Nat
  ph:Nat
  rv:Value
  lv:Value
  rd:List Nat
  ls:List Nat
def aH (D:HD):Asr:=⟨fun k=>HBlk D.B k∨CyB D.c D.rv D.lv k,fun w=>∃X,CH w 0 D.c D.B D.A X D.ph D.rv D.lv D.rd D.ls,
  fun h f hs=>by
    obtain⟨X,h⟩:=h
    exact⟨X,h.ha.fr f (fun k hk=>hs k (.inl hk)),h.cy.fr f (fun k hk=>hs k (.inr hk)),h.ap⟩,
  fun h k hk=>by
    obtain⟨X,h⟩:=h;rcases hk with hk|hk
    · exact h.ha.lt k hk
    · exact(h.cy.lt k hk).1⟩
structure TxD where
  xp:Nat
  live:Bool
  start:Int
  seen:Int
  lp:Nat
  tv:Value
  took:List It
  L:LogD
def dT:TxD:=⟨0,false,0,0,0,.slice none 0 0,[],LogD.new 0 0⟩
def TxD.cs (t:Nat)(x:TxD):List Value:=[vI t,.bool x.live,vI x.start,vI x.seen,pV x.lp,x.tv]
structure TxIn (M:Mem)(g t:Nat)(x:TxD):Prop where
  c:M g=aCells x.xp (vI t) [.bool x.live,vI x.start,vI x.seen,pV x.lp,x.tv]
  l:LogIn M g x.lp x.L
  k:M (g+6)=aIts x.tv x.took
structure StD where
  D:HD
  ck:Nat
  now:Nat
  most:Int
  sp:Nat
  tsv:Value
  txs:List TxD
  qv:Value
  qu:List It
  next:Nat
  holder:Int
  ver:Nat
  lv:Value
  lost:List Nat
  cv:Value
  came:List Nat
def StD.tx (S:StD)(t:Nat):TxD:=S.txs.getD t dT
def StD.cs (S:StD):List Value:=[pV S.D.B.hp,pV S.D.c,pV S.ck,S.tsv,S.qv,vI S.next,vI S.holder,vI S.ver,S.lv,S.cv]
structure StIn (M:Mem)(S:StD):Prop where
  h:M 0=aH S.D
  c:M 2=aCells S.sp (pV S.D.B.hp) [pV S.D.c,pV S.ck,S.tsv,S.qv,vI S.next,vI S.holder,vI S.ver,S.lv,S.cv]
  k:M 3=aCells S.ck (vI S.now) [vI S.most]
  t:M 4=aOwn 95 1 S.tsv S.txs.length (S.txs.map fun x=>pV x.xp)
  q:M 5=aIts S.qv S.qu
  l:M 6=aRow S.lv (nI S.lost)
  m:M 7=aRow S.cv (nI S.came)
  x:∀t,t<S.txs.length→TxIn M (10+8*t) t (S.tx t)
  z:∀t,500≤t→M t=aNone
structure TxOk (x:TxD):Prop where
  l:LOk x.L
  f:x.L.reads.length≤200∧x.L.keeps.length≤200∧x.L.holds.length≤200∧x.L.undos.length≤200
  m:0≤x.L.mr∧x.L.mr≤200∧0≤x.L.mu∧x.L.mu≤200
  i:I64 x.start∧I64 x.seen
  k:∀i∈x.took,i.at_≤131072∧I64 i.seq
def StD.tot (S:StD):Nat:=S.qu.length+(S.txs.map fun x=>x.took.length).sum
structure StOk (s q:Nat)(S:StD):Prop where
  hw:HW S.D.A
  ph:S.D.ph=0↔S.D.A.mv=false
  p2:S.D.ph≤2
  se:S.D.A.ser≤s
  rd:S.D.rd=[]
  ls:S.D.ls=[]
  ck:ClkO S.now S.most
  n:S.txs.length≤8
  x:∀t,t<S.txs.length→TxOk (S.tx t)
  qu:∀i∈S.qu,i.at_≤131072∧I64 i.seq
  tt:S.tot≤q
  nx:S.next≤q
  ho:I64 S.holder
  ve:S.ver≤1099511627776
  lo:S.lost.length≤q
  ca:S.came.length≤q
def St (w:World)(τ:Nat→Nat)(s q:Nat)(S:StD):Prop:=∃M,Hold w τ M∧StIn M S∧StOk s q S
structure Fix (S S':StD):Prop where
  sp:S'.sp=S.sp
  hp:S'.D.B.hp=S.D.B.hp
  c:S'.D.c=S.D.c
  ck:S'.ck=S.ck
  n:S'.D.A.n=S.D.A.n
  len:S'.txs.length=S.txs.length
  xp:∀t,(S'.tx t).xp=(S.tx t).xp
  lp:∀t,(S'.tx t).lp=(S.tx t).lp
theorem Fix.refl (S:StD):Fix S S:=⟨rfl,rfl,rfl,rfl,rfl,rfl,fun _=>rfl,fun _=>rfl⟩
theorem Fix.trans {A B C:StD}(h:Fix A B)(k:Fix B C):Fix A C:=⟨k.sp.trans h.sp,k.hp.trans h.hp,k.c.trans h.c,k.ck.trans h.ck,k.n.trans h.n,k.len.trans h.len,fun t=>(k.xp t).trans (h.xp t),fun t=>(k.lp t).trans (h.lp t)⟩
def StD.setX (S:StD)(t:Nat)(x:TxD):StD:={ S with txs:=S.txs.set t x }
theorem getD_setS {α:Type}{l:List α}{t:Nat}(ht:t<l.length)(x d:α):(l.set t x).getD t d=x:=by
  rw[List.getD_eq_getElem?_getD,List.getElem?_set_self ht];rfl
theorem getD_setO {α:Type}{l:List α}{t u:Nat}(h:u≠t)(x d:α):(l.set t x).getD u d=l.getD u d:=by
  rw[List.getD_eq_getElem?_getD,List.getElem?_set_ne (by omega),←List.getD_eq_getElem?_getD]
theorem StD.tx_set {S:StD}{t:Nat}(ht:t<S.txs.length)(x:TxD):(S.setX t x).tx t=x:=getD_setS ht x dT
theorem StD.tx_far {S:StD}{t u:Nat}(h:u≠t)(x:TxD):(S.setX t x).tx u=S.tx u:=getD_setO h x dT
theorem map_set_same {α β:Type}(f:α→β)(d x:α):∀ (l:List α) (t:Nat),t<l.length→f x=f (l.getD t d)→(l.set t x).map f=l.map f
  | [],_,h,_=>by simp at h
  | y::l,0,_,e=>by simp only[List.set_cons_zero,List.map_cons];rw[e];rfl
  | y::l,t+1,h,e=>by simp only[List.set_cons_succ,List.map_cons];rw[map_set_same f d x l t (by simpa using h) e]
theorem sum_set {α:Type}(f:α→Nat)(d x:α):∀ (l:List α) (t:Nat),t<l.length→((l.set t x).map f).sum+f (l.getD t d)=(l.map f).sum+f x
  | [],_,h=>by simp at h
  | y::l,0,_=>by simp only[List.set_cons_zero,List.map_cons,List.sum_cons];show f x+_+f y=_;omega
  | y::l,t+1,h=>by
    simp only[List.set_cons_succ,List.map_cons,List.sum_cons];have:=sum_set f d x l t (by simpa using h);show f y+_+f (l.getD t d)=_;omega
theorem TxIn.only {P:Nat→Prop}{M M':Mem}{g t:Nat}{x:TxD}(h:TxIn M g t x)(o:Mem.Only P M M')(hp:∀j,g≤j→j≤g+6→¬P j):TxIn M' g t x:=
  ⟨(o g (hp _ (by omega) (by omega))).trans h.c,h.l.only o (fun j h1 h2=>hp j (by omega) (by omega)),(o (g+6) (hp _ (by omega) (by omega))).trans h.k⟩
theorem StIn.setX {M M':Mem}{S:StD}{t:Nat}{x':TxD}(h:StIn M S)(ht:t<S.txs.length)(h8:S.txs.length≤8)(o:Mem.Only (fun j=>10+8*t≤j∧j≤10+8*t+6) M M')(hx:TxIn M' (10+8*t) t x')(hxp:x'.xp=(S.tx t).xp):StIn M' (S.setX t x'):=by
  refine⟨(o 0 (by omega)).trans h.h,(o 2 (by omega)).trans h.c,(o 3 (by omega)).trans h.k,(o 4 (by omega)).trans ?_,(o 5 (by omega)).trans h.q,(o 6 (by omega)).trans h.l,(o 7 (by omega)).trans h.m,?_,fun u hu=>(o u (by omega)).trans (h.z u hu)⟩
  · rw[h.t];show aOwn _ 1 S.tsv S.txs.length _=aOwn _ 1 S.tsv (S.txs.set t x').length ((S.txs.set t x').map _);rw[List.length_set,map_set_same _ dT x' S.txs t ht (by rw[hxp];rfl)]
  · intro u hu;have hu':u<S.txs.length:=by simpa[StD.setX] using hu
    by_cases e:u=t
    · subst e;rw[show(S.setX u x').tx u=x' from StD.tx_set ht x'];exact hx
    · rw[show(S.setX t x').tx u=S.tx u from StD.tx_far e x'];exact(h.x u hu').only o (fun j h1 h2=>by omega)
theorem StD.tot_set {S:StD}{t:Nat}{x':TxD}(ht:t<S.txs.length):(S.setX t x').tot+(S.tx t).took.length=S.tot+x'.took.length:=by
  have h2:=sum_set (fun x:TxD=>x.took.length) dT x' S.txs t ht;unfold StD.tot;show S.qu.length+((S.txs.set t x').map fun x=>x.took.length).sum+(S.txs.getD t dT).took.length=_;omega
theorem StOk.setX' {s q:Nat}{S:StD}{t:Nat}{x':TxD}(h:StOk s q S)(ht:t<S.txs.length)(hx:TxOk x')(hk:(S.setX t x').tot≤q):StOk s q (S.setX t x'):=by
  refine⟨h.hw,h.ph,h.p2,h.se,h.rd,h.ls,h.ck,by simpa[StD.setX] using h.n,?_,h.qu,hk,h.nx,h.ho,h.ve,h.lo,h.ca⟩;intro u hu;have hu':u<S.txs.length:=by simpa[StD.setX] using hu
  by_cases e:u=t
  · subst e;rw[show(S.setX u x').tx u=x' from StD.tx_set ht x'];exact hx
  · rw[show(S.setX t x').tx u=S.tx u from StD.tx_far e x'];exact h.x u hu'
theorem StOk.setX {s q:Nat}{S:StD}{t:Nat}{x':TxD}(h:StOk s q S)(ht:t<S.txs.length)(hx:TxOk x')(hk:x'.took.length≤(S.tx t).took.length):StOk s q (S.setX t x'):=
  h.setX' ht hx (by have:=h.tt;have:=S.tot_set (x':=x') ht;omega)
theorem Fix.setX {S:StD}{t:Nat}{x':TxD}(ht:t<S.txs.length)(h1:x'.xp=(S.tx t).xp)(h2:x'.lp=(S.tx t).lp):Fix S (S.setX t x'):=by
  refine⟨rfl,rfl,rfl,rfl,rfl,by simp[StD.setX],fun u=>?_,fun u=>?_⟩
  · by_cases e:u=t
    · subst e;rw[show(S.setX u x').tx u=x' from StD.tx_set ht x'];exact h1
    · rw[show(S.setX t x').tx u=S.tx u from StD.tx_far e x']
  · by_cases e:u=t
    · subst e;rw[show(S.setX u x').tx u=x' from StD.tx_set ht x'];exact h2
    · rw[show(S.setX t x').tx u=S.tx u from StD.tx_far e x']
def StD.setH (S:StD)(B':HB)(A':HS):StD:={ S with D:={ S.D with B:=B',A:=A' } }
theorem StIn.setD {M M':Mem}{S:StD}{D':HD}(h:StIn M S)(o:Mem.Only (fun j=>j=0) M M')(h0:M' 0=aH D')(h1:D'.B.hp=S.D.B.hp)(h2:D'.c=S.D.c):StIn M' { S with D:=D' }:=
  ⟨h0,by rw[o 2 (by omega),h.c,h1,h2],(o 3 (by omega)).trans h.k,(o 4 (by omega)).trans h.t,(o 5 (by omega)).trans h.q,(o 6 (by omega)).trans h.l,(o 7 (by omega)).trans h.m,fun t ht=>(h.x t ht).only o (fun j h1 h2=>by omega),fun u hu=>(o u (by omega)).trans (h.z u hu)⟩
section
variable {w:World}{τ:Nat→Nat}{s q:Nat}{S:StD}
theorem St.calm {w':World}(h:St w τ s q S)(c:Calm w w'):St w' τ s q S:=by
  obtain⟨M,h1,h2,h3⟩:=h;exact⟨M,h1.calm c,h2,h3⟩
theorem St.ok (h:St w τ s q S):StOk s q S:=by obtain⟨M,h1,h2,h3⟩:=h;exact h3
theorem St.cells (h:St w τ s q S):OwnL w S.sp S.cs:=by
  obtain⟨M,h1,h2,h3⟩:=h;have:=h1.at_ 2;rw[h2.c] at this;exact this
theorem St.clk (h:St w τ s q S):OwnL w S.ck [vI S.now,vI S.most]:=by
  obtain⟨M,h1,h2,h3⟩:=h;have:=h1.at_ 3;rw[h2.k] at this;exact this
theorem St.txc (h:St w τ s q S){t:Nat}(ht:t<S.txs.length):OwnL w (S.tx t).xp (TxD.cs t (S.tx t)):=by
  obtain⟨M,h1,h2,h3⟩:=h;have:=h1.at_ (10+8*t);rw[(h2.x t ht).c] at this;exact this
theorem St.thr (h:St w τ s q S):w.ownsRow 0 95 1 S.tsv S.txs.length (S.txs.map fun x=>pV x.xp):=by
  obtain⟨M,h1,h2,h3⟩:=h;have:=h1.at_ 4;rw[h2.t] at this;exact this
theorem St.que (h:St w τ s q S):w.ownsRow 0 112 2 S.qv S.qu.length (S.qu.flatMap itC):=by
  obtain⟨M,h1,h2,h3⟩:=h;have:=h1.at_ 5;rw[h2.q] at this;exact this
theorem St.tok (h:St w τ s q S){t:Nat}(ht:t<S.txs.length):w.ownsRow 0 112 2 (S.tx t).tv (S.tx t).took.length ((S.tx t).took.flatMap itC):=by
  obtain⟨M,h1,h2,h3⟩:=h;have:=h1.at_ (10+8*t+6);rw[(h2.x t ht).k] at this;exact this
theorem St.heap (h:St w τ s q S):∃X,CH w 0 S.D.c S.D.B S.D.A X S.D.ph S.D.rv S.D.lv S.D.rd S.D.ls:=by
  obtain⟨M,h1,h2,h3⟩:=h;have:=h1.at_ 0;rw[h2.h] at this;exact this
theorem St.hat (h:St w τ s q S):∃X,HAt w S.D.B S.D.A X:=let ⟨X,k⟩:=h.heap;⟨X,k.ha⟩
theorem St.hin {w':World}{A':HS}{s':Nat}(h:St w τ s q S)(hi:HIn w S.D.B w' A')(hm:A'.mv=S.D.A.mv)(hs:A'.ser≤s') :
    ∃B' τ',St w' τ' s' q (S.setH B' A')∧KeepT w τ w' τ'∧B'.hp=S.D.B.hp:=by
  obtain⟨M,h1,h2,h3⟩:=h;obtain⟨B',X',k1,k2,k3⟩:=hi;have h0:=h1.at_ 0;rw[h2.h] at h0;obtain⟨X,hc⟩:=h0;have hcn:=hc.stepA k1 k2;have hb:(M 0).blk=fun k=>HBlk S.D.B k∨CyB S.D.c S.D.rv S.D.lv k:=by rw[h2.h];rfl
  obtain⟨τ',j1,j2⟩:=h1.put (t:=0) (a:=aH { S.D with B:=B',A:=A' }) (k2.fr.mono (fun k _ e=>by rw[hb];exact .inl e)) ⟨X',hcn⟩ (by
    rintro k (hk|hk)
    · rw[hb];rcases k2.new k hk with e|e
      · exact .inl (.inl e)
      · exact .inr e
    · rw[hb];exact .inl (.inr hk)) (by decide)
  refine⟨B',τ',⟨_,j1,h2.setD (D':={ S.D with B:=B',A:=A' }) (Mem.Only.put M _ rfl) (Mem.put_same _ _ _) k2.hp rfl,?_⟩,j2,k2.hp⟩;exact⟨k3,by rw[show(S.setH B' A').D.ph=S.D.ph from rfl,show(S.setH B' A').D.A.mv=A'.mv from rfl,hm];exact h3.ph,h3.p2,hs,h3.rd,h3.ls,h3.ck,h3.n,h3.x,h3.qu,h3.tt,h3.nx,h3.ho,h3.ve,h3.lo,h3.ca⟩
theorem Fix.setH {S:StD}{B':HB}{A':HS}(h:B'.hp=S.D.B.hp)(hn:A'.n=S.D.A.n):Fix S (S.setH B' A'):=⟨rfl,h,rfl,rfl,hn,rfl,fun _=>rfl,fun _=>rfl⟩
theorem StOk.mono {s' q':Nat}(h:StOk s q S)(hs:s≤s')(hq:q≤q'):StOk s' q' S:=
  ⟨h.hw,h.ph,h.p2,by have:=h.se;omega,h.rd,h.ls,h.ck,h.n,h.x,h.qu,by have:=h.tt;omega,by have:=h.nx;omega,h.ho,h.ve,by have:=h.lo;omega,by have:=h.ca;omega⟩
theorem St.setL {w':World}{τ':Nat→Nat}{M M':Mem}{t:Nat}{L':LogD}(h2:StIn M S)(h3:StOk s q S)(ht:t<S.txs.length)(k1:Hold w' τ' M')(k2:LogIn M' (10+8*t) (S.tx t).lp L')(k3:Mem.Only (fun j=>10+8*t+1≤j∧j≤10+8*t+5) M M')
    (hx:TxOk { S.tx t with L:=L' }):St w' τ' s q (S.setX t { S.tx t with L:=L' }):=by
  refine⟨M',k1,h2.setX ht h3.n (k3.mono (fun j hj=>by omega)) ⟨?_,k2,?_⟩ rfl,h3.setX ht hx (Nat.le_refl _)⟩
  · rw[k3 _ (by omega)];exact(h2.x t ht).c
  · rw[k3 _ (by omega)];exact(h2.x t ht).k
theorem St.setC {w':World}{M:Mem}{t:Nat}{x':TxD}(h1:Hold w τ M)(h2:StIn M S)(h3:StOk s q S)(ht:t<S.txs.length)(f:Fr (fun b=>b=(S.tx t).xp) w w')(hc:OwnL w' (S.tx t).xp (TxD.cs t x'))
    (e1:x'.xp=(S.tx t).xp) (e2:x'.lp=(S.tx t).lp) (e3:x'.tv=(S.tx t).tv) (e4:x'.took=(S.tx t).took) (e5:x'.L=(S.tx t).L) (hx:TxOk x'):St w' τ s q (S.setX t x')∧KeepT w τ w' τ:=by
  have hb:(M (10+8*t)).blk=fun k=>k=(S.tx t).xp:=by rw[(h2.x t ht).c];rfl
  have f':Fr (M (10+8*t)).blk w w':=f.mono (fun k _ e=>by rw[hb];exact e);have k1:=h1.put' (t:=10+8*t) (a:=aCells (S.tx t).xp (vI t) [.bool x'.live,vI x'.start,vI x'.seen,pV x'.lp,x'.tv]) f' hc (fun k hk=>by rw[hb];exact hk);have o:=Mem.Only.put M (P:=fun j=>j=10+8*t) (aCells (S.tx t).xp (vI t) [.bool x'.live,vI x'.start,vI x'.seen,pV x'.lp,x'.tv]) rfl;have hn:=h3.n;refine⟨⟨_,k1,h2.setX ht h3.n (o.mono (fun j hj=>by omega)) ⟨?_,?_,?_⟩ e1,h3.setX ht hx (by rw[e4];exact Nat.le_refl _)⟩,KeepT.piece h1 f' (by omega)⟩
  · rw[Mem.put_same,e1]
  · have:=(h2.x t ht).l.only o (fun j g1 g2 (e:j=10+8*t)=>by omega);rw[←e5,←e2] at this;exact this
  · rw[Mem.put_other _ _ (by omega),e3,e4];exact(h2.x t ht).k
theorem St.setT {w':World}{M:Mem}{t:Nat}{x':TxD}(h1:Hold w τ M)(h2:StIn M S)(h3:StOk s q S)(ht:t<S.txs.length)(f:Fr (fun b=>b=(S.tx t).xp∨InB (S.tx t).tv b) w w')(hc:OwnL w' (S.tx t).xp (TxD.cs t x'))
    (ho:w'.ownsRow 0 112 2 x'.tv x'.took.length (x'.took.flatMap itC)) (hnew:∀b,InB x'.tv b→InB (S.tx t).tv b∨w.heap.size≤b)
    (e1:x'.xp=(S.tx t).xp) (e2:x'.lp=(S.tx t).lp) (e5:x'.L=(S.tx t).L) (hx:TxOk x') (hk:(S.setX t x').tot≤q):∃τ',St w' τ' s q (S.setX t x')∧KeepT w τ w' τ':=by
  have hn:=h3.n;have hb:(M (10+8*t)).blk=fun k=>k=(S.tx t).xp:=by rw[(h2.x t ht).c];rfl
  have hb6:(M (10+8*t+6)).blk=InB (S.tx t).tv:=by rw[(h2.x t ht).k];rfl
  obtain⟨τ',k1,k2⟩:=h1.put2 (t:=10+8*t) (u:=10+8*t+6) (by omega) (a:=aCells (S.tx t).xp (vI t) [.bool x'.live,vI x'.start,vI x'.seen,pV x'.lp,x'.tv]) (b:=aIts x'.tv x'.took)
    (by rw[hb,hb6];exact f) hc ho (fun k hk=>by rw[hb];exact hk) (fun k hk=>by rw[hb6];exact hnew k hk) (by omega) (by omega)
  have o:=(Mem.Only.put M (P:=fun j=>j=10+8*t∨j=10+8*t+6) (aCells (S.tx t).xp (vI t) [.bool x'.live,vI x'.start,vI x'.seen,pV x'.lp,x'.tv]) (.inl rfl)).trans (Mem.Only.put _ (aIts x'.tv x'.took) (.inr rfl));refine⟨τ',⟨_,k1,h2.setX ht h3.n (o.mono (fun j hj=>by omega)) ⟨?_,?_,?_⟩ e1,h3.setX' ht hx hk⟩,k2⟩
  · rw[Mem.put_other _ _ (by omega),Mem.put_same,e1]
  · have:=(h2.x t ht).l.only o (fun j g1 g2 (e:j=10+8*t∨j=10+8*t+6)=>by omega);rw[←e5,←e2] at this;exact this
  · rw[Mem.put_same]
end
end
section
open Go.RowKit Go.Shelf
theorem held_any (n:Int)(w:World):Calls Tryz.prog 209 #[vI n] w fun e w'=>(∃ (v:Nat) (b:Bool),e = .returned (.tuple #[wV v,.bool b])∧(b=true→0≤n∧n<8))∧w=w':=by
  by_cases h:0≤n∧n<8
  · refine(held_yes n h.1 h.2 w).mono ?_;rintro e w' ⟨rfl,rfl⟩;exact⟨⟨_,_,rfl,fun _=>h⟩,rfl⟩
  · refine(held_no n (by omega) w).mono ?_;rintro e w' ⟨rfl,rfl⟩;exact⟨⟨_,_,rfl,fun e=>by cases e⟩,rfl⟩
theorem free_any (n:Int)(w:World):Calls Tryz.prog 181 #[vI n] w fun e w'=>(∃ (v:Nat) (b:Bool),e = .returned (.tuple #[wV v,.bool b])∧(b=true→0≤n∧n≤1099511627776))∧w=w':=by
  by_cases h:0≤n∧n≤1099511627776
  · refine(free_yes n h.1 h.2 w).mono ?_;rintro e w' ⟨rfl,rfl⟩;exact⟨⟨_,_,rfl,fun _=>h⟩,rfl⟩
  · refine(free_no n (by omega) w).mono ?_;rintro e w' ⟨rfl,rfl⟩;exact⟨⟨_,_,rfl,fun e=>by cases e⟩,rfl⟩
def OwnerPost (w:World)(e:Ending)(w':World):Prop:=(∃ (n v:Int) (b:Bool),e = .returned (.tuple #[vI n,vI v,.bool b])∧0≤v∧v≤1099511627776)∧w=w'
theorem owner_any (W:Nat)(w:World):Calls Tryz.prog 179 #[wV W] w (OwnerPost w):=by
  go_enter Tryz.func179,Tryz.ntmps179;go_wp2_with fail
  refine(held_any _ _).mono ?_;rintro e w' ⟨⟨v,b,rfl,hb⟩,rfl⟩;generalize wrap64 ((W:Int) / 2)=N at *;have fin:∀ (m:Int) (c:Bool),(c=true→0≤m∧m≤1099511627776)→True:=fun _ _ _=>trivial
  cases b with
  | true=>
    obtain⟨n0,n8⟩:=hb rfl
    by_cases hc:((v:Int)==(W:Int))=true
    · go_wp2
      go_ret3
      exact⟨⟨N,0,true,rfl,by omega,by omega⟩,rfl⟩
    · have hc2:((v:Int)==(W:Int))=false:=by simpa using hc
      go_wp2_with fail
      refine(free_any _ _).mono ?_;rintro e w' ⟨⟨v2,b2,rfl,hb2⟩,rfl⟩
      cases b2 with
      | true=>
        obtain⟨m0,m8⟩:=hb2 rfl
        by_cases hd:((v2:Int)==(W:Int))=true
        · go_wp2
          go_ret3
          exact⟨⟨0,N,false,rfl,by omega,by omega⟩,rfl⟩
        · have hd2:((v2:Int)==(W:Int))=false:=by simpa using hd
          go_wp2
          go_ret3
          exact⟨⟨0,0,false,rfl,by omega,by omega⟩,rfl⟩
      | false=>
        go_wp2
        go_ret3
        exact⟨⟨0,0,false,rfl,by omega,by omega⟩,rfl⟩
  | false=>
    go_wp2_with fail
    refine(free_any _ _).mono ?_;rintro e w' ⟨⟨v2,b2,rfl,hb2⟩,rfl⟩
    cases b2 with
    | true=>
      obtain⟨m0,m8⟩:=hb2 rfl
      by_cases hd:((v2:Int)==(W:Int))=true
      · go_wp2
        go_ret3
        exact⟨⟨0,N,false,rfl,by omega,by omega⟩,rfl⟩
      · have hd2:((v2:Int)==(W:Int))=false:=by simpa using hd
        go_wp2
        go_ret3
        exact⟨⟨0,0,false,rfl,by omega,by omega⟩,rfl⟩
    | false=>
      go_wp2
      go_ret3
      exact⟨⟨0,0,false,rfl,by omega,by omega⟩,rfl⟩
variable {w:World}{τ:Nat→Nat}{s q:Nat}{S:StD}
def ThrPost (w:World)(S:StD)(t:Int)(e:Ending)(w':World):Prop:=
  ((∃k:Nat,t=k∧k<S.txs.length∧e = .returned (pV (S.tx k).xp))∨((t<0∨(S.txs.length:Int)≤t)∧e = .returned (.pointer none)))∧w'=w
theorem thread_is (h:St w τ s q S)(t:Int)(ht:I64 t):Calls Tryz.prog 121 #[pV S.sp,vI t] w (ThrPost w S t):=by
  have hc:=h.cells;have c3:w.cell? ⟨S.sp,3,none⟩=some S.tsv:=(hc 3 _ rfl).1;have hn:=h.ok.n;have hr:=h.thr
  by_cases h0:t<0
  · go_enter Tryz.func121,Tryz.ntmps121;go_wp2;go_ret;exact⟨.inr ⟨.inl h0,rfl⟩,rfl⟩
  · obtain⟨k,rfl⟩:∃k:Nat,t=k:=⟨t.toNat,by omega⟩;obtain⟨a,c,hv⟩:=owns_slice hr
    by_cases hk:k<S.txs.length
    · obtain⟨g,c',hv',ho⟩:=owns_get hr (by decide) hk;have h1:=(ho 0 (by decide)).1;rw[show k*1+0=k by omega] at h1;have e1:(S.txs.map fun x=>pV x.xp).getD k .nilFunc=pV (S.tx k).xp:=by simp[StD.tx,List.getD_eq_getElem?_getD,hk]
      rw[e1] at h1;rw[hv'] at c3;obtain⟨N,hN⟩:∃N,N=S.txs.length:=⟨_,rfl⟩;rw[←hN] at c3 hk;replace hN:=hid hN;clear hv hr;go_enter Tryz.func121,Tryz.ntmps121;go_wp2;go_ret;exact⟨.inl ⟨k,rfl,hN.out ▸ hk,rfl⟩,rfl⟩
    · rw[hv] at c3;have hk2:(S.txs.length:Int)≤(k:Int):=by omega
      obtain⟨N,hN⟩:∃N,N=S.txs.length:=⟨_,rfl⟩;rw[←hN] at c3 hk hk2;replace hN:=hid hN;clear hv hr;go_enter Tryz.func121,Tryz.ntmps121;go_wp2;go_ret;exact⟨.inr ⟨.inr (hN.out ▸ hk2),rfl⟩,rfl⟩
def RunPost (w:World)(S:StD)(t:Int)(e:Ending)(w':World):Prop:=
  ((∃k:Nat,t=k∧k<S.txs.length∧(S.tx k).live=true∧e = .returned (pV (S.tx k).xp))∨((∀k:Nat,t=k→k<S.txs.length→(S.tx k).live=false)∧e = .returned (.pointer none)))∧w'=w
theorem running_is (h:St w τ s q S)(t:Int)(ht:I64 t):Calls Tryz.prog 124 #[pV S.sp,vI t] w (RunPost w S t):=by
  go_enter Tryz.func124,Tryz.ntmps124;go_wp2_with fail
  refine(thread_is h t ht).mono ?_;rintro e w' ⟨(⟨k,rfl,hk,rfl⟩|⟨hn,rfl⟩),rfl⟩
  · have hx:=h.txc hk;have c1:=(hx 1 _ rfl).1
    cases hl:(S.tx k).live with
    | true=>
      rw[hl] at c1;go_wp2;go_ret;exact⟨.inl ⟨k,rfl,hk,hl,rfl⟩,rfl⟩
    | false=>
      rw[hl] at c1;go_wp2;go_ret;exact⟨.inr ⟨fun k' e _=>by rw[←Int.ofNat.inj e];exact hl,rfl⟩,rfl⟩
  · go_wp2;go_ret;exact⟨.inr ⟨fun k' e hk'=>by omega,rfl⟩,rfl⟩
theorem clash_is (h:St w τ s q S){t:Nat}(ht:t<S.txs.length){a:Nat}(ha:a≤131072):Calls Tryz.prog 130 #[pV S.sp,pV (S.tx t).xp,vI a] w fun e w'=>(∃b:Bool,e = .returned (.bool b))∧Calm w w':=by
  have hc0:=(h.cells 0 _ rfl).1;obtain⟨X,hh⟩:=h.hat;have hx:=h.txc ht;go_enter Tryz.func130,Tryz.ntmps130;go_wp2_with fail
  refine(hsecond_any hh h.ok.hw ha).mono ?_;rintro e w1 ⟨⟨x,rfl⟩,k1⟩;have c0:=k1.cellAt (hx 0 _ rfl).1 id;have c2:=k1.cellAt (hx 2 _ rfl).1 id;go_wp2_with fail
  refine(owner_any _ _).mono ?_;rintro e w2 ⟨⟨n,v,b,rfl,v1,v2⟩,rfl⟩
  cases b with
  | true=>
    go_wp2;go_ret;exact⟨⟨_,rfl⟩,k1⟩
  | false=>
    go_wp2;go_ret;exact⟨⟨_,rfl⟩,k1⟩
def Nx (w:World)(τ:Nat→Nat)(s q:Nat)(S:StD)(w':World)(R:StD→Prop):Prop:=∃τ' S',St w' τ' s q S'∧KeepT w τ w' τ'∧Fix S S'∧R S'
def LgOnly (t:Nat)(S S':StD):Prop:=∃L',S'=S.setX t { S.tx t with L:=L' }
theorem LgOnly.D {t:Nat}{S S':StD}(h:LgOnly t S S'):S'.D=S.D:=by obtain⟨L',rfl⟩:=h;rfl
theorem own_is (h:St w τ s q S){t:Nat}(ht:t<S.txs.length){a:Nat}(ha:a≤131072):Calls Tryz.prog 185 #[pV S.sp,pV (S.tx t).xp,vI a] w fun e w'=>e = .returned (.tuple #[])∧Nx w τ s q S w' fun S'=>Still (fun k=>k=a) S.D.A S'.D.A∧∃B' A',S'=S.setH B' A':=by
  have hc0:=(h.cells 0 _ rfl).1;obtain⟨X,hh⟩:=h.hat;have hx:=h.txc ht;have c0:=(hx 0 _ rfl).1;go_enter Tryz.func185,Tryz.ntmps185;go_wp2_with fail
  refine(held_any _ _).mono ?_;rintro e w1 ⟨⟨v,b,rfl,hb⟩,rfl⟩;go_wp2_with fail
  refine(hsetsecond_any hh h.ok.hw ha _).mono ?_;rintro e w2 ⟨x,A',rfl,_,hi,hs,_⟩;obtain⟨B',τ',k1,k2,k3⟩:=h.hin hi hs.mv (s':=s) (by rw[hs.ser];exact h.ok.se);go_wp2
  go_end0
  exact⟨rfl,τ',_,k1,k2,Fix.setH k3 hs.n,hs,B',A',rfl⟩
theorem release_is (h:St w τ s q S){a:Nat}(ha:a≤131072)(n:Int):Calls Tryz.prog 132 #[pV S.sp,vI a,vI n] w fun e w'=>e = .returned (.tuple #[])∧Nx w τ s q S w' fun S'=>Still (fun k=>k=a) S.D.A S'.D.A∧∃B' A',S'=S.setH B' A':=by
  have hc0:=(h.cells 0 _ rfl).1;obtain⟨X,hh⟩:=h.hat;go_enter Tryz.func132,Tryz.ntmps132;go_wp2_with fail
  refine(free_any _ _).mono ?_;rintro e w1 ⟨⟨v,b,rfl,hb⟩,rfl⟩;go_wp2_with fail
  refine(hsetsecond_any hh h.ok.hw ha _).mono ?_;rintro e w2 ⟨x,A',rfl,_,hi,hs,_⟩;obtain⟨B',τ',k1,k2,k3⟩:=h.hin hi hs.mv (s':=s) (by rw[hs.ser];exact h.ok.se);go_wp2
  go_end0
  exact⟨rfl,τ',_,k1,k2,Fix.setH k3 hs.n,hs,B',A',rfl⟩
theorem noted_few {l:List Nat}{a:Nat}{m:Int}(hl:l.length≤200)(hm:m≤200):(noted l a m).length≤200:=by
  unfold noted;split
  · exact hl
  · rename_i h;simp only[List.length_append,List.length_singleton];have:=fun e=>h (.inr e);omega
theorem noted_le {l:List Nat}{a:Nat}{m:Int}(hl:∀p∈l,p≤131072)(ha:a≤131072):∀p∈noted l a m,p≤131072:=by
  unfold noted;split
  · exact hl
  · intro p hp;rcases List.mem_append.1 hp with hp|hp
    · exact hl p hp
    · rw[List.mem_singleton.1 hp];exact ha
theorem Fix.lg {t:Nat}{S:StD}(ht:t<S.txs.length)(L':LogD):Fix S (S.setX t { S.tx t with L:=L' }):=Fix.setX ht rfl rfl
theorem lread_is (h:St w τ s q S){t:Nat}(ht:t<S.txs.length){a:Nat}(ha:a≤131072):Calls Tryz.prog 188 #[pV (S.tx t).lp,vI a] w fun e w'=>(∃b:Bool,e = .returned (.bool b))∧Nx w τ s q S w' fun S'=>LgOnly t S S':=by
  obtain⟨M,h1,h2,h3⟩:=h;have hx:=h3.x t ht;have hn:=h3.n;refine(log_note0 h1 (h2.x t ht).l (by omega) (by have:=hx.f;omega) a).mono ?_;rintro e w' ⟨v',τ',M',rfl,k1,k2,k3,k4⟩;exact⟨⟨_,rfl⟩,τ',_,St.setL h2 h3 ht k1 k2 k3 ⟨⟨noted_le hx.l.r ha,hx.l.k,hx.l.h,hx.l.u⟩,⟨noted_few hx.f.1 hx.m.2.1,hx.f.2⟩,hx.m,hx.i,hx.k⟩,k4,Fix.lg ht _,_,rfl⟩
theorem lkeep_is (h:St w τ s q S){t:Nat}(ht:t<S.txs.length){a:Nat}(ha:a≤131072):Calls Tryz.prog 141 #[pV (S.tx t).lp,vI a] w fun e w'=>(∃b:Bool,e = .returned (.bool b))∧Nx w τ s q S w' fun S'=>LgOnly t S S':=by
  obtain⟨M,h1,h2,h3⟩:=h;have hx:=h3.x t ht;have hn:=h3.n;refine(log_note1 h1 (h2.x t ht).l (by omega) (by have:=hx.f;omega) a).mono ?_;rintro e w' ⟨v',τ',M',rfl,k1,k2,k3,k4⟩;exact⟨⟨_,rfl⟩,τ',_,St.setL h2 h3 ht k1 k2 k3 ⟨⟨hx.l.r,noted_le hx.l.k ha,hx.l.h,hx.l.u⟩,⟨hx.f.1,noted_few hx.f.2.1 hx.m.2.1,hx.f.2.2⟩,hx.m,hx.i,hx.k⟩,k4,Fix.lg ht _,_,rfl⟩
theorem lhold_is (h:St w τ s q S){t:Nat}(ht:t<S.txs.length){a:Nat}(ha:a≤131072){n:Int}(hn64:I64 n):Calls Tryz.prog 184 #[pV (S.tx t).lp,.agg #[vI a,vI n]] w fun e w'=>(∃b:Bool,e = .returned (.bool b))∧Nx w τ s q S w' fun S'=>LgOnly t S S':=by
  obtain⟨M,h1,h2,h3⟩:=h;have hx:=h3.x t ht;have hn:=h3.n;refine(log_hold h1 (h2.x t ht).l (by omega) (by have:=hx.f;omega) ⟨a,n⟩).mono ?_;rintro e w' ⟨b,v',τ',M',rfl,hb,k1,k2,k3,k4⟩;refine⟨⟨_,rfl⟩,τ',_,St.setL h2 h3 ht k1 k2 k3 ⟨⟨hx.l.r,hx.l.k,?_,hx.l.u⟩,⟨hx.f.1,hx.f.2.1,?_,hx.f.2.2.2⟩,hx.m,hx.i,hx.k⟩,k4,Fix.lg ht _,_,rfl⟩
  · cases b with
    | false=>exact hx.l.h
    | true=>
      intro x hx2;rcases List.mem_append.1 hx2 with hx2|hx2
      · exact hx.l.h x hx2
      · rw[List.mem_singleton.1 hx2];exact⟨ha,hn64⟩
  · cases b with
    | false=>exact hx.f.2.2.1
    | true=>
      have h5:(((S.tx t).L.holds.length:Int)<(S.tx t).L.mu):=by
        have:=hb.symm;simp only[Bool.and_eq_true,decide_eq_true_eq] at this;exact this.2
      have:=hx.m.2.2.2;show((S.tx t).L.holds++[_]).length≤200;simp only[List.length_append,List.length_singleton];omega
theorem lundo_is (h:St w τ s q S){t:Nat}(ht:t<S.txs.length){u:Ud}(hu:UdOk u∧I64 u.kind∧I64 u.i):Calls Tryz.prog 151 #[pV (S.tx t).lp,.agg #[vI u.kind,vI u.at_,vI u.i,vI u.old]] w fun e w'=>(∃b:Bool,e = .returned (.bool b))∧Nx w τ s q S w' fun S'=>LgOnly t S S':=by
  obtain⟨M,h1,h2,h3⟩:=h;have hx:=h3.x t ht;have hn:=h3.n;refine(log_undo h1 (h2.x t ht).l (by omega) (by have:=hx.f;omega) u).mono ?_;rintro e w' ⟨b,v',τ',M',rfl,hb,k1,k2,k3,k4⟩;refine⟨⟨_,rfl⟩,τ',_,St.setL h2 h3 ht k1 k2 k3 ⟨⟨hx.l.r,hx.l.k,hx.l.h,?_⟩,⟨hx.f.1,hx.f.2.1,hx.f.2.2.1,?_⟩,hx.m,hx.i,hx.k⟩,k4,Fix.lg ht _,_,rfl⟩
  · cases b with
    | false=>exact hx.l.u
    | true=>
      intro x hx2;rcases List.mem_append.1 hx2 with hx2|hx2
      · exact hx.l.u x hx2
      · rw[List.mem_singleton.1 hx2];exact hu
  · cases b with
    | false=>exact hx.f.2.2.2
    | true=>
      have h5:(((S.tx t).L.undos.length:Int)<(S.tx t).L.mu):=by simpa using hb.symm
      have:=hx.m.2.2.2;show((S.tx t).L.undos++[_]).length≤200;simp only[List.length_append,List.length_singleton];omega
theorem LOk.empty (L:LogD):LOk L.empty:=by
  refine⟨?_,?_,?_,?_⟩ <;> · intro x h;cases h
theorem lreset_is (h:St w τ s q S){t:Nat}(ht:t<S.txs.length):Calls Tryz.prog 177 #[pV (S.tx t).lp] w fun e w'=>e = .returned (.tuple #[])∧St w' τ s q (S.setX t { S.tx t with L:=(S.tx t).L.empty })∧KeepT w τ w' τ:=by
  obtain⟨M,h1,h2,h3⟩:=h;have hx:=h3.x t ht;have hn:=h3.n;refine(log_reset h1 (h2.x t ht).l (by omega)).mono ?_;rintro e w' ⟨M',rfl,k1,k2,k3,k4⟩;exact⟨rfl,St.setL h2 h3 ht k1 k2 k3 ⟨LOk.empty _,⟨Nat.zero_le _,Nat.zero_le _,Nat.zero_le _,Nat.zero_le _⟩,hx.m,hx.i,hx.k⟩,k4⟩
end
section
open Go.RowKit Go.Shelf
variable {w:World}{τ:Nat→Nat}{s q:Nat}{S:StD}
theorem Nx.calm {w':World}{R:StD→Prop}(h:St w τ s q S)(c:Calm w w')(r:R S):Nx w τ s q S w' R:=⟨τ,S,h.calm c,KeepT.calm τ c,Fix.refl S,r⟩
theorem Nx.step {w1 w2:World}{τ1:Nat→Nat}{S1:StD}{s' q':Nat}{R:StD→Prop}(n:Nx w1 τ1 s' q' S1 w2 R)(k2:KeepT w τ w1 τ1)(k3:Fix S S1):Nx w τ s' q' S w2 R:=by
  obtain⟨τ2,S2,a,b,c,d⟩:=n;exact⟨τ2,S2,a,k2.trans b,k3.trans c,d⟩
theorem Nx.calmL {w1 w2:World}{s' q':Nat}{R:StD→Prop}(n:Nx w1 τ s' q' S w2 R)(c:Calm w w1):Nx w τ s' q' S w2 R:=n.step (KeepT.calm τ c) (Fix.refl S)
theorem Nx.calmR {w1 w2:World}{s' q':Nat}{R:StD→Prop}(n:Nx w τ s' q' S w1 R)(c:Calm w1 w2):Nx w τ s' q' S w2 R:=by
  obtain⟨τ2,S2,a,b,d,e⟩:=n;exact⟨τ2,S2,a.calm c,b.trans (KeepT.calm τ2 c),d,e⟩
theorem Nx.mono {w':World}{s' q' s2 q2:Nat}{R R':StD→Prop}(n:Nx w τ s' q' S w' R)(hs:s'≤s2)(hq:q'≤q2)(hr:∀S',R S'→R' S'):Nx w τ s2 q2 S w' R':=by
  obtain⟨τ2,S2,⟨M,a1,a2,a3⟩,b,d,e⟩:=n;exact⟨τ2,S2,⟨M,a1,a2,a3.mono hs hq⟩,b,d,hr _ e⟩
theorem Nx.any {w':World}{s' q':Nat}{R:StD→Prop}(n:Nx w τ s' q' S w' R):Nx w τ s' q' S w' fun _=>True:=n.mono (Nat.le_refl _) (Nat.le_refl _) fun _ _=>trivial
abbrev Nx0 (w:World)(τ:Nat→Nat)(s q:Nat)(S:StD)(w':World):Prop:=Nx w τ s q S w' fun _=>True
theorem hold_is (h:St w τ s q S){t:Nat}(ht:t<S.txs.length){a:Nat}(ha:a≤131072):Calls Tryz.prog 150 #[pV S.sp,pV (S.tx t).xp,vI a] w fun e w'=>(∃b:Bool,e = .returned (.bool b))∧Nx0 w τ s q S w':=by
  have hc0:=(h.cells 0 _ rfl).1;obtain⟨X,hh⟩:=h.hat;have hx:=h.txc ht;go_enter Tryz.func150,Tryz.ntmps150;go_wp2_with fail
  refine(hsecond_any hh h.ok.hw ha).mono ?_;rintro e w1 ⟨⟨x,rfl⟩,k1⟩;have c4:=k1.cellAt (hx 4 _ rfl).1 id;go_wp2_with fail
  refine(owner_any _ _).mono ?_;rintro e w2 ⟨⟨n,v,b,rfl,v1,v2⟩,rfl⟩
  cases b with
  | true=>
    go_wp2;go_ret;exact⟨⟨_,rfl⟩,Nx.calm h k1 trivial⟩
  | false=>
    have h1:=h.calm k1;go_wp2_with fail
    refine(lhold_is h1 ht ha (n:=v) ⟨by omega,by omega⟩).mono ?_;rintro e w3 ⟨⟨b2,rfl⟩,τ3,S3,m1,m2,m3,m4⟩;have o:=own_is m1 (m3.len ▸ ht) ha;rw[m3.sp,m3.xp] at o
    cases b2 with
    | false=>
      go_wp2;go_ret;exact⟨⟨_,rfl⟩,(Nx.calm (R:=fun _=>True) m1 (Fr.refl _ _) trivial).step ((KeepT.calm τ k1).trans m2) m3⟩
    | true=>
      go_wp2_with fail
      refine(o).mono ?_;rintro e w4 ⟨rfl,n4⟩;go_wp2;go_ret;exact⟨⟨_,rfl⟩,n4.any.step ((KeepT.calm τ k1).trans m2) m3⟩
theorem St.fresh (h:St w τ s q S):∃τ0,St w τ0 s q S∧TagK w τ τ0∧∀k,w.heap.size≤k→τ0 k=1000:=by
  obtain⟨M,h1,h2,h3⟩:=h;obtain⟨τ0,k1,k2,k3⟩:=h1.fresh 1000;exact⟨τ0,⟨M,k1,h2,h3⟩,k2,k3⟩
theorem St.far {w':World}{T:Nat→Prop}(h:St w τ s q S)(f:Fr T w w')(hT:∀b,T b→500≤τ b):St w' τ s q S:=by
  obtain⟨M,h1,h2,h3⟩:=h;refine⟨M,h1.frame f (fun t k hk hk2=>?_),h2,h3⟩;have e1:=h1.tag t k hk;have e2:=hT k hk2;rw[h2.z t (by omega)] at hk;exact hk
theorem KeepT.own {w':World}{τ':Nat→Nat}(k:KeepT w τ w' τ'){b i:Nat}{v:Value}(h:Own w b i v)(hb:500≤τ b):Own w' b i v:=h.fr k.fr (by omega)
theorem KeepT.ownL {w':World}{τ':Nat→Nat}(k:KeepT w τ w' τ'){b:Nat}{vs:List Value}(h:OwnL w b vs)(hb:500≤τ b):OwnL w' b vs:=h.fr k.fr (by omega)
theorem Nx.fin {W2 W3 W4:World}{τ0:Nat→Nat}{s' q':Nat}{R:StD→Prop}{T:Nat→Prop}(n:Nx W2 τ0 s' q' S W3 R)(c:Calm w W2)(tk:TagK w τ τ0)(fr:∀k,w.heap.size≤k→τ0 k=1000)
    (f:Fr T W3 W4) (hT:∀b,T b→w.heap.size≤b∧b<W2.heap.size):Nx w τ s' q' S W4 R:=by
  obtain⟨τ3,S3,m1,m2,m3,m4⟩:=n;refine⟨τ3,S3,m1.far f (fun b hb=>?_),?_,m3,m4⟩
  · rw[m2.tg b (hT b hb).2,fr b (hT b hb).1];omega
  · have k:KeepT w τ W3 τ3:=((KeepT.calm τ0 c).trans m2).retag tk;exact⟨k.fr.join f (fun j hj e=>by have:=(hT j e).1;omega),k.tg⟩
abbrev shC (p d:Nat)(wk fn:Bool):List Value:=[vI p,vI d,.bool wk,.bool fn]
def LookPost (w:World)(τ:Nat→Nat)(s q:Nat)(S:StD)(e:Ending)(w':World):Prop:=
  ∃ (p d:Nat) (wk fn:Bool) (x:Int),e = .returned (.tuple #[shV p d wk fn,vI x])∧I64 x∧x≠100∧Nx0 w τ s q S w'
set_option maxRecDepth 4000 in
theorem look_is (h:St w τ s q S){t:Nat}(ht:t<S.txs.length){a:Nat}(ha:a≤131072):Calls Tryz.prog 140 #[pV S.sp,pV (S.tx t).xp,vI a] w (LookPost w τ s q S):=by
  have hc0:=(h.cells 0 _ rfl).1;obtain⟨X,hh⟩:=h.hat;have hx:=h.txc ht;have hc4:=(hx 4 _ rfl).1
  by_cases h0:a=0
  · subst h0;go_enter Tryz.func140,Tryz.ntmps140;go_wp2;refine bodyPost_ret (v:=.tuple #[shV 0 0 false false,vI 143]) ?_ rfl ⟨0,0,false,false,143,rfl,by decide,by decide,Nx.calm h ((Fr.refl _ _).alloc _) trivial⟩;simp[results,Tryz.f140,go_sem]
  · obtain⟨τ0,hf,tk,fr⟩:=h.fresh;have hz:((a:Int)==0)=false:=by simp;omega
    have k0:Calm w (w.alloc (.cells #[vI 0,vI 0,.bool false,.bool false] 47)):=(Fr.refl _ _).alloc _;have hb0:OwnL (w.alloc (.cells #[vI 0,vI 0,.bool false,.bool false] 47)) w.heap.size (shC 0 0 false false):=OwnL.new w (shC 0 0 false false) 47;have hs0:w.heap.size<(w.alloc (.cells #[vI 0,vI 0,.bool false,.bool false] 47)).heap.size:=by simp
    obtain⟨W0,hW0⟩:∃W0,w.alloc (.cells #[vI 0,vI 0,.bool false,.bool false] 47)=W0:=⟨_,rfl⟩;rw[hW0] at hb0 k0 hs0;have hh0:=hh.calm k0;have hc00:=k0.cellAt hc0 id;go_enter Tryz.func140,Tryz.ntmps140;go_wp2_with fail
    clear hW0;refine(hshape_any hh0 h.ok.hw ha).mono ?_;rintro e w1 ⟨k1,⟨hm,rfl⟩|⟨i,o,hcu,rfl⟩⟩
    · have g:=(hb0.calm k1).alloc (.cells #[vI 0,vI 0,.bool false,.bool false] 47);have k2:Calm W0 (w1.alloc (.cells #[vI 0,vI 0,.bool false,.bool false] 47)):=k1.alloc _;have k02:=k0.trans k2;have hlt:w.heap.size<(w1.alloc (.cells #[vI 0,vI 0,.bool false,.bool false] 47)).heap.size:=by have:=k2.size;omega
      obtain⟨y0,z0,y1,z1,y2,z2,y3,z3⟩:=OwnL.cf4 g;go_wp2;obtain⟨T,fT⟩:=g.set4 (vI 0) (vI 0) (.bool false) (.bool false);refine bodyPost_ret (v:=.tuple #[shV 0 0 false false,vI 70]) ?_ rfl ⟨0,0,false,false,70,rfl,by decide,by decide,Nx.fin (Nx.calm (R:=fun _=>True) (hf.calm k02) (Fr.refl _ _) trivial) k02 tk fr fT (by rintro b rfl;exact⟨Nat.le_refl _,hlt⟩)⟩;simp[results,Tryz.f140,go_sem,(T 0 _ rfl).1,(T 1 _ rfl).1,(T 2 _ rfl).1,(T 3 _ rfl).1]
    · have g:=(hb0.calm k1).alloc (.cells #[vI o.p,vI o.d,.bool o.wk,.bool o.fn] 47);have k2:Calm W0 (w1.alloc (.cells #[vI o.p,vI o.d,.bool o.wk,.bool o.fn] 47)):=k1.alloc _;have g8:OwnL (w1.alloc (.cells #[vI o.p,vI o.d,.bool o.wk,.bool o.fn] 47)) w1.heap.size (shC o.p o.d o.wk o.fn):=OwnL.new w1 (shC o.p o.d o.wk o.fn) _;have hl8:w1.heap.size<(w1.alloc (.cells #[vI o.p,vI o.d,.bool o.wk,.bool o.fn] 47)).heap.size:=by simp
      obtain⟨W2,hW2⟩:∃W2,w1.alloc (.cells #[vI o.p,vI o.d,.bool o.wk,.bool o.fn] 47)=W2:=⟨_,rfl⟩;rw[hW2] at g k2 g8 hl8;have k02:=k0.trans k2;have hlt:w.heap.size<W2.heap.size:=by have:=k2.size;omega
      have hsz8:w.heap.size≤w1.heap.size:=by have:=k0.size;have:=k1.size;omega
      have hne8:w1.heap.size≠w.heap.size:=by have:=k1.size;omega
      go_wp2_with fail
      clear hW2;refine(clash_is (hf.calm k02) ht ha).mono ?_;rintro e w3 ⟨⟨b,rfl⟩,k3⟩;replace g:=g.calm k3;replace g8:=g8.calm k3;have k03:=k02.trans k3;have hlt3:w.heap.size<w3.heap.size:=by have:=k3.size;omega
      cases b with
      | true=>
        obtain⟨y0,z0,y1,z1,y2,z2,y3,z3⟩:=OwnL.cf4 g;go_wp2;obtain⟨T,fT⟩:=g.set4 (vI 0) (vI 0) (.bool false) (.bool false);refine bodyPost_ret (v:=.tuple #[shV 0 0 false false,vI 141]) ?_ rfl ⟨0,0,false,false,141,rfl,by decide,by decide,Nx.fin (Nx.calm (R:=fun _=>True) (hf.calm k03) (Fr.refl _ _) trivial) k03 tk fr fT (by rintro b rfl;exact⟨Nat.le_refl _,hlt3⟩)⟩;simp[results,Tryz.f140,go_sem,(T 0 _ rfl).1,(T 1 _ rfl).1,(T 2 _ rfl).1,(T 3 _ rfl).1]
      | false=>
        have hc5:=k03.cellAt hc4 id;go_wp2_with fail
        refine(lread_is (hf.calm k03) ht ha).mono ?_;rintro e w4 ⟨⟨b2,rfl⟩,n4⟩;have n5:=n4;obtain⟨τ4,S4,m1,m2,m3,m4⟩:=n5;replace g:=m2.ownL g (by rw[fr _ (Nat.le_refl _)];omega);replace g8:=m2.ownL g8 (by rw[fr _ hsz8];omega)
        cases b2 with
        | false=>
          obtain⟨y0,z0,y1,z1,y2,z2,y3,z3⟩:=OwnL.cf4 g;go_wp2;obtain⟨T,fT⟩:=g.set4 (vI 0) (vI 0) (.bool false) (.bool false);refine bodyPost_ret (v:=.tuple #[shV 0 0 false false,vI 130]) ?_ rfl ⟨0,0,false,false,130,rfl,by decide,by decide,Nx.fin n4.any k03 tk fr fT (by rintro b rfl;exact⟨Nat.le_refl _,hlt3⟩)⟩;simp[results,Tryz.f140,go_sem,(T 0 _ rfl).1,(T 1 _ rfl).1,(T 2 _ rfl).1,(T 3 _ rfl).1]
        | true=>
          cases hfr:o.fr with
          | true=>
            obtain⟨y0,z0,y1,z1,y2,z2,y3,z3⟩:=OwnL.cf4 g;go_wp2;obtain⟨T,fT⟩:=g.set4 (vI 0) (vI 0) (.bool false) (.bool false);refine bodyPost_ret (v:=.tuple #[shV 0 0 false false,vI 142]) ?_ rfl ⟨0,0,false,false,142,rfl,by decide,by decide,Nx.fin n4.any k03 tk fr fT (by rintro b rfl;exact⟨Nat.le_refl _,hlt3⟩)⟩;simp[results,Tryz.f140,go_sem,(T 0 _ rfl).1,(T 1 _ rfl).1,(T 2 _ rfl).1,(T 3 _ rfl).1]
          | false=>
            obtain⟨a0,c0,a1,c1,a2,c2,a3,c3⟩:=OwnL.cf4 g8;obtain⟨y0,z0,y1,z1,y2,z2,y3,z3⟩:=OwnL.cf4 g;go_wp2;obtain⟨T,fT⟩:=g.set4 (vI o.p) (vI o.d) (.bool o.wk) (.bool o.fn);refine bodyPost_ret (v:=.tuple #[shV o.p o.d o.wk o.fn,vI 0]) ?_ rfl ⟨o.p,o.d,o.wk,o.fn,0,rfl,by decide,by decide,Nx.fin n4.any k03 tk fr fT (by rintro b rfl;exact⟨Nat.le_refl _,hlt3⟩)⟩;simp[results,Tryz.f140,go_sem,(T 0 _ rfl).1,(T 1 _ rfl).1,(T 2 _ rfl).1,(T 3 _ rfl).1]
end
section
open Go.RowKit Go.Shelf
variable {w:World}{τ:Nat→Nat}{s q:Nat}{S:StD}
theorem Nx.hin {w':World}{A':HS}{R:StD→Prop}{s':Nat}(h:St w τ s q S)(hi:HIn w S.D.B w' A')(hm:A'.mv=S.D.A.mv)(hs:A'.ser≤s')(hn:A'.n=S.D.A.n)(r:∀B',R (S.setH B' A')):Nx w τ s' q S w' R:=by
  obtain⟨B',τ',k1,k2,k3⟩:=h.hin hi hm hs;exact⟨τ',_,k1,k2,Fix.setH k3 hn,r B'⟩
def AllocR (S:StD)(p d:Nat)(v x:Int)(S':StD):Prop:=
  (x=0∧∃a:Nat,v=a∧Laidd S.D.A S'.D.A a ((3+p+d:Nat):Int))∨(x=100∧v=0∧S.D.A.room<rnd ((3+p+d:Nat):Int)∧S'.D=S.D)
theorem salloc_is (h:St w τ s q S)(hs:s<100000){p d:Nat}{wk fn:Bool}(hok:okS p d wk fn):Calls Tryz.prog 183 #[pV S.D.B.hp,shV p d wk fn] w fun e w'=>
    ∃v x:Int,e = .returned (.tuple #[vI v,vI x])∧I64 x∧Nx w τ (s+1) q S w' (AllocR S p d v x):=by
  obtain⟨X,hh⟩:=h.hat;have hse:=h.ok.se;refine(halloc_any hh h.ok.hw hok (by omega)).mono ?_;rintro e w' (⟨a,A',rfl,hi,hl⟩|⟨rfl,hr,c⟩)
  · exact⟨_,_,rfl,by decide,Nx.hin h hi hl.mv (by rw[hl.ser];omega) hl.n (fun B'=>.inl ⟨rfl,a,rfl,hl⟩)⟩
  · exact⟨_,_,rfl,by decide,(Nx.calm (R:=AllocR S p d 0 100) h c (.inr ⟨rfl,rfl,hr,rfl⟩)).mono (Nat.le_succ _) (Nat.le_refl _) fun _ h=>h⟩
def StillR (S S':StD):Prop:=Still (fun _=>True) S.D.A S'.D.A∧S'.txs=S.txs∧S'.holder=S.holder∧S'.qu=S.qu∧S'.qv=S.qv
theorem ssetfreed_is (h:St w τ s q S){a:Nat}(ha:a≤131072)(fr:Bool):Calls Tryz.prog 152 #[pV S.D.B.hp,vI a,.bool fr] w fun e w'=>∃x:Int,e = .returned (vI x)∧HErr x∧Nx w τ s q S w' (StillR S):=by
  obtain⟨X,hh⟩:=h.hat;refine(hsetfreed_any hh h.ok.hw ha fr).mono ?_;rintro e w' ⟨x,A',rfl,hx,hi,hs⟩;exact⟨x,rfl,by unfold HErr;omega,Nx.hin h hi hs.mv (by rw[hs.ser];exact h.ok.se) hs.n (fun B'=>⟨hs.mono (fun _ _=>trivial),rfl,rfl,rfl,rfl⟩)⟩
theorem ssetnum_is (h:St w τ s q S){a:Nat}(ha:a≤131072)(k v:Int)(hv:I64 v):Calls Tryz.prog 148 #[pV S.D.B.hp,vI a,vI k,vI v] w fun e w'=>∃x:Int,e = .returned (vI x)∧HErr x∧Nx w τ s q S w' (StillR S):=by
  obtain⟨X,hh⟩:=h.hat;refine(hsetnum_any hh h.ok.hw ha k v hv).mono ?_;rintro e w' ⟨x,A',rfl,hx,hi,hs⟩;exact⟨x,rfl,hx,Nx.hin h hi hs.mv (by rw[hs.ser];exact h.ok.se) hs.n (fun B'=>⟨hs.mono (fun _ _=>trivial),rfl,rfl,rfl,rfl⟩)⟩
theorem ssetptr_is (h:St w τ s q S){a v:Nat}(ha:a≤131072)(hv:v≤131072)(k:Int):Calls Tryz.prog 136 #[pV S.D.B.hp,vI a,vI k,vI v] w fun e w'=>∃x:Int,e = .returned (vI x)∧HErr x∧Nx w τ s q S w' (StillR S):=by
  obtain⟨X,hh⟩:=h.hat;refine(hsetptr_any hh h.ok.hw ha hv k).mono ?_;rintro e w' ⟨x,A',rfl,hx,hi,hs⟩;exact⟨x,rfl,hx,Nx.hin h hi hs.mv (by rw[hs.ser];exact h.ok.se) hs.n (fun B'=>⟨hs.mono (fun _ _=>trivial),rfl,rfl,rfl,rfl⟩)⟩
theorem sptr_is (h:St w τ s q S){a:Nat}(ha:a≤131072)(k:Int):Calls Tryz.prog 138 #[pV S.D.B.hp,vI a,vI k] w fun e w'=>∃ (v:Nat) (x:Int),e = .returned (.tuple #[vI (v:Nat),vI x])∧v≤131072∧HErr x∧Nx w τ s q S w' (fun _=>True):=by
  obtain⟨X,hh⟩:=h.hat;refine(hptr_any hh h.ok.hw ha k).mono ?_;rintro e w' ⟨v,x,A',rfl,hx,hv,_,hi,hs⟩;exact⟨v,x,rfl,hv,hx,Nx.hin h hi hs.mv (by rw[hs.ser];exact h.ok.se) hs.n (fun B'=>trivial)⟩
theorem snum_is (h:St w τ s q S){a:Nat}(ha:a≤131072)(k:Int):Calls Tryz.prog 146 #[pV S.D.B.hp,vI a,vI k] w fun e w'=>∃ (v x:Int),e = .returned (.tuple #[vI v,vI x])∧I64 v∧HErr x∧Nx w τ s q S w' (fun _=>True):=by
  obtain⟨X,hh⟩:=h.hat;refine(hnum_any hh h.ok.hw ha k).mono ?_;rintro e w' ⟨v,x,rfl,hv,hx,c⟩;exact⟨v,x,rfl,hv,hx,Nx.calm h c trivial⟩
def FldPost (w:World)(τ:Nat→Nat)(s q:Nat)(S:StD)(e:Ending)(w':World):Prop:=∃x:Int,e = .returned (vI x)∧I64 x∧x≠100∧Nx0 w τ s q S w'
theorem fields_is (h:St w τ s q S){t:Nat}(ht:t<S.txs.length){a:Nat}(ha:a≤131072):Calls Tryz.prog 187 #[pV S.sp,pV (S.tx t).xp,vI a] w (FldPost w τ s q S):=by
  go_enter Tryz.func187,Tryz.ntmps187;go_wp2_with fail
  refine(look_is h ht ha).mono ?_;rintro e w1 ⟨p,d,wk,fn,x,rfl,hx,hx1,n1⟩;have y2:=(OwnL.new w1 (shC p d wk fn) 47 2 _ rfl).1;have k1:Calm w1 (w1.alloc (.cells #[vI p,vI d,.bool wk,.bool fn] 47)):=(Fr.refl _ _).alloc _
  by_cases h0:x=0
  · subst h0
    cases wk with
    | true=>
      go_wp2;go_ret;exact⟨144,rfl,by decide,by decide,n1.calmR k1⟩
    | false=>
      go_wp2;go_ret;exact⟨0,rfl,by decide,by decide,n1.calmR k1⟩
  · have hz:(x==0)=false:=by simpa using h0
    go_wp2;go_ret;exact⟨x,rfl,hx,hx1,n1.calmR k1⟩
def TxD.ended (x:TxD):TxD:={ x with live:=false,tv:=.slice none 0 0,took:=[],L:=x.L.empty }
theorem end_is (h:St w τ s q S){t:Nat}(ht:t<S.txs.length):Calls Tryz.prog 128 #[pV S.sp,pV (S.tx t).xp] w fun e w'=>e = .returned (.tuple #[])∧Nx w τ s q S w' (fun S'=>S'=S.setX t (S.tx t).ended):=by
  have hx:=h.txc ht;have c4:=(hx 4 _ rfl).1;go_enter Tryz.func128,Tryz.ntmps128;go_wp2_with fail
  refine(lreset_is h ht).mono ?_;rintro e w1 ⟨rfl,h1,k1⟩;have hx1:=h1.txc (t:=t) (by simpa[StD.setX] using ht);rw[StD.tx_set ht] at hx1;have y1:Own w1 (S.tx t).xp 1 (.bool (S.tx t).live):=hx1 1 _ rfl;have y5:Own w1 (S.tx t).xp 5 (S.tx t).tv:=hx1 5 _ rfl;have z11:=y1.1;have z12:=y1.2;have z51:=y5.1;have z52:=y5.2;go_wp2;have hC:OwnL ((w1.setCell ⟨(S.tx t).xp,5,none⟩ (.slice none 0 0)).setCell ⟨(S.tx t).xp,1,none⟩ (.bool false)) (S.tx t).xp (TxD.cs t (S.tx t).ended):=(hx1.set 5 (.slice none 0 0) (by simp[TxD.cs])).set 1 (.bool false) (by simp[TxD.cs]);have hF:Fr (fun b=>b=(S.tx t).xp) w1 ((w1.setCell ⟨(S.tx t).xp,5,none⟩ (.slice none 0 0)).setCell ⟨(S.tx t).xp,1,none⟩ (.bool false)):=((Fr.refl (fun b=>b=(S.tx t).xp) w1).setCell (p:=⟨(S.tx t).xp,5,none⟩) (.inl rfl) _).setCell (p:=⟨(S.tx t).xp,1,none⟩) (.inl rfl) _;obtain⟨M,g1,g2,g3⟩:=h1;have hox:=h.ok.x t ht;have ht1:t<(S.setX t { S.tx t with L:=(S.tx t).L.empty }).txs.length:=by simpa[StD.setX] using ht
  have e0:(S.setX t { S.tx t with L:=(S.tx t).L.empty }).tx t = { S.tx t with L:=(S.tx t).L.empty }:=StD.tx_set ht _;have e9:(S.setX t { S.tx t with L:=(S.tx t).L.empty }).setX t (S.tx t).ended=S.setX t (S.tx t).ended:=by simp[StD.setX,List.set_set]
  obtain⟨τ',j1,j2⟩:=St.setT (x':=(S.tx t).ended) g1 g2 g3 ht1 (by rw[e0];exact hF.mono (fun b _ e=>.inl e)) (by rw[e0];exact hC) (owns_nil _ _ _ _) (fun b hb=>(InB.nil b hb).elim) (by rw[e0];rfl) (by rw[e0];rfl) (by rw[e0];rfl)
    ⟨LOk.empty _,⟨Nat.zero_le _,Nat.zero_le _,Nat.zero_le _,Nat.zero_le _⟩,hox.m,hox.i,fun i hi=>by cases hi⟩ (by
      rw[e9];have:=S.tot_set (x':=(S.tx t).ended) ht;have:=h.ok.tt;have e:(S.tx t).ended.took.length=0:=rfl
      omega)
  rw[e9] at j1
  go_end0
  exact⟨rfl,τ',_,j1,k1.trans j2,Fix.setX ht rfl rfl,rfl⟩
end
section
open Go.RowKit Go.Shelf
variable {w:World}{τ:Nat→Nat}{s q:Nat}{S:StD}
def LayR (S:StD)(p d:Nat)(v x:Int)(S':StD):Prop:=
  (x=0∧∃a:Nat,v=a∧a≤131072∧S'.D.A.room=S.D.A.room-rnd ((3+p+d:Nat):Int)∧rnd ((3+p+d:Nat):Int)≤S.D.A.room)∨(x=100∧v=0∧S.D.A.room<rnd ((3+p+d:Nat):Int)∧S'.D=S.D)∨(x=130∧v=0)
def LayPost2 (w:World)(τ:Nat→Nat)(s q:Nat)(S:StD)(p d:Nat)(e:Ending)(w':World):Prop:=
  ∃v x:Int,e = .returned (.tuple #[vI v,vI x])∧Nx w τ (s+1) q S w' (LayR S p d v x)
set_option maxRecDepth 4000 in
theorem lay_is (h:St w τ s q S)(hs:s<100000){t:Nat}(ht:t<S.txs.length){p d:Nat}{wk fn:Bool}(hok:okS p d wk fn) :
    Calls Tryz.prog 134 #[pV S.sp,pV (S.tx t).xp,shV p d wk fn] w (LayPost2 w τ s q S p d):=by
  obtain⟨τ0,hf,tk,fr⟩:=h.fresh;have k0:Calm w (w.alloc (.cells #[vI p,vI d,.bool wk,.bool fn] 47)):=(Fr.refl _ _).alloc _;have hb0:OwnL (w.alloc (.cells #[vI p,vI d,.bool wk,.bool fn] 47)) w.heap.size (shC p d wk fn):=OwnL.new w (shC p d wk fn) 47;have hs0:w.heap.size<(w.alloc (.cells #[vI p,vI d,.bool wk,.bool fn] 47)).heap.size:=by simp
  obtain⟨W0,hW0⟩:∃W0,w.alloc (.cells #[vI p,vI d,.bool wk,.bool fn] 47)=W0:=⟨_,rfl⟩;rw[hW0] at hb0 k0 hs0;have hc0:=k0.cellAt (h.cells 0 _ rfl).1 id;obtain⟨y0,y1,y2,y3⟩:=OwnL.ce4 hb0;have hal:=hid (fun W (cw:Calm W0 W)=>salloc_is (hf.calm (k0.trans cw)) hs hok);have hsp:500≤τ0 w.heap.size:=by rw[fr _ (Nat.le_refl _)];omega
  have hBr:Hid (∀ {W w2:World} {τ2:Nat→Nat} {S2:StD},Calm W0 W→St w2 τ2 (s+1) q S2→KeepT W τ0 w2 τ2→Fix S S2→w2.cell? ⟨S.sp,0,none⟩=some (pV S.D.B.hp)∧OwnL w2 w.heap.size (shC p d wk fn)):=by
    intro W w2 τ2 S2 c m1 m2 m3;have:=(m1.cells 0 _ rfl).1;rw[m3.sp,m3.hp] at this;exact⟨this,m2.ownL (hb0.calm c) hsp⟩
  go_enter Tryz.func134,Tryz.ntmps134;go_wp2_with fail
  clear hW0
  go_region_held3 (fun w'=>w'.cell? ⟨S.sp,0,none⟩=some (pV S.D.B.hp)∧w'.cell? ⟨w.heap.size,0,none⟩=some (vI p)∧w'.cell? ⟨w.heap.size,1,none⟩=some (vI d)∧w'.cell? ⟨w.heap.size,2,none⟩=some (.bool wk)∧w'.cell? ⟨w.heap.size,3,none⟩=some (.bool fn)) (go_keep)
    (first|(go_at_call 183;refine(hal.out _ (by first|exact Fr.refl _ _|exact(Fr.refl _ _).drew)).mono ?_;rintro e w2 ⟨v,x,rfl,hx,τ2,S2,m1,m2,m3,m4⟩;obtain⟨q0,q1⟩:=hBr.out (by first|exact Fr.refl _ _|exact(Fr.refl _ _).drew) m1 m2 m3;have r0:=(q1 0 _ rfl).1;have r1:=(q1 1 _ rfl).1;have r2:=(q1 2 _ rfl).1;have r3:=(q1 3 _ rfl).1;have km:Hid (KeepT W0 τ0 w2 τ2):=(by first|exact m2|exact(KeepT.calm τ0 ((Fr.refl _ _).drew)).trans m2);clear m2))
  rename_i hHeld;clear hHeld r0 r1 r2 r3 q1 hBr hal;have kf:KeepT w τ w2 τ2:=((KeepT.calm τ0 k0).trans km.out).retag tk;have ht2:t<S2.txs.length:=m3.len ▸ ht;have c4:=(m1.txc ht2 4 _ rfl).1;rw[m3.xp,m3.lp] at c4;clear km y0 y1 y2 y3 hc0 hb0 k0 fr tk hf hsp hs0;rcases m4 with ⟨rfl,a,rfl,hL⟩|⟨rfl,rfl,hr,eD⟩
  · have o:=lhold_is m1 ht2 hL.le (n:=0) (by decide);rw[m3.lp] at o;go_wp2_with fail
    refine(o).mono ?_;rintro e w3 ⟨⟨b,rfl⟩,τ3,S3,n1,n2,n3,n4⟩;have hD3:=n4.D;have ht3:t<S3.txs.length:=n3.len ▸ ht2
    cases b with
    | false=>
      have c0:=(n1.cells 0 _ rfl).1;rw[n3.sp,n3.hp,m3.sp,m3.hp] at c0;have o2:=ssetfreed_is n1 hL.le true;rw[n3.hp,m3.hp] at o2;go_wp2_with fail
      refine(o2).mono ?_;rintro e w4 ⟨x,rfl,_,n5⟩;go_wp2
      go_ret2
      exact⟨0,130,rfl,(n5.step (kf.trans n2) (m3.trans n3)).mono (Nat.le_refl _) (Nat.le_refl _) fun S' _=>.inr (.inr ⟨rfl,rfl⟩)⟩
    | true=>
      have o2:=own_is n1 ht3 hL.le;rw[n3.sp,m3.sp,n3.xp,m3.xp] at o2;go_wp2_with fail
      refine(o2).mono ?_;rintro e w4 ⟨rfl,n5⟩;go_wp2
      go_ret2
      refine⟨a,0,rfl,(n5.step (kf.trans n2) (m3.trans n3)).mono (Nat.le_refl _) (Nat.le_refl _) fun S' hS=>.inl ⟨rfl,a,rfl,hL.le,?_,hL.fit⟩⟩;rw[hS.1.room,hD3,hL.room]
  · go_wp2
    go_ret2
    exact⟨0,100,rfl,τ2,S2,m1,kf,m3,.inr (.inl ⟨rfl,rfl,hr,eD⟩)⟩
end
end Go.Proofs.YtdffnjikmkgjkaaGreat
