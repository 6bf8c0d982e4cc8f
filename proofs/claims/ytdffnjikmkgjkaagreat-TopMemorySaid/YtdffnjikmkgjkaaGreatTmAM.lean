/- TopMemory: a part of its proof (StN Back Cat Del St5 St6). -/
import Derived.Lib.AppendZerosOnto
import Derived.Test.YtdffnjikmkgjkaaGreatTmAA
import Derived.Test.YtdffnjikmkgjkaaGreatTmAL
import Derived.Test.YtdffnjikmkgjkaaGreatTmAJ
import Derived.Test.YtdffnjikmkgjkaaGreatTmAK
set_option linter.unusedSimpArgs false
set_option linter.unusedVariables false
set_option maxHeartbeats 4000000
namespace Go.Proofs.YtdffnjikmkgjkaaGreat
section
open Go.RowKit Go.Shelf
theorem Hold.add {w:World}{τ:Nat→Nat}{A:Mem}(h:Hold w τ A)(t:Nat)(a:Asr)(ha:a.at_ w)(hn:∀j k,a.blk k→¬(A j).blk k) :
    ∃τ',Hold w τ' (A.put t a)∧(∀k,¬a.blk k→τ' k=τ k)∧∀k,a.blk k→τ' k=t:=by
  classical
  refine⟨fun k=>if a.blk k then t else τ k,⟨fun j=>?_,fun j k hk=>?_⟩,fun k hk=>if_neg hk,fun k hk=>if_pos hk⟩
  · by_cases e:j=t
    · subst e;rw[Mem.put_same];exact ha
    · rw[Mem.put_other _ _ e];exact h.at_ j
  · by_cases e:j=t
    · subst e;rw[Mem.put_same] at hk;exact if_pos hk
    · rw[Mem.put_other _ _ e] at hk;rw[if_neg (fun h2=>hn j k h2 hk)];exact h.tag j k hk
theorem Hold.addE {w:World}{τ:Nat→Nat}{A:Mem}(h:Hold w τ A)(t:Nat)(a:Asr)(ha:a.at_ w)(he:∀k,¬a.blk k):Hold w τ (A.put t a):=by
  refine⟨fun j=>?_,fun j k hk=>?_⟩
  · by_cases e:j=t
    · subst e;rw[Mem.put_same];exact ha
    · rw[Mem.put_other _ _ e];exact h.at_ j
  · by_cases e:j=t
    · subst e;rw[Mem.put_same] at hk;exact absurd hk (he k)
    · rw[Mem.put_other _ _ e] at hk;exact h.tag j k hk
abbrev nS:Value:=.slice none 0 0
def D0 (B:HB)(n c:Nat):HD:=⟨B,HS.start n,c,0,nS,nS,[],[]⟩
def S0 (B:HB)(n c ck:Nat)(m:Int)(sp:Nat):StD:=⟨D0 B n c,ck,0,m,sp,nS,[],nS,[],0,-1,0,nS,[],nS,[]⟩
theorem owns_nil0 (w:World)(e:TypeId)(k:Nat):w.ownsRow 0 e k nS 0 []:=⟨by simp,.inl ⟨rfl,rfl⟩⟩
def M0:Mem:=fun _=>aNone
theorem Hold.none (w:World):Hold w (fun _=>1000) M0:=⟨fun _=>trivial,fun _ _ h=>h.elim⟩
theorem st_start {w:World}{B:HB}{n c ck sp:Nat}{m:Int}{X:List Nat}(hA:HAt w B (HS.start n) X)(hC:OwnL w c [pV B.hp,.nilFunc,nS,nS])(hK:OwnL w ck [vI (0:Nat),vI m])(hS:OwnL w sp [pV B.hp,pV c,pV ck,nS,nS,vI (0:Nat),vI (-1),vI (0:Nat),nS,nS])
    (h1:¬HBlk B c) (h2:¬HBlk B ck) (h3:¬HBlk B sp) (h4:c≠ck) (h5:c≠sp) (h6:ck≠sp) (m1:0≤m) (m2:m≤1099511627776) {b0:Nat} (l1:∀k,HBlk B k→b0≤k) (l2:b0≤c) (l3:b0≤ck) (l4:b0≤sp) :
    ∃τ,St w τ 0 0 (S0 B n c ck m sp)∧∀b,b<b0→τ b=1000:=by
  have hCy:CyAt w 0 c B.hp 0 nS nS [] []:=⟨hC,ORow.nil _ _,ORow.nil _ _,fun h=>InB.nil _ h,fun h=>InB.nil _ h,fun b h=>absurd h (InB.nil _),Nat.zero_le _⟩
  have hCB:∀k,CyB c nS nS k→k=c:=fun k hk=>by
    rcases hk with hk|hk|hk
    · exact hk
    · exact absurd hk (InB.nil _)
    · exact absurd hk (InB.nil _)
  have hch:CH w 0 c B (HS.start n) X 0 nS nS [] []:=⟨hA,hCy,fun k hk=>by rw[hCB k hk];exact h1⟩;obtain⟨τ1,k1,n1,t1⟩:=(Hold.none w).add 0 (aH (D0 B n c)) ⟨X,hch⟩ (fun j k _ h=>h)
  have b1:∀k,(aH (D0 B n c)).blk k→HBlk B k∨k=c:=fun k hk=>by
    rcases hk with hk|hk
    · exact .inl hk
    · exact .inr (hCB k hk)
  have g1:∀j k,((M0.put 0 (aH (D0 B n c))) j).blk k→HBlk B k∨k=c:=fun j k hk=>by
    by_cases e:j=0
    · subst e;rw[Mem.put_same] at hk;exact b1 k hk
    · rw[Mem.put_other _ _ e] at hk;exact hk.elim
  obtain⟨τ2,k2,n2,t2⟩:=k1.add 2 (aCells sp (pV B.hp) [pV c,pV ck,nS,nS,vI (0:Nat),vI (-1),vI (0:Nat),nS,nS]) hS (fun j k hk h=>by
    have e:k=sp:=hk;subst e;rcases g1 j _ h with h|h
    · exact h3 h
    · exact h5 h.symm)
  have g2:∀j k,(((M0.put 0 (aH (D0 B n c))).put 2 (aCells sp (pV B.hp) [pV c,pV ck,nS,nS,vI (0:Nat),vI (-1),vI (0:Nat),nS,nS])) j).blk k→(HBlk B k∨k=c)∨k=sp:=fun j k hk=>by
    by_cases e:j=2
    · subst e;rw[Mem.put_same] at hk;exact .inr hk
    · rw[Mem.put_other _ _ e] at hk;exact .inl (g1 j k hk)
  obtain⟨τ3,k3,n3,t3⟩:=k2.add 3 (aCells ck (vI (0:Nat)) [vI m]) hK (fun j k hk h=>by
    have e:k=ck:=hk;subst e;rcases g2 j _ h with (h|h)|h
    · exact h2 h
    · exact h4 h.symm
    · exact h6 h)
  have k4:=k3.addE 4 (aOwn 95 1 nS 0 []) (owns_nil0 _ _ _) (fun k=>InB.nil k);have k5:=k4.addE 5 (aIts nS []) (owns_nil0 _ _ _) (fun k=>InB.nil k);have k6:=k5.addE 6 (aRow nS (nI [])) (ORow.nil _ _) (fun k=>InB.nil k);have k7:=k6.addE 7 (aRow nS (nI [])) (ORow.nil _ _) (fun k=>InB.nil k);refine⟨τ3,⟨_,k7,⟨?_,?_,?_,?_,?_,?_,?_,?_,?_⟩,?_⟩,fun b hb=>?_⟩
  · simp[Mem.put,M0,S0]
  · simp[Mem.put,M0,S0,D0]
  · simp[Mem.put,M0,S0]
  · simp[Mem.put,M0,S0]
  · simp[Mem.put,M0,S0]
  · simp[Mem.put,M0,S0]
  · simp[Mem.put,M0,S0]
  · intro t ht;exact absurd ht (Nat.not_lt_zero t)
  · intro t ht;have e7:t≠7:=by omega
    have e6:t≠6:=by omega
    have e5:t≠5:=by omega
    have e4:t≠4:=by omega
    have e3:t≠3:=by omega
    have e2:t≠2:=by omega
    have e0:t≠0:=by omega
    rw[Mem.put_other _ _ e7,Mem.put_other _ _ e6,Mem.put_other _ _ e5,Mem.put_other _ _ e4,Mem.put_other _ _ e3,Mem.put_other _ _ e2,Mem.put_other _ _ e0];rfl
  · exact⟨HW.start n,⟨fun _=>rfl,fun _=>rfl⟩,Nat.zero_le _,Nat.le_refl _,rfl,rfl,⟨m1,m2,Nat.zero_le _⟩,Nat.zero_le _,fun t ht=>absurd ht (Nat.not_lt_zero t),fun i hi=>(by cases hi),Nat.le_refl _,Nat.le_refl _,(show I64 (-1) from⟨by decide,by decide⟩),Nat.zero_le _,Nat.le_refl _,Nat.le_refl _⟩
  · have q3:¬(aCells ck (vI (0:Nat)) [vI m]).blk b:=fun e=>by have e:b=ck:=e;omega
    have q2:¬(aCells sp (pV B.hp) [pV c,pV ck,nS,nS,vI (0:Nat),vI (-1),vI (0:Nat),nS,nS]).blk b:=fun e=>by have e:b=sp:=e;omega
    rw[n3 b q3,n2 b q2,n1 b (fun e=>by
      rcases b1 b e with h|h
      · have:=l1 b h;omega
      · omega)]
def tx0 (xp lp:Nat)(mr mu:Int):TxD:=⟨xp,false,0,0,lp,nS,[],LogD.new mr mu⟩
def StD.more (S:StD)(v:Value)(x:TxD):StD:={ S with tsv:=v,txs:=S.txs++[x] }
theorem St.more {w w':World}{τ:Nat→Nat}{s q:Nat}{S:StD}(h:St w τ s q S)(hn:S.txs.length≤7){v':Value}{xp lp:Nat}{mr mu:Int}(f:Fr (fun b=>b=S.sp∨InB S.tsv b) w w')
    (hc:OwnL w' S.sp (StD.more S v' (tx0 xp lp mr mu)).cs) (ho:w'.ownsRow 0 95 1 v' (S.txs.length+1) ((S.txs.map fun x=>pV x.xp)++[pV xp])) (hnew:∀b,InB v' b→InB S.tsv b∨w.heap.size≤b)
    (hx:OwnL w' xp (TxD.cs S.txs.length (tx0 xp lp mr mu))) (hl:OwnL w' lp [vI mr,vI mu,nS,nS,nS,nS]) (x1:w.heap.size≤xp) (x2:w.heap.size≤lp) (x3:xp≠lp) (x4:¬InB v' xp) (x5:¬InB v' lp)
    (m:0≤mr∧mr≤200∧0≤mu∧mu≤200):∃τ',St w' τ' s q (StD.more S v' (tx0 xp lp mr mu))∧∀b,b<w.heap.size→τ' b=τ b:=by
  obtain⟨M,h1,h2,h3⟩:=h;have hb2:(M 2).blk=fun k=>k=S.sp:=by rw[h2.c];rfl
  have hb4:(M 4).blk=InB S.tsv:=by rw[h2.t];rfl
  obtain⟨N,hN⟩:∃N,S.txs.length=N:=⟨_,rfl⟩
  obtain⟨τ1,k1,kt1⟩:=h1.put2 (t:=2) (u:=4) (by decide) (a:=aCells S.sp (pV S.D.B.hp) [pV S.D.c,pV S.ck,v',S.qv,vI S.next,vI S.holder,vI S.ver,S.lv,S.cv]) (b:=aOwn 95 1 v' (S.txs.length+1) ((S.txs.map fun x=>pV x.xp)++[pV xp]))
    (by rw[hb2,hb4];exact f) hc ho (fun k hk=>by rw[hb2];exact hk) (fun k hk=>by rw[hb4];exact hnew k hk) (by decide) (by decide)
  generalize hM1:(M.put 2 (aCells S.sp (pV S.D.B.hp) [pV S.D.c,pV S.ck,v',S.qv,vI S.next,vI S.holder,vI S.ver,S.lv,S.cv])).put 4 (aOwn 95 1 v' (S.txs.length+1) ((S.txs.map fun x=>pV x.xp)++[pV xp]))=M1 at k1;have p4:M1 4=aOwn 95 1 v' (S.txs.length+1) ((S.txs.map fun x=>pV x.xp)++[pV xp]):=by rw[←hM1,Mem.put_same]
  have p2:M1 2=aCells S.sp (pV S.D.B.hp) [pV S.D.c,pV S.ck,v',S.qv,vI S.next,vI S.holder,vI S.ver,S.lv,S.cv]:=by rw[←hM1,Mem.put_other _ _ (by decide),Mem.put_same]
  have pO:∀j,j≠2→j≠4→M1 j=M j:=fun j e2 e4=>by rw[←hM1,Mem.put_other _ _ e4,Mem.put_other _ _ e2]
  have far:∀k,w.heap.size≤k→¬InB v' k→∀j,¬(M1 j).blk k:=fun k hk hv j hj=>by
    by_cases e4:j=4
    · subst e4;rw[p4] at hj;exact hv hj
    · by_cases e2:j=2
      · subst e2;rw[p2] at hj;have e:k=S.sp:=hj;have:=h1.lt 2 (k:=S.sp) (by rw[hb2]);omega
      · rw[pO j e2 e4] at hj;have:=h1.lt j hj;omega
  obtain⟨τ2,k2,n2,t2⟩:=k1.add (10+8*N) (aCells xp (vI N) [.bool false,vI 0,vI 0,pV lp,nS]) (by rw[←hN];exact hx) (fun j k hk=>by have e:k=xp:=hk;rw[e];exact far xp x1 x4 j)
  obtain⟨τ3,k3,n3,t3⟩:=k2.add (10+8*N+1) (aCells lp (vI mr) [vI mu,nS,nS,nS,nS]) hl (fun j k hk h=>by
    have e:k=lp:=hk;rw[e] at h
    by_cases ej:j=10+8*N
    · subst ej;rw[Mem.put_same] at h;exact x3 (Eq.symm h)
    · rw[Mem.put_other _ _ ej] at h;exact far lp x2 x5 j h)
  have k4:=k3.addE (10+8*N+2) (aRow nS (nI [])) (ORow.nil _ _) (fun k=>InB.nil k);have k5:=k4.addE (10+8*N+3) (aRow nS (nI [])) (ORow.nil _ _) (fun k=>InB.nil k);have k6:=k5.addE (10+8*N+4) (aHds nS []) (owns_nil0 _ _ _) (fun k=>InB.nil k);have k7:=k6.addE (10+8*N+5) (aUds nS []) (owns_nil0 _ _ _) (fun k=>InB.nil k);have k8:=k7.addE (10+8*N+6) (aIts nS []) (owns_nil0 _ _ _) (fun k=>InB.nil k);generalize hM8:(((((((M1.put (10+8*N) (aCells xp (vI N) [.bool false,vI 0,vI 0,pV lp,nS])).put (10+8*N+1) (aCells lp (vI mr) [vI mu,nS,nS,nS,nS])).put (10+8*N+2) (aRow nS (nI []))).put (10+8*N+3) (aRow nS (nI []))).put (10+8*N+4) (aHds nS [])).put (10+8*N+5) (aUds nS [])).put (10+8*N+6) (aIts nS []))=M8 at k8
  have o8:Mem.Only (fun j=>10+8*N≤j∧j≤10+8*N+6) M1 M8:=by
    rw[←hM8];exact((((((Mem.Only.put M1 _ (by omega)).trans (Mem.Only.put _ _ (by omega))).trans (Mem.Only.put _ _ (by omega))).trans (Mem.Only.put _ _ (by omega))).trans (Mem.Only.put _ _ (by omega))).trans (Mem.Only.put _ _ (by omega))).trans (Mem.Only.put _ _ (by omega))
  have g0:M8 (10+8*N)=aCells xp (vI N) [.bool false,vI 0,vI 0,pV lp,nS]:=by rw[←hM8];simp[Mem.put]
  have g1:M8 (10+8*N+1)=aCells lp (vI mr) [vI mu,nS,nS,nS,nS]:=by rw[←hM8];simp[Mem.put]
  have g2:M8 (10+8*N+2)=aRow nS (nI []):=by rw[←hM8];simp[Mem.put]
  have g3:M8 (10+8*N+3)=aRow nS (nI []):=by rw[←hM8];simp[Mem.put]
  have g4:M8 (10+8*N+4)=aHds nS []:=by rw[←hM8];simp[Mem.put]
  have g5:M8 (10+8*N+5)=aUds nS []:=by rw[←hM8];simp[Mem.put]
  have g6:M8 (10+8*N+6)=aIts nS []:=by rw[←hM8];simp[Mem.put]
  have txO:∀t,t<N→(StD.more S v' (tx0 xp lp mr mu)).tx t=S.tx t:=fun t ht=>by
    show(S.txs++[_]).getD t dT=S.txs.getD t dT;rw[List.getD_eq_getElem?_getD,List.getD_eq_getElem?_getD,List.getElem?_append_left (by omega)]
  have txN:(StD.more S v' (tx0 xp lp mr mu)).tx N=tx0 xp lp mr mu:=by
    show(S.txs++[_]).getD N dT=_;rw[List.getD_eq_getElem?_getD,List.getElem?_append_right (by omega),hN,Nat.sub_self];rfl
  have hml:(StD.more S v' (tx0 xp lp mr mu)).txs.length=N+1:=by show(S.txs++[_]).length=_;rw[List.length_append,hN];rfl
  refine⟨τ3,⟨M8,k8,⟨?_,?_,?_,?_,?_,?_,?_,?_,?_⟩,?_⟩,fun b hb=>?_⟩
  · rw[o8 0 (by omega),pO 0 (by decide) (by decide)];exact h2.h
  · rw[o8 2 (by omega),p2];rfl
  · rw[o8 3 (by omega),pO 3 (by decide) (by decide)];exact h2.k
  · rw[o8 4 (by omega),p4,hml,hN];show aOwn _ 1 v' (N+1) _=aOwn _ 1 v' (N+1) ((S.txs++[tx0 xp lp mr mu]).map fun x=>pV x.xp);rw[List.map_append];rfl
  · rw[o8 5 (by omega),pO 5 (by decide) (by decide)];exact h2.q
  · rw[o8 6 (by omega),pO 6 (by decide) (by decide)];exact h2.l
  · rw[o8 7 (by omega),pO 7 (by decide) (by decide)];exact h2.m
  · intro t ht;rw[hml] at ht
    by_cases e:t=N
    · subst e;rw[txN];exact⟨g0,⟨g1,g2,g3,g4,g5⟩,g6⟩
    · rw[txO t (by omega)];exact((h2.x t (by omega)).only (P:=fun j=>j=2∨j=4) (fun j hj=>pO j (fun e=>hj (.inl e)) (fun e=>hj (.inr e))) (fun j h1 h2=>by omega)).only o8 (fun j h1 h2=>by omega)
  · intro t ht;rw[o8 t (by omega),pO t (by omega) (by omega)];exact h2.z t ht
  · refine⟨h3.hw,h3.ph,h3.p2,h3.se,h3.rd,h3.ls,h3.ck,by rw[hml];omega,fun t ht=>?_,h3.qu,?_,h3.nx,h3.ho,h3.ve,h3.lo,h3.ca⟩
    · rw[hml] at ht
      by_cases e:t=N
      · subst e;rw[txN];exact⟨⟨fun p hp=>(by cases hp),fun p hp=>(by cases hp),fun p hp=>(by cases hp),fun p hp=>(by cases hp)⟩,⟨Nat.zero_le _,Nat.zero_le _,Nat.zero_le _,Nat.zero_le _⟩,m,⟨(show I64 0 from⟨by decide,by decide⟩),(show I64 0 from⟨by decide,by decide⟩)⟩,fun i hi=>(by cases hi)⟩
      · rw[txO t (by omega)];exact h3.x t (by omega)
    · have:=h3.tt;unfold StD.tot at this ⊢;show S.qu.length+((S.txs++[tx0 xp lp mr mu]).map fun x=>x.took.length).sum≤q;rw[List.map_append,List.sum_append];simpa[tx0] using this
  · rw[n3 b (fun e=>by have e:b=lp:=e;omega),n2 b (fun e=>by have e:b=xp:=e;omega)];exact kt1.tg b hb
end
section
open Go.RowKit Go.Shelf
def udV (u:Ud):Value:=.agg #[vI u.kind,vI u.at_,vI u.i,vI u.old]
structure BkQ (cb:Nat)(v:Value)(l:List Ud)(W:World):Prop where
  c:W.cell? ⟨cb,0,none⟩=some v
  r:∃g,∀j,j<l.length→(∃c,v = .slice (some ⟨g,0,none⟩) l.length c)∧∀i u,(udC (l.getD j dU))[i]?=some u→W.cell? ⟨g,j*4+i,none⟩=some u
  s:∃a c,v = .slice a l.length c
def bkEl (l:List Ud)(k:Nat):Array Value:=#[vI ((l.length:Int)-1-k),udV (l.getD (l.length-1-k) dU)]
theorem back_seq (n:Nat)(hn:1≤n)(w0:World)(cb:Nat)(v:Value)(l:List Ud)(hl:l.length≤100000) :
    SeqAtX (BkQ cb v l) Fence.wide n Tryz.prog 217 #[.pointer (some ⟨cb,0,none⟩)] (bkEl l) l.length true w0:=fun y J Jx W hkW hQ hJ hG hJx hN hY h0=>by
  have q0:=hQ _ _ _ h0;obtain⟨a,c,hv⟩:=q0.s;have y1:=q0.c;rw[hv] at y1;have hv':=hid hv;have h00:=hid h0;replace hQ:=hid hQ;replace hJ:=hid hJ;replace hG:=hid hG;replace hJx:=hid hJx;replace hN:=hid hN;replace hY:=hid hY;clear q0 h0 hv;refine callsIn_of_wp Tryz.func217 rfl trivial ?_ rfl;simp only[Tryz.ntmps217,List.size_toArray,List.length_cons,List.length_nil,Nat.reduceAdd,Nat.reduceSub,Array.replicate_succ,Array.replicate_zero,List.push_toArray,List.append_toArray,List.nil_append,List.cons_append,Array.append_empty]
  gi_wp2_with fail
  gi_loopw [3] (fun p wr=>∃k:Nat,k≤l.length∧p=vI ((l.length:Int)-1-k)∧Hid (J (fun _=>False) k wr)) (fun p _=>(intOf p+1).toNat)
  case atStart=>exact⟨0,by omega,by go_num,h00⟩
  case round=>
    obtain⟨k,hk,rfl,hj⟩:=hrel;clear y1 h00;rcases Nat.lt_or_ge k l.length with hlt|hge
    · have g1:(0:Int)≤(l.length:Int)-1-k:=by omega
      have qa:=hQ.out _ _ _ hj.out;have pa:=qa.c;obtain⟨g,hg⟩:=qa.r;obtain⟨⟨c2,hc2⟩,hcell⟩:=hg (l.length-1-k) (by omega);rw[hc2] at pa;have e0:((l.length:Int)-1-k).toNat=l.length-1-k:=by omega
      obtain⟨m,hm⟩:∃m,l.length-1-k=m:=⟨_,rfl⟩;have em:(l.length:Int)-1-k=(m:Int):=by omega
      rw[hm] at hcell;have x0:=hcell 0 _ rfl;rw[Nat.add_zero] at x0;have x1:=hcell 1 _ rfl;have x2:=hcell 2 _ rfl;have x3:=hcell 3 _ rfl;have hYk:=hY.out _ k wr hlt hj.out;have e1:bkEl l k = #[vI (m:Int),.agg #[vI (l.getD m dU).kind,vI (l.getD m dU).at_,vI (l.getD m dU).i,vI (l.getD m dU).old]]:=by unfold bkEl;rw[em,hm];rfl
      rw[e1] at hYk;obtain⟨fn,tmps,assign,body,hy,hR⟩:=hYk;have hmn:(m:Int)<l.length:=by omega
      rw[em];rw[em] at g1;generalize l.getD m dU=U at *;clear e1 qa hg hc2 e0
      gi_wp2
      refine hR.mono ?_;rintro e W2 (⟨rfl,hJ1,-⟩|⟨rfl,hx1⟩)
      · replace hJ1:=hid hJ1;clear pa x0 x1 x2 x3
        gi_wp2
        exact⟨⟨k+1,by omega,by rw[show(m:Int)-1=(l.length:Int)-1-(k+1:Nat) by omega],hJ1⟩,by simp[intOf]⟩
      · replace hx1:=hid hx1
        gi_wp2
        exact bodyPost_ret (v:=.tuple #[]) (by simp[results,Tryz.f217,go_sem]) rfl ⟨⟨_,rfl⟩,.inr hx1.out⟩
    · obtain rfl:k=l.length:=by omega
      have g1:¬((0:Int)≤(l.length:Int)-1-l.length):=by omega
      have hjn:=hj;clear hge hk hj
      gi_wp2
      exact bodyPost_end (v:=.tuple #[]) (by simp[results,Tryz.f217,go_sem]) rfl ⟨⟨_,rfl⟩,.inl ⟨_,hjn.out⟩⟩
end
section
open Go.RowKit Go.Shelf
theorem run_app_noneG {sty ety:TypeId}{k:Nat}(G:GI sty ety k){w:World}{v:Value}{n:Nat}{xs:List Value}(hown:w.ownsRow 0 ety k v n xs)(ty:TypeId)(c:Nat):(Builtin.append_ #[sty,sty] ty #[v,.slice none 0 c]).run Tryz.prog w = .ok v w:=by
  obtain⟨i0,z,bytes,hi,hz0,hz1,hz2,hz3,hk,hb⟩:=G.info;rcases hown.2 with ⟨rfl,_⟩|⟨g,cap,cur,rfl,_,_,hn,_⟩
  · simp[Builtin.append_,run_underlying G.und,sizeOf,typeInfo,hi,Builtin.lenOf,Builtin.firstCells]
  · simp[Builtin.append_,run_underlying G.und,sizeOf,typeInfo,hi,Builtin.lenOf,Builtin.firstCells,hn,storeCells]
theorem wpList_appGO {sty ety:TypeId}{k:Nat}(G:GI sty ety k){ops:Array Oper}{rest:List Oper}{o:Oper}{a:Act}{Q:Exit→Act→World→Prop}{w:World}(hgd:o.guard=none)(s x:Operand)
    (ho:o.op = .call { callee:=.builtin .append,args:=#[s,x],argTypes:=#[sty,sty] })
    (v:Value) (n:Nat) (xs:List Value) (hown:w.ownsRow 0 ety k v n xs) (hs:a.eval s=v) (u:Value) (m:Nat) (ys:List Value) (hy:w.ownsRow 0 ety k u m ys) (hx:a.eval x=u) (h1:∀u∈ys,u.oneCell'=true) (hl:n+m≤1000000)
    (h:∀v' w',w'.ownsRow 0 ety k v' (n+m) (xs++ys)→Fr (InB v) w w'→(∀b,InB v' b→InB v b∨w.heap.size≤b)→wpList Tryz.prog ops Q rest (a.put o.dst v') w') :
    wpList Tryz.prog ops Q (o::rest) a w:=by
  by_cases hn:u = .slice none 0 0
  · subst hn
    have h0:m=0:=by
      rcases hy.2 with ⟨_,h0⟩|⟨g,cap,cur,hv,_⟩
      · exact h0
      · cases hv
    subst h0;have hys:ys=[]:=by have:=owns_len hy;simpa using this
    subst hys;refine wpList_plain hgd fun K hK=>?_;have hrun:=run_app_noneG G hown o.type 0;unfold Oper.wp execOp;simp only[ho,resolve,invoke,builtin,Sem.run_bind,Sem.run_pure,Result.andThen_ok,List.map_toArray,List.map_cons,List.map_nil,hs,hx,hrun];exact hK _ _ (h v w (by simpa using hown) (Fr.refl _ _) (fun b hb=>.inl hb))
  · obtain⟨g,c,rfl,hc⟩:=owns_cells hy hn;refine wpList_appGL G hgd s x ho v n xs hown hs ⟨g,0,none⟩ m c ys hx (owns_len hy) h1 (fun j u hj=>by rw[addr_at];simp only[Nat.zero_add];exact hc j u hj) hl h
theorem size_drew (w:World):w.drew.heap.size=w.heap.size:=rfl
set_option maxRecDepth 8000 in
theorem wpList_appZ {ops:Array Oper}{rest:List Oper}{o:Oper}{a:Act}{Q:Exit→Act→World→Prop}{w:World}(hgd:o.guard=none)(s x:Operand)
    (ho:o.op = .call { callee:=.builtin .append,args:=#[s,x],argTypes:=#[92,3] })
    (hs:a.eval s = .slice none 0 0) (n:Nat) (h0:0<n) (hn:n≤1000000) (hx:a.eval x=vI n)
    (h:∀C w',n≤C→w'.ownsRow 0 112 2 (.slice (some ⟨w.heap.size,0,none⟩) 0 C) 0 []→Calm w w'→wpList Tryz.prog ops Q rest (a.put o.dst (.slice (some ⟨w.heap.size,0,none⟩) n C)) w') :
    wpList Tryz.prog ops Q (o::rest) a w:=by
  obtain⟨i0,z,bytes,hi,hz0,hz1,hz2,hz3,hk,hb⟩:=giI.info;have hap:=fun ty=>Lib.run_append_nil_zeros (P:=Tryz.prog) w 92 3 ty 112 i0 z .i64 .i64 giI.und (by kernel_rfl) hi hz0 n h0 (by rw[hz1];decide) (by omega) (by rw[hz2];exact Nat.le_trans (Nat.mul_le_mul hn hb) (by omega));have hge:=grownCap_ge w n 0 112;have hle:=grownCap_le_maxLen w n 0 112 (by unfold maxLen;omega);refine wpList_plain hgd fun K hK=>?_;unfold Oper.wp execOp;simp only[ho,resolve,invoke,builtin,Sem.run_bind,Sem.run_pure,Result.andThen_ok,List.map_toArray,List.map_cons,List.map_nil,hs,hx,hap];refine hK _ _ (h _ _ hge ?_ ((Fr.refl _ _).drew.alloc _));generalize grownCap w n 0 112=C at *
  have hsz:(Builtin.zeroCells z.cells n++Builtin.zeroCells z.cells (C-n)).size=C*2:=by
    rw[Array.size_append,size_zeroCells,size_zeroCells,hz3,←Nat.add_mul,show n+(C-n)=C by omega]
  generalize Builtin.zeroCells z.cells n++Builtin.zeroCells z.cells (C-n)=Z at *;have hN:=World.alloc_heap_new w.drew (.cells Z 112);rw[size_drew] at hN;exact⟨rfl,.inr ⟨w.heap.size,C,Z,rfl,Nat.zero_le _,hN,Nat.zero_le _,hle,hsz,by simp⟩⟩
def GrowPost (w:World)(e:Ending)(w':World):Prop:=∃v,e = .returned v∧w'.ownsRow 0 112 2 v 0 []∧(∀b,InB v b→w.heap.size≤b)∧Calm w w'
set_option maxRecDepth 4000 in
theorem grow_is (w:World)(n:Nat)(hn:n≤1000000):Calls Tryz.prog 219 #[.slice none 0 0,vI n] w (GrowPost w):=by
  by_cases h0:n=0
  · subst h0;have hP:Hid (GrowPost w (.returned (.slice none 0 0)) w):=⟨_,rfl,owns_nil _ _ _ _,fun b hb=>(InB.nil b hb).elim,Fr.refl _ _⟩;go_enter Tryz.func219,Tryz.ntmps219;go_wp2;go_ret;exact hP.out
  · have hw:wrap64 (n:Int)=n:=by rw[←IntWalk.i64_left];exact IntWalk.i64_in _ (by omega)
    have g0:¬((n:Int)<0):=by omega
    have g1:((n:Int)>0):=by omega
    go_enter Tryz.func219,Tryz.ntmps219;go_wp2_with (at_builtin;go_must (refine wpList_appZ rfl _ _ rfl rfl n (by omega) hn rfl ?_);intro C w1 hC hr c1;replace hr:=hid hr;replace c1:=hid c1)
    go_ret;exact⟨_,rfl,hr.out,fun b hb=>by rw[InB.mk1 hb];exact Nat.le_refl _,c1.out⟩
theorem its_one (l:List It):∀u∈l.flatMap itC,u.oneCell'=true:=by
  intro u hu;obtain⟨x,_,hx⟩:=List.mem_flatMap.1 hu;simp only[itC,List.mem_cons,List.not_mem_nil,or_false] at hx;rcases hx with rfl|rfl <;> rfl
def preL (a b:List It):Nat→List It|0=>[]|1=>a|_=>a++b
def CatPost (w:World)(a b:List It)(e:Ending)(w':World):Prop:=∃v,e = .returned v∧w'.ownsRow 0 112 2 v (a++b).length ((a++b).flatMap itC)∧(∀k,InB v k→w.heap.size≤k)∧Calm w w'
set_option maxRecDepth 4000 in
theorem concat_is {w:World}{B:Nat}{va vb:Value}{a b:List It}(hB:OwnL w B [va,vb])(ha:w.ownsRow 0 112 2 va a.length (a.flatMap itC))(hb:w.ownsRow 0 112 2 vb b.length (b.flatMap itC))(hl:a.length+b.length≤1000000) :
    Calls Tryz.prog 195 #[.slice (some ⟨B,0,none⟩) 2 2] w (CatPost w a b):=by
  obtain⟨ax,ac,rfl⟩:=owns_slice ha;obtain⟨bx,bc,rfl⟩:=owns_slice hb;obtain⟨y0,y1⟩:=OwnL.ce2 hB;have HA:=hid ha;have HB:=hid hb;have hw1:wrap64 (0+(a.length:Int))=a.length:=by rw[Int.zero_add,←IntWalk.i64_left];exact IntWalk.i64_in _ (by omega)
  have hw2:wrap64 ((a.length:Int)+b.length)=((a.length+b.length:Nat):Int):=by rw[←IntWalk.i64_left];rw[IntWalk.i64_in _ (by omega)];omega
  clear ha hb;go_enter Tryz.func195,Tryz.ntmps195;go_wp2_with fail
  go_loopw [3,11] (fun n q wr=>∃k:Nat,k≤2∧q=vI k∧n=vI ((if k=0 then 0 else if k=1 then a.length else a.length+b.length:Nat):Int)∧wr=w) (fun _ q _=>2-(intOf q).toNat)
  case atStart=>exact⟨0,by omega,rfl,rfl,rfl⟩
  case round=>
    obtain⟨k,hk,rfl,rfl,hwr⟩:=hrel;subst wr;rcases(by omega:k=0∨k=1∨k=2) with rfl|rfl|rfl
    · go_wp2;exact⟨⟨1,by omega,rfl,by simp,trivial⟩,by simp[intOf]⟩
    · go_wp2;exact⟨⟨2,by omega,rfl,by simp,trivial⟩,by simp[intOf]⟩
    · go_wp2_with fail
      rw[show((a.length:Int)+b.length)=((a.length+b.length:Nat):Int) by omega];refine(grow_is _ _ hl).mono ?_;rintro e w1 ⟨v,rfl,g1,g2,g3⟩;have q0:=g3.cellAt y0 id;have q1:=g3.cellAt y1 id;have G1:=hid g1;have G2:=hid g2;have G3:=hid g3;clear g1 g2;go_wp2_with fail
      go_loopw [6,27] (fun v q W=>∃k:Nat,k≤2∧q=vI k∧Hid (W.ownsRow 0 112 2 v (preL a b k).length ((preL a b k).flatMap itC))∧Hid (∀j,InB v j→w.heap.size≤j)∧Hid (Calm w W)) (fun _ q _=>2-(intOf q).toNat)
      case atStart=>exact⟨0,by omega,rfl,G1,G2,G3⟩
      case round=>
        obtain⟨k,hk,rfl,hr,hi,hc⟩:=hrel;clear q0 q1 G1 G2 G3 g3;have q0:=hc.out.cellAt y0 id;have q1:=hc.out.cellAt y1 id;have A1:=hid (owns_frB HA.out hc.out (fun _ _=>id));have B1:=hid (owns_frB HB.out hc.out (fun _ _=>id));rcases(by omega:k=0∨k=1∨k=2) with rfl|rfl|rfl
        · go_wp2_with (at_builtin;go_must (refine wpList_appGO giI rfl _ _ rfl _ _ _ hr.out rfl _ _ _ A1.out rfl (its_one a) (by show 0+a.length≤_;omega) ?_);intro v' w3 hr3 f3 hn3;replace hr3:=hid hr3;replace f3:=hid f3;replace hn3:=hid hn3)
          have hi3:Hid (∀j,InB v' j→w.heap.size≤j):=fun j hj=>by
            rcases hn3.out j hj with e|e
            · exact hi.out j e
            · have:=hc.out.size;omega
          have hc3:Hid (Calm w w3):=hc.out.join f3.out (fun j hj e=>by have:=hi.out j e;omega)
          have hr4:Hid (w3.ownsRow 0 112 2 v' (preL a b 1).length ((preL a b 1).flatMap itC)):=by
            have:=hr3.out;simp only[preL,List.nil_append,List.flatMap_nil,List.length_nil,Nat.zero_add] at this;simp only[preL,List.length_append,List.flatMap_append];exact this
          exact⟨⟨1,by omega,rfl,hr4,hi3,hc3⟩,by simp[intOf]⟩
        · go_wp2_with (at_builtin;go_must (refine wpList_appGO giI rfl _ _ rfl _ _ _ hr.out rfl _ _ _ B1.out rfl (its_one b) (by show a.length+b.length≤_;omega) ?_);intro v' w3 hr3 f3 hn3;replace hr3:=hid hr3;replace f3:=hid f3;replace hn3:=hid hn3)
          have hi3:Hid (∀j,InB v' j→w.heap.size≤j):=fun j hj=>by
            rcases hn3.out j hj with e|e
            · exact hi.out j e
            · have:=hc.out.size;omega
          have hc3:Hid (Calm w w3):=hc.out.join f3.out (fun j hj e=>by have:=hi.out j e;omega)
          have hr4:Hid (w3.ownsRow 0 112 2 v' (preL a b 2).length ((preL a b 2).flatMap itC)):=by
            have:=hr3.out;simp only[preL,List.nil_append,List.flatMap_nil,List.length_nil,Nat.zero_add] at this;simp only[preL,List.length_append,List.flatMap_append];exact this
          exact⟨⟨2,by omega,rfl,hr4,hi3,hc3⟩,by simp[intOf]⟩
        · go_wp2;go_ret;exact⟨_,rfl,hr.out,hi.out,hc.out⟩
end
section
open Go.RowKit Go.Shelf
set_option maxRecDepth 8000 in
theorem wpList_appF {sty ety:TypeId}{k:Nat}(G:GI sty ety k){ops:Array Oper}{rest:List Oper}{o:Oper}{a:Act}{Q:Exit→Act→World→Prop}{w:World}(hgd:o.guard=none)(s x:Operand)
    (ho:o.op = .call { callee:=.builtin .append,args:=#[s,x],argTypes:=#[sty,sty] })
    (g n cap:Nat) (xs:List Value) (hown:w.ownsRow 0 ety k (.slice (some ⟨g,0,none⟩) n cap) n xs) (hs:a.eval s = .slice (some ⟨g,0,none⟩) n cap) (ad:Addr) (m c:Nat) (ys:List Value) (hx:a.eval x = .slice (some ad) m c) (hys:ys.length=m*k) (h1:∀u∈ys,u.oneCell'=true)
    (hc:∀j u,ys[j]?=some u→w.cell? (ad.add j)=some u) (hroom:n+m≤cap)
    (h:∀w',w'.ownsRow 0 ety k (.slice (some ⟨g,0,none⟩) (n+m) cap) (n+m) (xs++ys)→Fr (fun b=>b=g) w w'→wpList Tryz.prog ops Q rest (a.put o.dst (.slice (some ⟨g,0,none⟩) (n+m) cap)) w') :
    wpList Tryz.prog ops Q (o::rest) a w:=by
  obtain⟨i0,z,bytes,hi,hz0,hz1,hz2,hz3,hk,hb⟩:=G.info;refine wpList_plain hgd fun K hK=>?_;obtain⟨w',hr,h2,h3⟩:=run_append_fits (P:=Tryz.prog) w 0 sty o.type ety i0 k G.und hi hz1 g n cap xs hown ad m c ys hys hc h1 hroom;unfold Oper.wp execOp;simp only[ho,resolve,invoke,builtin,Sem.run_bind,Sem.run_pure,Result.andThen_ok,List.map_toArray,List.map_cons,List.map_nil,hs,hx,hr];exact hK _ _ (h w' h2 (Fr.grown (Fr.refl _ _) h3 (fun b hb=>.inl (by injection hb with hb;exact hb.symm))))
theorem owns_beyond {ety:TypeId}{k:Nat}{w:World}{g n c:Nat}{xs:List Value}(h:w.ownsRow 0 ety k (.slice (some ⟨g,0,none⟩) n c) n xs){j:Nat}(hj:n*k≤j)(y:Value):(w.setCell ⟨g,j,none⟩ y).ownsRow 0 ety k (.slice (some ⟨g,0,none⟩) n c) n xs:=by
  obtain⟨hl,⟨h1,h0⟩|⟨g',cap,cur,hv,hb,hg,hn,hcm,hcur,hx⟩⟩:=h
  · cases h1
  · cases hv;refine⟨hl,.inr ⟨g,c,cur.set! j y,rfl,hb,?_,hn,hcm,by simpa using hcur,?_⟩⟩
    · rw[heap_setCell_same _ _ _ _ _ _ hg];simp
    · simp only[Array.set!_eq_setIfInBounds,Array.toList_setIfInBounds];rw[List.take_set_of_le hj,hx]
theorem owns_cut {ety:TypeId}{k:Nat}{w:World}{g n c:Nat}{xs:List Value}(h:w.ownsRow 0 ety k (.slice (some ⟨g,0,none⟩) n c) n xs):w.ownsRow 0 ety k (.slice (some ⟨g,0,none⟩) 0 c) 0 []:=by
  obtain⟨hl,⟨h1,h0⟩|⟨g',cap,cur,hv,hb,hg,hn,hcm,hcur,hx⟩⟩:=h
  · cases h1
  · cases hv;exact⟨by simp,.inr ⟨g,c,cur,rfl,hb,hg,Nat.zero_le _,hcm,hcur,by simp⟩⟩
theorem owns_cap {ety:TypeId}{k:Nat}{w:World}{g n c:Nat}{xs:List Value}(h:w.ownsRow 0 ety k (.slice (some ⟨g,0,none⟩) n c) n xs):n≤c∧(∀j,j<c*k→∃u,w.cell? ⟨g,j,none⟩=some u)∧∀j,w.frozen? ⟨g,j,none⟩=false:=by
  obtain⟨hl,⟨h1,h0⟩|⟨g',cap,cur,hv,hb,hg,hn,hcm,hcur,hx⟩⟩:=h
  · cases h1
  · cases hv;refine⟨hn,fun j hj=>⟨cur[j]'(by omega),?_⟩,fun j=>?_⟩
    · simp[World.cell?,hg]
    · simp[World.frozen?,hg]
theorem run_clear_item {w:World}{g o c:Nat}{u v:Value}(ty:TypeId)(h0:w.cell? ⟨g,o,none⟩=some u)(h1:w.cell? ⟨g,o+1,none⟩=some v)(f:∀j,w.frozen? ⟨g,j,none⟩=false) :
    (Builtin.clear_ #[92] ty #[.slice (some ⟨g,o,none⟩) 1 c]).run Tryz.prog w = .ok (.tuple #[]) ((w.setCell ⟨g,o,none⟩ (vI 0)).setCell ⟨g,o+1,none⟩ (vI 0)):=by
  obtain⟨i0,hi,hz0⟩:∃i0,Tryz.prog.info? 112=some i0∧i0.zero=some (.agg #[vI 0,vI 0]):=by
    obtain⟨i0,hi,hz0,_⟩:=info_parts (show(Tryz.prog.info? 112).map (fun i=>(i.zero,i.size,i.bytes))=some (some (.agg #[vI 0,vI 0]),2,16) by kernel_rfl);exact⟨i0,hi,hz0⟩
  have hz:∀w,(zeroValue 112).run Tryz.prog w = .ok (.agg #[vI 0,vI 0]) w:=fun w=>by
    simp[zeroValue,typeInfo,hi,hz0,go_sem]
  have hst:=run_storeCells_cells (P:=Tryz.prog) g o [vI 0,vI 0] 0 w (by
    intro j hj;rcases(by simp at hj;omega:j=0∨j=1) with rfl|rfl
    · simpa using by rw[h0];rfl
    · simpa using by rw[h1];rfl) (fun j hj=>by simpa using f (o+j)) (by simp[Value.oneCell'])
  simp only[Nat.add_zero] at hst
  have hzc:(Builtin.zeroCells (Value.agg #[vI 0,vI 0]).cells 1).toList=[vI 0,vI 0]:=by
    have hc:(Value.agg #[Value.int IntKind.i64 0,Value.int IntKind.i64 0]).cells = #[vI 0,vI 0]:=by rfl
    rw[hc];simp[Builtin.zeroCells];apply List.ext_getElem
    · simp
    · intro i h1 h2;simp at h2;rcases(by omega:i=0∨i=1) with rfl|rfl <;> simp
  simp[Builtin.clear_,run_underlying giI.und,hz];rw[hzc];simp[hst,World.setCells]
def DelPost (w:World)(g c:Nat)(l:List It)(e:Ending)(w':World):Prop:=e = .returned (.slice (some ⟨g,0,none⟩) l.length c)∧w'.ownsRow 0 112 2 (.slice (some ⟨g,0,none⟩) l.length c) l.length (l.flatMap itC)∧Fr (fun b=>b=g) w w'
set_option maxRecDepth 4000 in
theorem delete_is {w:World}{g c:Nat}{x:It}{l:List It}(hr:w.ownsRow 0 112 2 (.slice (some ⟨g,0,none⟩) (l.length+1) c) (l.length+1) ((x::l).flatMap itC))(hl:l.length≤1000000) :
    Calls Tryz.prog 143 #[.slice (some ⟨g,0,none⟩) (l.length+1) c,vI 0,vI 1] w (DelPost w g c l):=by
  obtain⟨hnc,hcells,hfz⟩:=owns_cap hr;obtain⟨N,hN⟩:∃N,l.length=N:=⟨_,rfl⟩;rw[hN] at hr hnc hl ⊢;have HR:=hid hr;have h0:=hid (owns_cut hr);clear hr;go_enter Tryz.func143,Tryz.ntmps143;go_wp2_with fail
  refine wp_region_calm_tail 6 (by kernel_rfl) (by kernel_rfl) ?_;simp only[List.take_succ_cons,List.take_zero,List.drop_succ_cons,List.drop_zero]
  repeat (go_big_quiet_step (fail))
  refine wpQuiet_nil ?_;intro w2 hw';have c2:=Later.out hw';clear hw';have hlen:(l.flatMap itC).length=N*2:=by rw[flat_len itC 2 itC_len,hN]
  have H0:=hid (owns_frB h0.out c2 (fun _ _=>id))
  have hsrc:Hid (∃ad,(if c=1 then some (⟨g,0,none⟩:Addr) else some ⟨g,2,none⟩)=some ad∧∀j u,(l.flatMap itC)[j]?=some u→w2.cell? (ad.add j)=some u):=by
    obtain⟨g',c',hv,hcl⟩:=owns_cells HR.out (by simp);injection hv with e1 e2 e3;injection e1 with e1;injection e1 with e1;subst e1
    by_cases hc1:c=1
    · have:l=[]:=List.eq_nil_of_length_eq_zero (by omega);subst this;exact⟨_,if_pos hc1,fun j u hj=>by simp at hj⟩
    · refine⟨_,if_neg hc1,fun j u hj=>?_⟩;rw[addr_at];refine c2.cellAt (hcl (2+j) u ?_) id;rw[List.flatMap_cons,List.getElem?_append_right (by simp[itC]),show 2+j-(itC x).length=j by simp[itC]];exact hj
  obtain⟨ad,had,hac⟩:=hsrc.out;rw[had];clear hsrc;refine wpList_appF giI rfl _ _ rfl g 0 c [] H0.out rfl ad N (c-1) (l.flatMap itC) rfl hlen (its_one l) hac (by omega) ?_;intro w3 hr3 f3;rw[Nat.zero_add,List.nil_append] at hr3;obtain⟨_,hcells3,hfz3⟩:=owns_cap hr3;obtain⟨u0,k0⟩:=hcells3 (N*2) (by omega);obtain⟨u1,k1⟩:=hcells3 (N*2+1) (by omega);have hclr:=fun ty=>run_clear_item (c:=c-N) ty k0 k1 hfz3;have HR3:Hid (((w3.setCell ⟨g,N*2,none⟩ (vI 0)).setCell ⟨g,N*2+1,none⟩ (vI 0)).ownsRow 0 112 2 (.slice (some ⟨g,0,none⟩) N c) N (l.flatMap itC)):=owns_beyond (owns_beyond hr3 (Nat.le_refl _) _) (by omega) _;have f4:Fr (fun b=>b=g) w ((w3.setCell ⟨g,N*2,none⟩ (vI 0)).setCell ⟨g,N*2+1,none⟩ (vI 0)):=(((Calm.any c2:Fr (fun b=>b=g) _ _).trans f3).setCell (p:=⟨g,N*2,none⟩) (.inl rfl) _).setCell (p:=⟨g,N*2+1,none⟩) (.inl rfl) _;clear hcells3 hfz3 hcells hfz hr3 had hac H0 h0 HR;go_wp2;go_ret;subst hN;exact⟨rfl,HR3.out,f4⟩
end
section
open Go.RowKit Go.Shelf
variable {w:World}{τ:Nat→Nat}{s q:Nat}{S:StD}
structure SCell where
  qv:Value
  qu:List It
  next:Nat
  holder:Int
  ver:Nat
def StD.setS (S:StD)(c:SCell):StD:={ S with qv:=c.qv,qu:=c.qu,next:=c.next,holder:=c.holder,ver:=c.ver }
theorem Fix.setS (S:StD)(c:SCell):Fix S (S.setS c):=⟨rfl,rfl,rfl,rfl,rfl,rfl,fun _=>rfl,fun _=>rfl⟩
theorem St.setS {w':World}{q':Nat}(h:St w τ s q S)(c:SCell)(f:Fr (fun b=>b=S.sp∨InB S.qv b) w w')(hc:OwnL w' S.sp (S.setS c).cs)
    (ho:w'.ownsRow 0 112 2 c.qv c.qu.length (c.qu.flatMap itC)) (hnew:∀b,InB c.qv b→InB S.qv b∨w.heap.size≤b)
    (hqu:∀i∈c.qu,i.at_≤131072∧I64 i.seq) (hk:(S.setS c).tot≤q') (hnx:c.next≤q') (hh:I64 c.holder) (hv:c.ver≤1099511627776) (hq:q≤q') :
    ∃τ',St w' τ' s q' (S.setS c)∧KeepT w τ w' τ':=by
  obtain⟨M,h1,h2,h3⟩:=h;have hb:(M 2).blk=fun k=>k=S.sp:=by rw[h2.c];rfl
  have hb6:(M 5).blk=InB S.qv:=by rw[h2.q];rfl
  obtain⟨τ',k1,k2⟩:=h1.put2 (t:=2) (u:=5) (by omega) (a:=aCells S.sp (pV S.D.B.hp) [pV S.D.c,pV S.ck,S.tsv,c.qv,vI c.next,vI c.holder,vI c.ver,S.lv,S.cv]) (b:=aIts c.qv c.qu)
    (by rw[hb,hb6];exact f) hc ho (fun k hk=>by rw[hb];exact hk) (fun k hk=>by rw[hb6];exact hnew k hk) (by omega) (by omega)
  have o:=(Mem.Only.put M (P:=fun j=>j=2∨j=5) (aCells S.sp (pV S.D.B.hp) [pV S.D.c,pV S.ck,S.tsv,c.qv,vI c.next,vI c.holder,vI c.ver,S.lv,S.cv]) (.inl rfl)).trans (Mem.Only.put _ (aIts c.qv c.qu) (.inr rfl));have m:=h3.mono (Nat.le_refl s) hq
  refine⟨τ',⟨_,k1,⟨(o 0 (by omega)).trans h2.h,?_,(o 3 (by omega)).trans h2.k,(o 4 (by omega)).trans h2.t,?_,(o 6 (by omega)).trans h2.l,(o 7 (by omega)).trans h2.m,fun t ht=>(h2.x t ht).only o (fun j h1 h2=>by omega),fun u hu=>(o u (by omega)).trans (h2.z u hu)⟩,
    ⟨m.hw,m.ph,m.p2,m.se,m.rd,m.ls,m.ck,m.n,m.x,hqu,hk,hnx,hh,hv,m.lo,m.ca⟩⟩,k2⟩
  · rw[Mem.put_other _ _ (by omega),Mem.put_same];rfl
  · rw[Mem.put_same];rfl
theorem St.setS' {w':World}{q':Nat}(h:St w τ s q S)(c:SCell)(f:Fr (fun b=>b=S.sp) w w')(hc:OwnL w' S.sp (S.setS c).cs)(hcv:c.qv=S.qv)(hcu:c.qu=S.qu)(hnx:c.next≤q')(hh:I64 c.holder)(hv:c.ver≤1099511627776)(hq:q≤q') :
    St w' τ s q' (S.setS c)∧KeepT w τ w' τ:=by
  obtain⟨M,h1,h2,h3⟩:=h;have hb:(M 2).blk=fun k=>k=S.sp:=by rw[h2.c];rfl
  have f':Fr (M 2).blk w w':=f.mono (fun k _ e=>by rw[hb];exact e);have k1:=h1.put' (t:=2) (a:=aCells S.sp (pV S.D.B.hp) [pV S.D.c,pV S.ck,S.tsv,c.qv,vI c.next,vI c.holder,vI c.ver,S.lv,S.cv]) f' hc (fun k hk=>by rw[hb];exact hk);have o:=Mem.Only.put M (P:=fun j=>j=2) (aCells S.sp (pV S.D.B.hp) [pV S.D.c,pV S.ck,S.tsv,c.qv,vI c.next,vI c.holder,vI c.ver,S.lv,S.cv]) rfl;have m:=h3.mono (Nat.le_refl s) hq
  refine⟨⟨_,k1,⟨(o 0 (by omega)).trans h2.h,?_,(o 3 (by omega)).trans h2.k,(o 4 (by omega)).trans h2.t,?_,(o 6 (by omega)).trans h2.l,(o 7 (by omega)).trans h2.m,fun t ht=>(h2.x t ht).only o (fun j h1 h2 (e:j=2)=>by omega),fun u hu=>(o u (by omega)).trans (h2.z u hu)⟩,
    ⟨m.hw,m.ph,m.p2,m.se,m.rd,m.ls,m.ck,m.n,m.x,?_,?_,hnx,hh,hv,m.lo,m.ca⟩⟩,KeepT.piece h1 f' (by omega)⟩
  · rw[Mem.put_same];rfl
  · rw[o 5 (by omega),h2.q];show aIts S.qv S.qu=aIts c.qv c.qu;rw[hcv,hcu]
  · show ∀i∈c.qu,_;rw[hcu];exact m.qu
  · show c.qu.length+_≤_;rw[hcu];exact m.tt
theorem St.shrink {q2:Nat}(h:St w τ s q2 S)(h1:S.tot≤q)(h2:S.next≤q)(h3:S.lost.length≤q)(h4:S.came.length≤q):St w τ s q S:=by
  obtain⟨M,a,b,m⟩:=h;exact⟨M,a,b,⟨m.hw,m.ph,m.p2,m.se,m.rd,m.ls,m.ck,m.n,m.x,m.qu,h1,h2,m.ho,m.ve,h3,h4⟩⟩
theorem StillR.refl (S:StD):StillR S S:=⟨Still.refl _ _,rfl,rfl,rfl,rfl⟩
theorem StillR.trans {A B C:StD}(h:StillR A B)(k:StillR B C):StillR A C:=⟨(h.1.trans k.1),k.2.1.trans h.2.1,k.2.2.1.trans h.2.2.1,k.2.2.2.1.trans h.2.2.2.1,k.2.2.2.2.trans h.2.2.2.2⟩
end
section
open Go.RowKit Go.Shelf
variable {w:World}{τ:Nat→Nat}{s q:Nat}{S:StD}
def BackP (w:World)(v:Value)(e:Ending)(w':World):Prop:=e = .returned (.func (.func 217) #[] #[.pointer (some ⟨w.heap.size,0,none⟩)])∧w'=w.alloc (.cells #[v] 149)
theorem backward_is (w:World)(v:Value)(hv:v.oneCell'=true)(hs:∃a n c,v = .slice a n c):Calls Tryz.prog 193 #[v] w (BackP w v):=by
  obtain⟨a,n,c,rfl⟩:=hs;go_enter Tryz.func193,Tryz.ntmps193;go_wp2;go_ret;exact⟨rfl,rfl⟩
theorem KeepT.toTag {w w':World}{τ τ' τ2:Nat→Nat}(h:KeepT w τ w' τ')(t:TagK w' τ' τ2):KeepT w τ w' τ2:=⟨h.fr,fun k hk=>(t k (by have:=h.size;omega)).trans (h.tg k hk)⟩
def BI (w0:World)(τ0:Nat→Nat)(s q:Nat)(S:StD)(R:StD→Prop)(D:Nat)(X:Nat→Prop)(W:World):Prop:=
  ∃τk Sk,St W τk s q Sk∧KeepT w0 τ0 W τk∧Fix S Sk∧R Sk∧∀b,X b∨b=D∨b=D+1→500≤τk b
theorem BI.loops {w0:World}{τ0:Nat→Nat}{R:StD→Prop}{D:Nat}{X:Nat→Prop}{A B:World}(h:BI w0 τ0 s q S R D X A)(hD:w0.heap.size≤D)(f:Fr (fun b=>b=D∨b=D+1) A B):BI w0 τ0 s q S R D X B:=by
  obtain⟨τk,Sk,h1,h2,h3,h4,h5⟩:=h;refine⟨τk,Sk,h1.far f (fun b hb=>h5 b (.inr hb)),⟨h2.fr.join f (fun j hj e=>by omega),h2.tg⟩,h3,h4,h5⟩
theorem BI.grow {w0:World}{τ0:Nat→Nat}{R:StD→Prop}{D:Nat}{X:Nat→Prop}{A:World}{o:Obj}(h:BI w0 τ0 s q S R D X A)(hX:∀b,X b→b<A.heap.size):BI w0 τ0 s q S R D (fun b=>X b∨b=A.heap.size) (A.alloc o):=by
  obtain⟨τk,Sk,h1,h2,h3,h4,h5⟩:=h;obtain⟨τ1,k1,k2,k3⟩:=h1.fresh;have hs:=h2.size;refine⟨τ1,Sk,k1.calm ((Fr.refl _ _).alloc _),⟨h2.fr.trans (Calm.any ((Fr.refl (fun _=>False) A).alloc o)),fun k hk=>(k2 k (by omega)).trans (h2.tg k hk)⟩,h3,h4,fun b hb=>?_⟩;rcases Nat.lt_or_ge b A.heap.size with hlt|hge
  · rw[k2 b hlt];exact h5 b (by rcases hb with (hb|hb)|hb;exact .inl hb;omega;exact .inr hb)
  · rw[k3 b hge];omega
def abA (S:StD)(xp lp b0 b5 bc:Nat)(va:Option Addr)(n vc:Nat)(u:Ud)(k:Nat):Act:={ tmps:=#[pV S.sp,pV xp,.pointer (some ⟨b0,0,none⟩),undef,undef,.pointer (some ⟨b5,0,none⟩),undef,undef,pV xp,pV xp,.pointer (some ⟨xp,4,none⟩),pV lp,.slice va n vc,.func (.func 217) #[] #[.pointer (some ⟨bc,0,none⟩)],vI ((n:Int)-1-k),udV u,undef,undef,undef,undef,undef,undef,undef,undef,undef,undef,undef,undef,undef,undef,undef,undef,undef,undef,undef,undef,undef,undef,undef,undef,undef,undef,undef,undef,undef,undef,undef,undef,undef,undef,undef,undef,undef,undef,undef,undef,undef,undef,undef,undef,undef,undef,undef,undef,undef,undef,undef,undef,undef,undef,undef,undef,undef,undef,undef,undef,undef,undef,undef,undef,undef,undef,undef,undef,undef,undef,undef,undef,undef,undef,undef,undef,undef,undef,undef,undef,undef,undef,undef,undef,undef,undef,undef,undef,undef,undef,undef,undef,undef,undef,undef],defers:=[] }
def UnR (S S':StD):Prop:=StillR S S'
def AbI1 (w0:World)(τ0:Nat→Nat)(s q:Nat)(S:StD)(D xp lp b0 bc:Nat)(va:Option Addr)(n vc:Nat)(l:List Ud)(X:Nat→Prop)(k:Nat)(a:Act)(W:World):Prop:=
  ∃b5,BI w0 τ0 s q S (UnR S) D (fun b=>X b∨b=b5) W∧OwnL W b5 (udC (l.getD (n-1-k) dU))∧w0.heap.size≤b5∧b5≠D∧b5≠D+1∧b5<W.heap.size∧a=abA S xp lp b0 b5 bc va n vc (l.getD (n-1-k) dU) k
def AbR (S S':StD):Prop:=Still (fun _=>True) S.D.A S'.D.A
def AbPost (w:World)(τ:Nat→Nat)(s q:Nat)(S:StD)(e:Ending)(w':World):Prop:=e = .returned (.tuple #[])∧Nx w τ s q S w' (AbR S)
set_option maxRecDepth 4000 in
theorem abort_is (h:St w τ s q S)(hq6:q≤100000){t:Nat}(ht:t<S.txs.length):Calls Tryz.prog 153 #[pV S.sp,pV (S.tx t).xp] w (AbPost w τ s q S):=by
  obtain⟨τ0,hf,tk,fr⟩:=h.fresh;have hx:=h.txc ht;have hxo:=h.ok.x t ht;have hn8:=h.ok.n;have c4:=(hx 4 _ rfl).1;have k1:Calm w (w.alloc (.cells #[pV S.sp] 54)):=(Fr.refl _ _).alloc _;have b0:Own (w.alloc (.cells #[pV S.sp] 54)) w.heap.size 0 (pV S.sp):=Own.new w #[pV S.sp] 54 0 rfl;obtain⟨W1,hW1⟩:∃W1,w.alloc (.cells #[pV S.sp] 54)=W1:=⟨_,rfl⟩;rw[hW1] at k1 b0;have h1:=hf.calm k1;have d4:=k1.cellAt c4 id;obtain⟨M,H1,H2,H3⟩:=h1;have hl:=(H2.x t ht).l;refine(callsIn_wide (n:=9)).1 ?_;refine callsIn_of_wp_marks Tryz.func153 rfl trivial ?_ rfl;simp only[Tryz.ntmps153,List.size_toArray,List.length_cons,List.length_nil,Nat.reduceAdd,Nat.reduceSub,Array.replicate_succ,Array.replicate_zero,List.push_toArray,List.append_toArray,List.nil_append,List.cons_append]
  gi_wp2_with (refine⟨trivial,?_⟩;gi_at_call 194;refine(callsIn_wide.2 (log_undos H1 hl (by have:=hxo.f;omega))).mono ?_;rintro e w2 ⟨v,rfl,u1,u2,u3⟩;obtain⟨va,vc,rfl⟩:=owns_slice u1)
  gi_wp2_with (refine⟨trivial,?_⟩;gi_at_call 193;refine(callsIn_wide.2 (backward_is w2 _ rfl ⟨_,_,_,rfl⟩)).mono ?_;rintro e w3 ⟨rfl,hw3⟩)
  have hD:w3.heap.size=w2.heap.size+1:=by rw[hw3];simp
  rw[←hw3];generalize hL:(S.tx t).L.undos=l at *;generalize hN:l.length=n at *;have k3:Calm w2 w3:=by rw[hw3];exact(Fr.refl _ _).alloc _
  have kk:Calm w w3:=k1.trans (u3.trans k3);have hb0:Own w3 w.heap.size 0 (pV S.sp):=(b0.calm (u3.trans k3));have hu1:w3.ownsRow 0 191 4 (.slice va n vc) n (l.flatMap udC):=owns_frB u1 k3 (fun _ _=>id)
  have hBk:BkQ w2.heap.size (.slice va n vc) l w3:=by
    refine⟨by rw[hw3];exact(Own.new w2 #[_] _ 0 rfl).1,?_,⟨va,vc,by rw[hN]⟩⟩
    by_cases hz:Value.slice va n vc = .slice none 0 0
    · refine⟨0,fun j hj=>?_⟩;injection hz with _ e _
      omega
    · obtain⟨g,c,e1,e2⟩:=owns_cells hu1 hz;refine⟨g,fun j hj=>⟨⟨c,by rw[e1,hN]⟩,fun i u hu=>?_⟩⟩;have h4:i<4:=by have:=(List.getElem?_eq_some_iff.1 hu).1;simpa[udC] using this
      exact e2 _ u ((flatG udC 4 udC_len dU l j hj i h4).trans hu)
  have hbt:∀b,InB (.slice va n vc) b→w.heap.size≤b∧b<w3.heap.size:=fun b hb=>⟨by have:=u2 b hb;have:=k1.size;omega,(World.ownsRow.lt hu1 b hb).2⟩;have hbc:w.heap.size≤w2.heap.size:=by have:=k1.size;have:=u3.size;omega
  have hl5:l.length≤100000:=by have:=hxo.f.2.2.2;rw[hL] at this;omega
  have hst:St w3 τ0 s q S:=hf.calm kk;generalize hc:w2.heap.size=bc at *;generalize hx9:(S.tx t).xp=xp at *;generalize hl9:(S.tx t).lp=lp at *;generalize hw9:w.heap.size=b0' at *;clear hw3 u1 u3 k3 k1 d4 H1 H2 H3 hl hW1 b0 u2
  refine wpIn_rangeX (Qp:=BkQ bc (.slice va n vc) l) (g:=.tmp 13) rfl (by decide) (gf:=217) (lb:=#[.pointer (some ⟨bc,0,none⟩)]) rfl trivial (enters_of Tryz.func217 (by kernel_rfl) rfl)
    (back_seq 8 (by decide) w3 bc (.slice va n vc) l hl5) (Nat.le_refl _) (fun _=>rfl)
    (fun X _ W=>BI w3 τ0 s q S (UnR S) w3.heap.size X W) (AbI1 w3 τ0 s q S w3.heap.size xp lp b0' bc va n vc l) (fun c W=>False)
    ?hI ?hI1 ?hG ?hQ ?hIx ?hN ?h0 ?assign ?body ?done ?stop
  case hI=>exact fun X k A B a f=>a.loops (Nat.le_refl _) f
  case hI1=>
    rintro X k a' A B ⟨b5,h1,h2,h3,h4,h5,h6,rfl⟩ f;have:=f.size;exact⟨b5,h1.loops (Nat.le_refl _) f,h2.fr f (by omega),h3,h4,h5,by omega,rfl⟩
  case hG=>exact fun X k A o a hX=>a.grow hX
  case hQ=>
    rintro X k A ⟨τk,Sk,_,g2,_⟩;have hT:∀b,b0'≤b→¬τ0 b<500:=fun b hb=>by rw[fr b hb];omega
    obtain⟨a1,⟨g,a2⟩,a3⟩:=hBk;refine⟨g2.fr.cellAt a1 (hT _ hbc),⟨g,fun j hj=>⟨(a2 j hj).1,fun i u hu=>g2.fr.cellAt ((a2 j hj).2 i u hu) ?_⟩⟩,a3⟩;obtain⟨c,e⟩:=(a2 j hj).1;exact hT _ (hbt g (by rw[e];rfl)).1
  case hIx=>
    rintro c A A' h _;exact h
  case hN=>
    rintro h;cases h
  case h0=>exact⟨τ0,S,hst,KeepT.refl _ _,Fix.refl _,StillR.refl _,fun b hb=>by rw[fr b (by have:=kk.size;rcases hb with hb|hb|hb;exact hb.elim;omega;omega)];omega⟩
  case assign=>
    rintro y X k W hk ha hX hs;clear hb0 hu1 hBk;have e1:bkEl l k = #[vI ((n:Int)-1-k),.agg #[vI (l.getD (n-1-k) dU).kind,vI (l.getD (n-1-k) dU).at_,vI (l.getD (n-1-k) dU).i,vI (l.getD (n-1-k) dU).old]]:=by unfold bkEl;rw[hN];rfl
    rw[e1];have hg:=ha.grow (o:=.cells (udC (l.getD (n-1-k) dU)).toArray 191) hX;have hown:=OwnL.new W (udC (l.getD (n-1-k) dU)) 191;have hfin:∀a,a=abA S xp lp b0' W.heap.size bc va n vc (l.getD (n-1-k) dU) k→AbI1 w3 τ0 s q S w3.heap.size xp lp b0' bc va n vc l X k a (W.alloc (.cells (udC (l.getD (n-1-k) dU)).toArray 191)):=fun a e=>⟨W.heap.size,hg,hown,by omega,by omega,by omega,by simp,e⟩;have hke:Keeps (fun b=>X b∨b=w3.heap.size∨b=w3.heap.size+1) W (W.alloc (.cells (udC (l.getD (n-1-k) dU)).toArray 191)):=Keeps.of_fr ((Fr.refl (fun _=>False) W).alloc _) (fun b hb=>⟨by rcases hb with hb|hb|hb;exact hX b hb;omega;omega,id⟩);generalize l.getD (n-1-k) dU=U at *;replace hfin:=hid hfin;replace hke:=hid hke;clear hg hown e1 ha
    gi_wp2
    simp[Oper.semAt,go_sem,Act.eval]
    gi_wp2
    simp[Oper.semAt,go_sem,Act.eval]
    gi_wp2
    exact⟨hke.out,hfin.out _ rfl⟩
  case body=>
    rintro y X k a W hk ⟨b5,h1,h2,h3,h4,h5,h6,rfl⟩ hX hs;obtain⟨U,hU⟩:∃U,l.getD (n-1-k) dU=U:=⟨_,rfl⟩;rw[hU] at h2 ⊢;unfold abA;have hUm:U∈l:=by rw[←hU];exact get_mem dU (by omega)
    obtain⟨⟨u1,u2,u3⟩,u4,u5⟩:=hxo.l.u U (by rw[hL];exact hUm);obtain⟨y0,y1,y2,y3⟩:=OwnL.ce4 h2;obtain⟨τk,Sk,g1,g2,g3,g4,g5⟩:=h1;have p0:W.cell? ⟨b0',0,none⟩=some (pV S.sp):=g2.cell hb0.1 (by rw[fr _ (Nat.le_refl _)];omega);have p1:=(g1.cells 0 _ rfl).1;rw[g3.sp,g3.hp] at p1
    have hend:Hid (∀B,Nx W τk s q Sk B (UnR S)→Keeps (fun b=>X b∨b=w3.heap.size∨b=w3.heap.size+1) W B∧BI w3 τ0 s q S (UnR S) w3.heap.size X B):=by
      rintro B ⟨τ1,S1,e1,e2,e3,e4⟩;refine⟨Keeps.of_fr e2.fr (fun b hb=>?_),τ1,S1,e1,g2.trans e2,g3.trans e3,e4,fun b hb=>?_⟩
      · have h7:=g5 b (hb.imp .inl id);exact⟨by rcases hb with hb|hb|hb;exact hX b hb;omega;omega,by omega⟩
      · rw[e2.tg b (by rcases hb with hb|hb|hb;exact hX b hb;omega;omega)];exact g5 b (hb.imp .inl id)
    clear hb0 hu1 hBk
    by_cases hk1:U.kind=1
    · obtain⟨o1,ho1⟩:∃o1:Nat,U.old=(o1:Int):=⟨U.old.toNat,by have:=u3 hk1;omega⟩;have ho2:o1≤131072:=by have:=u3 hk1;omega
      rw[ho1] at y3;have ek:(U.kind==1)=true:=by simp[hk1]
      gi_wp2
      repeat (simp[Oper.semAt,go_sem,Act.eval,y0,ek];gi_wp2)
      refine wpIn_region_held 10 10 (fun w'=>Calm W w') (by kernel_rfl) (by rintro ⟨_,_,h⟩;exact h) (by kernel_rfl) (by kernel_rfl) ((Fr.refl _ _).drew) ?_;refine heldList_step (pV S.sp) rfl (fun w' hw'=>?_) (fun _ _ _ h=>h) ?_
      · have e1:=hw'.cellAt p0 id;simp[go_sem,e1]
      refine heldList_step (pV S.sp) rfl (fun w' hw'=>?_) (fun _ _ _ h=>h) ?_
      · simp[go_sem]
      refine heldList_step (.pointer (some ⟨S.sp,0,none⟩)) rfl (fun w' hw'=>?_) (fun _ _ _ h=>h) ?_
      · simp[go_sem]
      refine heldList_step (pV S.D.B.hp) rfl (fun w' hw'=>?_) (fun _ _ _ h=>h) ?_
      · have e1:=hw'.cellAt p1 id;simp[go_sem,e1]
      refine heldList_step (.pointer (some ⟨b5,1,none⟩)) rfl (fun w' hw'=>?_) (fun _ _ _ h=>h) ?_
      · simp[go_sem]
      refine heldList_step (vI U.at_) rfl (fun w' hw'=>?_) (fun _ _ _ h=>h) ?_
      · have e1:=hw'.cellAt y1 id;simp[go_sem,e1]
      refine heldList_step (.pointer (some ⟨b5,2,none⟩)) rfl (fun w' hw'=>?_) (fun _ _ _ h=>h) ?_
      · simp[go_sem]
      refine heldList_step (vI U.i) rfl (fun w' hw'=>?_) (fun _ _ _ h=>h) ?_
      · have e1:=hw'.cellAt y2 id;simp[go_sem,e1]
      refine heldList_step (.pointer (some ⟨b5,3,none⟩)) rfl (fun w' hw'=>?_) (fun _ _ _ h=>h) ?_
      · simp[go_sem]
      refine heldList_step (vI (o1:Int)) rfl (fun w' hw'=>?_) (fun _ _ _ h=>h) ?_
      · have e1:=hw'.cellAt y3 id;simp[go_sem,e1]
      simp only[heldList,Nat.sub_self,heldSeq];have kw:Calm W W.drew:=(Fr.refl _ _).drew;have o:=ssetptr_is (g1.calm kw) u1 ho2 U.i;rw[g3.hp] at o;go_wp2_with fail
      refine o.mono ?_;rintro e W4 ⟨x,rfl,_,n4⟩;have n5:=hid (n4.calmL kw);clear o n4 kw p0 p1 y0 y1 y2 y3 h2;go_wp2;refine hend.out W4 (n5.out.mono (Nat.le_refl _) (Nat.le_refl _) fun S' e=>g4.trans e)
    · have ek:(U.kind==1)=false:=by simpa using hk1
      by_cases hk2:U.kind=2
      · have ek2:(U.kind==2)=true:=by simp[hk2]
        gi_wp2
        repeat (simp[Oper.semAt,go_sem,Act.eval,y0,ek,ek2];gi_wp2)
        refine wpIn_region_held 10 10 (fun w'=>Calm W w') (by kernel_rfl) (by rintro ⟨_,_,h⟩;exact h) (by kernel_rfl) (by kernel_rfl) ((Fr.refl _ _).drew) ?_;refine heldList_step (pV S.sp) rfl (fun w' hw'=>?_) (fun _ _ _ h=>h) ?_
        · have e1:=hw'.cellAt p0 id;simp[go_sem,e1]
        refine heldList_step (pV S.sp) rfl (fun w' hw'=>?_) (fun _ _ _ h=>h) ?_
        · simp[go_sem]
        refine heldList_step (.pointer (some ⟨S.sp,0,none⟩)) rfl (fun w' hw'=>?_) (fun _ _ _ h=>h) ?_
        · simp[go_sem]
        refine heldList_step (pV S.D.B.hp) rfl (fun w' hw'=>?_) (fun _ _ _ h=>h) ?_
        · have e1:=hw'.cellAt p1 id;simp[go_sem,e1]
        refine heldList_step (.pointer (some ⟨b5,1,none⟩)) rfl (fun w' hw'=>?_) (fun _ _ _ h=>h) ?_
        · simp[go_sem]
        refine heldList_step (vI U.at_) rfl (fun w' hw'=>?_) (fun _ _ _ h=>h) ?_
        · have e1:=hw'.cellAt y1 id;simp[go_sem,e1]
        refine heldList_step (.pointer (some ⟨b5,2,none⟩)) rfl (fun w' hw'=>?_) (fun _ _ _ h=>h) ?_
        · simp[go_sem]
        refine heldList_step (vI U.i) rfl (fun w' hw'=>?_) (fun _ _ _ h=>h) ?_
        · have e1:=hw'.cellAt y2 id;simp[go_sem,e1]
        refine heldList_step (.pointer (some ⟨b5,3,none⟩)) rfl (fun w' hw'=>?_) (fun _ _ _ h=>h) ?_
        · simp[go_sem]
        refine heldList_step (vI U.old) rfl (fun w' hw'=>?_) (fun _ _ _ h=>h) ?_
        · have e1:=hw'.cellAt y3 id;simp[go_sem,e1]
        simp only[heldList,Nat.sub_self,heldSeq];have kw:Calm W W.drew:=(Fr.refl _ _).drew;have o:=ssetnum_is (g1.calm kw) u1 U.i U.old u2;rw[g3.hp] at o;go_wp2_with fail
        refine o.mono ?_;rintro e W4 ⟨x,rfl,_,n4⟩;have n5:=hid (n4.calmL kw);clear o n4 kw p0 p1 y0 y1 y2 y3 h2;go_wp2;refine hend.out W4 (n5.out.mono (Nat.le_refl _) (Nat.le_refl _) fun S' e=>g4.trans e)
      · have ek2:(U.kind==2)=false:=by simpa using hk2
        by_cases hk3:U.kind=3
        · have ek3:(U.kind==3)=true:=by simp[hk3]
          gi_wp2
          repeat (simp[Oper.semAt,go_sem,Act.eval,y0,ek,ek2,ek3];gi_wp2)
          refine wpIn_region_held 9 9 (fun w'=>Calm W w') (by kernel_rfl) (by rintro ⟨_,_,h⟩;exact h) (by kernel_rfl) (by kernel_rfl) ((Fr.refl _ _).drew) ?_;refine heldList_step (pV S.sp) rfl (fun w' hw'=>?_) (fun _ _ _ h=>h) ?_
          · have e1:=hw'.cellAt p0 id;simp[go_sem,e1]
          refine heldList_step (pV S.sp) rfl (fun w' hw'=>?_) (fun _ _ _ h=>h) ?_
          · simp[go_sem]
          refine heldList_step (.pointer (some ⟨S.sp,0,none⟩)) rfl (fun w' hw'=>?_) (fun _ _ _ h=>h) ?_
          · simp[go_sem]
          refine heldList_step (pV S.D.B.hp) rfl (fun w' hw'=>?_) (fun _ _ _ h=>h) ?_
          · have e1:=hw'.cellAt p1 id;simp[go_sem,e1]
          refine heldList_step (.pointer (some ⟨b5,1,none⟩)) rfl (fun w' hw'=>?_) (fun _ _ _ h=>h) ?_
          · simp[go_sem]
          refine heldList_step (vI U.at_) rfl (fun w' hw'=>?_) (fun _ _ _ h=>h) ?_
          · have e1:=hw'.cellAt y1 id;simp[go_sem,e1]
          refine heldList_step (.pointer (some ⟨b5,3,none⟩)) rfl (fun w' hw'=>?_) (fun _ _ _ h=>h) ?_
          · simp[go_sem]
          refine heldList_step (vI U.old) rfl (fun w' hw'=>?_) (fun _ _ _ h=>h) ?_
          · have e1:=hw'.cellAt y3 id;simp[go_sem,e1]
          refine heldList_step (.bool (U.old != 0)) rfl (fun w' hw'=>?_) (fun _ _ _ h=>h) ?_
          · simp[go_sem]
          simp only[heldList,Nat.sub_self,heldSeq];have kw:Calm W W.drew:=(Fr.refl _ _).drew;have o:=ssetfreed_is (g1.calm kw) u1 (U.old != 0);rw[g3.hp] at o;go_wp2_with fail
          refine o.mono ?_;rintro e W4 ⟨x,rfl,_,n4⟩;have n5:=hid (n4.calmL kw);clear o n4 kw p0 p1 y0 y1 y2 y3 h2;go_wp2;refine hend.out W4 (n5.out.mono (Nat.le_refl _) (Nat.le_refl _) fun S' e=>g4.trans e)
        · have ek3:(U.kind==3)=false:=by simpa using hk3
          gi_wp2
          repeat (simp[Oper.semAt,go_sem,Act.eval,y0,ek,ek2,ek3];gi_wp2)
          exact hend.out W (Nx.calm g1 (Fr.refl _ _) g4)
  case done=>
    rintro X W hf2 hB hD2;obtain⟨τk,Sk,g1,g2,g3,g4,g5⟩:=hB;obtain⟨τ1,f1,tk1,fr1⟩:=g1.fresh;have hsz:=g2.size;have K1:KeepT w3 τ0 W τ1:=⟨g2.fr,fun k hk=>(tk1 k (by omega)).trans (g2.tg k hk)⟩;have etx:Sk.tx t=S.tx t:=by unfold StD.tx;rw[g4.2.1]
    have htk:t<Sk.txs.length:=by rw[g4.2.1];exact ht
    have hxk:=f1.txc htk;rw[etx,hx9] at hxk;have d4:=(hxk 4 _ rfl).1;rw[hl9] at d4;have f1':=f1;obtain⟨M,H1,H2,H3⟩:=f1;have hlk:=(H2.x t htk).l;rw[etx,hl9] at hlk
    gi_wp2_with (refine⟨trivial,?_⟩;gi_at_call 127;refine(callsIn_wide.2 (log_holds H1 hlk (by have:=hxo.f;omega))).mono ?_;rintro e w4 ⟨hv,rfl,v1,v2,v3⟩;obtain⟨ha,hc',rfl⟩:=owns_slice v1)
    refine wpIn_wide.2 ?_;have k4:KeepT w3 τ0 w4 τ1:=K1.trans (KeepT.calm τ1 v3);have hho:=hxo.l.h;have hhf:=hxo.f.2.2.1;generalize (S.tx t).L.holds=hs at *;generalize hm:hs.length=m at *;have hrow:=hid v1;have hrt:∀b,InB (.slice ha m hc') b→500≤τ1 b:=fun b hb=>by rw[fr1 b (v2 b hb)];omega
    have hb2:Own w4 b0' 0 (pV S.sp):=k4.own hb0 (by rw[fr _ (Nat.le_refl _)];omega);have tb2:500≤τ1 b0':=by rw[K1.tg b0' (by omega),fr _ (Nat.le_refl _)];omega
    have hD4:w4.heap[bc+1]?=some (.deferred (some [])):=(v3.heapAt (by rw[←hD];exact hD2) id);have tD:500≤τ1 (bc+1):=by rw[tk1 _ (Array.getElem?_eq_some_iff.1 (by rw[←hD];exact hD2)).1];exact g5 _ (.inr (.inl hD.symm))
    have hst4:=f1'.calm v3;have hinv:Hid (∃τi Si,St w4 τi s q Si∧KeepT w4 τ1 w4 τi∧Fix S Si∧UnR S Si):=⟨τ1,Sk,hst4,KeepT.refl _ _,g3,g4⟩;clear v1 v2 d4 hxk hlk H1 H2 H3 f1' hb0 hbt hu1 hBk hD2;go_loopw [62] (fun z wr=>∃i:Nat,i≤m∧z=vI i∧Hid (∃τi Si,St wr τi s q Si∧KeepT w4 τ1 wr τi∧Fix S Si∧UnR S Si)) (fun z _=>m-(intOf z).toNat)
    case atStart=>exact⟨0,by omega,rfl,hinv⟩
    case round=>
      obtain⟨i,hi,rfl,hw⟩:=hrel;clear hinv hst4;obtain⟨τi,Si,m1,m2,m3,m4⟩:=hw.out
      by_cases hlt:i<m
      · obtain⟨g,c,hv,hco⟩:=rows_get hdC_len (by decide) (show w4.ownsRow 0 188 2 (.slice ha m hc') hs.length (hs.flatMap hdC) by rw[hm];exact hrow.out) ⟨0,0⟩ (i:=i) (by omega);injection hv with e1 e2 e3
        subst e1;clear e2 e3;obtain⟨x,hx0⟩:∃x,hs.getD i ⟨0,0⟩=x:=⟨_,rfl⟩;have hxm:x∈hs:=by rw[←hx0];exact get_mem _ (by omega)
        rw[hx0] at hco;obtain⟨xa,xv⟩:=hho x hxm;have r0:=(m2.own (hco 0 _ rfl) (hrt g rfl)).1;have r1:=(m2.own (hco 1 _ rfl) (hrt g rfl)).1;rw[Nat.add_zero] at r0;have b2:=(m2.own hb2 tb2).1;obtain⟨τj,j1,j2,j3⟩:=m1.fresh;have M2:KeepT w4 τ1 wr τj:=m2.toTag j2;have k5:Calm wr (wr.alloc (.cells #[vI x.at_,vI x.ver] 188)):=(Fr.refl _ _).alloc _;have o7:=OwnL.new wr (hdC x) 188;have hl7:wr.heap.size<(wr.alloc (.cells #[vI x.at_,vI x.ver] 188)).heap.size:=by simp
        have t7:500≤τj wr.heap.size:=by rw[j3 _ (Nat.le_refl _)];omega
        have b3:=k5.cellAt b2 id;obtain⟨W5,hW5⟩:∃W5,wr.alloc (.cells #[vI x.at_,vI x.ver] 188)=W5:=⟨_,rfl⟩;rw[hW5] at k5 hl7 b3;replace o7:OwnL W5 wr.heap.size [vI x.at_,vI x.ver]:=by rw[←hW5];exact o7
        obtain⟨s0,s1⟩:=OwnL.ce2 o7;have orl:=release_is (j1.calm k5) xa x.ver;rw[m3.sp] at orl;go_wp2_with fail
        refine orl.mono ?_;rintro e w6 ⟨rfl,τ6,S6,p1,p2,p3,p4,B',A',p5⟩;have o8:=p2.ownL o7 t7;obtain⟨z0,z1⟩:=OwnL.ce2 o8;have b4:=p2.cell b3 (by rw[j2 _ (Nat.lt_of_lt_of_le (World.block_lt_of_cell? _ _ hb2.1) m2.size),m2.tg _ (World.block_lt_of_cell? _ _ hb2.1)];exact tb2);have a0:=(p1.cells 0 _ rfl).1;rw[p3.sp,p3.hp,m3.sp,m3.hp] at a0
        have m6:UnR S S6:=by
          refine StillR.trans m4 ?_;rw[p5];exact⟨(by rw[p5] at p4;exact p4.mono (fun _ _=>trivial)),rfl,rfl,rfl,rfl⟩
        have K6:KeepT w4 τ1 w6 τ6:=M2.trans ((KeepT.calm τj k5).trans p2);have X6:=m3.trans p3;clear hW5 o7 s0 s1 orl r0 r1 b2 b3 hco
        by_cases hv0:x.ver=0
        · have ev:(x.ver==0)=true:=by simp[hv0]
          go_wp2_with fail
          refine wp_region_noPanic ?_;refine wp_region_helds 6 6 (fun w'=>Calm w6 w') (by kernel_rfl) (by kernel_rfl) ((Fr.refl _ _).drew) ?_;refine heldList_step (pV S.sp) rfl (fun w' hw'=>?_) (fun _ _ _ h=>h) ?_
          · have e1:=hw'.cellAt b4 id;simp[go_sem,e1]
          refine heldList_step (pV S.sp) rfl (fun w' hw'=>?_) (fun _ _ _ h=>h) ?_
          · simp[go_sem]
          refine heldList_step (.pointer (some ⟨S.sp,0,none⟩)) rfl (fun w' hw'=>?_) (fun _ _ _ h=>h) ?_
          · simp[go_sem]
          refine heldList_step (pV S.D.B.hp) rfl (fun w' hw'=>?_) (fun _ _ _ h=>h) ?_
          · have e1:=hw'.cellAt a0 id;simp[go_sem,e1]
          refine heldList_step (.pointer (some ⟨wr.heap.size,0,none⟩)) rfl (fun w' hw'=>?_) (fun _ _ _ h=>h) ?_
          · simp[go_sem]
          refine heldList_step (vI x.at_) rfl (fun w' hw'=>?_) (fun _ _ _ h=>h) ?_
          · have e1:=hw'.cellAt z0 id;simp[go_sem,e1]
          simp only[heldList,Nat.sub_self,heldSeq];have kw:Calm w6 w6.drew:=(Fr.refl _ _).drew;have o9:=ssetfreed_is (p1.calm kw) xa true;rw[p3.hp,m3.hp] at o9;go_wp2_with fail
          refine o9.mono ?_;rintro e w7 ⟨y,rfl,_,n7⟩
          have h7:Hid (∃τi Si,St w7 τi s q Si∧KeepT w4 τ1 w7 τi∧Fix S Si∧UnR S Si):=by
            obtain⟨τ7,S7,c1,c2,c3,c4⟩:=n7.calmL kw;exact⟨τ7,S7,c1,K6.trans c2,X6.trans c3,m6.trans c4⟩
          clear n7 o9 kw z0 z1 b4 a0 K6 M2 m2 m1 hw p1 p2 o8;go_wp2_with fail
          refine NoPanic.normal ?_;go_wp2;exact⟨⟨i+1,by omega,rfl,h7⟩,by simp[intOf];omega⟩
        · have ev:(x.ver==0)=false:=by simpa using hv0
          have h7:Hid (∃τi Si,St w6 τi s q Si∧KeepT w4 τ1 w6 τi∧Fix S Si∧UnR S Si):=⟨τ6,S6,p1,K6,X6,m6⟩;clear K6 M2 m2 m1 hw p1 p2 o8;go_wp2;exact⟨⟨i+1,by omega,rfl,h7⟩,by simp[intOf];omega⟩
      · obtain rfl:i=m:=by omega
        go_wp2_with fail
        refine wpIn_wide.2 ?_;have b2:=(m2.own hb2 tb2).1;have htk2:t<Si.txs.length:=by rw[m4.2.1];exact ht
        have etx2:Si.tx t=S.tx t:=by unfold StD.tx;rw[m4.2.1]
        have hxk:=m1.txc htk2;have hck:=m1.cells;rw[etx2,hx9] at hxk;rw[m3.sp] at hck;have c6:wr.cell? ⟨S.sp,6,none⟩=some (vI Si.holder):=(hck 6 _ rfl).1;have x0:wr.cell? ⟨xp,0,none⟩=some (vI t):=(hxk 0 _ rfl).1;go_wp2_with fail
        go_quiet (fail)
        have hsh:Si.holder=S.holder:=m4.2.2.1
        by_cases hho2:Si.holder=(t:Int)
        · have eh:(Si.holder==(t:Int))=true:=by simp[hho2]
          have rq:=m1.que;have rt:=m1.tok htk2;rw[etx2] at rt;obtain⟨qa,qc,eq⟩:=owns_slice rq;obtain⟨ta,tc,et⟩:=owns_slice rt;rw[eq] at rq;rw[et] at rt;have c4:wr.cell? ⟨S.sp,4,none⟩=some (.slice qa Si.qu.length qc):=by rw[←eq];exact(hck 4 _ rfl).1
          have x5:wr.cell? ⟨xp,5,none⟩=some (.slice ta (S.tx t).took.length tc):=by rw[←et];exact(hxk 5 _ rfl).1
          have htt:=m1.ok.tt
          have htl:(S.tx t).took.length+Si.qu.length≤q:=by
            have h1:=sum_set (fun x:TxD=>x.took.length) dT dT Si.txs t htk2;have h2:(Si.txs.getD t dT).took.length=(S.tx t).took.length:=by rw[←etx2];rfl
            have h3:Si.qu.length+(Si.txs.map fun x=>x.took.length).sum≤q:=htt;have h4:dT.took.length=0:=rfl;omega
          have hcat:=hid (fun(W:World) (cw:Calm wr W) (hs:W.heap.size=wr.heap.size)=>concat_is (w:=W.alloc (.cells #[.slice ta (S.tx t).took.length tc,.slice qa Si.qu.length qc] 92)) (B:=wr.heap.size) (by rw[←hs];exact OwnL.new W [_,_] _) (owns_frB rt (cw.alloc _) (fun _ _=>id)) (owns_frB rq (cw.alloc _) (fun _ _=>id)) (by have:=hq6;omega));clear hxk;go_wp2_with fail
          refine wp_region_noPanic ?_;refine wp_region_helds 9 11 (fun w'=>Calm wr w') (by kernel_rfl) (by kernel_rfl) (((Fr.refl _ _).drewN _).drew) ?_;refine heldList_step (pV S.sp) rfl (fun w' hw'=>?_) (fun _ _ _ h=>h) ?_
          · have e1:=hw'.cellAt b2 id;simp[go_sem,e1]
          refine heldList_step (pV xp) rfl (fun w' hw'=>?_) (fun _ _ _ h=>h) ?_
          · simp[go_sem]
          refine heldList_step (pV xp) rfl (fun w' hw'=>?_) (fun _ _ _ h=>h) ?_
          · simp[go_sem]
          refine heldList_step (.pointer (some ⟨xp,5,none⟩)) rfl (fun w' hw'=>?_) (fun _ _ _ h=>h) ?_
          · simp[go_sem]
          refine heldList_step (.slice ta (S.tx t).took.length tc) rfl (fun w' hw'=>?_) (fun _ _ _ h=>h) ?_
          · have e1:=hw'.cellAt x5 id;simp[go_sem,e1]
          refine heldList_step (pV S.sp) rfl (fun w' hw'=>?_) (fun _ _ _ h=>h) ?_
          · have e1:=hw'.cellAt b2 id;simp[go_sem,e1]
          refine heldList_step (pV S.sp) rfl (fun w' hw'=>?_) (fun _ _ _ h=>h) ?_
          · simp[go_sem]
          refine heldList_step (.pointer (some ⟨S.sp,4,none⟩)) rfl (fun w' hw'=>?_) (fun _ _ _ h=>h) ?_
          · simp[go_sem]
          refine heldList_step (.slice qa Si.qu.length qc) rfl (fun w' hw'=>?_) (fun _ _ _ h=>h) ?_
          · have e1:=hw'.cellAt c4 id;simp[go_sem,e1]
          simp only[heldList];refine heldSeq_step rfl ?_;unfold Oper.wp;go_simp;refine⟨(((Fr.refl _ _).drewN _).drew).alloc _,?_⟩;refine heldSeq_step rfl ?_;go_wp2_with fail
          refine(hcat.out _ (((Fr.refl _ _).drewN _).drew) rfl).mono ?_;rintro e w5 ⟨v,rfl,i1,i2,i3⟩;obtain⟨va5,vc5,rfl⟩:=owns_slice i1;have cc:Calm wr w5:=((((Fr.refl _ _).drewN _).drew).alloc _).trans i3;refine⟨cc,?_⟩;simp only[heldSeq];have n0:Own w5 b0' 0 (pV S.sp):=(m2.own hb2 tb2).calm cc;have n4:OwnL w5 S.sp (StD.cs Si):=hck.calm cc;have y0:=n0.1;have y4:=(n4 4 _ rfl).1;have f4:=(n4 4 _ rfl).2;have y6:=(n4 6 _ rfl).1;have f6:=(n4 6 _ rfl).2;clear b2 c4 x5 hcat;go_wp2_with fail
          refine NoPanic.normal ?_;have f4':Fr (fun b=>b=S.sp) w5 (w5.setCell ⟨S.sp,4,none⟩ (.slice va5 ((S.tx t).took.length+Si.qu.length) vc5)):=(Fr.refl (fun b=>b=S.sp) w5).setCell (p:=⟨S.sp,4,none⟩) (.inl rfl) _;have g4:=n4.set 4 (.slice va5 ((S.tx t).took.length+Si.qu.length) vc5) (by simp[StD.cs])
          have hle0:b0'≠S.sp:=by
            intro e;have:=(hf.cells).lt (by simp[StD.cs]);omega
          have z0:=f4'.cellAt y0 hle0;generalize hW6:w5.setCell ⟨S.sp,4,none⟩ (.slice va5 ((S.tx t).took.length+Si.qu.length) vc5)=W6 at *;have z6:=(g4 6 _ rfl).1;have zf:=(g4 6 _ rfl).2;have f6':Fr (fun b=>b=S.sp) W6 (W6.setCell ⟨S.sp,6,none⟩ (vI (-1))):=(Fr.refl (fun b=>b=S.sp) W6).setCell (p:=⟨S.sp,6,none⟩) (.inl rfl) _;have g6:=g4.set 6 (vI (-1)) (by simp[StD.cs]);have s6:=f6'.cellAt z0 hle0;obtain⟨W7,hW7⟩:∃W7,W6.setCell ⟨S.sp,6,none⟩ (vI (-1))=W7:=⟨_,rfl⟩;rw[hW7] at f6' g6 s6;have f7:Fr (fun b=>b=S.sp) w5 W7:=f4'.trans f6';have hnq:∀b,InB (.slice va5 ((S.tx t).took++Si.qu).length vc5) b→wr.heap.size≤b:=fun b hb=>by have:=i2 b hb;simp at this;omega
          have hspl:S.sp<wr.heap.size:=hck.lt (by simp[StD.cs]);have elen:((S.tx t).took++Si.qu).length=(S.tx t).took.length+Si.qu.length:=by simp
          obtain⟨τ5,q1,q2⟩:=St.setS (q':=q+q) m1 ⟨.slice va5 ((S.tx t).took++Si.qu).length vc5,(S.tx t).took++Si.qu,Si.next,-1,Si.ver⟩
            (by rw[m3.sp];exact(Calm.any cc).trans (f7.mono (fun b _ e=>.inl e))) (by rw[m3.sp,elen];exact g6) (owns_frB i1 f7 (fun b hb e=>by have:=hnq b hb;omega)) (fun b hb=>.inr (hnq b hb))
            (fun x hx=>by
              rcases List.mem_append.1 hx with hx|hx
              · exact hxo.k x hx
              · exact m1.ok.qu x hx)
            (by
              show((S.tx t).took++Si.qu).length+(Si.txs.map fun x=>x.took.length).sum≤q+q;have h3:Si.qu.length+(Si.txs.map fun x=>x.took.length).sum≤q:=htt
              rw[elen];omega)
            (by show Si.next≤q+q;have:=m1.ok.nx;omega) (by show I64 (-1);decide) m1.ok.ve (by omega)
          have htk3:t<(Si.setS ⟨.slice va5 ((S.tx t).took++Si.qu).length vc5,(S.tx t).took++Si.qu,Si.next,-1,Si.ver⟩).txs.length:=htk2;have oe:=end_is q1 htk3;have e9:(Si.setS ⟨.slice va5 ((S.tx t).took++Si.qu).length vc5,(S.tx t).took++Si.qu,Si.next,-1,Si.ver⟩).tx t=S.tx t:=etx2;rw[e9,hx9,show(Si.setS ⟨.slice va5 ((S.tx t).took++Si.qu).length vc5,(S.tx t).took++Si.qu,Si.next,-1,Si.ver⟩).sp=S.sp from m3.sp] at oe;clear y4 f4 y6 f6 n4 n0 y0 i1 i2 i3 cc f4' g4 f6' g6 hW6 f7;go_wp2_with fail
          refine oe.mono ?_;rintro e w8 ⟨rfl,τ8,S8,p1,p2,p3,p4⟩
          have hn8:Nx wr τi s q Si w8 (fun S'=>Still (fun _=>True) Si.D.A S'.D.A):=by
            refine⟨τ8,S8,p1.shrink ?_ ?_ ?_ ?_,q2.trans p2,(Fix.setS Si _).trans p3,?_⟩
            · have h1:=StD.tot_set (S:=Si.setS ⟨.slice va5 ((S.tx t).took++Si.qu).length vc5,(S.tx t).took++Si.qu,Si.next,-1,Si.ver⟩) (x':=(S.tx t).ended) htk3;rw[p4];have h2:(Si.setS ⟨.slice va5 ((S.tx t).took++Si.qu).length vc5,(S.tx t).took++Si.qu,Si.next,-1,Si.ver⟩).tot=((S.tx t).took.length+Si.qu.length)+(Si.txs.map fun x=>x.took.length).sum:=by unfold StD.tot StD.setS;rw[elen]
              have h3:Si.qu.length+(Si.txs.map fun x=>x.took.length).sum≤q:=htt;have h4:(S.tx t).ended.took.length=0:=rfl;rw[e9] at h1;omega
            · rw[p4];exact m1.ok.nx
            · rw[p4];exact m1.ok.lo
            · rw[p4];exact m1.ok.ca
            · rw[p4];exact Still.refl _ _
          clear p1 p2 p3 p4 q1 q2 oe
          have hd8:w8.heap[bc+1]?=some (.deferred (some [])):=by
            obtain⟨τ8,S8,p1,p2,p3,p4⟩:=hn8;have hlD:bc+1<w4.heap.size:=(Array.getElem?_eq_some_iff.1 hD4).1;have h1:=m2.fr.heapAt hD4 (show ¬τ1 (bc+1)<500 by omega);exact p2.fr.heapAt h1 (by show ¬τi (bc+1)<500;rw[m2.tg _ hlD];omega)
          clear h;go_wp2;refine⟨by simp,.inl ⟨_,_,rfl,run_takeDeferred hd8,?_⟩⟩;refine⟨.tuple #[],by simp[results,Tryz.f153,go_sem],rfl,?_⟩;obtain⟨τ8,S8,p1,p2,p3,p4⟩:=hn8;have hfd:Fr (fun b=>b=bc+1) w8 (w8.putObj (bc+1) (.deferred none)):=(Fr.refl (fun b=>b=bc+1) w8).putObj (.inl rfl) _;have hlD:bc+1<w4.heap.size:=(Array.getElem?_eq_some_iff.1 hD4).1;have tD8:τ8 (bc+1)=τ1 (bc+1):=by rw[p2.tg _ (by have:=m2.size;omega),m2.tg _ hlD]
          have K9:KeepT w τ0 w8 τ8:=((KeepT.calm τ0 kk).trans k4).trans (m2.trans p2);refine⟨τ8,S8,p1.far hfd (fun b hb=>by rw[hb,tD8];exact tD),KeepT.retag ⟨K9.fr.join hfd (fun j hj e=>by have:=kk.size;omega),K9.tg⟩ tk,m3.trans p3,?_⟩;exact m4.1.trans p4
        · have eh:(Si.holder==(t:Int))=false:=by simpa using hho2
          have oe:=end_is (m1.calm ((Fr.refl _ _).drewN nq)) htk2;rw[etx2,hx9,m3.sp] at oe;have b3:(wr.drewN nq).cell? ⟨b0',0,none⟩=some (pV S.sp):=b2;go_wp2_with fail
          refine oe.mono ?_;rintro e w8 ⟨rfl,n8⟩;have hn8:Nx wr τi s q Si w8 (fun S'=>Still (fun _=>True) Si.D.A S'.D.A):=(n8.calmL ((Fr.refl _ _).drewN nq)).mono (Nat.le_refl _) (Nat.le_refl _) (fun S' e=>by rw[e];exact Still.refl _ _);clear n8 oe b3
          have hd8:w8.heap[bc+1]?=some (.deferred (some [])):=by
            obtain⟨τ8,S8,p1,p2,p3,p4⟩:=hn8;have hlD:bc+1<w4.heap.size:=(Array.getElem?_eq_some_iff.1 hD4).1;have h1:=m2.fr.heapAt hD4 (show ¬τ1 (bc+1)<500 by omega);exact p2.fr.heapAt h1 (by show ¬τi (bc+1)<500;rw[m2.tg _ hlD];omega)
          clear h;go_wp2;refine⟨by simp,.inl ⟨_,_,rfl,run_takeDeferred hd8,?_⟩⟩;refine⟨.tuple #[],by simp[results,Tryz.f153,go_sem],rfl,?_⟩;obtain⟨τ8,S8,p1,p2,p3,p4⟩:=hn8;have hfd:Fr (fun b=>b=bc+1) w8 (w8.putObj (bc+1) (.deferred none)):=(Fr.refl (fun b=>b=bc+1) w8).putObj (.inl rfl) _;have hlD:bc+1<w4.heap.size:=(Array.getElem?_eq_some_iff.1 hD4).1;have tD8:τ8 (bc+1)=τ1 (bc+1):=by rw[p2.tg _ (by have:=m2.size;omega),m2.tg _ hlD]
          have K9:KeepT w τ0 w8 τ8:=((KeepT.calm τ0 kk).trans k4).trans (m2.trans p2);refine⟨τ8,S8,p1.far hfd (fun b hb=>by rw[hb,tD8];exact tD),KeepT.retag ⟨K9.fr.join hfd (fun j hj e=>by have:=kk.size;omega),K9.tg⟩ tk,m3.trans p3,?_⟩;exact m4.1.trans p4
  case stop=>
    rintro c W h;exact h.elim
end
end Go.Proofs.YtdffnjikmkgjkaaGreat
