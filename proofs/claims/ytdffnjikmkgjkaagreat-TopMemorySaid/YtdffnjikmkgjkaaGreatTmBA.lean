/- TopMemory: a part of its proof (Prgs TxN Chk MNew TpL). -/
import Derived.Test.YtdffnjikmkgjkaaGreatTmAA
import Derived.Test.YtdffnjikmkgjkaaGreatTmAJ
import Derived.Test.YtdffnjikmkgjkaaGreatTmAZ
import Derived.Test.YtdffnjikmkgjkaaGreatTmAM
import Derived.Test.YtdffnjikmkgjkaaGreatTmAL
import Derived.Test.YtdffnjikmkgjkaaGreatTmAV
import Derived.Test.YtdffnjikmkgjkaaGreatTmAT
import Derived.Test.YtdffnjikmkgjkaaGreatTmAY
set_option linter.unusedSimpArgs false
set_option linter.unusedVariables false
set_option maxHeartbeats 8000000
namespace Go.Proofs.YtdffnjikmkgjkaaGreat
section
open Go.RowKit Go.Shelf
def BOk (l:List Dd):Prop:=1≤l.length∧l.length≤6∧∀d∈l,d.Rt
def TOk (P:List (List Dd)):Prop:=P.length≤3∧∀b,b<P.length→BOk (P.getD b [])
theorem snoc_all {α:Type}{p:α→Prop}{l:List α}{x d:α}(h:∀i,i<l.length→p (l.getD i d))(hx:p x):∀i,i<(l++[x]).length→p ((l++[x]).getD i d):=fun i hi=>by
  rw[List.length_append] at hi;have hi:i<l.length+1:=hi
  by_cases e:i<l.length
  · rw[List.getD_eq_getElem?_getD,List.getElem?_append_left e,←List.getD_eq_getElem?_getD];exact h i e
  · have e2:i=l.length:=by omega
    subst e2;rw[List.getD_eq_getElem?_getD,List.getElem?_append_right (Nat.le_refl _),Nat.sub_self];exact hx
theorem POk.of {Q:List (List (List Dd))}(h1:1≤Q.length)(h2:Q.length≤4)(h:∀t,t<Q.length→TOk (Q.getD t [])):POk Q:=
  ⟨⟨h1,h2⟩,fun t ht=>(h t ht).1,fun t ht b hb=>⟨((h t ht).2 b hb).1,((h t ht).2 b hb).2.1⟩,fun t ht b hb=>((h t ht).2 b hb).2.2⟩
def PgP (w:World)(e:Ending)(w':World):Prop:=∃u Q,e = .returned u∧PrgIn (fun b=>w.heap.size≤b) w' u Q∧POk Q∧Calm w w'
def PgI (w:World)(x:Value)(i:Nat)(wr:World):Prop:=∃Q:List (List (List Dd)),Q.length=i∧GRow BlkIn [] 41 (fun b=>w.heap.size≤b) wr x Q∧(∀t,t<Q.length→TOk (Q.getD t []))∧Calm w wr
def BgI (w:World)(x:Value)(i:Nat)(wr:World):Prop:=∃P:List (List Dd),P.length≤i∧GRow DdsIn [] 40 (fun b=>w.heap.size≤b) wr x P∧(∀t,t<P.length→BOk (P.getD t []))∧Calm w wr
def DgI (w:World)(x:Value)(i:Nat)(wr:World):Prop:=∃ds:List Dd,ds.length=i∧DRow (fun b=>w.heap.size≤b) wr x ds∧(∀d∈ds,d.Rt)∧Calm w wr
theorem DgI.more {w w1 w2:World}{ds:List Dd}{v v':Value}{d:Dd}(h:DRow (fun b=>w.heap.size≤b) w1 v ds)(hd:∀d∈ds,d.Rt)(hr:d.Rt)(c:Calm w w1)(ho:w2.ownsRow 0 43 5 v' (ds.length+1) (ds.flatMap ddC++ddC d))(f:Fr (InB v) w1 w2)(hn:∀b,InB v' b→InB v b∨w1.heap.size≤b):DgI w v' (ds.length+1) w2:=
  ⟨ds++[d],by simp,⟨by simpa using ho,fun b hb=>by
    rcases hn b hb with e|e
    · exact h.2 b e
    · have:=c.size;show _≤b;omega⟩,fun x hx=>by
    rcases List.mem_append.1 hx with e|e
    · exact hd x e
    · simp at e;subst e;exact hr,c.join f (fun j hj e=>by have:w.heap.size≤j:=h.2 j e;omega)⟩
set_option maxRecDepth 8000 in
theorem programs_is {T0:Nat→Prop}{w:World}{v:Value}{Q0:List (List (List Dd))}(hr:PrgIn T0 w v Q0)(hl:QOk Q0):Calls Tryz.prog 4 #[v] w (PgP w):=by
  obtain⟨va,vc,rfl,hg0⟩:=hr;obtain⟨N,hN⟩:∃N,Q0.length=N:=⟨_,rfl⟩
  have hget:Hid (∀i,i<N→∃g o u,va=some ⟨g,o,none⟩∧(∀W,Calm w W→W.cell? ⟨g,o+i,none⟩=some u)∧BlkIn T0 w u (Q0.getD i [])):=fun i hi=>by
    obtain⟨g,o,u,h1,h2,h3,h4⟩:=hg0 i (by omega);exact⟨g,o,u,h1,fun W c=>c.cellAt h3 id,h4⟩
  have hok:Hid (∀i,i<N→∀b,b<(Q0.getD i []).length→∀k,k<((Q0.getD i []).getD b []).length→(((Q0.getD i []).getD b []).getD k dD).Ok):=fun i hi=>hl i (by omega);rw[hN];clear hg0 hl hN;go_enter Tryz.func4,Tryz.ntmps4;go_wp2_with fail
  go_loopw [3,4] (fun x z wr=>∃i:Nat,i≤N∧i≤4∧z = .int .i64 i∧PgI w x i wr) (fun _ z _=>4-(intOf z).toNat)
  case atStart=>exact⟨0,by omega,by omega,rfl,[],rfl,GRow.nil w,fun t ht=>absurd ht (Nat.not_lt_zero t),Fr.refl _ _⟩
  case round=>
    obtain⟨w3,rfl⟩:∃w3,w3=wr:=⟨_,rfl⟩;obtain⟨x3,rfl⟩:∃x3,x3=u3:=⟨_,rfl⟩;obtain⟨i,hi,hi4,rfl,Q,hQl,hG0,hTk,hc0⟩:=hrel;have hex:(i<N∧i<4)∨(¬i<N)∨(i<N∧¬i<4):=by omega
    rcases hex with ⟨hlt,h4⟩|hex
    · obtain⟨g,o,u,rfl,hcu,ba,bc,rfl,hb⟩:=hget.out i hlt;have hoki:Hid (∀b,b<(Q0.getD i []).length→∀k,k<((Q0.getD i []).getD b []).length→(((Q0.getD i []).getD b []).getD k dD).Ok):=hok.out i hlt;obtain⟨R0,hR0⟩:∃R0,Q0.getD i []=R0:=⟨_,rfl⟩;rw[hR0] at hb hoki hcu;obtain⟨M,hM⟩:∃M,R0.length=M:=⟨_,rfl⟩;rw[hM] at hcu;have hcu':Hid (∀W,Calm w3 W→W.cell? ⟨g,o+i,none⟩=some (.slice ba M bc)):=fun W c=>hcu W (hc0.trans c);have y0:=hcu'.out w3 (Fr.refl _ _)
      have hget2:Hid (∀b,b<M→∃g2 o2 u2,ba=some ⟨g2,o2,none⟩∧(∀W,Calm w3 W→W.cell? ⟨g2,o2+b,none⟩=some u2)∧DdsIn T0 w3 u2 (R0.getD b [])):=fun b hb'=>by
        obtain⟨g,o,u,h1,h2,h3,h4⟩:=hb b (by omega);exact⟨g,o,u,h1,fun W c=>(hc0.trans c).cellAt h3 id,h4.calm hc0⟩
      replace hoki:Hid (∀b,b<M→∀k,k<(R0.getD b []).length→((R0.getD b []).getD k dD).Ok):=by rw[←hM];exact hoki
      replace hc0:=hid hc0;replace hG0:=hid hG0;replace hTk:=hid hTk;replace hQl:=hid hQl;clear hcu hR0 hM hb;go_wp2_with fail
      clear y0;go_loopw [5,6] (fun x z w2=>∃b:Nat,b≤M∧b≤3∧z = .int .i64 b∧BgI w3 x b w2) (fun _ z _=>3-(intOf z).toNat)
      case atStart=>exact⟨0,by omega,by omega,rfl,[],Nat.le_refl _,GRow.nil _,fun t ht=>absurd ht (Nat.not_lt_zero t),Fr.refl _ _⟩
      case round=>
        obtain⟨wx,rfl⟩:∃wx,wx=wr:=⟨_,rfl⟩;obtain⟨x5,rfl⟩:∃x5,x5=u5:=⟨_,rfl⟩;obtain⟨b,hb,hb3,rfl,P,hPl,hG1,hBk,hc1⟩:=hrel;have hex2:(b<M∧b<3)∨(¬b<M)∨(b<M∧¬b<3):=by omega
        have y0:=hcu'.out wx hc1;rcases hex2 with ⟨hlt2,h3⟩|hex2
        · obtain⟨g2,o2,u2,rfl,hcu2,da,dc,rfl,hd⟩:=hget2.out b hlt2;obtain⟨L0,hL0⟩:∃L0,R0.getD b []=L0:=⟨_,rfl⟩;have hoks:=hoki.out b hlt2;rw[hL0] at hd hoks hcu2;obtain⟨K,hK⟩:∃K,L0.length=K:=⟨_,rfl⟩;rw[hK] at hcu2 hd hoks;have hcu2':Hid (∀W,Calm wx W→W.cell? ⟨g2,o2+b,none⟩=some (.slice da K dc)):=fun W c=>hcu2 W (hc1.trans c);have z0:=hcu2'.out wx (Fr.refl _ _)
          have hget3:Hid (∀k,k<K→∃g3 o3,da=some ⟨g3,o3,none⟩∧∀W,Calm wx W→∀j u,(ddC (L0.getD k dD))[j]?=some u→W.cell? ⟨g3,o3+k*5+j,none⟩=some u):=fun k hk=>by
            obtain⟨g,o,h1,h2,h3⟩:=hd k hk;exact⟨g,o,h1,fun W c j u hu=>(hc1.trans c).cellAt (h3 j u hu) id⟩
          replace hoks:=hid hoks;replace hc1:=hid hc1;replace hG1:=hid hG1;replace hBk:=hid hBk;replace hPl:=hid hPl;clear hcu2 hL0 hK hd;go_wp2_with fail
          clear y0 z0;go_loopw [7,8] (fun x z w2=>∃k:Nat,k≤K∧k≤6∧z = .int .i64 k∧DgI wx x k w2) (fun _ z _=>6-(intOf z).toNat)
          case atStart=>exact⟨0,by omega,by omega,rfl,[],rfl,DRow.nil _ _,fun d hd=>(by cases hd),Fr.refl _ _⟩
          case round=>
            obtain⟨wy,rfl⟩:∃wy,wy=wr:=⟨_,rfl⟩;obtain⟨k,hk,hk6,rfl,ds,hds,hD,hrt,hc2⟩:=hrel;have y0:=hcu'.out wy (hc1.out.trans hc2);have z0:=hcu2'.out wy hc2;obtain⟨xa,xc,hx⟩:=hD.slice;rw[hds] at hx;subst hx;have hex3:(k<K∧k<6)∨(¬k<K)∨(k<K∧¬k<6):=by omega
            rcases hex3 with ⟨hlt3,h6⟩|hex3
            · obtain⟨g3,o3,rfl,hcd⟩:=hget3.out k hlt3;obtain⟨d,hd⟩:∃d,L0.getD k dD=d:=⟨_,rfl⟩;have hcd:=hcd wy hc2;have hdo:=hoks.out k hlt3
              rw[hd] at hcd hdo;have e0:=hcd 0 _ rfl;have e1:=hcd 1 _ rfl;have e2:=hcd 2 _ rfl;have e3:=hcd 3 _ rfl;have e4:=hcd 4 _ rfl;rw[Nat.add_zero] at e0
              have of:=fit_is wy d hdo;simp only[ddV] at of;replace hc2:=hid hc2;replace hD:=hid hD;replace hrt:=hid hrt;replace hds:=hid hds
              clear hcd hd hdo;go_wp2_with fail
              refine of.mono ?_;rintro e w6 ⟨⟨d2,rfl,hdr⟩,c6⟩;simp only[ddV];have ka:Calm w6 (w6.alloc (.cells #[.int .i64 d2.k,.int .i64 d2.a,.int .i64 d2.b,.int .i64 d2.i,.int .i64 d2.n] 43)):=(Fr.refl _ _).alloc _;have cA:=hid ((hc2.out.trans c6).trans ka);have hA:=hid (hD.out.calm (c6.trans ka));have hA1:=hid hA.out.1;rw[hds.out] at hA1;replace hdr:=hid hdr;have hnw:Hid (∀j u,(ddC d2)[j]?=some u→(w6.alloc (.cells #[.int .i64 d2.k,.int .i64 d2.a,.int .i64 d2.b,.int .i64 d2.i,.int .i64 d2.n] 43)).cell? ((⟨w6.heap.size,0,none⟩:Addr).add j)=some u):=cell_row_new2 w6 (ddC d2) _;clear of e0 e1 e2 e3 e4 y0 z0 c6 ka
              go_wp2_with (
                at_builtin
                go_must (refine wpList_appG giD rfl _ _ rfl (.slice xa k xc) k (ds.flatMap ddC) hA1.out rfl (ddC d2) rfl (by simp[ddC,Value.oneCell']) ⟨w6.heap.size,0,none⟩ 1 rfl hnw.out (by omega) ?_)
                intro g7 c7 w7 hr7 f7 hg7
                have hQ:Hid (DgI wx (.slice (some ⟨g7,0,none⟩) (k+1) c7) (k+1) w7):=by
                  have hds0:=hds.out;subst hds0
                  exact DgI.more hA.out hrt.out hdr.out cA.out hr7 f7 (fun b hb=>by
                    obtain rfl:=InB.mk1 hb;rcases hg7 with e|e
                    · exact .inl e
                    · exact .inr (by first|omega|exact Nat.le_of_eq e.symm))
                clear hr7 f7 hg7
                go_frame)
              exact⟨⟨k+1,by omega,by omega,by simp,hQ.out⟩,by simp[intOf] <;> omega⟩
            · have hc12:=hc1.out.trans hc2
              by_cases k0:k=0
              · subst k0;have hfin:Hid (BgI w3 x5 (b+1) wy):=⟨P,by have:=hPl.out;omega,hG1.out.calm ilD hc2,hBk.out,hc12⟩;clear hD hc12;replace hrt:=hid hrt;rcases hex3 with h1|⟨h1,h2⟩
                · go_wp2_with fail
                  exact⟨⟨b+1,by omega,by omega,by simp,hfin.out⟩,by simp[intOf] <;> omega⟩
                · omega
              · have k1:0<k:=by omega
                have ka:Calm wy (wy.alloc (.cells #[.slice xa k xc] 40)):=(Fr.refl _ _).alloc _;have hG2:=hid (hG1.out.calm ilD (hc2.trans ka));have hcA:=hid (hc12.trans ka);have hnx:Hid (∀b,InB x5 b→b<wx.heap.size):=fun b hb=>hG1.out.lt hb
                have hy:Hid (DdsIn (fun b=>w3.heap.size≤b∧¬InB x5 b) (wy.alloc (.cells #[.slice xa k xc] 40)) (.slice xa k xc) ds):=by
                  have h0:=(hD.calm ka).rin
                  skip
                  exact h0.mono (fun b _ hb=>⟨Nat.le_trans hc1.out.size hb,fun e=>by have:=hnx.out b e;have hb':wx.heap.size≤b:=hb;omega⟩)
                have hbo:Hid (BOk ds):=⟨by omega,by omega,hrt⟩
                have hcl:Hid ((wy.alloc (.cells #[.slice xa k xc] 40)).cell? ⟨wy.heap.size,0,none⟩=some (.slice xa k xc)):=by
                  unfold Hid;rw[World.cell?_alloc_new];rfl
                have hsz:Hid (w3.heap.size≤(wy.alloc (.cells #[.slice xa k xc] 40)).heap.size):=hcA.out.size;replace hD:=hid hD;replace hrt:=hid hrt;replace hds:=hid hds;replace hc2:=hid hc2;clear hc12 ka;rcases hex3 with h1|⟨h1,h2⟩
                all_goals
                  go_wp2_with (
                    at_builtin
                    go_must (refine wpList_appR giB ilD rfl _ _ rfl x5 P hG2.out rfl (.slice xa k xc) ds wy.heap.size 1 rfl hcl.out rfl hy.out (fun b hb=>Nat.le_trans hsz.out hb) (by have:=hPl.out;omega) ?_)
                    intro g8 c8 w8 hr8 f8;have hQ:Hid (BgI w3 (.slice (some ⟨g8,0,none⟩) (P.length+1) c8) (b+1) w8):=⟨P++[ds],by have:=hPl.out;simp;omega,hr8,snoc_all hBk.out hbo.out,hcA.out.join f8 (fun j hj e=>by have:w3.heap.size≤j:=hG2.out.own e;omega)⟩;clear hr8 f8
                    go_frame)
                  exact⟨⟨b+1,by omega,by omega,by simp,hQ.out⟩,by simp[intOf] <;> omega⟩
        · obtain⟨pa,pc,hx5⟩:=hG1.slice;obtain⟨pn,hpn⟩:∃pn,P.length=pn:=⟨_,rfl⟩;rw[hpn] at hx5;subst hx5;have ka:Calm wx (wx.alloc (.cells #[(.slice pa pn pc)] 41)):=(Fr.refl _ _).alloc _;have hG2:=hid (hG0.out.calm ilB (hc1.trans ka));have hcA:=hid ((hc0.out.trans hc1).trans ka);have hnx:Hid (∀b,InB x3 b→b<w3.heap.size):=fun b hb=>hG0.out.lt hb;have hone:Hid ((Value.slice pa pn pc).oneCell'=true):=hid rfl
          have hy:Hid (BlkIn (fun b=>w.heap.size≤b∧¬InB x3 b) (wx.alloc (.cells #[(.slice pa pn pc)] 41)) (.slice pa pn pc) P):=by
            have h0:BlkIn _ _ _ _:=(hG1.calm ilD ka).rin ilD;exact h0.mono (fun b _ hb=>⟨Nat.le_trans hc0.out.size hb,fun e=>by have:=hnx.out b e;have hb':w3.heap.size≤b:=hb;omega⟩)
          have hbo:Hid (TOk P):=⟨by omega,hBk⟩
          have hcl:Hid ((wx.alloc (.cells #[(.slice pa pn pc)] 41)).cell? ⟨wx.heap.size,0,none⟩=some (.slice pa pn pc)):=by
            unfold Hid;rw[World.cell?_alloc_new];rfl
          have hsz:Hid (w.heap.size≤(wx.alloc (.cells #[(.slice pa pn pc)] 41)).heap.size):=hcA.out.size;replace hc1:=hid hc1;replace hG1:=hid hG1;replace hBk:=hid hBk;replace hPl:=hid hPl;replace hpn:=hid hpn;clear ka;rcases hex2 with h1|⟨h1,h2⟩
          all_goals
            go_wp2_with (
              at_builtin
              go_must (refine wpList_appR giQ ilB rfl _ _ rfl x3 Q hG2.out rfl (.slice pa pn pc) P wx.heap.size 1 rfl hcl.out hone.out hy.out (fun b hb=>Nat.le_trans hsz.out hb) (by have:=hQl.out;omega) ?_)
              intro g8 c8 w8 hr8 f8;have hQ:Hid (PgI w (.slice (some ⟨g8,0,none⟩) (Q.length+1) c8) (i+1) w8):=⟨Q++[P],by have:=hQl.out;simp;omega,hr8,snoc_all hTk.out hbo.out,hcA.out.join f8 (fun j hj e=>by have:w.heap.size≤j:=hG2.out.own e;omega)⟩;clear hr8 f8
              go_frame)
            exact⟨⟨i+1,by omega,by omega,by simp,hQ.out⟩,by simp[intOf] <;> omega⟩
    · obtain⟨pa,pc,hx3⟩:=hG0.slice
      by_cases i0:i=0
      · subst i0;have ka:Calm w3 (w3.alloc (.cells #[.slice none 0 0] 41)):=(Fr.refl _ _).alloc _
        have hfin:Hid (PgP w (.returned (.slice (some ⟨w3.heap.size,0,none⟩) 1 1)) (w3.alloc (.cells #[.slice none 0 0] 41))):=
          ⟨_,[[]],rfl,⟨some ⟨w3.heap.size,0,none⟩,1,rfl,fun t ht=>⟨w3.heap.size,0,.slice none 0 0,rfl,hc0.size,by
            have h0:t=0:=by have h1:t<1:=ht;omega
            subst h0
            rw[World.cell?_alloc_new];rfl,by
            have h0:t=0:=by have h1:t<1:=ht;omega
            subst h0
            exact⟨none,0,rfl,fun i hi=>absurd hi (Nat.not_lt_zero i)⟩⟩⟩,POk.of (by decide) (by decide) (fun t ht=>by
            have h0:t=0:=by have h1:t<1:=ht;omega
            subst h0
            exact⟨by decide,fun b hb=>absurd hb (Nat.not_lt_zero b)⟩),hc0.trans ka⟩
        rw[hQl] at hx3;subst hx3;clear hG0 hTk hc0 ka hQl;rcases hex with h1|⟨h1,h2⟩
        · go_wp2;go_ret;exact hfin.out
        · omega
      · have hi0:((i:Int)==0)=false:=by simp;omega
        have hfin:Hid (PgP w (.returned x3) w3):=⟨_,Q,rfl,hG0.rin ilB,POk.of (by omega) (by omega) hTk,hc0⟩;rw[hQl] at hx3;subst hx3;clear hG0 hTk hc0 hQl;rcases hex with h1|⟨h1,h2⟩
        all_goals
          go_wp2;go_ret;exact hfin.out
end
section
open Go.RowKit Go.Shelf
theorem St.apartT {w:World}{τ:Nat→Nat}{s q:Nat}{S:StD}(h:St w τ s q S):¬InB S.tsv S.sp∧τ S.sp=2∧(∀b,InB S.tsv b→τ b=4):=by
  obtain⟨M,h1,h2,h3⟩:=h;have t2:(M 2).blk S.sp:=by rw[h2.c];rfl
  have t4:∀b,InB S.tsv b→(M 4).blk b:=fun b hb=>by rw[h2.t];exact hb
  exact⟨fun e=>h1.apart (t:=2) (u:=4) (by decide) t2 (t4 _ e),h1.tag 2 _ t2,fun b hb=>h1.tag 4 _ (t4 b hb)⟩
def NwI (w:World)(sp i:Nat)(wr:World):Prop:=∃τ S,St wr τ 0 0 S∧S.txs.length=i∧S.sp=sp∧(∀b,b<w.heap.size→τ b=1000)∧Calm w wr
def TxNP (w:World)(e:Ending)(w':World):Prop:=∃τ S,e = .returned (.tuple #[pV S.sp,vI 0])∧St w' τ 0 0 S∧(∀b,b<w.heap.size→τ b=1000)∧Calm w w'
set_option maxRecDepth 8000 in
theorem txnew_is (w:World)(n k:Nat)(h1:16≤n)(h2:n≤16384)(k1:1≤k)(k2:k≤8)(r u most:Int):Calls Tryz.prog 15 #[vI (n:Int),vI (k:Int),vI r,vI u,vI most] w (TxNP w):=by
  have h31:=hid (hnew_yes w n h1 h2);clear h1 h2;go_enter Tryz.func15,Tryz.ntmps15;go_wp2_with fail
  refine h31.out.mono ?_;rintro e w1 ⟨B,rfl,hA,c1,n1⟩;clear h31;replace hA:=hid hA;replace n1:=hid n1;go_wp2_with fail
  refine(cnew_yes w1 B.hp).mono ?_;rintro e w2 ⟨rfl,hy,c2⟩;replace hy:=hid hy;go_wp2_with fail
  refine(clock_new w2 most).mono ?_;rintro e w3 ⟨m,rfl,m1,m2,ho,c3⟩;replace ho:=hid ho;obtain⟨ka,oS⟩:=newL w3 [hpV B,pV w1.heap.size,pV w2.heap.size,.slice none 0 0,.slice none 0 0,vI 0,vI (-1),vI 0,.slice none 0 0,.slice none 0 0] 94;obtain⟨W4,hW4⟩:∃W4,w3.alloc (.cells #[hpV B,pV w1.heap.size,pV w2.heap.size,.slice none 0 0,.slice none 0 0,vI 0,vI (-1),vI 0,.slice none 0 0,.slice none 0 0] 94)=W4:=⟨_,rfl⟩;rw[hW4] at ka oS;have c4:=((c1.trans c2).trans c3).trans ka;obtain⟨sp,hsp⟩:∃sp,w3.heap.size=sp:=⟨_,rfl⟩
  have hS0:NwI w sp 0 W4:=by
    have s1:=c1.size;have s2:=c2.size;have s3:=c3.size;have hy0:OwnL w2 w1.heap.size [pV B.hp,.nilFunc,nS,nS]:=hy.out.cs;have l1:=hy0.lt (by simp);have l2:=ho.out.lt (by simp);obtain⟨τ,g1,g2⟩:=st_start (hA.out.calm ((c2.trans c3).trans ka)) ((hy0.calm c3).calm ka) (ho.out.calm ka) oS (fun e=>by have:=hA.out.lt _ e;omega) (fun e=>by have:=hA.out.lt _ e;omega) (fun e=>by have:=hA.out.lt _ e;omega) (by omega) (by omega) (by omega) m1 m2 (b0:=w.heap.size) n1.out (by omega) (by omega) (by omega);exact⟨τ,_,g1,rfl,hsp,g2,c4⟩
  replace hS0:=hid hS0;clear hA n1 hy ho ka oS c4 m1 m2 c1 c2 c3;go_wp2_with fail
  go_loopw [37] (fun z w2=>∃i:Nat,i≤k∧z=vI i∧NwI w sp i w2) (fun z _=>k-(intOf z).toNat)
  case atStart=>exact⟨0,by omega,rfl,hS0.out⟩
  case round=>
    obtain⟨i,hi,rfl,hI⟩:=hrel;clear hS0 hW4
    by_cases hlt:i<k
    · obtain⟨τ,S,hs,hsl,hsp,ht,hc⟩:=hI;obtain⟨a1,a2,a3⟩:=hs.apartT;have hcs:=hs.cells;have hth:=hs.thr;rw[hsp] at hcs a1 a2;rw[hsl] at hth;obtain⟨va,vc,hv⟩:=owns_slice hth;have y3:Own wr sp 3 S.tsv:=hcs 3 _ rfl;have spl:sp<wr.heap.size:=hcs.lt (by simp[StD.cs]);have spw:w.heap.size≤sp:=Nat.le_of_not_lt fun e=>by have:=ht sp e;omega
      have tsw:∀b,InB S.tsv b→w.heap.size≤b:=fun b hb=>Nat.le_of_not_lt fun e=>by have:=ht b e;have:=a3 b hb;omega
      rw[hv] at y3 hth a1;replace tsw:=hid tsw;replace ht:=hid ht;replace hcs:=hid hcs;replace a3:=hid a3;have hs':=hid hs;clear hs;go_upto_region 10 with fail
      have kd:Calm wr wr.drew:=(Fr.refl _ _).drew;refine wp_region_helds 8 13 (fun w'=>w'.cell? ⟨sp,3,none⟩=some (.slice va i vc)) (by kernel_rfl) (by kernel_rfl) (kd.cellAt y3.1 id) ?_;refine heldList_step (pV sp) rfl (fun w' hw'=>?_) (fun _ _ _ h=>h) ?_
      · simp[go_sem]
      refine heldList_step (pV sp) rfl (fun w' hw'=>?_) (fun _ _ _ h=>h) ?_
      · simp[go_sem]
      refine heldList_step (pV sp) rfl (fun w' hw'=>?_) (fun _ _ _ h=>h) ?_
      · simp[go_sem]
      refine heldList_step (.pointer (some ⟨sp,3,none⟩)) rfl (fun w' hw'=>?_) (fun _ _ _ h=>h) ?_
      · simp[go_sem]
      refine heldList_step (.slice va i vc) rfl (fun w' hw'=>?_) (fun _ _ _ h=>h) ?_
      · simp[go_sem,hw']
      refine heldList_step (vI (i:Int)) rfl (fun w' hw'=>?_) (fun _ _ _ h=>h) ?_
      · simp[go_sem]
      refine heldList_step (vI r) rfl (fun w' hw'=>?_) (fun _ _ _ h=>h) ?_
      · simp[go_sem]
      refine heldList_step (vI u) rfl (fun w' hw'=>?_) (fun _ _ _ h=>h) ?_
      · simp[go_sem]
      simp only[heldList];refine heldSeq_step rfl ?_;unfold Oper.wp;go_simp;refine(log_new wr.drew r u).mono ?_;rintro e w5 ⟨mr,mu,rfl,ol,c5,m1,m2,m3,m4⟩;have k5:=kd.trans c5;have hdz:wr.drew.heap.size=wr.heap.size:=rfl;rw[hdz] at ol ⊢;refine⟨k5.cellAt y3.1 id,?_⟩;refine heldSeq_step rfl ?_;unfold Oper.wp;go_simp;refine⟨k5.cellAt y3.1 id,?_⟩;refine heldSeq_step rfl ?_;unfold Oper.wp;go_simp;have k6:Calm wr (w5.alloc (.cells #[vI (i:Int),.bool false,vI 0,vI 0,pV wr.heap.size,.slice none 0 0] 99)):=k5.alloc _;have ox:=OwnL.new w5 [vI (i:Int),.bool false,vI 0,vI 0,pV wr.heap.size,.slice none 0 0] 99;have ol6:=ol.alloc (.cells #[vI (i:Int),.bool false,vI 0,vI 0,pV wr.heap.size,.slice none 0 0] 99);have hs6:(w5.alloc (.cells #[vI (i:Int),.bool false,vI 0,vI 0,pV wr.heap.size,.slice none 0 0] 99)).heap.size=w5.heap.size+1:=by simp
      refine⟨k6.cellAt y3.1 id,?_⟩;generalize hW6:w5.alloc (.cells #[vI (i:Int),.bool false,vI 0,vI 0,pV wr.heap.size,.slice none 0 0] 99)=W6 at *;clear hW6;refine heldSeq_step rfl ?_;unfold Oper.wp;go_simp;have k7:Calm wr (W6.alloc (.cells #[pV w5.heap.size] 95)):=k6.alloc _;refine⟨k7.cellAt y3.1 id,?_⟩;have hth7:=owns_frB hth k7 (fun _ _=>id);refine heldSeq_step rfl ?_;refine Eq.mp (if_pos (show Region.wanted _ (yielded _ _)=true from rfl)) (step_appG (ops:=#[]) (E:=True) giP rfl (.tmp 44) (.tmp 51) rfl (.slice va i vc) i _ hth7 rfl [pV w5.heap.size] rfl (by simp[Value.oneCell']) ⟨w5.heap.size+1,0,none⟩ 1 rfl (fun j u hj=>by rw[addr_at];simp only[Nat.zero_add];rw[←hs6];exact cell_row2 W6 [pV w5.heap.size] _ _ hj) (by omega) ?_);intro g c w8 hr8 f8 hg8;have k7s:=k7.size;have h78:(W6.alloc (.cells #[pV w5.heap.size] 95)).heap.size=W6.heap.size+1:=by simp
      have nsp:¬InB (.slice va i vc) sp:=a1;have hcs8:=(hcs.out.calm k7).fr f8 nsp;have y38:=hcs8 3 _ rfl;have hcs9:=hcs8.set 3 (.slice (some ⟨g,0,none⟩) (i+1) c) (by simp[StD.cs]);have F9:=frS w8 (sp) 3 (.slice (some ⟨g,0,none⟩) (i+1) c);have c5s:wr.heap.size<w5.heap.size:=ol.lt (by simp);have hvl:∀b,InB (.slice va i vc) b→b<wr.heap.size:=fun b hb=>(World.ownsRow.lt hth b hb).2
      have hg9:∀b,InB (.slice (some ⟨g,0,none⟩) (i+1) c) b→InB (.slice va i vc) b∨W6.heap.size+1≤b:=fun b hb=>by
        obtain rfl:=InB.mk1 hb;rcases hg8 with e|e
        · exact .inl e
        · right;rw[e];simp
      have hd1:∀b,wr.heap.size≤b→b<W6.heap.size+1→¬InB (.slice (some ⟨g,0,none⟩) (i+1) c) b:=fun b h1 h2 hb=>by
        rcases hg9 b hb with e|e
        · have:=hvl b e;omega
        · omega
      have ox9:=((ox.alloc (.cells #[pV w5.heap.size] 95)).fr f8 (fun e=>by have:=hvl _ e;omega)).fr F9 (by omega);have ol9:=((ol6.alloc (.cells #[pV w5.heap.size] 95)).fr f8 (fun e=>by have h1:=hvl _ e;have h2:wr.heap.size=wr.heap.size:=rfl;omega)).fr F9 (by have h2:wr.heap.size=wr.heap.size:=rfl;omega)
      have hr9:=owns_frB hr8 F9 (fun b hb e=>by
        subst e;rcases hg9 _ hb with e|e
        · exact nsp e
        · omega)
      have f09:Fr (fun b=>b=sp∨InB (.slice va i vc) b) wr (w8.setCell ⟨sp,3,none⟩ (.slice (some ⟨g,0,none⟩) (i+1) c)):=(((Calm.any k7:Fr (fun b=>b=sp∨InB (.slice va i vc) b) _ _).trans (f8.mono (fun _ _ e=>.inr e))).trans (F9.mono (fun _ _ e=>.inl e)))
      have hQ:NwI w sp (i+1) (w8.setCell ⟨sp,3,none⟩ (.slice (some ⟨g,0,none⟩) (i+1) c)):=by
        obtain⟨τ',q1,q2⟩:=St.more (v':=.slice (some ⟨g,0,none⟩) (i+1) c) (xp:=w5.heap.size) (lp:=wr.heap.size) (mr:=mr) (mu:=mu) hs'.out (by omega) (by rw[hsp,hv];exact f09) (by rw[hsp];exact hcs9) (by rw[hsl];exact hr9) (fun b hb=>by
          rw[hv];rcases hg9 b hb with e|e
          · exact .inl e
          · right;omega) (by rw[hsl];exact ox9) ol9 (by omega) (Nat.le_refl _) (by show w5.heap.size≠wr.heap.size;omega) (hd1 _ (by omega) (by omega)) (hd1 _ (Nat.le_refl _) (by show wr.heap.size<_;omega)) ⟨m1,m2,m3,m4⟩
        refine⟨τ',_,q1,by simp[StD.more,hsl],hsp,fun b hb=>?_,hc.join f09 (fun j hj e=>?_)⟩
        · rw[q2 b (by have:=hc.size;omega)];exact ht.out b hb
        · rcases e with e|e
          · omega
          · have:=tsw.out j (by rw[hv];exact e);omega
      replace hQ:=hid hQ;have y80:=y38.1;have y81:=y38.2;refine⟨by rw[←hv];exact y80,?_⟩;clear hcs8 hcs9 F9 ox9 ol9 hr9 f09 hr8 f8 hg8 hg9 hd1 hvl hth7 hth k7 k6 k5 kd ox ol6 ol y3 a1 y38;simp only[heldSeq];go_wp2_with fail
      exact⟨⟨i+1,by omega,by simp,hQ.out⟩,by simp[intOf] <;> omega⟩
    · have hge:decide ((i:Int)<k)=false:=decide_eq_false (by omega)
      have hfin:Hid (TxNP w (.returned (.tuple #[pV sp,vI 0])) wr):=by
        obtain⟨τ,S,q1,q2,q3,q4,q5⟩:=hI;exact⟨τ,S,by rw[q3],q1,q4,q5⟩
      clear hI;go_wp2;exact bodyPost_ret (v:=.tuple #[pV sp,vI 0]) (by simp[results,Tryz.f15,go_sem]) rfl hfin.out
end
section
open Go.RowKit Go.Shelf
theorem res_chk {fn:Func}{W:World}{B:Nat}{tmps:Array Value}(hf:fn.results = #[.tmp 2,.cell 3 51])(h2:tmps[2]?.getD undef=vI 0)(h3:tmps[3]?.getD undef = .pointer (some ⟨B,0,none⟩))(u:OwnL W B [vI 0,vI 0,vI 0]) :
    (results fn tmps).run Tryz.prog W = .ok (.tuple #[vI 0,.agg #[vI 0,vI 0,vI 0]]) W:=by
  obtain⟨z0,z1,z2⟩:=OwnL.ce3 u;simp[results,hf,h2,h3,go_sem,z0,z1,z2]
def ChkP (w:World)(e:Ending)(w':World):Prop:=e = .returned (.tuple #[vI 0,.agg #[vI 0,vI 0,vI 0]])∧Calm w w'
set_option maxRecDepth 8000 in
theorem check_is {T0:Nat→Prop}{w:World}{v:Value}{Q:List (List (List Dd))}(hr:PrgIn T0 w v Q)(hp:POk Q):Calls Tryz.prog 14 #[v] w (ChkP w):=by
  obtain⟨va,vc,rfl,hg0⟩:=hr;obtain⟨N,hN⟩:∃N,Q.length=N:=⟨_,rfl⟩;have hN1:1≤N∧N≤4:=by rw[←hN];exact hp.n
  have hget:Hid (∀i,i<N→∃g o u,va=some ⟨g,o,none⟩∧(∀W,Calm w W→W.cell? ⟨g,o+i,none⟩=some u)∧BlkIn T0 w u (Q.getD i [])):=fun i hi=>by
    obtain⟨g,o,u,h1,h2,h3,h4⟩:=hg0 i (by omega);exact⟨g,o,u,h1,fun W c=>c.cellAt h3 id,h4⟩
  have hok:Hid (∀i,i<N→(Q.getD i []).length≤3∧∀b,b<(Q.getD i []).length→(1≤((Q.getD i []).getD b []).length∧((Q.getD i []).getD b []).length≤6)∧∀d∈(Q.getD i []).getD b [],d.Rt):=fun i hi=>⟨hp.b i (by omega),fun b hb=>⟨hp.d i (by omega) b hb,hp.r i (by omega) b hb⟩⟩;obtain⟨k0,o0⟩:=newL w [vI 0,vI 0,vI 0] 51;obtain⟨W1,hW1⟩:∃W1,w.alloc (.cells #[vI 0,vI 0,vI 0] 51)=W1:=⟨_,rfl⟩;rw[hW1] at k0 o0;rw[hN];replace k0:=hid k0;replace o0:=hid o0;clear hg0 hp hN;go_enter Tryz.func14,Tryz.ntmps14;go_wp2_with fail
  clear hW1;go_loopw [21] (fun z w2=>∃i:Nat,i≤N∧z=vI i∧Calm W1 w2) (fun z _=>N-(intOf z).toNat)
  case atStart=>exact⟨0,by omega,rfl,Fr.refl _ _⟩
  case round=>
    obtain⟨w3,rfl⟩:∃w3,w3=wr:=⟨_,rfl⟩;obtain⟨i,hi,rfl,hc0⟩:=hrel
    by_cases hlt:i<N
    · obtain⟨g,o,u,rfl,hcu,ba,bc,rfl,hb⟩:=hget.out i hlt;obtain⟨hok1,hok2⟩:=hok.out i hlt;obtain⟨R0,hR0⟩:∃R0,Q.getD i []=R0:=⟨_,rfl⟩;rw[hR0] at hb hok1 hok2 hcu;obtain⟨M,hM⟩:∃M,R0.length=M:=⟨_,rfl⟩;rw[hM] at hcu hok1;have y0:=hcu w3 (k0.out.trans hc0)
      have hget2:Hid (∀b,b<M→∃g2 o2 u2,ba=some ⟨g2,o2,none⟩∧(∀W,Calm w3 W→W.cell? ⟨g2,o2+b,none⟩=some u2)∧DdsIn T0 w3 u2 (R0.getD b [])):=fun b hb'=>by
        obtain⟨g,o,u,h1,h2,h3,h4⟩:=hb b (by omega);exact⟨g,o,u,h1,fun W c=>((k0.out.trans hc0).trans c).cellAt h3 id,h4.calm (k0.out.trans hc0)⟩
      have hoki:Hid (∀b,b<M→(1≤(R0.getD b []).length∧(R0.getD b []).length≤6)∧∀d∈R0.getD b [],d.Rt):=fun b hb'=>hok2 b (by omega);replace hc0:=hid hc0;clear hcu hR0 hM hb hok2;go_wp2_with fail
      clear y0;go_loopw [33] (fun z w2=>∃b:Nat,b≤M∧z=vI b∧Calm w3 w2) (fun z _=>M-(intOf z).toNat)
      case atStart=>exact⟨0,by omega,rfl,Fr.refl _ _⟩
      case round=>
        obtain⟨wx,rfl⟩:∃wx,wx=wr:=⟨_,rfl⟩;obtain⟨b,hb,rfl,hc1⟩:=hrel
        by_cases hlt2:b<M
        · obtain⟨g2,o2,u2,rfl,hcu2,da,dc,rfl,hd⟩:=hget2.out b hlt2;obtain⟨L0,hL0⟩:∃L0,R0.getD b []=L0:=⟨_,rfl⟩;obtain⟨hk6,hrt⟩:=hoki.out b hlt2;rw[hL0] at hd hk6 hrt hcu2;obtain⟨K,hK⟩:∃K,L0.length=K:=⟨_,rfl⟩;rw[hK] at hcu2 hd hk6;have z0:=hcu2 wx hc1
          have hget3:Hid (∀k,k<K→∃g3 o3,da=some ⟨g3,o3,none⟩∧(L0.getD k dD).Rt∧∀W,Calm wx W→∀j u,(ddC (L0.getD k dD))[j]?=some u→W.cell? ⟨g3,o3+k*5+j,none⟩=some u):=fun k hk=>by
            obtain⟨g,o,h1,h2,h3⟩:=hd k hk;exact⟨g,o,h1,hrt _ (get_mem _ (by omega)),fun W c j u hu=>(hc1.trans c).cellAt (h3 j u hu) id⟩
          obtain⟨hk1,hk6⟩:=hk6;replace hc1:=hid hc1;clear hcu2 hL0 hK hd hrt;go_wp2_with fail
          clear z0;go_loopw [51] (fun z w2=>∃k:Nat,k≤K∧z=vI k∧Calm wx w2) (fun z _=>K-(intOf z).toNat)
          case atStart=>exact⟨0,by omega,rfl,Fr.refl _ _⟩
          case round=>
            obtain⟨wy,rfl⟩:∃wy,wy=wr:=⟨_,rfl⟩;obtain⟨k,hk,rfl,hc2⟩:=hrel
            by_cases hlt3:k<K
            · obtain⟨g3,o3,rfl,hdr,hcd⟩:=hget3.out k hlt3;obtain⟨d,hd⟩:∃d,L0.getD k dD=d:=⟨_,rfl⟩;have hcd:=hcd wy hc2;rw[hd] at hcd hdr;have e0:=hcd 0 _ rfl;have e1:=hcd 1 _ rfl;have e2:=hcd 2 _ rfl;have e3:=hcd 3 _ rfl;have e4:=hcd 4 _ rfl;rw[Nat.add_zero] at e0;have ka:Calm wy (wy.alloc (.cells #[vI d.k,vI d.a,vI d.b,vI d.i,vI d.n] 43)):=(Fr.refl _ _).alloc _;have of:=right_is (wy.alloc (.cells #[vI d.k,vI d.a,vI d.b,vI d.i,vI d.n] 43)) d hdr;simp only[ddV] at of;have hc2a:=hid (hc2.trans ka);replace hc2:=hid hc2;clear hcd hd hdr ka;go_wp2_with fail
              refine of.mono ?_;rintro e w6 ⟨rfl,c6⟩;clear of e0 e1 e2 e3 e4;have hc3:=hid (hc2a.out.trans c6);clear c6;go_wp2_with fail
              exact⟨⟨k+1,by omega,by simp,hc3.out⟩,by simp[intOf] <;> omega⟩
            · have hge3:decide ((k:Int)<K)=false:=decide_eq_false (by omega);have hc3:=hid (hc1.out.trans hc2);clear hc2;go_wp2_with fail
              exact⟨⟨b+1,by omega,by simp,hc3.out⟩,by simp[intOf] <;> omega⟩
        · have hge2:decide ((b:Int)<M)=false:=decide_eq_false (by omega);have hc3:=hid (hc0.out.trans hc1);clear hc1;go_wp2_with fail
          exact⟨⟨i+1,by omega,by simp,hc3.out⟩,by simp[intOf] <;> omega⟩
    · have hge:decide ((i:Int)<N)=false:=decide_eq_false (by omega);have p4:=o0.out.calm hc0;have T1:=p4.whole (us:=[vI 0,vI 0,vI 0]) rfl;have F1:=frC w3 (w.heap.size) 0 [vI 0,vI 0,vI 0];have hP:ChkP w (.returned (.tuple #[vI 0,.agg #[vI 0,vI 0,vI 0]])) (w3.setCells w.heap.size 0 [vI 0,vI 0,vI 0]):=⟨rfl,(k0.out.trans hc0).join F1 (fun j hj e=>by omega)⟩;replace hP:=hid hP;replace T1:=hid T1;obtain⟨y0,z0,y1,z1,y2,z2⟩:=OwnL.cf3 p4;clear F1 p4 hc0;go_wp2;exact bodyPost_ret (res_chk rfl rfl rfl T1.out) rfl hP.out
end
section
open Go.RowKit Go.Shelf
def d6:ThD:=⟨0,0,[0,0,0,0,0,0],[0,0,0,0,0,0],false⟩
theorem info_th:(Tryz.prog.info? 34).map (fun i=>(i.zero,i.size,i.bytes))=some (some (.agg #[vI 0,vI 0,vI 0,vI 0,vI 0,vI 0,vI 0,vI 0,vI 0,vI 0,vI 0,vI 0,vI 0,vI 0,.bool false]),15,120):=by kernel_rfl
theorem made_th:∀n,n≤4→(madeCells (Value.agg #[vI 0,vI 0,vI 0,vI 0,vI 0,vI 0,vI 0,vI 0,vI 0,vI 0,vI 0,vI 0,vI 0,vI 0,.bool false]).cells (n*15)).toList=(List.replicate n d6).flatMap thC
  | 0,_=>by kernel_rfl
  | 1,_=>by kernel_rfl
  | 2,_=>by kernel_rfl
  | 3,_=>by kernel_rfl
  | 4,_=>by kernel_rfl
  | n+5,h=>by omega
theorem DdsIn.cells {T:Nat→Prop}{w:World}{v:Value}{l:List Dd}(h:DdsIn T w v l)(h0:0<l.length):∃g o c,v = .slice (some ⟨g,o,none⟩) l.length c∧∀j u,(l.flatMap ddC)[j]?=some u→w.cell? ⟨g,o+j,none⟩=some u:=by
  obtain⟨a,c,rfl,h⟩:=h;obtain⟨g,o,rfl,t,h1⟩:=h 0 h0;refine⟨g,o,c,rfl,fun j u hj=>?_⟩
  have hl:j<l.length*5:=by
    have:=(List.getElem?_eq_some_iff.1 hj).1
    rwa [flat_len ddC 5 ddC_len] at this
  have e:j / 5*5+j % 5=j:=by omega
  have hi:j / 5<l.length:=by omega
  obtain⟨g2,o2,e2,t2,h2⟩:=h (j / 5) hi;injection e2 with e2
  injection e2 with e3 e4 e5
  subst e3 e4;have h3:=flatG ddC 5 ddC_len dD l (j / 5) hi (j % 5) (by omega);rw[e,hj] at h3;have:=h2 (j % 5) u h3.symm
  rwa [Nat.add_assoc,e] at this
theorem dds_one (l:List Dd):∀u∈l.flatMap ddC,u.oneCell'=true:=by
  intro u hu;obtain⟨d,_,hd⟩:=List.mem_flatMap.1 hu;simp[ddC] at hd;rcases hd with rfl|rfl|rfl|rfl|rfl <;> rfl
theorem mono0 {w:World}{base:Nat}{e:TypeId}{k n:Nat}{v:Value}{xs:List Value}(h:w.ownsRow base e k v n xs):w.ownsRow 0 e k v n xs:=by
  refine⟨h.1,?_⟩;rcases h.2 with h|⟨g,cap,cur,h1,h2,h3⟩
  · exact .inl h
  · exact .inr ⟨g,cap,cur,h1,Nat.zero_le _,h3⟩
def MnP (w:World)(Q:List (List (List Dd)))(e:Ending)(w':World):Prop:=
  ∃mp τ S tv hv ev X,e = .returned (.tuple #[pV mp,vI 0])∧Mc w' τ 0 0 mp S Q tv hv ev X∧(∀b,b<w.heap.size→τ b=1000)∧Calm w w'
def MnI (W6:World)(mp sp:Nat)(hv:Value)(Q:List (List (List Dd)))(i:Nat)(wr:World):Prop:=
  ∃tv,GRow BlkIn [] 41 (fun b=>W6.heap.size≤b) wr tv (Q.take i)∧OwnL wr mp [pV sp,tv,hv,.int .i32 0,.int .u32 0,nS]∧Fr (fun k=>k=mp) W6 wr
def MnJ (w3:World)(P:List (List Dd))(x:Value)(b:Nat)(wr:World):Prop:=GRow DdsIn [] 40 (fun b=>w3.heap.size≤b) wr x (P.take b)∧Calm w3 wr
theorem take_more {α:Type}{l:List α}{i:Nat}(h:i<l.length)(d:α):l.take (i+1)=l.take i++[l.getD i d]:=by
  rw[List.take_succ_eq_append_getElem h];simp[List.getD_eq_getElem?_getD,h]
theorem Mc.new {w w3 W6 wr:World}{τ:Nat→Nat}{S:StD}{mp:Nat}{hv:Value}{Q:List (List (List Dd))}(hst:St w3 τ 0 0 S)(ht:∀b,b<w.heap.size→τ b=1000)(c0:Calm w w3)(c3:Calm w3 W6)(hp:POk Q)
    (hh:W6.ownsRow 0 34 15 hv Q.length ((List.replicate Q.length d6).flatMap thC)) (h1:∀b,InB hv b→w3.heap.size≤b∧b≠mp) (hm:w3.heap.size≤mp) (hm6:mp<W6.heap.size) (hI:MnI W6 mp S.sp hv Q Q.length wr) :
    ∃tv ev X τ',Mc wr τ' 0 0 mp S Q tv hv ev X∧(∀b,b<w.heap.size→τ' b=1000)∧Calm w wr:=by
  classical
  obtain⟨tv,hG,hc,hf⟩:=hI;have hQ:Q.take Q.length=Q:=List.take_length;rw[hQ] at hG;have f3:Fr (fun k=>k=mp) w3 wr:=(Calm.any c3:Fr (fun k=>k=mp) _ _).trans hf;have cw:Calm w wr:=c0.join f3 (fun j hj e=>by have e:j=mp:=e;have:=c0.size;omega);refine⟨tv,nS,List.replicate Q.length d6,fun b=>if b<w3.heap.size then τ b else if b=mp then 600 else if InB hv b then 601 else 603,⟨?_,hc,?_,⟨0,[],owns_nil0 _ _ _,by omega⟩,?_,?_,?_,fun b hb=>absurd hb (InB.nil b),by simp,?_,hp⟩,fun b hb=>?_,cw⟩
  · obtain⟨M,k1,k2,k3⟩:=hst;refine⟨M,⟨fun t=>(M t).fr (k1.at_ t) f3 (fun k hk e=>?_),fun t k hk=>?_⟩,k2,k3⟩
    · have:=k1.lt t hk;omega
    · simp only[if_pos (k1.lt t hk)];exact k1.tag t k hk
  · rw[List.length_replicate];exact owns_frB hh hf (fun b hb e=>(h1 b hb).2 e)
  · have h9:PrgIn (fun b=>W6.heap.size≤b) wr tv Q:=hG.rin ilB
    exact h9.mono (fun b _ hb=>by
        have hb:W6.heap.size≤b:=hb;have s3:=c3.size;have n1:¬b<w3.heap.size:=by omega
        have n2:¬b=mp:=by omega
        have n3:¬InB hv b:=fun e=>by have:=(World.ownsRow.lt hh b e).2;omega
        show(if b<w3.heap.size then τ b else if b=mp then 600 else if InB hv b then 601 else 603)=603
        rw[if_neg n1,if_neg n2,if_neg n3])
  · show(if mp<w3.heap.size then τ mp else if mp=mp then 600 else _)=600;rw[if_neg (by omega),if_pos rfl]
  · intro b hb;obtain⟨g1,g2⟩:=h1 b hb;show(if b<w3.heap.size then τ b else if b=mp then 600 else if InB hv b then 601 else 603)=601;rw[if_neg (by omega),if_neg g2,if_pos hb]
  · intro t ht';rw[List.length_replicate] at ht';have e:(List.replicate Q.length d6).getD t d0=d6:=by simp[List.getD_eq_getElem?_getD,ht']
    rw[e];exact⟨⟨by decide,by show(0:Int)≤_;omega⟩,⟨by decide,by decide⟩,fun e=>(by cases e),rfl,rfl,fun a ha=>(by simp[d6] at ha;omega),fun a ha=>(by simp[d6] at ha;omega)⟩
  · show(if b<w3.heap.size then τ b else _)=1000;rw[if_pos (by have:=c0.size;omega)];exact ht b hb
set_option maxRecDepth 8000 in
theorem mnew_is {T0:Nat→Prop}{w:World}{v:Value}{Q:List (List (List Dd))}(hr:PrgIn T0 w v Q)(hp:POk Q)(n:Nat)(h1:16≤n)(h2:n≤16384)(r u most:Int):Calls Tryz.prog 5 #[vI (n:Int),vI r,vI u,vI most,v] w (MnP w Q):=by
  obtain⟨i0,hi,hz0,hz1,hz2⟩:=info_parts info_th;have hck:=check_is hr hp;obtain⟨va,vc,rfl,hg0⟩:=hr;obtain⟨N,hN⟩:∃N,Q.length=N:=⟨_,rfl⟩;have hN1:1≤N∧N≤4:=by rw[←hN];exact hp.n
  have hget:Hid (∀i,i<N→∃g o u,va=some ⟨g,o,none⟩∧(∀W,Calm w W→W.cell? ⟨g,o+i,none⟩=some u)∧BlkIn T0 w u (Q.getD i [])):=fun i hi=>by
    obtain⟨g,o,u,h1,h2,h3,h4⟩:=hg0 i (by omega);exact⟨g,o,u,h1,fun W c=>c.cellAt h3 id,h4⟩
  have hok:Hid (∀i,i<N→(Q.getD i []).length≤3∧∀b,b<(Q.getD i []).length→1≤((Q.getD i []).getD b []).length∧((Q.getD i []).getD b []).length≤6):=fun i hi=>⟨hp.b i (by omega),fun b hb=>hp.d i (by omega) b hb⟩;have htk:Hid (∀i,i<N→Q.take (i+1)=Q.take i++[Q.getD i []]):=fun i hi=>take_more (by omega) [];have hln:Hid (∀i,i≤N→(Q.take i).length=i):=fun i hi=>by rw[List.length_take];omega
  have htx:=fun W=>hid (txnew_is W n N h1 h2 (by omega) (by omega) r u most);rw[hN] at hck ⊢;replace hck:=hid hck;replace hp:=hid hp;replace hN:=hid hN;replace hi:=hid hi;clear hg0 h1 h2;go_enter Tryz.func5,Tryz.ntmps5;go_wp2_with fail
  refine hck.out.mono ?_;rintro e w1 ⟨rfl,c1⟩;clear hck;have k2:Calm w (w1.alloc (.cells #[vI 0,vI 0,vI 0] 51)):=c1.alloc _;go_upto_region 4 with fail
  generalize hW2:w1.alloc (.cells #[vI 0,vI 0,vI 0] 51)=W2 at *;clear hW2;have ox:=(htx W2).out;clear htx c1;go_wp2_with fail
  refine ox.mono ?_;rintro e w3 ⟨τ,S,rfl,hst,ht,c3⟩;clear ox;have c03:=k2.trans c3;have ht0:Hid (∀b,b<w.heap.size→τ b=1000):=fun b hb=>ht b (by have:=k2.size;omega);obtain⟨sp,hsp⟩:∃sp,S.sp=sp:=⟨_,rfl⟩;rw[hsp];replace hsp:=hid hsp;replace hst:=hid hst;clear ht k2 c3
  go_upto_block 0 with (
    at_make
    go_must (refine wpList_make_full _ rfl _ _ 57 rfl w3.heap.size 34 i0 (.agg #[vI 0,vI 0,vI 0,vI 0,vI 0,vI 0,vI 0,vI 0,vI 0,vI 0,vI 0,vI 0,vI 0,vI 0,.bool false]) 15 Tryz.underlying57 hi.out hz0 hz1 .i64 .i64 N N N rfl rfl rfl rfl (by rw[hz2];omega) (by unfold maxLen;omega) (Nat.le_refl _) ?_)
    intro w4 hown hgrow;rw[made_th N hN1.2] at hown;have c4:Calm w3 w4:=Fr.grown (Fr.refl _ _) hgrow (fun k hk=>by cases hk);replace hown:=hid hown;have hl4:w3.heap.size<w4.heap.size:=(World.ownsRow.lt hown.out w3.heap.size (InB.mk.2 rfl)).2
    clear hgrow)
  obtain⟨kb,ob⟩:=newL w4 [pV sp,.slice none 0 0,.slice (some ⟨w3.heap.size,0,none⟩) N N,.int .i32 0,.int .u32 0,.slice none 0 0] 69;have hsb:(w4.alloc (.cells #[pV sp,.slice none 0 0,.slice (some ⟨w3.heap.size,0,none⟩) N N,.int .i32 0,.int .u32 0,.slice none 0 0] 69)).heap.size=w4.heap.size+1:=by simp
  generalize hW6:w4.alloc (.cells #[pV sp,.slice none 0 0,.slice (some ⟨w3.heap.size,0,none⟩) N N,.int .i32 0,.int .u32 0,.slice none 0 0] 69)=W6 at *;clear hW6;obtain⟨mp,hmp⟩:∃mp,w4.heap.size=mp:=⟨_,rfl⟩;rw[hmp] at ob hsb hl4 ⊢;have hI0:Hid (MnI W6 mp sp (.slice (some ⟨w3.heap.size,0,none⟩) N N) Q 0 W6):=⟨nS,GRow.nil _,ob,Fr.refl _ _⟩;have c06:=c03.trans (c4.trans kb);have hmpw:w.heap.size≤mp:=by have:=c03.size;omega
  have hend:Hid (∀wr,MnI W6 mp sp (.slice (some ⟨w3.heap.size,0,none⟩) N N) Q N wr→MnP w Q (.returned (.tuple #[pV mp,vI 0])) wr):=fun wr hI=>by
    have hN':=hN.out;have hsp':=hsp.out;subst hN' hsp';obtain⟨tv,ev,X,τ',g1,g2,g3⟩:=Mc.new hst.out ht0.out c03 (c4.trans kb) hp.out (owns_frB (mono0 hown.out) kb (fun _ _=>id)) (fun b hb=>by obtain rfl:=InB.mk1 hb;exact⟨Nat.le_refl _,by omega⟩) (by omega) (by omega) hI;exact⟨mp,τ',S,tv,_,ev,X,rfl,g1,g2,g3⟩
  replace c06:=hid c06;clear ob kb c4 hown hst ht0 hsp hp hN c03 hz0 hz1 hz2;go_wp2_with fail
  go_loopw [49] (fun z w2=>∃i:Nat,i≤N∧z=vI i∧MnI W6 mp sp (.slice (some ⟨w3.heap.size,0,none⟩) N N) Q i w2) (fun z _=>N-(intOf z).toNat)
  case atStart=>exact⟨0,by omega,rfl,hI0.out⟩
  case round=>
    clear hI0;obtain⟨wo,rfl⟩:∃wo,wo=wr:=⟨_,rfl⟩;obtain⟨i,hi',rfl,hI⟩:=hrel
    by_cases hlt:i<N
    · obtain⟨g,o,u,rfl,hcu,ba,bc,rfl,hb⟩:=hget.out i hlt;obtain⟨tv,hG0,hc0,hf0⟩:=hI;obtain⟨hok1,hok2⟩:=hok.out i hlt;have htk':=hid (htk.out i hlt);have hln':=hid (hln.out i hi');have cwo:Calm w wo:=c06.out.join hf0 (fun j hj e=>by omega);obtain⟨R0,hR0⟩:∃R0,Q.getD i []=R0:=⟨_,rfl⟩;rw[hR0] at hb hok1 hok2 hcu htk';obtain⟨M,hM⟩:∃M,R0.length=M:=⟨_,rfl⟩;rw[hM] at hcu hok1;have y0:=hcu wo cwo
      have hget2:Hid (∀b,b<M→∃g2 o2 u2,ba=some ⟨g2,o2,none⟩∧(∀W,Calm wo W→W.cell? ⟨g2,o2+b,none⟩=some u2)∧DdsIn T0 wo u2 (R0.getD b [])):=fun b hb'=>by
        obtain⟨g,o,u,h1,h2,h3,h4⟩:=hb b (by omega);exact⟨g,o,u,h1,fun W c=>(cwo.trans c).cellAt h3 id,h4.calm cwo⟩
      have hoki:Hid (∀b,b<M→1≤(R0.getD b []).length∧(R0.getD b []).length≤6):=fun b hb'=>hok2 b (by omega);have htk2:Hid (∀b,b<M→R0.take (b+1)=R0.take b++[R0.getD b []]):=fun b hb'=>take_more (by omega) [];have hln2:Hid (∀b,b≤M→(R0.take b).length=b):=fun b hb'=>by rw[List.length_take];omega
      have hfull:Hid (R0.take M=R0):=by unfold Hid;rw[←hM,List.take_length]
      replace cwo:=hid cwo;replace hG0:=hid hG0;replace hc0:=hid hc0;replace hf0:=hid hf0;clear hcu hR0 hM hb hok2;go_wp2_with fail
      clear y0;go_loopw [19,55] (fun x z w2=>∃b:Nat,b≤M∧z=vI b∧MnJ wo R0 x b w2) (fun _ z _=>M-(intOf z).toNat)
      case atStart=>exact⟨0,by omega,rfl,GRow.nil _,Fr.refl _ _⟩
      case round=>
        obtain⟨wx,rfl⟩:∃wx,wx=wr:=⟨_,rfl⟩;obtain⟨x5,rfl⟩:∃x5,x5=u19:=⟨_,rfl⟩;obtain⟨b,hb,rfl,hG1,hc1⟩:=hrel
        by_cases hlt2:b<M
        · obtain⟨g2,o2,u2,rfl,hcu2,hd⟩:=hget2.out b hlt2;obtain⟨L0,hL0⟩:∃L0,R0.getD b []=L0:=⟨_,rfl⟩;obtain⟨hk1,hk6⟩:=hoki.out b hlt2;have htkb:=hid (htk2.out b hlt2);have hlnb:=hid (hln2.out b hb);rw[hL0] at hd hk1 hk6 htkb;obtain⟨g3,o3,dc,rfl,hcd⟩:=(hd.calm hc1).cells hk1;obtain⟨K,hK⟩:∃K,L0.length=K:=⟨_,rfl⟩;rw[hK] at hcu2 hk1 hk6;have z0:=hcu2 wx hc1;have hys:Hid ((L0.flatMap ddC).length=K*5):=by unfold Hid;rw[←hK];exact flat_len ddC 5 ddC_len L0
          have hcd':Hid (∀j u,(L0.flatMap ddC)[j]?=some u→wx.cell? ((⟨g3,o3,none⟩:Addr).add j)=some u):=fun j u hj=>by rw[addr_add];exact hcd j u hj
          have hsw:Hid (wo.heap.size≤wx.heap.size):=hc1.size;have hnx:Hid (∀b,InB x5 b→b<wx.heap.size):=fun b hb=>hG1.lt hb;replace hG1:=hid hG1;replace hc1:=hid hc1;replace hK:=hid hK;have hL0':=hid hL0;clear hcu2 hL0 hd hcd;have tok1:True:=trivial
          go_wp2_with (first
            | (at_builtin
               have _t:=tok1
               go_must (refine wpList_appGL giD rfl _ _ rfl nS 0 [] (owns_nil0 _ _ _) rfl ⟨g3,o3,none⟩ K dc (L0.flatMap ddC) rfl hys.out (dds_one L0) hcd'.out (by omega) ?_)
               intro v6 w6 hr6 f6 hn6;rw[Nat.zero_add,List.nil_append] at hr6;have c6:Calm wx w6:=f6.mono (fun k _ e=>absurd e (InB.nil k));obtain⟨xa,xc,rfl⟩:=owns_slice hr6
               have hD6:Hid (DRow (fun b=>wx.heap.size≤b) w6 (.slice xa K xc) L0):=⟨by rw[hK.out];exact hr6,fun b hb=>by
                 rcases hn6 b hb with e|e
                 · exact absurd e (InB.nil b)
                 · exact e⟩
               have ka:Calm w6 (w6.alloc (.cells #[.slice xa K xc] 40)):=(Fr.refl _ _).alloc _;have hG2:=hid (hG1.out.calm ilD (c6.trans ka));have hc2:=hid (hc1.out.trans (c6.trans ka))
               have hy:Hid (DdsIn (fun b=>wo.heap.size≤b∧¬InB x5 b) (w6.alloc (.cells #[.slice xa K xc] 40)) (.slice xa K xc) L0):=by
                 have h0:=(hD6.out.calm ka).rin;exact h0.mono (fun b _ hb=>⟨Nat.le_trans hsw.out hb,fun e=>by have:=hnx.out b e;have hb':wx.heap.size≤b:=hb;omega⟩)
               have hcl:Hid ((w6.alloc (.cells #[.slice xa K xc] 40)).cell? ⟨w6.heap.size,0,none⟩=some (.slice xa K xc)):=by
                 unfold Hid;rw[World.cell?_alloc_new];rfl
               have hsz:Hid (wo.heap.size≤(w6.alloc (.cells #[.slice xa K xc] 40)).heap.size):=hc2.out.size;clear hr6 f6 hn6 c6 ka tok1;have tok2:True:=trivial
               go_frame)
            | (at_builtin
               have _t:=tok2
               go_must (refine wpList_appR giB ilD rfl _ _ rfl x5 (R0.take b) hG2.out rfl (.slice xa K xc) L0 w6.heap.size 1 rfl hcl.out rfl hy.out (fun b hb=>Nat.le_trans hsz.out hb) (by rw[hlnb.out];omega) ?_)
               intro g8 c8 w8 hr8 f8;have hQ:Hid (MnJ wo R0 (.slice (some ⟨g8,0,none⟩) ((R0.take b).length+1) c8) (b+1) w8):=⟨by rw[htkb.out];exact hr8,hc2.out.join f8 (fun j hj e=>by have:wo.heap.size≤j:=hG2.out.own e;omega)⟩;clear hr8 f8 tok2
               go_frame))
          exact⟨⟨b+1,by omega,by simp,hQ.out⟩,by simp[intOf] <;> omega⟩
        · have hge2:decide ((b:Int)<M)=false:=decide_eq_false (by omega);obtain rfl:b=M:=by omega
          obtain⟨pa,pc,hx5⟩:=hG1.slice;have hlb:=hln2.out b (Nat.le_refl _);rw[hlb] at hx5;subst hx5;have hfu:=hfull.out;rw[hfu] at hG1;have ka:Calm wx (wx.alloc (.cells #[.slice pa b pc] 41)):=(Fr.refl _ _).alloc _;have fz:=hf0.out;have hG2:=hid (hG0.out.calm ilB (hc1.trans ka));have hcx:=hid (hc0.out.calm hc1);have hcA:=hid ((hf0.out.trans (Calm.any (hc1.trans ka))));have hnx:Hid (∀b,InB tv b→b<wo.heap.size):=fun b hb=>hG0.out.lt hb
          have hy:Hid (BlkIn (fun b=>W6.heap.size≤b∧¬InB tv b) (wx.alloc (.cells #[.slice pa b pc] 41)) (.slice pa b pc) R0):=by
            have h0:BlkIn _ _ _ _:=(hG1.calm ilD ka).rin ilD;exact h0.mono (fun b _ hb=>⟨Nat.le_trans fz.size hb,fun e=>by have:=hnx.out b e;have hb':wo.heap.size≤b:=hb;omega⟩)
          have hcl:Hid ((wx.alloc (.cells #[.slice pa b pc] 41)).cell? ⟨wx.heap.size,0,none⟩=some (.slice pa b pc)):=by
            unfold Hid;rw[World.cell?_alloc_new];rfl
          have hsz:Hid (W6.heap.size≤(wx.alloc (.cells #[.slice pa b pc] 41)).heap.size):=hcA.out.size;have ym:=(hcx.out 1 _ rfl).1;have hcB:=hid (hcx.out.calm ka);have hntv:Hid (¬InB tv mp):=fun e=>by have:W6.heap.size≤mp:=hG0.out.own e;omega
          clear fz hG1 hc1 ka hfu hlb hcx
          go_wp2_with (
            at_builtin
            go_must (refine wpList_appR giQ ilB rfl _ _ rfl tv (Q.take i) hG2.out rfl (.slice pa b pc) R0 wx.heap.size 1 rfl hcl.out rfl hy.out (fun b hb=>Nat.le_trans hsz.out hb) (by rw[hln'.out];omega) ?_)
            intro g8 c8 w8 hr8 f8;rw[hln'.out] at hr8 ⊢;have hc8:=hcB.out.fr f8 hntv.out;have y8:=(hc8 1 _ rfl).1;have y8':=(hc8 1 _ rfl).2;have hc9:=hc8.set 1 (.slice (some ⟨g8,0,none⟩) (i+1) c8) (by simp);have F9:=frS w8 (mp) 1 (.slice (some ⟨g8,0,none⟩) (i+1) c8)
            have hQ:Hid (MnI W6 mp sp (.slice (some ⟨w3.heap.size,0,none⟩) N N) Q (i+1) (w8.setCell ⟨mp,1,none⟩ (.slice (some ⟨g8,0,none⟩) (i+1) c8))):=
              ⟨_,by rw[htk'.out];exact hr8.fr ilB F9 (fun b hb e=>by have hb:W6.heap.size≤b:=hb;omega),hc9,(hcA.out.join f8 (fun j hj e=>by have:W6.heap.size≤j:=hG2.out.own e;omega)).trans F9⟩
            clear hr8 f8 hc8 hc9 F9
            go_frame)
          exact⟨⟨i+1,by omega,by simp,hQ.out⟩,by simp[intOf] <;> omega⟩
    · have hge:decide ((i:Int)<N)=false:=decide_eq_false (by omega);obtain rfl:i=N:=by omega
      have hfin:=hid (hend.out _ hI);clear hI hend;go_wp2;exact bodyPost_ret (v:=.tuple #[pV mp,vI 0]) (by simp[results,Tryz.f5,go_sem]) rfl hfin.out
end
section
open Go.RowKit Go.Shelf
theorem sr0_still {A A':HS}(h:Still (fun _=>True) A A')(a:Nat):sr0 A' a=sr0 A a:=by
  have h1:=h.sr a;unfold sr0
  by_cases e:a=0
  · rw[if_pos e,if_pos e]
  · rw[if_neg e,if_neg e];exact h1
theorem sr0_pos {A:HS}(hw:HW A){a:Nat}(h:a∈plc A.cur):sr0 A a≠0:=by
  obtain⟨i,o,c⟩:=CurAt.of_mem h;have h1:=hw.wf.posC _ c.mem';have h2:=hw.wf.serC _ c.mem';have h1:1≤a:=h1;have h2:1≤o.ser:=h2.1;unfold sr0;rw[if_neg (by omega),sr_of hw c];omega
theorem St.room_pos {w:World}{τ:Nat→Nat}{s q:Nat}{S:StD}(h:St w τ s q S):0≤S.D.A.room:=by
  obtain⟨X,hX⟩:=h.hat;have:=hX.rep.room;unfold HS.room;omega
structure TopF (S S':StD)(x x':ThD)(ee n:Int):Prop where
  big:0≤n∧n≤100
  full:ee=100→1≤n∧S.D.A.room<rnd n∧x'.b=x.b+1∧x'.live=false∧x'.R.map (sr0 S'.D.A)=x.V.map (sr0 S.D.A)
  ok:ee=0→0<n→rnd n≤S.D.A.room∧S'.D.A.room=S.D.A.room-rnd n
theorem DtX.full {x x':ThD}(h:DtX x x' 100):x'.b=x.b+1∧x'.live=false∧x'.R=x.V:=by
  obtain⟨xl,r1,r2,eb,ep,ev,el,h|⟨h,_⟩⟩:=h
  · subst h;simp[ThD.endX,ThD.back,eb,ev]
  · omega
theorem AlR.top {S S':StD}{x x':ThD}{ee n:Int}{P:Prop}(h:AlR S n P ee S')(g:DtX x x' ee)(h1:1≤n)(h2:n≤100):TopF S S' x x' ee n:=by
  refine⟨⟨by omega,h2⟩,fun e=>?_,fun e _=>?_⟩
  · subst e;rcases h with ⟨h,_⟩|⟨_,_,h3,h4⟩|⟨_,h⟩
    · omega
    · obtain⟨g1,g2,g3⟩:=g.full;refine⟨h1,h3,g1,g2,?_⟩;rw[g3];exact List.map_congr_left fun a _=>sr0_still h4 a
    · exact absurd rfl h
  · subst e;rcases h with ⟨_,h3,h4⟩|⟨h,_⟩|⟨h,_⟩
    · exact⟨h4,h3⟩
    · omega
    · exact absurd rfl h
theorem DtR.top1 {S S':StD}{x x':ThD}{ee:Int}{d:Dd}(h:DtR S d x ee S')(g:DtX x x' ee)(hr:d.Rt)(hk:d.k=1∨d.k=2):(0≤d.i∧d.i≤4∧0≤d.n∧d.n≤4)∧TopF S S' x x' ee (3+d.i+d.n):=by
  have hb:0≤d.i∧d.i≤4∧0≤d.n∧d.n≤4:=by
    simp only[Dd.Rt,R6,R5,R8,RM] at hr;omega
  refine⟨hb,?_⟩;rcases h with ⟨_,h⟩|⟨h,_⟩|⟨h1,h2,_⟩
  · exact h.top g (by omega) (by omega)
  · omega
  · omega
theorem DtR.top3 {S S':StD}{x x':ThD}{ee:Int}{d:Dd}(hw:HW S.D.A)(h:DtR S d x ee S')(g:DtX x x' ee)(hk:d.k=3):TopF S S' x x' ee (if sr0 S.D.A (x.R.getD d.b.toNat 0)=0 then 0 else 4):=by
  rcases h with ⟨h,_⟩|⟨_,h⟩|⟨_,_,h,_⟩
  · omega
  · by_cases e:sr0 S.D.A (x.R.getD d.b.toNat 0)=0
    · rw[if_pos e];refine⟨by decide,fun e1=>?_,fun _ e1=>by omega⟩;rcases h with ⟨h,_⟩|⟨_,h,_⟩|⟨_,h⟩
      · omega
      · exact absurd e (sr0_pos hw h)
      · exact absurd e1 h
    · rw[if_neg e];exact h.top g (by decide) (by decide)
  · exact absurd hk h
theorem DtR.top0 {S S':StD}{x x':ThD}{ee:Int}{d:Dd}(h:DtR S d x ee S')(h1:d.k≠1)(h2:d.k≠2)(h3:d.k≠3):TopF S S' x x' ee 0:=by
  rcases h with ⟨h,_⟩|⟨h,_⟩|⟨_,_,_,h⟩
  · omega
  · omega
  · exact⟨by decide,fun e=>absurd e h,fun _ e=>by omega⟩
theorem Dd.Rt.k {d:Dd}(h:d.Rt):1≤d.k∧d.k≤14∧0≤d.b∧d.b≤5:=by
  simp only[Dd.Rt,R6,R5,R8,RM] at h;omega
end
end Go.Proofs.YtdffnjikmkgjkaaGreat
