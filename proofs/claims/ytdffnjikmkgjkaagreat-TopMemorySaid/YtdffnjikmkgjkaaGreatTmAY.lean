/- TopMemory: a part of its proof (StI StJ StK Thr Thu Mc2). -/
import Derived.Lib.SlBuf
import Derived.Laws.IdiomCopy
import Derived.Test.YtdffnjikmkgjkaaGreatTmAA
import Derived.Test.YtdffnjikmkgjkaaGreatTmAX
import Derived.Test.YtdffnjikmkgjkaaGreatTmAT
import Derived.Test.YtdffnjikmkgjkaaGreatTmAV
import Derived.Test.YtdffnjikmkgjkaaGreatTmAW
set_option linter.unusedSimpArgs false
set_option linter.unusedVariables false
set_option maxHeartbeats 8000000
namespace Go.Proofs.YtdffnjikmkgjkaaGreat
section
open Go.RowKit Go.Shelf
def TxD.plcs (x:TxD):List Nat:=x.L.roots++x.took.map (·.at_)
def StD.plcs (S:StD)(rs:List Nat)(k:Nat):List Nat:=rs++S.qu.map (·.at_)++(S.txs.take k).flatMap TxD.plcs
theorem StD.plcs_succ (S:StD)(rs:List Nat){k:Nat}(hk:k<S.txs.length):S.plcs rs (k+1)=S.plcs rs k++((S.tx k).L.roots++(S.tx k).took.map (·.at_)):=by
  unfold StD.plcs;rw[List.take_succ_eq_append_getElem hk,List.flatMap_append,←List.append_assoc];have e:S.txs[k]=S.tx k:=by simp[StD.tx,List.getD_eq_getElem?_getD,hk]
  simp[e,TxD.plcs]
theorem nI_app (a b:List Nat):nI (a++b)=nI a++nI b:=by simp[nI]
theorem roots_few {L:LogD}(h:L.reads.length≤200∧L.keeps.length≤200∧L.holds.length≤200∧L.undos.length≤200):L.roots.length≤1000:=by
  have h2:∀j,(uv L.undos j).length≤2*j:=by
    intro j
    induction j with
    | zero=>simp[uv]
    | succ j ih=>rw[uv,List.length_append];simp only[List.length_cons];split <;> simp <;> omega
  have:=h2 L.undos.length;unfold LogD.roots;simp only[List.length_append,List.length_map];omega
theorem nI_len (l:List Nat):(nI l).length=l.length:=by simp[nI]
theorem sum_take_le (l:List Nat)(k:Nat):(l.take k).sum≤l.sum:=by
  have:=congrArg List.sum (List.take_append_drop k l);rw[List.sum_append] at this;omega
theorem mem_sum:∀ {l:List Nat} {n:Nat},n∈l→n≤l.sum
  | x::l,n,h=>by
    rw[List.sum_cons];rcases List.mem_cons.1 h with rfl|h
    · omega
    · have:=mem_sum h;omega
def PlsP (w:World)(l:List Nat)(e:Ending)(w':World):Prop:=∃u,e = .returned u∧ORow w' w.heap.size u (nI l)∧Calm w w'
variable {w:World}{τ:Nat→Nat}{s q:Nat}{S:StD}
set_option maxRecDepth 8000 in
theorem places_is (h:St w τ s q S)(hq:q≤100000){base:Nat}{v:Value}{rs:List Nat}(hr:ORow w base v (nI rs))(hrl:rs.length≤1000):Calls Tryz.prog 40 #[pV S.sp,v] w (PlsP w (S.plcs rs S.txs.length)):=by
  have oc:=cloneI (hr.mono (Nat.zero_le _)) (int_one _) (by simp[nI];omega);have hok:=hid h.ok;have htot:S.qu.length+(S.txs.map fun x=>x.took.length).sum≤q:=h.ok.tt;have hqN:S.qu.length≤100000:=by omega
  obtain⟨N,hN⟩:∃N,S.qu.length=N:=⟨_,rfl⟩;obtain⟨qa,qc,hqv⟩:=owns_slice h.que;rw[hN] at hqv hqN
  have hqg:Hid (∀i,i<N→∃g,qa=some ⟨g,0,none⟩∧∀W,Calm w W→W.cell? ⟨g,i*2,none⟩=some (vI (S.qu.getD i dI).at_)∧W.cell? ⟨g,i*2+1,none⟩=some (vI (S.qu.getD i dI).seq)):=fun i hi=>by
    obtain⟨g,c,hvv,hg⟩:=rows_get itC_len (by decide) h.que dI (show i<S.qu.length by omega);rw[hqv] at hvv;injection hvv with e1 e2 e3
    exact⟨g,e1,fun W c=>⟨c.cellAt (hg 0 _ rfl).1 id,c.cellAt (hg 1 _ rfl).1 id⟩⟩
  have y4:∀W,Calm w W→W.cell? ⟨S.sp,4,none⟩=some (.slice qa N qc):=fun W c=>by rw[←hqv];exact c.cellAt (h.cells 4 _ rfl).1 id
  replace y4:=hid y4;obtain⟨Nt,hNt⟩:∃Nt,S.txs.length=Nt:=⟨_,rfl⟩;have hNt8:Nt≤8:=by rw[←hNt];exact h.ok.n
  obtain⟨ta,tc,htv⟩:=owns_slice h.thr;rw[hNt] at htv
  have htg:Hid (∀i,i<Nt→∃g,ta=some ⟨g,0,none⟩∧∀W,Calm w W→W.cell? ⟨g,i,none⟩=some (pV (S.tx i).xp)∧W.cell? ⟨(S.tx i).xp,4,none⟩=some (pV (S.tx i).lp)∧W.cell? ⟨(S.tx i).xp,5,none⟩=some (S.tx i).tv):=fun i hi=>by
    have hi2:i<S.txs.length:=by omega
    obtain⟨g,c,hv,ho⟩:=owns_get h.thr (by decide) hi2;have h1:=(ho 0 (by decide)).1;rw[show i*1+0=i by omega] at h1;have e1:(S.txs.map fun x=>pV x.xp).getD i .nilFunc=pV (S.tx i).xp:=by simp[StD.tx,List.getD_eq_getElem?_getD,hi2]
    rw[e1] at h1;rw[htv] at hv;injection hv with e2 e3 e4
    exact⟨g,e2,fun W c=>⟨c.cellAt h1 id,c.cellAt (h.txc hi2 4 _ rfl).1 id,c.cellAt (h.txc hi2 5 _ rfl).1 id⟩⟩
  have y3:∀W,Calm w W→W.cell? ⟨S.sp,3,none⟩=some (.slice ta Nt tc):=fun W c=>by rw[←htv];exact c.cellAt (h.cells 3 _ rfl).1 id
  replace y3:=hid y3;have H:=hid h;replace hqv:=hid hqv;replace htv:=hid htv;replace hNt:=hid hNt;replace htot:=hid htot;rw[show(S.txs.length)=Nt from hNt.out];replace hrl:=hid hrl;have hN':=hid hN;clear h hN hr;go_enter Tryz.func40,Tryz.ntmps40;go_wp2_with fail
  refine oc.mono ?_;rintro en w1 ⟨v1,rfl,hr0,hb1,c1⟩;have hr1:ORow w1 w.heap.size v1 (nI rs):=ORow.base (base:=0) hr0 hb1;clear hr0;clear oc;have z4:=y4.out w1 c1
  have hR1:Hid (ORow w1 w.heap.size v1 (nI (rs++(S.qu.take 0).map (·.at_)))):=by
    have e:rs++(S.qu.take 0).map (·.at_)=rs:=by simp
    rw[e];exact hr1
  clear hr1;go_wp2_with fail
  clear z4;go_loopw [5,19] (fun x z wr=>∃i:Nat,i≤N∧z=vI i∧ORow wr w.heap.size x (nI (rs++(S.qu.take i).map (·.at_)))∧Calm w wr) (fun _ z _=>N-(intOf z).toNat)
  case atStart=>exact⟨0,by omega,rfl,hR1.out,c1⟩
  case round=>
    obtain⟨i,hi,rfl,hrow,hc⟩:=hrel;clear hR1;obtain⟨xa,xn,xc,rfl⟩:=hrow.letters
    by_cases hlt:i<N
    · obtain⟨g,rfl,hg⟩:=hqg.out i hlt;obtain⟨g0,g1⟩:=hg wr hc;clear hg;obtain⟨it,hit⟩:∃it,S.qu.getD i dI=it:=⟨_,rfl⟩;rw[hit] at g0 g1;have kA:Calm w (wr.alloc (.cells #[vI it.at_,vI it.seq] 112)):=hc.alloc _;have hrA:=hrow.calm ((Fr.refl _ _).alloc (.cells #[vI it.at_,vI it.seq] 112):Calm wr _);have oA:=OwnL.new wr [vI it.at_,vI it.seq] 112;go_upto_region 5 with fail
      generalize hW5:wr.alloc (.cells #[vI it.at_,vI it.seq] 112)=W5 at *;clear hW5 g0 g1;have m0:=(oA 0 _ rfl).1;have hsz:w.heap.size≤W5.heap.size:=kA.size
      have hlen:(nI (rs++(S.qu.take i).map (·.at_))).length≤1000000:=by
        have:=hrl.out;simp[nI];omega
      obtain⟨m,hm⟩:∃m,(nI (rs++(S.qu.take i).map (·.at_))).length=m:=⟨_,rfl⟩
      have e9:nI (rs++(S.qu.take (i+1)).map (·.at_))=nI (rs++(S.qu.take i).map (·.at_))++[((it.at_:Nat):Int)]:=by
        have hi':i<S.qu.length:=by rw[hN'.out];exact hlt
        rw[List.take_succ_eq_append_getElem hi',List.map_append,←List.append_assoc,nI_app];have e:S.qu[i]=it:=by rw[←hit];simp[List.getD_eq_getElem?_getD,hi']
        simp[e,nI]
      have hP:Hid (∀g9 c9 w9,ORow w9 w.heap.size (.slice (some ⟨g9,0,none⟩) (m+1) c9) (nI (rs++(S.qu.take i).map (·.at_))++[((it.at_:Nat):Int)])→Fr (InB (.slice xa xn xc)) W5 w9→ORow w9 w.heap.size (.slice (some ⟨g9,0,none⟩) (m+1) c9) (nI (rs++(S.qu.take (i+1)).map (·.at_)))∧Calm w w9):=fun g9 c9 w9 h1 h2=>⟨by rw[e9];exact h1,kA.join h2 (fun j hj hb=>by have:=(hrA.lt hb).1;omega)⟩;replace hm:=hid hm;replace hlen:=hid hlen;clear hrow hc oA e9 hit;replace hrA:=hid hrA;replace kA:=hid kA
      go_wp2_with (
        at_builtin
        go_must (refine wpList_app1b rfl _ _ rfl w.heap.size (.slice xa xn xc) (nI (rs++(S.qu.take i).map (·.at_))) hrA.out rfl ((it.at_:Nat):Int) _ rfl rfl hlen.out hsz ?_)
        intro g9 c9 w9 hr9 f9 hn9;rw[hm.out] at hr9 ⊢;have hQ:=hid (hP.out g9 c9 w9 hr9 f9);clear hP hr9 f9 hn9 m0
        go_frame)
      exact⟨⟨i+1,by omega,by simp,hQ.out⟩,by simp[intOf] <;> omega⟩
    · obtain rfl:i=N:=by omega
      obtain⟨wo,hwo⟩:∃wo:World,wo=wr:=⟨_,rfl⟩;rw[←hwo] at hrow hc ⊢;clear hwo
      have hR2:Hid (ORow wo w.heap.size (.slice xa xn xc) (nI (S.plcs rs 0))):=by
        have e:S.plcs rs 0=rs++(S.qu.take i).map (·.at_):=by
          rw[←hN'.out,List.take_length];simp[StD.plcs]
        show ORow wo _ _ _;rw[e];exact hrow
      have z3:=y3.out wo hc;clear hrow;go_wp2_with fail
      clear z3;go_loopw [5,34] (fun x z wr=>∃t:Nat,t≤Nt∧z=vI t∧ORow wr w.heap.size x (nI (S.plcs rs t))∧Calm w wr) (fun _ z _=>Nt-(intOf z).toNat)
      case atStart=>exact⟨0,by omega,rfl,hR2.out,hc⟩
      case round=>
        obtain⟨t,ht,rfl,hrow,hc2⟩:=hrel;clear hR2 hc;obtain⟨xa2,xn2,xc2,rfl⟩:=hrow.letters
        have hlen0:Hid ((S.plcs rs t).length≤500000):=by
          have h1:=hrl.out;have h2:=htot.out
          have h4:∀k,k≤S.txs.length→((S.txs.take k).flatMap TxD.plcs).length≤1000*k+(S.txs.map fun x=>x.took.length).sum:=by
            have h5:∀ (l:List TxD),(∀x∈l,x.L.roots.length≤1000)→(l.flatMap TxD.plcs).length≤1000*l.length+(l.map fun x=>x.took.length).sum:=by
              intro l
              induction l with
              | nil=>simp
              | cons x l ih=>
                intro hl;have:=ih fun y hy=>hl y (List.mem_cons_of_mem _ hy);have:=hl x (by simp);simp only[List.flatMap_cons,List.length_append,List.map_cons,List.sum_cons,List.length_cons,TxD.plcs,List.length_map];omega
            intro k hk
            have h6:=h5 (S.txs.take k) (fun x hx=>by
              have hx2:=List.mem_of_mem_take hx;obtain⟨j,hj,rfl⟩:=List.mem_iff_getElem.1 hx2;have:=(hok.out.x j hj).f;have e:S.tx j=S.txs[j]:=by simp[StD.tx,List.getD_eq_getElem?_getD,hj]
              rw[e] at this
              exact roots_few this)
            have h7:((S.txs.take k).map fun x=>x.took.length).sum≤(S.txs.map fun x=>x.took.length).sum:=by
              rw[List.map_take];exact sum_take_le _ _
            have:(S.txs.take k).length≤k:=by simp;omega
            have:1000*(S.txs.take k).length≤1000*k:=Nat.mul_le_mul_left _ this;omega
          have:=h4 t (by rw[hNt.out];exact ht);show(S.plcs rs t).length≤500000;unfold StD.plcs;simp only[List.length_append,List.length_map];have h8:=hN'.out;have:1000*t≤8000:=by omega
          omega
        by_cases hlt2:t<Nt
        · have ht6:t<S.txs.length:=by rw[hNt.out];exact hlt2
          obtain⟨g,rfl,hg⟩:=htg.out t hlt2;obtain⟨g0,g1,g2⟩:=hg wr hc2;have hg5:∀W,Calm w W→W.cell? ⟨(S.tx t).xp,5,none⟩=some (S.tx t).tv:=fun W c=>(hg W c).2.2;clear hg;have hxo:=hok.out.x t ht6;obtain⟨M,H1,H2,H3⟩:=H.out.calm hc2;have or:=roots_is H1 (H2.x t ht6).l (fun u hu=>(hxo.l.u u hu).1) ⟨by have:=hxo.f.1;omega,by have:=hxo.f.2.1;omega,by have:=hxo.f.2.2.1;omega,by have:=hxo.f.2.2.2;omega⟩;have hrf:=roots_few hxo.f;have hrowK:=H.out.tok ht6
          have htkN:(S.tx t).took.length≤100000:=by
            have h1:=htot.out
            have:(S.tx t).took.length≤(S.txs.map fun x=>x.took.length).sum:=by
              have e:S.tx t=S.txs[t]:=by simp[StD.tx,List.getD_eq_getElem?_getD,ht6]
              rw[e];exact mem_sum (List.mem_map.2 ⟨_,List.getElem_mem ht6,rfl⟩)
            omega
          obtain⟨x,hx⟩:∃x,S.tx t=x:=⟨_,rfl⟩;rw[hx] at g0 g1 g2 or hrf hrowK htkN hg5;have hpsu:Hid (S.plcs rs (t+1)=S.plcs rs t++(x.L.roots++x.took.map (·.at_))):=by rw[←hx];exact S.plcs_succ rs ht6
          obtain⟨Nk,hNk⟩:∃Nk,x.took.length=Nk:=⟨_,rfl⟩;obtain⟨ka,kc,hkv⟩:=owns_slice hrowK;rw[hNk] at hkv htkN;rw[hkv] at g2 hg5
          have hkg:Hid (∀i,i<Nk→∃g,ka=some ⟨g,0,none⟩∧∀W,Calm w W→W.cell? ⟨g,i*2,none⟩=some (vI (x.took.getD i dI).at_)∧W.cell? ⟨g,i*2+1,none⟩=some (vI (x.took.getD i dI).seq)):=fun i hi=>by
            obtain⟨g,c,hvv,hg⟩:=rows_get itC_len (by decide) hrowK dI (show i<x.took.length by omega);rw[hkv] at hvv;injection hvv with e1 e2 e3
            exact⟨g,e1,fun W c=>⟨c.cellAt (hg 0 _ rfl).1 id,c.cellAt (hg 1 _ rfl).1 id⟩⟩
          have g2':=hid hg5;clear hg5;have hNk':=hid hNk;clear hkv hrowK H1 H2 H3 hxo hNk hx g2;replace hrf:=hid hrf;replace ht6:=hid ht6;go_wp2_with fail
          refine or.mono ?_;rintro en w4 ⟨v4,rfl,hr4,c4⟩;clear or;obtain⟨ra,rn,rc,rfl⟩:=hr4.letters;have c24:=hc2.trans c4;have hrow4:=hrow.calm c4
          have hlen4:Hid ((nI (S.plcs rs t)).length+(nI x.L.roots).length≤1000000):=by
            have h1:=hlen0.out;have h2:=hrf.out;show(nI (S.plcs rs t)).length+(nI x.L.roots).length≤1000000;rw[nI_len,nI_len];omega
          have hsz4:w.heap.size≤w4.heap.size:=c24.size
          have hP4:Hid (∀v' w',ORow w' w.heap.size v' (nI (S.plcs rs t)++nI x.L.roots)→Fr (InB (.slice xa2 xn2 xc2)) w4 w'→ORow w' w.heap.size v' (nI (S.plcs rs t++(x.L.roots++(x.took.take 0).map (·.at_))))∧Calm w w'):=fun v' w' h1 h2=>⟨by
            have e:S.plcs rs t++(x.L.roots++(x.took.take 0).map (·.at_))=S.plcs rs t++x.L.roots:=by simp
            rw[e,nI_app];exact h1,c24.join h2 (fun j hj hb=>by have:=(hrow4.lt hb).1;omega)⟩
          have hrow4':=hid hrow4;have hr4':=hid hr4;have g5:=g2'.out w4 c24;clear hrow hrow4 hr4 g0 g1
          go_wp2_with (
            at_builtin
            go_must (refine wpList_appL rfl _ _ rfl w.heap.size (.slice xa2 xn2 xc2) (nI (S.plcs rs t)) hrow4'.out rfl (.slice ra rn rc) (nI x.L.roots) hr4'.out.row rfl hlen4.out hsz4 ?_)
            intro v9 w9 hr9 f9 hn9;obtain⟨h91,h92⟩:=hP4.out v9 w9 hr9 f9;obtain⟨ya,yn,yc,rfl⟩:=h91.letters;have hR3:=hid h91;have g59:=g2'.out w9 h92
            clear hP4 hr9 f9 hn9 h91 g5)
          clear g59;have hNkb:=htkN;clear hc2 hrow4' hr4';go_loopw [5,50] (fun x0 z wr=>∃j:Nat,j≤Nk∧z=vI j∧ORow wr w.heap.size x0 (nI (S.plcs rs t++(x.L.roots++(x.took.take j).map (·.at_))))∧Calm w wr) (fun _ z _=>Nk-(intOf z).toNat)
          case atStart=>exact⟨0,by omega,rfl,hR3.out,h92⟩
          case round=>
            obtain⟨j,hj,rfl,hrow,hc⟩:=hrel;clear hR3;obtain⟨xa,xn,xc,rfl⟩:=hrow.letters
            by_cases hlt:j<Nk
            · obtain⟨g,rfl,hg⟩:=hkg.out j hlt;obtain⟨g0,g1⟩:=hg wr hc;clear hg;obtain⟨it,hit⟩:∃it,x.took.getD j dI=it:=⟨_,rfl⟩;rw[hit] at g0 g1;have kA:Calm w (wr.alloc (.cells #[vI it.at_,vI it.seq] 112)):=hc.alloc _;have hrA:=hrow.calm ((Fr.refl _ _).alloc (.cells #[vI it.at_,vI it.seq] 112):Calm wr _);have oA:=OwnL.new wr [vI it.at_,vI it.seq] 112;go_upto_region 14 with fail
              generalize hW5:wr.alloc (.cells #[vI it.at_,vI it.seq] 112)=W5 at *;clear hW5 g0 g1;have m0:=(oA 0 _ rfl).1;have hsz:w.heap.size≤W5.heap.size:=kA.size;obtain⟨l9,hl9⟩:∃l9,S.plcs rs t++(x.L.roots++(x.took.take j).map (·.at_))=l9:=⟨_,rfl⟩
              have hlen:(nI l9).length≤1000000:=by
                have h1:=hlen0.out;have h2:=hrf.out;rw[nI_len,←hl9];simp only[List.length_append,List.length_map,List.length_take];omega
              rw[hl9] at hrA;obtain⟨m,hm⟩:∃m,(nI l9).length=m:=⟨_,rfl⟩
              have e9:nI (S.plcs rs t++(x.L.roots++(x.took.take (j+1)).map (·.at_)))=nI l9++[((it.at_:Nat):Int)]:=by
                have hi':j<x.took.length:=by rw[hNk'.out];exact hlt
                rw[←hl9,List.take_succ_eq_append_getElem hi',List.map_append,←List.append_assoc,←List.append_assoc,←List.append_assoc,nI_app];have e:x.took[j]=it:=by rw[←hit];simp[List.getD_eq_getElem?_getD,hi']
                simp[e,nI]
              have hP:Hid (∀g9 c9 w9,ORow w9 w.heap.size (.slice (some ⟨g9,0,none⟩) (m+1) c9) (nI l9++[((it.at_:Nat):Int)])→Fr (InB (.slice xa xn xc)) W5 w9→ORow w9 w.heap.size (.slice (some ⟨g9,0,none⟩) (m+1) c9) (nI (S.plcs rs t++(x.L.roots++(x.took.take (j+1)).map (·.at_))))∧Calm w w9):=fun g9 c9 w9 h1 h2=>⟨by rw[e9];exact h1,kA.join h2 (fun k hk hb=>by have:=(hrA.lt hb).1;omega)⟩;replace hm:=hid hm;replace hlen:=hid hlen;clear hrow hc oA e9 hit hl9;replace hrA:=hid hrA;replace kA:=hid kA
              go_wp2_with (
                at_builtin
                go_must (refine wpList_app1b rfl _ _ rfl w.heap.size (.slice xa xn xc) (nI l9) hrA.out rfl ((it.at_:Nat):Int) _ rfl rfl hlen.out hsz ?_)
                intro g9 c9 w9 hr9 f9 hn9;rw[hm.out] at hr9 ⊢;have hQ:=hid (hP.out g9 c9 w9 hr9 f9);clear hP hr9 f9 hn9 m0
                go_frame)
              exact⟨⟨j+1,by omega,by simp,hQ.out⟩,by simp[intOf] <;> omega⟩
            · obtain rfl:j=Nk:=by omega
              have hfin:Hid (ORow wr w.heap.size (.slice xa xn xc) (nI (S.plcs rs (t+1)))∧Calm w wr):=by
                refine⟨?_,hc⟩;rw[hpsu.out];have e:x.took.take j=x.took:=by rw[←hNk'.out,List.take_length]
                rw[e] at hrow;exact hrow
              clear hrow;go_wp2_with fail
              exact⟨⟨t+1,by omega,by simp,hfin.out⟩,by simp[intOf] <;> omega⟩
        · obtain rfl:t=Nt:=by omega
          have hfin:Hid (PlsP w (S.plcs rs t) (.returned (.slice xa2 xn2 xc2)) wr):=⟨_,rfl,hrow,hc2⟩;clear hrow;go_wp2;go_ret;exact hfin.out
end
section
open Go.RowKit Go.Shelf
theorem ORow.take {w:World}{base:Nat}{a:Option Addr}{n c:Nat}{l:List Nat}(h:ORow w base (.slice a n c) (nI l)){k:Nat}(hk:k≤l.length) :
    (∀W,(Instr.slice 23 (.slice a n c) none (some (vI (k:Int))) none).run Tryz.prog W = .ok (.slice a k c) W)∧ORow w base (.slice a k c) (nI (l.take k)):=by
  obtain⟨e1,e2⟩:=h;rcases e2 with ⟨e2,e3⟩|⟨g,cap,cur,e2,h3,h4,h5,h6,h7,h8⟩
  · injection e2 with a1 a2 a3
    subst a1 a2 a3;have:l.length=0:=by rw[nI_len] at e3;exact e3
    obtain rfl:k=0:=by omega
    refine⟨fun W=>?_,?_⟩
    · have:=run_sliceH none 0 0 0 W (Nat.le_refl _);simpa using this
    · rw[List.take_zero];exact ORow.nil _ _
  · injection e2 with a1 a2 a3
    subst a1 a3;rw[nI_len] at a2 h5 h8;refine⟨fun W=>?_,?_⟩
    · have:=run_sliceH (some ⟨g,0,none⟩) n c k W (by omega);rw[this]
      by_cases h0:c=0
      · rw[if_pos h0]
      · rw[if_neg h0];show Result.ok (Value.slice (some (Addr.add _ _)) _ _) _=_;rw[addr_add]
    · have hl:(l.take k).length=k:=by rw[List.length_take];omega
      refine⟨by simp,.inr ⟨g,c,cur,by rw[nI_len,hl],h3,h4,by rw[nI_len,hl];omega,h6,h7,?_⟩⟩;rw[nI_len,hl];have e9:iVs (nI (l.take k))=(iVs (nI l)).take k:=by simp[nI,List.map_take]
      rw[e9,←h8,List.take_take]
      congr 1
      try omega
theorem Hold.retag {w:World}{τ:Nat→Nat}{A:Mem}(h:Hold w τ A)(R:Nat→Prop)(hR:∀t k,(A t).blk k→¬R k)(m:Nat):∃τ',Hold w τ' A∧(∀k,R k→τ' k=m)∧∀k,¬R k→τ' k=τ k:=by
  classical
  exact⟨fun k=>if R k then m else τ k,⟨h.at_,fun t k hk=>by simp only[if_neg (hR t k hk)];exact h.tag t k hk⟩,fun k hk=>if_pos hk,fun k hk=>if_neg hk⟩
variable {w:World}{τ:Nat→Nat}{s q:Nat}{S:StD}
theorem lreplace_is (h:St w τ s q S){t:Nat}(ht:t<S.txs.length){v:Value}{ps:List Nat}(hv:Row w v (iVs (nI ps)))(hn:ps.length=(S.tx t).L.roots.length)(hp:∀p∈ps,p≤131072)(hvt:∀b,inRow v b→500≤τ b) :
    Calls Tryz.prog 44 #[pV (S.tx t).lp,v] w fun e w'=>(∃b:Bool,e = .returned (.bool b))∧∃τ' L',St w' τ' s q (S.setX t { S.tx t with L:=L' })∧KeepT w τ w' τ'∧LSame (S.tx t).L L':=by
  obtain⟨M,h1,h2,h3⟩:=h;have hxo:=h3.x t ht;have hn8:=h3.n;refine(log_replace h1 (h2.x t ht).l (by omega) hxo.l ⟨by have:=hxo.f.1;omega,by have:=hxo.f.2.1;omega,by have:=hxo.f.2.2.1;omega,by have:=hxo.f.2.2.2;omega⟩ hv hn hp hvt).mono ?_;rintro e w' ⟨rfl,L',M',τ',k1,k2,k3,k4,k5,k6⟩;refine⟨⟨true,rfl⟩,τ',L',St.setL h2 h3 ht k3 k4 (k5.mono fun j hj=>by omega) ⟨k2,?_,?_,hxo.i,hxo.k⟩,k6,k1⟩
  · show L'.reads.length≤200∧L'.keeps.length≤200∧L'.holds.length≤200∧L'.undos.length≤200;rw[k1.lr,k1.lk,k1.lh,k1.lu];exact hxo.f
  · show 0≤L'.mr∧L'.mr≤200∧0≤L'.mu∧L'.mu≤200;rw[k1.mr,k1.mu];exact hxo.m
end
section
open Go.RowKit Go.Shelf
variable {w:World}{τ:Nat→Nat}{s q:Nat}{S:StD}
def StD.rl (S:StD)(t:Nat):Nat:=((S.txs.drop t).map fun x=>x.L.roots.length+x.took.length).sum
theorem StD.rl_succ (S:StD){t:Nat}(ht:t<S.txs.length):S.rl t=((S.tx t).L.roots.length+(S.tx t).took.length)+S.rl (t+1):=by
  unfold StD.rl;rw[List.drop_eq_getElem_cons ht,List.map_cons,List.sum_cons];have e:S.txs[t]=S.tx t:=by simp[StD.tx,List.getD_eq_getElem?_getD,ht]
  rw[e]
theorem StD.plcs_len (S:StD)(rs:List Nat):∀k,k≤S.txs.length→(S.plcs rs k).length+S.rl k=rs.length+S.qu.length+S.rl 0
  | 0,_=>by simp[StD.plcs]
  | k+1,h=>by
    have h1:=StD.plcs_len S rs k (by omega);rw[S.rl_succ (show k<_ by omega)] at h1;rw[S.plcs_succ rs (show k<_ by omega)];simp only[List.length_append,List.length_map];omega
theorem StD.rl_end (S:StD):S.rl S.txs.length=0:=by simp[StD.rl]
theorem StOk.plcs_le (h:StOk s q S){rs:List Nat}(hr:∀p∈rs,p≤131072):∀p∈S.plcs rs S.txs.length,p≤131072:=by
  intro p hp;unfold StD.plcs at hp;rcases List.mem_append.1 hp with hp|hp
  · rcases List.mem_append.1 hp with hp|hp
    · exact hr p hp
    · obtain⟨x,hx,rfl⟩:=List.mem_map.1 hp;exact(h.qu x hx).1
  · obtain⟨x,hx,hp⟩:=List.mem_flatMap.1 hp;have hx2:=List.mem_of_mem_take hx;obtain⟨j,hj,rfl⟩:=List.mem_iff_getElem.1 hx2;have e:S.tx j=S.txs[j]:=by simp[StD.tx,List.getD_eq_getElem?_getD,hj]
    have hxo:=h.x j hj;rw[e] at hxo;rcases List.mem_append.1 hp with hp|hp
    · exact roots_le hxo.l.r hxo.l.k (fun x hx=>(hxo.l.h x hx).1) (fun u hu=>(hxo.l.u u hu).1) p hp
    · obtain⟨y,hy,rfl⟩:=List.mem_map.1 hp;exact(hxo.k y hy).1
theorem StOk.plcs_few (h:StOk s q S)(hq:q≤80000){rs:List Nat}(hr:rs.length≤1000):(S.plcs rs S.txs.length).length≤100000:=by
  have h1:=S.plcs_len rs _ (Nat.le_refl _);rw[S.rl_end] at h1;have h2:=h.tt;unfold StD.tot at h2
  have h3:S.rl 0≤1000*S.txs.length+(S.txs.map fun x=>x.took.length).sum:=by
    have h5:∀ (l:List TxD),(∀x∈l,x.L.roots.length≤1000)→(l.map fun x=>x.L.roots.length+x.took.length).sum≤1000*l.length+(l.map fun x=>x.took.length).sum:=by
      intro l
      induction l with
      | nil=>simp
      | cons x l ih=>
        intro hl;have:=ih fun y hy=>hl y (List.mem_cons_of_mem _ hy);have:=hl x (by simp);simp only[List.map_cons,List.sum_cons,List.length_cons];omega
    unfold StD.rl;rw[List.drop_zero]
    exact h5 S.txs fun x hx=>by
      obtain⟨j,hj,rfl⟩:=List.mem_iff_getElem.1 hx;have:=(h.x j hj).f;have e:S.tx j=S.txs[j]:=by simp[StD.tx,List.getD_eq_getElem?_getD,hj]
      rw[e] at this;exact roots_few this
  have h4:=h.n;omega
theorem start_in {w4:World}(h:St w τ s q S)(hm:S.D.A.mv=false){l:List Nat}(hl:∀p∈l,p≤131072){u:Value}{A1 A2:HS}{l1 rd1:List Nat}{BA':HB}{XA':List Nat}{rv':Value}(g1:GoesL S.D.A.flip l A1 l1)(g2:GoesL A1 S.D.rd A2 rd1)
    (hC:CH w4 0 S.D.c BA' A2 XA' 1 rv' S.D.lv rd1 S.D.ls) (hK:CKeep w S.D.c S.D.rv S.D.lv S.D.B w4 rv' S.D.lv BA') (hu:ORow w4 w.heap.size u (nI l1)) (hap:∀b,InB u b→¬HBlk BA' b∧¬CyB S.D.c rv' S.D.lv b) :
    ∃τ5,St w4 τ5 s q { S with D:=⟨BA',A2,S.D.c,1,rv',S.D.lv,rd1,S.D.ls⟩ } ∧ KeepT w τ w4 τ5∧(∀b,InB u b→τ5 b=1000)∧(∀p∈l1,p≤131072)∧l1.length=l.length∧Fix S { S with D:=⟨BA',A2,S.D.c,1,rv',S.D.lv,rd1,S.D.ls⟩ }:=by
  obtain⟨X,hX⟩:=h.hat;obtain⟨M,H1,H2,H3⟩:=h;have hb:(M 0).blk=fun k=>HBlk S.D.B k∨CyB S.D.c S.D.rv S.D.lv k:=by rw[H2.h];rfl
  obtain⟨τ4,j1,j2⟩:=H1.put (t:=0) (a:=aH ⟨BA',A2,S.D.c,1,rv',S.D.lv,rd1,S.D.ls⟩) (hK.fr.mono (fun k _ e=>by rw[hb];exact e.symm)) ⟨XA',hC⟩ (fun k hk=>by
    rw[hb];rcases hk with hk|hk
    · rcases hK.new k hk with e|e
      · exact .inl (.inl e)
      · exact .inr e
    · rcases hK.cnew k hk with e|e
      · exact .inl (.inr e)
      · exact .inr e) (by decide)
  obtain⟨τ5,k1,k2,k3⟩:=j1.retag (InB u) (fun t k hk hk2=>by
    by_cases e:t=0
    · subst e;rw[Mem.put_same] at hk;rcases hk with hk|hk
      · exact(hap k hk2).1 hk
      · exact(hap k hk2).2 hk
    · rw[Mem.put_other _ _ e] at hk;have:=H1.lt t hk;have:=(hu.lt hk2).1
      omega) 1000
  have hrep:=hX.rep;have hrf:=hrep.flip hm;have hw1:=(H3.hw.flip hrep hm);obtain⟨X1,hr1⟩:=g1.rep hrf;have hw2:=hw1.goesL hrf g1;have hw3:=hw2.goesL hr1 g2;have s1:=g1.same;have s2:=g2.same;have emv:A2.mv=true:=by rw[s2.2.2.1,s1.2.2.1];rfl
  have eser:A2.ser=S.D.A.ser:=by rw[s2.2.2.2.2.1,s1.2.2.2.2.1];rfl
  have en:A2.n=S.D.A.n:=by rw[s2.1,s1.1];rfl
  have hrd1:rd1=[]:=by
    have:=g2.len;rw[H3.rd] at this;exact List.length_eq_zero_iff.1 this
  refine⟨τ5,⟨_,k1,H2.setD (D':=⟨BA',A2,S.D.c,1,rv',S.D.lv,rd1,S.D.ls⟩) (Mem.Only.put M _ rfl) (Mem.put_same _ _ _) hK.hp rfl,⟨hw3,?_,by show 1≤2;decide,?_,hrd1,H3.ls,H3.ck,H3.n,H3.x,H3.qu,H3.tt,H3.nx,H3.ho,H3.ve,H3.lo,H3.ca⟩⟩,⟨j2.fr,fun k hk=>(k3 k (fun e=>by have:=(hu.lt e).1;omega)).trans (j2.tg k hk)⟩,k2,goesL_le hrf g1 hl,g1.len,⟨rfl,hK.hp,rfl,rfl,en,rfl,fun _=>rfl,fun _=>rfl⟩⟩
  · show(1:Nat)=0↔A2.mv=false;rw[emv];simp
  · show A2.ser≤s;rw[eser];exact H3.se
def CoI (w5:World)(τ6:Nat→Nat)(s q:Nat)(S1:StD)(u:Value)(t:Nat)(x:Value)(wr:World):Prop:=
  ∃τk Sk a n c ps,x = .slice a n c∧St wr τk s q Sk∧KeepT w5 τ6 wr τk∧Fix S1 Sk∧Sk.tsv=S1.tsv∧(∀j,t≤j→Sk.tx j=S1.tx j)∧SRow (InB u) wr x ps∧ps.length=S1.rl t∧∀p∈ps,p≤131072
def CollP (w:World)(τ:Nat→Nat)(s q:Nat)(S:StD)(rs:List Nat)(e:Ending)(w':World):Prop:=
  (e = .returned (.tuple #[.slice none 0 0,.bool false])∧Calm w w') ∨
  ∃v ps τ' S',e = .returned (.tuple #[v,.bool true])∧ps.length=rs.length∧(∀p∈ps,p≤131072)∧ORow w' w.heap.size v (nI ps)∧St w' τ' s q S'∧KeepT w τ w' τ'∧Fix S S'∧∀b,InB v b→τ' b=1000
set_option maxRecDepth 8000 in
theorem collect_is (h:St w τ s q S)(hq:q≤80000){base:Nat}{v:Value}{rs:List Nat}(hr:ORow w base v (nI rs))(hrl:rs.length≤1000)(hrp:∀p∈rs,p≤131072):Calls Tryz.prog 17 #[pV S.sp,v] w (CollP w τ s q S rs):=by
  obtain⟨X0,hch0⟩:=h.heap;have olv:=live_is hch0.cy;have y1:∀W,Calm w W→W.cell? ⟨S.sp,1,none⟩=some (pV S.D.c):=fun W c=>c.cellAt (h.cells 1 _ rfl).1 id;have y0:∀W,Calm w W→W.cell? ⟨S.sp,0,none⟩=some (pV S.D.B.hp):=fun W c=>c.cellAt (h.cells 0 _ rfl).1 id;have z1:=y1 w (Fr.refl _ _);replace y1:=hid y1;replace y0:=hid y0;obtain⟨n,hn⟩:∃n,rs.length=n:=⟨_,rfl⟩;obtain⟨va,vc,rfl⟩:=hr.sliceN (n:=n) (by rw[nI_len,hn]);have hno:Hid (∀W,Calm w W→CollP w τ s q S rs (.returned (.tuple #[.slice none 0 0,.bool false])) W):=fun W c=>.inl ⟨rfl,c⟩
  by_cases hph:S.D.ph=0
  · have hmv:=h.ok.ph.1 hph
    have hget:Hid (∀i,i<n→∃g,va=some ⟨g,0,none⟩∧∀W,Calm w W→W.cell? ⟨g,i,none⟩=some (vI (rs.getD i 0:Nat))):=fun i hi=>by
      obtain⟨b,⟨a,c,hv,ha⟩,hc,_⟩:=row_slc (hr.mono (Nat.zero_le _));injection hv with a1 _ _
      exact⟨b,a1.trans (ha (by omega)),fun W c=>c.cellAt (hc i (by omega)).1 id⟩
    have dph:decide (S.D.ph≠0)=false:=by simp[hph]
    rw[dph] at olv;have H:=hid h;have hr':=hid hr;have hn':=hid hn;have hnb:n≤1000:=by omega
    have hX0:=hid hch0;replace hph:=hid hph;replace hmv:=hid hmv;replace hrp:=hid hrp;clear h hr hn hch0 dph hrl;go_enter Tryz.func17,Tryz.ntmps17;go_wp2_with fail
    refine olv.mono ?_;rintro en w1 ⟨rfl,e1⟩;subst w1;clear olv z1;go_wp2_with fail
    go_loopw [25] (fun z wr=>∃i:Nat,i≤n∧z=vI i∧Calm w wr) (fun z _=>n-(intOf z).toNat)
    case atStart=>exact⟨0,by omega,rfl,Fr.refl _ _⟩
    case round=>
      obtain⟨i,hi,rfl,hc⟩:=hrel
      by_cases hlt:i<n
      · obtain⟨g,rfl,hg⟩:=hget.out i hlt;have x0:=hg wr hc;obtain⟨p,hp⟩:∃p,rs.getD i 0=p:=⟨_,rfl⟩;have hpm:p≤131072:=hrp.out p (by rw[←hp];exact get_mem 0 (by have:=hn'.out;omega));rw[hp] at x0;clear hg hp
        by_cases hp0:p=0
        · subst hp0;have x0:wr.cell? ⟨g,i,none⟩=some (vI 0):=x0;go_wp2;exact⟨⟨i+1,by omega,by simp,hc⟩,by simp[intOf] <;> omega⟩
        · have e0:((p:Int) != 0)=true:=by simp[bne];omega
          have z0:=y0.out wr hc;have oh:=here_is ((hX0.out.ha).calm hc) (p:Int) (i64N hpm);go_wp2_with fail
          refine oh.mono ?_;rintro en w3 ⟨rfl,c3⟩;clear oh;have hc3:=hc.trans c3
          cases hd:decide ((p:Int)∈nI (plc S.D.A.cur)) with
          | true=>
            clear hno;go_wp2;exact⟨⟨i+1,by omega,by simp,hc3⟩,by simp[intOf] <;> omega⟩
          | false=>
            have hfin:=hid (hno.out w3 hc3);clear hno;go_wp2
            go_ret2
            exact hfin.out
      · obtain rfl:i=n:=by omega
        clear hno;have kd:Calm wr wr.drew:=(Fr.refl _ _).drew;have hcd:=hc.trans kd;have z1:=y1.out _ hcd;have opl:=places_is (H.out.calm hcd) (by omega) (hr'.out.calm hcd) (by have:=hn'.out;omega);have hsz:=hcd.size;have hvv:∃x:Value,x = .slice va i vc:=⟨_,rfl⟩;go_wp2_with fail
        refine wp_region_mix [(true,0),(true,1),(true,2),(true,3),(true,4),(true,5),(false,6),(false,7),(true,8),(true,9),(true,10),(false,11),(false,12)] (fun w'=>w'.cell? ⟨S.sp,1,none⟩=some (pV S.D.c)) (by kernel_rfl) (by kernel_rfl) z1 ?_;refine mix_read (pV S.sp) rfl rfl (fun w' hw'=>?_) (fun _ _ _ h=>h) ?_
        · simp[go_sem]
        refine mix_read (pV S.sp) rfl rfl (fun w' hw'=>?_) (fun _ _ _ h=>h) ?_
        · simp[go_sem]
        refine mix_read (.pointer (some ⟨S.sp,1,none⟩)) rfl rfl (fun w' hw'=>?_) (fun _ _ _ h=>h) ?_
        · simp[go_sem]
        refine mix_read (pV S.D.c) rfl rfl (fun w' hw'=>?_) (fun _ _ _ h=>h) ?_
        · simp[go_sem,hw']
        refine mix_read (pV S.sp) rfl rfl (fun w' hw'=>?_) (fun _ _ _ h=>h) ?_
        · simp[go_sem]
        refine mix_read (.slice va i vc) rfl rfl (fun w' hw'=>?_) (fun _ _ _ h=>h) ?_
        · simp[go_sem]
        refine mix_step rfl rfl ?_;go_wp2_with fail
        refine opl.mono ?_;rintro en w3 ⟨u0,rfl,hu0,c3⟩;clear opl;have hc3:=hcd.trans c3;have z13:=y1.out _ hc3;refine⟨z13,?_⟩;have h3:=H.out.calm hc3;have hok:=h3.ok;obtain⟨X3,hch3⟩:=h3.heap;have hph':=hph.out;rw[hph'] at hch3;obtain⟨Ld,hLd⟩:∃Ld,S.plcs rs S.txs.length=Ld:=⟨_,rfl⟩;rw[hLd] at hu0;have hLle:∀p∈Ld,p≤131072:=by rw[←hLd];exact hok.plcs_le hrp.out
        have hLfew:Ld.length≤100000:=by rw[←hLd];exact hok.plcs_few hq (by have:=hn'.out;omega)
        have hcdst:=H.out.calm hcd;obtain⟨Xd,hchd⟩:=hcdst.heap
        have hblk:∀k,(k=S.D.c∨HBlk S.D.B k)→k<wr.drew.heap.size:=fun k hk=>by
          rcases hk with e|e
          · exact(hchd.cy.lt k (.inl e)).1
          · exact hchd.ha.lt k e
        have ost:=start_yes hch3 hmv.out (v:=u0) (l:=Ld) (fun W f=>(hu0.frB f (fun b hb e=>by have:=(hu0.lt hb).1;have:=hblk b e;omega)).row) hLle hLfew (by rw[hok.rd];exact fun _ h=>(by cases h)) (by rw[hok.rd];exact Nat.zero_le _);obtain⟨ua,un,uc,rfl⟩:=hu0.letters;refine mix_step rfl rfl ?_;go_wp2_with fail
        refine ost.mono ?_;rintro en w4 ⟨u,A1,A2,l1,rd1,BA',XA',rv',rfl,g1,g2,hC,hK,hu,hap⟩;clear ost;obtain⟨τ5,hS1,K5,tu,hle1,hlen1,fx1⟩:=start_in h3 hmv.out hLle g1 g2 hC hK hu hap;have hpl:=S.plcs_len rs _ (Nat.le_refl _);rw[hLd,S.rl_end] at hpl;obtain⟨S1,hS1e⟩:∃S1:StD,({ S with D:=⟨BA',A2,S.D.c,1,rv',S.D.lv,rd1,S.D.ls⟩ } : StD)=S1:=⟨_,rfl⟩;have e_sp:S1.sp=S.sp:=by rw[←hS1e]
        have e_qu:S1.qu=S.qu:=by rw[←hS1e]
        have e_rl:S1.rl 0=S.rl 0:=by rw[←hS1e];rfl
        have e_c:S1.D.c=S.D.c:=by rw[←hS1e]
        rw[hS1e] at hS1 fx1;have z14:w4.cell? ⟨S.sp,1,none⟩=some (pV S.D.c):=by have:=(hS1.cells 1 _ rfl).1;rw[e_sp,e_c] at this;exact this
        refine⟨z14,?_⟩;obtain⟨ub,um,ud,rfl⟩:=hu.letters;refine mix_read (.tuple #[.slice ub um ud,.bool true]) rfl rfl (fun w' hw'=>?_) (fun _ _ _ h=>h) ?_
        · simp[go_sem]
        refine mix_read (.slice ub um ud) rfl rfl (fun w' hw'=>?_) (fun _ _ _ h=>h) ?_
        · simp[go_sem]
        refine mix_read (.bool true) rfl rfl (fun w' hw'=>?_) (fun _ _ _ h=>h) ?_
        · simp[go_sem]
        refine mix_step rfl rfl ?_;unfold Oper.wp;go_simp
        first|refine⟨z14,?_⟩|skip
        refine mix_step rfl rfl ?_;unfold Oper.wp;go_simp
        first|refine⟨z14,?_⟩|skip
        refine mix_end ?_;clear z1 z13 z14 hch3 hchd hblk hcdst hC hK g1 g2 hap;have hum:l1.length=um:=by obtain⟨_,_,e,_⟩:=SRow.of hu;injection e with _ e2 _;exact e2.symm
        have hn2:rs.length=i:=hn'.out;have hiu:i≤l1.length:=by rw[hlen1];omega
        have hl1f:l1.length≤100000:=by omega
        obtain⟨hTrun,hTrow⟩:=hu.take (k:=i) hiu;have ocl:=cloneI (hTrow.mono (Nat.zero_le _)) (int_one _) (by rw[nI_len,List.length_take];omega);obtain⟨τ6,hS6,tk6,fr6⟩:=hS1.fresh;have hsr:=SRow.of hu;obtain⟨da,dc,hDrun,hDrow⟩:=hsr.drop (lo:=i) (by omega);have tu6:∀b,InB (.slice ub um ud) b→τ6 b=1000:=fun b hb=>(tk6 b (hu.lt hb).2).trans (tu b hb);have hS1':=hid hS1;clear hS1 hsr;have hubase:Hid (ORow w4 w3.heap.size (.slice ub um ud) (nI l1)):=hu;clear hu;go_wp2_with fail
        refine ocl.mono ?_;rintro en w5 ⟨v5,rfl,h5,hb5,c5⟩;clear ocl;have h5':ORow w5 w4.heap.size v5 (nI (l1.take i)):=ORow.base (base:=0) h5 hb5;obtain⟨wa5,wn5,wc5,rfl⟩:=h5'.letters;have hS5:=hS6.calm c5;have hD5:=hDrow.calm c5;obtain⟨Nq,hNq⟩:∃Nq,S1.qu.length=Nq:=⟨_,rfl⟩;have hque:=hS5.que;obtain⟨qa,qc,hqv⟩:=owns_slice hque;rw[hNq] at hqv;have z4:w5.cell? ⟨S.sp,4,none⟩=some (.slice qa Nq qc):=by rw[←hqv,←e_sp];exact(hS5.cells 4 _ rfl).1
        have htot:=hS5.ok.tt
        have hNqb:Nq≤100000:=by
          unfold StD.tot at htot;omega
        have hdl:(l1.drop i).length=um-i:=by rw[List.length_drop];omega
        have hDle:∀p∈l1.drop i,p≤131072:=fun p hp=>hle1 p (List.mem_of_mem_drop hp)
        have oplc:=place_is hque hD5 (by rw[hdl,hNq,←hum,hlen1];rw[←hNq,e_qu];omega) (fun b hb e=>by
          have h1:=tu6 b hb;obtain⟨M,H1,H2,_⟩:=hS5;have:=H1.tag 5 b (by rw[H2.q];exact e)
          omega) (by omega) hDle
        rw[hqv] at oplc;have hqv':=hid hqv;have hNq':=hid hNq;clear hque hD5 hDrow h5 hNq hqv hTrow hb5;replace hum:=hid hum;replace hn2:=hid hn2;replace hiu:=hid hiu;replace hpl:=hid hpl;replace hlen1:=hid hlen1;replace hdl:=hid hdl;go_wp2_with fail
        refine oplc.mono ?_;rintro en w6 ⟨pa,pc,rfl,hP6,hown6,f6⟩;clear oplc z4;have hq6:S1.qu.length=Nq:=hNq'.out
        obtain⟨τ7,hS7,K7⟩:=hS5.setS (q':=q) ⟨S1.qv,reI S1.qu (l1.drop i) S1.qu.length,S1.next,S1.holder,S1.ver⟩ (by rw[hqv'.out];exact f6.mono (fun b _ e=>.inr e)) (by
          have h9:OwnL w5 S1.sp S1.cs:=hS5.cells;refine h9.fr f6 (fun e=>?_);obtain⟨M,H1,H2,_⟩:=hS5
          exact H1.apart (t:=5) (u:=2) (k:=S1.sp) (by omega) (by rw[H2.q,hqv'.out];exact e) (by rw[H2.c];rfl)) (by
          rw[hqv'.out];show w6.ownsRow 0 _ 2 _ (reI S1.qu (l1.drop i) S1.qu.length).length _
          rw[reI_len];exact hown6) (fun b hb=>.inl hb) (fun x hx=>by
          obtain⟨j,hj,rfl⟩:=List.mem_iff_getElem.1 hx;have hj2:j<S1.qu.length:=by rw[reI_len] at hj;exact hj
          have h9:=reI_get S1.qu (l1.drop i) S1.qu.length j hj2;rw[if_pos hj2,List.getD_eq_getElem?_getD,List.getElem?_eq_getElem hj] at h9;have h9:(reI S1.qu (l1.drop i) S1.qu.length)[j]=_:=h9;rw[h9];refine⟨?_,(hS5.ok.qu _ (get_mem dI hj2)).2⟩;show(l1.drop i).getD j 0≤131072;refine hDle _ (get_mem 0 ?_);rw[hdl.out,←hum.out,hlen1.out];have:=hpl.out;rw[e_qu] at hj2;have:=hn2.out
          omega) (by
          show(reI S1.qu (l1.drop i) S1.qu.length).length+_≤q
          rw[reI_len];exact hS5.ok.tt) hS5.ok.nx hS5.ok.ho hS5.ok.ve (Nat.le_refl _)
        obtain⟨S2,hS2e⟩:∃S2:StD,S1.setS ⟨S1.qv,reI S1.qu (l1.drop i) S1.qu.length,S1.next,S1.holder,S1.ver⟩=S2:=⟨_,rfl⟩;rw[hS2e] at hS7;have fx2:Fix S1 S2:=by rw[←hS2e];exact Fix.setS _ _
        have e2_tsv:S2.tsv=S1.tsv:=by rw[←hS2e];rfl
        have e2_tx:∀j,S2.tx j=S1.tx j:=fun j=>by rw[←hS2e];rfl
        have hlenR:((l1.drop i).drop S1.qu.length).length=S1.rl 0:=by
          rw[List.length_drop,hdl.out,←hum.out,hlen1.out,e_rl,e_qu];have:=hpl.out;have:=hn2.out;omega
        have hpn:(l1.drop i).length-S1.qu.length=um-i-Nq:=by rw[hdl.out,hq6]
        rw[hpn] at hP6;rw[hpn];have hI0:Hid (CoI w5 τ6 s q S1 (.slice ub um ud) 0 (.slice pa (um-i-Nq) pc) w6):=⟨τ7,S2,pa,_,pc,_,rfl,hS7,K7,fx2,e2_tsv,fun j _=>e2_tx j,hP6,hlenR,fun p hp=>hDle p (List.mem_of_mem_drop hp)⟩;obtain⟨Nt,hNt⟩:∃Nt,S1.txs.length=Nt:=⟨_,rfl⟩;have hNt8:Nt≤8:=by rw[←hNt];exact hS5.ok.n
        obtain⟨ta,tc,htv⟩:=owns_slice hS7.thr;have e2_n:S2.txs.length=Nt:=fx2.len.trans hNt;rw[e2_n,e2_tsv] at htv
        have z3:w6.cell? ⟨S.sp,3,none⟩=some (.slice ta Nt tc):=by
          rw[←htv,←e2_tsv,←e_sp,←fx2.sp];exact(hS7.cells 3 _ rfl).1
        have hC:Hid (∀W τk Sk,St W τk s q Sk→KeepT w5 τ6 W τk→Fix S1 Sk→CollP w τ s q S rs (.returned (.tuple #[.slice wa5 wn5 wc5,.bool true])) W):=fun W τk Sk k1 k2 k3=>by
          have hmt:∀b,InB (.slice wa5 wn5 wc5) b→τ6 b=1000:=fun b hb=>fr6 b (h5'.lt hb).1;refine .inr ⟨_,l1.take i,τk,Sk,rfl,by rw[List.length_take,hn2.out];have:=hiu.out;omega,fun p hp=>hle1 p (List.mem_of_mem_take hp),?_,k1,?_,fx1.trans k3,fun b hb=>(k2.tg b (h5'.lt hb).2).trans (hmt b hb)⟩
          · refine((h5'.frB k2.fr (fun b hb e=>by rw[hmt b hb] at e;omega)).mono ?_);have h1:=hc3.size;have h2:w3.heap.size≤w4.heap.size:=K5.size;omega
          · exact(((KeepT.calm τ hc3).trans K5).toTag tk6).trans ((KeepT.calm τ6 c5).trans k2)
        have htu7:=hid tu6;replace hNt:=hid hNt;replace htv:=hid htv;replace e_sp:=hid e_sp;replace hubase:=hubase;clear hS7 K7 fx2 e2_tsv e2_tx hlenR hpn e2_n hP6 hown6 f6 hS5 hS6 h5' tu6 tu K5 fr6 tk6 hle1 hDle fx1 hS1e hS2e htot hNqb hl1f hLle hLfew hLd h3 hok hpl e_qu e_rl e_c;go_wp2_with fail
        clear z3;go_loopw [8,72] (fun x z wr=>∃t:Nat,t≤Nt∧z=vI t∧CoI w5 τ6 s q S1 (.slice ub um ud) t x wr) (fun _ z _=>Nt-(intOf z).toNat)
        case atStart=>exact⟨0,by omega,rfl,hI0.out⟩
        case round=>
          obtain⟨t,ht,rfl,τk,Sk,a,nn,c,ps,rfl,hk,kk,fk,etsv,etx,hsr,hpl,hple⟩:=hrel;clear hI0
          by_cases hlt2:t<Nt
          · have ht6:t<Sk.txs.length:=by rw[fk.len,hNt.out];exact hlt2
            have hlen5:w4.heap.size≤w5.heap.size:=c5.size;have tuk:∀b,InB (.slice ub um ud) b→τk b=1000:=fun b hb=>(kk.tg b (by have:=(hubase.out.lt hb).2;omega)).trans (htu7.out b hb);have hps:ps.length=nn:=by obtain⟨_,_,e,_⟩:=hsr;injection e with _ e2 _;exact e2.symm
            obtain⟨g,gc,hgv,hgo⟩:=owns_get hk.thr (by decide) ht6;have x0:=(hgo 0 (by decide)).1;rw[show t*1+0=t by omega] at x0;have e1:(Sk.txs.map fun x=>pV x.xp).getD t .nilFunc=pV (Sk.tx t).xp:=by simp[StD.tx,List.getD_eq_getElem?_getD,ht6]
            rw[e1] at x0;rw[etsv,htv.out] at hgv;injection hgv with g1 g2 g3
            subst g1;have hxo:=hk.ok.x t ht6;have htot:=hk.ok.tt;have hX1:S1.tx t=Sk.tx t:=(etx t (Nat.le_refl _)).symm;have hrls:=S1.rl_succ (show t<S1.txs.length by rw[hNt.out];exact hlt2);rw[hX1] at hrls;have hrowK:=hk.tok ht6
            have htkN:(Sk.tx t).took.length≤100000:=by
              unfold StD.tot at htot
              have:(Sk.tx t).took.length≤(Sk.txs.map fun x=>x.took.length).sum:=by
                have e:Sk.tx t=Sk.txs[t]:=by simp[StD.tx,List.getD_eq_getElem?_getD,ht6]
                rw[e];exact mem_sum (List.mem_map.2 ⟨_,List.getElem_mem ht6,rfl⟩)
              omega
            obtain⟨nr,hnr⟩:∃nr,(Sk.tx t).L.roots.length=nr:=⟨_,rfl⟩;obtain⟨Nk,hNk⟩:∃Nk,(Sk.tx t).took.length=Nk:=⟨_,rfl⟩;rw[hnr,hNk] at hrls;obtain⟨xp,hxp⟩:∃xp,(Sk.tx t).xp=xp:=⟨_,rfl⟩;obtain⟨lp,hlp⟩:∃lp,(Sk.tx t).lp=lp:=⟨_,rfl⟩;have x4:wr.cell? ⟨xp,4,none⟩=some (pV lp):=by rw[←hxp,←hlp];exact(hk.txc ht6 4 _ rfl).1
            rw[hxp] at x0;obtain⟨M,H1,H2,H3⟩:=hk;have or:=roots_is H1 (H2.x t ht6).l (fun u hu=>(hxo.l.u u hu).1) ⟨by have:=hxo.f.1;omega,by have:=hxo.f.2.1;omega,by have:=hxo.f.2.2.1;omega,by have:=hxo.f.2.2.2;omega⟩;rw[hlp] at or;have hk:St wr τk s q Sk:=⟨M,H1,H2,H3⟩;have hrf:=roots_few hxo.f;rw[hnr] at hrf;have hnrn:nr+Nk≤nn:=by omega
            obtain⟨a1,c1,hrun1,hrow1⟩:=hsr.take (hi:=nr) (by omega);obtain⟨a2,c2,hrun2,hrow2⟩:=hsr.drop (lo:=nr) (by omega);obtain⟨ka,kc,hkv⟩:=owns_slice hrowK;rw[hNk] at hkv;have hnn2:Hid (nn=nr+Nk+S1.rl (t+1)):=by show nn=_;omega
            have hC':=hid hC;clear hC H1 H2 H3 hgo g2 g3 e1 hrls htot;replace hnr:=hid hnr;replace hNk:=hid hNk;replace hxp:=hid hxp;replace hlp:=hid hlp;replace hps:=hid hps;replace hpl:=hid hpl;replace hX1:=hid hX1;replace hkv:=hid hkv;replace etsv:=hid etsv;replace etx:=hid etx;go_wp2_with fail
            refine or.mono ?_;rintro en w7 ⟨v7,rfl,hr7,c7⟩;clear or x0;obtain⟨ra,rc,hrv⟩:=hr7.sliceN (n:=nr) (by rw[nI_len];exact hnr.out);subst v7;clear hr7;have kd:Calm w7 w7.drew:=(Fr.refl _ _).drew;have c7d:=c7.trans kd;have x4d:=c7d.cellAt x4 id;have hkd:=hk.calm c7d;have orp:=lreplace_is hkd ht6 (hrow1.calm c7d).row (by rw[List.length_take];have h1:=hps.out;have h2:=hnr.out;omega) (fun p hp=>hple p (List.mem_of_mem_take hp)) (fun b hb=>by have h1:=tuk b ((hrow1.calm c7d).tag b hb);omega);rw[hlp.out] at orp;go_wp2_with fail
            refine wp_region_mix [(true,0),(true,1),(true,2),(true,3),(true,4),(true,5),(true,6),(false,7)] (fun w'=>w'.cell? ⟨xp,4,none⟩=some (pV lp)) (by kernel_rfl) (by kernel_rfl) x4d ?_;refine mix_read (pV xp) rfl rfl (fun w' hw'=>?_) (fun _ _ _ h=>h) ?_
            · simp[go_sem]
            refine mix_read (pV xp) rfl rfl (fun w' hw'=>?_) (fun _ _ _ h=>h) ?_
            · simp[go_sem]
            refine mix_read (.pointer (some ⟨xp,4,none⟩)) rfl rfl (fun w' hw'=>?_) (fun _ _ _ h=>h) ?_
            · simp[go_sem]
            refine mix_read (pV lp) rfl rfl (fun w' hw'=>?_) (fun _ _ _ h=>h) ?_
            · simp[go_sem,hw']
            refine mix_read (.slice a nn c) rfl rfl (fun w' hw'=>?_) (fun _ _ _ h=>h) ?_
            · simp[go_sem]
            refine mix_read (vI (nr:Int)) rfl rfl (fun w' hw'=>?_) (fun _ _ _ h=>h) ?_
            · simp[go_sem]
            refine mix_read (.slice a1 nr c1) rfl rfl (fun w' hw'=>?_) (fun _ _ _ h=>h) ?_
            · simp[go_sem,hrun1]
            refine mix_step rfl rfl ?_;go_wp2_with fail
            refine orp.mono ?_;rintro en w8 ⟨⟨bb,rfl⟩,τ8,L',hk8,K8,hls⟩;clear orp;have hxo8:=hk8.ok.x t (by simpa[StD.setX] using ht6);obtain⟨X8,hX8⟩:∃X8:TxD,({ Sk.tx t with L:=L' } : TxD)=X8:=⟨_,rfl⟩;rw[hX8] at hk8;have e8:(Sk.setX t X8).tx t=X8:=StD.tx_set ht6 X8;rw[hX8,e8] at hxo8;have ex8:X8.xp=xp:=by rw[←hX8];exact hxp.out
            have et8:X8.tv = .slice ka Nk kc:=by rw[←hX8];exact hkv.out
            have ek8:X8.took=(Sk.tx t).took:=by rw[←hX8]
            have ht8:t<(Sk.setX t X8).txs.length:=by simpa[StD.setX] using ht6
            have hc8:=hk8.txc ht8;rw[e8,ex8] at hc8;have x48:w8.cell? ⟨xp,4,none⟩=some (pV lp):=by have:=(hc8 4 _ rfl).1;rw[show X8.lp=lp from by rw[←hX8];exact hlp.out] at this;exact this
            have x58:w8.cell? ⟨xp,5,none⟩=some (.slice ka Nk kc):=by have:=(hc8 5 _ rfl).1;rw[et8] at this;exact this
            refine⟨x48,?_⟩;refine mix_end ?_;have kd8:Calm w8 w8.drew:=(Fr.refl _ _).drew;have x5d:=kd8.cellAt x58 id;have tuk8:∀b,InB (.slice ub um ud) b→¬τk b<500:=fun b hb e=>by have h1:=tuk b hb;omega
            have hrow28:=((hrow2.calm c7d).fr K8.fr tuk8).calm kd8;have htok8:=(hk8.calm kd8).tok ht8;rw[e8,et8,ek8] at htok8
            have oplc:=place_is htok8 hrow28 (by rw[hNk.out,List.length_drop];have h1:=hps.out;omega) (fun b hb e=>by
              have h1:=tuk b hb;obtain⟨M,H1,H2,_⟩:=hk8;have h2:=H1.tag (10+8*t+6) b (by rw[(H2.x t ht8).k,e8,et8];exact e);have h3:=K8.tg b (by have:=(hubase.out.lt hb).2;have:=kk.size;have:=c7d.size;omega)
              omega) htkN (fun p hp=>hple p (List.mem_of_mem_drop hp))
            have hfr8:=K8.fr;clear x4 x4d x48 hc8;go_wp2_with fail
            refine wp_region_mix [(true,0),(true,1),(true,2),(true,3),(true,4),(true,5),(true,6),(false,7),(false,8)] (fun w'=>w'.cell? ⟨xp,5,none⟩=some (.slice ka Nk kc)) (by kernel_rfl) (by kernel_rfl) x5d ?_;refine mix_read (pV xp) rfl rfl (fun w' hw'=>?_) (fun _ _ _ h=>h) ?_
            · simp[go_sem]
            refine mix_read (pV xp) rfl rfl (fun w' hw'=>?_) (fun _ _ _ h=>h) ?_
            · simp[go_sem]
            refine mix_read (.pointer (some ⟨xp,5,none⟩)) rfl rfl (fun w' hw'=>?_) (fun _ _ _ h=>h) ?_
            · simp[go_sem]
            refine mix_read (.slice ka Nk kc) rfl rfl (fun w' hw'=>?_) (fun _ _ _ h=>h) ?_
            · simp[go_sem,hw']
            refine mix_read (.slice a nn c) rfl rfl (fun w' hw'=>?_) (fun _ _ _ h=>h) ?_
            · simp[go_sem]
            refine mix_read (vI (nr:Int)) rfl rfl (fun w' hw'=>?_) (fun _ _ _ h=>h) ?_
            · simp[go_sem]
            refine mix_read (.slice a2 (nn-nr) c2) rfl rfl (fun w' hw'=>?_) (fun _ _ _ h=>h) ?_
            · simp[go_sem,hrun2]
            refine mix_step rfl rfl ?_;go_wp2_with fail
            refine oplc.mono ?_;rintro en w9 ⟨pa,pc,rfl,hP9,hown9,f9⟩;clear oplc;obtain⟨M8,H18,H28,H38⟩:=hk8.calm kd8;have hsx:¬InB (.slice ka Nk kc) xp:=fun e=>H18.apart (t:=10+8*t+6) (u:=10+8*t) (k:=xp) (by omega) (by rw[(H28.x t ht8).k,e8,et8];exact e) (by rw[(H28.x t ht8).c,e8];exact ex8.symm)
            have hxp9:OwnL w9 xp (TxD.cs t X8):=by
              have:=((hk8.calm kd8).txc ht8);rw[e8,ex8] at this;exact this.fr f9 hsx
            have x59:w9.cell? ⟨xp,5,none⟩=some (.slice ka Nk kc):=by have:=(hxp9 5 _ rfl).1;rw[et8] at this;exact this
            have hlk:(reI (Sk.tx t).took (ps.drop nr) (Sk.tx t).took.length).length=(Sk.tx t).took.length:=reI_len _ _ _
            obtain⟨τ9,hk9,K9⟩:=St.setT (x':={ X8 with took:=reI (Sk.tx t).took (ps.drop nr) (Sk.tx t).took.length }) H18 H28 H38 ht8 (by rw[e8,ex8,et8];exact f9.mono (fun b _ e=>.inr e)) (by rw[e8,ex8];exact hxp9) (by
                show w9.ownsRow 0 _ 2 X8.tv (reI (Sk.tx t).took (ps.drop nr) (Sk.tx t).took.length).length _
                rw[et8,hlk];exact hown9) (fun b hb=>.inl (by rw[e8];exact hb)) (by rw[e8]) (by rw[e8]) (by rw[e8]) ⟨hxo8.l,hxo8.f,hxo8.m,hxo8.i,fun x hx=>by
                obtain⟨j,hj,rfl⟩:=List.mem_iff_getElem.1 hx;have hj2:j<(Sk.tx t).took.length:=by rw[←hlk];exact hj
                have h9:=reI_get (Sk.tx t).took (ps.drop nr) (Sk.tx t).took.length j hj2;rw[if_pos hj2,List.getD_eq_getElem?_getD,List.getElem?_eq_getElem hj] at h9;have h9:(reI (Sk.tx t).took (ps.drop nr) (Sk.tx t).took.length)[j]=_:=h9;rw[h9];refine⟨?_,(hxo.k _ (get_mem dI hj2)).2⟩;show(ps.drop nr).getD j 0≤131072;refine hple _ (List.mem_of_mem_drop (get_mem 0 ?_));rw[List.length_drop];have h1:=hps.out;have h2:=hNk.out
                omega⟩ (by
                have h1:=StD.tot_set (S:=Sk.setX t X8) (x':={ X8 with took:=reI (Sk.tx t).took (ps.drop nr) (Sk.tx t).took.length }) ht8;rw[e8,ek8] at h1;have h2:({ X8 with took:=reI (Sk.tx t).took (ps.drop nr) (Sk.tx t).took.length } : TxD).took.length=(Sk.tx t).took.length:=hlk;have:=H38.tt
                omega)
            have hdl2:(ps.drop nr).length=nn-nr:=by rw[List.length_drop];have h1:=hps.out;omega
            have hfin:CoI w5 τ6 s q S1 (.slice ub um ud) (t+1) (.slice pa ((ps.drop nr).length-(Sk.tx t).took.length) pc) w9:=by
              refine⟨τ9,_,_,_,_,_,rfl,hk9,((kk.trans (KeepT.calm τk c7d)).trans K8).trans ((KeepT.calm τ8 kd8).trans K9),(fk.trans (Fix.setX ht6 (by rw[←hX8]) (by rw[←hX8]))).trans (Fix.setX ht8 (by rw[e8]) (by rw[e8])),etsv.out,fun j hj=>?_,hP9,?_,fun p hp=>hple p (List.mem_of_mem_drop (List.mem_of_mem_drop hp))⟩
              · rw[StD.tx_far (show j≠t by omega),StD.tx_far (show j≠t by omega)];exact etx.out j (by omega)
              · rw[List.length_drop,hdl2,hNk.out];have h1:=hnn2.out;omega
            have hfe:(ps.drop nr).length-(Sk.tx t).took.length=nn-nr-Nk:=by rw[hdl2,hNk.out]
            rw[hfe] at hfin ⊢;replace hfin:=hid hfin;refine⟨x59,?_⟩;refine mix_step rfl rfl ?_;unfold Oper.wp;go_simp
            first|refine⟨x59,?_⟩|skip
            refine mix_end ?_;clear hP9 hown9 f9 hk9 K9 H18 H28 H38 hxp9 hlk hk8 hkd hk kk fk htok8 hrow28 hrow1 hrow2 hsr hxo hxo8 K8 hfr8;go_wp2_with fail
            exact⟨⟨t+1,by omega,by simp,hfin.out⟩,by simp[intOf] <;> omega⟩
          · obtain rfl:t=Nt:=by omega
            have hfin:=hid (hC.out _ _ _ hk kk fk);clear hC hk kk fk etx hsr;go_wp2
            go_ret2
            exact hfin.out
  · have dph:decide (S.D.ph≠0)=true:=by simp[hph]
    rw[dph] at olv;replace hph:=hid hph;clear h hr dph hch0;go_enter Tryz.func17,Tryz.ntmps17;go_wp2_with fail
    refine olv.mono ?_;rintro en w1 ⟨rfl,e1⟩;subst w1;clear olv;go_wp2
    go_ret2
    exact hno.out _ (Fr.refl _ _)
end
section
open Go.RowKit Go.Shelf
theorem six_rg {l:List Nat}(h:l.length=6):iVs (nI l)=[rg l 0,rg l 1,rg l 2,rg l 3,rg l 4,rg l 5]:=by
  match l,h with
  | [a,b,c,d,e,f],_=>rfl
theorem info_int1:∃i,Tryz.prog.info? 3=some i∧i.zero=some (vI 0)∧i.size=1∧i.bytes=8:=by
  have h:(Tryz.prog.info? 3).map (fun i=>(i.zero,i.size,i.bytes))=some (some (vI 0),1,8):=by kernel_rfl
  cases hi:Tryz.prog.info? 3 with
  | none=>rw[hi] at h;cases h
  | some i=>
    rw[hi] at h;injection h with h
    injection h with h1 h2
    injection h2 with h2 h3
    exact⟨i,rfl,h1,h2,h3⟩
theorem thC_R (x:ThD):∀ (j:Nat) (u:Value),([rg x.R 0,rg x.R 1,rg x.R 2,rg x.R 3,rg x.R 4,rg x.R 5]:List Value)[j]?=some u→(thC x)[2+j]?=some u
  | 0,_,h=>h
  | 1,_,h=>h
  | 2,_,h=>h
  | 3,_,h=>h
  | 4,_,h=>h
  | 5,_,h=>h
  | j+6,_,h=>by simp at h
theorem thC_V (x:ThD):∀ (j:Nat) (u:Value),([rg x.V 0,rg x.V 1,rg x.V 2,rg x.V 3,rg x.V 4,rg x.V 5]:List Value)[j]?=some u→(thC x)[8+j]?=some u
  | 0,_,h=>h
  | 1,_,h=>h
  | 2,_,h=>h
  | 3,_,h=>h
  | 4,_,h=>h
  | 5,_,h=>h
  | j+6,_,h=>by simp at h
theorem rg_one (l:List Nat):∀u∈([rg l 0,rg l 1,rg l 2,rg l 3,rg l 4,rg l 5]:List Value),u.oneCell'=true:=by simp[rg,Value.oneCell']
def TRtP (w:World)(x:ThD)(e:Ending)(w':World):Prop:=∃v,e = .returned v∧ORow w' w.heap.size v (nI (x.R++x.V))∧Calm w w'
set_option maxRecDepth 8000 in
theorem troots_is (w:World){x:ThD}(hR:x.R.length=6)(hV:x.V.length=6):Calls Tryz.prog 45 #[thV x] w (TRtP w x):=by
  replace hR:=hid hR;replace hV:=hid hV;obtain⟨i0,hi,hz0,hz1,hz2⟩:=info_int1;obtain⟨W,hWW⟩:∃W,w.alloc (.cells #[vI x.b,vI x.p,rg x.R 0,rg x.R 1,rg x.R 2,rg x.R 3,rg x.R 4,rg x.R 5,rg x.V 0,rg x.V 1,rg x.V 2,rg x.V 3,rg x.V 4,rg x.V 5,.bool x.live] 34)=W:=⟨_,rfl⟩;have k1:Calm w W:=by rw[←hWW];exact(Fr.refl _ _).alloc _
  have hsz:W.heap.size=w.heap.size+1:=by rw[←hWW];simp
  have o:OwnL W w.heap.size (thC x):=by rw[←hWW];exact OwnL.nth2 w [_,_,_,_,_,_,_,_,_,_,_,_,_,_,_] _ _ rfl
  simp only[rg,List.getD_eq_getElem?_getD] at hWW;simp only[thV,rg];have o':=hid o;go_enter Tryz.func45,Tryz.ntmps45;have oneR:=rg_one x.R;have oneV:=rg_one x.V
  go_wp2_with (first
    | (at_make
       go_must (refine wpList_make_own _ rfl _ _ 23 rfl W.heap.size 3 i0 (vI 0) 1 Tryz.underlying23 hi hz0 hz1 .i64 .i64 12 12 rfl rfl rfl (by rw[hz2];omega) (by unfold maxLen;omega) (Nat.le_refl _) ?_)
       intro w3 hown0 hgrow;have c3:Calm W w3:=Fr.grown (Fr.refl _ _) hgrow (fun k hk=>by cases hk)
       have hown:w3.ownsRow 0 3 1 (.slice (some ⟨w.heap.size+1,0,none⟩) 0 12) 0 []:=by
         have h9:ORow w3 W.heap.size (.slice (some ⟨W.heap.size,0,none⟩) 0 12) []:=hown0;have h9:=h9.mono (Nat.zero_le _);rw[hsz] at h9;exact h9
       clear hown0 hgrow;have o3:=hid (o'.out.calm c3);replace hown:=hid hown;have c3':=hid c3;have hb3:w.heap.size≤w3.heap.size:=Nat.le_trans k1.size c3.size;replace hb3:=hid hb3;clear c3
       have tok1:True:=trivial)
    | (at_builtin
       have _t:=tok1
       go_must (refine wpList_appGL giN rfl _ _ rfl (.slice (some ⟨w.heap.size+1,0,none⟩) 0 12) 0 [] hown.out rfl ⟨w.heap.size,2,none⟩ 6 6 [rg x.R 0,rg x.R 1,rg x.R 2,rg x.R 3,rg x.R 4,rg x.R 5] rfl rfl oneR (fun j u hj=>by rw[addr_add];exact(o3.out _ _ (thC_R x j u hj)).1) (by omega) ?_)
       intro v4 w4 hr4 f4 hn4;have o4:=hid (o3.out.fr f4 (fun e=>by have:=InB.mk1 e;omega));have K4:Hid (Calm w w4):=(k1.trans c3'.out).join f4 (fun j hj e=>by have:=InB.mk1 e;omega)
       have hb4:Hid (∀b,InB v4 b→w.heap.size+1≤b):=fun b hb=>by
         rcases hn4 b hb with e|e
         · rw[InB.mk1 e];exact Nat.le_refl _
         · have:=c3'.out.size;omega
       obtain⟨va,vc,rfl⟩:=owns_slice hr4;replace hr4:=hid hr4;clear f4 hn4 hown o3 c3' tok1
       have tok2:True:=trivial)
    | (at_builtin
       have _t:=tok2
       go_must (refine wpList_appGL giN rfl _ _ rfl (.slice va (0+6) vc) (0+6) ([]++[rg x.R 0,rg x.R 1,rg x.R 2,rg x.R 3,rg x.R 4,rg x.R 5]) hr4.out rfl ⟨w.heap.size,8,none⟩ 6 6 [rg x.V 0,rg x.V 1,rg x.V 2,rg x.V 3,rg x.V 4,rg x.V 5] rfl rfl oneV (fun j u hj=>by rw[addr_add];exact(o4.out _ _ (thC_V x j u hj)).1) (by omega) ?_)
       intro v5 w5 hr5 f5 hn5
       go_must (
         have K5:Calm w w5:=K4.out.join f5 (fun j hj e=>by have:=hb4.out j e;omega)
         have hfin:TRtP w x (.returned v5) w5:=by
           refine⟨v5,rfl,ORow.base (base:=0) ?_ (fun b hb=>?_),K5⟩
           · have e1:(nI (x.R++x.V)).length=12:=by rw[nI_len,List.length_append,hR.out,hV.out]
             have e2:iVs (nI (x.R++x.V))=[]++[rg x.R 0,rg x.R 1,rg x.R 2,rg x.R 3,rg x.R 4,rg x.R 5]++[rg x.V 0,rg x.V 1,rg x.V 2,rg x.V 3,rg x.V 4,rg x.V 5]:=by
               rw[nI_app];have e3:iVs (nI x.R++nI x.V)=iVs (nI x.R)++iVs (nI x.V):=by simp
               rw[e3,six_rg hR.out,six_rg hV.out];rfl
             show World.ownsRow w5 0 3 1 v5 (nI (x.R++x.V)).length (iVs (nI (x.R++x.V)));rw[e1,e2];exact hr5
           · rcases hn5 b hb with e|e
             · have:=hb4.out b e;omega
             · have:=K4.out.size;omega
         obtain⟨wa,wc,rfl⟩:=owns_slice hr5)
       replace hfin:=hid hfin
       clear hr5 f5 hn5 K5 tok2 o4 K4 hb4 hr4))
  go_ret;exact hfin.out
end
section
open Go.RowKit Go.Shelf
theorem six_cells {ps:List Nat}(k:Nat)(h:k+6≤ps.length){w:World}{b off:Nat}(hc:∀j,j<ps.length→w.cell? ⟨b,off+j,none⟩=some (vI (ps.getD j 0:Nat))) :
    ∀j u,([rg ps k,rg ps (k+1),rg ps (k+2),rg ps (k+3),rg ps (k+4),rg ps (k+5)]:List Value)[j]?=some u→w.cell? ((⟨b,off+k,none⟩:Addr).add j)=some u
  | 0,u,hj=>by injection hj with hj;rw[addr_add,←hj];exact hc k (by omega)
  | 1,u,hj=>by injection hj with hj;rw[addr_add,←hj];exact hc (k+1) (by omega)
  | 2,u,hj=>by injection hj with hj;rw[addr_add,←hj];exact hc (k+2) (by omega)
  | 3,u,hj=>by injection hj with hj;rw[addr_add,←hj];exact hc (k+3) (by omega)
  | 4,u,hj=>by injection hj with hj;rw[addr_add,←hj];exact hc (k+4) (by omega)
  | 5,u,hj=>by injection hj with hj;rw[addr_add,←hj];exact hc (k+5) (by omega)
  | j+6,u,hj=>by simp at hj
theorem run_copy6 {w:World}{B o:Nat}{vs:List Value}(hB:OwnL w B vs)(ho:o+6≤vs.length){ps:List Nat}(k:Nat)(h:k+6≤ps.length){b off c d1:Nat}(hc:∀j,j<ps.length→w.cell? ⟨b,off+j,none⟩=some (vI (ps.getD j 0:Nat)))(ty:TypeId) :
    (Builtin.copy_ #[23,23] ty #[.slice (some ⟨B,o,none⟩) 6 d1,.slice (some ⟨b,off+k,none⟩) 6 c]).run Tryz.prog w = .ok (goInt 6) (w.setCells B o [rg ps k,rg ps (k+1),rg ps (k+2),rg ps (k+3),rg ps (k+4),rg ps (k+5)]):=by
  obtain⟨i0,hi,hz0,hz1,hz2⟩:=info_int1;refine run_copy_cells w 23 23 ty 3 B o 6 d1 ⟨b,off+k,none⟩ 6 c [rg ps k,rg ps (k+1),rg ps (k+2),rg ps (k+3),rg ps (k+4),rg ps (k+5)] Tryz.underlying23 (by rw[hi];simp[hz1]) rfl (six_cells k h hc) (fun j hj=>?_) (fun j hj=>?_) (by simp[rg,Value.oneCell'])
  · have hj':j<6:=hj;obtain⟨v,hv⟩:∃v,vs[o+j]?=some v:=⟨vs[o+j]'(by omega),List.getElem?_eq_getElem _⟩;rw[(hB _ v hv).1];rfl
  · have hj':j<6:=hj;obtain⟨v,hv⟩:∃v,vs[o+j]?=some v:=⟨vs[o+j]'(by omega),List.getElem?_eq_getElem _⟩;exact(hB _ v hv).2
theorem res_ct {fn:Func}{i j:Nat}{W:World}{B5:Nat}{x:ThD}{v:Value}{tmps:Array Value}(hf:fn.results = #[.cell i 34,.tmp j])(h5:tmps[i]?.getD undef = .pointer (some ⟨B5,0,none⟩))(h6:tmps[j]?.getD undef=v)
    (t:OwnL W B5 (thC x)):(results fn tmps).run Tryz.prog W = .ok (.tuple #[thV x,v]) W:=by
  simp only[thC,rg] at t;obtain⟨y0,y1,y2,y3,y4,y5,y6,y7,y8,y9,y10,y11,y12,y13,y14⟩:=OwnL.ce15 t;simp[results,hf,h5,h6,go_sem,thV,rg,y0,y1,y2,y3,y4,y5,y6,y7,y8,y9,y10,y11,y12,y13,y14]
set_option maxRecDepth 8000 in
theorem treplace_is {w:World}{x:ThD}{a:Option Addr}{c:Nat}{ps:List Nat}{T:Nat→Prop}(hs:SRow T w (.slice a 12 c) ps)(hT:∀b,T b→b<w.heap.size) :
    Calls Tryz.prog 46 #[thV x,.slice a 12 c] w fun e w'=>e = .returned (.tuple #[thV { x with R:=ps.take 6,V:=ps.drop 6 },.bool true])∧Calm w w':=by
  obtain⟨a1,c1,hrun1,hrow1⟩:=hs.take (hi:=6) (by omega);obtain⟨a2,c2,hrun2,hrow2⟩:=hs.drop (lo:=6) (by omega);have hrun1':∀W,(Instr.slice 23 (.slice a 12 c) none (some (vI 6)) none).run Tryz.prog W = .ok (.slice a1 6 c1) W:=hrun1;have hrun2':∀W,(Instr.slice 23 (.slice a 12 c) (some (vI 6)) none none).run Tryz.prog W = .ok (.slice a2 6 c2) W:=hrun2;have hl:ps.length=12:=by obtain⟨_,_,e,_⟩:=hs;injection e with _ e2 _;exact e2.symm
  obtain⟨_,_,e1,_,hr1⟩:=hrow1;obtain⟨_,_,e2,_,hr2⟩:=hrow2;injection e1 with q1 q2 q3
  injection e2 with q4 q5 q6
  have hl1:(ps.take 6).length=6:=q2.symm;have hl2:(ps.drop 6).length=6:=q5.symm;obtain⟨b1,o1,f1,t1,hc1⟩:=hr1.resolve_left (fun e=>by rw[e.2] at hl1;simp at hl1);obtain⟨b2,o2,f2,t2,hc2⟩:=hr2.resolve_left (fun e=>by rw[e.2] at hl2;simp at hl2);rw[←q1] at f1;rw[←q4] at f2;subst f1 f2;clear q1 q2 q3 q4 q5 q6 hr1 hr2 hs hrun1 hrun2;obtain⟨R,hR⟩:∃R,ps.take 6=R:=⟨_,rfl⟩;obtain⟨V,hV⟩:∃V,ps.drop 6=V:=⟨_,rfl⟩;rw[hR] at hl1 hc1 ⊢;rw[hV] at hl2 hc2 ⊢;clear hR hV hl;have hlt1:=hT b1 t1;have hlt2:=hT b2 t2;obtain⟨W,hWW⟩:∃W,(w.alloc (.cells #[vI x.b,vI x.p,rg x.R 0,rg x.R 1,rg x.R 2,rg x.R 3,rg x.R 4,rg x.R 5,rg x.V 0,rg x.V 1,rg x.V 2,rg x.V 3,rg x.V 4,rg x.V 5,.bool x.live] 34)).alloc (.cells #[vI 0,vI 0,vI 0,vI 0,vI 0,vI 0,vI 0,vI 0,vI 0,vI 0,vI 0,vI 0,vI 0,vI 0,.bool false] 34)=W:=⟨_,rfl⟩;have k0:Calm w W:=by rw[←hWW];exact((Fr.refl _ _).alloc _).alloc _
  have o7:OwnL W w.heap.size (thC x):=by rw[←hWW];exact(OwnL.nth2 w [_,_,_,_,_,_,_,_,_,_,_,_,_,_,_] _ _ (by simp)).alloc _
  have o8:OwnL W (w.heap.size+1) [vI 0,vI 0,vI 0,vI 0,vI 0,vI 0,vI 0,vI 0,vI 0,vI 0,vI 0,vI 0,vI 0,vI 0,.bool false]:=by rw[←hWW];exact OwnL.nth2 (w.alloc (.cells #[vI x.b,vI x.p,rg x.R 0,rg x.R 1,rg x.R 2,rg x.R 3,rg x.R 4,rg x.R 5,rg x.V 0,rg x.V 1,rg x.V 2,rg x.V 3,rg x.V 4,rg x.V 5,.bool x.live] 34)) [_,_,_,_,_,_,_,_,_,_,_,_,_,_,_] _ _ (by simp)
  have kd:Calm W W.drew:=(Fr.refl _ _).drew;have cp1:=fun ty=>run_copy6 (w:=W.drew) (d1:=6) (o7.calm kd) (o:=2) (by show 2+6≤15;decide) 0 (by omega) (b:=b1) (off:=o1) (c:=c1) (fun j hj=>(k0.trans kd).cellAt (hc1 j hj) id) ty;have o73:=(o7.calm kd).setsAt 2 [rg R 0,rg R 1,rg R 2,rg R 3,rg R 4,rg R 5] (by show 2+6≤15;decide);have F3:Fr (fun k=>k=w.heap.size) W.drew (W.drew.setCells w.heap.size 2 [rg R 0,rg R 1,rg R 2,rg R 3,rg R 4,rg R 5]):=Fr.setCells (S:=fun k=>k=w.heap.size) rfl _ _ (Fr.refl _ _);simp only[Nat.zero_add,Nat.add_zero] at cp1;obtain⟨W3,hW3⟩:∃W3,W.drew.setCells w.heap.size 2 [rg R 0,rg R 1,rg R 2,rg R 3,rg R 4,rg R 5]=W3:=⟨_,rfl⟩;rw[hW3] at cp1 o73 F3;have o83:=(o8.calm kd).fr F3 (by omega);have kd3:Calm W3 W3.drew:=(Fr.refl _ _).drew;have cp2:=fun ty=>run_copy6 (w:=W3.drew) (d1:=6) (o73.calm kd3) (o:=8) (by show 8+6≤15;decide) 0 (by omega) (b:=b2) (off:=o2) (c:=c2) (fun j hj=>kd3.cellAt (F3.cellAt ((k0.trans kd).cellAt (hc2 j hj) id) (by show ¬b2=_;omega)) id) ty;have o74:=(o73.calm kd3).setsAt 8 [rg V 0,rg V 1,rg V 2,rg V 3,rg V 4,rg V 5] (by show 8+6≤15;decide);have F4:Fr (fun k=>k=w.heap.size) W3.drew (W3.drew.setCells w.heap.size 8 [rg V 0,rg V 1,rg V 2,rg V 3,rg V 4,rg V 5]):=Fr.setCells (S:=fun k=>k=w.heap.size) rfl _ _ (Fr.refl _ _);simp only[Nat.zero_add,Nat.add_zero] at cp2;obtain⟨W4,hW4⟩:∃W4,W3.drew.setCells w.heap.size 8 [rg V 0,rg V 1,rg V 2,rg V 3,rg V 4,rg V 5]=W4:=⟨_,rfl⟩;rw[hW4] at cp2 o74 F4;have o84:=(o83.calm kd3).fr F4 (by omega);obtain⟨x2,hx2⟩:∃x2:ThD,({ x with R:=R,V:=V } : ThD)=x2:=⟨_,rfl⟩;have o75:OwnL W4 w.heap.size (thC x2):=by rw[←hx2];exact o74
  have hx2':=hid hx2;rw[hx2];simp only[rg,List.getD_eq_getElem?_getD] at hWW;simp only[thV,rg];have T1:=o84.whole (us:=(thC x2)) rfl;have F5:=frC W4 (w.heap.size+1) 0 (thC x2);have KK:Hid (Calm w (W4.setCells (w.heap.size+1) 0 (thC x2))):=((((k0.trans kd).join F3 (fun j hj e=>by omega)).trans kd3).join F4 (fun j hj e=>by omega)).join F5 (fun j hj e=>by omega);replace T1:=hid T1;replace cp1:=hid cp1;replace cp2:=hid cp2;replace hl1:=hid hl1;replace hl2:=hid hl2;clear o7 o8 o73 o74 F3 F4 F5 o83 hx2 hc1 hc2 hlt1 hlt2 k0 kd kd3;go_enter Tryz.func46,Tryz.ntmps46;go_wp2_with fail
  clear hWW;refine wp_region_mix [(true,0),(true,1),(true,2),(true,3),(false,4)] (fun _=>True) (by kernel_rfl) (by kernel_rfl) trivial ?_;refine mix_read (.pointer (some ⟨w.heap.size,2,none⟩)) rfl rfl (fun w' hw'=>?_) (fun _ _ _ h=>h) ?_
  · simp[go_sem]
  refine mix_read (.slice (some ⟨w.heap.size,2,none⟩) 6 6) rfl rfl (fun w' hw'=>?_) (fun _ _ _ h=>h) ?_
  · simp[go_sem]
  refine mix_read (.slice a 12 c) rfl rfl (fun w' hw'=>?_) (fun _ _ _ h=>h) ?_
  · simp[go_sem]
  refine mix_read (.slice (some ⟨b1,o1,none⟩) 6 c1) rfl rfl (fun w' hw'=>?_) (fun _ _ _ h=>h) ?_
  · simp[go_sem,hrun1']
  refine mix_step rfl rfl ?_;refine Lib.wp_copy_run _ (.tmp 11) (.tmp 13) 23 23 (by rfl) (.slice (some ⟨w.heap.size,2,none⟩) 6 6) (.slice (some ⟨b1,o1,none⟩) 6 c1) (by rfl) (by rfl) (cp1.out _) ?_;refine⟨trivial,mix_end ?_⟩;go_simp;go_wp2_with fail
  refine wp_region_mix [(true,0),(true,1),(true,2),(true,3),(false,4)] (fun _=>True) (by kernel_rfl) (by kernel_rfl) trivial ?_;refine mix_read (.pointer (some ⟨w.heap.size,8,none⟩)) rfl rfl (fun w' hw'=>?_) (fun _ _ _ h=>h) ?_
  · simp[go_sem]
  refine mix_read (.slice (some ⟨w.heap.size,8,none⟩) 6 6) rfl rfl (fun w' hw'=>?_) (fun _ _ _ h=>h) ?_
  · simp[go_sem]
  refine mix_read (.slice a 12 c) rfl rfl (fun w' hw'=>?_) (fun _ _ _ h=>h) ?_
  · simp[go_sem]
  refine mix_read (.slice (some ⟨b2,o2,none⟩) 6 c2) rfl rfl (fun w' hw'=>?_) (fun _ _ _ h=>h) ?_
  · simp[go_sem,hrun2']
  refine mix_step rfl rfl ?_;refine Lib.wp_copy_run _ (.tmp 16) (.tmp 18) 23 23 (by rfl) (.slice (some ⟨w.heap.size,8,none⟩) 6 6) (.slice (some ⟨b2,o2,none⟩) 6 c2) (by rfl) (by rfl) (cp2.out _) ?_;refine⟨trivial,mix_end ?_⟩;go_simp;simp only[thC,rg] at o75;obtain⟨d0,d1,d2,d3,d4,d5,d6,d7,d8,d9,d10,d11,d12,d13,d14⟩:=OwnL.ce15 o75;obtain⟨y0,z0,y1,z1,y2,z2,y3,z3,y4,z4,y5,z5,y6,z6,y7,z7,y8,z8,y9,z9,y10,z10,y11,z11,y12,z12,y13,z13,y14,z14⟩:=OwnL.cf15 o84;go_wp2;exact bodyPost_ret (v:=.tuple #[thV x2,.bool true]) (res_ct (i:=4) (j:=5) rfl rfl rfl T1.out) rfl ⟨rfl,KK.out⟩
end
section
open Go.RowKit Go.Shelf
structure KeepW (w:World)(τ:Nat→Nat)(w':World)(τ':Nat→Nat):Prop where
  fr:Fr (fun k=>τ k<500) w w'
  tg:∀b,b<w.heap.size→500≤τ b→τ' b=τ b
theorem KeepT.w {w w':World}{τ τ':Nat→Nat}(h:KeepT w τ w' τ'):KeepW w τ w' τ':=⟨h.fr,fun b hb _=>h.tg b hb⟩
structure KeepM (w:World)(τ:Nat→Nat)(w':World)(τ':Nat→Nat):Prop where
  fr:Fr (fun k=>τ k<603) w w'
  tg:∀b,b<w.heap.size→603≤τ b→τ' b=τ b
theorem KeepW.m {w w':World}{τ τ':Nat→Nat}(h:KeepW w τ w' τ'):KeepM w τ w' τ':=⟨h.fr.mono fun k _ e=>by omega,fun b hb e=>h.tg b hb (by omega)⟩
theorem KeepM.refl (w:World)(τ:Nat→Nat):KeepM w τ w τ:=⟨Fr.refl _ _,fun _ _ _=>rfl⟩
theorem KeepM.calm {w w':World}(τ:Nat→Nat)(c:Calm w w'):KeepM w τ w' τ:=⟨c.any,fun _ _ _=>rfl⟩
theorem KeepM.trans {w w1 w2:World}{τ τ1 τ2:Nat→Nat}(h:KeepM w τ w1 τ1)(k:KeepM w1 τ1 w2 τ2):KeepM w τ w2 τ2:=
  ⟨h.fr.join k.fr (fun j hj e=>by
    by_cases e2:603≤τ j
    · rw[h.tg j hj e2] at e;omega
    · show τ j<603;omega),fun b hb e=>by
    have h1:=h.tg b hb e
    rw[k.tg b (Nat.lt_of_lt_of_le hb h.fr.size) (by omega),h1]⟩
def d0:ThD:=⟨0,0,[],[],false⟩
structure McR (w:World)(τ:Nat→Nat)(mp sp:Nat)(Q:List (List (List Dd)))(tv hv ev:Value)(X:List ThD):Prop where
  c:OwnL w mp [pV sp,tv,hv,.int .i32 0,.int .u32 0,ev]
  h:w.ownsRow 0 34 15 hv X.length (X.flatMap thC)
  e:∃n xs,w.ownsRow 0 76 6 ev n xs∧n≤2000
  p:PrgIn (fun b=>τ b=603) w tv Q
  t0:τ mp=600
  t1:∀b,InB hv b→τ b=601
  t2:∀b,InB ev b→τ b=602
  n:X.length=Q.length
  ok:∀t,t<X.length→ThOk (Q.getD t []).length (X.getD t d0)
  pk:POk Q
theorem McR.keep {w w':World}{τ τ':Nat→Nat}{mp sp:Nat}{Q:List (List (List Dd))}{tv hv ev:Value}{X:List ThD}(h:McR w τ mp sp Q tv hv ev X)(k:KeepW w τ w' τ'):McR w' τ' mp sp Q tv hv ev X:=by
  have hmp:mp<w.heap.size:=h.c.lt (by simp);obtain⟨n,xs,he,hn⟩:=h.e;refine⟨h.c.fr k.fr (by rw[h.t0];omega),owns_frB h.h k.fr (fun b hb e=>by rw[h.t1 b hb] at e;omega),⟨n,xs,owns_frB he k.fr (fun b hb e=>by rw[h.t2 b hb] at e;omega),hn⟩,?_,?_,?_,?_,h.n,h.ok,h.pk⟩
  · exact(h.p.mono (T':=fun b=>τ b=603∧b<w.heap.size) (fun b hb e=>⟨e,hb⟩)).fr k.fr (fun b e e2=>by rw[e.1] at e2;omega) |>.mono (fun b _ e=>by rw[k.tg b e.2 (by rw[e.1];omega)];exact e.1)
  · rw[k.tg mp hmp (by rw[h.t0];omega)];exact h.t0
  · exact fun b hb=>(k.tg b (World.ownsRow.lt h.h b hb).2 (by rw[h.t1 b hb];omega)).trans (h.t1 b hb)
  · exact fun b hb=>(k.tg b (World.ownsRow.lt he b hb).2 (by rw[h.t2 b hb];omega)).trans (h.t2 b hb)
theorem McR.calm {w w':World}{τ:Nat→Nat}{mp sp:Nat}{Q:List (List (List Dd))}{tv hv ev:Value}{X:List ThD}(h:McR w τ mp sp Q tv hv ev X)(c:Calm w w'):McR w' τ mp sp Q tv hv ev X:=h.keep (KeepT.calm τ c).w
structure Mc (w:World)(τ:Nat→Nat)(s q mp:Nat)(S:StD)(Q:List (List (List Dd)))(tv hv ev:Value)(X:List ThD):Prop where
  st:St w τ s q S
  r:McR w τ mp S.sp Q tv hv ev X
variable {w:World}{τ:Nat→Nat}{s q mp:Nat}{S:StD}{Q:List (List (List Dd))}{tv hv ev:Value}{X:List ThD}
theorem Mc.calm {w':World}(h:Mc w τ s q mp S Q tv hv ev X)(c:Calm w w'):Mc w' τ s q mp S Q tv hv ev X:=⟨h.st.calm c,h.r.calm c⟩
theorem Mc.fresh (h:Mc w τ s q mp S Q tv hv ev X):∃τ0,Mc w τ0 s q mp S Q tv hv ev X∧TagK w τ τ0∧∀k,w.heap.size≤k→τ0 k=1000:=by
  obtain⟨τ0,h1,h2,h3⟩:=h.st.fresh;exact⟨τ0,⟨h1,h.r.keep ⟨Fr.refl _ _,fun b hb _=>h2 b hb⟩⟩,h2,h3⟩
theorem mroom_is (h:Mc w τ s q mp S Q tv hv ev X):Calls Tryz.prog 8 #[pV mp] w fun e w'=>e = .returned (vI S.D.A.room)∧Calm w w':=by
  have hs:=sroom_is h.st;have y0:=(h.r.c 0 _ rfl).1;clear h;go_enter Tryz.func8,Tryz.ntmps8;go_wp2_with fail
  refine hs.mono ?_;rintro e w' ⟨rfl,c⟩;clear hs;go_wp2;go_ret;exact⟨rfl,c⟩
noncomputable def sr0 (A:HS)(a:Nat):Nat:=if a=0 then 0 else sr A a
theorem mserial_is (h:Mc w τ s q mp S Q tv hv ev X){a:Nat}(ha:a≤131072):Calls Tryz.prog 25 #[pV mp,vI (a:Int)] w fun e w'=>e = .returned (vI (sr0 S.D.A a:Nat))∧Calm w w':=by
  have hs:=sserial_is h.st ha;have y0:=(h.r.c 0 _ rfl).1;clear h
  by_cases h0:a=0
  · subst h0;clear hs;go_enter Tryz.func25,Tryz.ntmps25;go_wp2;go_ret;exact⟨by simp[sr0],Fr.refl _ _⟩
  · have e0:((a:Int)==0)=false:=by simp;omega
    have e1:sr0 S.D.A a=sr S.D.A a:=if_neg h0;rw[e1];replace h0:=hid h0;replace e1:=hid e1;go_enter Tryz.func25,Tryz.ntmps25;go_wp2_with fail
    refine hs.mono ?_;rintro e w' ⟨⟨x,rfl⟩,c⟩;clear hs;go_wp2;go_ret;exact⟨rfl,c⟩
end
end Go.Proofs.YtdffnjikmkgjkaaGreat
