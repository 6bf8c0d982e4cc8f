import Derived.Test.YtgijglafnlbdbaaGreatTmBA
set_option linter.all false
set_option maxHeartbeats 8000000
set_option maxRecDepth 8000
namespace Go.Proofs.YtgijglafnlbdbaaGreat
open RowKit Shelf Proofs.Tryz
open Go renaming World->ag,Value->aA,Calls->aJ
section
open Go.ChangeShapes Go.WideShapes Go.ChangeAt Go.RowKit Go.Deep
section
variable {H:Type}{enc:TypeId × aA->H}{P:Program}{w:ag}{base:Nat}{held:Bool}
theorem zV{t e:TypeId}{k fuel:Nat}{R:List aA->Prop}{cs:List aA}{x:DataW H × List MemPlace}(ht:P.underlying t=some (.slice e))(hE:P.cellsOf e=k)(hk:0<k)
 (hR:∀fuel cs x,DataW.trod enc P w base (λ_=>true) held fuel e cs=some x->R cs)
 (hf:DataW.trod enc P w base (λ_=>true) held fuel t cs=some x) :
 ∃ (a:Option Addr) (n cap:Nat) (xs:List (List aA)),cs=[.slice a n cap]/\n<=maxLen/\xs.length=n/\(∀x∈xs,R x)/\∀i,i<n->∃g o,a=some ⟨g,o,none⟩/\g<w.heap.size/\∀j u,(xs.getD i [])[j]?=some u->w.cell? ⟨g,o+i*k+j,none⟩=some u:=by
 rcases open_slice ht hf with ⟨hcs,_⟩|⟨a,len,cap,m,n,D,Pl,hcs,hb,hl,hm,ZV,hx,hi⟩
 ·exact⟨none,0,0,[],hcs,by simp,rfl,by simp,λi hi=>absurd hi (Nat.not_lt_zero i)⟩
 ·simp at ZV;rw[hE] at hi
  have each:∀i,i<len->∃cs,(cs.length=k/\R cs)/\∀j u,cs[j]?=some u->w.cell? (a.add (i*k+j))=some u:=by
   intro i hil;obtain⟨cs,hc,P7⟩:=hi i (by omega);obtain⟨_,hlen,iW⟩:=World.cells?_some hc;refine⟨cs,⟨hlen,hR _ _ _ P7⟩,λj u hu=>?_⟩;have hj:j<k:=by rw[<-hlen];exact(List.getElem?_eq_some_iff.1 hu).1
   rw[<-Go.Deep.add_add,iW j hj,hu]
  have hL:∃xs:List (List aA),xs.length=len/\∀i,i<len->(((xs.getD i []).length=k/\R (xs.getD i []))/\∀j u,(xs.getD i [])[j]?=some u->w.cell? (a.add (i*k+j))=some u):=by
   refine⟨(List.range len).map (λi=>if h:i<len then (each i h).choose else []),by simp,λi hi=>?_⟩;have:=(each i hi).choose_spec;simpa[List.getD,hi] using this
  obtain⟨xs,xe,yh⟩:=hL;refine⟨some a,len,cap,xs,hcs,by omega,xe,λx hx=>?_,λi hil=>?_⟩
  ·obtain⟨i,hi,rfl⟩:=List.mem_iff_getElem.1 hx;have:=(yh i (by omega)).1.2;simpa[List.getD,hi] using this
  ·obtain⟨⟨N_,_⟩,jT⟩:=yh i hil;obtain⟨⟨qI,_⟩,dN⟩:=yh 0 (by omega);obtain⟨b,off,spot⟩:=a;have aai:(xs.getD 0 [])[0]?=some ((xs.getD 0 [])[0]'(by omega)):=lQ (by omega);have Ua:=dN 0 _ aai;have Lx:spot=none:=by simpa[Addr.add] using World.cell?_spot Ua
   subst Lx;rw[ei] at Ua;refine⟨b,off,rfl,nt w _ Ua,λj u hu=>?_⟩;have:=jT j u hu;rw[ei] at this
   rwa [Nat.add_assoc]
end
theorem ql{α β:Type}{r:β->α->Prop}(dx:β)(d:α):∀ {xs:List β},(∀x∈xs,∃o,r x o)->∃l:List α,l.length=xs.length/\∀i,i<xs.length->r (xs.getD i dx) (l.getD i d)
 | [],_=>⟨[],rfl,λi h=>absurd h (Nat.not_lt_zero i)⟩
 | x::xs,h=>by
   obtain⟨o,ho⟩:=h x (by simp);obtain⟨l,hl,hr⟩:=ql dx d (xs:=xs) (λy hy=>h y (by simp[hy]));refine⟨o::l,by simp[hl],λi hi=>?_⟩
   cases i with
   | zero=>exact ho
   | succ i=>exact hr i (by simpa using hi)
def QOk(Q:List (List (List Dd))):Prop:=∀t,t<Q.length->∀b,b<(Q.getD t []).length->∀i,i<((Q.getD t []).getD b []).length->(((Q.getD t []).getD b []).getD i dD).Ok
set_option maxRecDepth 100000 in
theorem open_prg{H:Type}{enc:TypeId × aA->H}{w:ag}{base:Nat}{held:Bool}{r:Reach}{b0:Nat}{v:aA}{d:DataW H}{p:List MemPlace}
 (hv:Value.okWide prog w r b0 22 v) (h:DataW.Trod enc prog w base (λ_=>true) held 22 v d p) :
 ∃Q:List (List (List Dd)),ed (λb=>b<w.heap.size) w v Q/\QOk Q/\Q.length<=maxLen:=by
 have e1:prog.cellsOf 3=1:=by kernel_rfl
 have e2:prog.cellsOf 50=1:=by kernel_rfl
 have e3:prog.cellsOf 38=1:=by kernel_rfl
 have e5:prog.cellsOf 52=5:=by kernel_rfl
 have hD:∀fuel cs x,DataW.trod enc prog w base (λ_=>true) held fuel 52 cs=some x->∃d:Dd,d.Ok/\cs=fW d:=λfuel cs x hx=>by
  obtain⟨ys,n,_,_,hl,SB,hf⟩:=DataW.trod_struct Tryz.underlying52 hx;rw[e5] at hl
  match cs,hl with
  | [c0,c1,c2,c3,c4],_=>
    match ys,SB with
    | [y0,y1,y2,y3,y4],_=>
      have f0:DataW.trod enc prog w base (λ_=>true) held n 3 (([c0,c1,c2,c3,c4].drop 0).take (prog.cellsOf 3))=some y0:=hf 0 _ rfl;have f1:DataW.trod enc prog w base (λ_=>true) held n 3 (([c0,c1,c2,c3,c4].drop 1).take (prog.cellsOf 3))=some y1:=hf 1 _ rfl;have f2:DataW.trod enc prog w base (λ_=>true) held n 3 (([c0,c1,c2,c3,c4].drop 2).take (prog.cellsOf 3))=some y2:=hf 2 _ rfl;have f3:DataW.trod enc prog w base (λ_=>true) held n 3 (([c0,c1,c2,c3,c4].drop 3).take (prog.cellsOf 3))=some y3:=hf 3 _ rfl;have f4:DataW.trod enc prog w base (λ_=>true) held n 3 (([c0,c1,c2,c3,c4].drop 4).take (prog.cellsOf 3))=some y4:=hf 4 _ rfl;simp only[e1] at f0 f1 f2 f3 f4;obtain⟨a,ha,wa⟩:=nA Tryz.underlying3 f0;obtain⟨b,hb,wb⟩:=nA Tryz.underlying3 f1;obtain⟨c,hc,wc⟩:=nA Tryz.underlying3 f2;obtain⟨d,hd,wd⟩:=nA Tryz.underlying3 f3;obtain⟨e,he,we⟩:=nA Tryz.underlying3 f4;simp at ha hb hc hd he;exact⟨⟨a,b,c,d,e⟩,⟨wa,wb,wc,wd,we⟩,by simp only[fW,ha,hb,hc,hd,he]⟩
 have hL:∀fuel cs x,DataW.trod enc prog w base (λ_=>true) held fuel 50 cs=some x->∃l:List Dd,∃u,cs=[u]/\gz (λb=>b<w.heap.size) w u l/\∀i,i<l.length->(l.getD i dD).Ok:=λfuel cs x hx=>by
  obtain⟨a,n,cap,xs,rfl,hn,rfl,hR,hc⟩:=zV (R:=λcs=>∃d:Dd,d.Ok/\cs=fW d) Tryz.underlying50 e5 (by decide) hD hx;obtain⟨l,hl,hr⟩:=ql (r:=λ(x:List aA) (d:Dd)=>d.Ok/\x=fW d) [] dD hR;refine⟨l,_,rfl,⟨a,cap,by rw[hl],λi hi=>?_⟩,λi hi=>(hr i (by omega)).1⟩;obtain⟨g,o,ha,hg,uA⟩:=hc i (by omega);exact⟨g,o,ha,hg,λj u hu=>uA j u (by rw[(hr i (by omega)).2];exact hu)⟩
 have hB:∀fuel cs x,DataW.trod enc prog w base (λ_=>true) held fuel 38 cs=some x->∃P:List (List Dd),∃u,cs=[u]/\gy (λb=>b<w.heap.size) w u P/\∀b,b<P.length->∀i,i<(P.getD b []).length->((P.getD b []).getD i dD).Ok:=λfuel cs x hx=>by
  obtain⟨a,n,cap,xs,rfl,hn,rfl,hR,hc⟩:=zV Tryz.underlying38 e2 (by decide) hL hx;obtain⟨l,hl,hr⟩:=ql [] [] hR;refine⟨l,_,rfl,⟨a,cap,by rw[hl],λi hi=>?_⟩,λi hi=>by obtain⟨u,h1,h2,h3⟩:=hr i (by omega);exact h3⟩;obtain⟨g,o,ha,hg,uA⟩:=hc i (by omega);obtain⟨u,h1,h2,h3⟩:=hr i (by omega);exact⟨g,o,u,ha,hg,by have:=uA 0 u (by rw[h1];rfl);simpa using this,h2⟩
 obtain⟨fuel,hf⟩:=h;obtain⟨a,n,cap,xs,hcs,hn,rfl,hR,hc⟩:=zV Tryz.underlying22 e3 (by decide) hB hf;obtain⟨a0,len,aa4,rfl⟩:=okWide_slice Tryz.underlying22 hv;simp[Value.cells] at hcs;obtain⟨rfl,rfl,rfl⟩:=hcs;obtain⟨l,hl,hr⟩:=ql [] [] hR;refine⟨l,⟨a0,aa4,by rw[hl],λi hi=>?_⟩,λi hi=>by obtain⟨u,h1,h2,h3⟩:=hr i (by omega);exact h3,by omega⟩;obtain⟨g,o,ha,hg,uA⟩:=hc i (by omega);obtain⟨u,h1,h2,h3⟩:=hr i (by omega);exact⟨g,o,u,ha,hg,by have:=uA 0 u (by rw[h1];rfl);simpa using this,h2⟩
end
def BOk(l:List Dd):Prop:=1<=l.length/\l.length<=6/\∀d∈l,d.Rt
def TOk(P:List (List Dd)):Prop:=P.length<=3/\∀b,b<P.length->BOk (P.getD b [])
theorem Dc{α:Type}{p:α->Prop}{l:List α}{x d:α}(h:∀i,i<l.length->p (l.getD i d))(hx:p x):∀i,i<(l++[x]).length->p ((l++[x]).getD i d):=λi hi=>by
 rw[b_] at hi;have hi:i<l.length+1:=hi
 by_cases e:i<l.length
 ·rw[aS,List.getElem?_append_left e,<-aS];exact h i e
 ·have e2:i=l.length:=by omega
  subst e2;rw[aS,rM (aD _),Nat.sub_self];exact hx
theorem tX.of{Q:List (List (List Dd))}(h1:1<=Q.length)(h2:Q.length<=4)(h:∀t,t<Q.length->TOk (Q.getD t [])):tX Q:=
 ⟨⟨h1,h2⟩,λt ht=>(h t ht).1,λt ht b hb=>⟨((h t ht).2 b hb).1,((h t ht).2 b hb).2.1⟩,λt ht b hb=>((h t ht).2 b hb).2.2⟩
def PgP(w:ag)(e:Ending)(w':ag):Prop:=∃u Q,e=.returned u/\ed (λb=>w.heap.size<=b) w' u Q/\tX Q/\Calm w w'
def PgI(w:ag)(x:aA)(i:Nat)(wr:ag):Prop:=∃Q:List (List (List Dd)),Q.length=i/\jf gy [] 38 (λb=>w.heap.size<=b) wr x Q/\(∀t,t<Q.length->TOk (Q.getD t []))/\Calm w wr
def BgI(w:ag)(x:aA)(i:Nat)(wr:ag):Prop:=∃P:List (List Dd),P.length<=i/\jf gz [] 50 (λb=>w.heap.size<=b) wr x P/\(∀t,t<P.length->BOk (P.getD t []))/\Calm w wr
def XP(w:ag)(x:aA)(i:Nat)(wr:ag):Prop:=∃ds:List Dd,ds.length=i/\qN (λb=>w.heap.size<=b) wr x ds/\(∀d∈ds,d.Rt)/\Calm w wr
theorem XP.more{w w1 w2:ag}{ds:List Dd}{v v':aA}{d:Dd}(h:qN (λb=>w.heap.size<=b) w1 v ds)(hd:∀d∈ds,d.Rt)(hr:d.Rt)(c:Calm w w1)(ho:w2.ownsRow 0 52 5 v' (ds.length+1) (ds.flatMap fW++fW d))(f:Fr (ay v) w1 w2)(hn:∀b,ay v' b->ay v b\/w1.heap.size<=b):XP w v' (ds.length+1) w2:=
 ⟨ds++[d],by simp,⟨by simpa using ho,λb hb=>by
  rcases hn b hb with e|e
  ·exact h.2 b e
  ·have:=c.size;show _<=b;omega⟩,λx hx=>by
  rcases cJ.1 hx with e|e
  ·exact hd x e
  ·simp at e;subst e;exact hr,c.join f (λj hj e=>by have:w.heap.size<=j:=h.2 j e;omega)⟩
theorem CT{T0:Nat->Prop}{w:ag}{v:aA}{Q0:List (List (List Dd))}(hr:ed T0 w v Q0)(hl:QOk Q0):aJ prog 5 #[v] w (PgP w):=by
 obtain⟨va,vc,rfl,qg⟩:=hr;obtain⟨N,hN⟩:=ao Q0.length
 have gG:Hid (∀i,i<N->∃g o u,va=some ⟨g,o,none⟩/\(∀W,Calm w W->W.cell? ⟨g,o+i,none⟩=some u)/\gy T0 w u (Q0.getD i [])):=λi hi=>by
  obtain⟨g,o,u,h1,h2,h3,h4⟩:=qg i (by omega);exact⟨g,o,u,h1,λW c=>c.cellAt h3 id,h4⟩
 have bU:Hid (∀i,i<N->∀b,b<(Q0.getD i []).length->∀k,k<((Q0.getD i []).getD b []).length->(((Q0.getD i []).getD b []).getD k dD).Ok):=λi hi=>hl i (by omega);rw[hN];clear qg hl hN;go_in;go_wp2_with fail
 go_loopw [3,4] (λx z wr=>∃i:Nat,i<=N/\i<=4/\z=vI i/\PgI w x i wr) (λ_ z _=>4-(intOf z).toNat)
 case atStart=>exact⟨0,by omega,by omega,rfl,[],rfl,jf.nil w,λt ht=>absurd ht (Nat.not_lt_zero t),ah⟩
 case round=>
  obtain⟨w3,rfl⟩:∃w3,w3=wr:=⟨_,rfl⟩;obtain⟨x3,rfl⟩:∃x3,x3=u3:=⟨_,rfl⟩;obtain⟨i,hi,hi4,rfl,Q,N3,FW,WX,jT⟩:=hrel;have hex:(i<N/\i<4)\/(¬i<N)\/(i<N/\¬i<4):=by omega
  rcases hex with ⟨aM,h4⟩|hex
  ·obtain⟨g,o,u,rfl,ku,ba,bc,rfl,hb⟩:=gG.out i aM;have B_:Hid (∀b,b<(Q0.getD i []).length->∀k,k<((Q0.getD i []).getD b []).length->(((Q0.getD i []).getD b []).getD k dD).Ok):=bU.out i aM;obtain⟨R0,D_⟩:=ao (Q0.getD i []);rw[D_] at hb B_ ku;obtain⟨M,hM⟩:=ao R0.length;rw[hM] at ku;have UF:Hid (∀W,Calm w3 W->W.cell? ⟨g,o+i,none⟩=some (.slice ba M bc)):=λW c=>ku W (jT.trans c);have y0:=UF.out w3 ah
   have BS:Hid (∀b,b<M->∃g2 o2 u2,ba=some ⟨g2,o2,none⟩/\(∀W,Calm w3 W->W.cell? ⟨g2,o2+b,none⟩=some u2)/\gz T0 w3 u2 (R0.getD b [])):=λb F0=>by
    obtain⟨g,o,u,h1,h2,h3,h4⟩:=hb b (by omega);exact⟨g,o,u,h1,λW c=>(jT.trans c).cellAt h3 id,h4.calm jT⟩
   replace B_:Hid (∀b,b<M->∀k,k<(R0.getD b []).length->((R0.getD b []).getD k dD).Ok):=by rw[<-hM];exact B_
   replace jT:=hid jT;replace FW:=hid FW;replace WX:=hid WX;replace N3:=hid N3;clear ku D_ hM hb;go_wp2_with fail
   clear y0;go_loopw [5,6] (λx z w2=>∃b:Nat,b<=M/\b<=3/\z=vI b/\BgI w3 x b w2) (λ_ z _=>3-(intOf z).toNat)
   case atStart=>exact⟨0,by omega,by omega,rfl,[],aD _,jf.nil _,λt ht=>absurd ht (Nat.not_lt_zero t),ah⟩
   case round=>
    obtain⟨wx,rfl⟩:∃wx,wx=wr:=⟨_,rfl⟩;obtain⟨x5,rfl⟩:∃x5,x5=u5:=⟨_,rfl⟩;obtain⟨b,hb,xU,rfl,P,RI,AA,Jj,dN⟩:=hrel;have UM:(b<M/\b<3)\/(¬b<M)\/(b<M/\¬b<3):=by omega
    have y0:=UF.out wx dN;rcases UM with ⟨dO,h3⟩|UM
    ·obtain⟨g2,o2,u2,rfl,nW,da,dc,rfl,hd⟩:=BS.out b dO;obtain⟨L0,Pp⟩:=ao (R0.getD b []);have Ll:=B_.out b dO;rw[Pp] at hd Ll nW;obtain⟨K,hK⟩:=ao L0.length;rw[hK] at nW hd Ll;have RS:Hid (∀W,Calm wx W->W.cell? ⟨g2,o2+b,none⟩=some (.slice da K dc)):=λW c=>nW W (dN.trans c);have z0:=RS.out wx ah
     have KQ:Hid (∀k,k<K->∃g3 o3,da=some ⟨g3,o3,none⟩/\∀W,Calm wx W->∀j u,(fW (L0.getD k dD))[j]?=some u->W.cell? ⟨g3,o3+k*5+j,none⟩=some u):=λk hk=>by
      obtain⟨g,o,h1,h2,h3⟩:=hd k hk;exact⟨g,o,h1,λW c j u hu=>(dN.trans c).cellAt (h3 j u hu) id⟩
     replace Ll:=hid Ll;replace dN:=hid dN;replace AA:=hid AA;replace Jj:=hid Jj;replace RI:=hid RI;clear nW Pp hK hd;go_wp2_with fail
     clear y0 z0;go_loopw [7,8] (λx z w2=>∃k:Nat,k<=K/\k<=6/\z=vI k/\XP wx x k w2) (λ_ z _=>6-(intOf z).toNat)
     case atStart=>exact⟨0,by omega,by omega,rfl,[],rfl,qN.nil _ _,λd hd=>(by cases hd),ah⟩
     case round=>
      obtain⟨wy,rfl⟩:∃wy,wy=wr:=⟨_,rfl⟩;obtain⟨k,hk,BV,rfl,ds,KM,hD,AF,dJ⟩:=hrel;have y0:=UF.out wy (dN.out.trans dJ);have z0:=RS.out wy dJ;obtain⟨xa,xc,hx⟩:=hD.slice;rw[KM] at hx;subst hx;have PL:(k<K/\k<6)\/(¬k<K)\/(k<K/\¬k<6):=by omega
      rcases PL with ⟨wS,h6⟩|PL
      ·obtain⟨g3,o3,rfl,kS⟩:=KQ.out k wS;obtain⟨d,hd⟩:=ao (L0.getD k dD);have kS:=kS wy dJ;have hdo:=Ll.out k wS
       rw[hd] at kS hdo;have e0:=kS 0 _ rfl;have e1:=kS 1 _ rfl;have e2:=kS 2 _ rfl;have e3:=kS 3 _ rfl;have e4:=kS 4 _ rfl;rw[fM] at e0
       have of:=TU wy d hdo;simp only[fX] at of;replace dJ:=hid dJ;replace hD:=hid hD;replace AF:=hid AF;replace KM:=hid KM
       clear kS hd hdo;go_wp2_with fail
       refine of.mono ?_;rintro e w6 ⟨⟨d2,rfl,hdr⟩,c6⟩;simp only[fX];have ka:Calm w6 (w6.alloc (.cells #[vI d2.k,vI d2.a,vI d2.b,vI d2.i,vI d2.n] 52)):=ah.alloc _;have cA:=hid ((dJ.out.trans c6).trans ka);have hA:=hid (hD.out.calm (c6.trans ka));have Ht:=hid hA.out.1;rw[KM.out] at Ht;replace hdr:=hid hdr;have Jr:Hid (∀j u,(fW d2)[j]?=some u->(w6.alloc (.cells #[vI d2.k,vI d2.a,vI d2.b,vI d2.i,vI d2.n] 52)).cell? ((⟨w6.heap.size,0,none⟩:Addr).add j)=some u):=wI w6 (fW d2) _;clear of e0 e1 e2 e3 e4 y0 z0 c6 ka
       go_wp2_with (
        at_builtin
        go_must (refine sG giD rfl _ _ rfl (.slice xa k xc) k (ds.flatMap fW) Ht.out rfl (fW d2) rfl (by simp[fW,Value.oneCell']) ⟨w6.heap.size,0,none⟩ 1 rfl Jr.out (by omega) ?_)
        intro g7 c7 w7 lZ f7 wO
        have hQ:Hid (XP wx (.slice (some ⟨g7,0,none⟩) (k+1) c7) (k+1) w7):=by
         have abr:=KM.out;subst abr
         exact XP.more hA.out AF.out hdr.out cA.out lZ f7 (λb hb=>by
          obtain rfl:=ay.fJ hb;rcases wO with e|e
          ·exact .inl e
          ·exact .inr (by omega))
        clear lZ f7 wO
        go_frame)
       exact⟨⟨k+1,by omega,by omega,by simp,hQ.out⟩,by simp[intOf] <;> omega⟩
      ·have PF:=dN.out.trans dJ
       by_cases k0:k=0
       ·subst k0;have bM:Hid (BgI w3 x5 (b+1) wy):=⟨P,by have:=RI.out;omega,AA.out.calm Qb dJ,Jj.out,PF⟩;clear hD PF;replace AF:=hid AF;rcases PL with h1|⟨h1,h2⟩
        ·go_wp2_with fail
         exact⟨⟨b+1,by omega,by omega,by simp,bM.out⟩,by simp[intOf] <;> omega⟩
        ·omega
       ·have k1:0<k:=by omega
        have ka:Calm wy (wy.alloc (.cells #[.slice xa k xc] 50)):=ah.alloc _;have hG2:=hid (AA.out.calm Qb (dJ.trans ka));have zw:=hid (PF.trans ka);have tC:Hid (∀b,ay x5 b->b<wx.heap.size):=λb hb=>AA.out.lt hb
        have hy:Hid (gz (λb=>w3.heap.size<=b/\¬ay x5 b) (wy.alloc (.cells #[.slice xa k xc] 50)) (.slice xa k xc) ds):=by
         have h0:=(hD.calm ka).Wi
         skip
         exact h0.mono (λb _ hb=>⟨gw dN.out.size hb,λe=>by have:=tC.out b e;have F0:wx.heap.size<=b:=hb;omega⟩)
        have hbo:Hid (BOk ds):=⟨by omega,by omega,AF⟩
        have k_:Hid ((wy.alloc (.cells #[.slice xa k xc] 50)).cell? ⟨wy.heap.size,0,none⟩=some (.slice xa k xc)):=by
         unfold Hid;rw[World.cell?_alloc_new];rfl
        have iG:Hid (w3.heap.size<=(wy.alloc (.cells #[.slice xa k xc] 50)).heap.size):=zw.out.size;replace hD:=hid hD;replace AF:=hid AF;replace KM:=hid KM;replace dJ:=hid dJ;clear PF ka;rcases PL with h1|⟨h1,h2⟩
        all_goals
         go_wp2_with (
          at_builtin
          go_must (refine kQ giB Qb rfl _ _ rfl x5 P hG2.out rfl (.slice xa k xc) ds wy.heap.size 1 rfl k_.out rfl hy.out (λb hb=>gw iG.out hb) (by have:=RI.out;omega) ?_)
          intro g8 c8 w8 Ez f8;have hQ:Hid (BgI w3 (.slice (some ⟨g8,0,none⟩) (P.length+1) c8) (b+1) w8):=⟨P++[ds],by have:=RI.out;simp;omega,Ez,Dc Jj.out hbo.out,zw.out.join f8 (λj hj e=>by have:w3.heap.size<=j:=hG2.out.own e;omega)⟩;clear Ez f8
          go_frame)
         exact⟨⟨b+1,by omega,by omega,by simp,hQ.out⟩,by simp[intOf] <;> omega⟩
    ·obtain⟨pa,pc,VH⟩:=AA.slice;obtain⟨pn,Sh⟩:=ao P.length;rw[Sh] at VH;subst VH;have ka:Calm wx (wx.alloc (.cells #[(.slice pa pn pc)] 38)):=ah.alloc _;have hG2:=hid (FW.out.calm VP (dN.trans ka));have zw:=hid ((jT.out.trans dN).trans ka);have tC:Hid (∀b,ay x3 b->b<w3.heap.size):=λb hb=>FW.out.lt hb;have abS:Hid ((Value.slice pa pn pc).oneCell'=true):=hid rfl
     have hy:Hid (gy (λb=>w.heap.size<=b/\¬ay x3 b) (wx.alloc (.cells #[(.slice pa pn pc)] 38)) (.slice pa pn pc) P):=by
      have h0:gy _ _ _ _:=(AA.calm Qb ka).Wi Qb;exact h0.mono (λb _ hb=>⟨gw jT.out.size hb,λe=>by have:=tC.out b e;have F0:w3.heap.size<=b:=hb;omega⟩)
     have hbo:Hid (TOk P):=⟨by omega,Jj⟩
     have k_:Hid ((wx.alloc (.cells #[(.slice pa pn pc)] 38)).cell? ⟨wx.heap.size,0,none⟩=some (.slice pa pn pc)):=by
      unfold Hid;rw[World.cell?_alloc_new];rfl
     have iG:Hid (w.heap.size<=(wx.alloc (.cells #[(.slice pa pn pc)] 38)).heap.size):=zw.out.size;replace dN:=hid dN;replace AA:=hid AA;replace Jj:=hid Jj;replace RI:=hid RI;replace Sh:=hid Sh;clear ka;rcases UM with h1|⟨h1,h2⟩
     all_goals
      go_wp2_with (
       at_builtin
       go_must (refine kQ giQ VP rfl _ _ rfl x3 Q hG2.out rfl (.slice pa pn pc) P wx.heap.size 1 rfl k_.out abS.out hy.out (λb hb=>gw iG.out hb) (by have:=N3.out;omega) ?_)
       intro g8 c8 w8 Ez f8;have hQ:Hid (PgI w (.slice (some ⟨g8,0,none⟩) (Q.length+1) c8) (i+1) w8):=⟨Q++[P],by have:=N3.out;simp;omega,Ez,Dc WX.out hbo.out,zw.out.join f8 (λj hj e=>by have:w.heap.size<=j:=hG2.out.own e;omega)⟩;clear Ez f8
       go_frame)
      exact⟨⟨i+1,by omega,by omega,by simp,hQ.out⟩,by simp[intOf] <;> omega⟩
  ·obtain⟨pa,pc,hx3⟩:=FW.slice
   by_cases i0:i=0
   ·subst i0;have ka:Calm w3 (w3.alloc (.cells #[.slice none 0 0] 38)):=ah.alloc _
    have bM:Hid (PgP w (.returned (.slice (some ⟨w3.heap.size,0,none⟩) 1 1)) (w3.alloc (.cells #[.slice none 0 0] 38))):=
     ⟨_,[[]],rfl,⟨some ⟨w3.heap.size,0,none⟩,1,rfl,λt ht=>⟨w3.heap.size,0,.slice none 0 0,rfl,jT.size,by
      have h0:t=0:=by have h1:t<1:=ht;omega
      subst h0
      rw[World.cell?_alloc_new];rfl,by
      have h0:t=0:=by have h1:t<1:=ht;omega
      subst h0
      exact⟨none,0,rfl,λi hi=>absurd hi (Nat.not_lt_zero i)⟩⟩⟩,tX.of (by decide) (by decide) (λt ht=>by
      have h0:t=0:=by have h1:t<1:=ht;omega
      subst h0
      exact⟨by decide,λb hb=>absurd hb (Nat.not_lt_zero b)⟩),jT.trans ka⟩
    rw[N3] at hx3;subst hx3;clear FW WX jT ka N3;rcases hex with h1|⟨h1,h2⟩
    ·go_wp2;go_ret;exact bM.out
    ·omega
   ·have hi0:((i:Int)==0)=false:=by simp;omega
    have bM:Hid (PgP w (.returned x3) w3):=⟨_,Q,rfl,FW.Wi VP,tX.of (by omega) (by omega) WX,jT⟩;rw[N3] at hx3;subst hx3;clear FW WX jT N3;rcases hex with h1|⟨h1,h2⟩
    all_goals
     go_wp2;go_ret;exact bM.out
theorem St.Ts{w:ag}{τ:Nat->Nat}{s q:Nat}{S:aE}(h:St w τ s q S):¬ay S.mj S.sp/\τ S.sp=2/\(∀b,ay S.mj b->τ b=4):=by
 obtain⟨M,h1,h2,h3⟩:=h;have t2:(M 2).dh S.sp:=by rw[h2.c];rfl
 have t4:∀b,ay S.mj b->(M 4).dh b:=λb hb=>by rw[h2.t];exact hb
 exact⟨λe=>h1.apart (t:=2) (u:=4) (by decide) t2 (t4 _ e),h1.tag 2 _ t2,λb hb=>h1.tag 4 _ (t4 b hb)⟩
def NwI(w:ag)(sp i:Nat)(wr:ag):Prop:=∃τ S,St wr τ 0 0 S/\S.aW.length=i/\S.sp=sp/\(∀b,b<w.heap.size->τ b=1000)/\Calm w wr/\yT S
def Yf(w:ag)(k:Nat)(e:Ending)(w':ag):Prop:=∃τ S,e=.returned (.tuple #[pV S.sp,vI 0])/\St w' τ 0 0 S/\(∀b,b<w.heap.size->τ b=1000)/\Calm w w'/\yT S/\S.aW.length=k
theorem NC(w:ag)(n k:Nat)(h1:16<=n)(h2:n<=16384)(k1:1<=k)(k2:k<=8)(r u eI:Int):aJ prog 18 #[vI (n:Int),vI (k:Int),vI r,vI u,vI eI] w (Yf w k):=by
 have h31:=hid (Lf w n h1 h2);clear h1 h2;go_in;go_wp2_with fail
 refine h31.out.mono ?_;rintro e w1 ⟨B,rfl,hA,c1,n1⟩;clear h31;replace hA:=hid hA;replace n1:=hid n1;go_wp2_with fail
 refine(J8 w1 B.hp).mono ?_;rintro e w2 ⟨rfl,hy,c2⟩;replace hy:=hid hy;go_wp2_with fail
 refine(Hh w2 eI).mono ?_;rintro e w3 ⟨m,rfl,m1,m2,ho,c3⟩;replace ho:=hid ho;obtain⟨ka,oS⟩:=mG w3 [eU B,pV w1.heap.size,pV w2.heap.size,.slice none 0 0,.slice none 0 0,vI 0,vI (-1),vI 0,.slice none 0 0,.slice none 0 0] 109;obtain⟨W4,oy⟩:=ao (w3.alloc (.cells #[eU B,pV w1.heap.size,pV w2.heap.size,.slice none 0 0,.slice none 0 0,vI 0,vI (-1),vI 0,.slice none 0 0,.slice none 0 0] 109));rw[oy] at ka oS;have c4:=((c1.trans c2).trans c3).trans ka;obtain⟨sp,gU⟩:=ao w3.heap.size
 have Px:NwI w sp 0 W4:=by
  have s1:=c1.size;have s2:=c2.size;have s3:=c3.size;have DA:af w2 w1.heap.size [pV B.hp,.nilFunc,nS,nS]:=hy.out.cs;have l1:=DA.lt (by simp);have l2:=ho.out.lt (by simp);obtain⟨τ,g1,g2⟩:=MU (hA.out.calm ((c2.trans c3).trans ka)) ((DA.calm c3).calm ka) (ho.out.calm ka) oS (λe=>by have:=hA.out.lt _ e;omega) (λe=>by have:=hA.out.lt _ e;omega) (λe=>by have:=hA.out.lt _ e;omega) (by omega) (by omega) (by omega) m1 m2 (b0:=w.heap.size) n1.out (by omega) (by omega) (by omega);exact⟨τ,_,g1,rfl,gU,g2,c4,V4 _ _ _ _ _ _⟩
 replace Px:=hid Px;clear hA n1 hy ho ka oS c4 m1 m2 c1 c2 c3;go_wp2_with fail
 go_loopw [37] (λz w2=>∃i:Nat,i<=k/\z=vI i/\NwI w sp i w2) (λz _=>k-(intOf z).toNat)
 case atStart=>exact⟨0,by omega,rfl,Px.out⟩
 case round=>
  obtain⟨i,hi,rfl,hI⟩:=hrel;clear Px oy
  by_cases aM:i<k
  ·obtain⟨τ,S,hs,Ig,gU,ht,hc,Jr⟩:=hI;replace Jr:=hid Jr;obtain⟨a1,a2,a3⟩:=hs.Ts;have hcs:=hs.cells;have mb:=hs.QW;rw[gU] at hcs a1 a2;rw[Ig] at mb;obtain⟨va,vc,hv⟩:=aF mb;have y3:Own wr sp 3 S.mj:=hcs 3 _ rfl;have spl:sp<wr.heap.size:=hcs.lt (by simp[aE.cs]);have spw:w.heap.size<=sp:=Nat.le_of_not_lt λe=>by have:=ht sp e;omega
   have tsw:∀b,ay S.mj b->w.heap.size<=b:=λb hb=>Nat.le_of_not_lt λe=>by have:=ht b e;have:=a3 b hb;omega
   rw[hv] at y3 mb a1;replace tsw:=hid tsw;replace ht:=hid ht;replace hcs:=hid hcs;replace a3:=hid a3;have hs':=hid hs;clear hs;go_upto_region 10 with fail
   have kd:Calm wr wr.drew:=ah.drew;refine aO 8 13 (λw'=>w'.cell? ⟨sp,3,none⟩=some (.slice va i vc)) (by kernel_rfl) (by kernel_rfl) (kd.cellAt y3.1 id) ?_;refine ae (pV sp) rfl (λw' hw'=>?_) ak ?_
   ·simp[go_sem]
   refine ae (pV sp) rfl (λw' hw'=>?_) ak ?_
   ·simp[go_sem]
   refine ae (pV sp) rfl (λw' hw'=>?_) ak ?_
   ·simp[go_sem]
   refine ae (.pointer (some ⟨sp,3,none⟩)) rfl (λw' hw'=>?_) ak ?_
   ·simp[go_sem]
   refine ae (.slice va i vc) rfl (λw' hw'=>?_) ak ?_
   ·simp[go_sem,hw']
   refine ae (vI (i:Int)) rfl (λw' hw'=>?_) ak ?_
   ·simp[go_sem]
   refine ae (vI r) rfl (λw' hw'=>?_) ak ?_
   ·simp[go_sem]
   refine ae (vI u) rfl (λw' hw'=>?_) ak ?_
   ·simp[go_sem]
   simp only[bG];refine aQ rfl ?_;unfold Oper.wp;go_simp;refine(Qe wr.drew r u).mono ?_;rintro e w5 ⟨mr,mu,rfl,ol,c5,m1,m2,m3,m4⟩;have k5:=kd.trans c5;have hdz:wr.drew.heap.size=wr.heap.size:=rfl;rw[hdz] at ol ⊢;refine⟨k5.cellAt y3.1 id,?_⟩;refine aQ rfl ?_;unfold Oper.wp;go_simp;refine⟨k5.cellAt y3.1 id,?_⟩;refine aQ rfl ?_;unfold Oper.wp;go_simp;have k6:Calm wr (w5.alloc (.cells #[vI (i:Int),.bool false,vI 0,vI 0,pV wr.heap.size,.slice none 0 0] 114)):=k5.alloc _;have ox:=af.new w5 [vI (i:Int),.bool false,vI 0,vI 0,pV wr.heap.size,.slice none 0 0] 114;have ol6:=ol.alloc (.cells #[vI (i:Int),.bool false,vI 0,vI 0,pV wr.heap.size,.slice none 0 0] 114);have Vu:(w5.alloc (.cells #[vI (i:Int),.bool false,vI 0,vI 0,pV wr.heap.size,.slice none 0 0] 114)).heap.size=w5.heap.size+1:=by simp
   refine⟨k6.cellAt y3.1 id,?_⟩;generalize sO:w5.alloc (.cells #[vI (i:Int),.bool false,vI 0,vI 0,pV wr.heap.size,.slice none 0 0] 114)=W6 at *;clear sO;refine aQ rfl ?_;unfold Oper.wp;go_simp;have k7:Calm wr (W6.alloc (.cells #[pV w5.heap.size] 110)):=k6.alloc _;refine⟨k7.cellAt y3.1 id,?_⟩;have aap:=aw mb k7 (λ_ _=>id);refine aQ rfl ?_;refine Eq.mp (if_pos (show Region.wanted _ (yielded _ _)=true from rfl)) (gu (ops:=#[]) (E:=True) giP rfl (.tmp 44) (.tmp 51) rfl (.slice va i vc) i _ aap rfl [pV w5.heap.size] rfl (by simp[Value.oneCell']) ⟨w5.heap.size+1,0,none⟩ 1 rfl (λj u hj=>by rw[dM];simp only[ia];rw[<-Vu];exact iV W6 [pV w5.heap.size] _ _ hj) (by omega) ?_);intro g c w8 Ez f8 hg8;have k7s:=k7.size;have h78:(W6.alloc (.cells #[pV w5.heap.size] 110)).heap.size=W6.heap.size+1:=by simp
   have nsp:¬ay (.slice va i vc) sp:=a1;have UE:=(hcs.out.calm k7).fr f8 nsp;have y38:=UE 3 _ rfl;have Zo:=UE.set 3 (.slice (some ⟨g,0,none⟩) (i+1) c) (by simp[aE.cs]);have F9:=jR w8 (sp) 3 (.slice (some ⟨g,0,none⟩) (i+1) c);have c5s:wr.heap.size<w5.heap.size:=ol.lt (by simp);have Xm:∀b,ay (.slice va i vc) b->b<wr.heap.size:=λb hb=>(World.ownsRow.lt mb b hb).2
   have qH:∀b,ay (.slice (some ⟨g,0,none⟩) (i+1) c) b->ay (.slice va i vc) b\/W6.heap.size+1<=b:=λb hb=>by
    obtain rfl:=ay.fJ hb;rcases hg8 with e|e
    ·exact .inl e
    ·right;rw[e];simp
   have hd1:∀b,wr.heap.size<=b->b<W6.heap.size+1->¬ay (.slice (some ⟨g,0,none⟩) (i+1) c) b:=λb h1 h2 hb=>by
    rcases qH b hb with e|e
    ·have:=Xm b e;omega
    ·omega
   have ox9:=((ox.alloc (.cells #[pV w5.heap.size] 110)).fr f8 (λe=>by have:=Xm _ e;omega)).fr F9 (by omega);have ol9:=((ol6.alloc (.cells #[pV w5.heap.size] 110)).fr f8 (λe=>by have h1:=Xm _ e;have h2:wr.heap.size=wr.heap.size:=rfl;omega)).fr F9 (by have h2:wr.heap.size=wr.heap.size:=rfl;omega)
   have wB:=aw Ez F9 (λb hb e=>by
    subst e;rcases qH _ hb with e|e
    ·exact nsp e
    ·omega)
   have f09:Fr (λb=>b=sp\/ay (.slice va i vc) b) wr (w8.setCell ⟨sp,3,none⟩ (.slice (some ⟨g,0,none⟩) (i+1) c)):=(((Calm.any k7:Fr (λb=>b=sp\/ay (.slice va i vc) b) _ _).trans (f8.mono (λ_ _ e=>.inr e))).trans (F9.mono (λ_ _ e=>.inl e)))
   have hQ:NwI w sp (i+1) (w8.setCell ⟨sp,3,none⟩ (.slice (some ⟨g,0,none⟩) (i+1) c)):=by
    obtain⟨aL,q1,q2⟩:=St.more (v':=.slice (some ⟨g,0,none⟩) (i+1) c) (xp:=w5.heap.size) (lp:=wr.heap.size) (mr:=mr) (mu:=mu) hs'.out (by omega) (by rw[gU,hv];exact f09) (by rw[gU];exact Zo) (by rw[Ig];exact wB) (λb hb=>by
     rw[hv];rcases qH b hb with e|e
     ·exact .inl e
     ·right;omega) (by rw[Ig];exact ox9) ol9 (by omega) (aD _) (by show w5.heap.size≠wr.heap.size;omega) (hd1 _ (by omega) (by omega)) (hd1 _ (aD _) (by show wr.heap.size<_;omega)) ⟨m1,m2,m3,m4⟩
    refine⟨aL,_,q1,by simp[aE.more,Ig],gU,λb hb=>?_,hc.join f09 (λj hj e=>?_),Jr.out.more _ _ _ _ _⟩
    ·rw[q2 b (by have:=hc.size;omega)];exact ht.out b hb
    ·rcases e with e|e
     ·omega
     ·have:=tsw.out j (by rw[hv];exact e);omega
   replace hQ:=hid hQ;have y80:=y38.1;have y81:=y38.2;refine⟨by rw[<-hv];exact y80,?_⟩;clear UE Zo F9 ox9 ol9 wB f09 Ez f8 hg8 qH hd1 Xm aap mb k7 k6 k5 kd ox ol6 ol y3 a1 y38;simp only[bV];go_wp2_with fail
   exact⟨⟨i+1,by omega,by simp,hQ.out⟩,by simp[intOf] <;> omega⟩
  ·have ic:decide ((i:Int)<k)=false:=decide_eq_false (by omega)
   have bM:Hid (Yf w k (.returned (.tuple #[pV sp,vI 0])) wr):=by
    obtain⟨τ,S,q1,q2,q3,q4,q5,q6⟩:=hI;exact⟨τ,S,by rw[q3],q1,q4,q5,q6,q2.trans (by omega)⟩
   clear hI;go_wp2;exact bodyPost_ret (v:=.tuple #[pV sp,vI 0]) (by simp[results,Tryz.f18,go_sem]) rfl bM.out
theorem QG{fn:Func}{W:ag}{B:Nat}{tmps:Array aA}(hf:fn.results = #[.tmp 2,.cell 3 46])(h2:tmps[2]?.getD undef=vI 0)(h3:tmps[3]?.getD undef = bw B)(u:af W B [vI 0,vI 0,vI 0]) :
 (results fn tmps).run prog W=.ok (.tuple #[vI 0,.agg #[vI 0,vI 0,vI 0]]) W:=by
 obtain⟨z0,z1,z2⟩:=af.mI u;simp[results,hf,h2,h3,go_sem,z0,z1,z2]
def XN(w:ag)(e:Ending)(w':ag):Prop:=e=.returned (.tuple #[vI 0,.agg #[vI 0,vI 0,vI 0]])/\Calm w w'
theorem Bj{T0:Nat->Prop}{w:ag}{v:aA}{Q:List (List (List Dd))}(hr:ed T0 w v Q)(hp:tX Q):aJ prog 17 #[v] w (XN w):=by
 obtain⟨va,vc,rfl,qg⟩:=hr;obtain⟨N,hN⟩:=ao Q.length;have hN1:1<=N/\N<=4:=by rw[<-hN];exact hp.n
 have gG:Hid (∀i,i<N->∃g o u,va=some ⟨g,o,none⟩/\(∀W,Calm w W->W.cell? ⟨g,o+i,none⟩=some u)/\gy T0 w u (Q.getD i [])):=λi hi=>by
  obtain⟨g,o,u,h1,h2,h3,h4⟩:=qg i (by omega);exact⟨g,o,u,h1,λW c=>c.cellAt h3 id,h4⟩
 have bU:Hid (∀i,i<N->(Q.getD i []).length<=3/\∀b,b<(Q.getD i []).length->(1<=((Q.getD i []).getD b []).length/\((Q.getD i []).getD b []).length<=6)/\∀d∈(Q.getD i []).getD b [],d.Rt):=λi hi=>⟨hp.b i (by omega),λb hb=>⟨hp.d i (by omega) b hb,hp.r i (by omega) b hb⟩⟩;obtain⟨k0,o0⟩:=mG w [vI 0,vI 0,vI 0] 46;obtain⟨W1,gO⟩:=ao (w.alloc (.cells #[vI 0,vI 0,vI 0] 46));rw[gO] at k0 o0;rw[hN];replace k0:=hid k0;replace o0:=hid o0;clear qg hp hN;go_in;go_wp2_with fail
 clear gO;go_loopw [21] (λz w2=>∃i:Nat,i<=N/\z=vI i/\Calm W1 w2) (λz _=>N-(intOf z).toNat)
 case atStart=>exact⟨0,by omega,rfl,ah⟩
 case round=>
  obtain⟨w3,rfl⟩:∃w3,w3=wr:=⟨_,rfl⟩;obtain⟨i,hi,rfl,jT⟩:=hrel
  by_cases aM:i<N
  ·obtain⟨g,o,u,rfl,ku,ba,bc,rfl,hb⟩:=gG.out i aM;obtain⟨Lk,o_⟩:=bU.out i aM;obtain⟨R0,D_⟩:=ao (Q.getD i []);rw[D_] at hb Lk o_ ku;obtain⟨M,hM⟩:=ao R0.length;rw[hM] at ku Lk;have y0:=ku w3 (k0.out.trans jT)
   have BS:Hid (∀b,b<M->∃g2 o2 u2,ba=some ⟨g2,o2,none⟩/\(∀W,Calm w3 W->W.cell? ⟨g2,o2+b,none⟩=some u2)/\gz T0 w3 u2 (R0.getD b [])):=λb F0=>by
    obtain⟨g,o,u,h1,h2,h3,h4⟩:=hb b (by omega);exact⟨g,o,u,h1,λW c=>((k0.out.trans jT).trans c).cellAt h3 id,h4.calm (k0.out.trans jT)⟩
   have B_:Hid (∀b,b<M->(1<=(R0.getD b []).length/\(R0.getD b []).length<=6)/\∀d∈R0.getD b [],d.Rt):=λb F0=>o_ b (by omega);replace jT:=hid jT;clear ku D_ hM hb o_;go_wp2_with fail
   clear y0;go_loopw [33] (λz w2=>∃b:Nat,b<=M/\z=vI b/\Calm w3 w2) (λz _=>M-(intOf z).toNat)
   case atStart=>exact⟨0,by omega,rfl,ah⟩
   case round=>
    obtain⟨wx,rfl⟩:∃wx,wx=wr:=⟨_,rfl⟩;obtain⟨b,hb,rfl,dN⟩:=hrel
    by_cases dO:b<M
    ·obtain⟨g2,o2,u2,rfl,nW,da,dc,rfl,hd⟩:=BS.out b dO;obtain⟨L0,Pp⟩:=ao (R0.getD b []);obtain⟨BV,AF⟩:=B_.out b dO;rw[Pp] at hd BV AF nW;obtain⟨K,hK⟩:=ao L0.length;rw[hK] at nW hd BV;have z0:=nW wx dN
     have KQ:Hid (∀k,k<K->∃g3 o3,da=some ⟨g3,o3,none⟩/\(L0.getD k dD).Rt/\∀W,Calm wx W->∀j u,(fW (L0.getD k dD))[j]?=some u->W.cell? ⟨g3,o3+k*5+j,none⟩=some u):=λk hk=>by
      obtain⟨g,o,h1,h2,h3⟩:=hd k hk;exact⟨g,o,h1,AF _ (get_mem _ (by omega)),λW c j u hu=>(dN.trans c).cellAt (h3 j u hu) id⟩
     obtain⟨jg,BV⟩:=BV;replace dN:=hid dN;clear nW Pp hK hd AF;go_wp2_with fail
     clear z0;go_loopw [51] (λz w2=>∃k:Nat,k<=K/\z=vI k/\Calm wx w2) (λz _=>K-(intOf z).toNat)
     case atStart=>exact⟨0,by omega,rfl,ah⟩
     case round=>
      obtain⟨wy,rfl⟩:∃wy,wy=wr:=⟨_,rfl⟩;obtain⟨k,hk,rfl,dJ⟩:=hrel
      by_cases wS:k<K
      ·obtain⟨g3,o3,rfl,hdr,kS⟩:=KQ.out k wS;obtain⟨d,hd⟩:=ao (L0.getD k dD);have kS:=kS wy dJ;rw[hd] at kS hdr;have e0:=kS 0 _ rfl;have e1:=kS 1 _ rfl;have e2:=kS 2 _ rfl;have e3:=kS 3 _ rfl;have e4:=kS 4 _ rfl;rw[fM] at e0;have ka:Calm wy (wy.alloc (.cells #[vI d.k,vI d.a,vI d.b,vI d.i,vI d.n] 52)):=ah.alloc _;have of:=CV (wy.alloc (.cells #[vI d.k,vI d.a,vI d.b,vI d.i,vI d.n] 52)) d hdr;simp only[fX] at of;have abm:=hid (dJ.trans ka);replace dJ:=hid dJ;clear kS hd hdr ka;go_wp2_with fail
       refine of.mono ?_;rintro e w6 ⟨rfl,c6⟩;clear of e0 e1 e2 e3 e4;have BD:=hid (abm.out.trans c6);clear c6;go_wp2_with fail
       exact⟨⟨k+1,by omega,by simp,BD.out⟩,by simp[intOf] <;> omega⟩
      ·have UQ:decide ((k:Int)<K)=false:=decide_eq_false (by omega);have BD:=hid (dN.out.trans dJ);clear dJ;go_wp2_with fail
       exact⟨⟨b+1,by omega,by simp,BD.out⟩,by simp[intOf] <;> omega⟩
    ·have Ep:decide ((b:Int)<M)=false:=decide_eq_false (by omega);have BD:=hid (jT.out.trans dN);clear dN;go_wp2_with fail
     exact⟨⟨i+1,by omega,by simp,BD.out⟩,by simp[intOf] <;> omega⟩
  ·have ic:decide ((i:Int)<N)=false:=decide_eq_false (by omega);have p4:=o0.out.calm jT;have T1:=p4.whole (us:=[vI 0,vI 0,vI 0]) rfl;have F1:=sK w3 (w.heap.size) 0 [vI 0,vI 0,vI 0];have hP:XN w (.returned (.tuple #[vI 0,.agg #[vI 0,vI 0,vI 0]])) (w3.setCells w.heap.size 0 [vI 0,vI 0,vI 0]):=⟨rfl,(k0.out.trans jT).join F1 (λj hj e=>by omega)⟩;replace hP:=hid hP;replace T1:=hid T1;obtain⟨y0,z0,y1,z1,y2,z2⟩:=af.pG p4;clear F1 p4 jT;go_wp2;exact bodyPost_ret (QG rfl rfl rfl T1.out) rfl hP.out
def d6:bP:=⟨0,0,[0,0,0,0,0,0],[0,0,0,0,0,0],false⟩
theorem Qc:(prog.info? 31).map (λi=>(i.zero,i.size,i.bytes))=some (some (.agg #[vI 0,vI 0,vI 0,vI 0,vI 0,vI 0,vI 0,vI 0,vI 0,vI 0,vI 0,vI 0,vI 0,vI 0,.bool false]),15,120):=by kernel_rfl
theorem Qj:∀n,n<=4->(madeCells (Value.agg #[vI 0,vI 0,vI 0,vI 0,vI 0,vI 0,vI 0,vI 0,vI 0,vI 0,vI 0,vI 0,vI 0,vI 0,.bool false]).cells (n*15)).toList=(List.replicate n d6).flatMap aX
 | 0,_=>by kernel_rfl
 | 1,_=>by kernel_rfl
 | 2,_=>by kernel_rfl
 | 3,_=>by kernel_rfl
 | 4,_=>by kernel_rfl
 | n+5,h=>by omega
theorem gz.cells{T:Nat->Prop}{w:ag}{v:aA}{l:List Dd}(h:gz T w v l)(h0:0<l.length):∃g o c,v=.slice (some ⟨g,o,none⟩) l.length c/\∀j u,(l.flatMap fW)[j]?=some u->w.cell? ⟨g,o+j,none⟩=some u:=by
 obtain⟨a,c,rfl,h⟩:=h;obtain⟨g,o,rfl,t,h1⟩:=h 0 h0;refine⟨g,o,c,rfl,λj u hj=>?_⟩
 have hl:j<l.length*5:=by
  have:=(List.getElem?_eq_some_iff.1 hj).1
  rwa [ij fW 5 tj] at this
 have e:j / 5*5+j % 5=j:=by omega
 have hi:j / 5<l.length:=by omega
 obtain⟨g2,o2,e2,t2,h2⟩:=h (j / 5) hi;injection e2 with e2
 injection e2 with e3 e4 e5
 subst e3 e4;have h3:=FR fW 5 tj dD l (j / 5) hi (j % 5) (by omega);rw[e,hj] at h3;have:=h2 (j % 5) u h3.symm
 rwa [Nat.add_assoc,e] at this
theorem O4(l:List Dd):∀u∈l.flatMap fW,u.oneCell'=true:=by
 intro u hu;obtain⟨d,_,hd⟩:=List.mem_flatMap.1 hu;simp[fW] at hd;rcases hd with rfl|rfl|rfl|rfl|rfl <;> rfl
theorem aaw{w:ag}{base:Nat}{e:TypeId}{k n:Nat}{v:aA}{xs:List aA}(h:w.ownsRow base e k v n xs):w.ownsRow 0 e k v n xs:=by
 refine⟨h.1,?_⟩;rcases h.2 with h|⟨g,cap,cur,h1,h2,h3⟩
 ·exact .inl h
 ·exact .inr ⟨g,cap,cur,h1,bY _,h3⟩
def MnP(w:ag)(Q:List (List (List Dd)))(e:Ending)(w':ag):Prop:=
 ∃mp τ S tv hv,e=.returned (.tuple #[pV mp,vI 0])/\Mc w' τ 0 0 mp S Q tv hv ⟨nS,[]⟩ (List.replicate Q.length d6)/\(∀b,b<w.heap.size->τ b=1000)/\Calm w w'/\yT S/\S.aW.length=Q.length
def X4(W6:ag)(mp sp:Nat)(hv:aA)(Q:List (List (List Dd)))(i:Nat)(wr:ag):Prop:=
 ∃tv,jf gy [] 38 (λb=>W6.heap.size<=b) wr tv (Q.take i)/\af wr mp [pV sp,tv,hv,.int .i32 0,.int .u32 0,nS]/\Fr (λk=>k=mp) W6 wr
def MnJ(w3:ag)(P:List (List Dd))(x:aA)(b:Nat)(wr:ag):Prop:=jf gz [] 50 (λb=>w3.heap.size<=b) wr x (P.take b)/\Calm w3 wr
theorem yJ{α:Type}{l:List α}{i:Nat}(h:i<l.length)(d:α):l.take (i+1)=l.take i++[l.getD i d]:=by
 rw[List.take_succ_eq_append_getElem h];simp[aS,h]
theorem Mc.new{w w3 W6 wr:ag}{τ:Nat->Nat}{S:aE}{mp:Nat}{hv:aA}{Q:List (List (List Dd))}(cM:St w3 τ 0 0 S)(ht:∀b,b<w.heap.size->τ b=1000)(c0:Calm w w3)(c3:Calm w3 W6)(hp:tX Q)
 (hh:W6.ownsRow 0 31 15 hv Q.length ((List.replicate Q.length d6).flatMap aX)) (h1:∀b,ay hv b->w3.heap.size<=b/\b≠mp) (hm:w3.heap.size<=mp) (hm6:mp<W6.heap.size) (hI:X4 W6 mp S.sp hv Q Q.length wr) :
 ∃tv aL,Mc wr aL 0 0 mp S Q tv hv ⟨nS,[]⟩ (List.replicate Q.length d6)/\(∀b,b<w.heap.size->aL b=1000)/\Calm w wr:=by
 classical
 obtain⟨tv,hG,hc,hf⟩:=hI;have hQ:Q.take Q.length=Q:=List.take_length;rw[hQ] at hG;have f3:Fr (λk=>k=mp) w3 wr:=(Calm.any c3:Fr (λk=>k=mp) _ _).trans hf;have cw:Calm w wr:=c0.join f3 (λj hj e=>by have e:j=mp:=e;have:=c0.size;omega);refine⟨tv,λb=>if b<w3.heap.size then τ b else if b=mp then 600 else if ay hv b then 601 else 603,⟨?_,hc,?_,⟨iY _ _ _,bY _⟩,?_,?_,?_,λb hb=>absurd hb (ay.nil b),by simp,?_,hp⟩,λb hb=>?_,cw⟩
 ·obtain⟨M,k1,k2,k3⟩:=cM;refine⟨M,⟨λt=>(M t).fr (k1.at_ t) f3 (λk hk e=>?_),λt k hk=>?_⟩,k2,k3⟩
  ·have:=k1.lt t hk;omega
  ·simp only[if_pos (k1.lt t hk)];exact k1.tag t k hk
 ·rw[List.length_replicate];exact aw hh hf (λb hb e=>(h1 b hb).2 e)
 ·have h9:ed (λb=>W6.heap.size<=b) wr tv Q:=hG.Wi VP
  exact h9.mono (λb _ hb=>by
   have hb:W6.heap.size<=b:=hb;have s3:=c3.size;have n1:¬b<w3.heap.size:=by omega
   have n2:¬b=mp:=by omega
   have n3:¬ay hv b:=λe=>by have:=(World.ownsRow.lt hh b e).2;omega
   show(if b<w3.heap.size then τ b else if b=mp then 600 else if ay hv b then 601 else 603)=603
   rw[if_neg n1,if_neg n2,if_neg n3])
 ·show(if mp<w3.heap.size then τ mp else if mp=mp then 600 else _)=600;rw[if_neg (by omega),if_pos rfl]
 ·intro b hb;obtain⟨g1,g2⟩:=h1 b hb;show(if b<w3.heap.size then τ b else if b=mp then 600 else if ay hv b then 601 else 603)=601;rw[if_neg (by omega),if_neg g2,if_pos hb]
 ·intro t P7;rw[List.length_replicate] at P7;have e:(List.replicate Q.length d6).getD t d0=d6:=by simp[aS,P7]
  rw[e];exact⟨⟨by decide,by show(0:Int)<=_;omega⟩,⟨by decide,by decide⟩,λe=>(by cases e),rfl,rfl,λa ha=>(by simp[d6] at ha;omega),λa ha=>(by simp[d6] at ha;omega)⟩
 ·show(if b<w3.heap.size then τ b else _)=1000;rw[if_pos (by have:=c0.size;omega)];exact ht b hb
theorem Ql{T0:Nat->Prop}{w:ag}{v:aA}{Q:List (List (List Dd))}(hr:ed T0 w v Q)(hp:tX Q)(n:Nat)(h1:16<=n)(h2:n<=16384)(r u eI:Int):aJ prog 7 #[vI (n:Int),vI r,vI u,vI eI,v] w (MnP w Q):=by
 obtain⟨i0,hi,iR,iT,jm⟩:=info_parts Qc;have uB:=Bj hr hp;obtain⟨va,vc,rfl,qg⟩:=hr;obtain⟨N,hN⟩:=ao Q.length;have hN1:1<=N/\N<=4:=by rw[<-hN];exact hp.n
 have gG:Hid (∀i,i<N->∃g o u,va=some ⟨g,o,none⟩/\(∀W,Calm w W->W.cell? ⟨g,o+i,none⟩=some u)/\gy T0 w u (Q.getD i [])):=λi hi=>by
  obtain⟨g,o,u,h1,h2,h3,h4⟩:=qg i (by omega);exact⟨g,o,u,h1,λW c=>c.cellAt h3 id,h4⟩
 have bU:Hid (∀i,i<N->(Q.getD i []).length<=3/\∀b,b<(Q.getD i []).length->1<=((Q.getD i []).getD b []).length/\((Q.getD i []).getD b []).length<=6):=λi hi=>⟨hp.b i (by omega),λb hb=>hp.d i (by omega) b hb⟩;have kK:Hid (∀i,i<N->Q.take (i+1)=Q.take i++[Q.getD i []]):=λi hi=>yJ (by omega) [];have Jq:Hid (∀i,i<=N->(Q.take i).length=i):=λi hi=>by rw[List.length_take];omega
 have htx:=λW=>hid (NC W n N h1 h2 (by omega) (by omega) r u eI);rw[hN] at uB ⊢;replace uB:=hid uB;replace hp:=hid hp;replace hN:=hid hN;replace hi:=hid hi;clear qg h1 h2;go_in;go_wp2_with fail
 refine uB.out.mono ?_;rintro e w1 ⟨rfl,c1⟩;clear uB;have k2:Calm w (w1.alloc (.cells #[vI 0,vI 0,vI 0] 46)):=c1.alloc _;go_upto_region 4 with fail
 generalize fI:w1.alloc (.cells #[vI 0,vI 0,vI 0] 46)=W2 at *;clear fI;have ox:=(htx W2).out;clear htx c1;go_wp2_with fail
 refine ox.mono ?_;rintro e w3 ⟨τ,S,rfl,cM,ht,c3,Jr,B8⟩;clear ox;have Tt:=k2.trans c3;have Vz:Hid (∀b,b<w.heap.size->τ b=1000):=λb hb=>ht b (by have:=k2.size;omega);obtain⟨sp,gU⟩:=ao S.sp;rw[gU];replace gU:=hid gU;replace cM:=hid cM;replace Jr:=hid Jr;replace B8:=hid B8;clear ht k2 c3
 go_upto_block 0 with (
  at_make
  go_must (refine wpList_make_full _ rfl _ _ 59 rfl w3.heap.size 31 i0 (.agg #[vI 0,vI 0,vI 0,vI 0,vI 0,vI 0,vI 0,vI 0,vI 0,vI 0,vI 0,vI 0,vI 0,vI 0,.bool false]) 15 Tryz.underlying59 hi.out iR iT .i64 .i64 N N N rfl rfl rfl rfl (by rw[jm];omega) (by unfold maxLen;omega) (aD _) ?_)
  intro w4 bS eK;rw[Qj N hN1.2] at bS;have c4:Calm w3 w4:=Fr.grown ah eK (λk hk=>by cases hk);replace bS:=hid bS;have wm:w3.heap.size<w4.heap.size:=(World.ownsRow.lt bS.out w3.heap.size (ay.mk.2 rfl)).2
  clear eK)
 obtain⟨kb,ob⟩:=mG w4 [pV sp,.slice none 0 0,.slice (some ⟨w3.heap.size,0,none⟩) N N,.int .i32 0,.int .u32 0,.slice none 0 0] 70;have Sr:(w4.alloc (.cells #[pV sp,.slice none 0 0,.slice (some ⟨w3.heap.size,0,none⟩) N N,.int .i32 0,.int .u32 0,.slice none 0 0] 70)).heap.size=w4.heap.size+1:=by simp
 generalize sO:w4.alloc (.cells #[pV sp,.slice none 0 0,.slice (some ⟨w3.heap.size,0,none⟩) N N,.int .i32 0,.int .u32 0,.slice none 0 0] 70)=W6 at *;clear sO;obtain⟨mp,Ew⟩:=ao w4.heap.size;rw[Ew] at ob Sr wm ⊢;have kg:Hid (X4 W6 mp sp (.slice (some ⟨w3.heap.size,0,none⟩) N N) Q 0 W6):=⟨nS,jf.nil _,ob,ah⟩;have N0:=Tt.trans (c4.trans kb);have acX:w.heap.size<=mp:=by have:=Tt.size;omega
 have lD:Hid (∀wr,X4 W6 mp sp (.slice (some ⟨w3.heap.size,0,none⟩) N N) Q N wr->MnP w Q (.returned (.tuple #[pV mp,vI 0])) wr):=λwr hI=>by
  have tq:=hN.out;have ab1:=gU.out;subst tq ab1;obtain⟨tv,aL,g1,g2,g3⟩:=Mc.new cM.out Vz.out Tt (c4.trans kb) hp.out (aw (aaw bS.out) kb (λ_ _=>id)) (λb hb=>by obtain rfl:=ay.fJ hb;exact⟨aD _,by omega⟩) (by omega) (by omega) hI;exact⟨mp,aL,S,tv,_,rfl,g1,g2,g3,Jr.out,B8.out⟩
 replace N0:=hid N0;clear ob kb c4 bS cM Vz gU hp hN Tt iR iT jm;go_wp2_with fail
 go_loopw [49] (λz w2=>∃i:Nat,i<=N/\z=vI i/\X4 W6 mp sp (.slice (some ⟨w3.heap.size,0,none⟩) N N) Q i w2) (λz _=>N-(intOf z).toNat)
 case atStart=>exact⟨0,by omega,rfl,kg.out⟩
 case round=>
  clear kg;obtain⟨wo,rfl⟩:∃wo,wo=wr:=⟨_,rfl⟩;obtain⟨i,oY,rfl,hI⟩:=hrel
  by_cases aM:i<N
  ·obtain⟨g,o,u,rfl,ku,ba,bc,rfl,hb⟩:=gG.out i aM;obtain⟨tv,FW,jT,Zx⟩:=hI;obtain⟨Lk,o_⟩:=bU.out i aM;have aaq:=hid (kK.out i aM);have ZO:=hid (Jq.out i oY);have Yw:Calm w wo:=N0.out.join Zx (λj hj e=>by omega);obtain⟨R0,D_⟩:=ao (Q.getD i []);rw[D_] at hb Lk o_ ku aaq;obtain⟨M,hM⟩:=ao R0.length;rw[hM] at ku Lk;have y0:=ku wo Yw
   have BS:Hid (∀b,b<M->∃g2 o2 u2,ba=some ⟨g2,o2,none⟩/\(∀W,Calm wo W->W.cell? ⟨g2,o2+b,none⟩=some u2)/\gz T0 wo u2 (R0.getD b [])):=λb F0=>by
    obtain⟨g,o,u,h1,h2,h3,h4⟩:=hb b (by omega);exact⟨g,o,u,h1,λW c=>(Yw.trans c).cellAt h3 id,h4.calm Yw⟩
   have B_:Hid (∀b,b<M->1<=(R0.getD b []).length/\(R0.getD b []).length<=6):=λb F0=>o_ b (by omega);have Cn:Hid (∀b,b<M->R0.take (b+1)=R0.take b++[R0.getD b []]):=λb F0=>yJ (by omega) [];have ZP:Hid (∀b,b<=M->(R0.take b).length=b):=λb F0=>by rw[List.length_take];omega
   have ZA:Hid (R0.take M=R0):=by unfold Hid;rw[<-hM,List.take_length]
   replace Yw:=hid Yw;replace FW:=hid FW;replace jT:=hid jT;replace Zx:=hid Zx;clear ku D_ hM hb o_;go_wp2_with fail
   clear y0;go_loopw [19,55] (λx z w2=>∃b:Nat,b<=M/\z=vI b/\MnJ wo R0 x b w2) (λ_ z _=>M-(intOf z).toNat)
   case atStart=>exact⟨0,by omega,rfl,jf.nil _,ah⟩
   case round=>
    obtain⟨wx,rfl⟩:∃wx,wx=wr:=⟨_,rfl⟩;obtain⟨x5,rfl⟩:∃x5,x5=u19:=⟨_,rfl⟩;obtain⟨b,hb,rfl,AA,dN⟩:=hrel
    by_cases dO:b<M
    ·obtain⟨g2,o2,u2,rfl,nW,hd⟩:=BS.out b dO;obtain⟨L0,Pp⟩:=ao (R0.getD b []);obtain⟨jg,BV⟩:=B_.out b dO;have aar:=hid (Cn.out b dO);have abH:=hid (ZP.out b hb);rw[Pp] at hd jg BV aar;obtain⟨g3,o3,dc,rfl,kS⟩:=(hd.calm dN).cells jg;obtain⟨K,hK⟩:=ao L0.length;rw[hK] at nW jg BV;have z0:=nW wx dN;have Qa:Hid ((L0.flatMap fW).length=K*5):=by unfold Hid;rw[<-hK];exact ij fW 5 tj L0
     have abn:Hid (∀j u,(L0.flatMap fW)[j]?=some u->wx.cell? ((⟨g3,o3,none⟩:Addr).add j)=some u):=λj u hj=>by rw[ei];exact kS j u hj
     have hsw:Hid (wo.heap.size<=wx.heap.size):=dN.size;have tC:Hid (∀b,ay x5 b->b<wx.heap.size):=λb hb=>AA.lt hb;replace AA:=hid AA;replace dN:=hid dN;replace hK:=hid hK;have acE:=hid Pp;clear nW Pp hd kS;have Nr:True:=trivial
     go_wp2_with (first
      | (
       at_builtin
       have _t:=Nr
       go_must (refine fh giD rfl _ _ rfl nS 0 [] (iY _ _ _) rfl ⟨g3,o3,none⟩ K dc (L0.flatMap fW) rfl Qa.out (O4 L0) abn.out (by omega) ?_)
       intro v6 w6 Jv f6 hn6;rw[ia,List.nil_append] at Jv;have c6:Calm wx w6:=f6.mono (λk _ e=>absurd e (ay.nil k));obtain⟨xa,xc,rfl⟩:=aF Jv
       have hD6:Hid (qN (λb=>wx.heap.size<=b) w6 (.slice xa K xc) L0):=⟨by rw[hK.out];exact Jv,λb hb=>by
        rcases hn6 b hb with e|e
        ·exact absurd e (ay.nil b)
        ·exact e⟩
       have ka:Calm w6 (w6.alloc (.cells #[.slice xa K xc] 50)):=ah.alloc _;have hG2:=hid (AA.out.calm Qb (c6.trans ka));have dJ:=hid (dN.out.trans (c6.trans ka))
       have hy:Hid (gz (λb=>wo.heap.size<=b/\¬ay x5 b) (w6.alloc (.cells #[.slice xa K xc] 50)) (.slice xa K xc) L0):=by
        have h0:=(hD6.out.calm ka).Wi;exact h0.mono (λb _ hb=>⟨gw hsw.out hb,λe=>by have:=tC.out b e;have F0:wx.heap.size<=b:=hb;omega⟩)
       have k_:Hid ((w6.alloc (.cells #[.slice xa K xc] 50)).cell? ⟨w6.heap.size,0,none⟩=some (.slice xa K xc)):=by
        unfold Hid;rw[World.cell?_alloc_new];rfl
       have iG:Hid (wo.heap.size<=(w6.alloc (.cells #[.slice xa K xc] 50)).heap.size):=dJ.out.size;clear Jv f6 hn6 c6 ka Nr;have Ns:True:=trivial
       go_frame)
      | (at_builtin;have _t:=Ns;go_must (refine kQ giB Qb rfl _ _ rfl x5 (R0.take b) hG2.out rfl (.slice xa K xc) L0 w6.heap.size 1 rfl k_.out rfl hy.out (λb hb=>gw iG.out hb) (by rw[abH.out];omega) ?_);intro g8 c8 w8 Ez f8;have hQ:Hid (MnJ wo R0 (.slice (some ⟨g8,0,none⟩) ((R0.take b).length+1) c8) (b+1) w8):=⟨by rw[aar.out];exact Ez,dJ.out.join f8 (λj hj e=>by have:wo.heap.size<=j:=hG2.out.own e;omega)⟩;clear Ez f8 Ns;go_frame))
     exact⟨⟨b+1,by omega,by simp,hQ.out⟩,by simp[intOf] <;> omega⟩
    ·have Ep:decide ((b:Int)<M)=false:=decide_eq_false (by omega);obtain rfl:b=M:=by omega
     obtain⟨pa,pc,VH⟩:=AA.slice;have HY:=ZP.out b (aD _);rw[HY] at VH;subst VH;have hfu:=ZA.out;rw[hfu] at AA;have ka:Calm wx (wx.alloc (.cells #[.slice pa b pc] 38)):=ah.alloc _;have fz:=Zx.out;have hG2:=hid (FW.out.calm VP (dN.trans ka));have qY:=hid (jT.out.calm dN);have zw:=hid ((Zx.out.trans (Calm.any (dN.trans ka))));have tC:Hid (∀b,ay tv b->b<wo.heap.size):=λb hb=>FW.out.lt hb
     have hy:Hid (gy (λb=>W6.heap.size<=b/\¬ay tv b) (wx.alloc (.cells #[.slice pa b pc] 38)) (.slice pa b pc) R0):=by
      have h0:gy _ _ _ _:=(AA.calm Qb ka).Wi Qb;exact h0.mono (λb _ hb=>⟨gw fz.size hb,λe=>by have:=tC.out b e;have F0:wo.heap.size<=b:=hb;omega⟩)
     have k_:Hid ((wx.alloc (.cells #[.slice pa b pc] 38)).cell? ⟨wx.heap.size,0,none⟩=some (.slice pa b pc)):=by
      unfold Hid;rw[World.cell?_alloc_new];rfl
     have iG:Hid (W6.heap.size<=(wx.alloc (.cells #[.slice pa b pc] 38)).heap.size):=zw.out.size;have ym:=(qY.out 1 _ rfl).1;have hcB:=hid (qY.out.calm ka);have abQ:Hid (¬ay tv mp):=λe=>by have:W6.heap.size<=mp:=FW.out.own e;omega
     clear fz AA dN ka hfu HY qY
     go_wp2_with (
      at_builtin
      go_must (refine kQ giQ VP rfl _ _ rfl tv (Q.take i) hG2.out rfl (.slice pa b pc) R0 wx.heap.size 1 rfl k_.out rfl hy.out (λb hb=>gw iG.out hb) (by rw[ZO.out];omega) ?_)
      intro g8 c8 w8 Ez f8;rw[ZO.out] at Ez ⊢;have PG:=hcB.out.fr f8 abQ.out;have y8:=(PG 1 _ rfl).1;have y8':=(PG 1 _ rfl).2;have Jp:=PG.set 1 (.slice (some ⟨g8,0,none⟩) (i+1) c8) (by simp);have F9:=jR w8 (mp) 1 (.slice (some ⟨g8,0,none⟩) (i+1) c8)
      have hQ:Hid (X4 W6 mp sp (.slice (some ⟨w3.heap.size,0,none⟩) N N) Q (i+1) (w8.setCell ⟨mp,1,none⟩ (.slice (some ⟨g8,0,none⟩) (i+1) c8))):=
       ⟨_,by rw[aaq.out];exact Ez.fr VP F9 (λb hb e=>by have hb:W6.heap.size<=b:=hb;omega),Jp,(zw.out.join f8 (λj hj e=>by have:W6.heap.size<=j:=hG2.out.own e;omega)).trans F9⟩
      clear Ez f8 PG Jp F9
      go_frame)
     exact⟨⟨i+1,by omega,by simp,hQ.out⟩,by simp[intOf] <;> omega⟩
  ·have ic:decide ((i:Int)<N)=false:=decide_eq_false (by omega);obtain rfl:i=N:=by omega
   have bM:=hid (lD.out _ hI);clear hI lD;go_wp2;exact bodyPost_ret (v:=.tuple #[pV mp,vI 0]) (by simp[results,Tryz.f7,go_sem]) rfl bM.out
section
open Go.RowKit Go.Shelf Go.MuLone
def XJ(w:ag)(mp:Nat)(a0 a1 a2 ev:aA)(n:Nat)(xs:List aA)(e:Ending)(w':ag):Prop:=
 ∃u,e=.returned u/\w'.ownsRow 0 76 6 u n xs/\(∀b,ay u b->w.heap.size<=b)/\af w' mp [a0,a1,a2,.int .i32 0,.int .u32 0,ev]/\w'.ownsRow 0 76 6 ev n xs/\Fr (λk=>k=mp) w w'
theorem Tp{w:ag}{mp:Nat}{a0 a1 a2 ev:aA}{n:Nat}{xs:List aA}(h:af w mp [a0,a1,a2,.int .i32 0,.int .u32 0,ev])(hr:w.ownsRow 0 76 6 ev n xs)(hne:¬ay ev mp)(hn:n<=2000)(hx:∀u∈xs,u.oneCell'=true) :
 aJ prog 29 #[.pointer (some ⟨mp,3,none⟩)] w (XJ w mp a0 a1 a2 ev n xs):=by
 obtain⟨ea,ec,rfl⟩:=aF hr;have c3:=(h 3 _ rfl).1;have f3:=(h 3 _ rfl).2;have Ew:mp<w.heap.size:=h.lt (by simp);have h1:=h.set 3 (.int .i32 1) (by simp);have F1:=jR w (mp) 3 (.int .i32 1);obtain⟨W1,gO⟩:=ao (w.setCell ⟨mp,3,none⟩ (.int .i32 1));rw[gO] at h1 F1;have gA:=aw hr F1 (λb hb e=>hne (e ▸ hb));have d5:W1.cell? ⟨mp,5,none⟩=some (.slice ea n ec):=(h1 5 _ rfl).1;have mq:=F1.size;replace gA:=hid gA;replace hx:=hid hx;replace h1:=hid h1;replace F1:=hid F1;replace hr:=hid hr;replace hne:=hid hne;clear h;go_enter_defers func29,ntmps29
 go_wp2_with (first
  | (go_at_call 41;refine(lock_free sj ⟨mp,3,none⟩ _ c3 f3).mono ?_;rintro e w' ⟨rfl,rfl⟩;rw[gO])
  | (
   at_builtin
   go_must (refine mn giE rfl _ _ rfl (.slice none 0 0) 0 [] ⟨by simp,.inl ⟨rfl,rfl⟩⟩ rfl (.slice ea n ec) n xs gA.out rfl hx.out (by omega) ?_)
   intro v' w3 fp TS ld;have k3:Calm W1 w3:=TS.mono (λb _ e=>(ay.nil b e).elim);have h3:=h1.out.calm k3;have d33:=(h3 3 _ rfl).1;have g33:=(h3 3 _ rfl).2
   have hP:XJ w mp a0 a1 a2 (.slice ea n ec) n xs (.returned v') (w3.setCell ⟨mp,3,none⟩ (.int .i32 0)):=by
    have F2:=jR w3 (mp) 3 (.int .i32 0)
    have hv:∀b,ay v' b->W1.heap.size<=b:=λb hb=>by
     rcases ld b hb with e|e
     ·exact(ay.nil b e).elim
     ·exact e
    have e9:0+n=n:=ia n;refine⟨v',rfl,?_,λb hb=>gw mq (hv b hb),h3.set 3 (.int .i32 0) (by simp),aw (aw gA.out k3 (λ_ _=>id)) F2 (λb hb e=>hne.out (e ▸ hb)),(F1.out.trans (Calm.any k3)).trans F2⟩;rw[e9,List.nil_append] at fp;exact aw fp F2 (λb hb e=>by have:=hv b hb;omega)
   replace hP:=hid hP
   clear fp TS ld k3 h3))
 refine leaves_cons (f:=42) (args:=#[.pointer (some ⟨mp,3,none⟩)]) (by simp) (by simp[go_sem]) ?_;refine(unlock_deferred sj ⟨mp,3,none⟩ .returning _ d33 g33).mono ?_;rintro e u' w'' ⟨rfl,rfl,rfl⟩;exact⟨_,results_tmp (t:=2) rfl _ _ _,hP.out⟩
end
section
abbrev pR(c:Nat):aA:=bw c
theorem af.zT(w:ag)(vs:List aA)(ty:TypeId)(b:Nat)(h:w.heap.size=b):af (w.alloc (.cells vs.toArray ty)) b vs:=by
 subst h;exact af.new w vs ty
theorem qV{α:Type}(f:α->List aA)(k:Nat)(hf:∀a,(f a).length=k)(d d':α)(j:Nat)(hj:j<k)(y:aA):∀ (l:List α) (i:Nat),i<l.length->f d'=(f (l.getD i d)).set j y->(l.flatMap f).set (i*k+j) y=(l.set i d').flatMap f
 | [],i,h,_=>by simp at h
 | x::l,0,_,e=>by
   rw[List.flatMap_cons,Nat.zero_mul,ia,List.set_append_left _ _ (by rw[hf];exact hj),iz,List.flatMap_cons,e];rfl
 | x::l,i+1,h,e=>by
   have e1:(i+1)*k=i*k+k:=Nat.succ_mul _ _
   rw[List.flatMap_cons,List.set_append_right _ _ (by rw[hf,e1];omega),jk,List.flatMap_cons,hf,
    show(i+1)*k+j-k=i*k+j by omega,qV f k hf d d' j hj y l i (by simpa using h) e]
theorem xH(w:ag)(xs:List aA)(t:TypeId)(j:Nat){u:aA}(hj:xs[j]?=some u):(w.alloc (.cells xs.toArray t)).cell? ⟨w.heap.size,j,none⟩=some u:=by
 rw[World.cell?_alloc_new];simpa using hj
theorem oV{α:Type}{l:List α}{t:Nat}(ht:t<l.length)(x d:α):(l.set t x).getD t d=x:=by rw[aS,List.getElem?_set_self ht];rfl
theorem wK{α:Type}{l:List α}{t u:Nat}(h:u≠t)(x d:α):(l.set t x).getD u d=l.getD u d:=by rw[aS,List.getElem?_set_ne (by omega),<-aS]
theorem gdL{α:Type}{l m:List α}{k:Nat}(h:k<l.length)(d:α):(l++m).getD k d=l.getD k d:=by rw[aS,aS,List.getElem?_append_left h]
theorem gdN{α:Type}(l:List α)(x d:α):(l++[x]).getD l.length d=x:=by rw[aS,rM (aD _),Nat.sub_self];rfl
theorem RC{α β:Type}(f:α->β)(l:List α)(d:α)(k:Nat):(l.map f).getD k (f d)=f (l.getD k d):=by rw[aS,aS,List.getElem?_map];cases l[k]? <;> rfl
structure Ax where
 block:Int
 tr:Int
abbrev dp:Ax:=⟨0,-1⟩
def sX(s:Ax):List aA:=[vI s.block,vI s.tr]
theorem fe(s:Ax):(sX s).length=2:=rfl
structure Ac where
 k:Int
 e:Int
 v:Int
def NZ(a:Ac):List aA:=[vI a.k,vI a.e,vI a.v]
structure Tr where
 th:Int
 bl:Int
 st:Int
 se:Int
 fr:Int
 mM:Int
 cQ:List Ac
 lS:List Int
 en:Int
 dm:Int
def ke:Tr:=⟨0,0,0,0,0,0,[],[],0,0⟩
structure ue where
 x:Tr
 av:aA
 tv:aA
def fo:ue:=⟨ke,.slice none 0 0,.slice none 0 0⟩
def sF(m:ue):List aA:=[vI m.x.th,vI m.x.bl,vI m.x.st,vI m.x.se,vI m.x.fr,vI m.x.mM,m.av,m.tv,vI m.x.en,vI m.x.dm]
theorem fg(s:ue):(sF s).length=10:=rfl
structure Rd where
 sp:List Ax
 tr:List Tr
 bK:Int
abbrev Pg:=List (List (List Dd))
def dh(Q:Pg)(t b:Int):List Dd:=(Q.getD t.toNat []).getD b.toNat []
def Rd.spot(r:Rd)(e:En):Ax:=r.sp.getD e.t.toNat dp
def Rd.nB(r:Rd)(e:En):Tr:=r.tr.getD (r.spot e).tr.toNat ke
def D3(e:Int):Bool:=e==141 || e==100 || e==130
def Rd.begin(Q:Pg)(r:Rd)(i:Nat)(e:En):Rd:=
 if e.e≠0 then { r with sp:=r.sp.set e.t.toNat ⟨((Q.getD e.t.toNat []).length:Nat),(r.spot e).tr⟩ }
 else ⟨r.sp.set e.t.toNat ⟨(r.spot e).block,(r.tr.length:Nat)⟩,r.tr++[⟨e.t,e.b,e.v,r.bK,i,-1,[],[],0,0⟩],r.bK⟩
def last(Q:Pg)(e:En):Bool:=D3 e.e || (e.e==0 && ((dh Q e.t e.b).getD e.n.toNat dD).k==14)
def Rd.jn(Q:Pg)(r:Rd)(i:Nat)(e:En):Option Rd:=
 if e.n≠((r.nB e).cQ.length:Nat)\/((dh Q e.t e.b).length:Nat)<=e.n then none
 else some ⟨if last Q e then r.sp.set e.t.toNat ⟨if e.e≠141 then (r.spot e).block+1 else (r.spot e).block,-1⟩ else r.sp,
  r.tr.set (r.spot e).tr.toNat { r.nB e with cQ:=(r.nB e).cQ++[⟨e.k,e.e,e.v⟩],lS:=(r.nB e).lS++[(i:Int)],en:=if last Q e then 2 else (r.nB e).en,mM:=if last Q e then i else (r.nB e).mM },r.bK⟩
def Rd.gC(Q:Pg)(r:Rd)(i:Nat)(e:En):Option Rd:=
 if e.n≠((r.nB e).cQ.length:Nat)\/e.n≠((dh Q e.t e.b).length:Nat) then none
 else some ⟨r.sp.set e.t.toNat ⟨if e.e≠0 then (r.spot e).block else (r.spot e).block+1,-1⟩,
  r.tr.set (r.spot e).tr.toNat (if e.e≠0 then { r.nB e with mM:=i,en:=2 } else { r.nB e with mM:=i,en:=1,dm:=e.v }),r.bK⟩
def Rd.take(Q:Pg)(r:Rd)(i:Nat)(e:En):Option Rd:=
 if e.t = -1 then (if e.k=5 then some { r with bK:=r.bK+1 } else if e.k=4 then some r else none)
 else if e.t<0\/(Q.length:Nat)<=e.t then none
 else if e.b<0\/((Q.getD e.t.toNat []).length:Nat)<=e.b\/e.b≠(r.spot e).block then none
 else if e.k=1 then (if 0<=(r.spot e).tr then none else some (r.begin Q i e))
 else if e.k=2 then (if 0<=(r.spot e).tr then r.jn Q i e else none)
 else if e.k=3 then (if 0<=(r.spot e).tr then r.gC Q i e else none)
 else none
def Rd.start(Q:Pg):Rd:=⟨List.replicate Q.length dp,[],0⟩
def Rd.run(Q:Pg):List En->Nat->Rd->Option Rd
 | [],_,r=>some r
 | e::l,i,r=>match r.take Q i e with
   | none=>none
   | some r'=>Rd.run Q l (i+1) r'
def tries(Q:Pg)(H:List En):Option (List Tr):=(Rd.run Q H 0 (Rd.start Q)).map (·.tr)
structure OH(Q:Pg)(r:Rd)(i:Nat):Prop where
 n:r.sp.length=Q.length
 s:∀t,t<r.sp.length->bX (r.sp.getD t dp).block/\-1<=(r.sp.getD t dp).tr/\(r.sp.getD t dp).tr<r.tr.length
 c:0<=r.bK/\r.bK<=i
 l:r.tr.length<=i
 a:∀k,k<r.tr.length->(r.tr.getD k ke).cQ.length<=i/\(r.tr.getD k ke).lS.length<=i/\0<=(r.tr.getD k ke).en/\(r.tr.getD k ke).en<=2
theorem OH.fD{Q:Pg}{r r':Rd}{i:Nat}(h:OH Q r i){t:Nat}{s':Ax}(e:r'.sp=r.sp.set t s'\/r'.sp=r.sp)(hs:bX s'.block/\-1<=s'.tr/\s'.tr<(r'.tr.length:Nat))(hl:r.tr.length<=r'.tr.length/\r'.tr.length<=i+1)(hc:r'.bK=r.bK)
 (ha:∀k,k<r'.tr.length->(k<r.tr.length/\r'.tr.getD k ke=r.tr.getD k ke)\/((r'.tr.getD k ke).cQ.length<=i+1/\(r'.tr.getD k ke).lS.length<=i+1/\0<=(r'.tr.getD k ke).en/\(r'.tr.getD k ke).en<=2)):OH Q r' (i+1):=by
 have hn:r'.sp.length=r.sp.length:=by rcases e with e|e <;> rw[e];rw[bN]
 have h1:=h.c.1;have h2:=h.c.2;refine⟨hn.trans h.n,λu hu=>?_,⟨by rw[hc];exact h1,by rw[hc];omega⟩,hl.2,λk hk=>?_⟩
 ·rw[hn] at hu;have hu3:=h.s u hu;have aV:bX (r.sp.getD u dp).block/\-1<=(r.sp.getD u dp).tr/\(r.sp.getD u dp).tr<(r'.tr.length:Nat):=⟨hu3.1,hu3.2.1,by have:=hu3.2.2;omega⟩;rcases e with e|e
  ·rw[e]
   by_cases ut:u=t
   ·subst ut;rw[oV hu];exact hs
   ·rw[wK ut];exact aV
  ·rw[e];exact aV
 ·rcases ha k hk with ⟨h3,h4⟩|h3
  ·rw[h4];have:=h.a k h3;exact⟨by omega,by omega,this.2.2.1,this.2.2.2⟩
  ·exact h3
theorem aa6:GI 87 35 3:=by
 obtain⟨i0,hi,iR,iT,jm⟩:=info_parts (show(prog.info? 35).map (λi=>(i.zero,i.size,i.bytes))=some (some (.agg #[vI 0,vI 0,vI 0]),3,24) by kernel_rfl);exact⟨Tryz.underlying87,i0,_,_,hi,iR,iT,jm,rfl,by decide,by decide⟩
theorem aa7:GI 77 89 10:=by
 obtain⟨i0,hi,iR,iT,jm⟩:=info_parts (show(prog.info? 89).map (λi=>(i.zero,i.size,i.bytes))=some (some (.agg #[vI 0,vI 0,vI 0,vI 0,vI 0,vI 0,.slice none 0 0,.slice none 0 0,vI 0,vI 0]),10,112) by kernel_rfl);exact⟨Tryz.underlying77,i0,_,_,hi,iR,iT,jm,rfl,by decide,by decide⟩
structure fS(L:Nat)(w:ag)(τ:Nat->Nat)(w':ag)(aL:Nat->Nat):Prop where
 fr:Fr (λk=>τ k<L) w w'
 tg:oO w τ aL
theorem fS.refl(L:Nat)(w:ag)(τ:Nat->Nat):fS L w τ w τ:=⟨ah,λ_ _=>rfl⟩
theorem fS.calm(L:Nat){w w':ag}(τ:Nat->Nat)(c:Calm w w'):fS L w τ w' τ:=⟨c.any,λ_ _=>rfl⟩
theorem fS.trans{L:Nat}{w w1 w2:ag}{τ gI fj:Nat->Nat}(h:fS L w τ w1 gI)(k:fS L w1 gI w2 fj):fS L w τ w2 fj:=by
 have hs:=h.fr.size;exact⟨h.fr.join k.fr (λj hj e=>by rw[h.tg j hj] at e;exact e),λj hj=>by rw[k.tg j (by omega),h.tg j hj]⟩
theorem bE.aaI{L:Nat}{w w':ag}{τ:Nat->Nat}{A:Mem}(h:bE w τ A){t:Nat}{a:tQ}(f:Fr (A t).dh w w')(ha:a.at_ w')(hn:∀k,a.dh k->(A t).dh k\/w.heap.size<=k)(ht:t<L)(m:Nat) :
 ∃aL,bE w' aL (A.put t a)/\fS L w τ w' aL/\∀k,w.heap.size<=k->¬a.dh k->aL k=m:=by
 classical
 refine⟨λk=>if k<w.heap.size then τ k else if a.dh k then t else m,⟨λj=>?_,λj k hk=>?_⟩,⟨f.mono (λk _ hk=>?_),λk hk=>if_pos hk⟩,λk hk gX=>by simp only[];rw[if_neg (by omega),if_neg gX]⟩
 ·by_cases e:j=t
  ·subst e;rw[Mem.aG];exact ha
  ·rw[Mem.aB _ _ e];exact(A j).fr (h.at_ j) f (λk hk gX=>e (by rw[<-h.tag j k hk,h.tag t k gX]))
 ·by_cases e:j=t
  ·subst e;rw[Mem.aG] at hk;rcases hn k hk with h1|h1
   ·simp only[if_pos (h.lt j h1)];exact h.tag j k h1
   ·simp only[if_neg (show ¬k<w.heap.size by omega)];rw[if_pos hk]
  ·rw[Mem.aB _ _ e] at hk;simp only[if_pos (h.lt j hk)];exact h.tag j k hk
 ·show τ k<L;rw[h.tag t k hk];exact ht
theorem bE.SP{L:Nat}{w w':ag}{τ:Nat->Nat}{A:Mem}(h:bE w τ A){t:Nat}{a:tQ}(f:Fr (A t).dh w w')(ha:a.at_ w')(hn:∀k,a.dh k->(A t).dh k)(ht:t<L):bE w' τ (A.put t a)/\fS L w τ w' τ:=
 ⟨h.put' f ha hn,⟨f.mono (λk _ hk=>by show τ k<L;rw[h.tag t k hk];exact ht),λ_ _=>rfl⟩⟩
theorem fS.Gv{L:Nat}{w w':ag}{τ aL:Nat->Nat}{v:aA}{Q:Pg}(h:fS L w τ w' aL)(p:ed (λb=>L<=τ b) w v Q):ed (λb=>L<=aL b) w' v Q:=
 ((p.mono (T':=λb=>L<=τ b/\b<w.heap.size) (λb hb e=>⟨e,hb⟩)).fr h.fr (λb e e2=>by have e2:τ b<L:=e2;omega)).mono (λb _ e=>by show L<=aL b;rw[h.tg b e.2];exact e.1)
structure wg(M:Mem)(rp:Nat)(pv atv ib:aA)(sp:List Ax)(ms:List ue)(bK:Int):Prop where
 c:M 1=bD rp pv [atv,ib,vI bK]
 a:M 2=fU 135 2 atv sp.length (sp.flatMap sX)
 t:M 3=fU 89 10 ib ms.length (ms.flatMap sF)
 x:∀k,k<ms.length->M (10+2*k)=fU 35 3 (ms.getD k fo).av (ms.getD k fo).x.cQ.length ((ms.getD k fo).x.cQ.flatMap NZ)/\M (10+2*k+1)=fV (ms.getD k fo).tv (ms.getD k fo).x.lS
 z:∀j,10+2*ms.length<=j->M j=rQ
def jP(w:ag)(τ:Nat->Nat)(rp:Nat)(pv:aA)(Q:Pg)(i:Nat)(r:Rd):Prop:=
 ∃M atv ib ms,bE w τ M/\wg M rp pv atv ib r.sp ms r.bK/\ms.map (·.x)=r.tr/\ed (λb=>10000<=τ b) w pv Q/\OH Q r i
section
variable {w:ag}{τ:Nat->Nat}{rp i:Nat}{pv:aA}{Q:Pg}{r:Rd}
theorem jP.calm{w':ag}(h:jP w τ rp pv Q i r)(c:Calm w w'):jP w' τ rp pv Q i r:=by
 obtain⟨M,atv,ib,ms,h1,h2,h3,h4,h5⟩:=h;exact⟨M,atv,ib,ms,h1.calm c,h2,h3,h4.calm c,h5⟩
theorem OH.mono{j:Nat}(h:OH Q r i)(hj:i<=j):OH Q r j:=⟨h.n,h.s,⟨h.c.1,by have:=h.c.2;omega⟩,by have:=h.l;omega,λk hk=>by have:=h.a k hk;exact⟨by omega,by omega,this.2.2.1,this.2.2.2⟩⟩
end
end
