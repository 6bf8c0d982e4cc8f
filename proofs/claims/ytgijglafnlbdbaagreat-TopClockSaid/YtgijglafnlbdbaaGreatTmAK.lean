import Derived.Lib.AppendZerosOnto
import Derived.Test.YtgijglafnlbdbaaGreatTmAJ
set_option linter.all false
set_option maxHeartbeats 4000000
set_option maxRecDepth 8000
namespace Go.Proofs.YtgijglafnlbdbaaGreat
open RowKit Shelf Proofs.Tryz
open Go renaming World->aj,Value->aC,Calls->aL
section
variable {w:aj}{τ:Nat->Nat}{s:Nat}{S:aY}
structure Ag where
 qv:aC
 qu:List It
 next:Nat
 bM:Int
 bt:Nat
def aY.eL(S:aY)(c:Ag):aY:={ S with qv:=c.qv,qu:=c.qu,next:=c.next,bM:=c.bM,bt:=c.bt }
theorem Fix.eL(S:aY)(c:Ag):Fix S (S.eL c):=⟨rfl,rfl,rfl,rfl,rfl,rfl,λ_=>rfl,λ_=>rfl,aM _,rfl⟩
theorem Inv.eL{S:aY}(h:Inv S)(c:Ag)(hv:c.bt<=S.now)(hq:c.qu=[])(hn:c.next=0):Inv (S.eL c):=⟨h.sn,h.vs,h.st,hq,h.tk,hv,hn⟩
theorem St.eL{w':aj}(h:St w τ s S)(c:Ag)(f:Fr (λb=>b=S.sp\/aB S.qv b) w w')(hc:ag w' S.sp (S.eL c).cs)
 (ho:w'.ownsRow 0 123 2 c.qv c.qu.length (c.qu.flatMap GG)) (iE:∀b,aB c.qv b->aB S.qv b\/w.heap.size<=b) (hh:cL c.bM) (hi:Inv (S.eL c)) :
 ∃aX,St w' aX s (S.eL c)/\aF w τ w' aX:=by
 obtain⟨M,h1,h2,m⟩:=h;have hb:(M 2).bU=λk=>k=S.sp:=by rw[h2.c];rfl
 have kF:(M 5).bU=aB S.qv:=by rw[h2.q];rfl
 obtain⟨aX,k1,k2⟩:=h1.DT (t:=2) (u:=5) (by omega) (a:=bD S.sp (pV S.D.B.hp) [pV S.D.c,pV S.ck,S.wu,c.qv,vI c.next,vI c.bM,vI c.bt,S.lv,S.cv]) (b:=sq c.qv c.qu)
  (by rw[hb,kF];exact f) hc ho (λk hk=>by rw[hb];exact hk) (λk hk=>by rw[kF];exact iE k hk) (by omega) (by omega)
 have o:=(Mem.cM.put M (P:=λj=>j=2\/j=5) (bD S.sp (pV S.D.B.hp) [pV S.D.c,pV S.ck,S.wu,c.qv,vI c.next,vI c.bM,vI c.bt,S.lv,S.cv]) (.inl rfl)).trans (Mem.cM.put _ (sq c.qv c.qu) (.inr rfl))
 refine⟨aX,⟨_,k1,⟨(o 0 (by omega)).trans h2.h,?_,(o 3 (by omega)).trans h2.k,(o 4 (by omega)).trans h2.t,?_,λt ht=>(h2.x t ht).only o (λj h1 h2=>by omega),λu hu=>(o u (by omega)).trans (h2.z u hu)⟩,
  ⟨m.he,m.se,m.ck,m.n,m.x,hh,hi⟩⟩,k2⟩
 ·rw[Mem.aA _ _ (by omega),Mem.aP];rfl
 ·rw[Mem.aP];rfl
theorem St.Fv{w':aj}(h:St w τ s S)(c:Ag)(f:Fr (λb=>b=S.sp) w w')(hc:ag w' S.sp (S.eL c).cs)(hcv:c.qv=S.qv)(kL:c.qu=S.qu)(hh:cL c.bM)(hi:Inv (S.eL c)) :
 St w' τ s (S.eL c)/\aF w τ w' τ:=by
 obtain⟨M,h1,h2,m⟩:=h;have hb:(M 2).bU=λk=>k=S.sp:=by rw[h2.c];rfl
 have f':Fr (M 2).bU w w':=f.mono (λk _ e=>by rw[hb];exact e);have k1:=h1.put' (t:=2) (a:=bD S.sp (pV S.D.B.hp) [pV S.D.c,pV S.ck,S.wu,c.qv,vI c.next,vI c.bM,vI c.bt,S.lv,S.cv]) f' hc (λk hk=>by rw[hb];exact hk);have o:=Mem.cM.put M (P:=λj=>j=2) (bD S.sp (pV S.D.B.hp) [pV S.D.c,pV S.ck,S.wu,c.qv,vI c.next,vI c.bM,vI c.bt,S.lv,S.cv]) rfl
 refine⟨⟨_,k1,⟨(o 0 (by omega)).trans h2.h,?_,(o 3 (by omega)).trans h2.k,(o 4 (by omega)).trans h2.t,?_,λt ht=>(h2.x t ht).only o (λj h1 h2 (e:j=2)=>by omega),λu hu=>(o u (by omega)).trans (h2.z u hu)⟩,
  ⟨m.he,m.se,m.ck,m.n,m.x,hh,hi⟩⟩,aF.piece h1 f' (by omega)⟩
 ·rw[Mem.aP];rfl
 ·rw[o 5 (by omega),h2.q];show sq S.qv S.qu=sq c.qv c.qu;rw[hcv,kL]
end
theorem nP{lL ety:TypeId}{k:Nat}(G:GI lL ety k){w:aj}{v:aC}{n:Nat}{xs:List aC}(cH:w.ownsRow 0 ety k v n xs)(ty:TypeId)(c:Nat):(Builtin.append_ #[lL,lL] ty #[v,.slice none 0 c]).run prog w=.ok v w:=by
 obtain⟨i0,z,bytes,hi,ie,gU,iw,Mr,hk,hb⟩:=G.info;rcases cH.2 with ⟨rfl,_⟩|⟨g,cap,cur,rfl,_,_,hn,_⟩
 ·simp[Builtin.append_,run_underlying G.und,sizeOf,typeInfo,hi,Builtin.lenOf,Builtin.firstCells]
 ·simp[Builtin.append_,run_underlying G.und,sizeOf,typeInfo,hi,Builtin.lenOf,Builtin.firstCells,hn,storeCells]
theorem k_{lL ety:TypeId}{k:Nat}(G:GI lL ety k){ops:Array Oper}{rest:List Oper}{o:Oper}{a:Act}{Q:Exit->Act->aj->Prop}{w:aj}(oJ:o.guard=none)(s x:Operand)
 (ho:o.op=.call { callee:=.builtin .append,args:=#[s,x],argTypes:=#[lL,lL] })
 (v:aC) (n:Nat) (xs:List aC) (cH:w.ownsRow 0 ety k v n xs) (hs:a.eval s=v) (u:aC) (m:Nat) (ys:List aC) (hy:w.ownsRow 0 ety k u m ys) (hx:a.eval x=u) (h1:∀u∈ys,u.oneCell'=true) (hl:n+m<=1000000)
 (h:∀v' w',w'.ownsRow 0 ety k v' (n+m) (xs++ys)->Fr (aB v) w w'->(∀b,aB v' b->aB v b\/w.heap.size<=b)->wpList prog ops Q rest (a.put o.dst v') w') :
 wpList prog ops Q (o::rest) a w:=by
 by_cases hn:u=.slice none 0 0
 ·subst hn
  have h0:m=0:=by
   rcases hy.2 with ⟨_,h0⟩|⟨g,cap,cur,hv,_⟩
   ·exact h0
   ·cases hv
  subst h0;have Mq:ys=[]:=by have:=uN hy;simpa using this
  subst Mq;refine wpList_plain oJ λK hK=>?_;have mn:=nP G cH o.type 0;unfold Oper.wp execOp;simp only[ho,resolve,invoke,builtin,Sem.run_bind,Sem.run_pure,Result.andThen_ok,List.map_toArray,List.map_cons,List.map_nil,hs,hx,mn];exact hK _ _ (h v w (by simpa using cH) aq (λb hb=>.inl hb))
 ·obtain⟨g,c,rfl,hc⟩:=jf hy hn;refine fI G oJ s x ho v n xs cH hs ⟨g,0,none⟩ m c ys hx (uN hy) h1 (λj u hj=>by rw[cT];simp only[fk];exact hc j u hj) hl h
theorem size_drew(w:aj):w.drew.heap.size=w.heap.size:=rfl
theorem Cj{ops:Array Oper}{rest:List Oper}{o:Oper}{a:Act}{Q:Exit->Act->aj->Prop}{w:aj}(oJ:o.guard=none)(s x:Operand)
 (ho:o.op=.call { callee:=.builtin .append,args:=#[s,x],argTypes:=#[79,3] })
 (hs:a.eval s=.slice none 0 0) (n:Nat) (h0:0<n) (hn:n<=1000000) (hx:a.eval x=vI n)
 (h:∀C w',n<=C->w'.ownsRow 0 123 2 (.slice (some ⟨w.heap.size,0,none⟩) 0 C) 0 []->Calm w w'->wpList prog ops Q rest (a.put o.dst (.slice (some ⟨w.heap.size,0,none⟩) n C)) w') :
 wpList prog ops Q (o::rest) a w:=by
 obtain⟨i0,z,bytes,hi,ie,gU,iw,Mr,hk,hb⟩:=Ry.info;have fD:=λty=>Lib.run_append_nil_zeros (P:=prog) w 79 3 ty 123 i0 z .i64 .i64 Ry.und (by kernel_rfl) hi ie n h0 (by rw[gU];decide) (by omega) (by rw[iw];exact fH (Nat.mul_le_mul hn hb) (by omega));have jL:=grownCap_ge w n 0 123;have hle:=grownCap_le_maxLen w n 0 123 (by unfold maxLen;omega);refine wpList_plain oJ λK hK=>?_;unfold Oper.wp execOp;simp only[ho,resolve,invoke,builtin,Sem.run_bind,Sem.run_pure,Result.andThen_ok,List.map_toArray,List.map_cons,List.map_nil,hs,hx,fD];refine hK _ _ (h _ _ jL ?_ (aq.drew.alloc _));generalize grownCap w n 0 123=C at *
 have nL:(Builtin.zeroCells z.cells n++Builtin.zeroCells z.cells (C-n)).size=C*2:=by
  rw[Array.size_append,size_zeroCells,size_zeroCells,Mr,<-Nat.add_mul,show n+(C-n)=C by omega]
 generalize Builtin.zeroCells z.cells n++Builtin.zeroCells z.cells (C-n)=Z at *;have hN:=World.alloc_heap_new w.drew (.cells Z 123);rw[size_drew] at hN;exact⟨rfl,.inr ⟨w.heap.size,C,Z,rfl,cK _,hN,cK _,hle,nL,by simp⟩⟩
def zZ(w:aj)(e:Ending)(w':aj):Prop:=∃v,e=.returned v/\w'.ownsRow 0 123 2 v 0 []/\(∀b,aB v b->w.heap.size<=b)/\Calm w w'
theorem Np(w:aj)(n:Nat)(hn:n<=1000000):aL prog 238 #[.slice none 0 0,vI n] w (zZ w):=by
 by_cases h0:n=0
 ·subst h0;have hP:Hid (zZ w (.returned (.slice none 0 0)) w):=⟨_,rfl,qi _ _ _ _,λb hb=>(aB.nil b hb).elim,aq⟩;go_in;go_wp2;go_ret;exact hP.out
 ·have hw:wrap64 (n:Int)=n:=by rw[<-IntWalk.i64_left];exact IntWalk.i64_in _ (by omega)
  have g0:¬((n:Int)<0):=by omega
  have g1:((n:Int)>0):=by omega
  go_in;go_wp2_with (at_builtin;go_must (refine Cj rfl _ _ rfl rfl n (by omega) hn rfl ?_);intro C w1 hC hr c1;replace hr:=af hr;replace c1:=af c1)
  go_ret;exact⟨_,rfl,hr.out,λb hb=>by rw[aB.fg hb];exact aM _,c1.out⟩
theorem EZ(l:List It):∀u∈l.flatMap GG,u.oneCell'=true:=by
 intro u hu;obtain⟨x,_,hx⟩:=List.mem_flatMap.1 hu;simp only[GG,f_,gB,or_false] at hx;rcases hx with rfl|rfl <;> rfl
def v_(a b:List It):Nat->List It|0=>[]|1=>a|_=>a++b
def MH(w:aj)(a b:List It)(e:Ending)(w':aj):Prop:=∃v,e=.returned v/\w'.ownsRow 0 123 2 v (a++b).length ((a++b).flatMap GG)/\(∀k,aB v k->w.heap.size<=k)/\Calm w w'
theorem Gg{w:aj}{B:Nat}{va vb:aC}{a b:List It}(hB:ag w B [va,vb])(ha:w.ownsRow 0 123 2 va a.length (a.flatMap GG))(hb:w.ownsRow 0 123 2 vb b.length (b.flatMap GG))(hl:a.length+b.length<=1000000) :
 aL prog 199 #[.slice (some ⟨B,0,none⟩) 2 2] w (MH w a b):=by
 obtain⟨ax,ac,rfl⟩:=aG ha;obtain⟨bx,bc,rfl⟩:=aG hb;obtain⟨y0,y1⟩:=ag.lF hB;have HA:=af ha;have HB:=af hb;have fL:wrap64 (0+(a.length:Int))=a.length:=by rw[Int.zero_add,<-IntWalk.i64_left];exact IntWalk.i64_in _ (by omega)
 have Bs:wrap64 ((a.length:Int)+b.length)=((a.length+b.length:Nat):Int):=by rw[<-IntWalk.i64_left];rw[IntWalk.i64_in _ (by omega)];omega
 clear ha hb;go_in;go_wp2_with fail
 go_loopw [3,11] (λn q wr=>∃k:Nat,k<=2/\q=vI k/\n=vI ((if k=0 then 0 else if k=1 then a.length else a.length+b.length:Nat):Int)/\wr=w) (λ_ q _=>2-(intOf q).toNat)
 case atStart=>exact⟨0,by omega,rfl,rfl,rfl⟩
 case round=>
  obtain⟨k,hk,rfl,rfl,hwr⟩:=hrel;subst wr;rcases(by omega:k=0\/k=1\/k=2) with rfl|rfl|rfl
  ·go_wp2;exact⟨⟨1,by omega,rfl,by simp,trivial⟩,by simp[intOf]⟩
  ·go_wp2;exact⟨⟨2,by omega,rfl,by simp,trivial⟩,by simp[intOf]⟩
  ·go_wp2_with fail
   rw[show((a.length:Int)+b.length)=((a.length+b.length:Nat):Int) by omega];refine(Np _ _ hl).mono ?_;rintro e w1 ⟨v,rfl,g1,g2,g3⟩;have q0:=g3.cellAt y0 id;have q1:=g3.cellAt y1 id;have G1:=af g1;have G2:=af g2;have G3:=af g3;clear g1 g2;go_wp2_with fail
   go_loopw [6,27] (λv q W=>∃k:Nat,k<=2/\q=vI k/\Hid (W.ownsRow 0 123 2 v (v_ a b k).length ((v_ a b k).flatMap GG))/\Hid (∀j,aB v j->w.heap.size<=j)/\Hid (Calm w W)) (λ_ q _=>2-(intOf q).toNat)
   case atStart=>exact⟨0,by omega,rfl,G1,G2,G3⟩
   case round=>
    obtain⟨k,hk,rfl,hr,hi,hc⟩:=hrel;clear q0 q1 G1 G2 G3 g3;have q0:=hc.out.cellAt y0 id;have q1:=hc.out.cellAt y1 id;have A1:=af (az HA.out hc.out (λ_ _=>id));have B1:=af (az HB.out hc.out (λ_ _=>id));rcases(by omega:k=0\/k=1\/k=2) with rfl|rfl|rfl
    ·go_wp2_with (at_builtin;go_must (refine k_ Ry rfl _ _ rfl _ _ _ hr.out rfl _ _ _ A1.out rfl (EZ a) (by show 0+a.length<=_;omega) ?_);intro v' w3 fu f3 gD;replace fu:=af fu;replace f3:=af f3;replace gD:=af gD)
     have yJ:Hid (∀j,aB v' j->w.heap.size<=j):=λj hj=>by
      rcases gD.out j hj with e|e
      ·exact hi.out j e
      ·have:=hc.out.size;omega
     have wZ:Hid (Calm w w3):=hc.out.join f3.out (λj hj e=>by have:=hi.out j e;omega)
     have N8:Hid (w3.ownsRow 0 123 2 v' (v_ a b 1).length ((v_ a b 1).flatMap GG)):=by
      have:=fu.out;simp only[v_,List.nil_append,List.flatMap_nil,List.length_nil,fk] at this;simp only[v_,cX,List.flatMap_append];exact this
     exact⟨⟨1,by omega,rfl,N8,yJ,wZ⟩,by simp[intOf]⟩
    ·go_wp2_with (at_builtin;go_must (refine k_ Ry rfl _ _ rfl _ _ _ hr.out rfl _ _ _ B1.out rfl (EZ b) (by show a.length+b.length<=_;omega) ?_);intro v' w3 fu f3 gD;replace fu:=af fu;replace f3:=af f3;replace gD:=af gD)
     have yJ:Hid (∀j,aB v' j->w.heap.size<=j):=λj hj=>by
      rcases gD.out j hj with e|e
      ·exact hi.out j e
      ·have:=hc.out.size;omega
     have wZ:Hid (Calm w w3):=hc.out.join f3.out (λj hj e=>by have:=hi.out j e;omega)
     have N8:Hid (w3.ownsRow 0 123 2 v' (v_ a b 2).length ((v_ a b 2).flatMap GG)):=by
      have:=fu.out;simp only[v_,List.nil_append,List.flatMap_nil,List.length_nil,fk] at this;simp only[v_,cX,List.flatMap_append];exact this
     exact⟨⟨2,by omega,rfl,N8,yJ,wZ⟩,by simp[intOf]⟩
    ·go_wp2;go_ret;exact⟨_,rfl,hr.out,hi.out,hc.out⟩
section
variable {w:aj}{τ:Nat->Nat}{s:Nat}{S:aY}
def U_(w:aj)(v:aC)(e:Ending)(w':aj):Prop:=e=.returned (.func (.func 236) #[] #[aR w.heap.size])/\w'=w.alloc (.cells #[v] 166)
theorem Ao(w:aj)(v:aC)(hv:v.oneCell'=true)(hs:∃a n c,v=.slice a n c):aL prog 197 #[v] w (U_ w v):=by
 obtain⟨a,n,c,rfl⟩:=hs;go_in;go_wp2;go_ret;exact⟨rfl,rfl⟩
theorem aF.xN{w w':aj}{τ aX eY:Nat->Nat}(h:aF w τ w' aX)(t:nV w' aX eY):aF w τ w' eY:=⟨h.fr,λk hk=>(t k (by have:=h.size;omega)).trans (h.tg k hk)⟩
def BI(w0:aj)(τ0:Nat->Nat)(s:Nat)(S:aY)(R:aY->Prop)(D:Nat)(X:Nat->Prop)(W:aj):Prop:=
 ∃ME Sk,St W ME s Sk/\aF w0 τ0 W ME/\Fix S Sk/\R Sk/\∀b,X b\/b=D\/b=D+1->500<=ME b
theorem BI.loops{w0:aj}{τ0:Nat->Nat}{R:aY->Prop}{D:Nat}{X:Nat->Prop}{A B:aj}(h:BI w0 τ0 s S R D X A)(hD:w0.heap.size<=D)(f:Fr (λb=>b=D\/b=D+1) A B):BI w0 τ0 s S R D X B:=by
 obtain⟨ME,Sk,h1,h2,h3,h4,h5⟩:=h;refine⟨ME,Sk,h1.jC f (λb hb=>h5 b (.inr hb)),⟨h2.fr.join f (λj hj e=>by omega),h2.tg⟩,h3,h4,h5⟩
theorem BI.grow{w0:aj}{τ0:Nat->Nat}{R:aY->Prop}{D:Nat}{X:Nat->Prop}{A:aj}{o:Obj}(h:BI w0 τ0 s S R D X A)(hX:∀b,X b->b<A.heap.size):BI w0 τ0 s S R D (λb=>X b\/b=A.heap.size) (A.alloc o):=by
 obtain⟨ME,Sk,h1,h2,h3,h4,h5⟩:=h;obtain⟨gi,k1,k2,k3⟩:=h1.fresh;have hs:=h2.size;refine⟨gi,Sk,k1.calm (aq.alloc _),⟨h2.fr.trans (Calm.any ((Fr.refl (λ_=>False) A).alloc o)),λk hk=>(k2 k (by omega)).trans (h2.tg k hk)⟩,h3,h4,λb hb=>?_⟩;rcases oZ b A.heap.size with aZ|jL
 ·rw[k2 b aZ];exact h5 b (by rcases hb with (hb|hb)|hb;exact .inl hb;omega;exact .inr hb)
 ·rw[k3 b jL];omega
def abA(S:aY)(xp lp b0 b5 bc:Nat)(va:Option Addr)(n vc:Nat)(u:Ud)(k:Nat):Act:={ tmps:=#[pV S.sp,pV xp,aR b0,undef,undef,aR b5,undef,undef,pV xp,pV xp,.pointer (some ⟨xp,4,none⟩),pV lp,.slice va n vc,.func (.func 236) #[] #[aR bc],vI ((n:Int)-1-k),udV u,undef,undef,undef,undef,undef,undef,undef,undef,undef,undef,undef,undef,undef,undef,undef,undef,undef,undef,undef,undef,undef,undef,undef,undef,undef,undef,undef,undef,undef,undef,undef,undef,undef,undef,undef,undef,undef,undef,undef,undef,undef,undef,undef,undef,undef,undef,undef,undef,undef,undef,undef,undef,undef,undef,undef,undef,undef,undef,undef,undef,undef,undef,undef,undef,undef,undef,undef,undef,undef,undef,undef,undef,undef,undef,undef,undef,undef,undef,undef,undef,undef,undef,undef,undef,undef,undef,undef,undef,undef,undef,undef,undef,undef,undef,undef],defers:=[] }
def Ug(l:List Ud)(k:Nat)(S S':aY):Prop:=Hp S S'/\vw S'=(l.drop (l.length-k)).foldr (λu σ=>σ.nz u) (vw S)
theorem Ug.step{l:List Ud}{k:Nat}{S Sk S':aY}{U:Ud}(h:Ug l k S Sk)(hk:k<l.length)(hU:l.getD (l.length-1-k) dU=U)(h1:Hp Sk S')(h2:vw S'=(vw Sk).nz U):Ug l (k+1) S S':=by
 refine⟨h.1.trans h1,?_⟩
 have e:l.drop (l.length-(k+1))=U::l.drop (l.length-k):=by
  rw[List.drop_eq_getElem_cons (by omega)]
  congr 1
  ·rw[<-hU,aS,jI (by omega)];simp only[Option.getD_some]
   congr 1
   omega
  ·congr 1;omega
 rw[e,h2,h.2];rfl
def U6(w0:aj)(τ0:Nat->Nat)(s:Nat)(S:aY)(D xp lp b0 bc:Nat)(va:Option Addr)(n vc:Nat)(l:List Ud)(X:Nat->Prop)(k:Nat)(a:Act)(W:aj):Prop:=
 ∃b5,BI w0 τ0 s S (Ug l k S) D (λb=>X b\/b=b5) W/\ag W b5 (wC (l.getD (n-1-k) dU))/\w0.heap.size<=b5/\b5≠D/\b5≠D+1/\b5<W.heap.size/\a=abA S xp lp b0 b5 bc va n vc (l.getD (n-1-k) dU) k
def QT(w:aj)(τ:Nat->Nat)(s:Nat)(S:aY)(t:Nat)(e:Ending)(w':aj):Prop:=e=.returned (.tuple #[])/\Nx w τ s S w' (λS'=>vw S'=(vw S).wM t)
theorem Ai(h:St w τ s S){t:Nat}(ht:t<S.bB.length):aL prog 150 #[pV S.sp,pV (S.tx t).xp] w (QT w τ s S t):=by
 obtain⟨τ0,hf,tk,fr⟩:=h.fresh;have hx:=h.ny ht;have vz:=h.ok.x t ht;have Ml:=h.ok.n;have Xy:=h.ok.iv.vs t;have c4:=(hx 4 _ rfl).1;have k1:Calm w (w.alloc (.cells #[pV S.sp] 56)):=aq.alloc _;have b0:Own (w.alloc (.cells #[pV S.sp] 56)) w.heap.size 0 (pV S.sp):=Own.new w #[pV S.sp] 56 0 rfl;obtain⟨W1,iM⟩:=au (w.alloc (.cells #[pV S.sp] 56));rw[iM] at k1 b0;have h1:=hf.calm k1;have d4:=k1.cellAt c4 id;obtain⟨M,H1,H2,H3⟩:=h1;have hl:=(H2.x t ht).l;refine(callsIn_wide (n:=9)).1 ?_;refine callsIn_of_wp_marks func150 rfl trivial ?_ rfl;simp only[ntmps150,List.size_toArray,List.length_cons,List.length_nil,Nat.reduceAdd,Nat.reduceSub,Array.replicate_succ,Array.replicate_zero,List.push_toArray,List.append_toArray,List.nil_append,List.cons_append]
 gi_wp2_with (refine⟨trivial,?_⟩;gi_at_call 198;refine(callsIn_wide.2 (GO H1 hl (by have:=vz.f;omega))).mono ?_;rintro e w2 ⟨v,rfl,u1,u2,u3⟩;obtain⟨va,vc,rfl⟩:=aG u1)
 gi_wp2_with (refine⟨trivial,?_⟩;gi_at_call 197;refine(callsIn_wide.2 (Ao w2 _ rfl ⟨_,_,_,rfl⟩)).mono ?_;rintro e w3 ⟨rfl,Cv⟩)
 have hD:w3.heap.size=w2.heap.size+1:=by rw[Cv];simp
 rw[<-Cv];generalize hL:(S.tx t).L.aQ=l at *;generalize hN:l.length=n at *;have k3:Calm w2 w3:=by rw[Cv];exact aq.alloc _
 have kk:Calm w w3:=k1.trans (u3.trans k3);have mX:Own w3 w.heap.size 0 (pV S.sp):=(b0.calm (u3.trans k3));have Xw:w3.ownsRow 0 231 4 (.slice va n vc) n (l.flatMap wC):=az u1 k3 (λ_ _=>id)
 have HF:ZW w2.heap.size (.slice va n vc) l w3:=by
  refine⟨by rw[Cv];exact(Own.new w2 #[_] _ 0 rfl).1,?_,⟨va,vc,by rw[hN]⟩⟩
  by_cases hz:Value.slice va n vc=.slice none 0 0
  ·refine⟨0,λj hj=>?_⟩;injection hz with _ e _
   omega
  ·obtain⟨g,c,e1,e2⟩:=jf Xw hz;refine⟨g,λj hj=>⟨⟨c,by rw[e1,hN]⟩,λi u hu=>?_⟩⟩;have h4:i<4:=by have:=(List.getElem?_eq_some_iff.1 hu).1;simpa[wC] using this
   exact e2 _ u ((wQ wC 4 Pv dU l j hj i h4).trans hu)
 have hbt:∀b,aB (.slice va n vc) b->w.heap.size<=b/\b<w3.heap.size:=λb hb=>⟨by have:=u2 b hb;have:=k1.size;omega,(World.ownsRow.lt Xw b hb).2⟩;have RT:w.heap.size<=w2.heap.size:=by have:=k1.size;have:=u3.size;omega
 have hl5:l.length<=100000:=by have:=vz.f.2.2.2;rw[hL] at this;omega
 have cy:St w3 τ0 s S:=hf.calm kk;generalize hc:w2.heap.size=bc at *;generalize Om:(S.tx t).xp=xp at *;generalize hl9:(S.tx t).lp=lp at *;generalize J2:w.heap.size=IH at *;clear Cv u1 u3 k3 k1 d4 H1 H2 H3 hl iM b0 u2
 refine Ci (Qp:=ZW bc (.slice va n vc) l) (g:=.tmp 13) rfl (by decide) (gf:=236) (lb:=#[aR bc]) rfl trivial (enters_of func236 (by kernel_rfl) rfl)
  (II 8 (by decide) w3 bc (.slice va n vc) l hl5) (aM _) (λ_=>rfl)
  (λX k W=>BI w3 τ0 s S (Ug l k S) w3.heap.size X W) (U6 w3 τ0 s S w3.heap.size xp lp IH bc va n vc l) (λc W=>False)
  ?hI ?hI1 ?hG ?hQ ?hIx ?hN ?h0 ?assign ?body ?done ?stop
 case hI=>exact λX k A B a f=>a.loops (aM _) f
 case hI1=>
  rintro X k a' A B ⟨b5,h1,h2,h3,h4,h5,h6,rfl⟩ f;have:=f.size;exact⟨b5,h1.loops (aM _) f,h2.fr f (by omega),h3,h4,h5,by omega,rfl⟩
 case hG=>exact λX k A o a hX=>a.grow hX
 case hQ=>
  rintro X k A ⟨ME,Sk,_,g2,_⟩;have hT:∀b,IH<=b->¬τ0 b<500:=λb hb=>by rw[fr b hb];omega
  obtain⟨a1,⟨g,a2⟩,a3⟩:=HF;refine⟨g2.fr.cellAt a1 (hT _ RT),⟨g,λj hj=>⟨(a2 j hj).1,λi u hu=>g2.fr.cellAt ((a2 j hj).2 i u hu) ?_⟩⟩,a3⟩;obtain⟨c,e⟩:=(a2 j hj).1;exact hT _ (hbt g (by rw[e];rfl)).1
 case hIx=>
  rintro c A A' h _;exact h
 case hN=>
  rintro h;cases h
 case h0=>exact⟨τ0,S,cy,aF.refl _ _,Fix.refl _,⟨.refl S,by simp⟩,λb hb=>by rw[fr b (by have:=kk.size;rcases hb with hb|hb|hb;exact hb.elim;omega;omega)];omega⟩
 case assign=>
  rintro y X k W hk ha hX hs;clear mX Xw HF;have e1:IL l k = #[vI ((n:Int)-1-k),.agg #[vI (l.getD (n-1-k) dU).kind,vI (l.getD (n-1-k) dU).at_,vI (l.getD (n-1-k) dU).i,vI (l.getD (n-1-k) dU).cC]]:=by unfold IL;rw[hN];rfl
  rw[e1];have hg:=ha.grow (o:=.cells (wC (l.getD (n-1-k) dU)).toArray 231) hX;have cH:=ag.new W (wC (l.getD (n-1-k) dU)) 231;have dh:∀a,a=abA S xp lp IH W.heap.size bc va n vc (l.getD (n-1-k) dU) k->U6 w3 τ0 s S w3.heap.size xp lp IH bc va n vc l X k a (W.alloc (.cells (wC (l.getD (n-1-k) dU)).toArray 231)):=λa e=>⟨W.heap.size,hg,cH,by omega,by omega,by omega,by simp,e⟩;have hke:cS (λb=>X b\/b=w3.heap.size\/b=w3.heap.size+1) W (W.alloc (.cells (wC (l.getD (n-1-k) dU)).toArray 231)):=cS.KA ((Fr.refl (λ_=>False) W).alloc _) (λb hb=>⟨by rcases hb with hb|hb|hb;exact hX b hb;omega;omega,id⟩);generalize l.getD (n-1-k) dU=U at *;replace dh:=af dh;replace hke:=af hke;clear hg cH e1 ha
  gi_wp2
  simp[Oper.semAt,go_sem,Act.eval]
  gi_wp2
  simp[Oper.semAt,go_sem,Act.eval]
  gi_wp2
  exact⟨hke.out,dh.out _ rfl⟩
 case body=>
  rintro y X k a W hk ⟨b5,h1,h2,h3,h4,h5,h6,rfl⟩ hX hs;obtain⟨U,hU⟩:=au (l.getD (n-1-k) dU);rw[hU] at h2 ⊢;unfold abA;have hUm:U∈l:=by rw[<-hU];exact get_mem dU (by omega)
  obtain⟨⟨u1,u2,u3⟩,u4,u5⟩:=vz.l.u U (by rw[hL];exact hUm);obtain⟨y0,y1,y2,y3⟩:=ag.sQ h2;obtain⟨ME,Sk,g1,g2,g3,g4,g5⟩:=h1;have p0:W.cell? ⟨IH,0,none⟩=some (pV S.sp):=g2.cell mX.1 (by rw[fr _ (aM _)];omega);have p1:=(g1.cells 0 _ rfl).1;rw[g3.sp,g3.hp] at p1
  have sD:Hid (∀B,Nx W ME s Sk B (λS'=>Hp Sk S'/\vw S'=(vw Sk).nz U)->cS (λb=>X b\/b=w3.heap.size\/b=w3.heap.size+1) W B/\BI w3 τ0 s S (Ug l (k+1) S) w3.heap.size X B):=by
   rintro B ⟨gi,S1,e1,e2,e3,e4,e5⟩;refine⟨cS.KA e2.fr (λb hb=>?_),gi,S1,e1,g2.trans e2,g3.trans e3,g4.step (by omega) (by rw[hN];exact hU) e4 e5,λb hb=>?_⟩
   ·have h7:=g5 b (hb.imp .inl id);exact⟨by rcases hb with hb|hb|hb;exact hX b hb;omega;omega,by omega⟩
   ·rw[e2.tg b (by rcases hb with hb|hb|hb;exact hX b hb;omega;omega)];exact g5 b (hb.imp .inl id)
  clear mX Xw HF
  by_cases kN:U.kind=1
  ·obtain⟨o1,xe⟩:∃o1:Nat,U.cC=(o1:Int):=⟨U.cC.toNat,by have:=u3 kN;omega⟩;have ho2:o1<=131072:=by have:=u3 kN;omega
   rw[xe] at y3;have ek:(U.kind==1)=true:=by simp[kN]
   gi_wp2
   repeat (simp[Oper.semAt,go_sem,Act.eval,y0,ek];gi_wp2)
   refine ia 10 10 (λw'=>Calm W w') (by kernel_rfl) (by rintro ⟨_,_,h⟩;exact h) (by kernel_rfl) (by kernel_rfl) (aq.drew) ?_;refine ae (pV S.sp) rfl (λw' hw'=>?_) ai ?_
   ·have e1:=hw'.cellAt p0 id;simp[go_sem,e1]
   refine ae (pV S.sp) rfl (λw' hw'=>?_) ai ?_
   ·simp[go_sem]
   refine ae (aR S.sp) rfl (λw' hw'=>?_) ai ?_
   ·simp[go_sem]
   refine ae (pV S.D.B.hp) rfl (λw' hw'=>?_) ai ?_
   ·have e1:=hw'.cellAt p1 id;simp[go_sem,e1]
   refine ae (.pointer (some ⟨b5,1,none⟩)) rfl (λw' hw'=>?_) ai ?_
   ·simp[go_sem]
   refine ae (vI U.at_) rfl (λw' hw'=>?_) ai ?_
   ·have e1:=hw'.cellAt y1 id;simp[go_sem,e1]
   refine ae (.pointer (some ⟨b5,2,none⟩)) rfl (λw' hw'=>?_) ai ?_
   ·simp[go_sem]
   refine ae (vI U.i) rfl (λw' hw'=>?_) ai ?_
   ·have e1:=hw'.cellAt y2 id;simp[go_sem,e1]
   refine ae (.pointer (some ⟨b5,3,none⟩)) rfl (λw' hw'=>?_) ai ?_
   ·simp[go_sem]
   refine ae (vI (o1:Int)) rfl (λw' hw'=>?_) ai ?_
   ·have e1:=hw'.cellAt y3 id;simp[go_sem,e1]
   simp only[bG,Nat.sub_self,bW];have kw:Calm W W.drew:=aq.drew;have o:=oY (g1.calm kw) u1 ho2 U.i;rw[g3.hp] at o;go_wp2_with fail
   refine o.mono ?_;rintro e W4 ⟨x,rfl,_,_,n4⟩;have n5:=af (n4.l5 kw);clear o n4 kw p0 p1 y0 y1 y2 y3 h2;go_wp2;refine sD.out W4 (n5.out.mono (aM _) λS' e=>⟨e.1,e.2.trans ?_⟩);unfold PS.nz;rw[if_pos kN,xe];rfl
  ·have ek:(U.kind==1)=false:=by simpa using kN
   by_cases gI:U.kind=2
   ·have YQ:(U.kind==2)=true:=by simp[gI]
    gi_wp2
    repeat (simp[Oper.semAt,go_sem,Act.eval,y0,ek,YQ];gi_wp2)
    refine ia 10 10 (λw'=>Calm W w') (by kernel_rfl) (by rintro ⟨_,_,h⟩;exact h) (by kernel_rfl) (by kernel_rfl) (aq.drew) ?_;refine ae (pV S.sp) rfl (λw' hw'=>?_) ai ?_
    ·have e1:=hw'.cellAt p0 id;simp[go_sem,e1]
    refine ae (pV S.sp) rfl (λw' hw'=>?_) ai ?_
    ·simp[go_sem]
    refine ae (aR S.sp) rfl (λw' hw'=>?_) ai ?_
    ·simp[go_sem]
    refine ae (pV S.D.B.hp) rfl (λw' hw'=>?_) ai ?_
    ·have e1:=hw'.cellAt p1 id;simp[go_sem,e1]
    refine ae (.pointer (some ⟨b5,1,none⟩)) rfl (λw' hw'=>?_) ai ?_
    ·simp[go_sem]
    refine ae (vI U.at_) rfl (λw' hw'=>?_) ai ?_
    ·have e1:=hw'.cellAt y1 id;simp[go_sem,e1]
    refine ae (.pointer (some ⟨b5,2,none⟩)) rfl (λw' hw'=>?_) ai ?_
    ·simp[go_sem]
    refine ae (vI U.i) rfl (λw' hw'=>?_) ai ?_
    ·have e1:=hw'.cellAt y2 id;simp[go_sem,e1]
    refine ae (.pointer (some ⟨b5,3,none⟩)) rfl (λw' hw'=>?_) ai ?_
    ·simp[go_sem]
    refine ae (vI U.cC) rfl (λw' hw'=>?_) ai ?_
    ·have e1:=hw'.cellAt y3 id;simp[go_sem,e1]
    simp only[bG,Nat.sub_self,bW];have kw:Calm W W.drew:=aq.drew;have o:=uW (g1.calm kw) u1 U.i U.cC u2;rw[g3.hp] at o;go_wp2_with fail
    refine o.mono ?_;rintro e W4 ⟨x,rfl,_,_,n4⟩;have n5:=af (n4.l5 kw);clear o n4 kw p0 p1 y0 y1 y2 y3 h2;go_wp2;refine sD.out W4 (n5.out.mono (aM _) λS' e=>⟨e.1,e.2.trans ?_⟩);unfold PS.nz;rw[if_neg kN,if_pos gI]
   ·have YQ:(U.kind==2)=false:=by simpa using gI
    by_cases lT:U.kind=3
    ·have ek3:(U.kind==3)=true:=by simp[lT]
     gi_wp2
     repeat (simp[Oper.semAt,go_sem,Act.eval,y0,ek,YQ,ek3];gi_wp2)
     refine ia 9 9 (λw'=>Calm W w') (by kernel_rfl) (by rintro ⟨_,_,h⟩;exact h) (by kernel_rfl) (by kernel_rfl) (aq.drew) ?_;refine ae (pV S.sp) rfl (λw' hw'=>?_) ai ?_
     ·have e1:=hw'.cellAt p0 id;simp[go_sem,e1]
     refine ae (pV S.sp) rfl (λw' hw'=>?_) ai ?_
     ·simp[go_sem]
     refine ae (aR S.sp) rfl (λw' hw'=>?_) ai ?_
     ·simp[go_sem]
     refine ae (pV S.D.B.hp) rfl (λw' hw'=>?_) ai ?_
     ·have e1:=hw'.cellAt p1 id;simp[go_sem,e1]
     refine ae (.pointer (some ⟨b5,1,none⟩)) rfl (λw' hw'=>?_) ai ?_
     ·simp[go_sem]
     refine ae (vI U.at_) rfl (λw' hw'=>?_) ai ?_
     ·have e1:=hw'.cellAt y1 id;simp[go_sem,e1]
     refine ae (.pointer (some ⟨b5,3,none⟩)) rfl (λw' hw'=>?_) ai ?_
     ·simp[go_sem]
     refine ae (vI U.cC) rfl (λw' hw'=>?_) ai ?_
     ·have e1:=hw'.cellAt y3 id;simp[go_sem,e1]
     refine ae (.bool (U.cC != 0)) rfl (λw' hw'=>?_) ai ?_
     ·simp[go_sem]
     simp only[bG,Nat.sub_self,bW];have kw:Calm W W.drew:=aq.drew;have o:=iP (g1.calm kw) u1 (U.cC != 0);rw[g3.hp] at o;go_wp2_with fail
     refine o.mono ?_;rintro e W4 ⟨x,rfl,_,_,n4⟩;have n5:=af (n4.l5 kw);clear o n4 kw p0 p1 y0 y1 y2 y3 h2;go_wp2;refine sD.out W4 (n5.out.mono (aM _) λS' e=>⟨e.1,e.2.trans ?_⟩);unfold PS.nz;rw[if_neg kN,if_neg gI,if_pos lT,show(U.cC != 0)=decide (U.cC≠0) by rw[bne,Bool.beq_eq_decide_eq];simp]
    ·have ek3:(U.kind==3)=false:=by simpa using lT
     gi_wp2
     repeat (simp[Oper.semAt,go_sem,Act.eval,y0,ek,YQ,ek3];gi_wp2)
     exact sD.out W (Nx.calm g1 aq ⟨.refl Sk,by unfold PS.nz;rw[if_neg kN,if_neg gI,if_neg lT]⟩)
 case done=>
  rintro X W Mg hB hD2;obtain⟨ME,Sk,g1,g2,g3,g4,g5⟩:=hB;obtain⟨gi,f1,tk1,fr1⟩:=g1.fresh;have nL:=g2.size;have K1:aF w3 τ0 W gi:=⟨g2.fr,λk hk=>(tk1 k (by omega)).trans (g2.tg k hk)⟩;have etx:Sk.tx t=S.tx t:=g4.1.tx t;have Dw:t<Sk.bB.length:=by rw[g4.1.bB];exact ht
  have gv:vw Sk=l.foldr (λu σ=>σ.nz u) (vw S):=by rw[g4.2,hN,Nat.sub_self,List.drop_zero]
  have Qo:=f1.ny Dw;rw[etx,Om] at Qo;have d4:=(Qo 4 _ rfl).1;rw[hl9] at d4;have f1':=f1;obtain⟨M,H1,H2,H3⟩:=f1;have UC:=(H2.x t Dw).l;rw[etx,hl9] at UC
  gi_wp2_with (refine⟨trivial,?_⟩;gi_at_call 123;refine(callsIn_wide.2 (xo H1 UC (by have:=vz.f;omega))).mono ?_;rintro e w4 ⟨hv,rfl,v1,v2,v3⟩;obtain⟨ha,Nz,rfl⟩:=aG v1)
  refine wpIn_wide.2 ?_;have k4:aF w3 τ0 w4 gi:=K1.trans (aF.calm gi v3);have Y7:=vz.l.h;have hhf:=vz.f.2.2.1;generalize hHs:(S.tx t).L.holds=hs at *;generalize hm:hs.length=m at *;have dR:=af v1;have oP:∀b,aB (.slice ha m Nz) b->500<=gi b:=λb hb=>by rw[fr1 b (v2 b hb)];omega
  have vt:Own w4 IH 0 (pV S.sp):=k4.own mX (by rw[fr _ (aM _)];omega);have ZO:500<=gi IH:=by rw[K1.tg IH (by omega),fr _ (aM _)];omega
  have Uq:w4.heap[bc+1]?=some (.deferred (some [])):=(v3.jE (by rw[<-hD];exact hD2) id);have tD:500<=gi (bc+1):=by rw[tk1 _ (wh.1 (by rw[<-hD];exact hD2)).1];exact g5 _ (.inr (.inl hD.symm))
  have Xl:=f1'.calm v3;have hinv:Hid (∃iT Si,St w4 iT s Si/\aF w4 gi w4 iT/\Fix S Si/\Hp S Si/\vw Si=(hs.take 0).foldl PS.rel (l.foldr (λu σ=>σ.nz u) (vw S))):=⟨gi,Sk,Xl,aF.refl _ _,g3,g4.1,gv⟩;clear v1 v2 d4 Qo UC H1 H2 H3 f1' gv g4 mX hbt Xw HF hD2;go_loopw [62] (λz wr=>∃i:Nat,i<=m/\z=vI i/\Hid (∃iT Si,St wr iT s Si/\aF w4 gi wr iT/\Fix S Si/\Hp S Si/\vw Si=(hs.take i).foldl PS.rel (l.foldr (λu σ=>σ.nz u) (vw S)))) (λz _=>m-(intOf z).toNat)
  case atStart=>exact⟨0,by omega,rfl,hinv⟩
  case round=>
   obtain⟨i,hi,rfl,hw⟩:=hrel;clear hinv Xl;obtain⟨iT,Si,m1,m2,m3,m4,mR⟩:=hw.out
   by_cases aZ:i<m
   ·obtain⟨g,c,hv,Y2⟩:=bz sY (by decide) (show w4.ownsRow 0 219 2 (.slice ha m Nz) hs.length (hs.flatMap Ct) by rw[hm];exact dR.out) ⟨0,0⟩ (i:=i) (by omega);injection hv with e1 e2 e3
    subst e1;clear e2 e3;obtain⟨x,gK⟩:=au (hs.getD i ⟨0,0⟩);have SL:x∈hs:=by rw[<-gK];exact get_mem _ (by omega)
    rw[gK] at Y2;obtain⟨xa,xv⟩:=Y7 x SL;obtain⟨v0,VQ⟩:∃v0:Nat,x.bt=(v0:Int):=⟨x.bt.toNat,by have:=(Xy x SL).1;omega⟩;have Oj:v0<=Si.now:=by have:=(Xy x SL).2;have:=m4.now;omega
    have hdr:hs.take (i+1)=hs.take i++[x]:=by rw[List.take_add_one,<-gK];simp[aS,show i<hs.length by omega]
    have jv:Hid (∀σ:PS,σ=(vw Si).rel x->σ=(hs.take (i+1)).foldl PS.rel (l.foldr (λu σ=>σ.nz u) (vw S))):=λσ e=>by rw[e,mR,hdr,List.foldl_append];rfl
    clear mR;replace Oj:=af Oj;replace VQ:=af VQ;clear hdr;have r0:=(m2.own (Y2 0 _ rfl) (oP g rfl)).1;have r1:=(m2.own (Y2 1 _ rfl) (oP g rfl)).1;rw[fj] at r0;have b2:=(m2.own vt ZO).1;obtain⟨τj,j1,j2,j3⟩:=m1.fresh;have M2:aF w4 gi wr τj:=m2.xN j2;have k5:Calm wr (wr.alloc (.cells #[vI x.at_,vI x.bt] 219)):=aq.alloc _;have o7:=ag.new wr (Ct x) 219;have hl7:wr.heap.size<(wr.alloc (.cells #[vI x.at_,vI x.bt] 219)).heap.size:=by simp
    have t7:500<=τj wr.heap.size:=by rw[j3 _ (aM _)];omega
    have b3:=k5.cellAt b2 id;obtain⟨W5,mW⟩:=au (wr.alloc (.cells #[vI x.at_,vI x.bt] 219));rw[mW] at k5 hl7 b3;replace o7:ag W5 wr.heap.size [vI x.at_,vI x.bt]:=by rw[<-mW];exact o7
    obtain⟨s0,s1⟩:=ag.lF o7;have Ij:=oR (j1.calm k5) xa Oj.out;rw[<-VQ.out] at Ij;rw[m3.sp] at Ij;go_wp2_with fail
    refine Ij.mono ?_;rintro e w6 ⟨rfl,iX,S6,p1,p2,p3,p4,p5⟩;have o8:=p2.bw o7 t7;obtain⟨z0,z1⟩:=ag.lF o8;have b4:=p2.cell b3 (by rw[j2 _ (Nat.lt_of_lt_of_le (lM _ _ vt.1) m2.size),m2.tg _ (lM _ _ vt.1)];exact ZO);have a0:=(p1.cells 0 _ rfl).1;rw[p3.sp,p3.hp,m3.sp,m3.hp] at a0;have m6:Hp S S6:=m4.trans p4;replace p5:=af p5;clear p4 Oj;have K6:aF w4 gi w6 iX:=M2.trans ((aF.calm τj k5).trans p2);have X6:=m3.trans p3;clear mW o7 s0 s1 Ij r0 r1 b2 b3 Y2
    by_cases tj:x.bt=0
    ·have ev:(x.bt==0)=true:=by simp[tj]
     go_wp2_with fail
     refine wp_region_noPanic ?_;refine a_ 6 6 (λw'=>Calm w6 w') (by kernel_rfl) (by kernel_rfl) (aq.drew) ?_;refine ae (pV S.sp) rfl (λw' hw'=>?_) ai ?_
     ·have e1:=hw'.cellAt b4 id;simp[go_sem,e1]
     refine ae (pV S.sp) rfl (λw' hw'=>?_) ai ?_
     ·simp[go_sem]
     refine ae (aR S.sp) rfl (λw' hw'=>?_) ai ?_
     ·simp[go_sem]
     refine ae (pV S.D.B.hp) rfl (λw' hw'=>?_) ai ?_
     ·have e1:=hw'.cellAt a0 id;simp[go_sem,e1]
     refine ae (aR wr.heap.size) rfl (λw' hw'=>?_) ai ?_
     ·simp[go_sem]
     refine ae (vI x.at_) rfl (λw' hw'=>?_) ai ?_
     ·have e1:=hw'.cellAt z0 id;simp[go_sem,e1]
     simp only[bG,Nat.sub_self,bW];have kw:Calm w6 w6.drew:=aq.drew;have o9:=iP (p1.calm kw) xa true;rw[p3.hp,m3.hp] at o9;go_wp2_with fail
     refine o9.mono ?_;rintro e w7 ⟨y,rfl,_,_,n7⟩
     have h7:Hid (∃iT Si,St w7 iT s Si/\aF w4 gi w7 iT/\Fix S Si/\Hp S Si/\vw Si=(hs.take (i+1)).foldl PS.rel (l.foldr (λu σ=>σ.nz u) (vw S))):=by
      obtain⟨L4,S7,c1,c2,c3,c4,c5⟩:=n7.l5 kw;refine⟨L4,S7,c1,K6.trans c2,X6.trans c3,m6.trans c4,jv.out _ ?_⟩;have e0:=VQ.out;unfold PS.rel;rw[c5,p5.out,if_pos tj,show x.bt.toNat=v0 by omega]
     clear n7 o9 kw z0 z1 b4 a0 K6 M2 m2 m1 hw p1 p2 o8;go_wp2_with fail
     refine NoPanic.normal ?_;go_wp2;exact⟨⟨i+1,by omega,rfl,h7⟩,by simp[intOf];omega⟩
    ·have ev:(x.bt==0)=false:=by simpa using tj
     have h7:Hid (∃iT Si,St w6 iT s Si/\aF w4 gi w6 iT/\Fix S Si/\Hp S Si/\vw Si=(hs.take (i+1)).foldl PS.rel (l.foldr (λu σ=>σ.nz u) (vw S))):=⟨iX,S6,p1,K6,X6,m6,jv.out _ (by have e0:=VQ.out;unfold PS.rel;rw[p5.out,if_neg tj,show x.bt.toNat=v0 by omega])⟩;clear K6 M2 m2 m1 hw p1 p2 o8;go_wp2;exact⟨⟨i+1,by omega,rfl,h7⟩,by simp[intOf];omega⟩
   ·obtain rfl:i=m:=by omega
    rw[List.take_of_length_le (by omega)] at mR;have hK:=af mR;clear mR;go_wp2_with fail
    refine wpIn_wide.2 ?_;have b2:=(m2.own vt ZO).1;have GA:t<Si.bB.length:=by rw[m4.bB];exact ht
    have M9:Si.tx t=S.tx t:=m4.tx t;have Qo:=m1.ny GA;have yG:=m1.cells;rw[M9,Om] at Qo;rw[m3.sp] at yG;have c6:wr.cell? ⟨S.sp,6,none⟩=some (vI Si.bM):=(yG 6 _ rfl).1;have x0:wr.cell? ⟨xp,0,none⟩=some (vI t):=(Qo 0 _ rfl).1;go_wp2_with fail
    go_quiet (fail)
    by_cases WM:Si.bM=(t:Int)
    ·have eh:(Si.bM==(t:Int))=true:=by simp[WM]
     have rq:=m1.que;have rt:=m1.tok GA;rw[M9] at rt;obtain⟨qa,qc,eq⟩:=aG rq;obtain⟨ta,tc,et⟩:=aG rt;rw[eq] at rq;rw[et] at rt;have c4:wr.cell? ⟨S.sp,4,none⟩=some (.slice qa Si.qu.length qc):=by rw[<-eq];exact(yG 4 _ rfl).1
     have x5:wr.cell? ⟨xp,5,none⟩=some (.slice ta (S.tx t).took.length tc):=by rw[<-et];exact(Qo 5 _ rfl).1
     have lq:Hid ((S.tx t).took=[]/\Si.qu=[]):=⟨h.ok.iv.tk t,m1.ok.iv.qu⟩;have Wt:=af (λ(W:aj) (cw:Calm wr W) (hs:W.heap.size=wr.heap.size)=>Gg (w:=W.alloc (.cells #[.slice ta (S.tx t).took.length tc,.slice qa Si.qu.length qc] 79)) (B:=wr.heap.size) (by rw[<-hs];exact ag.new W [_,_] _) (az rt (cw.alloc _) (λ_ _=>id)) (az rq (cw.alloc _) (λ_ _=>id)) (by rw[lq.out.1,lq.out.2];decide));clear Qo;go_wp2_with fail
     refine wp_region_noPanic ?_;refine a_ 9 11 (λw'=>Calm wr w') (by kernel_rfl) (by kernel_rfl) ((aq.drewN _).drew) ?_;refine ae (pV S.sp) rfl (λw' hw'=>?_) ai ?_
     ·have e1:=hw'.cellAt b2 id;simp[go_sem,e1]
     refine ae (pV xp) rfl (λw' hw'=>?_) ai ?_
     ·simp[go_sem]
     refine ae (pV xp) rfl (λw' hw'=>?_) ai ?_
     ·simp[go_sem]
     refine ae (.pointer (some ⟨xp,5,none⟩)) rfl (λw' hw'=>?_) ai ?_
     ·simp[go_sem]
     refine ae (.slice ta (S.tx t).took.length tc) rfl (λw' hw'=>?_) ai ?_
     ·have e1:=hw'.cellAt x5 id;simp[go_sem,e1]
     refine ae (pV S.sp) rfl (λw' hw'=>?_) ai ?_
     ·have e1:=hw'.cellAt b2 id;simp[go_sem,e1]
     refine ae (pV S.sp) rfl (λw' hw'=>?_) ai ?_
     ·simp[go_sem]
     refine ae (.pointer (some ⟨S.sp,4,none⟩)) rfl (λw' hw'=>?_) ai ?_
     ·simp[go_sem]
     refine ae (.slice qa Si.qu.length qc) rfl (λw' hw'=>?_) ai ?_
     ·have e1:=hw'.cellAt c4 id;simp[go_sem,e1]
     simp only[bG];refine bH rfl ?_;unfold Oper.wp;go_simp;refine⟨((aq.drewN _).drew).alloc _,?_⟩;refine bH rfl ?_;go_wp2_with fail
     refine(Wt.out _ ((aq.drewN _).drew) rfl).mono ?_;rintro e w5 ⟨v,rfl,i1,i2,i3⟩;obtain⟨QQ,QR,rfl⟩:=aG i1;have cc:Calm wr w5:=(((aq.drewN _).drew).alloc _).trans i3;refine⟨cc,?_⟩;simp only[bW];have n0:Own w5 IH 0 (pV S.sp):=(m2.own vt ZO).calm cc;have n4:ag w5 S.sp (aY.cs Si):=yG.calm cc;have y0:=n0.1;have y4:=(n4 4 _ rfl).1;have f4:=(n4 4 _ rfl).2;have y6:=(n4 6 _ rfl).1;have f6:=(n4 6 _ rfl).2;clear b2 c4 x5 Wt;go_wp2_with fail
     refine NoPanic.normal ?_;have f4':Fr (λb=>b=S.sp) w5 (w5.setCell ⟨S.sp,4,none⟩ (.slice QQ ((S.tx t).took.length+Si.qu.length) QR)):=(Fr.refl (λb=>b=S.sp) w5).setCell (p:=⟨S.sp,4,none⟩) (.inl rfl) _;have g4:=n4.set 4 (.slice QQ ((S.tx t).took.length+Si.qu.length) QR) (by simp[aY.cs])
     have WQ:IH≠S.sp:=by
      intro e;have:=(hf.cells).lt (by simp[aY.cs]);omega
     have z0:=f4'.cellAt y0 WQ;generalize lQ:w5.setCell ⟨S.sp,4,none⟩ (.slice QQ ((S.tx t).took.length+Si.qu.length) QR)=W6 at *;have z6:=(g4 6 _ rfl).1;have zf:=(g4 6 _ rfl).2;have YS:Fr (λb=>b=S.sp) W6 (W6.setCell ⟨S.sp,6,none⟩ (vI (-1))):=(Fr.refl (λb=>b=S.sp) W6).setCell (p:=⟨S.sp,6,none⟩) (.inl rfl) _;have g6:=g4.set 6 (vI (-1)) (by simp[aY.cs]);have s6:=YS.cellAt z0 WQ;obtain⟨W7,sU⟩:=au (W6.setCell ⟨S.sp,6,none⟩ (vI (-1)));rw[sU] at YS g6 s6;have f7:Fr (λb=>b=S.sp) w5 W7:=f4'.trans YS;have UD:∀b,aB (.slice QQ ((S.tx t).took++Si.qu).length QR) b->wr.heap.size<=b:=λb hb=>by have:=i2 b hb;simp at this;omega
     have abU:S.sp<wr.heap.size:=yG.lt (by simp[aY.cs]);have aad:((S.tx t).took++Si.qu).length=(S.tx t).took.length+Si.qu.length:=by simp
     obtain⟨fB,q1,q2⟩:=St.eL m1 ⟨.slice QQ ((S.tx t).took++Si.qu).length QR,(S.tx t).took++Si.qu,Si.next,-1,Si.bt⟩
      (by rw[m3.sp];exact(Calm.any cc).trans (f7.mono (λb _ e=>.inl e))) (by rw[m3.sp,aad];exact g6) (az i1 f7 (λb hb e=>by have:=UD b hb;omega)) (λb hb=>.inr (UD b hb))
      (by show cL (-1);decide) (m1.ok.iv.eL _ m1.ok.iv.ve (by show(S.tx t).took++Si.qu=[];rw[lq.out.1,lq.out.2];rfl) m1.ok.iv.nx)
     have aaZ:t<(Si.eL ⟨.slice QQ ((S.tx t).took++Si.qu).length QR,(S.tx t).took++Si.qu,Si.next,-1,Si.bt⟩).bB.length:=GA;have e9:(Si.eL ⟨.slice QQ ((S.tx t).took++Si.qu).length QR,(S.tx t).took++Si.qu,Si.next,-1,Si.bt⟩).tx t=S.tx t:=M9;have oe:=nZ q1 aaZ;rw[e9,Om,show(Si.eL ⟨.slice QQ ((S.tx t).took++Si.qu).length QR,(S.tx t).took++Si.qu,Si.next,-1,Si.bt⟩).sp=S.sp from m3.sp] at oe;clear y4 f4 y6 f6 n4 n0 y0 i1 i2 i3 cc f4' g4 YS g6 lQ f7;go_wp2_with fail
     refine oe.mono ?_;rintro e w8 ⟨rfl,FH,S8,p1,p2,p3,p4,p5⟩;have Ml:Nx wr iT s Si w8 (λS'=>vw S'=(vw Si).fin t):=⟨FH,S8,p1,q2.trans p2,(Fix.eL Si _).trans p3,p5⟩;clear p1 p2 p3 p4 p5 q1 q2 oe
     have Wv:w8.heap[bc+1]?=some (.deferred (some [])):=by
      obtain⟨FH,S8,p1,p2,p3,p4⟩:=Ml;have Sh:bc+1<w4.heap.size:=(wh.1 Uq).1;have h1:=m2.fr.jE Uq (show ¬gi (bc+1)<500 by omega);exact p2.fr.jE h1 (by show ¬iT (bc+1)<500;rw[m2.tg _ Sh];omega)
     clear h;go_wp2;refine⟨by simp,.inl ⟨_,_,rfl,run_takeDeferred Wv,?_⟩⟩;refine⟨.tuple #[],by simp[results,Tryz.f150,go_sem],rfl,?_⟩;obtain⟨FH,S8,p1,p2,p3,p4⟩:=Ml;have WH:Fr (λb=>b=bc+1) w8 (w8.putObj (bc+1) (.deferred none)):=(Fr.refl (λb=>b=bc+1) w8).putObj (.inl rfl) _;have Sh:bc+1<w4.heap.size:=(wh.1 Uq).1;have tD8:FH (bc+1)=gi (bc+1):=by rw[p2.tg _ (by have:=m2.size;omega),m2.tg _ Sh]
     have K9:aF w τ0 w8 FH:=((aF.calm τ0 kk).trans k4).trans (m2.trans p2);refine⟨FH,S8,p1.jC WH (λb hb=>by rw[hb,tD8];exact tD),aF.dp ⟨K9.fr.join WH (λj hj e=>by have:=kk.size;omega),K9.tg⟩ tk,m3.trans p3,?_⟩;show vw S8=_;rw[p4,hK.out];unfold PS.wM;rw[show((vw S).tx t).holds=hs from hHs,show((vw S).tx t).aQ=l from hL]
    ·have eh:(Si.bM==(t:Int))=false:=by simpa using WM
     have oe:=nZ (m1.calm (aq.drewN nq)) GA;rw[M9,Om,m3.sp] at oe;have b3:(wr.drewN nq).cell? ⟨IH,0,none⟩=some (pV S.sp):=b2;go_wp2_with fail
     refine oe.mono ?_;rintro e w8 ⟨rfl,n8⟩;have Ml:Nx wr iT s Si w8 (λS'=>vw S'=(vw Si).fin t):=(n8.l5 (aq.drewN nq)).mono (aM _) (λS' e=>e.2);clear n8 oe b3
     have Wv:w8.heap[bc+1]?=some (.deferred (some [])):=by
      obtain⟨FH,S8,p1,p2,p3,p4⟩:=Ml;have Sh:bc+1<w4.heap.size:=(wh.1 Uq).1;have h1:=m2.fr.jE Uq (show ¬gi (bc+1)<500 by omega);exact p2.fr.jE h1 (by show ¬iT (bc+1)<500;rw[m2.tg _ Sh];omega)
     clear h;go_wp2;refine⟨by simp,.inl ⟨_,_,rfl,run_takeDeferred Wv,?_⟩⟩;refine⟨.tuple #[],by simp[results,Tryz.f150,go_sem],rfl,?_⟩;obtain⟨FH,S8,p1,p2,p3,p4⟩:=Ml;have WH:Fr (λb=>b=bc+1) w8 (w8.putObj (bc+1) (.deferred none)):=(Fr.refl (λb=>b=bc+1) w8).putObj (.inl rfl) _;have Sh:bc+1<w4.heap.size:=(wh.1 Uq).1;have tD8:FH (bc+1)=gi (bc+1):=by rw[p2.tg _ (by have:=m2.size;omega),m2.tg _ Sh]
     have K9:aF w τ0 w8 FH:=((aF.calm τ0 kk).trans k4).trans (m2.trans p2);refine⟨FH,S8,p1.jC WH (λb hb=>by rw[hb,tD8];exact tD),aF.dp ⟨K9.fr.join WH (λj hj e=>by have:=kk.size;omega),K9.tg⟩ tk,m3.trans p3,?_⟩;show vw S8=_;rw[p4,hK.out];unfold PS.wM;rw[show((vw S).tx t).holds=hs from hHs,show((vw S).tx t).aQ=l from hL]
 case stop=>
  rintro c W h;exact h.elim
end
section
variable {w:aj}{τ:Nat->Nat}{s:Nat}{S:aY}
def Fatal(x:Int):Prop:=x=141\/x=130\/x=100
def CC(w:aj)(τ:Nat->Nat)(s:Nat)(S:aY)(t b6:Nat)(x:Int)(e:Ending)(w':aj):Prop:=
 e=.returned (.tuple #[])/\∃w1,Nx w τ s S w1 (λS'=>(¬Fatal x->S'=S)/\(Fatal x->vw S'=(vw S).wM t))/\((x=0/\w'=w1)\/(x≠0/\w'=w1.setCell ⟨b6,0,none⟩ (vI 0)))
theorem Ax(h:St w τ s S){t:Nat}(ht:t<S.bB.length){e7 b3 b8 b6:Nat}{v x:Int}(h7:Own w e7 0 (vI x))(h3:Own w b3 0 (pV S.sp))(h8:Own w b8 0 (pV (S.tx t).xp))(h6:Own w b6 0 (vI v))
 (t7:500<=τ e7) (t6:500<=τ b6) (u:FrameMode) :
 CallsD prog 175 #[aR e7,aR b3,aR b8,aR b6] u w λe u' w'=>u'=u/\CC w τ s S t b6 x e w':=by
 have c7:=h7.1;have c3:=h3.1;have c8:=h8.1;have c6:=h6.1;have f6:=h6.2
 by_cases h0:x=0
 ·subst h0;have hP:CC w τ s S t b6 0 (.returned (.tuple #[])) w:=⟨rfl,w,Nx.calm h aq ⟨λ_=>rfl,λe=>absurd e (by unfold Fatal;omega)⟩,.inl ⟨rfl,rfl⟩⟩;replace hP:=af hP
  go_enter_d func175,ntmps175
  go_wp2
  go_end0
  exact hP.out
 ·have e0:(x==0)=false:=by simpa using h0
  have en:(x != 0)=true:=by simp[bne,e0]
  by_cases hx:x=141\/x=130\/x=100
  ·have vL:=af (Ai h ht);rcases hx with rfl|rfl|rfl
   all_goals
    clear h0
    go_enter_d func175,ntmps175
    go_wp2_with fail
    refine vL.out.mono ?_;rintro e w1 ⟨rfl,n1⟩;have n2:=af n1;obtain⟨gi,S1,k1,k2,k3,k4⟩:=n1;have o7:=k2.own h7 t7;have o6:=k2.own h6 t6;have d7:=o7.1;have d6:=o6.1;have g6:=o6.2;clear vL;go_wp2
    go_end0
    refine⟨rfl,w1,n2.out.mono (aM _) ?_,.inr ⟨by decide,rfl⟩⟩;intro S' hS;exact⟨λh9=>absurd (show Fatal _ by unfold Fatal;omega) h9,λ_=>hS⟩
  ·have e1:(x==141)=false:=by simp;omega
   have e2:(x==130)=false:=by simp;omega
   have e3:(x==100)=false:=by simp;omega
   have hP:CC w τ s S t b6 x (.returned (.tuple #[])) (w.setCell ⟨b6,0,none⟩ (vI 0)):=⟨rfl,w,Nx.calm h aq ⟨λ_=>rfl,λe=>absurd e hx⟩,.inr ⟨h0,rfl⟩⟩;replace hP:=af hP
   go_enter_d func175,ntmps175
   go_wp2
   go_end0
   exact hP.out
def iK(W:aj)(sN:Nat->Nat)(s:Nat)(S:aY)(R:Int->Int->aY->Prop)(e:Ending)(w':aj):Prop:=
 ∃v x:Int,e=.returned (.tuple #[vI v,vI x])/\cL v/\cL x/\Nx W sN s S w' (R v x)
def PG(S:aY)(t:Int)(R:Int->Int->aY->Prop)(v x:Int)(S':aY):Prop:=
 (x=140/\v=0/\S'=S/\∀k:Nat,t=k->k<S.bB.length->(S.tx k).live=false)\/(x=0/\R v 0 S') \/
 (x≠0/\v=0/\∃v0 S1,R v0 x S1/\(Fatal x->∀k:Nat,t=k->vw S'=(vw S1).wM k)/\(¬Fatal x->S'=S1))
def eG(w:aj)(τ:Nat->Nat)(s:Nat)(S:aY)(t:Int)(R:Int->Int->aY->Prop)(e:Ending)(w':aj):Prop:=
 ∃v x:Int,e=.returned (.tuple #[vI v,vI x])/\cL v/\cL x/\Nx w τ s S w' (PG S t R v x)
theorem ib(h:St w τ s S){s':Nat}(JU:s<=s')(t:Int)(ht:cL t)(g:Nat)(cs:Array aC)(R:Int->Int->aY->Prop)(he:∀args w,(callFunc g args).run prog w=.ok (.enter g args) w)
 (sx:∀k:Nat,t=k->k<S.bB.length->(S.tx k).live=true->∀W sN,Calm w W->nV w τ sN->St W sN s S->aL prog g (#[pV (S.tx k).xp]++cs) W (iK W sN s' S R)) :
 aL prog 121 #[pV S.sp,vI t,.func (.func g) #[] cs] w (eG w τ s' S t R):=by
 obtain⟨τ0,hf,tk,fr⟩:=h.fresh;have k3:Calm w (((w.alloc (.cells #[pV S.sp] 56)).alloc (.cells #[vI 0] 3)).alloc (.cells #[vI 0] 26)):=((aq.alloc _).alloc _).alloc _;have i3:Own (((w.alloc (.cells #[pV S.sp] 56)).alloc (.cells #[vI 0] 3)).alloc (.cells #[vI 0] 26)) w.heap.size 0 (pV S.sp):=((Own.new w _ _ 0 rfl).alloc _).alloc _;have i6:Own (((w.alloc (.cells #[pV S.sp] 56)).alloc (.cells #[vI 0] 3)).alloc (.cells #[vI 0] 26)) (w.heap.size+1) 0 (vI 0):=(Own.at (w.alloc _) _ _ _ 0 (by simp) rfl).alloc _;have i7:Own (((w.alloc (.cells #[pV S.sp] 56)).alloc (.cells #[vI 0] 3)).alloc (.cells #[vI 0] 26)) (w.heap.size+1+1) 0 (vI 0):=Own.at ((w.alloc _).alloc _) _ _ _ 0 (by simp) rfl;have z3:(((w.alloc (.cells #[pV S.sp] 56)).alloc (.cells #[vI 0] 3)).alloc (.cells #[vI 0] 26)).heap.size=w.heap.size+1+1+1:=by simp
 have gT:∀ (fn:Fn) (first cap:Array aC) (w:aj),(Instr.makeFunc fn first cap).run prog w=.ok (.func fn first cap) w:=λ_ _ _ _=>rfl;obtain⟨W3,yA⟩:=au ((((w.alloc (.cells #[pV S.sp] 56)).alloc (.cells #[vI 0] 3)).alloc (.cells #[vI 0] 26)));rw[yA] at k3 i3 i6 i7 z3;have c3:=i3.1;have Of:=hf.calm k3;go_enter_defers func121,ntmps121;go_wp2_with fail
 clear yA;refine(oT Of t ht).mono ?_;rintro e w' ⟨⟨k,rfl,hk,eW,rfl⟩|⟨hn,rfl⟩,rfl⟩
 ·have hx:=Of.ny hk;have k4:Calm w' (w'.alloc (.cells #[pV (S.tx k).xp] 110)):=aq.alloc _;have i8:Own (w'.alloc (.cells #[pV (S.tx k).xp] 110)) w'.heap.size 0 (pV (S.tx k).xp):=Own.new w' #[_] _ 0 rfl;obtain⟨W4,zO⟩:=au (w'.alloc (.cells #[pV (S.tx k).xp] 110));rw[zO] at k4 i8;rw[z3] at i8;have hx4:=Of.calm k4;have i34:=i3.calm k4;have i64:=i6.calm k4;have i74:=i7.calm k4;have c34:=i34.1;have c8:=i8.1;have hc:=sx k rfl hk eW W4 τ0 (k3.trans k4) tk hx4;clear sx c3;go_wp2_with fail
  refine hc.mono ?_;rintro e w5 ⟨v,x,rfl,hv,yU,fB,S5,p1,p2,p3,p4⟩;have aZ:=i8.lt;have tg:∀b,w.heap.size<=b->b<W4.heap.size->500<=fB b:=λb h1 h2=>by rw[p2.tg b h2,fr b h1];omega
  have Yy:∀b,w.heap.size<=b->500<=τ0 b:=λb h1=>by rw[fr b h1];omega
  have m3:=p2.own i34 (Yy _ (aM _));have m6:=p2.own i64 (Yy _ (by omega));have m7:=p2.own i74 (Yy _ (by omega));have m8:=p2.own i8 (Yy _ (by omega));have c6:=m6.1;have f6:=m6.2;have f66:=l_ w5 (w.heap.size+1) 0 (vI v);have m65:=m6.set (vI v);have Zu:=m7.fr f66 (by omega);obtain⟨W6,lQ⟩:=au (w5.setCell ⟨w.heap.size+1,0,none⟩ (vI v));rw[lQ] at f66 m65 Zu;have c7:=Zu.1;have f7:=Zu.2;have f77:=l_ W6 (w.heap.size+1+1) 0 (vI x);have l7:=Zu.set (vI x);have l6:=m65.fr f77 (by omega);obtain⟨W7,sU⟩:=au (W6.setCell ⟨w.heap.size+1+1,0,none⟩ (vI x));rw[sU] at f77 l7 l6;have F7:Fr (λb=>b=w.heap.size+1\/b=w.heap.size+1+1) w5 W7:=(f66.mono (λb _ e=>.inl e)).trans (f77.mono (λb _ e=>.inr e));have l3:=m3.fr F7 (by omega);have l8:=m8.fr F7 (by omega);have aaV:=p1.jC F7 (λb hb=>tg b (by omega) (by omega));have hk5:k<S5.bB.length:=p3.len ▸ hk;rw[<-p3.xp] at l8;rw[<-p3.sp] at l3;have hd:=Ax aaV hk5 l7 l3 l8 l6 (tg _ (by omega) (by omega)) (tg _ (by omega) (by omega)) .returning;clear hc i34 i64 i74 i8 i3 i6 i7 hx4 hx Of;go_wp2;refine leaves_cons (f:=175) (args:=#[.pointer (some ⟨w.heap.size+1+1,0,none⟩),aR w.heap.size,.pointer (some ⟨w.heap.size+1+1+1,0,none⟩),.pointer (some ⟨w.heap.size+1,0,none⟩)]) (by simp) (by simp[go_sem]) ?_;refine hd.mono ?_;rintro e u' w8 ⟨rfl,rfl,w1,⟨QS,S9,n1,n2,n3,n4,n6⟩,hw8⟩;have hs7:w.heap.size+1+1+1<W7.heap.size:=l8.lt;have tg9:∀b,w.heap.size<=b->b<W4.heap.size->500<=QS b:=λb h1 h2=>by rw[n2.tg b (by have:=F7.size;have:=p2.size;omega)];exact tg b h1 h2
  have r7:=n2.own l7 (tg _ (by omega) (by omega));have r6:=n2.own l6 (tg _ (by omega) (by omega))
  have KK:aF w τ w1 QS:=by
   have h1:aF w τ0 w5 fB:=(aF.calm τ0 (k3.trans k4)).trans p2;have h2:aF w τ0 W7 fB:=⟨h1.fr.join F7 (λj hj e=>by omega),h1.tg⟩;exact(h2.trans n2).dp tk
  rcases hw8 with ⟨rfl,rfl⟩|⟨gK,rfl⟩
  ·have y6:=r6.1;have y7:=r7.1;have hP:eG w τ s' S (k:Nat) R (.returned (.tuple #[vI v,vI 0])) w8:=⟨v,0,rfl,hv,yU,QS,S9,n1,KK,p3.trans n3,.inr (.inl ⟨rfl,by rw[n4 (by unfold Fatal;omega)];exact p4⟩)⟩;simp[Leaves,settle,results,Tryz.f121,go_sem,y6,y7];exact hP
  ·have f9:=l_ w1 (w.heap.size+1) 0 (vI 0);have y6:=(r6.set (vI 0)).1;have y7:=(r7.fr f9 (by omega)).1
   have hP:eG w τ s' S (k:Nat) R (.returned (.tuple #[vI 0,vI x])) (w1.setCell ⟨w.heap.size+1,0,none⟩ (vI 0)):=
    ⟨0,x,rfl,by decide,yU,QS,S9,n1.jC f9 (λb hb=>tg9 b (by omega) (by omega)),⟨KK.fr.join f9 (λj hj e=>by omega),KK.tg⟩,p3.trans n3,.inr (.inr ⟨gK,rfl,v,S5,p4,(λe k' ek=>by rw[show k'=k by omega];exact n6 e),n4⟩)⟩
   simp[Leaves,settle,results,Tryz.f121,go_sem,y6,y7];exact hP
 ·have k4:Calm w' (w'.alloc (.cells #[.pointer none] 110)):=aq.alloc _;have i8:Own (w'.alloc (.cells #[.pointer none] 110)) w'.heap.size 0 (.pointer none):=Own.new w' #[_] _ 0 rfl;obtain⟨W4,zO⟩:=au (w'.alloc (.cells #[.pointer none] 110));rw[zO] at k4 i8;rw[z3] at i8;have c8:=i8.1;have f8:=i8.2;have f88:=l_ W4 (w.heap.size+1+1+1) 0 (.pointer none);have i88:=i8.set (.pointer none);obtain⟨W5,mW⟩:=au (W4.setCell ⟨w.heap.size+1+1+1,0,none⟩ (.pointer none));rw[mW] at f88 i88;have c88:=i88.1;have i64:=(i6.calm k4).fr f88 (by omega);have i74:=(i7.calm k4).fr f88 (by omega);have c6:=i64.1;have f6:=i64.2;have f66:=l_ W5 (w.heap.size+1) 0 (vI 0);have i75:=i74.fr f66 (by omega);have i65:=i64.set (vI 0);obtain⟨W6,lQ⟩:=au (W5.setCell ⟨w.heap.size+1,0,none⟩ (vI 0));rw[lQ] at f66 i75 i65;have c7:=i75.1;have f7:=i75.2;have f77:=l_ W6 (w.heap.size+1+1) 0 (vI 140);have j7:=i75.set (vI 140);have j6:=i65.fr f77 (by omega);have K:Calm w (W6.setCell ⟨w.heap.size+1+1,0,none⟩ (vI 140)):=(((k3.trans k4).join f88 (λj hj e=>by omega)).join f66 (λj hj e=>by omega)).join f77 (λj hj e=>by omega);have y6:=j6.1;have y7:=j7.1;have hP:eG w τ s' S t R (.returned (.tuple #[vI 0,vI 140])) (W6.setCell ⟨w.heap.size+1+1,0,none⟩ (vI 140)):=⟨0,140,rfl,by decide,by decide,(Nx.calm h K (R:=PG S t R 0 140) (.inl ⟨rfl,rfl,rfl,λk ek hk=>hn k ek hk⟩)).mono JU (λS' e=>e)⟩;clear sx;go_wp2;simp[bodyPostD,Leaves,settle,results,Tryz.f121,go_sem,y6,y7];exact hP
end
