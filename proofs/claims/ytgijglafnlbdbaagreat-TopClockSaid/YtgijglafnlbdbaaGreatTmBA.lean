import Derived.Test.YtgijglafnlbdbaaGreatTmAZ
set_option linter.all false
set_option maxHeartbeats 8000000
set_option maxRecDepth 8000
namespace Go.Proofs.YtgijglafnlbdbaaGreat
open RowKit Shelf Proofs.Tryz
open Go renaming World->aj,Value->aC,Calls->aL
section
def mb(tr:List Tr)(l:aE)(v:Int):aE:=l.filter λk=>decide ((tr.getD k aK).bt=v)
theorem Gi(tr:List Tr)(l:aE)(k:Nat)(v:Int):mb tr (l++[k]) v=mb tr l v++(if (tr.getD k aK).bt=v then [k] else []):=by
 unfold mb;rw[List.filter_append]
 congr 1
 by_cases h:(tr.getD k aK).bt=v
 ·rw[if_pos h,List.filter_cons_of_pos (by simpa using h)];rfl
 ·rw[if_neg h,List.filter_cons_of_neg (by simpa using h)];rfl
theorem Tn{l:aE}{a:Nat}(hn:l.Nodup)(h:∀x∈l,x=a)(ha:a∈l):l=[a]:=by
 match l,hn,h,ha with
 | [x],_,h,_=>rw[h x (by simp)]
 | x::y::l,hn,h,_=>
   have h1:=h x (by simp);have h2:=h y (by simp);rw[h1,h2] at hn;simp at hn
theorem RC{Q:Pg}{tr:List Tr}{n:Nat}{ms:Nat->List Mo}{wr:Nat->Nat}(h:L5 Q tr n ms wr)(v:Nat):mb tr (iz tr tr.length) (v:Int)=if 1<=v/\v<=n then [wr v] else []:=by
 have hm:∀k,k∈mb tr (iz tr tr.length) (v:Int)->k<tr.length/\lh (tr.getD k aK)=true/\(tr.getD k aK).bt=(v:Int):=λk hk=>by
  unfold mb at hk;rw[List.mem_filter,qt] at hk;exact⟨hk.1.1,hk.1.2,by simpa using hk.2⟩
 have hv:∀k,k∈mb tr (iz tr tr.length) (v:Int)->k=wr v/\1<=v/\v<=n:=λk hk=>by
  obtain⟨h1,h2,h3⟩:=hm k hk;obtain⟨h4,h5⟩:=h.w2 k h1 h2;rw[h3] at h4 h5
  have h6:(1:Int)<=(tr.getD k aK).bt:=by
   unfold lh at h2;simp only[wj,decide_eq_true_eq] at h2;exact h2.2
  exact⟨h5.symm,by omega,by omega⟩
 by_cases hc:1<=v/\v<=n
 ·rw[if_pos hc];obtain⟨h1,h2,h3,_⟩:=h.w1 v hc.1 hc.2;refine Tn ?_ (λx hx=>(hv x hx).1) ?_
  ·unfold mb iz;exact(List.nodup_range.filter _).filter _
  ·unfold mb;rw[List.mem_filter,qt];exact⟨⟨h1,h2⟩,by simpa using h3⟩
 ·rw[if_neg hc]
  cases e:mb tr (iz tr tr.length) (v:Int) with
  | nil=>rfl
  | cons x l=>exact absurd (hv x (by rw[e];simp)).2 hc
theorem xE{Q:List Dd} : ∀ {l:List Ac} {i:Nat} {x y:List Mo × List Int},fN Q l i x=some y->y.1.length<=x.1.length+l.length/\y.2.length=x.2.length
 | [],_,x,y,h=>by injection h with h;subst h;exact⟨aM _,rfl⟩
 | a::l,i,x,y,h=>by
   unfold fN at h;split at h
   ·have:=xE h;have h9:=Ex x.1 x.2 (Q.getD i dD) a.v;simp only[List.length_cons] at this ⊢;omega
   ·cases h
theorem xF{Q:List Dd}(hQ:∀d∈Q,d.Rt):∀ {l:List Ac} {i:Nat} {x y:List Mo × List Int},i+l.length<=Q.length->MO x.1->fN Q l i x=some y->MO y.1
 | [],_,x,y,_,hs,h=>by injection h with h;subst h;exact hs
 | a::l,i,x,y,hl,hs,h=>by
   unfold fN at h;simp only[List.length_cons] at hl;split at h
   ·exact xF hQ (by omega) (Ey hs _ (hQ _ (get_mem _ (by omega))) _) h
   ·cases h
theorem Ft(Q:Pg)(t:Nat):∀l:List Tr,(gA Q l t).length=6:=by
 have h:∀ (l:List Tr) (R:List Int),R.length=6->(l.foldl (λR x=>if x.th=(t:Int)/\x.en=1 then rX (bU Q x.th x.bl) x.aJ 0 R else R) R).length=6:=by
  intro l
  induction l with
  | nil=>exact λR h=>h
  | cons x l ih=>
    intro R hR;rw[List.foldl_cons];refine ih _ ?_;split
    ·rw[zw];exact hR
    ·exact hR
 exact λl=>h l _ rfl
theorem Pp(x:Tr):(lW x).length<=x.aJ.length:=by
 unfold lW;split
 ·rw[List.length_dropLast];omega
 ·exact aM _
section
variable {Q:Pg}{tr:List Tr}{n:Nat}{ms:Nat->List Mo}{wr:Nat->Nat}
theorem L5.bU(hp:tL Q)(h:L5 Q tr n ms wr){k:Nat}(hk:k<tr.length):(Go.Proofs.YtgijglafnlbdbaaGreat.bU Q (tr.getD k aK).th (tr.getD k aK).bl).length<=6/\∀d∈Go.Proofs.YtgijglafnlbdbaaGreat.bU Q (tr.getD k aK).th (tr.getD k aK).bl,d.Rt:=by
 obtain⟨h1,h2,h3,h4,_⟩:=h.t3 k hk;have ht:(tr.getD k aK).th.toNat<Q.length:=by omega
 have h0:Q.getD (tr.getD k aK).th.toNat []=Q.getD (tr.getD k aK).th.toNat []:=rfl;have hb:(tr.getD k aK).bl.toNat<(Q.getD (tr.getD k aK).th.toNat []).length:=by omega
 exact⟨(hp.d _ ht _ hb).2,hp.r _ ht _ hb⟩
theorem L5.sml(hp:tL Q)(h:L5 Q tr n ms wr):∀v,v<=n->(ms v).length<=6*v/\MO (ms v)
 | 0,_=>by rw[h.m0];exact⟨aM _,λo ho=>by cases ho⟩
 | v+1,hv=>by
   obtain⟨i1,i2⟩:=L5.sml hp h v (by omega);obtain⟨h1,_,_,_,R,h2⟩:=h.w1 (v+1) (by omega) hv;obtain⟨b1,b2⟩:=h.bU hp h1;obtain⟨_,_,_,_,_,h3,_⟩:=h.t3 _ h1;have h4:=Pp (tr.getD (wr (v+1)) aK);have h5:=xE h2;simp only[Nat.add_sub_cancel] at h5 h2;exact⟨by have:=h5.1;omega,xF b2 (by omega) i2 h2⟩
end
end
theorem iR{lL ety:TypeId}{k:Nat}(G:GI lL ety k){ops:Array Oper}{rest:List Oper}{o:Oper}{a:Act}{Q:Exit->Act->aj->Prop}{w:aj}(oJ:o.guard=none)(s x:Operand)
 (ho:o.op=.call { callee:=.builtin .append,args:=#[s,x],argTypes:=#[lL,lL] })
 (v:aC) (n:Nat) (xs:List aC) (cH:w.ownsRow 0 ety k v n xs) (hs:a.eval s=v) (ad:Option Addr) (m c:Nat) (ys:List aC) (hx:a.eval x=.slice ad m c) (Mq:ys.length=m*k) (h1:∀u∈ys,u.oneCell'=true)
 (hc:∀j u,ys[j]?=some u->∃p,ad=some p/\w.cell? (p.add j)=some u) (hl:n+m<=1000000)
 (h:∀v' w',w'.ownsRow 0 ety k v' (n+m) (xs++ys)->Fr (aB v) w w'->(∀b,aB v' b->aB v b\/w.heap.size<=b)->wpList prog ops Q rest (a.put o.dst v') w') :
 wpList prog ops Q (o::rest) a w:=by
 have hk:0<k:=by obtain⟨_,_,_,_,_,_,_,_,hk,_⟩:=G.info;exact hk
 cases ad with
 | none=>
   have aa4:ys=[]:=by
    cases ys with
    | nil=>rfl
    | cons y ys=>obtain⟨p,e,_⟩:=hc 0 y rfl;cases e
   subst aa4
   have h0:m=0:=by
    rcases Nat.eq_zero_or_pos m with e|e
    ·exact e
    ·have:=Nat.mul_pos e hk;rw[<-Mq] at this;simp at this
   subst h0;refine wpList_plain oJ λK hK=>?_;have mn:=nP G cH o.type c;unfold Oper.wp execOp;simp only[ho,resolve,invoke,builtin,Sem.run_bind,Sem.run_pure,Result.andThen_ok,List.map_toArray,List.map_cons,List.map_nil,hs,hx,mn];exact hK _ _ (h v w (by simpa using cH) aq (λb hb=>.inl hb))
 | some p=>
   exact fI G oJ s x ho v n xs cH hs p m c ys hx Mq h1 (λj u hj=>by obtain⟨q,e,hq⟩:=hc j u hj;cases e;exact hq) hl h
theorem EX(l:List Int)(j:Nat){u:aC}(h:(lu l)[j]?=some u):j<l.length/\u=vI (l.getD j 0):=by
 unfold lu at h;rw[List.getElem?_map] at h
 cases e:l[j]? with
 | none=>rw[e] at h;cases h
 | some x=>rw[e] at h;cases h;exact⟨(List.getElem?_eq_some_iff.1 e).1,by rw[aS,e];rfl⟩
theorem EY(l:List Int):∀u∈lu l,u.oneCell'=true:=by
 intro u hu;obtain⟨x,_,rfl⟩:=List.mem_map.1 hu;rfl
theorem EA{α:Type}(f:α->List aC)(k:Nat)(hf:∀a,(f a).length=k)(hk:0<k)(d:α)(l:List α)(j:Nat){u:aC}(h:(l.flatMap f)[j]?=some u):j / k<l.length/\j % k<k/\(f (l.getD (j / k) d))[j % k]?=some u:=by
 have hj:=(List.getElem?_eq_some_iff.1 h).1;rw[dS f k hf] at hj;have h1:j / k<l.length:=Nat.div_lt_of_lt_mul (by rw[Nat.mul_comm];exact hj);have h2:j % k<k:=Nat.mod_lt _ hk;refine⟨h1,h2,?_⟩;rw[<-wQ f k hf d l (j / k) h1 (j % k) h2,show j / k*k+j % k=j by rw[Nat.mul_comm];exact Nat.div_add_mod j k];exact h
theorem mJ{lL ety:TypeId}{k:Nat}(G:GI lL ety k){ops:Array Oper}{rest:List Oper}{o:Oper}{a:Act}{Q:Exit->Act->aj->Prop}{w:aj}(oJ:o.guard=none)(s x:Operand)
 (ho:o.op=.call { callee:=.builtin .append,args:=#[s,x],argTypes:=#[lL,lL] })
 (hs:a.eval s=.slice none 0 0) (ad:Option Addr) (c:Nat) (hx:a.eval x=.slice ad 0 c)
 (h:wpList prog ops Q rest (a.put o.dst (.slice none 0 0)) w):wpList prog ops Q (o::rest) a w:=by
 obtain⟨i0,z,bytes,hi,ie,gU,iw,Mr,hk,hb⟩:=G.info;refine wpList_plain oJ λK hK=>?_
 have mn:(Builtin.append_ #[lL,lL] o.type #[.slice none 0 0,.slice ad 0 c]).run prog w=.ok (.slice none 0 0) w:=by
  cases ad <;> simp[Builtin.append_,run_underlying G.und,sizeOf,typeInfo,hi,Builtin.lenOf,Builtin.firstCells,loadCells,loadCellsFrom]
 unfold Oper.wp execOp;simp only[ho,resolve,invoke,builtin,Sem.run_bind,Sem.run_pure,Result.andThen_ok,List.map_toArray,List.map_cons,List.map_nil,hs,hx,mn];exact hK _ _ h
def Ek(w:aj)(ms:List fW)(e:Ending)(w':aj):Prop:=∃v,e=.returned v/\w'.ownsRow 0 240 8 v ms.length (ms.flatMap eF)/\(∀b,aB v b->w.heap.size<=b)/\Calm w w'
theorem Ff{ms:List fW}(h:∀m∈ms,m.pv.oneCell'=true/\m.nv.oneCell'=true):∀u∈ms.flatMap eF,u.oneCell'=true:=by
 intro u hu;obtain⟨m,hm,hu⟩:=List.mem_flatMap.1 hu;obtain⟨h1,h2⟩:=h m hm;simp only[eF,f_,gB,or_false] at hu;rcases hu with rfl|rfl|rfl|rfl|rfl|rfl|rfl|rfl <;> first|rfl|exact h1|exact h2
def MK(w:aj)(l:List Int)(e:Ending)(w':aj):Prop:=∃v,e=.returned v/\bm w' 0 v l/\(∀b,aB v b->w.heap.size<=b)/\Calm w w'
theorem BJ{T:Nat->Prop}{w:aj}{v:aC}{l:List Int}(h:cB T w v l)(hl:l.length<=100000):aL prog 239 #[v] w (MK w l):=by
 obtain⟨a,c,rfl,hc⟩:=h;go_in
 have dW:=af (λj u (hj:(lu l)[j]?=some u)=>(show ∃p:Addr,a=some p/\w.cell? (p.add j)=some u by
  obtain⟨h1,rfl⟩:=EX l j hj;obtain⟨g,o,e,_,h2⟩:=hc j h1
  exact⟨⟨g,o,none⟩,e,by rw[cT];exact h2⟩))
 clear hc;obtain⟨n,hn⟩:=au l.length;rw[hn];have jo:=af hn;go_wp2_with (at_builtin;refine iR VW rfl _ _ rfl (.slice none 0 0) 0 [] ⟨by simp,.inl ⟨rfl,rfl⟩⟩ rfl a n c (lu l) rfl (by rw[lu,List.length_map,jo.out,Nat.mul_one]) (EY l) dW.out (by omega) ?_;intro v' w3 fu f3 gD;have hP:MK w l (.returned v') w3:=⟨v',rfl,(by rw[fk,List.nil_append,<-jo.out] at fu;exact fu),(λb hb=>by rcases gD b hb with e|e;exact(aB.nil b e).elim;exact e),f3.mono (λb _ e=>(aB.nil b e).elim)⟩;replace hP:=af hP;clear fu f3 gD)
 go_ret;exact hP.out
theorem KF{T:Nat->Prop}{w:aj}{v:aC}{ms:List fW}(h:bL T w v ms)(hl:ms.length<=100000):aL prog 200 #[v] w (Ek w ms):=by
 obtain⟨a,c,rfl,hc⟩:=h;go_in
 have dW:=af (λj u (hj:(ms.flatMap eF)[j]?=some u)=>(show ∃p:Addr,a=some p/\w.cell? (p.add j)=some u by
  obtain⟨h1,h2,h3⟩:=EA eF 8 bX (by decide) bV ms j hj;obtain⟨g,o,e,_,h4,_⟩:=hc (j / 8) h1;refine⟨⟨g,o,none⟩,e,?_⟩;rw[cT];have:=h4 (j % 8) u h3
  rwa [show o+j / 8*8+j % 8=o+j by omega] at this))
 have JO:=af (λm (hm:m∈ms)=>(show m.pv.oneCell'=true/\m.nv.oneCell'=true by
  obtain⟨k,kN,gI⟩:=List.getElem_of_mem hm;obtain⟨g,o,e,_,_,⟨_,_,h5,_⟩,⟨_,_,h6,_⟩⟩:=hc k kN;rw[show ms.getD k bV=m by rw[aS,jI kN,gI];rfl] at h5 h6
  rw[h5,h6];exact⟨rfl,rfl⟩))
 clear hc;obtain⟨n,hn⟩:=au ms.length;rw[hn];have jo:=af hn;go_wp2_with (at_builtin;refine iR Nn rfl _ _ rfl (.slice none 0 0) 0 [] ⟨by simp,.inl ⟨rfl,rfl⟩⟩ rfl a n c (ms.flatMap eF) rfl (by rw[dS eF 8 bX,jo.out]) (Ff JO.out) dW.out (by omega) ?_;intro v' w3 fu f3 gD;have hP:Ek w ms (.returned v') w3:=⟨v',rfl,(by rw[fk,List.nil_append,<-jo.out] at fu;exact fu),(λb hb=>by rcases gD b hb with e|e;exact(aB.nil b e).elim;exact e),f3.mono (λb _ e=>(aB.nil b e).elim)⟩;replace hP:=af hP;clear fu f3 gD)
 go_ret;exact hP.out
theorem GX{w:aj}(a:Option Addr)(c:Nat):aL prog 158 #[.slice a 0 c] w λe w'=>e=.returned (.slice none 0 0)/\w'=w:=by
 go_in;go_wp2_with (at_builtin;refine mJ Ry rfl _ _ rfl rfl a c rfl ?_)
 go_ret;exact⟨rfl,rfl⟩
theorem BK{T:Nat->Prop}{w:aj}{v:aC}{l:List Int}(h:cB T w v l)(hl:l.length<=100000):aL prog 154 #[v] w (MK w l):=by
 obtain⟨a,c,rfl,hc⟩:=h;go_in
 have dW:=af (λj u (hj:(lu l)[j]?=some u)=>(show ∃p:Addr,a=some p/\w.cell? (p.add j)=some u by
  obtain⟨h1,rfl⟩:=EX l j hj;obtain⟨g,o,e,_,h2⟩:=hc j h1
  exact⟨⟨g,o,none⟩,e,by rw[cT];exact h2⟩))
 clear hc;obtain⟨n,hn⟩:=au l.length;rw[hn];have jo:=af hn;go_wp2_with (at_builtin;refine iR VW rfl _ _ rfl (.slice none 0 0) 0 [] ⟨by simp,.inl ⟨rfl,rfl⟩⟩ rfl a n c (lu l) rfl (by rw[lu,List.length_map,jo.out,Nat.mul_one]) (EY l) dW.out (by omega) ?_;intro v' w3 fu f3 gD;have hP:MK w l (.returned v') w3:=⟨v',rfl,(by rw[fk,List.nil_append,<-jo.out] at fu;exact fu),(λb hb=>by rcases gD b hb with e|e;exact(aB.nil b e).elim;exact e),f3.mono (λb _ e=>(aB.nil b e).elim)⟩;replace hP:=af hP;clear fu f3 gD)
 go_ret;exact hP.out
theorem KG{T:Nat->Prop}{w:aj}{v:aC}{ms:List fW}(h:bL T w v ms)(hl:ms.length<=100000):aL prog 152 #[v] w (Ek w ms):=by
 obtain⟨a,c,rfl,hc⟩:=h;go_in
 have dW:=af (λj u (hj:(ms.flatMap eF)[j]?=some u)=>(show ∃p:Addr,a=some p/\w.cell? (p.add j)=some u by
  obtain⟨h1,h2,h3⟩:=EA eF 8 bX (by decide) bV ms j hj;obtain⟨g,o,e,_,h4,_⟩:=hc (j / 8) h1;refine⟨⟨g,o,none⟩,e,?_⟩;rw[cT];have:=h4 (j % 8) u h3
  rwa [show o+j / 8*8+j % 8=o+j by omega] at this))
 have JO:=af (λm (hm:m∈ms)=>(show m.pv.oneCell'=true/\m.nv.oneCell'=true by
  obtain⟨k,kN,gI⟩:=List.getElem_of_mem hm;obtain⟨g,o,e,_,_,⟨_,_,h5,_⟩,⟨_,_,h6,_⟩⟩:=hc k kN;rw[show ms.getD k bV=m by rw[aS,jI kN,gI];rfl] at h5 h6
  rw[h5,h6];exact⟨rfl,rfl⟩))
 clear hc;obtain⟨n,hn⟩:=au ms.length;rw[hn];have jo:=af hn;go_wp2_with (at_builtin;refine iR Nn rfl _ _ rfl (.slice none 0 0) 0 [] ⟨by simp,.inl ⟨rfl,rfl⟩⟩ rfl a n c (ms.flatMap eF) rfl (by rw[dS eF 8 bX,jo.out]) (Ff JO.out) dW.out (by omega) ?_;intro v' w3 fu f3 gD;have hP:Ek w ms (.returned v') w3:=⟨v',rfl,(by rw[fk,List.nil_append,<-jo.out] at fu;exact fu),(λb hb=>by rcases gD b hb with e|e;exact(aB.nil b e).elim;exact e),f3.mono (λb _ e=>(aB.nil b e).elim)⟩;replace hP:=af hP;clear fu f3 gD)
 go_ret;exact hP.out
theorem GY{w:aj}(a:Option Addr)(c:Nat):aL prog 153 #[.slice a 0 c] w λe w'=>e=.returned (.slice none 0 0)/\w'=w:=by
 go_in;go_wp2_with (at_builtin;refine mJ Ry rfl _ _ rfl rfl a c rfl ?_)
 go_ret;exact⟨rfl,rfl⟩
theorem ag.ce8{w:aj}{g:Nat}{a b c d e f x y:aC}(h:ag w g [a,b,c,d,e,f,x,y]):w.cell? ⟨g,0,none⟩=some a/\w.cell? ⟨g,1,none⟩=some b/\w.cell? ⟨g,2,none⟩=some c/\w.cell? ⟨g,3,none⟩=some d/\w.cell? ⟨g,4,none⟩=some e/\w.cell? ⟨g,5,none⟩=some f/\w.cell? ⟨g,6,none⟩=some x/\w.cell? ⟨g,7,none⟩=some y:=⟨(h 0 _ rfl).1,(h 1 _ rfl).1,(h 2 _ rfl).1,(h 3 _ rfl).1,(h 4 _ rfl).1,(h 5 _ rfl).1,(h 6 _ rfl).1,(h 7 _ rfl).1⟩
def ObP(w:aj)(x:Mo)(e:Ending)(w':aj):Prop:=∃pv nv,e=.returned (.agg (eF ⟨x,pv,nv⟩).toArray)/\bm w' 0 pv x.ps/\bm w' 0 nv x.ns/\(∀b,aB pv b->w.heap.size<=b)/\(∀b,aB nv b->w.heap.size<=b/\¬aB pv b)/\Calm w w'
theorem TA{fn:Func}{i:Nat}{W:aj}{B:Nat}{m:fW}{tmps:Array aC}(hf:fn.results = #[.cell i 240])(h5:tmps[i]?.getD undef = aR B)(u:ag W B (eF m)):(results fn tmps).run prog W=.ok (.agg (eF m).toArray) W:=by
 simp only[eF] at u ⊢;have z0:=(u 0 _ rfl).1;have z1:=(u 1 _ rfl).1;have z2:=(u 2 _ rfl).1;have z3:=(u 3 _ rfl).1;have z4:=(u 4 _ rfl).1;have z5:=(u 5 _ rfl).1;have z6:=(u 6 _ rfl).1;have z7:=(u 7 _ rfl).1;simp[results,hf,h5,go_sem,z0,z1,z2,z3,z4,z5,z6,z7]
theorem OG{T:Nat->Prop}{w:aj}{m:fW}(hp:cB T w m.pv m.x.ps)(hn:cB T w m.nv m.x.ns)(lp:m.x.ps.length<=100000)(ln:m.x.ns.length<=100000) :
 aL prog 201 #[.agg (eF m).toArray] w (ObP w m.x):=by
 obtain⟨x,pv,nv⟩:=m;simp only at hp hn lp ln;simp only[eF];obtain⟨W0,e0,k0,o1,o2⟩:=rU w [vI x.ser,vI x.p,vI x.d,.bool x.wk,.bool x.fn,pv,nv,.bool x.fr] 240 [vI 0,vI 0,vI 0,.bool false,.bool false,.slice none 0 0,.slice none 0 0,.bool false] 240;have NU:=o1.lt (by simp);have td:=o2.lt (by simp);have Di:cB (λb=>b<w.heap.size) W0 pv x.ps:=(hp.mono (λb h _=>h)).calm k0;have H6:cB (λb=>b<w.heap.size) W0 nv x.ns:=(hn.mono (λb h _=>h)).calm k0;have oc5:=BJ Di lp;have d5:=(o1 5 _ rfl).1;have jM:pv.oneCell'=true:=by obtain⟨_,_,e,_⟩:=hp;rw[e];rfl
 have nJ:nv.oneCell'=true:=by obtain⟨_,_,e,_⟩:=hn;rw[e];rfl
 replace o1:=af o1;replace o2:=af o2;replace k0:=af k0;replace H6:=af H6;clear hp hn Di;go_in;go_upto_region 1 with fail
 clear e0;go_wp2_with fail
 refine oc5.mono ?_;rintro e w5 ⟨v5,rfl,r5,b5,c5⟩;clear oc5 d5;obtain⟨a5,n5,hv5⟩:=aG r5;subst hv5;have q5:=o1.out.calm c5;have y5:=(q5 5 _ rfl).1;have z5:=(q5 5 _ rfl).2;have s5:=q5.set 5 (.slice a5 x.ps.length n5) (by simp);have f5:=l_ w5 (w.heap.size) 5 (.slice a5 x.ps.length n5);obtain⟨W6,lQ⟩:=au (w5.setCell ⟨w.heap.size,5,none⟩ (.slice a5 x.ps.length n5));rw[lQ] at s5 f5;have Cs:∀b,aB (.slice a5 x.ps.length n5) b->w.heap.size+2<=b/\b<w5.heap.size:=λb hb=>⟨by have:=b5 b hb;omega,(World.ownsRow.lt r5 b hb).2⟩;have r6:bm W6 0 (.slice a5 x.ps.length n5) x.ps:=az r5 f5 (λb hb e=>by have:=Cs b hb;omega);have oc6:=BJ ((H6.out.calm c5).fr f5 (λb h e=>by omega)) ln;have d6:=(s5 6 _ rfl).1;have o26:=af ((o2.out.calm c5).fr f5 (by omega));have Gq:=af (((k0.out.trans c5).join f5 (λj hj e=>by omega)));have abY:w5.heap.size<=W6.heap.size:=f5.size;have abT:w.heap.size+1<W6.heap.size:=by have:=c5.size;omega
 replace s5:=af s5;replace r6:=af r6;replace Cs:=af Cs;clear q5 f5 r5 b5 k0 o1 o2 H6;go_wp2_with fail
 refine oc6.mono ?_;rintro e w7 ⟨v7,rfl,r7,b7,c7⟩;clear oc6 d6;obtain⟨a7,n7,hv7⟩:=aG r7;subst hv7;have q7:=s5.out.calm c7;have y7:=(q7 6 _ rfl).1;have z7:=(q7 6 _ rfl).2;have s7:=q7.set 6 (.slice a7 x.ns.length n7) (by simp);have f7:=l_ w7 (w.heap.size) 6 (.slice a7 x.ns.length n7);obtain⟨W8,jn⟩:=au (w7.setCell ⟨w.heap.size,6,none⟩ (.slice a7 x.ns.length n7));rw[jn] at s7 f7;have Wp:∀b,aB (.slice a7 x.ns.length n7) b->W6.heap.size<=b/\b<w7.heap.size:=λb hb=>⟨b7 b hb,(World.ownsRow.lt r7 b hb).2⟩;have r58:bm W8 0 (.slice a5 x.ps.length n5) x.ps:=az (az r6.out c7 (λ_ _=>id)) f7 (λb hb e=>by have:=Cs.out b hb;omega);have r78:bm W8 0 (.slice a7 x.ns.length n7) x.ns:=az r7 f7 (λb hb e=>by have:=Wp b hb;omega);have o28:=((o26.out.calm c7).fr f7 (by omega));have hk8:=(Gq.out.trans c7).join f7 (λj hj e=>by omega);have s8:ag W8 w.heap.size (eF ⟨x,.slice a5 x.ps.length n5,.slice a7 x.ns.length n7⟩):=s7;have fF:(eF ⟨x,.slice a5 x.ps.length n5,.slice a7 x.ns.length n7⟩).toArray.all (·.oneCell')=true:=by simp[eF,Value.oneCell']
 have hP:Hid (∀W,Fr (λk=>k=w.heap.size+1) W8 W->ObP w x (.returned (.agg (eF ⟨x,.slice a5 x.ps.length n5,.slice a7 x.ns.length n7⟩).toArray)) W):=λW F=>
  ⟨.slice a5 x.ps.length n5,.slice a7 x.ns.length n7,rfl,az r58 F (λb hb e=>by have:=Cs.out b hb;omega),az r78 F (λb hb e=>by have:=Wp b hb;omega),λb hb=>by have:=Cs.out b hb;omega,λb hb=>⟨by have:=Wp b hb;omega,λh=>by have:=Wp b hb;have:=Cs.out b h;omega⟩,hk8.join F (λj hj e=>by omega)⟩
 obtain⟨p0,p1,p2,p3,p4,p5,p6,p7⟩:=ag.ce8 s8;clear q7 f7 r7 b7 Gq o26 s5 r6 Cs r58 r78 hk8 s7 s8;go_wp2_with (refine il rfl _ _ _ rfl (w.heap.size+1) (eF ⟨x,.slice a5 x.ps.length n5,.slice a7 x.ns.length n7⟩).toArray rfl rfl o28 rfl (by kernel_rfl) fF ?_;intro w9 s9 f9;have hQ:=af (hP.out w9 f9);clear f9 hP o28 p0 p1 p2 p3 p4 p5 p6 p7)
 exact bodyPost_ret (v:=.agg (eF ⟨x,.slice a5 x.ps.length n5,.slice a7 x.ns.length n7⟩).toArray) (TA (i:=2) rfl rfl s9) rfl hQ.out
theorem im(w:aj){op:Oper}{a:Act}{K:Act->aj->Prop}{Q:Exit->Act->aj->Prop}{ty:TypeId}{zs:List aC}(ho:op.op=.alloc ty)(hr:∀w,(Instr.alloc ty true (.tuple #[])).run prog w=.ok (aR w.heap.size) (w.alloc (.cells zs.toArray ty)))
 (h:∀w',Calm w w'->ag w' w.heap.size zs->K (a.put op.dst (aR w.heap.size)) w'):op.wp prog a w K Q:=by
 have h2:=h _ (aq.alloc _) (ag.new w zs ty);unfold Oper.wp;simp[execOp,ho,hr,Result.andThen];exact h2
theorem fP(w:aj):(Instr.alloc 92 true (.tuple #[])).run prog w=.ok (aR w.heap.size) (w.alloc (.cells [.slice none 0 0,.slice none 0 0].toArray 92)):=by simp[go_sem]
structure vF(w:aj)(lo:Nat)(v:aC)(ms:List fW)(i:Nat):Prop where
 r:w.ownsRow 0 240 8 v ms.length (ms.flatMap eF)
 p:∀j,j<i->bm w 0 (ms.getD j bV).pv (ms.getD j bV).x.ps
 n:∀j,j<i->bm w 0 (ms.getD j bV).nv (ms.getD j bV).x.ns
 l:∀j,j<i->∀b,aB (ms.getD j bV).pv b\/aB (ms.getD j bV).nv b->lo<=b/\¬aB v b
 v:∀b,aB v b->lo<=b
 d:∀j,j<i->∀b,aB (ms.getD j bV).nv b->¬aB (ms.getD j bV).pv b
 e:∀j k,j<i->k<i->j≠k->∀b,aB (ms.getD j bV).pv b\/aB (ms.getD j bV).nv b->¬(aB (ms.getD k bV).pv b\/aB (ms.getD k bV).nv b)
def PN(w:aj)(ms:List fW)(s3:aC)(wx:aj):Prop:=
 ∃g v,s3 = aR g/\ag wx g [v,.slice none 0 0]/\wx.ownsRow 0 240 8 v ms.length (ms.flatMap eF)/\(∀b,aB v b->w.heap.size<=b/\b≠g)/\w.heap.size<=g/\Calm w wx
def YN(w:aj)(l:List Mo)(e:Ending)(w':aj):Prop:=∃v ms,e=.returned (.agg #[v,.slice none 0 0])/\ms.map (·.x)=l/\vF w' w.heap.size v ms ms.length/\Calm w w'
theorem xI{α:Type}{l:List α}{i:Nat}{x:α}(h:i<l.length)(d:α)(e:l.getD i d=x):l.set i x=l:=by
 rw[<-e,aS,jI h];exact List.set_getElem_self h
theorem vF.step{w w6 w':aj}{lo g8 c i:Nat}{v pv nv:aC}{ms:List fW}{x:Mo}(h:vF w lo v ms i)(hi:i<ms.length)(hv:v=.slice (some ⟨g8,0,none⟩) ms.length c)(c6:Calm w w6)(hp:bm w6 0 pv x.ps)(hn:bm w6 0 nv x.ns)
 (bp:∀b,aB pv b->w.heap.size<=b) (bn:∀b,aB nv b->w.heap.size<=b/\¬aB pv b) (H0:lo<=w.heap.size) (hr:w'.ownsRow 0 240 8 v ms.length ((ms.set i ⟨x,pv,nv⟩).flatMap eF)) (f:Fr (λk=>k=g8) w6 w'):vF w' lo v (ms.set i ⟨x,pv,nv⟩) (i+1):=by
 have xd:aB v g8:=by rw[hv];exact aB.mk.2 rfl
 have Y5:g8<w.heap.size:=(World.ownsRow.lt h.r g8 xd).2
 have same:∀j,j<i+1->(j=i/\(ms.set i ⟨x,pv,nv⟩).getD j bV=⟨x,pv,nv⟩)\/(j<i/\(ms.set i ⟨x,pv,nv⟩).getD j bV=ms.getD j bV):=λj hj=>by
  by_cases e:j=i
  ·subst e;exact .inl ⟨rfl,ks hi _ _⟩
  ·exact .inr ⟨by omega,rH e _ _⟩
 have cC:∀j,j<i->∀b,aB (ms.getD j bV).pv b\/aB (ms.getD j bV).nv b->b<w.heap.size/\b≠g8:=λj hj b hb=>by
  refine⟨?_,λe=>(h.l j hj b hb).2 (by rw[e];exact xd)⟩;rcases hb with hb|hb
  ·exact(World.ownsRow.lt (h.p j hj) b hb).2
  ·exact(World.ownsRow.lt (h.n j hj) b hb).2
 have new:∀b,aB pv b\/aB nv b->w.heap.size<=b:=λb hb=>hb.elim (bp b) (λe=>(bn b e).1);refine⟨by rw[bE];exact hr,λj hj=>?_,λj hj=>?_,λj hj b hb=>?_,h.v,λj hj b hb=>?_,λj k hj hk HX b hb hc=>?_⟩
 ·rcases same j hj with ⟨_,e⟩|⟨h1,e⟩ <;> rw[e]
  ·exact az hp f (λb hb e=>by have:=bp b hb;omega)
  ·exact az (az (h.p j h1) c6 (λ_ _=>id)) f (λb hb e=>(cC j h1 b (.inl hb)).2 e)
 ·rcases same j hj with ⟨_,e⟩|⟨h1,e⟩ <;> rw[e]
  ·exact az hn f (λb hb e=>by have:=(bn b hb).1;omega)
  ·exact az (az (h.n j h1) c6 (λ_ _=>id)) f (λb hb e=>(cC j h1 b (.inr hb)).2 e)
 ·rcases same j hj with ⟨_,e⟩|⟨h1,e⟩ <;> rw[e] at hb
  ·have:=new b hb;exact⟨by omega,λe2=>by have:=(World.ownsRow.lt h.r b e2).2;omega⟩
  ·exact h.l j h1 b hb
 ·rcases same j hj with ⟨_,e⟩|⟨h1,e⟩ <;> rw[e] at hb ⊢
  ·exact(bn b hb).2
  ·exact h.d j h1 b hb
 ·rcases same j hj with ⟨ej,e⟩|⟨h1,e⟩ <;> rcases same k hk with ⟨ek,e'⟩|⟨h2,e'⟩ <;> rw[e] at hb <;> rw[e'] at hc
  ·omega
  ·have:=new b hb;have:=(cC k h2 b hc).1;omega
  ·have:=new b hc;have:=(cC j h1 b hb).1;omega
  ·exact h.e j k h1 h2 HX b hb hc
theorem vF.fr{w w':aj}{lo lo' i:Nat}{v:aC}{ms:List fW}{S:Nat->Prop}(h:vF w lo v ms i)(f:Fr S w w')(hs:∀b,lo<=b->¬S b)(hl:lo'<=lo):vF w' lo' v ms i:=
 ⟨az h.r f (λb hb=>hs b (h.v b hb)),λj hj=>az (h.p j hj) f (λb hb=>hs b (h.l j hj b (.inl hb)).1),λj hj=>az (h.n j hj) f (λb hb=>hs b (h.l j hj b (.inr hb)).1),λj hj b hb=>⟨fH hl (h.l j hj b hb).1,(h.l j hj b hb).2⟩,λb hb=>fH hl (h.v b hb),h.d,h.e⟩
theorem Lb{fn:Func}{i:Nat}{W:aj}{B:Nat}{u v:aC}{tmps:Array aC}(hf:fn.results = #[.cell i 92])(h5:tmps[i]?.getD undef = aR B)(o:ag W B [u,v]):(results fn tmps).run prog W=.ok (.agg #[u,v]) W:=by
 obtain⟨z0,z1⟩:=ag.lF o;simp[results,hf,h5,go_sem,z0,z1]
def Ue(W0:aj)(ms:List fW)(g:Nat)(v8:aC)(i:Nat)(w':aj):Prop:=
 ∃ms',ms'.map (·.x)=ms.map (·.x)/\(∀j,i<=j->ms'.getD j bV=ms.getD j bV)/\vF w' W0.heap.size v8 ms' i/\(∀j,j<i->∀b,aB (ms'.getD j bV).pv b\/aB (ms'.getD j bV).nv b->b≠g)/\(∀b,aB v8 b->b≠g)/\ag w' g [v8,.slice none 0 0]/\W0.heap.size<=g/\Calm W0 w'
theorem zK{op:Oper}{a:Act}{w:aj}{K:Act->aj->Prop}{Q:Exit->Act->aj->Prop}(x y:Operand)(ho:op.op=.store 240 x y)
 {g N c i:Nat} {Y:List fW} {z:fW} (hx:a.eval x=.pointer (some ⟨g,i*8,none⟩)) (hy:a.eval y=.agg (eF z).toArray) (hz:(eF z).toArray.all (·.oneCell')=true) (own:w.ownsRow 0 240 8 (.slice (some ⟨g,0,none⟩) N c) N (Y.flatMap eF)) (hY:Y.length=N) (hi:i<N)
 (h:∀w',w'.ownsRow 0 240 8 (.slice (some ⟨g,0,none⟩) N c) N ((Y.set i z).flatMap eF)->Fr (λk=>k=g) w w'->K (a.put op.dst undef) w'):op.wp prog a w K Q:=by
 have hl:(Y.flatMap eF).length=N*8:=by rw[dS eF 8 bX,hY]
 have hs:=mQ (eF z) own (i*8) (by rw[hl,bX];omega);rw[jV eF 8 bX z Y i (by omega)] at hs;refine wp_store_mid 240 x y ho g (i*8) (eF z).toArray hx hy (λj hj=>?_) (by kernel_rfl) hz (h _ hs (Fr.setCells (S:=λk=>k=g) rfl _ _ aq));obtain⟨g2,c2,hv,hg⟩:=bz (ety:=240) (k:=8) bX (by decide) (by rw[<-hY] at own;exact own) bV (show i<Y.length by omega);injection hv with hv _ _
 injection hv with hv
 injection hv with hv
 subst hv;have hj8:j<8:=by simpa[eF] using hj
 have hu:(eF (Y.getD i bV))[j]?=some ((eF (Y.getD i bV))[j]'(by rw[bX];exact hj8)):=jI _;have ho:=hg j _ hu;exact⟨by rw[ho.1];rfl,ho.2⟩
theorem BL{T:Nat->Prop}{w:aj}{v:aC}{ms:List fW}(h:bL T w v ms)(hl:ms.length<=100000)(qa:Option Addr)(qc:Nat)(hs:∀m∈ms,m.x.ps.length<=100000/\m.x.ns.length<=100000) :
 aL prog 155 #[.agg #[v,.slice qa 0 qc]] w (YN w (ms.map (·.x))):=by
 have h0:=h.mono (T':=λb=>b<w.heap.size) (λb h _=>h);obtain⟨W0,e0,k0,o1,o2⟩:=rU w [v,.slice qa 0 qc] 92 [.slice none 0 0,.slice none 0 0] 92;have td:=o2.lt (by simp);have h1:=h0.calm k0;obtain⟨va,vc,hv,-⟩:=h;obtain⟨NM,jD⟩:=au ms.length;have hNl:NM<=100000:=by rw[<-jD];exact hl
 rw[jD] at hv;subst hv;obtain⟨y0,y1⟩:=ag.lF o1;have oc:=af (λW (c:Calm W0 W)=>KF (h1.calm c) hl);have oi:=af (λW=>GX (w:=W) qa qc);replace o2:=af o2;replace k0:=af k0;replace h1:=af h1;replace hs:=af hs;replace jD:=af jD;clear h0 o1;go_in;go_upto_region 1 with fail
 clear e0
 go_cut [3] (λs3 wx=>PN W0 ms s3 wx)
 case first=>
  have kd:Calm W0 W0.drew:=aq.drew;refine d_ (Way.reads [0,1,3,4] (.any (.alt 2 (.any (.alt 5 (Way.reads [6] (.step 7 (.step 8 .fin))) (.alt 7 (.step 5 (Way.reads [6] (.step 8 .fin))) .stop))) (.alt 7 (.step 2 (.step 5 (Way.reads [6] (.step 8 .fin)))) .stop)))) (λw'=>Calm W0 w') (by kernel_rfl) (by kernel_rfl) kd ?_;refine ay (aR w.heap.size) rfl rfl (λw' hw'=>?_) ai ?_
  ·simp[go_sem]
  refine ay (.slice va NM vc) rfl rfl (λw' hw'=>?_) ai ?_
  ·have e1:=hw'.cellAt y0 id;simp[go_sem,e1]
  refine ay (.pointer (some ⟨w.heap.size,1,none⟩)) rfl rfl (λw' hw'=>?_) ai ?_
  ·simp[go_sem]
  refine ay (.slice qa 0 qc) rfl rfl (λw' hw'=>?_) ai ?_
  ·have e1:=hw'.cellAt y1 id;simp[go_sem,e1]
  refine eX ?_;refine bC rfl rfl ?_ (bC rfl rfl ?_ dI)
  ·skip
   have Kw:=oc.out _ kd;go_wp2_with fail
   refine Kw.mono ?_;rintro e w5 ⟨v8,rfl,r5,b5,c5⟩;obtain⟨a8,c8,vV⟩:=aG r5;subst vV;clear Kw;have K5:=kd.trans c5;refine⟨K5,?_⟩;refine eX ?_;refine bC rfl rfl ?_ (bC rfl rfl ?_ dI)
   ·skip
    have zi:=oi.out w5;go_wp2_with fail
    refine zi.mono ?_;rintro e w6 ⟨rfl,h6⟩;obtain rfl:w5=w6:=h6.symm;clear zi;refine⟨K5,?_⟩;refine ay (.agg #[.slice a8 ms.length c8,.slice none 0 0]) rfl rfl (λw' hw'=>?_) ai ?_
    ·simp[go_sem]
    refine aI rfl rfl ?_;refine im w5 rfl fP ?_;intro w7 k7 o7;have K7:=K5.trans k7;have l7:=o7.lt (by simp);refine⟨K7,?_⟩;go_simp;refine aI rfl rfl ?_;refine aN _ _ _ rfl (w5.heap.size) #[.slice a8 ms.length c8,.slice none 0 0] (by rfl) (by rfl) o7 rfl (by kernel_rfl) (by simp[Value.oneCell']) ?_;intro w8 s8 f8;have K8:=K7.join f8 (λj hj e=>by have:=kd.size;have:=K7.size;have:=K5.size;omega);refine⟨K8,cg ?_⟩;have hP:PN W0 ms (aR w5.heap.size) w8:=⟨_,_,rfl,s8,az (az r5 k7 (λ_ _=>id)) f8 (λb hb e=>by have:=(World.ownsRow.lt r5 b hb).2;omega),λb hb=>⟨by have:=b5 b hb;have:=kd.size;omega,λe=>by have:=(World.ownsRow.lt r5 b hb).2;omega⟩,by have:=K5.size;omega,K8⟩;replace hP:=af hP;clear s8 f8 K8 K5 K7 o7 r5 b5 c5;go_simp;go_wp2_with fail
    go_meet;exact hP.out
   ·skip
    refine im w5 rfl fP ?_;intro w7 k7 o7;have K7:=K5.trans k7;have l7:=o7.lt (by simp);refine⟨K7,?_⟩;go_simp;refine aI rfl rfl ?_;have zi:=oi.out w7;go_wp2_with fail
    refine zi.mono ?_;rintro e w6 ⟨rfl,h6⟩;obtain rfl:w7=w6:=h6.symm;clear zi;refine⟨K7,?_⟩;refine ay (.agg #[.slice a8 ms.length c8,.slice none 0 0]) rfl rfl (λw' hw'=>?_) ai ?_
    ·simp[go_sem]
    refine aI rfl rfl ?_;refine aN _ _ _ rfl (w5.heap.size) #[.slice a8 ms.length c8,.slice none 0 0] (by rfl) (by rfl) o7 rfl (by kernel_rfl) (by simp[Value.oneCell']) ?_;intro w8 s8 f8;have K8:=K7.join f8 (λj hj e=>by have:=kd.size;have:=K7.size;have:=K5.size;omega);refine⟨K8,cg ?_⟩;have hP:PN W0 ms (aR w5.heap.size) w8:=⟨_,_,rfl,s8,az (az r5 k7 (λ_ _=>id)) f8 (λb hb e=>by have:=(World.ownsRow.lt r5 b hb).2;omega),λb hb=>⟨by have:=b5 b hb;have:=kd.size;omega,λe=>by have:=(World.ownsRow.lt r5 b hb).2;omega⟩,by have:=K5.size;omega,K8⟩;replace hP:=af hP;clear s8 f8 K8 K5 K7 o7 r5 b5 c5;go_simp;go_wp2_with fail
    go_meet;exact hP.out
  ·skip
   refine im W0.drew rfl fP ?_;intro w7 k7 o7;have K7:=kd.trans k7;have l7:=o7.lt (by simp);refine⟨K7,?_⟩;go_simp;refine aI rfl rfl ?_;have Kw:=oc.out _ K7;go_wp2_with fail
   refine Kw.mono ?_;rintro e w5 ⟨v8,rfl,r5,b5,c5⟩;obtain⟨a8,c8,vV⟩:=aG r5;subst vV;clear Kw;have K5:=K7.trans c5;refine⟨K5,?_⟩;have XY:=o7.calm c5;refine aI rfl rfl ?_;have zi:=oi.out w5;go_wp2_with fail
   refine zi.mono ?_;rintro e w6 ⟨rfl,h6⟩;obtain rfl:w5=w6:=h6.symm;clear zi;refine⟨K5,?_⟩;refine ay (.agg #[.slice a8 ms.length c8,.slice none 0 0]) rfl rfl (λw' hw'=>?_) ai ?_
   ·simp[go_sem]
   refine aI rfl rfl ?_;refine aN _ _ _ rfl (W0.drew.heap.size) #[.slice a8 ms.length c8,.slice none 0 0] (by rfl) (by rfl) XY rfl (by kernel_rfl) (by simp[Value.oneCell']) ?_;intro w8 s8 f8;have K8:=K5.join f8 (λj hj e=>by have:=kd.size;have:=K5.size;have:=K5.size;omega);refine⟨K8,cg ?_⟩;have hP:PN W0 ms (aR W0.drew.heap.size) w8:=⟨_,_,rfl,s8,az r5 f8 (λb hb e=>by have:=b5 b hb;omega),λb hb=>⟨by have:=b5 b hb;have:=K7.size;omega,λe=>by have:=b5 b hb;omega⟩,by have:=kd.size;omega,K8⟩;replace hP:=af hP;clear s8 f8 K8 K5 K7 k7 o7 XY r5 b5 c5;go_simp;go_wp2_with fail
   go_meet;exact hP.out
 case rest=>
  obtain⟨g,v8,rfl,o8,r8,b8,lg,c8⟩:=hcut;obtain⟨oa,DH,vV⟩:=aG r8;rw[jD.out] at vV;have p0:=(o8 0 _ rfl).1;rw[vV] at p0;have um:Hid (Ue W0 ms g v8 0 wc):=⟨ms,rfl,λ_ _=>rfl,⟨r8,λj hj=>absurd hj (Nat.not_lt_zero j),λj hj=>absurd hj (Nat.not_lt_zero j),λj hj=>absurd hj (Nat.not_lt_zero j),λb hb=>(b8 b hb).1,λj hj=>absurd hj (Nat.not_lt_zero j),λj k hj=>absurd hj (Nat.not_lt_zero j)⟩,λj hj=>absurd hj (Nat.not_lt_zero j),λb hb=>(b8 b hb).2,o8,lg,c8⟩;replace vV:=af vV;clear oc oi y0 y1 o8 r8 b8 lg c8;go_wp2_with fail
  go_loopw [16] (λz w'=>∃i:Nat,i<=NM/\z=vI i/\Ue W0 ms g v8 i w') (λz _=>NM-(intOf z).toNat)
  case atStart=>exact⟨0,by omega,rfl,um.out⟩
  case round=>
   clear um p0;obtain⟨i,hi,rfl,ms',hx,yR,hM,N0,J1,og,lg,cr⟩:=hrel;have hlen:ms'.length=NM:=by have:=congrArg List.length hx;simpa[jD.out] using this
   by_cases aZ:i<NM
   ·have hd:decide ((i:Int)<(NM:Int))=true:=decide_eq_true (by omega);obtain⟨g8,c8,pF,gY⟩:=bz bX (by decide) hM.r bV (i:=i) (by omega);rw[hlen] at pF;have SG:=pF;rw[vV.out] at pF;injection pF with e1 _ e3
    subst e1;subst e3;obtain⟨⟨x,pv,nv⟩,hm⟩:∃m,ms'.getD i bV=m:=⟨_,rfl⟩;have rP:ms.getD i bV=⟨x,pv,nv⟩:=by rw[<-yR i (aM _)];exact hm
    rw[hm] at gY;obtain⟨_,_,-,Wz⟩:=h1.out;obtain⟨_,_,-,-,-,HV,gH⟩:=Wz i (by rw[jD.out];exact aZ);clear Wz;rw[rP] at HV gH;have nL:=hs.out ⟨x,pv,nv⟩ (by rw[<-rP];exact get_mem bV (by rw[jD.out];exact aZ));subst SG;simp only at HV gH nL;obtain⟨pa,pc,rfl⟩:∃a c,pv=.slice a x.ps.length c:=by obtain⟨a,c,e,_⟩:=HV;exact⟨a,c,e⟩
    obtain⟨na,nc,rfl⟩:∃a c,nv=.slice a x.ns.length c:=by obtain⟨a,c,e,_⟩:=gH;exact⟨a,c,e⟩
    obtain⟨W1,e1,k1,o1,s1⟩:=dy wr [vI x.ser,vI x.p,vI x.d,.bool x.wk,.bool x.fn,.slice pa x.ps.length pc,.slice na x.ns.length nc,.bool x.fr] 240;have kd:Calm W1 W1.drew:=aq.drew;have Qt:=k1.trans kd;have oo:=OG (m:=⟨x,.slice pa x.ps.length pc,.slice na x.ns.length nc⟩) ((HV.calm cr).calm Qt) ((gH.calm cr).calm Qt) nL.1 nL.2;simp only[eF] at oo gY;have q0:=(gY 0 _ rfl).1;have q1:=(gY 1 _ rfl).1;have q2:=(gY 2 _ rfl).1;have q3:=(gY 3 _ rfl).1;have q4:=(gY 4 _ rfl).1;have q5:=(gY 5 _ rfl).1;have q6:=(gY 6 _ rfl).1;have q7:=(gY 7 _ rfl).1;rw[fj] at q0;have g0:=(og 0 _ rfl).1;have Y5:g<wr.heap.size:=og.lt (by simp);have xd:g8≠g:=J1 g8 (aB.mk.2 rfl);have aaB:g8<wr.heap.size:=(World.ownsRow.lt hM.r g8 (aB.mk.2 rfl)).2;replace HV:=af HV;replace gH:=af gH;replace hM:=af hM;replace N0:=af N0;replace J1:=af J1;replace og:=af og;replace hx:=af hx;replace yR:=af yR;replace hm:=af hm;replace rP:=af rP;replace hlen:=af hlen;clear gY nL;go_upto_region 5 with fail
    clear e1 q0 q1 q2 q3 q4 q5 q6 q7;refine bK [(true,0),(true,1),(true,2),(true,3),(false,4),(true,5),(false,6)] (λw'=>w'.cell? ⟨g,0,none⟩=some (.slice (some ⟨g8,0,none⟩) NM DH)/\ag w' wr.heap.size [vI x.ser,vI x.p,vI x.d,.bool x.wk,.bool x.fn,.slice pa x.ps.length pc,.slice na x.ns.length nc,.bool x.fr]) (by kernel_rfl) (by kernel_rfl) ⟨Qt.cellAt g0 id,o1.calm kd⟩ ?_;refine ao (aR g) rfl rfl (λw' hw'=>?_) ai ?_
    ·simp[go_sem]
    refine ao (.slice (some ⟨g8,0,none⟩) NM DH) rfl rfl (λw' hw'=>?_) ai ?_
    ·simp[go_sem,hw'.1]
    refine ao (vI (i:Int)) rfl rfl (λw' hw'=>?_) ai ?_
    ·simp[go_sem]
    refine ao (.agg #[vI x.ser,vI x.p,vI x.d,.bool x.wk,.bool x.fn,.slice pa x.ps.length pc,.slice na x.ns.length nc,.bool x.fr]) rfl rfl (λw' hw'=>?_) ai ?_
    ·have o:=hw'.2;have y0:=(o 0 _ rfl).1;have y1:=(o 1 _ rfl).1;have y2:=(o 2 _ rfl).1;have y3:=(o 3 _ rfl).1;have y4:=(o 4 _ rfl).1;have y5:=(o 5 _ rfl).1;have y6:=(o 6 _ rfl).1;have y7:=(o 7 _ rfl).1;simp[go_sem,y0,y1,y2,y3,y4,y5,y6,y7]
    refine bg rfl rfl ?_;go_wp2_with fail
    refine oo.mono ?_;rintro e w6 ⟨ZJ,Zx,rfl,WZ,Qh,bp,bn,c6⟩;clear oo;have k6:=Qt.trans c6;have z6:=k6.cellAt g0 id;have o6:=(o1.calm kd).calm c6;have Dm:=az hM.out.r k6 (λ_ _=>id);rw[hlen.out] at Dm;simp only[eF];refine⟨⟨z6,o6⟩,?_⟩;refine ao (.pointer (some ⟨g8,i*8,none⟩)) rfl rfl (λw' hw'=>?_) ai ?_
    ·simp[go_sem,aZ]
    refine bg rfl rfl ?_
    have hz:(eF ⟨x,ZJ,Zx⟩).toArray.all (·.oneCell')=true:=by
     obtain⟨_,_,e1⟩:=aG WZ;obtain⟨_,_,e2⟩:=aG Qh;rw[e1,e2];simp[eF,Value.oneCell']
    refine zK _ _ rfl (z:=⟨x,ZJ,Zx⟩) (by rfl) (by rfl) hz Dm hlen.out aZ ?_;intro w9 Xb f9;have z9:=f9.cellAt z6 (λe=>xd e.symm);have o9:=o6.fr f9 (λe=>by have e:wr.heap.size=g8:=e;omega)
    have dh:Ue W0 ms g (.slice (some ⟨g8,0,none⟩) NM DH) (i+1) w9:=by
     have cy:=hM.out.step (x:=x) (pv:=ZJ) (nv:=Zx) (by rw[hlen.out];exact aZ) (by rw[hlen.out]) k6 WZ Qh (λb hb=>by have:=bp b hb;have:=Qt.size;omega) (λb hb=>⟨by have:=(bn b hb).1;have:=Qt.size;omega,(bn b hb).2⟩) (by have:=cr.size;omega) (by rw[hlen.out];exact Xb) f9;refine⟨ms'.set i ⟨x,ZJ,Zx⟩,?_,λj hj=>?_,cy,λj hj b hb=>?_,J1.out,(og.out.calm k6).fr f9 (λe=>xd e.symm),lg,?_⟩
     ·rw[<-hx.out,List.map_set];have e:(ms'.map (·.x)).getD i jB=x:=(ss (·.x) ms' bV i).trans (by rw[hm.out]);exact xI (by rw[List.length_map,hlen.out];exact aZ) jB e
     ·rw[rH (by omega)];exact yR.out j (by omega)
     ·by_cases e:j=i
      ·subst e;rw[ks (by rw[hlen.out];exact aZ)] at hb
       have h1:W1.drew.heap.size<=b:=by
        rcases hb with hb|hb
        ·exact bp b hb
        ·exact(bn b hb).1
       have:=Qt.size;omega
      ·rw[rH e] at hb;exact N0.out j (by omega) b hb
     ·exact(cr.trans k6).join f9 (λj hj e=>by have h2:=hM.out.v g8 (aB.mk.2 rfl);have e:j=g8:=e;omega)
    replace dh:=af dh;refine⟨⟨z9,o9⟩,fp ?_⟩;clear Xb f9 z9 o9 z6 o6 Dm k6 c6 WZ Qh bp bn hz o1 kd Qt k1 og g0;go_simp;go_wp2_with fail
    exact⟨⟨i+1,by omega,by simp,dh.out⟩,by simp[intOf] <;> omega⟩
   ·have e:i=NM:=by omega
    have hd:decide ((i:Int)<(NM:Int))=false:=decide_eq_false (by omega);obtain⟨g0,g1⟩:=ag.lF og;have XX:=o2.out.calm cr;have Xm:w.heap.size+1<W0.heap.size:=td
    have hP:Hid (∀W,Fr (λk=>k=w.heap.size+1) wr W->YN w (ms.map (·.x)) (.returned (.agg #[v8,.slice none 0 0])) W):=λW f=>
     ⟨v8,ms',rfl,hx,by rw[hlen,<-e];exact hM.fr f (λb hb e=>by omega) (by omega),(k0.out.trans cr).join f (λj hj e=>by omega)⟩
    rw[vV.out] at g0 hP;clear hM N0 J1 og hx yR;replace e:=af e;replace hlen:=af hlen;go_wp2_with (refine il rfl _ _ _ rfl (w.heap.size+1) #[.slice oa NM DH,.slice none 0 0] rfl rfl XX rfl (by kernel_rfl) (by simp[Value.oneCell']) ?_;intro w9 s9 f9;have hQ:=af (hP.out w9 f9);clear f9 hP XX g0 g1)
    exact bodyPost_ret (v:=.agg #[.slice oa NM DH,.slice none 0 0]) (Lb (i:=2) rfl rfl s9) rfl hQ.out
section
theorem bm.ints{w:aj}{v:aC}{l:List Int}{T:Nat->Prop}(h:bm w 0 v l)(hT:∀b,aB v b->T b):cB T w v l:=by
 obtain⟨a,c,e⟩:=h.slice;refine⟨a,c,e,λi hi=>?_⟩;obtain⟨g,c2,e2,_,ho⟩:=h.get hi;have hb:aB v g:=by rw[e2];exact aB.mk.2 rfl
 rw[e] at e2;injection e2 with e3 e4 e5
 exact⟨g,0,e3,hT g hb,by rw[fk];exact ho.1⟩
theorem oV{l:List Int}(h:l.length=6):∃s0 s1 s2 s3 s4 s5:Int,l=[s0,s1,s2,s3,s4,s5]:=by
 match l,h with
 | [a,b,c,d,e,f],_=>exact⟨a,b,c,d,e,f,rfl⟩
theorem pU{l:List Mo}{s k i fresh:Int}(h:cZ l s k i fresh=0)(hk:k≠3):∃j:Nat,gQ l s 0=j/\j<l.length/\(k≠8->i<(if k=6\/k=7 then ((l.getD j jB).ns.length:Int) else ((l.getD j jB).ps.length:Int))):=by
 unfold cZ at h
 by_cases h1:s=0\/gQ l s 0<0
 ·rw[if_pos h1] at h;cases h
 ·rw[if_neg h1,if_neg hk] at h;have hp:=fc s l 0;have h2:¬gQ l s 0<0:=λe=>h1 (.inr e);refine⟨(gQ l s 0).toNat,by omega,by omega,λh8=>?_⟩
  by_cases h3:(l.getD (gQ l s 0).toNat jB).fr=true
  ·rw[if_pos h3] at h;cases h
  ·rw[if_neg h3,if_neg h8] at h
   by_cases h4:(l.getD (gQ l s 0).toNat jB).wk≠(k==9)
   ·rw[if_pos h4] at h;cases h
   ·rw[if_neg h4] at h
    by_cases h5:(if k=6\/k=7 then ((l.getD (gQ l s 0).toNat jB).ns.length:Int) else ((l.getD (gQ l s 0).toNat jB).ps.length:Int))<=i
    ·rw[if_pos h5] at h;cases h
    ·omega
theorem VU{l:List Mo}{R:List Int}{d:Dd}{fresh:Int}(h:CS l R d fresh=0)(hk:d.k=4\/d.k=9):cZ l (R.getD d.b.toNat 0) d.k d.i fresh=0:=by
 unfold CS at h;rw[if_neg (by omega),if_pos (by omega)] at h;exact h
theorem EB{l:List Mo}{R:List Int}{d:Dd}{fresh:Int}(h:CS l R d fresh=0)(hk:d.k=5\/d.k=6\/d.k=7\/d.k=8):cZ l (R.getD d.a.toNat 0) d.k d.i fresh=0:=by
 unfold CS at h;rw[if_neg (by omega),if_neg (by omega),if_pos hk] at h;exact h
theorem M5{l:List Mo}{R:List Int}{d:Dd}{fresh:Int}(h0:CS l R d fresh=0)(hk:d.k=4\/d.k=9){j:Nat}{x:Mo}(hj:gQ l (R.getD d.b.toNat 0) 0=(j:Nat))(ex:l.getD j jB=x):gj l R d fresh=(l,R.set d.a.toNat (x.ps.getD d.i.toNat 0),x.ps.getD d.i.toNat 0,0):=by
 unfold gj;rw[if_neg (λe=>e h0),if_neg (by omega),if_pos hk,hj,Int.toNat_natCast,ex]
theorem IZ{l:List Mo}{R:List Int}{d:Dd}{fresh:Int}(h0:CS l R d fresh=0)(hk:d.k=6){j:Nat}{x:Mo}(hj:gQ l (R.getD d.a.toNat 0) 0=(j:Nat))(ex:l.getD j jB=x):gj l R d fresh=(l,R,x.ns.getD d.i.toNat 0,0):=by
 unfold gj;rw[if_neg (λe=>e h0),if_neg (by omega),if_neg (by omega),if_pos hk,hj,Int.toNat_natCast,ex]
theorem yl{l:List Mo}{R:List Int}{d:Dd}{fresh:Int}(h0:CS l R d fresh=0)(hk:d.k=5\/d.k=7\/d.k=8){j:Nat}{x:Mo}(hj:gQ l (R.getD d.a.toNat 0) 0=(j:Nat))(ex:l.getD j jB=x):gj l R d fresh=(l.set j (Fe d (R.getD d.b.toNat 0) x),R,0,0):=by
 unfold gj;rw[if_neg (λe=>e h0),if_neg (by omega),if_neg (by omega),if_neg (by omega),if_pos hk,hj,Int.toNat_natCast,ex]
theorem Ew{l:List Mo}{R:List Int}{d:Dd}{fresh:Int}(h0:CS l R d fresh=0)(hk:d.k=1\/d.k=2\/d.k=3):gj l R d fresh=(l++[xw d fresh (R.getD d.b.toNat 0)],R.set d.a.toNat fresh,fresh,0):=by
 unfold gj;rw[if_neg (λe=>e h0),if_pos hk]
theorem jh{l:List aC}{k:Nat}{u:aC}(h:l[k]?=some u):l.set k u=l:=by
 obtain⟨hk,e⟩:=List.getElem?_eq_some_iff.1 h;rw[<-e];exact List.set_getElem_self hk
theorem TF{ms:List fW}{j:Nat}(hj:j<ms.length){m:fW}(hm:ms.getD j bV=m):(ms.flatMap eF).set (j*8+7) (.bool true)=(ms.set j ⟨{ m.x with fr:=true },m.pv,m.nv⟩).flatMap eF:=by
 rw[<-jV eF 8 bX ⟨{ m.x with fr:=true },m.pv,m.nv⟩ ms j hj]
 have g:∀t u,t<8->(eF m)[t]?=some u->(ms.flatMap eF)[j*8+t]?=some u:=λt u ht hu=>by
  rw[wQ eF 8 bX bV ms j hj t ht,hm];exact hu
 simp only[eF,kj];rw[jh (k:=j*8) (g 0 _ (by decide) rfl),jh (k:=j*8+1) (g 1 _ (by decide) rfl),jh (k:=j*8+1+1) (g 2 _ (by decide) rfl),jh (k:=j*8+1+1+1) (g 3 _ (by decide) rfl),jh (k:=j*8+1+1+1+1) (g 4 _ (by decide) rfl),jh (k:=j*8+1+1+1+1+1) (g 5 _ (by decide) rfl),jh (k:=j*8+1+1+1+1+1+1) (g 6 _ (by decide) rfl)]
theorem Kq(n:Nat):(madeCells (Value.int .i64 0).cells (n*1)).toList=lu (List.replicate n 0):=by
 rw[Nat.mul_one];apply List.ext_getElem
 ·simp[madeCells,lu]
 ·intro i h1 h2;simp[madeCells,Value.cells,Nat.mod_one,lu]
theorem xj:∃i,prog.info? 3=some i/\i.zero=some (vI 0)/\i.size=1/\i.bytes=8:=by
 have h:(prog.info? 3).map (λi=>(i.zero,i.size,i.bytes))=some (some (vI 0),1,8):=by kernel_rfl
 cases hi:prog.info? 3 with
 | none=>rw[hi] at h;cases h
 | some i=>
   rw[hi] at h;injection h with h
   injection h with h1 h2
   injection h2 with h2 h3
   exact⟨i,rfl,h1,h2,h3⟩
theorem qs{op:Oper}{a:Act}{w:aj}{K:Act->aj->Prop}{Q:Exit->Act->aj->Prop}(x y:Operand)(uw:op.op=.makeSlice 43 x y)(n:Nat)(hn:n<=100)(hx:a.eval x=vI (n:Int))(hy:a.eval y=vI (n:Int))
 (h:∀w',bm w' 0 (.slice (some ⟨w.heap.size,0,none⟩) n n) (List.replicate n 0)->Calm w w'->K (a.put op.dst (.slice (some ⟨w.heap.size,0,none⟩) n n)) w'):op.wp prog a w K Q:=by
 obtain⟨i0,hi,h1,h2,h3⟩:=xj;obtain⟨w',mn,r1,r2⟩:=run_make_full (P:=prog) (w:=w) 0 43 3 i0 (vI 0) 1 Tryz.underlying43 hi h1 h2 .i64 .i64 n (by rw[h3];omega) (by unfold maxLen;omega) (cK _);have hK:=h w' (by unfold bm;rw[List.length_replicate,<-Kq];exact r1) (Fr.grown aq r2 (λk hk=>by cases hk));unfold Oper.wp;simp[execOp,uw,hx,hy,mn,Result.andThen];exact hK
def ZY(w:aj)(r:List Mo × List Int × Int × Int)(en:Ending)(w':aj):Prop:=
 ∃v' ms',en=.returned (.tuple #[.agg #[v',.slice none 0 0],Ip r.2.1,vI r.2.2.1,vI r.2.2.2])/\ms'.map (·.x)=r.1/\bL (λb=>w.heap.size<=b) w' v' ms'/\Calm w w'
section
variable {w w':aj}{lo:Nat}{v:aC}{ms:List fW}
theorem bL.zo{T:Nat->Prop}(h:w.ownsRow 0 240 8 v ms.length (ms.flatMap eF))(hv:∀b,aB v b->T b)(hp:∀j,j<ms.length->cB T w (ms.getD j bV).pv (ms.getD j bV).x.ps/\cB T w (ms.getD j bV).nv (ms.getD j bV).x.ns):bL T w v ms:=by
 obtain⟨a,c,e⟩:=aG h;refine⟨a,c,e,λj hj=>?_⟩;obtain⟨g,c2,e2,hg⟩:=bz (ety:=240) (k:=8) bX (by decide) h bV hj;have hb:aB v g:=by rw[e2];exact aB.mk.2 rfl
 rw[e] at e2;injection e2 with e3 e4 e5
 exact⟨g,0,e3,hv g hb,λi u hu=>by rw[fk];exact(hg i u hu).1,(hp j hj).1,(hp j hj).2⟩
theorem vF.ins(h:vF w lo v ms ms.length):bL (λb=>lo<=b) w v ms:=
 .zo h.r h.v λj hj=>⟨(h.p j hj).ints λb hb=>(h.l j hj b (.inl hb)).1,(h.n j hj).ints λb hb=>(h.l j hj b (.inr hb)).1⟩
theorem vF.dN(h:vF w lo v ms ms.length){j:Nat}(hj:j<ms.length){g:Nat}(hg:aB (ms.getD j bV).pv g\/aB (ms.getD j bV).nv g)(f:Fr (λk=>k=g) w w'){x':Mo}(hc:eF ⟨x',(ms.getD j bV).pv,(ms.getD j bV).nv⟩=eF (ms.getD j bV))(hp:bm w' 0 (ms.getD j bV).pv x'.ps)(hn:bm w' 0 (ms.getD j bV).nv x'.ns):bL (λb=>lo<=b) w' v (ms.set j ⟨x',(ms.getD j bV).pv,(ms.getD j bV).nv⟩):=by
 have hr:w'.ownsRow 0 240 8 v (ms.set j ⟨x',(ms.getD j bV).pv,(ms.getD j bV).nv⟩).length ((ms.set j ⟨x',(ms.getD j bV).pv,(ms.getD j bV).nv⟩).flatMap eF):=by
  have e:(ms.set j ⟨x',(ms.getD j bV).pv,(ms.getD j bV).nv⟩).flatMap eF=ms.flatMap eF:=by
   rw[List.flatMap_def,List.flatMap_def,kR eF bV _ ms j hj hc]
  rw[bE,e];exact az h.r f λb hb e=>(h.l j hj g hg).2 (e ▸ hb)
 refine .zo hr h.v λk hk=>?_;rw[bE] at hk
 by_cases e:k=j
 ·subst e;rw[ks hj];exact⟨hp.ints λb hb=>(h.l k hk b (.inl hb)).1,hn.ints λb hb=>(h.l k hk b (.inr hb)).1⟩
 ·rw[rH e];have jC:∀b,aB (ms.getD k bV).pv b\/aB (ms.getD k bV).nv b->b≠g:=λb hb e2=>h.e k j hk hj e b hb (e2 ▸ hg);exact⟨((h.p k hk).iI f λb hb=>jC b (.inl hb)).ints λb hb=>(h.l k hk b (.inl hb)).1,((h.n k hk).iI f λb hb=>jC b (.inr hb)).ints λb hb=>(h.l k hk b (.inr hb)).1⟩
theorem vF.cell(h:vF w lo v ms ms.length){j:Nat}(hj:j<ms.length){m':fW}(f:Fr (aB v) w w')(hr:w'.ownsRow 0 240 8 v ms.length ((ms.set j m').flatMap eF))(e1:m'.pv=(ms.getD j bV).pv/\m'.nv=(ms.getD j bV).nv/\m'.x.ps=(ms.getD j bV).x.ps/\m'.x.ns=(ms.getD j bV).x.ns):bL (λb=>lo<=b) w' v (ms.set j m'):=by
 refine .zo (by rw[bE];exact hr) h.v λk hk=>?_;rw[bE] at hk
 have key:cB (λb=>lo<=b) w' (ms.getD k bV).pv (ms.getD k bV).x.ps/\cB (λb=>lo<=b) w' (ms.getD k bV).nv (ms.getD k bV).x.ns:=
  ⟨((h.p k hk).iI f λb hb e=>(h.l k hk b (.inl hb)).2 e).ints λb hb=>(h.l k hk b (.inl hb)).1,((h.n k hk).iI f λb hb e=>(h.l k hk b (.inr hb)).2 e).ints λb hb=>(h.l k hk b (.inr hb)).1⟩
 by_cases e:k=j
 ·subst e;rw[ks hj,e1.1,e1.2.1,e1.2.2.1,e1.2.2.2];exact key
 ·rw[rH e];exact key
theorem vF.more{T:Nat->Prop}(h:vF w lo v ms ms.length){v':aC}{m:fW}(f:Fr (aB v) w w')(hr:w'.ownsRow 0 240 8 v' (ms.length+1) (ms.flatMap eF++eF m))(hv:∀b,aB v' b->T b)(ho:∀k,k<ms.length->∀b,aB (ms.getD k bV).pv b\/aB (ms.getD k bV).nv b->T b)(hp:cB T w' m.pv m.x.ps)(hn:cB T w' m.nv m.x.ns):bL T w' v' (ms++[m]):=by
 refine .zo (by rw[cX,List.flatMap_append];simpa using hr) hv λk hk=>?_;rw[cX,List.length_singleton] at hk
 by_cases e:k<ms.length
 ·rw[P1 e];exact⟨((h.p k e).iI f λb hb e2=>(h.l k e b (.inl hb)).2 e2).ints λb hb=>ho k e b (.inl hb),((h.n k e).iI f λb hb e2=>(h.l k e b (.inr hb)).2 e2).ints λb hb=>ho k e b (.inr hb)⟩
 ·have:k=ms.length:=by omega
  subst this;rw[Rw];exact⟨hp,hn⟩
end
end
section
section
variable {P:Program}{ops:Array Oper}{Q:Exit->Act->aj->Prop}{md:Region.Mode}{S:aj->Prop}
def gM(md:Region.Mode)(ops:Array Oper)(n:Nat):Bool->Nat->Way->Array Bool->Bool
 | true,f,.fin,done=>decide (f=0) && Region.seqB md ops (ops.size-n) n done
 | true,f,.read i k,done=>decide (0<f) && (Region.ready md ops done).contains i && Region.free md ops done i && decide (i<n) && gM md ops n true (f-1) k (done.setIfInBounds i true)
 | true,f,.any c,done=>decide (0<f) && decide (Region.ready md ops done=c.iu) && decide (c.iu≠[]) && gM md ops n false (f-1) c done
 | false,f,.alt j k r,done=>decide (j<n) && gM md ops n true f k (done.setIfInBounds j true) && gM md ops n false f r done
 | false,_,.stop,_=>true
 | _,_,_,_=>false
theorem xP{R:Act->aj->Prop}{n f:Nat} : ∀ (c:Way) (done:Array Bool) (a:Act) (w:aj),gM md ops n false f c done=true->fA P ops Q S R c a w->∀i∈c.iu,
 ∃k,i<n/\gM md ops n true f k (done.setIfInBounds i true)=true/\k.sz<c.sz/\∃o,ops[i]?=some o/\Region.wanted o (yielded ops a.tmps)=true/\o.wp P a w (λa' w'=>S w'/\fA P ops Q S R k a' w') Q
 | .fin,_,_,_,_,_,i,hi=>by simp[Way.iu] at hi
 | .read _ _,_,_,_,_,_,i,hi=>by simp[Way.iu] at hi
 | .any _,_,_,_,_,_,i,hi=>by simp[Way.iu] at hi
 | .stop,_,_,_,_,_,i,hi=>by simp[Way.iu] at hi
 | .alt j k r,done,a,w,hB,h,i,hi=>by
   simp only[gM,wj,decide_eq_true_eq] at hB;rcases f_.1 (show i∈j::r.iu from hi) with rfl|hi
   ·exact⟨k,hB.1.1,hB.1.2,by simp[Way.sz];omega,h.1⟩
   ·obtain⟨k',h1,h2,h3,h4⟩:=xP r done a w hB.2 h.2 i hi;exact⟨k',h1,h2,by simp[Way.sz];omega,h4⟩
theorem Ea{R:Act->aj->Prop}{n:Nat}(eI:Region.noSelect ops=true)(tw:tU md ops n) :
 ∀ (m:Nat) (c:Way),c.sz<=m->∀ (f:Nat) (done:Array Bool) (a:Act) (w:aj),HeadInv md ops n done->gM md ops n true f c done=true->S w->fA P ops Q S R c a w ->
   dX P md ops Q S n (λd a w=>Region.seqB md ops (ops.size-n) n d=true/\R a w) f done a w:=by
 intro m
 induction m with
 | zero=>intro c hc;cases c <;> simp[Way.sz] at hc
 | succ m ih=>
   intro c hc f done a w inv hB hS h
   cases c with
   | stop=>simp[gM] at hB
   | alt j k r=>simp[gM] at hB
   | fin=>
     simp only[gM,wj,decide_eq_true_eq] at hB;obtain⟨rfl,hB⟩:=hB;exact⟨hB,h⟩
   | read i k=>
     obtain⟨o,v,ho,hy,hQ,h⟩:=h;simp only[gM,wj,decide_eq_true_eq] at hB;obtain⟨⟨⟨⟨h0,hr⟩,hf⟩,gH⟩,yv⟩:=hB;obtain⟨f,rfl⟩:∃g,f=g+1:=⟨f-1,by omega⟩;have ux:i∈Region.ready md ops done:=by simpa using hr
     refine kV ho (Region.noSelect_spec eI) tw gH hQ (λuf a' w' hL=>seqB_ready hL.1) _ done a w inv (Region.free_spec ho hf) ux hy hS ?_;exact ih k (by simp[Way.sz] at hc;omega) f _ _ w (inv.set ux gH) yv hS h
   | any c=>
     simp only[gM,wj,decide_eq_true_eq] at hB;obtain⟨⟨⟨h0,hr⟩,hne⟩,yv⟩:=hB;obtain⟨f,rfl⟩:∃g,f=g+1:=⟨f-1,by omega⟩;refine⟨λh1=>hne (by rw[<-hr,h1]),λi hi=>?_⟩;have sZ:=hi;rw[hr] at hi;obtain⟨k,h1,h2,h3,o,ho,hw,hwp⟩:=xP c done a w yv h i hi;refine⟨h1,?_⟩;unfold wpOp;simp only[ho,hw,if_true];exact .inl (Oper.wp_mono (λa' w' h'=>⟨h'.1,ih k (by simp[Way.sz] at hc;omega) f _ a' w' (inv.set sZ h1) h2 h'.1 h'.2⟩) hwp)
end
theorem iG{P:Program}{id:Nat}{Q:Exit->Act->aj->Prop}{a:Act}{w:aj}{l:List Oper}(c:Way)(n:Nat)(S:aj->Prop)(hm:P.follows .mixedOrders=true)
 (hB:(Region.noSelect l.toArray && decide (n<l.toArray.size) && wT .any l.toArray n && gM .any l.toArray n true n c (Array.replicate l.toArray.size false))=true) (hS:S w.drew)
 (h:fA P l.toArray Q S (λa' w'=>wpList P l.toArray Q (l.drop n) a' w') c a w.drew):(Code.region id l.toArray true).wp P Q a w:=by
 simp only[wj,decide_eq_true_eq] at hB;obtain⟨⟨⟨eI,hn⟩,hg⟩,hp⟩:=hB
 have qW:HeadInv .any l.toArray n (Array.replicate l.toArray.size false):=
  ⟨by simp,λj oj _ hl=>(by rw[getD_replicate_false] at hl;cases hl),λt _ ht=>getD_in (by simpa using ht) (getD_replicate_false _ _)⟩
 have H:=Ea (P:=P) (Q:=Q) (S:=S) (R:=λa' w'=>wpList P l.toArray Q (l.drop n) a' w') eI (uj hg) _ c (aM _) _ _ a w.drew qW hp hS h;have P_:(l.drop n).length=l.toArray.size-n:=by simp
 have:=cU (Q:=Q) (g:=l.toArray.size-n) (λdone a' w' hL=>by
  have:=wpAny_of_seq (Q':=Q) (l.drop n) n done a' w' (λj=>by simp) (by rw[P_];exact hL.1) hL.2
  rwa [P_] at this) _ _ _ _ H
 rw[Nat.add_sub_cancel' (Nat.le_of_lt hn)] at this;exact wp_region_any hm this
end
