/- TopMemory: a part of its proof (PrD Grw Hw2 Log Log2). -/
import Derived.Deep.RegionHeld3
import Derived.Deep.RegionLaw
import Derived.Deep.DrawnRows
import Derived.Test.YtdffnjikmkgjkaaGreatTmAA
import Derived.Test.YtdffnjikmkgjkaaGreatTmAI
import Derived.Test.YtdffnjikmkgjkaaGreatTmAD
set_option linter.unusedSimpArgs false
set_option linter.unusedVariables false
set_option maxHeartbeats 4000000
namespace Go.Proofs.YtdffnjikmkgjkaaGreat
section
open Go.RowKit Go.Shelf
def DdsIn (T:Nat→Prop)(w:World)(v:Value)(l:List Dd):Prop:=
  ∃a c,v = .slice a l.length c∧∀i,i<l.length→∃g o,a=some ⟨g,o,none⟩∧T g∧∀j u,(ddC (l.getD i dD))[j]?=some u→w.cell? ⟨g,o+i*5+j,none⟩=some u
def BlkIn (T:Nat→Prop)(w:World)(v:Value)(P:List (List Dd)):Prop:=
  ∃a c,v = .slice a P.length c∧∀i,i<P.length→∃g o u,a=some ⟨g,o,none⟩∧T g∧w.cell? ⟨g,o+i,none⟩=some u∧DdsIn T w u (P.getD i [])
def PrgIn (T:Nat→Prop)(w:World)(v:Value)(Q:List (List (List Dd))):Prop:=
  ∃a c,v = .slice a Q.length c∧∀i,i<Q.length→∃g o u,a=some ⟨g,o,none⟩∧T g∧w.cell? ⟨g,o+i,none⟩=some u∧BlkIn T w u (Q.getD i [])
theorem DdsIn.fr {T S:Nat→Prop}{w w':World}{v:Value}{l:List Dd}(h:DdsIn T w v l)(f:Fr S w w')(hs:∀b,T b→¬S b):DdsIn T w' v l:=by
  obtain⟨a,c,hv,h⟩:=h;refine⟨a,c,hv,fun i hi=>?_⟩;obtain⟨g,o,e,t,hc⟩:=h i hi;exact⟨g,o,e,t,fun j u hu=>f.cellAt (hc j u hu) (hs g t)⟩
theorem BlkIn.fr {T S:Nat→Prop}{w w':World}{v:Value}{l:List (List Dd)}(h:BlkIn T w v l)(f:Fr S w w')(hs:∀b,T b→¬S b):BlkIn T w' v l:=by
  obtain⟨a,c,hv,h⟩:=h;refine⟨a,c,hv,fun i hi=>?_⟩;obtain⟨g,o,u,e,t,hc,hd⟩:=h i hi;exact⟨g,o,u,e,t,f.cellAt hc (hs g t),hd.fr f hs⟩
theorem PrgIn.fr {T S:Nat→Prop}{w w':World}{v:Value}{l:List (List (List Dd))}(h:PrgIn T w v l)(f:Fr S w w')(hs:∀b,T b→¬S b):PrgIn T w' v l:=by
  obtain⟨a,c,hv,h⟩:=h;refine⟨a,c,hv,fun i hi=>?_⟩;obtain⟨g,o,u,e,t,hc,hd⟩:=h i hi;exact⟨g,o,u,e,t,f.cellAt hc (hs g t),hd.fr f hs⟩
theorem DdsIn.calm {T:Nat→Prop}{w w':World}{v:Value}{l:List Dd}(h:DdsIn T w v l)(f:Calm w w'):DdsIn T w' v l:=h.fr f fun _ _=>id
theorem BlkIn.calm {T:Nat→Prop}{w w':World}{v:Value}{l:List (List Dd)}(h:BlkIn T w v l)(f:Calm w w'):BlkIn T w' v l:=h.fr f fun _ _=>id
theorem DdsIn.mono {T T':Nat→Prop}{w:World}{v:Value}{l:List Dd}(h:DdsIn T w v l)(ht:∀b,b<w.heap.size→T b→T' b):DdsIn T' w v l:=by
  obtain⟨a,c,hv,h⟩:=h;refine⟨a,c,hv,fun i hi=>?_⟩;obtain⟨g,o,e,t,hc⟩:=h i hi;exact⟨g,o,e,ht g (World.block_lt_of_cell? w ⟨g,o+i*5+0,none⟩ (hc 0 _ rfl)) t,hc⟩
theorem BlkIn.mono {T T':Nat→Prop}{w:World}{v:Value}{l:List (List Dd)}(h:BlkIn T w v l)(ht:∀b,b<w.heap.size→T b→T' b):BlkIn T' w v l:=by
  obtain⟨a,c,hv,h⟩:=h;refine⟨a,c,hv,fun i hi=>?_⟩;obtain⟨g,o,u,e,t,hc,hd⟩:=h i hi;exact⟨g,o,u,e,ht g (World.block_lt_of_cell? w ⟨g,o+i,none⟩ hc) t,hc,hd.mono ht⟩
theorem PrgIn.mono {T T':Nat→Prop}{w:World}{v:Value}{l:List (List (List Dd))}(h:PrgIn T w v l)(ht:∀b,b<w.heap.size→T b→T' b):PrgIn T' w v l:=by
  obtain⟨a,c,hv,h⟩:=h;refine⟨a,c,hv,fun i hi=>?_⟩;obtain⟨g,o,u,e,t,hc,hd⟩:=h i hi;exact⟨g,o,u,e,ht g (World.block_lt_of_cell? w ⟨g,o+i,none⟩ hc) t,hc,hd.mono ht⟩
structure POk (Q:List (List (List Dd))):Prop where
  n:1≤Q.length∧Q.length≤4
  b:∀t,t<Q.length→(Q.getD t []).length≤3
  d:∀t,t<Q.length→∀b,b<(Q.getD t []).length→1≤((Q.getD t []).getD b []).length∧((Q.getD t []).getD b []).length≤6
  r:∀t,t<Q.length→∀b,b<(Q.getD t []).length→∀d∈(Q.getD t []).getD b [],d.Rt
end
section
open Go.RowKit Go.Shelf
theorem giD:GI 40 43 5:=by
  obtain⟨i0,hi,hz0,hz1,hz2⟩:=info_parts (show(Tryz.prog.info? 43).map (fun i=>(i.zero,i.size,i.bytes))=some (some (.agg #[vI 0,vI 0,vI 0,vI 0,vI 0]),5,40) by kernel_rfl);exact⟨Tryz.underlying40,i0,_,_,hi,hz0,hz1,hz2,rfl,by decide,by decide⟩
theorem giB:GI 41 40 1:=by
  obtain⟨i0,hi,hz0,hz1,hz2⟩:=info_parts (show(Tryz.prog.info? 40).map (fun i=>(i.zero,i.size,i.bytes))=some (some (.slice none 0 0),1,24) by kernel_rfl);exact⟨Tryz.underlying41,i0,_,_,hi,hz0,hz1,hz2,rfl,by decide,by decide⟩
theorem giQ:GI 22 41 1:=by
  obtain⟨i0,hi,hz0,hz1,hz2⟩:=info_parts (show(Tryz.prog.info? 41).map (fun i=>(i.zero,i.size,i.bytes))=some (some (.slice none 0 0),1,24) by kernel_rfl);exact⟨Tryz.underlying22,i0,_,_,hi,hz0,hz1,hz2,rfl,by decide,by decide⟩
structure InLaw {α:Type}(In:(Nat→Prop)→World→Value→α→Prop):Prop where
  fr:∀ {T S:Nat→Prop} {w w':World} {v:Value} {l:α},In T w v l→Fr S w w'→(∀b,T b→¬S b)→In T w' v l
  mono:∀ {T T':Nat→Prop} {w:World} {v:Value} {l:α},In T w v l→(∀b,b<w.heap.size→T b→T' b)→In T' w v l
theorem ilD:InLaw DdsIn:=⟨fun h f s=>h.fr f s,fun h m=>h.mono m⟩
theorem ilB:InLaw BlkIn:=⟨fun h f s=>h.fr f s,fun h m=>h.mono m⟩
def RIn {α:Type}(In:(Nat→Prop)→World→Value→α→Prop)(d:α)(T:Nat→Prop)(w:World)(v:Value)(P:List α):Prop:=
  ∃a c,v = .slice a P.length c∧∀i,i<P.length→∃g o u,a=some ⟨g,o,none⟩∧T g∧w.cell? ⟨g,o+i,none⟩=some u∧In T w u (P.getD i d)
def GRow {α:Type}(In:(Nat→Prop)→World→Value→α→Prop)(d:α)(ety:TypeId)(T:Nat→Prop)(w:World)(u:Value)(P:List α):Prop:=
  ∃us:List Value,w.ownsRow 0 ety 1 u P.length us∧(∀b,InB u b→T b)∧∀i,i<P.length→In (fun b=>T b∧¬InB u b) w (us.getD i .nilFunc) (P.getD i d)
section
variable {α:Type}{In:(Nat→Prop)→World→Value→α→Prop}{d:α}{sty ety:TypeId}{T:Nat→Prop}{w w':World}{u:Value}{P:List α}
theorem GRow.nil (w:World):GRow In d ety T w (.slice none 0 0) []:=⟨[],⟨by simp,.inl ⟨rfl,rfl⟩⟩,fun b h=>absurd h (InB.nil b),fun i h=>absurd h (Nat.not_lt_zero i)⟩
theorem GRow.fr (L:InLaw In)(h:GRow In d ety T w u P){S:Nat→Prop}(f:Fr S w w')(hs:∀b,T b→¬S b):GRow In d ety T w' u P:=by
  obtain⟨us,h1,h2,h3⟩:=h;exact⟨us,owns_frB h1 f (fun b hb=>hs b (h2 b hb)),h2,fun i hi=>L.fr (h3 i hi) f (fun b hb=>hs b hb.1)⟩
theorem GRow.calm (L:InLaw In)(h:GRow In d ety T w u P)(c:Calm w w'):GRow In d ety T w' u P:=h.fr L c fun _ _=>id
theorem GRow.rin (L:InLaw In)(h:GRow In d ety T w u P):RIn In d T w u P:=by
  obtain⟨us,h1,h2,h3⟩:=h;obtain⟨a,c,hv⟩:=owns_slice h1;refine⟨a,c,hv,fun i hi=>?_⟩;obtain⟨g,c',hv',hc⟩:=owns_get h1 (by decide) hi;rw[hv] at hv';injection hv' with e1 e2 e3
  refine⟨g,0,us.getD i .nilFunc,e1,h2 g (by rw[hv,e1];exact InB.mk.2 rfl),?_,L.mono (h3 i hi) (fun b _ hb=>hb.1)⟩;have:=(hc 0 (by decide)).1;simpa using this
theorem GRow.slice (h:GRow In d ety T w u P):∃a c,u = .slice a P.length c:=by
  obtain⟨us,h1,h2,h3⟩:=h;exact owns_slice h1
theorem wpList_appR (G:GI sty ety 1)(L:InLaw In){ops:Array Oper}{rest:List Oper}{o:Oper}{a:Act}{Q:Exit→Act→World→Prop}(hgd:o.guard=none)(s x:Operand)
    (ho:o.op = .call { callee:=.builtin .append,args:=#[s,x],argTypes:=#[sty,sty] })
    (v:Value) (P:List α) (h:GRow In d ety T w v P) (hs:a.eval s=v) (y:Value) (l:α) (nb c:Nat) (hx:a.eval x = .slice (some ⟨nb,0,none⟩) 1 c) (hc:w.cell? ⟨nb,0,none⟩=some y) (h1:y.oneCell'=true)
    (hy:In (fun b=>T b∧¬InB v b) w y l) (hT:∀b,w.heap.size≤b→T b) (hl:P.length≤1000000)
    (k:∀g c w',GRow In d ety T w' (.slice (some ⟨g,0,none⟩) (P.length+1) c) (P++[l])→Fr (InB v) w w'→wpList Tryz.prog ops Q rest (a.put o.dst (.slice (some ⟨g,0,none⟩) (P.length+1) c)) w') :
    wpList Tryz.prog ops Q (o::rest) a w:=by
  obtain⟨us,h2,h3,h4⟩:=h;refine wpList_appG G hgd s x ho v P.length us h2 hs [y] rfl (by simpa using h1) ⟨nb,0,none⟩ c hx (fun j u hj=>?_) hl ?_
  · match j,hj with
    | 0,hj=>
      rw[addr_at];simp only[Nat.add_zero];rw[hc];simpa using hj
  intro g c' w' ho' f hg;have hul:us.length=P.length:=by have:=owns_len h2;simpa using this
  have hT':∀b,b<w.heap.size→T b∧¬InB v b→T b∧¬InB (.slice (some ⟨g,0,none⟩) (P.length+1) c') b:=fun b hb hh=>⟨hh.1,fun e=>by
    obtain rfl:=InB.mk1 e;rcases hg with hg|hg
    · exact hh.2 hg
    · omega⟩
  refine k g c' w' ⟨us++[y],by rw[List.length_append];exact ho',fun b hb=>?_,fun i hi=>?_⟩ f
  · obtain rfl:=InB.mk1 hb;rcases hg with hg|hg
    · exact h3 _ hg
    · exact hT _ (by omega)
  · rw[List.length_append] at hi;have hi:i<P.length+1:=hi
    by_cases e:i<P.length
    · have e1:(us++[y]).getD i .nilFunc=us.getD i .nilFunc:=by
        rw[List.getD_eq_getElem?_getD,List.getD_eq_getElem?_getD,List.getElem?_append_left (by omega)]
      have e2:(P++[l]).getD i d=P.getD i d:=by
        rw[List.getD_eq_getElem?_getD,List.getD_eq_getElem?_getD,List.getElem?_append_left e]
      rw[e1,e2];exact L.fr (L.mono (h4 i e) (fun b hb hh=>(⟨hT' b hb hh,hh.2⟩:(T b∧¬InB (.slice (some ⟨g,0,none⟩) (P.length+1) c') b)∧¬InB v b))) f (fun b hb=>hb.2) |> fun q=>L.mono q (fun b _ hh=>hh.1)
    · have hie:i=P.length:=by omega
      have e1:(us++[y]).getD i .nilFunc=y:=by
        rw[List.getD_eq_getElem?_getD,List.getElem?_append_right (by omega)];simp[hie,hul]
      have e2:(P++[l]).getD i d=l:=by
        rw[List.getD_eq_getElem?_getD,List.getElem?_append_right (by omega)];simp[hie]
      rw[e1,e2];exact L.fr (L.mono hy (fun b hb hh=>(⟨hT' b hb hh,hh.2⟩:(T b∧¬InB (.slice (some ⟨g,0,none⟩) (P.length+1) c') b)∧¬InB v b))) f (fun b hb=>hb.2) |> fun q=>L.mono q (fun b _ hh=>hh.1)
end
def DRow (T:Nat→Prop)(w:World)(v:Value)(ds:List Dd):Prop:=w.ownsRow 0 43 5 v ds.length (ds.flatMap ddC)∧∀b,InB v b→T b
theorem DRow.nil (T:Nat→Prop)(w:World):DRow T w (.slice none 0 0) []:=⟨⟨by simp,.inl ⟨rfl,rfl⟩⟩,fun b h=>absurd h (InB.nil b)⟩
theorem DRow.calm {T:Nat→Prop}{w w':World}{v:Value}{ds:List Dd}(h:DRow T w v ds)(c:Calm w w'):DRow T w' v ds:=⟨owns_frB h.1 c (fun _ _=>id),h.2⟩
theorem DRow.rin {T:Nat→Prop}{w:World}{v:Value}{ds:List Dd}(h:DRow T w v ds):DdsIn T w v ds:=by
  obtain⟨a,c,hv⟩:=owns_slice h.1;refine⟨a,c,hv,fun i hi=>?_⟩;obtain⟨g,c',hv',hg⟩:=rows_get ddC_len (by decide) h.1 dD hi;rw[hv] at hv';injection hv' with e1 e2 e3
  exact⟨g,0,e1,h.2 g (by rw[hv,e1];exact InB.mk.2 rfl),fun j u hu=>by have:=(hg j u hu).1;simpa using this⟩
theorem DRow.slice {T:Nat→Prop}{w:World}{v:Value}{ds:List Dd}(h:DRow T w v ds):∃a c,v = .slice a ds.length c:=owns_slice h.1
theorem cell_row_new2 (w:World)(ys:List Value)(t:TypeId):∀j u,ys[j]?=some u→(w.alloc (.cells ys.toArray t)).cell? ((⟨w.heap.size,0,none⟩:Addr).add j)=some u:=by
  intro j u hj;rw[show((⟨w.heap.size,0,none⟩:Addr).add j)=⟨w.heap.size,j,none⟩ by rw[addr_at];simp];rw[World.cell?_alloc_new];simpa using hj
theorem GRow.lt {α:Type}{In:(Nat→Prop)→World→Value→α→Prop}{d:α}{ety:TypeId}{T:Nat→Prop}{w:World}{u:Value}{P:List α}(h:GRow In d ety T w u P){b:Nat}(hb:InB u b):b<w.heap.size:=by
  obtain⟨us,h1,h2,h3⟩:=h;exact(World.ownsRow.lt h1 b hb).2
theorem GRow.own {α:Type}{In:(Nat→Prop)→World→Value→α→Prop}{d:α}{ety:TypeId}{T:Nat→Prop}{w:World}{u:Value}{P:List α}(h:GRow In d ety T w u P){b:Nat}(hb:InB u b):T b:=by
  obtain⟨us,h1,h2,h3⟩:=h;exact h2 b hb
end
section
open Go.RowKit Go.Shelf
noncomputable def nr (f:Ob→Nat)(A:HS)(a:Nat):Nat:=open Classical in if h:∃o,(a,o)∈A.cur then f h.choose else 0
theorem nr_of {f:Ob→Nat}{A:HS}(hw:HW A){i a:Nat}{o:Ob}(c:CurAt A i a o):nr f A a=f o:=by
  unfold nr;have h:∃o,(a,o)∈A.cur:=⟨o,c.mem'⟩;rw[dif_pos h];have:=hw.wf.plC _ h.choose_spec _ c.mem' rfl;have e:h.choose=o:=congrArg Prod.snd this;rw[e]
theorem nr_no {f:Ob→Nat}{A:HS}{a:Nat}(h:a∉plc A.cur):nr f A a=0:=by
  unfold nr;rw[dif_neg];rintro ⟨o,ho⟩;exact h (List.mem_map.2 ⟨_,ho,rfl⟩)
theorem nr_upd {f:Ob→Nat}{A:HS}{X:List Nat}(hw:HW A){i a:Nat}{o o':Ob}(c:CurAt A i a o)(hw':HW (A.upd i o'))(p:Nat)(h:p=a→f o'=f o):nr f (A.upd i o') p=nr f A p:=by
  rcases cur_cases A p with ⟨j,u,d⟩|hm
  · have:=CurAt.upd (u':=o') d c;rw[nr_of hw' this,nr_of hw d]
    by_cases e:j=i
    · subst e;rw[if_pos rfl];have e1:(p,u)=(a,o):=by rw[←d.get,←c.get]
      obtain⟨e2,e3⟩:=Prod.mk.inj e1;rw[h e2,e3]
    · rw[if_neg e]
  · rw[nr_no hm,nr_no (by rw[plc_upd];exact hm)]
theorem nr_upd_self {f:Ob→Nat}{A:HS}{i a:Nat}{o o':Ob}(c:CurAt A i a o)(hw':HW (A.upd i o')):nr f (A.upd i o') a=f o':=by
  have:=CurAt.upd (u':=o') c c;rw[if_pos rfl] at this;exact nr_of hw' this
structure Still (P:Nat→Prop)(A A':HS):Prop where
  pl:plc A'.cur=plc A.cur
  sr:∀p,nr Ob.ser A' p=nr Ob.ser A p
  sn:∀p,¬P p→nr Ob.snd A' p=nr Ob.snd A p
  room:A'.room=A.room
  n:A'.n=A.n
  ser:A'.ser=A.ser
  mv:A'.mv=A.mv
theorem Still.refl (P:Nat→Prop)(A:HS):Still P A A:=⟨rfl,fun _=>rfl,fun _ _=>rfl,rfl,rfl,rfl,rfl⟩
theorem Still.trans {P:Nat→Prop}{A B C:HS}(h:Still P A B)(k:Still P B C):Still P A C:=
  ⟨k.pl.trans h.pl,fun p=>(k.sr p).trans (h.sr p),fun p hp=>(k.sn p hp).trans (h.sn p hp),k.room.trans h.room,k.n.trans h.n,k.ser.trans h.ser,k.mv.trans h.mv⟩
theorem Still.mono {P Q:Nat→Prop}{A B:HS}(h:Still P A B)(hq:∀p,P p→Q p):Still Q A B:=⟨h.pl,h.sr,fun p hp=>h.sn p (fun e=>hp (hq p e)),h.room,h.n,h.ser,h.mv⟩
theorem Still.upd {P:Nat→Prop}{A:HS}{X:List Nat}(hw:HW A){i a:Nat}{o o':Ob}(c:CurAt A i a o)(hs:SameK o o')(hw':HW (A.upd i o'))(hn:o'.snd=o.snd∨P a):Still P A (A.upd i o'):=by
  refine⟨plc_upd _ _ _,fun p=>nr_upd (X:=X) hw c hw' p (fun _=>hs.2.2.2.2),fun p hp=>nr_upd (X:=X) hw c hw' p (fun e=>?_),?_,rfl,rfl,rfl⟩
  · rcases hn with h|h
    · exact h
    · exact absurd (e ▸ h) hp
  · have:=tookC_upd c hs;unfold HS.room;rw[this];rfl
structure Grow (A A':HS):Prop where
  pl:∀p∈plc A.cur,p∈plc A'.cur
  sr:∀p∈plc A.cur,nr Ob.ser A' p=nr Ob.ser A p
  sn:∀p∈plc A.cur,nr Ob.snd A' p=nr Ob.snd A p
  n:A'.n=A.n
  ser:A'.ser=A.ser
  mv:A'.mv=A.mv
theorem Grow.refl (A:HS):Grow A A:=⟨fun _ h=>h,fun _ _=>rfl,fun _ _=>rfl,rfl,rfl,rfl⟩
theorem Still.grow {P:Nat→Prop}{A A':HS}(h:Still P A A')(hP:∀p,¬P p):Grow A A':=⟨fun p hp=>by rw[h.pl];exact hp,fun p _=>h.sr p,fun p _=>h.sn p (hP p),h.n,h.ser,h.mv⟩
theorem Grow.trans {A B C:HS}(h:Grow A B)(k:Grow B C):Grow A C:=
  ⟨fun p hp=>k.pl p (h.pl p hp),fun p hp=>(k.sr p (h.pl p hp)).trans (h.sr p hp),fun p hp=>(k.sn p (h.pl p hp)).trans (h.sn p hp),k.n.trans h.n,k.ser.trans h.ser,k.mv.trans h.mv⟩
theorem Grow.goes {A A':HS}(hw:HW A)(hw':HW A'){p q:Nat}(g:Goes A p A' q):Grow A A':=by
  have hs:=g.same
  have hc:∀x∈plc A.cur,∃i o,CurAt A i x o∧CurAt A' i x o:=fun x hx=>by
    obtain⟨i,o,c⟩:=CurAt.of_mem hx;exact⟨i,o,c,g.cur c⟩
  refine⟨fun x hx=>?_,fun x hx=>?_,fun x hx=>?_,hs.1,hs.2.2.2.2.1,hs.2.2.1⟩
  · obtain⟨i,o,_,d⟩:=hc x hx;exact d.mem
  · obtain⟨i,o,c,d⟩:=hc x hx;rw[nr_of hw' d,nr_of hw c]
  · obtain⟨i,o,c,d⟩:=hc x hx;rw[nr_of hw' d,nr_of hw c]
theorem goes_le {A A':HS}{X X':List Nat}(h:HRep A X)(h':HRep A' X'){p q:Nat}(hp:p≤131072)(g:Goes A p A' q):q≤131072:=by
  cases g with
  | stay h=>exact hp
  | gone c=>exact h.plc_le (OldAt.gone_cur h c)
  | move c=>exact h'.plc_le (by rw[move_plc'];simp)
theorem goesL_le {A A':HS}{X:List Nat}(h:HRep A X){l l':List Nat}(g:GoesL A l A' l')(hl:∀p∈l,p≤131072):∀q∈l',q≤131072:=by
  induction g with
  | nil=>intro q hq;cases hq
  | snoc h0 g0 ih=>
    intro q hq;rcases List.mem_append.1 hq with hq|hq
    · exact ih (fun p hp=>hl p (List.mem_append.2 (.inl hp))) q hq
    · rw[List.mem_singleton.1 hq];obtain⟨X1,h1⟩:=h0.rep h;obtain⟨X2,h2⟩:=g0.rep h1;exact goes_le h1 h2 (hl _ (List.mem_append.2 (.inr (List.mem_singleton.2 rfl)))) g0
section
variable {w:World}{B:HB}{A:HS}{X:List Nat}
theorem hsecond_no (h:HAt w B A X){a:Int}(ha:I64 a)(hm:a∉nI (plc A.cur)) :
    Calls Tryz.prog 178 #[hpV B,vI a] w fun e w'=>e = .returned (.tuple #[wV 0,vI 70])∧Calm w w':=by
  have hh:=hid (here_no h ha hm);clear h;go_enter Tryz.func178,Tryz.ntmps178;go_wp2_with fail
  refine(hh.out).mono ?_;rintro e w1 ⟨rfl,c1⟩;go_wp2
  go_ret2
  exact⟨rfl,c1⟩
theorem hsecond_yes (h:HAt w B A X){i a:Nat}{o:Ob}(c:CurAt A i a o) :
    Calls Tryz.prog 178 #[hpV B,vI a] w fun e w'=>e = .returned (.tuple #[wV o.snd,vI 0])∧Calm w w':=by
  have hh:=hid (here_yes h c.mem (c.le h.rep));have y0:=(h.own (i:=0) (v:=arV B.ap) rfl).1;have ha:=hid (c.at_ h.rep);have H:=hid h;clear h;go_enter Tryz.func178,Tryz.ntmps178;go_wp2_with fail
  refine(hh.out).mono ?_;rintro e w1 ⟨rfl,c1⟩;replace y0:=c1.cellAt y0 id;replace H:=hid (H.out.calm c1);go_wp2_with fail
  refine(at_second H.out.ar ha.out).mono ?_;rintro e w2 ⟨rfl,c2⟩;go_wp2
  go_ret2
  exact⟨rfl,c1.trans c2⟩
theorem hsecond_any (h:HAt w B A X)(hw:HW A){a:Nat}(ha:a≤131072) :
    Calls Tryz.prog 178 #[hpV B,vI a] w fun e w'=>(∃x:Int,e = .returned (.tuple #[wV (nr Ob.snd A a),vI x]))∧Calm w w':=by
  rcases cur_cases A a with ⟨i,o,c⟩|hm
  · exact(hsecond_yes h c).mono (fun e w' ⟨h1,h2⟩=>⟨⟨0,by rw[h1,nr_of hw c]⟩,h2⟩)
  · exact(hsecond_no h (i64N ha) (not_nI hm)).mono (fun e w' ⟨h1,h2⟩=>⟨⟨70,by rw[h1,nr_no hm]⟩,h2⟩)
theorem hshape_any (h:HAt w B A X)(hw:HW A){a:Nat}(ha:a≤131072) :
    Calls Tryz.prog 49 #[hpV B,vI a] w fun e w'=>Calm w w'∧((a∉plc A.cur∧e = .returned (.tuple #[shV 0 0 false false,.bool false,vI 70]))∨∃i o,CurAt A i a o∧e = .returned (.tuple #[shV o.p o.d o.wk o.fn,.bool o.fr,vI 0])):=by
  rcases cur_cases A a with ⟨i,o,c⟩|hm
  · exact(hshape_yes h c).mono (fun e w' ⟨h1,h2⟩=>⟨h2,.inr ⟨i,o,c,h1⟩⟩)
  · exact(hshape_no h (i64N ha) (not_nI hm)).mono (fun e w' ⟨h1,h2⟩=>⟨h2,.inl ⟨hm,h1⟩⟩)
theorem hsetfreed_any (h:HAt w B A X)(hw:HW A){a:Nat}(ha:a≤131072)(fr:Bool) :
    Calls Tryz.prog 152 #[hpV B,vI a,.bool fr] w fun e w'=>∃ (x:Int) (A':HS),e = .returned (vI x)∧(x=0∨x=70)∧HIn w B w' A'∧Still (fun _=>False) A A':=by
  rcases cur_cases A a with ⟨i,o,c⟩|hm
  · refine(hsetfreed_yes h c fr).mono (fun e w' ⟨h1,X',h2,h3⟩=>?_);have hw':=hw.upd h.rep c (o':={ o with fr:=fr }) ⟨rfl,rfl,rfl,rfl,rfl⟩ h2.rep (fun q hq=>.inl hq);exact⟨0,_,h1,.inl rfl,⟨B,X',h2,h3,hw'⟩,Still.upd (X:=X) hw c ⟨rfl,rfl,rfl,rfl,rfl⟩ hw' (.inl rfl)⟩
  · exact(hsetfreed_no h (i64N ha) (not_nI hm) fr).mono (fun e w' ⟨h1,h2⟩=>⟨70,A,h1,.inr rfl,HIn.calm h hw h2,Still.refl _ _⟩)
theorem hsetsecond_any (h:HAt w B A X)(hw:HW A){a:Nat}(ha:a≤131072)(v:Nat) :
    Calls Tryz.prog 182 #[hpV B,vI a,wV v] w fun e w'=>∃ (x:Int) (A':HS),e = .returned (vI x)∧(x=0∨x=70)∧HIn w B w' A'∧Still (fun k=>k=a) A A'∧(a∈plc A.cur→nr Ob.snd A' a=v):=by
  rcases cur_cases A a with ⟨i,o,c⟩|hm
  · refine(hsetsecond_yes h c v).mono (fun e w' ⟨h1,X',h2,h3⟩=>?_);have hw':=hw.upd h.rep c (o':={ o with snd:=v }) ⟨rfl,rfl,rfl,rfl,rfl⟩ h2.rep (fun q hq=>.inl hq);exact⟨0,_,h1,.inl rfl,⟨B,X',h2,h3,hw'⟩,Still.upd (X:=X) hw c ⟨rfl,rfl,rfl,rfl,rfl⟩ hw' (.inr rfl),fun _=>nr_upd_self c hw'⟩
  · exact(hsetsecond_no h (i64N ha) (not_nI hm) v).mono (fun e w' ⟨h1,h2⟩=>⟨70,A,h1,.inr rfl,HIn.calm h hw h2,Still.refl _ _,fun e=>absurd e hm⟩)
theorem hasT (k:Int)(p:Nat):∃bp,Has bp k p:=by
  rcases(by omega:(0≤k∧k<p)∨k<0∨(p:Int)≤k) with h|h|h
  · exact⟨true,.lt h.1 h.2⟩
  · exact⟨false,.neg h⟩
  · exact⟨false,.ge h⟩
def HErr (x:Int):Prop:=x=0∨x=70∨x=71
theorem hnum_any (h:HAt w B A X)(hw:HW A){a:Nat}(ha:a≤131072)(k:Int) :
    Calls Tryz.prog 146 #[hpV B,vI a,vI k] w fun e w'=>∃v x:Int,e = .returned (.tuple #[vI v,vI x])∧I64 v∧HErr x∧Calm w w':=by
  rcases cur_cases A a with ⟨i,o,c⟩|hm
  · obtain⟨bp,hb⟩:=hasT k o.d;refine(hnum_if h c hb).mono (fun e w' ⟨h1,h2⟩=>⟨_,_,h1,?_,?_,h2⟩)
    · cases bp
      · show I64 0;exact⟨by decide,by decide⟩
      · have hok:o.Ok:=(h.rep.cur_ok c.mem').1;rcases hb with ⟨_,h3,h4⟩|⟨h3,_⟩
        · exact zt_ok (hok.ns _ (get_mem' 0 (by rw[hok.ln];omega)))
        · cases h3
    · cases bp
      · exact .inr (.inr rfl)
      · exact .inl rfl
  · exact(hnum_no h (i64N ha) (not_nI hm) k).mono (fun e w' ⟨h1,h2⟩=>⟨0,70,h1,⟨by decide,by decide⟩,.inr (.inl rfl),h2⟩)
theorem hsetnum_any (h:HAt w B A X)(hw:HW A){a:Nat}(ha:a≤131072)(k v:Int)(hv:I64 v) :
    Calls Tryz.prog 148 #[hpV B,vI a,vI k,vI v] w fun e w'=>∃ (x:Int) (A':HS),e = .returned (vI x)∧HErr x∧HIn w B w' A'∧Still (fun _=>False) A A':=by
  rcases cur_cases A a with ⟨i,o,c⟩|hm
  · obtain⟨bp,hb⟩:=hasT k o.d;refine(hsetnum_if h c hb hv).mono (fun e w' ⟨h1,X',h2,h3⟩=>?_);have hp:(o.setn bp k v).ps=o.ps:=by unfold Ob.setn;cases bp <;> rfl
    have hn:(o.setn bp k v).snd=o.snd:=by unfold Ob.setn;cases bp <;> rfl
    have hw':=hw.upd h.rep c (o.setn_same bp k v) h2.rep (fun q hq=>.inl (by rw[hp] at hq;exact hq));refine⟨_,_,h1,?_,⟨B,X',h2,h3,hw'⟩,Still.upd (X:=X) hw c (o.setn_same bp k v) hw' (.inl hn)⟩;cases bp
    · exact .inr (.inr rfl)
    · exact .inl rfl
  · exact(hsetnum_no h (i64N ha) (not_nI hm) k v).mono (fun e w' ⟨h1,h2⟩=>⟨70,A,h1,.inr (.inl rfl),HIn.calm h hw h2,Still.refl _ _⟩)
theorem hsetptr_far (h:HAt w B A X){i a:Nat}{o:Ob}(c:CurAt A i a o){v:Nat}(h0:v≠0)(hv:v≤131072)(hm:v∉plc A.cur)(k:Int) :
    Calls Tryz.prog 136 #[hpV B,vI a,vI k,vI v] w fun e w'=>e = .returned (vI 70)∧Calm w w':=by
  have hh:=hid (here_yes h c.mem (c.le h.rep));have hn:=hid (fun W (cw:Calm w W)=>here_no (h.calm cw) (i64N hv) (not_nI hm));have b0:(((v:Nat):Int) != 0)=true:=by simp;omega
  clear h;go_enter Tryz.func136,Tryz.ntmps136;go_wp2_with fail
  refine(hh.out).mono ?_;rintro e w1 ⟨rfl,c1⟩;go_wp2_with fail
  refine(hn.out _ c1).mono ?_;rintro e w2 ⟨rfl,c2⟩;go_wp2;go_ret;exact⟨rfl,c1.trans c2⟩
theorem hsetptr_any (h:HAt w B A X)(hw:HW A){a v:Nat}(ha:a≤131072)(hv:v≤131072)(k:Int) :
    Calls Tryz.prog 136 #[hpV B,vI a,vI k,vI v] w fun e w'=>∃ (x:Int) (A':HS),e = .returned (vI x)∧HErr x∧HIn w B w' A'∧Still (fun _=>False) A A':=by
  rcases cur_cases A a with ⟨i,o,c⟩|hm
  · by_cases hp:v=0∨v∈plc A.cur
    · obtain⟨bp,hb⟩:=hasT k o.p;refine(hsetptr_if h c hb hp hv).mono (fun e w' ⟨h1,X',h2,h3⟩=>?_);have hn:(o.setp bp k v).snd=o.snd:=by unfold Ob.setp;cases bp <;> rfl
      have hw':=hw.upd h.rep c (o.setp_same bp k v) h2.rep (fun q hq=>by
        cases bp
        · exact .inl hq
        · have hq:q∈o.ps.set k.toNat v:=hq;rcases List.mem_or_eq_of_mem_set hq with h4|h4
          · exact .inl h4
          · exact .inr (h4 ▸ hp))
      refine⟨_,_,h1,?_,⟨B,X',h2,h3,hw'⟩,Still.upd (X:=X) hw c (o.setp_same bp k v) hw' (.inl hn)⟩;cases bp
      · exact .inr (.inr rfl)
      · exact .inl rfl
    · exact(hsetptr_far h c (fun e=>hp (.inl e)) hv (fun e=>hp (.inr e)) k).mono (fun e w' ⟨h1,h2⟩=>⟨70,A,h1,.inr (.inl rfl),HIn.calm h hw h2,Still.refl _ _⟩)
  · exact(hsetptr_no h (i64N ha) (not_nI hm) k v).mono (fun e w' ⟨h1,h2⟩=>⟨70,A,h1,.inr (.inl rfl),HIn.calm h hw h2,Still.refl _ _⟩)
theorem hptr_any (h:HAt w B A X)(hw:HW A){a:Nat}(ha:a≤131072)(k:Int) :
    Calls Tryz.prog 138 #[hpV B,vI a,vI k] w fun e w'=>∃ (q:Nat) (x:Int) (A':HS),e = .returned (.tuple #[vI (q:Nat),vI x])∧HErr x∧q≤131072∧Placed A' q∧HIn w B w' A'∧Grow A A':=by
  rcases cur_cases A a with ⟨i,o,c⟩|hm
  · rcases(by omega:(0≤k∧k<o.p)∨(k<0∨(o.p:Int)≤k)) with hk|hk
    · obtain⟨K,rfl⟩:=Int.eq_ofNat_of_zero_le hk.1;have hok:o.Ok:=(h.rep.cur_ok c.mem').1;have hpl:=hw.place (.inl c.mem') (get_mem' 0 (show K<o.ps.length by rw[hok.lp];omega));refine(hptr_yes h c (by omega) hpl).mono (fun e w' ⟨s',q,g,h1,B',X',h2,h3⟩=>?_);obtain⟨hw',hq⟩:=hw.ptr h.rep c (by omega) g h2.rep;obtain⟨X1,hr1⟩:=g.rep h.rep;have hw1:=hw.goes h.rep g;refine⟨q,0,_,h1,.inl rfl,?_,hq,⟨B',X',h2,h3,hw'⟩,(Grow.goes hw hw1 g).trans (Still.grow (Still.upd (X:=X1) hw1 (g.cur c) (o.setp_same true K q) hw' (.inl rfl)) (fun _=>id))⟩;rcases hq with e|e
      · omega
      · exact h2.rep.plc_le e
    · exact(hptr_field h c hk).mono (fun e w' ⟨h1,h2⟩=>⟨0,71,A,h1,.inr (.inr rfl),by omega,.inl rfl,HIn.calm h hw h2,Grow.refl A⟩)
  · exact(hptr_no h (i64N ha) (not_nI hm) k).mono (fun e w' ⟨h1,h2⟩=>⟨0,70,A,h1,.inr (.inl rfl),by omega,.inl rfl,HIn.calm h hw h2,Grow.refl A⟩)
structure Laidd (A A':HS)(a:Nat)(sz:Int):Prop where
  grow:∀p∈plc A.cur,p∈plc A'.cur∧nr Ob.ser A' p=nr Ob.ser A p∧nr Ob.snd A' p=nr Ob.snd A p
  here:a∈plc A'.cur
  le:a≤131072
  room:A'.room=A.room-rnd sz
  ser:A'.ser=A.ser+1
  n:A'.n=A.n
  mv:A'.mv=A.mv
  fit:rnd sz≤A.room
theorem halloc_any (h:HAt w B A X)(hw:HW A){p d:Nat}{wk fn:Bool}(hok:okS p d wk fn)(hs:A.ser<100000) :
    Calls Tryz.prog 183 #[hpV B,shV p d wk fn] w fun e w'=>
      (∃ (a:Nat) (A':HS),e = .returned (.tuple #[vI (a:Nat),vI 0])∧HIn w B w' A'∧Laidd A A' a ((3+p+d:Nat):Int))∨(e = .returned (.tuple #[vI 0,vI 100])∧A.room<rnd ((3+p+d:Nat):Int)∧Calm w w'):=by
  rcases Int.lt_or_le A.room (rnd ((3+p+d:Nat):Int)) with hr|hr
  · exact(halloc_no h hok hr).mono (fun e w' ⟨h1,h2⟩=>.inr ⟨h1,hr,h2⟩)
  · have hf:=hw.co.few;refine(halloc_yes h hok hr (by omega) ⟨by omega,by omega⟩).mono (fun e w' ⟨h1,B',X',h2,h3⟩=>.inl ⟨A.top,_,h1,⟨B',X',h2,h3,hw.alloc h.rep h2.rep⟩,?_⟩);have hw':=hw.alloc h.rep h2.rep;have hcur:(A.alloc p d wk fn).cur=A.cur++[(A.top,Ob.new p d wk fn (A.ser+1))]:=rfl
    have hc:∀x∈plc A.cur,∃i o,CurAt A i x o∧CurAt (A.alloc p d wk fn) i x o:=fun x hx=>by
      obtain⟨i,o,c⟩:=CurAt.of_mem hx;refine⟨i,o,c,⟨by rw[hcur,List.length_append];have:=c.lt;omega,?_⟩⟩;rw[hcur,getD_snoc _ _ _ c.lt];exact c.get
    have htop:A.top∈plc (A.alloc p d wk fn).cur:=by rw[hcur];simp[plc]
    have htk:tookC (A.alloc p d wk fn).cur=tookC A.cur+(Ob.new p d wk fn (A.ser+1)).took:=by rw[hcur,tookC_snoc]
    have hrs:=rnd_spec (n:=((3+p+d:Nat):Int)) (by have:=hok.1;have:=hok.2.1;omega);refine⟨fun x hx=>?_,htop,h2.rep.plc_le htop,?_,rfl,rfl,rfl,hr⟩
    · obtain⟨i,o,c,d⟩:=hc x hx;exact⟨d.mem,by rw[nr_of hw' d,nr_of hw c],by rw[nr_of hw' d,nr_of hw c]⟩
    · show((A.alloc p d wk fn).n:Int)-tookC (A.alloc p d wk fn).cur-owed (A.alloc p d wk fn).old=_;rw[htk]
      have e1:((Ob.new p d wk fn (A.ser+1)).took:Int)=rnd ((3+p+d:Nat):Int):=by
        have:(Ob.new p d wk fn (A.ser+1)).took=(rnd ((3+p+d:Nat):Int)).toNat:=rfl;rw[this,Int.toNat_of_nonneg (by omega)]
      push_cast
      rw[e1];show(A.n:Int)-(tookC A.cur+_)-owed A.old=A.room-_;unfold HS.room
      push_cast
      omega
end
end
section
open Go.RowKit Go.Shelf
attribute [local go_sem ↓] Go.wp_at_zero Go.wp_at_succ
def IdxPost (w:World)(l:List Int)(a:Int)(e:Ending)(w':World):Prop:=∃x:Int,e = .returned (vI x)∧((0≤x∧a∈l)∨(x = -1∧a∉l))∧w=w'
theorem sindex_is {w:World}{v:Value}{l:List Int}(hr:Row w v (iVs l))(hn:l.length≤1000000)(a:Int):Calls Tryz.prog 226 #[v,vI a] w (IdxPost w l a):=by
  obtain⟨va,vc,rfl,hg0⟩:=hr.loop;obtain⟨n,hN⟩:∃n,l.length=n:=⟨_,rfl⟩;rw[hN] at hn;rw[hN];replace hN:=hid hN;replace hg0:=hid hg0;clear hr;go_enter Tryz.func226,Tryz.ntmps226;go_wp2_with fail
  go_loopw [8] (fun i wr=>∃k:Nat,k≤n∧i=vI k∧Hid (∀j,j<k→l.getD j 0≠a)∧wr=w) (fun i _=>n-(intOf i).toNat)
  case atStart=>exact⟨0,by omega,rfl,hid (fun j hj=>absurd hj (by omega)),rfl⟩
  case round=>
    obtain⟨k,hk,rfl,hne,rfl⟩:=hrel;rcases Nat.lt_or_ge k n with hlt|hge
    · have g1:(k:Int)<n:=by omega
      have hkl:k<l.length:=by rw[hN.out];exact hlt
      obtain⟨b,off,rfl,hbl,hc⟩:=hg0.out k hkl;have hmem:l.getD k 0∈l:=by simp[List.getD,hkl]
      obtain⟨y,hy⟩:∃y,l.getD k 0=y:=⟨_,rfl⟩;rw[hy] at hc hmem;replace hy:=hid hy;replace hmem:=hid hmem
      by_cases e:a=y
      · have b1:(a==y)=true:=by simp[e]
        replace e:=hid e;go_wp2;go_ret;exact⟨_,rfl,.inl ⟨by omega,by rw[e.out];exact hmem.out⟩,rfl⟩
      · have b1:(a==y)=false:=by simp[e]
        replace e:=hid e;go_wp2
        go_roundw
        case rel=>exact⟨k+1,by omega,by go_num,hid (fun j hj=>by
          rcases Nat.lt_or_ge j k with h|h
          · exact hne.out j h
          · obtain rfl:j=k:=by omega
            rw[hy.out];exact fun h2=>e.out h2.symm),by trivial⟩
        case measure=>simp[intOf];omega
    · obtain rfl:k=n:=by omega
      have g1:¬((k:Int)<k):=by omega
      go_wp2;go_ret;refine⟨_,rfl,.inr ⟨rfl,fun hm=>?_⟩,rfl⟩;obtain⟨j,hj,e⟩:=mem_get 0 hm;exact hne.out j (by rw[hN.out] at hj;exact hj) e
theorem scontains_is {w:World}{v:Value}{l:List Int}(hr:Row w v (iVs l))(hn:l.length≤1000000)(a:Int):Calls Tryz.prog 213 #[v,vI a] w fun e w'=>e = .returned (.bool (decide (a∈l)))∧w=w':=by
  have hi:=hid (sindex_is hr hn a);clear hr;go_enter Tryz.func213,Tryz.ntmps213;go_wp2_with fail
  refine(hi.out).mono ?_;rintro e w1 ⟨x,rfl,hx,rfl⟩;rcases hx with ⟨h1,h2⟩|⟨rfl,h2⟩
  · replace h2:=hid h2;go_wp2;go_ret;exact⟨by rw[decide_eq_true h2.out];simp[h1],rfl⟩
  · replace h2:=hid h2;go_wp2;go_ret;exact⟨by rw[decide_eq_false h2.out];rfl,rfl⟩
def noted (l:List Nat)(a:Nat)(most:Int):List Nat:=if a∈l∨most≤l.length then l else l++[a]
def NotePost (w:World)(lp i:Nat)(vs:List Value)(v:Value)(l:List Nat)(a:Nat)(most:Int)(e:Ending)(w':World):Prop:=
  ∃v',e = .returned (.bool (decide (a∈l) || decide ((l.length:Int)<most)))∧OwnL w' lp (vs.set i v')∧ORow w' 0 v' (nI (noted l a most))∧Fr (fun k=>k=lp∨InB v k) w w'∧∀k,InB v' k→InB v k∨w.heap.size≤k
set_option maxRecDepth 4000 in
theorem note_is {w:World}{lp i:Nat}{vs:List Value}{v:Value}{l:List Nat}(h:OwnL w lp vs)(hv:vs[i]?=some v)(hr:ORow w 0 v (nI l))(hn:¬InB v lp)(hl:l.length≤100000)(a:Nat)(most:Int) :
    Calls Tryz.prog 189 #[.pointer (some ⟨lp,i,none⟩),vI a,vI most] w (NotePost w lp i vs v l a most):=by
  have hvi:i<vs.length:=by rcases Nat.lt_or_ge i vs.length with h|h;exact h;rw[List.getElem?_eq_none h] at hv;cases hv
  have y0:=(h i v hv).1;have y1:=(h i v hv).2;have hlp:lp<w.heap.size:=World.block_lt_of_cell? w _ y0;obtain⟨va,vn,vc,rfl⟩:=hr.letters;have hvn:vn=l.length:=by obtain⟨a',c',e⟩:=hr.slice;injection e with _ e2 _;simpa using e2
  have hset:vs.set i (.slice va vn vc)=vs:=by
    apply List.ext_getElem (by simp);intro j h1 h2;rw[List.getElem_set];split
    · rename_i e;subst e;rw[List.getElem?_eq_getElem hvi] at hv;exact(Option.some.inj hv).symm
    · rfl
  have hct:=hid (scontains_is hr.row (by simp;omega) (a:Int))
  have hmem:decide ((a:Int)∈nI l)=decide (a∈l):=by
    by_cases hm:a∈l
    · rw[decide_eq_true hm,decide_eq_true (mem_nI.2 hm)]
    · rw[decide_eq_false hm,decide_eq_false (fun e=>hm (mem_nI.1 e))]
  have hr0:=hid hr;have H:=hid h;subst hvn;replace hn:=hid hn;replace hset:=hid hset;replace hmem:=hid hmem;replace hv:=hid hv;replace hvi:=hid hvi;clear h hr;go_enter Tryz.func189,Tryz.ntmps189;go_wp2_with fail
  refine(hct.out).mono ?_;rintro e w1 ⟨rfl,rfl⟩;rw[hmem.out]
  by_cases hm:a∈l
  · rw[decide_eq_true hm];replace hm:=hid hm;go_wp2;go_ret;refine⟨_,by rw[decide_eq_true hm.out];rfl,by rw[hset.out];exact H.out,by unfold noted;rw[if_pos (.inl hm.out)];exact hr0.out,Fr.refl _ _,fun k hk=>.inl hk⟩
  · rw[decide_eq_false hm];replace hm:=hid hm;rcases Int.lt_or_le (l.length:Int) most with hlt|hge
    · have g1:¬((l.length:Int)≥most):=by omega
      have ne1:lp≠w.heap.size:=by omega
      go_wp2_with (at_builtin;go_must (refine wpList_app1 rfl _ _ rfl 0 (.slice va l.length vc) (nI l) hr0.out rfl (a:Int) rfl (by simp;omega) (by omega) ?_);intro g gc w3 hr3 f3 hg;have q0:=f3.cellAt y0 hn.out;have q1:=f3.frozenAt y0 y1 hn.out;have hH:=hid (H.out.fr f3 hn.out);replace hr3:=hid hr3;replace f3:=hid f3;replace hg:=hid hg)
      have f4:Fr (fun k=>k=lp∨InB (.slice va l.length vc) k) w (w3.setCell ⟨lp,i,none⟩ (.slice (some ⟨g,0,none⟩) (l.length+1) gc)):=(f3.out.mono (fun k _ e=>.inr e)).setCell (p:=⟨lp,i,none⟩) (.inl (.inl rfl)) _
      have hgx:g≠lp:=by
        rintro rfl;rcases hg.out with h|h
        · exact hn.out h
        · omega
      go_wp2;go_ret;refine⟨.slice (some ⟨g,0,none⟩) (l.length+1) gc,by rw[decide_eq_false hm.out,decide_eq_true hlt];rfl,hH.out.set i _ hvi.out,?_,f4,fun k hk=>?_⟩
      · unfold noted;rw[if_neg (fun e=>e.elim hm.out (fun e=>by omega))];have:=hr3.out.frB ((Fr.refl (fun b=>b=lp) w3).setCell (p:=⟨lp,i,none⟩) (.inl rfl) (.slice (some ⟨g,0,none⟩) (l.length+1) gc)) (fun k hk e=>hgx ((InB.mk1 hk).symm.trans e));simpa using this
      · rw[InB.mk1 hk];exact hg.out
    · have g1:((l.length:Int)≥most):=by omega
      go_wp2;go_ret;refine⟨_,by rw[decide_eq_false hm.out,decide_eq_false (by omega)];rfl,by rw[hset.out];exact H.out,by unfold noted;rw[if_pos (.inr hge)];exact hr0.out,Fr.refl _ _,fun k hk=>.inl hk⟩
structure Hd where
  at_:Nat
  ver:Int
structure Ud where
  kind:Int
  at_:Nat
  i:Int
  old:Int
def hdC (x:Hd):List Value:=[vI x.at_,vI x.ver]
def udC (x:Ud):List Value:=[vI x.kind,vI x.at_,vI x.i,vI x.old]
structure LogD where
  mr:Int
  mu:Int
  vr:Value
  vk:Value
  vh:Value
  vu:Value
  reads:List Nat
  keeps:List Nat
  holds:List Hd
  undos:List Ud
def aHds (v:Value)(l:List Hd):Asr:=aOwn 188 2 v l.length (l.flatMap hdC)
def aUds (v:Value)(l:List Ud):Asr:=aOwn 191 4 v l.length (l.flatMap udC)
structure LogIn (M:Mem)(g lp:Nat)(L:LogD):Prop where
  c:M (g+1)=aCells lp (vI L.mr) [vI L.mu,L.vr,L.vk,L.vh,L.vu]
  r:M (g+2)=aRow L.vr (nI L.reads)
  k:M (g+3)=aRow L.vk (nI L.keeps)
  h:M (g+4)=aHds L.vh L.holds
  u:M (g+5)=aUds L.vu L.undos
theorem LogIn.only {M M':Mem}{g lp:Nat}{L:LogD}{P:Nat→Prop}(h:LogIn M g lp L)(o:Mem.Only P M M')(hp:∀t,g+1≤t→t≤g+5→¬P t):LogIn M' g lp L:=
  ⟨(o _ (hp _ (by omega) (by omega))).trans h.c,(o _ (hp _ (by omega) (by omega))).trans h.r,(o _ (hp _ (by omega) (by omega))).trans h.k,(o _ (hp _ (by omega) (by omega))).trans h.h,(o _ (hp _ (by omega) (by omega))).trans h.u⟩
section
variable {w:World}{τ:Nat→Nat}{M:Mem}{g lp:Nat}{L:LogD}
theorem LogIn.cells (h:Hold w τ M)(hl:LogIn M g lp L):OwnL w lp [vI L.mr,vI L.mu,L.vr,L.vk,L.vh,L.vu]:=by have:=h.at_ (g+1);rw[hl.c] at this;exact this
theorem LogIn.rowR (h:Hold w τ M)(hl:LogIn M g lp L):ORow w 0 L.vr (nI L.reads):=by have:=h.at_ (g+2);rw[hl.r] at this;exact this
theorem LogIn.rowK (h:Hold w τ M)(hl:LogIn M g lp L):ORow w 0 L.vk (nI L.keeps):=by have:=h.at_ (g+3);rw[hl.k] at this;exact this
theorem LogIn.rowH (h:Hold w τ M)(hl:LogIn M g lp L):w.ownsRow 0 188 2 L.vh L.holds.length (L.holds.flatMap hdC):=by have:=h.at_ (g+4);rw[hl.h] at this;exact this
theorem LogIn.rowU (h:Hold w τ M)(hl:LogIn M g lp L):w.ownsRow 0 191 4 L.vu L.undos.length (L.undos.flatMap udC):=by have:=h.at_ (g+5);rw[hl.u] at this;exact this
theorem LogIn.blk1 (hl:LogIn M g lp L):(M (g+1)).blk=fun k=>k=lp:=by rw[hl.c];rfl
theorem LogIn.blk2 (hl:LogIn M g lp L):(M (g+2)).blk=InB L.vr:=by rw[hl.r];rfl
theorem LogIn.blk3 (hl:LogIn M g lp L):(M (g+3)).blk=InB L.vk:=by rw[hl.k];rfl
theorem LogIn.blk4 (hl:LogIn M g lp L):(M (g+4)).blk=InB L.vh:=by rw[hl.h];rfl
theorem LogIn.blk5 (hl:LogIn M g lp L):(M (g+5)).blk=InB L.vu:=by rw[hl.u];rfl
def LogPost0 (w:World)(τ:Nat→Nat)(M:Mem)(g lp:Nat)(L:LogD)(a:Nat)(e:Ending)(w':World):Prop:=
  ∃v' τ' M',e = .returned (.bool (decide (a∈L.reads) || decide ((L.reads.length:Int)<L.mr)))∧Hold w' τ' M' ∧
    LogIn M' g lp { L with vr:=v',reads:=noted L.reads a L.mr } ∧ Mem.Only (fun t=>g+1≤t∧t≤g+5) M M'∧KeepT w τ w' τ'
theorem log_note0 (h:Hold w τ M)(hl:LogIn M g lp L)(hg:g≤400)(hfew:L.reads.length≤100000)(a:Nat) :
    Calls Tryz.prog 188 #[pV lp,vI a] w (LogPost0 w τ M g lp L a):=by
  have hc:=hl.cells h;have y0:=(hc 0 _ rfl).1;have hr:=hl.rowR h;have hn:¬InB L.vr lp:=fun e=>h.apart (t:=g+1) (u:=g+2) (by omega) (k:=lp) (by rw[hl.blk1]) (by rw[hl.blk2];exact e);have hnt:=hid (fun W (cw:Calm w W)=>note_is (i:=2) (hc.calm cw) rfl (hr.calm cw) hn hfew a L.mr);have H:=hid h;have HL:=hid hl;obtain⟨mr,hmr⟩:∃x,L.mr=x:=⟨_,rfl⟩;rw[hmr] at y0 hnt;clear h hl hc hr hn;go_enter Tryz.func188,Tryz.ntmps188;go_wp2_with fail
  go_region_held3 (fun w'=>w'.cell? ⟨lp,0,none⟩=some (vI mr)) (go_keep)
    (first|(go_at_call 189;refine(hnt.out _ (by first|exact Fr.refl _ _|exact(Fr.refl _ _).drew)).mono ?_;rintro e w2 ⟨v',rfl,hC,hR,hF,hN⟩;have ka:Fr (fun k=>k=lp∨InB L.vr k) w w2:=Fr.trans (by first|exact Fr.refl _ _|exact(Fr.refl _ _).drew) hF;have q0:w2.cell? ⟨lp,0,none⟩=some (vI mr):=(hC 0 _ rfl).1;replace hC:=hid hC;replace hR:=hid hR;replace hF:=hid hF;replace hN:=hid hN;replace ka:=hid ka))
  subst hmr
  obtain⟨τ',h1,h2⟩:=H.out.put2 (t:=g+1) (u:=g+2) (by omega) (a:=aCells lp (vI L.mr) [vI L.mu,v',L.vk,L.vh,L.vu]) (b:=aRow v' (nI (noted L.reads a L.mr))) (by rw[HL.out.blk1,HL.out.blk2];exact ka.out) hC.out hR.out (fun k hk=>by rw[HL.out.blk1];exact hk) (fun k hk=>by
    rw[HL.out.blk2];rcases hN.out k hk with e|e
    · exact .inl e
    · right;exact e) (by omega) (by omega)
  have hP:Hid (LogPost0 w τ M g lp L a (.returned (.bool (decide (a∈L.reads) || decide ((L.reads.length:Int)<L.mr)))) w2):=by
    refine⟨v',τ',_,rfl,h1,⟨?_,?_,?_,?_,?_⟩,?_,h2⟩
    · rw[Mem.put_other _ _ (by omega),Mem.put_same]
    · rw[Mem.put_same]
    · rw[Mem.put_other _ _ (by omega),Mem.put_other _ _ (by omega)];exact HL.out.k
    · rw[Mem.put_other _ _ (by omega),Mem.put_other _ _ (by omega)];exact HL.out.h
    · rw[Mem.put_other _ _ (by omega),Mem.put_other _ _ (by omega)];exact HL.out.u
    · exact(Mem.Only.put M _ ⟨by omega,by omega⟩).trans (Mem.Only.put _ _ ⟨by omega,by omega⟩)
  clear hC hR hF hN ka h1 h2 hnt;go_wp2;go_ret;exact hP.out
def LogPost1 (w:World)(τ:Nat→Nat)(M:Mem)(g lp:Nat)(L:LogD)(a:Nat)(e:Ending)(w':World):Prop:=
  ∃v' τ' M',e = .returned (.bool (decide (a∈L.keeps) || decide ((L.keeps.length:Int)<L.mr)))∧Hold w' τ' M' ∧
    LogIn M' g lp { L with vk:=v',keeps:=noted L.keeps a L.mr } ∧ Mem.Only (fun t=>g+1≤t∧t≤g+5) M M'∧KeepT w τ w' τ'
theorem log_note1 (h:Hold w τ M)(hl:LogIn M g lp L)(hg:g≤400)(hfew:L.keeps.length≤100000)(a:Nat) :
    Calls Tryz.prog 141 #[pV lp,vI a] w (LogPost1 w τ M g lp L a):=by
  have hc:=hl.cells h;have y0:=(hc 0 _ rfl).1;have hr:=hl.rowK h;have hn:¬InB L.vk lp:=fun e=>h.apart (t:=g+1) (u:=g+3) (by omega) (k:=lp) (by rw[hl.blk1]) (by rw[hl.blk3];exact e);have hnt:=hid (fun W (cw:Calm w W)=>note_is (i:=3) (hc.calm cw) rfl (hr.calm cw) hn hfew a L.mr);have H:=hid h;have HL:=hid hl;obtain⟨mr,hmr⟩:∃x,L.mr=x:=⟨_,rfl⟩;rw[hmr] at y0 hnt;clear h hl hc hr hn;go_enter Tryz.func141,Tryz.ntmps141;go_wp2_with fail
  go_region_held3 (fun w'=>w'.cell? ⟨lp,0,none⟩=some (vI mr)) (go_keep)
    (first|(go_at_call 189;refine(hnt.out _ (by first|exact Fr.refl _ _|exact(Fr.refl _ _).drew)).mono ?_;rintro e w2 ⟨v',rfl,hC,hR,hF,hN⟩;have ka:Fr (fun k=>k=lp∨InB L.vk k) w w2:=Fr.trans (by first|exact Fr.refl _ _|exact(Fr.refl _ _).drew) hF;have q0:w2.cell? ⟨lp,0,none⟩=some (vI mr):=(hC 0 _ rfl).1;replace hC:=hid hC;replace hR:=hid hR;replace hF:=hid hF;replace hN:=hid hN;replace ka:=hid ka))
  subst hmr
  obtain⟨τ',h1,h2⟩:=H.out.put2 (t:=g+1) (u:=g+3) (by omega) (a:=aCells lp (vI L.mr) [vI L.mu,L.vr,v',L.vh,L.vu]) (b:=aRow v' (nI (noted L.keeps a L.mr))) (by rw[HL.out.blk1,HL.out.blk3];exact ka.out) hC.out hR.out (fun k hk=>by rw[HL.out.blk1];exact hk) (fun k hk=>by
    rw[HL.out.blk3];rcases hN.out k hk with e|e
    · exact .inl e
    · right;exact e) (by omega) (by omega)
  have hP:Hid (LogPost1 w τ M g lp L a (.returned (.bool (decide (a∈L.keeps) || decide ((L.keeps.length:Int)<L.mr)))) w2):=by
    refine⟨v',τ',_,rfl,h1,⟨?_,?_,?_,?_,?_⟩,?_,h2⟩
    · rw[Mem.put_other _ _ (by omega),Mem.put_same]
    · rw[Mem.put_other _ _ (by omega),Mem.put_other _ _ (by omega)];exact HL.out.r
    · rw[Mem.put_same]
    · rw[Mem.put_other _ _ (by omega),Mem.put_other _ _ (by omega)];exact HL.out.h
    · rw[Mem.put_other _ _ (by omega),Mem.put_other _ _ (by omega)];exact HL.out.u
    · exact(Mem.Only.put M _ ⟨by omega,by omega⟩).trans (Mem.Only.put _ _ ⟨by omega,by omega⟩)
  clear hC hR hF hN ka h1 h2 hnt;go_wp2;go_ret;exact hP.out
theorem hdC_len (x:Hd):(hdC x).length=2:=rfl
theorem udC_len (x:Ud):(udC x).length=4:=rfl
abbrev dH:Hd:=⟨0,0⟩
abbrev dU:Ud:=⟨0,0,0,0⟩
theorem cell_row2 (w:World)(xs:List Value)(t:TypeId)(j:Nat){u:Value}(hj:xs[j]?=some u):(w.alloc (.cells xs.toArray t)).cell? ⟨w.heap.size,j,none⟩=some u:=by
  rw[World.cell?_alloc_new];simpa using hj
def hasAt (l:List Hd)(a:Nat):Bool:=l.any fun x=>x.at_==a
theorem hasAt_no {l:List Hd}{a:Nat}(h:∀j,j<l.length→(l.getD j dH).at_≠a):hasAt l a=false:=by
  unfold hasAt;rw[List.any_eq_false];intro x hx;obtain⟨j,hj,e⟩:=mem_get dH hx;have:=h j hj;rw[e] at this;simpa using this
theorem hasAt_yes {l:List Hd}{a j:Nat}(hj:j<l.length)(h:(l.getD j dH).at_=a):hasAt l a=true:=by
  unfold hasAt;rw[List.any_eq_true];exact⟨_,get_mem dH hj,by simpa using h⟩
def HoldPost (w:World)(τ:Nat→Nat)(M:Mem)(g lp:Nat)(L:LogD)(x:Hd)(e:Ending)(w':World):Prop:=
  ∃b v' τ' M',e = .returned (.bool b)∧b=(!hasAt L.holds x.at_ && decide ((L.holds.length:Int)<L.mu))∧Hold w' τ' M' ∧
    LogIn M' g lp { L with vh:=v',holds:=bif b then L.holds++[x] else L.holds } ∧ Mem.Only (fun t=>g+1≤t∧t≤g+5) M M'∧KeepT w τ w' τ'
theorem HoldPost.no {w w':World}(h:Hold w τ M)(hl:LogIn M g lp L){x:Hd}(c:Calm w w')(hb:(!hasAt L.holds x.at_ && decide ((L.holds.length:Int)<L.mu))=false):HoldPost w τ M g lp L x (.returned (.bool false)) w':=
  ⟨false,L.vh,τ,M,rfl,hb.symm,h.calm c,hl,Mem.Only.refl _ _,KeepT.calm τ c⟩
set_option maxRecDepth 4000 in
theorem log_hold (h:Hold w τ M)(hl:LogIn M g lp L)(hg:g≤400)(hfew:L.holds.length≤100000)(x:Hd) :
    Calls Tryz.prog 184 #[pV lp,.agg #[vI x.at_,vI x.ver]] w (HoldPost w τ M g lp L x):=by
  have hc:=hl.cells h;have y1:=(hc 1 _ rfl).1;have y4:=(hc 4 _ rfl).1;have z4:=(hc 4 _ rfl).2;have hlp:lp<w.heap.size:=World.block_lt_of_cell? w _ y1;have hr:=hl.rowH h;have hn:¬InB L.vh lp:=fun e=>h.apart (t:=g+1) (u:=g+4) (by omega) (k:=lp) (by rw[hl.blk1]) (by rw[hl.blk4];exact e);obtain⟨sa,sc,hv⟩:=owns_slice hr;have hget:=hid (fun i (hi:i<L.holds.length)=>rows_get hdC_len (by decide) hr dH hi);obtain⟨n,hN⟩:∃n,L.holds.length=n:=⟨_,rfl⟩;have hnoB:=hid (fun(w':World) (c:Calm w w') hb=>HoldPost.no (x:=x) h hl c hb);rw[hv] at y4 hn;rw[hN] at y4 hfew hn;have H:=hid h;have HL:=hid hl;replace hr:=hid hr;obtain⟨mu,hmu⟩:∃m,L.mu=m:=⟨_,rfl⟩;rw[hmu] at y1;replace hc:=hid hc;replace hN:=hid hN;replace hv:=hid hv;replace hn:=hid hn;clear h hl;go_enter Tryz.func184,Tryz.ntmps184;go_wp2_with fail
  have k0:Calm w (w.alloc (.cells #[vI x.at_,vI x.ver] 188)):=(Fr.refl _ _).alloc _;have o3:=OwnL.new w [vI x.at_,vI x.ver] 188;have hsz0:(w.alloc (.cells #[vI x.at_,vI x.ver] 188)).heap.size=w.heap.size+1:=by simp
  generalize hW0:w.alloc (.cells #[vI x.at_,vI x.ver] 188)=W0 at *;generalize w.heap.size=P at *;clear hW0;go_loopw [14] (fun i wr=>∃k:Nat,k≤n∧i=vI k∧Hid (∀j,j<k→(L.holds.getD j dH).at_≠x.at_)∧Calm W0 wr) (fun i _=>n-(intOf i).toNat)
  case atStart=>exact⟨0,by omega,rfl,hid (fun j hj=>absurd hj (by omega)),Fr.refl _ _⟩
  case round=>
    obtain⟨k,hk,rfl,hne,kr⟩:=hrel;have k1:=k0.trans kr;have o4:=o3.calm kr;obtain⟨u0,u1⟩:=OwnL.ce2 o4;have hPl:=o4.lt (by simp);rcases Nat.lt_or_ge k n with hlt|hge
    · have g1:(k:Int)<n:=by omega
      obtain⟨b,c',hv2,hcs⟩:=hget.out k (by rw[hN.out];exact hlt);rw[hv.out] at hv2;injection hv2 with e1 e2 e3
      subst e1;have q0:=k1.cellAt (hcs 0 _ rfl).1 id;have q1:=k1.cellAt (hcs 1 _ rfl).1 id;rw[Nat.add_zero] at q0;clear e2 e3 hcs;obtain⟨y,hy⟩:∃y,L.holds.getD k dH=y:=⟨_,rfl⟩;rw[hy] at q0 q1;replace hy:=hid hy
      by_cases e:y.at_=x.at_
      · have b1:(((y.at_:Nat):Int)==((x.at_:Nat):Int))=true:=by simp[e]
        have hb:Hid (hasAt L.holds x.at_=true):=hasAt_yes (j:=k) (by rw[hN.out];exact hlt) (by rw[hy.out];exact e);have k2:=hid (k1.alloc (.cells #[vI y.at_,vI y.ver] 188));clear e o3 o4 k0;go_wp2;go_ret;exact hnoB.out _ k2.out (by rw[hb.out];rfl)
      · have b1:(((y.at_:Nat):Int)==((x.at_:Nat):Int))=false:=by simp;omega
        have k2:=hid (kr.alloc (.cells #[vI y.at_,vI y.ver] 188));replace e:=hid e;go_wp2
        go_roundw
        case rel=>exact⟨k+1,by omega,by go_num,hid (fun j hj=>by
          rcases Nat.lt_or_ge j k with h|h
          · exact hne.out j h
          · obtain rfl:j=k:=by omega
            rw[hy.out];exact e.out),k2.out⟩
        case measure=>simp[intOf];omega
    · obtain rfl:k=n:=by omega
      have g1:¬((k:Int)<k):=by omega
      have hb:Hid (hasAt L.holds x.at_=false):=hasAt_no (fun j hj=>hne.out j (by rw[hN.out] at hj;exact hj));have w1:=k1.cellAt y1 id;have w4:=k1.cellAt y4 id;have f4:=k1.frozenAt y4 z4 id;clear hge hk hne hget;go_wp2_with fail
      go_region
      by_cases hlt:(k:Int)<mu
      · have g2:¬((k:Int)≥mu):=by omega
        have kd:Calm w wr.drew:=k1.trans ((Fr.refl _ _).drew);have od:=o4.calm ((Fr.refl _ _).drew:Calm wr wr.drew);have hsz:Hid (w.heap.size≤wr.drew.heap.size):=kd.size;have v1:=kd.cellAt y1 id;have v4:=kd.cellAt y4 id;have r4:=kd.frozenAt y4 z4 id;obtain⟨v0,v0'⟩:=OwnL.ce2 od;have hr1:=hid (owns_frB hr.out kd (fun _ _=>id));have hlW:lp<wr.drew.heap.size:=World.block_lt_of_cell? _ _ v1;have hPW:P<wr.drew.heap.size:=od.lt (by simp);rw[hv.out,hN.out] at hr1;clear u0 u1 w1 w4 f4 o4 o3 k0 kr k1 hnoB;generalize wr.drew=W1 at *;go_wp2_with fail
        go_region_law
          ((refine step_appG giH rfl _ _ rfl (.slice sa k sc) k (L.holds.flatMap hdC) (owns_frB hr1.out (by first|exact(Fr.refl _ _).alloc _|exact((Fr.refl _ _).drew).alloc _|exact((Fr.refl _ _).alloc _).drew:Calm W1 _) (fun _ _=>id)) rfl (hdC x) rfl (by simp[hdC,Value.oneCell']) ⟨W1.heap.size,0,none⟩ 1 rfl (fun j u hj=>by rw[addr_at];simp only[Nat.zero_add];exact cell_row2 _ _ _ _ hj) (by omega) ?_;intro q gc W3 hr3 f3 hg3;have ka:Fr (InB (.slice sa k sc)) W1 W3:=Fr.trans (by first|exact(Fr.refl _ _).alloc _|exact((Fr.refl _ _).drew).alloc _|exact((Fr.refl _ _).alloc _).drew) f3;have q4:=ka.cellAt v4 hn.out;have p4:=ka.frozenAt v4 r4 hn.out;replace hr3:=hid hr3;replace hg3:=hid hg3;replace f3:=hid f3;replace ka:=hid ka))
        all_goals
          have hP:Hid (HoldPost w τ M g lp L x (.returned (.bool true)) (W3.setCell ⟨lp,4,none⟩ (.slice (some ⟨q,0,none⟩) (k+1) gc))):=by
            have hs:=hsz.out;have hlp2:lp<w.heap.size:=World.block_lt_of_cell? w _ y1
            have hg':InB (.slice sa k sc) q∨w.heap.size≤q:=by
              rcases hg3.out with e|e
              · exact .inl e
              · right;simp at e;omega
            have hqx:q≠lp:=by
              rintro rfl;rcases hg' with e|e
              · exact hn.out e
              · omega
            have f4:Fr (fun k'=>k'=lp∨InB (.slice sa k sc) k') w (W3.setCell ⟨lp,4,none⟩ (.slice (some ⟨q,0,none⟩) (k+1) gc)):=((Calm.any kd:Fr (fun k'=>k'=lp∨InB (.slice sa k sc) k') _ _).trans (ka.out.mono (fun k' _ e=>.inr e))).setCell (p:=⟨lp,4,none⟩) (.inl (.inl rfl)) _;have hC:=(((hc.out.calm kd).fr ka.out hn.out).set 4 (.slice (some ⟨q,0,none⟩) (k+1) gc) (by simp));have hR:=owns_frB hr3.out ((Fr.refl (fun b=>b=lp) W3).setCell (p:=⟨lp,4,none⟩) (.inl rfl) (.slice (some ⟨q,0,none⟩) (k+1) gc)) (fun k' hk' e=>hqx ((InB.mk1 hk').symm.trans e));have hlen:(L.holds++[x]).length=k+1:=by rw[List.length_append,hN.out];rfl
            have hfl:(L.holds++[x]).flatMap hdC=L.holds.flatMap hdC++hdC x:=by simp
            obtain⟨τ',h1,h2⟩:=H.out.put2 (t:=g+1) (u:=g+4) (by omega) (a:=aCells lp (vI L.mr) [vI L.mu,L.vr,L.vk,.slice (some ⟨q,0,none⟩) (k+1) gc,L.vu]) (b:=aHds (.slice (some ⟨q,0,none⟩) (k+1) gc) (L.holds++[x])) (by rw[HL.out.blk1,HL.out.blk4,hv.out,hN.out];exact f4) hC (by show World.ownsRow _ _ _ _ _ _ _;rw[hlen,hfl];exact hR) (fun k' hk'=>by rw[HL.out.blk1];exact hk') (fun k' hk'=>by
              rw[HL.out.blk4,hv.out,hN.out];have hk':InB (.slice (some ⟨q,0,none⟩) (k+1) gc) k':=hk'
              rw[InB.mk1 hk'];exact hg') (by omega) (by omega)
            refine⟨true,.slice (some ⟨q,0,none⟩) (k+1) gc,τ',_,rfl,by rw[hb.out,hN.out,hmu];simp[hlt],h1,⟨?_,?_,?_,?_,?_⟩,?_,h2⟩
            · rw[Mem.put_other _ _ (by omega),Mem.put_same]
            · rw[Mem.put_other _ _ (by omega),Mem.put_other _ _ (by omega)];exact HL.out.r
            · rw[Mem.put_other _ _ (by omega),Mem.put_other _ _ (by omega)];exact HL.out.k
            · rw[Mem.put_same];rfl
            · rw[Mem.put_other _ _ (by omega),Mem.put_other _ _ (by omega)];exact HL.out.u
            · exact(Mem.Only.put M _ ⟨by omega,by omega⟩).trans (Mem.Only.put _ _ ⟨by omega,by omega⟩)
          clear hr3 hg3 f3 ka q4 p4 v0 v0' v1 v4 r4;go_wp2;go_ret;exact hP.out
      · have g2:((k:Int)≥mu):=by omega
        go_wp2;go_ret;exact hnoB.out _ (k1.trans ((Fr.refl _ _).drew)) (by rw[hb.out,hN.out,hmu];simp;omega)
end
section
variable {w:World}{τ:Nat→Nat}{M:Mem}{g lp:Nat}{L:LogD}
def UndoPost (w:World)(τ:Nat→Nat)(M:Mem)(g lp:Nat)(L:LogD)(x:Ud)(e:Ending)(w':World):Prop:=
  ∃b v' τ' M',e = .returned (.bool b)∧b=decide ((L.undos.length:Int)<L.mu)∧Hold w' τ' M' ∧
    LogIn M' g lp { L with vu:=v',undos:=bif b then L.undos++[x] else L.undos } ∧ Mem.Only (fun t=>g+1≤t∧t≤g+5) M M'∧KeepT w τ w' τ'
set_option maxRecDepth 4000 in
theorem log_undo (h:Hold w τ M)(hl:LogIn M g lp L)(hg:g≤400)(hfew:L.undos.length≤100000)(x:Ud) :
    Calls Tryz.prog 151 #[pV lp,.agg #[vI x.kind,vI x.at_,vI x.i,vI x.old]] w (UndoPost w τ M g lp L x):=by
  have hc:=hl.cells h;have y1:=(hc 1 _ rfl).1;have y5:=(hc 5 _ rfl).1;have z5:=(hc 5 _ rfl).2;have hlp:lp<w.heap.size:=World.block_lt_of_cell? w _ y1;have hr:=hl.rowU h;have hn:¬InB L.vu lp:=fun e=>h.apart (t:=g+1) (u:=g+5) (by omega) (k:=lp) (by rw[hl.blk1]) (by rw[hl.blk5];exact e);obtain⟨sa,sc,hv⟩:=owns_slice hr;obtain⟨n,hN⟩:∃n,L.undos.length=n:=⟨_,rfl⟩;rw[hv] at y5 hn;rw[hN] at y5 hfew hn;have H:=hid h;have HL:=hid hl;replace hr:=hid hr;obtain⟨mu,hmu⟩:∃m,L.mu=m:=⟨_,rfl⟩;rw[hmu] at y1;replace hc:=hid hc;replace hN:=hid hN;replace hv:=hid hv;replace hn:=hid hn;clear h hl;go_enter Tryz.func151,Tryz.ntmps151;go_wp2_with fail
  have k0:Calm w (w.alloc (.cells #[vI x.kind,vI x.at_,vI x.i,vI x.old] 191)):=(Fr.refl _ _).alloc _;have o3:=OwnL.new w [vI x.kind,vI x.at_,vI x.i,vI x.old] 191;obtain⟨P,hP0⟩:∃P,w.heap.size=P:=⟨_,rfl⟩;rw[hP0] at o3 ⊢;have x1:=k0.cellAt y1 id;have x5:=k0.cellAt y5 id;generalize hW0:w.alloc (.cells #[vI x.kind,vI x.at_,vI x.i,vI x.old] 191)=W0 at *;replace hP0:=hid hP0;clear hW0
  go_region
  have kd:Calm w W0.drew:=k0.trans ((Fr.refl _ _).drew)
  by_cases hlt:(n:Int)<mu
  · have g2:¬((n:Int)≥mu):=by omega
    have od:=o3.calm ((Fr.refl _ _).drew:Calm W0 W0.drew);have hsz:Hid (w.heap.size≤W0.drew.heap.size):=kd.size;have v1:=kd.cellAt y1 id;have v4:=kd.cellAt y5 id;have r4:=kd.frozenAt y5 z5 id;obtain⟨va,vb,vc,vd⟩:=OwnL.ce4 od;have hr1:=hid (owns_frB hr.out kd (fun _ _=>id));have hlW:lp<W0.drew.heap.size:=World.block_lt_of_cell? _ _ v1;have hPW:P<W0.drew.heap.size:=od.lt (by simp);rw[hv.out,hN.out] at hr1;clear x1 x5 o3 k0 hlp;generalize W0.drew=W1 at *;go_wp2_with fail
    go_region_law
      ((refine step_appG giU rfl _ _ rfl (.slice sa n sc) n (L.undos.flatMap udC) (owns_frB hr1.out (by first|exact(Fr.refl _ _).alloc _|exact((Fr.refl _ _).drew).alloc _|exact((Fr.refl _ _).alloc _).drew:Calm W1 _) (fun _ _=>id)) rfl (udC x) rfl (by simp[udC,Value.oneCell']) ⟨W1.heap.size,0,none⟩ 1 rfl (fun j u hj=>by rw[addr_at];simp only[Nat.zero_add];exact cell_row2 _ _ _ _ hj) (by omega) ?_;intro q gc W3 hr3 f3 hg3;have ka:Fr (InB (.slice sa n sc)) W1 W3:=Fr.trans (by first|exact(Fr.refl _ _).alloc _|exact((Fr.refl _ _).drew).alloc _|exact((Fr.refl _ _).alloc _).drew) f3;have q4:=ka.cellAt v4 hn.out;have p4:=ka.frozenAt v4 r4 hn.out;replace hr3:=hid hr3;replace hg3:=hid hg3;replace f3:=hid f3;replace ka:=hid ka))
    all_goals
      have hP:Hid (UndoPost w τ M g lp L x (.returned (.bool true)) (W3.setCell ⟨lp,5,none⟩ (.slice (some ⟨q,0,none⟩) (n+1) gc))):=by
        have hs:=hsz.out;have hlp2:lp<w.heap.size:=World.block_lt_of_cell? w _ y1
        have hg':InB (.slice sa n sc) q∨w.heap.size≤q:=by
          rcases hg3.out with e|e
          · exact .inl e
          · right;simp at e;omega
        have hqx:q≠lp:=by
          rintro rfl;rcases hg' with e|e
          · exact hn.out e
          · omega
        have f4:Fr (fun k'=>k'=lp∨InB (.slice sa n sc) k') w (W3.setCell ⟨lp,5,none⟩ (.slice (some ⟨q,0,none⟩) (n+1) gc)):=((Calm.any kd:Fr (fun k'=>k'=lp∨InB (.slice sa n sc) k') _ _).trans (ka.out.mono (fun k' _ e=>.inr e))).setCell (p:=⟨lp,5,none⟩) (.inl (.inl rfl)) _;have hC:=(((hc.out.calm kd).fr ka.out hn.out).set 5 (.slice (some ⟨q,0,none⟩) (n+1) gc) (by simp));have hR:=owns_frB hr3.out ((Fr.refl (fun b=>b=lp) W3).setCell (p:=⟨lp,5,none⟩) (.inl rfl) (.slice (some ⟨q,0,none⟩) (n+1) gc)) (fun k' hk' e=>hqx ((InB.mk1 hk').symm.trans e));have hlen:(L.undos++[x]).length=n+1:=by rw[List.length_append,hN.out];rfl
        have hfl:(L.undos++[x]).flatMap udC=L.undos.flatMap udC++udC x:=by simp
        obtain⟨τ',h1,h2⟩:=H.out.put2 (t:=g+1) (u:=g+5) (by omega) (a:=aCells lp (vI L.mr) [vI L.mu,L.vr,L.vk,L.vh,.slice (some ⟨q,0,none⟩) (n+1) gc]) (b:=aUds (.slice (some ⟨q,0,none⟩) (n+1) gc) (L.undos++[x])) (by rw[HL.out.blk1,HL.out.blk5,hv.out,hN.out];exact f4) hC (by show World.ownsRow _ _ _ _ _ _ _;rw[hlen,hfl];exact hR) (fun k' hk'=>by rw[HL.out.blk1];exact hk') (fun k' hk'=>by
          rw[HL.out.blk5,hv.out,hN.out];have hk':InB (.slice (some ⟨q,0,none⟩) (n+1) gc) k':=hk'
          rw[InB.mk1 hk'];exact hg') (by omega) (by omega)
        refine⟨true,.slice (some ⟨q,0,none⟩) (n+1) gc,τ',_,rfl,by rw[hN.out,hmu];simp[hlt],h1,⟨?_,?_,?_,?_,?_⟩,?_,h2⟩
        · rw[Mem.put_other _ _ (by omega),Mem.put_same]
        · rw[Mem.put_other _ _ (by omega),Mem.put_other _ _ (by omega)];exact HL.out.r
        · rw[Mem.put_other _ _ (by omega),Mem.put_other _ _ (by omega)];exact HL.out.k
        · rw[Mem.put_other _ _ (by omega),Mem.put_other _ _ (by omega)];exact HL.out.h
        · rw[Mem.put_same];rfl
        · exact(Mem.Only.put M _ ⟨by omega,by omega⟩).trans (Mem.Only.put _ _ ⟨by omega,by omega⟩)
      clear hr3 hg3 f3 ka q4 p4 va vb vc vd v1 v4 r4;go_wp2;go_ret;exact hP.out
  · have g2:((n:Int)≥mu):=by omega
    have hP:Hid (UndoPost w τ M g lp L x (.returned (.bool false)) W0.drew):=⟨false,L.vu,τ,M,rfl,by rw[hN.out,hmu];simp;omega,H.out.calm kd,HL.out,Mem.Only.refl _ _,KeepT.calm τ kd⟩;go_wp2;go_ret;exact hP.out
def LogD.empty (L:LogD):LogD:={ L with vr:=.slice none 0 0,vk:=.slice none 0 0,vh:=.slice none 0 0,vu:=.slice none 0 0,reads:=[],keeps:=[],holds:=[],undos:=[] }
def ResetPost (w:World)(τ:Nat→Nat)(M:Mem)(g lp:Nat)(L:LogD)(e:Ending)(w':World):Prop:=
  ∃M',e = .returned (.tuple #[])∧Hold w' τ M'∧LogIn M' g lp L.empty∧Mem.Only (fun t=>g+1≤t∧t≤g+5) M M'∧KeepT w τ w' τ
theorem owns_nil (w:World)(base:Nat)(e:TypeId)(k:Nat):w.ownsRow base e k (.slice none 0 0) 0 []:=World.ownsRow_nil _ _ _ _
theorem log_reset (h:Hold w τ M)(hl:LogIn M g lp L)(hg:g≤400) :
    Calls Tryz.prog 177 #[pV lp] w (ResetPost w τ M g lp L):=by
  have hc:=hl.cells h;have y2:=(hc 2 _ rfl).1;have y3:=(hc 3 _ rfl).1;have y4:=(hc 4 _ rfl).1;have y5:=(hc 5 _ rfl).1;have z2:=(hc 2 _ rfl).2;have z3:=(hc 3 _ rfl).2;have z4:=(hc 4 _ rfl).2;have z5:=(hc 5 _ rfl).2;have hC:=(((hc.set 2 (.slice none 0 0) (by simp)).set 3 (.slice none 0 0) (by simp)).set 4 (.slice none 0 0) (by simp)).set 5 (.slice none 0 0) (by simp)
  have fr:Fr (fun k=>k=lp) w ((((w.setCell ⟨lp,2,none⟩ (.slice none 0 0)).setCell ⟨lp,3,none⟩ (.slice none 0 0)).setCell ⟨lp,4,none⟩ (.slice none 0 0)).setCell ⟨lp,5,none⟩ (.slice none 0 0)):=
    ((((Fr.refl (fun k=>k=lp) w).setCell (p:=⟨lp,2,none⟩) (.inl rfl) _).setCell (p:=⟨lp,3,none⟩) (.inl rfl) _).setCell (p:=⟨lp,4,none⟩) (.inl rfl) _).setCell (p:=⟨lp,5,none⟩) (.inl rfl) _
  have h1:=h.put' (t:=g+1) (a:=aCells lp (vI L.mr) [vI L.mu,.slice none 0 0,.slice none 0 0,.slice none 0 0,.slice none 0 0]) (by rw[hl.blk1];exact fr) hC (fun k hk=>by rw[hl.blk1];exact hk);have h2:=h1.put' (t:=g+2) (a:=aRow (.slice none 0 0) []) (Fr.refl _ _) (ORow.nil _ _) (fun k hk=>(InB.nil k hk).elim);have h3:=h2.put' (t:=g+3) (a:=aRow (.slice none 0 0) []) (Fr.refl _ _) (ORow.nil _ _) (fun k hk=>(InB.nil k hk).elim);have h4:=h3.put' (t:=g+4) (a:=aHds (.slice none 0 0) []) (Fr.refl _ _) (owns_nil _ _ _ _) (fun k hk=>(InB.nil k hk).elim);have h5:=h4.put' (t:=g+5) (a:=aUds (.slice none 0 0) []) (Fr.refl _ _) (owns_nil _ _ _ _) (fun k hk=>(InB.nil k hk).elim)
  have hP:Hid (ResetPost w τ M g lp L (.returned (.tuple #[])) ((((w.setCell ⟨lp,2,none⟩ (.slice none 0 0)).setCell ⟨lp,3,none⟩ (.slice none 0 0)).setCell ⟨lp,4,none⟩ (.slice none 0 0)).setCell ⟨lp,5,none⟩ (.slice none 0 0))):=by
    refine⟨_,rfl,h5,⟨?_,?_,?_,?_,?_⟩,?_,KeepT.piece h (t:=g+1) (by rw[hl.blk1];exact fr) (by omega)⟩
    · rw[Mem.put_other _ _ (by omega),Mem.put_other _ _ (by omega),Mem.put_other _ _ (by omega),Mem.put_other _ _ (by omega),Mem.put_same];rfl
    · rw[Mem.put_other _ _ (by omega),Mem.put_other _ _ (by omega),Mem.put_other _ _ (by omega),Mem.put_same];rfl
    · rw[Mem.put_other _ _ (by omega),Mem.put_other _ _ (by omega),Mem.put_same];rfl
    · rw[Mem.put_other _ _ (by omega),Mem.put_same];rfl
    · rw[Mem.put_same];rfl
    · exact((((Mem.Only.put M _ ⟨by omega,by omega⟩).trans (Mem.Only.put _ _ ⟨by omega,by omega⟩)).trans (Mem.Only.put _ _ ⟨by omega,by omega⟩)).trans (Mem.Only.put _ _ ⟨by omega,by omega⟩)).trans (Mem.Only.put _ _ ⟨by omega,by omega⟩)
  clear h1 h2 h3 h4 h5 hC fr hc h hl;go_enter Tryz.func177,Tryz.ntmps177;go_wp2
  go_end0
  exact hP.out
end
end
section
open Go.RowKit Go.Shelf
theorem bound_is (n:Int)(w:World):Calls Tryz.prog 62 #[vI n] w fun e w'=>(∃m:Int,e = .returned (vI m)∧0≤m∧m≤200∧(0≤n→n≤200→m=n))∧w=w':=by
  go_enter Tryz.func62,Tryz.ntmps62;go_wp2
  all_goals
    go_ret;exact⟨⟨_,rfl,by omega,by omega,by omega⟩,rfl⟩
def ClonePost (w:World)(ety:TypeId)(k n:Nat)(xs:List Value)(e:Ending)(w':World):Prop:=
  ∃v',e = .returned v'∧w'.ownsRow 0 ety k v' n xs∧(∀b,InB v' b→w.heap.size≤b)∧Calm w w'
theorem cloneI {w:World}{v:Value}{n:Nat}{xs:List Value}(h:w.ownsRow 0 3 1 v n xs)(h1:∀u∈xs,u.oneCell'=true)(hl:n≤1000000) :
    Calls Tryz.prog 41 #[v] w (ClonePost w 3 1 n xs):=by
  have qT:∀ (w:World) (a:Option Addr) (n c n' c':Nat),(binOp .eql 23 (.slice a n c) (.slice none n' c')).run Tryz.prog w = .ok (.bool a.isNone) w:=fun w a n c n' c'=>Lib.run_eql_slice_nil w _ _ a n c n' c' Tryz.underlying23;have hlen:=h.1
  by_cases hn:v = .slice none 0 0
  · subst hn
    have h0:n=0:=by
      rcases h.2 with ⟨_,h0⟩|⟨g,cap,cur,hv,_⟩
      · exact h0
      · cases hv
    have hP:Hid (ClonePost w 3 1 n xs (.returned (.slice none 0 0)) w):=⟨_,rfl,h,fun b hb=>(InB.nil b hb).elim,Fr.refl _ _⟩;clear h h1;go_enter Tryz.func41,Tryz.ntmps41;go_wp2;go_ret;exact hP.out
  · obtain⟨g,c,rfl,hc⟩:=owns_cells h hn;have hc2:=hid (fun j u hj=>((Fr.refl (fun _=>False) w).alloc (.cells #[] 3)).cellAt (hc j u hj) id);replace h1:=hid h1;replace hlen:=hid hlen;clear h hn;go_enter Tryz.func41,Tryz.ntmps41;go_wp2_with (at_builtin;go_must (refine wpList_appGL giN rfl _ _ rfl (.slice (some ⟨w.heap.size,0,none⟩) 0 0) 0 [] (owns_new w 0 (Nat.zero_le _)) rfl ⟨g,0,none⟩ n c xs rfl hlen.out h1.out (fun j u hj=>by rw[addr_at];simp only[Nat.zero_add];exact hc2.out j u hj) (by omega) ?_);intro v' w3 hr3 f3 hn3;replace hr3:=hid hr3;replace f3:=hid f3;replace hn3:=hid hn3)
    have hP:Hid (ClonePost w 3 1 n xs (.returned v') w3):=by
      refine⟨v',rfl,?_,fun b hb=>?_,?_⟩
      · have:=hr3.out;simpa using this
      · rcases hn3.out b hb with e|e
        · have:=InB.mk1 e;omega
        · simp at e;omega
      · exact Fr.join ((Fr.refl (fun _=>False) w).alloc _) f3.out (fun j hj e=>by have:=InB.mk1 e;omega)
    clear hr3 f3 hn3;go_wp2;go_ret;exact hP.out
theorem cloneH {w:World}{v:Value}{n:Nat}{xs:List Value}(h:w.ownsRow 0 188 2 v n xs)(h1:∀u∈xs,u.oneCell'=true)(hl:n≤1000000) :
    Calls Tryz.prog 176 #[v] w (ClonePost w 188 2 n xs):=by
  have qT:∀ (w:World) (a:Option Addr) (n c n' c':Nat),(binOp .eql 148 (.slice a n c) (.slice none n' c')).run Tryz.prog w = .ok (.bool a.isNone) w:=fun w a n c n' c'=>Lib.run_eql_slice_nil w _ _ a n c n' c' Tryz.underlying148;have hlen:=h.1
  by_cases hn:v = .slice none 0 0
  · subst hn
    have h0:n=0:=by
      rcases h.2 with ⟨_,h0⟩|⟨g,cap,cur,hv,_⟩
      · exact h0
      · cases hv
    have hP:Hid (ClonePost w 188 2 n xs (.returned (.slice none 0 0)) w):=⟨_,rfl,h,fun b hb=>(InB.nil b hb).elim,Fr.refl _ _⟩;clear h h1;go_enter Tryz.func176,Tryz.ntmps176;go_wp2;go_ret;exact hP.out
  · obtain⟨g,c,rfl,hc⟩:=owns_cells h hn;have hc2:=hid (fun j u hj=>((Fr.refl (fun _=>False) w).alloc (.cells #[] 188)).cellAt (hc j u hj) id);replace h1:=hid h1;replace hlen:=hid hlen;clear h hn;go_enter Tryz.func176,Tryz.ntmps176;go_wp2_with (at_builtin;go_must (refine wpList_appGL giH rfl _ _ rfl (.slice (some ⟨w.heap.size,0,none⟩) 0 0) 0 [] (owns_new w 0 (Nat.zero_le _)) rfl ⟨g,0,none⟩ n c xs rfl hlen.out h1.out (fun j u hj=>by rw[addr_at];simp only[Nat.zero_add];exact hc2.out j u hj) (by omega) ?_);intro v' w3 hr3 f3 hn3;replace hr3:=hid hr3;replace f3:=hid f3;replace hn3:=hid hn3)
    have hP:Hid (ClonePost w 188 2 n xs (.returned v') w3):=by
      refine⟨v',rfl,?_,fun b hb=>?_,?_⟩
      · have:=hr3.out;simpa using this
      · rcases hn3.out b hb with e|e
        · have:=InB.mk1 e;omega
        · simp at e;omega
      · exact Fr.join ((Fr.refl (fun _=>False) w).alloc _) f3.out (fun j hj e=>by have:=InB.mk1 e;omega)
    clear hr3 f3 hn3;go_wp2;go_ret;exact hP.out
theorem cloneU {w:World}{v:Value}{n:Nat}{xs:List Value}(h:w.ownsRow 0 191 4 v n xs)(h1:∀u∈xs,u.oneCell'=true)(hl:n≤1000000) :
    Calls Tryz.prog 218 #[v] w (ClonePost w 191 4 n xs):=by
  have qT:∀ (w:World) (a:Option Addr) (n c n' c':Nat),(binOp .eql 149 (.slice a n c) (.slice none n' c')).run Tryz.prog w = .ok (.bool a.isNone) w:=fun w a n c n' c'=>Lib.run_eql_slice_nil w _ _ a n c n' c' Tryz.underlying149;have hlen:=h.1
  by_cases hn:v = .slice none 0 0
  · subst hn
    have h0:n=0:=by
      rcases h.2 with ⟨_,h0⟩|⟨g,cap,cur,hv,_⟩
      · exact h0
      · cases hv
    have hP:Hid (ClonePost w 191 4 n xs (.returned (.slice none 0 0)) w):=⟨_,rfl,h,fun b hb=>(InB.nil b hb).elim,Fr.refl _ _⟩;clear h h1;go_enter Tryz.func218,Tryz.ntmps218;go_wp2;go_ret;exact hP.out
  · obtain⟨g,c,rfl,hc⟩:=owns_cells h hn;have hc2:=hid (fun j u hj=>((Fr.refl (fun _=>False) w).alloc (.cells #[] 191)).cellAt (hc j u hj) id);replace h1:=hid h1;replace hlen:=hid hlen;clear h hn;go_enter Tryz.func218,Tryz.ntmps218;go_wp2_with (at_builtin;go_must (refine wpList_appGL giU rfl _ _ rfl (.slice (some ⟨w.heap.size,0,none⟩) 0 0) 0 [] (owns_new w 0 (Nat.zero_le _)) rfl ⟨g,0,none⟩ n c xs rfl hlen.out h1.out (fun j u hj=>by rw[addr_at];simp only[Nat.zero_add];exact hc2.out j u hj) (by omega) ?_);intro v' w3 hr3 f3 hn3;replace hr3:=hid hr3;replace f3:=hid f3;replace hn3:=hid hn3)
    have hP:Hid (ClonePost w 191 4 n xs (.returned v') w3):=by
      refine⟨v',rfl,?_,fun b hb=>?_,?_⟩
      · have:=hr3.out;simpa using this
      · rcases hn3.out b hb with e|e
        · have:=InB.mk1 e;omega
        · simp at e;omega
      · exact Fr.join ((Fr.refl (fun _=>False) w).alloc _) f3.out (fun j hj e=>by have:=InB.mk1 e;omega)
    clear hr3 f3 hn3;go_wp2;go_ret;exact hP.out
section
variable {w:World}{τ:Nat→Nat}{M:Mem}{g lp:Nat}{L:LogD}
theorem hds_one (l:List Hd):∀u∈l.flatMap hdC,u.oneCell'=true:=by
  intro u hu;obtain⟨x,_,hx⟩:=List.mem_flatMap.1 hu;simp[hdC] at hx;rcases hx with rfl|rfl <;> rfl
theorem uds_one (l:List Ud):∀u∈l.flatMap udC,u.oneCell'=true:=by
  intro u hu;obtain⟨x,_,hx⟩:=List.mem_flatMap.1 hu;simp[udC] at hx;rcases hx with rfl|rfl|rfl|rfl <;> rfl
theorem int_one (l:List Int):∀u∈iVs l,u.oneCell'=true:=by
  intro u hu;obtain⟨x,_,rfl⟩:=List.mem_map.1 hu;rfl
theorem log_reads (h:Hold w τ M)(hl:LogIn M g lp L)(hfew:L.reads.length≤100000) :
    Calls Tryz.prog 129 #[pV lp] w (ClonePost w 3 1 L.reads.length (iVs (nI L.reads))):=by
  have hc:=hl.cells h;have y0:=(hc 2 _ rfl).1;have hr:=hl.rowR h;have hcl:=hid (cloneI (n:=L.reads.length) (by have:=hr;unfold ORow at this;rw[show(nI L.reads).length=L.reads.length by simp] at this;exact this) (int_one _) (by omega))
  obtain⟨sa,sn,sc,hv⟩:∃a n c,L.vr = .slice a n c:=by
    exact hr.letters
  rw[hv] at y0 hcl;clear h hl hc hr;go_enter Tryz.func129,Tryz.ntmps129;go_wp2_with fail
  refine hcl.out.mono ?_;rintro e w1 ⟨v',rfl,hr1,hn1,c1⟩;replace hr1:=hid hr1;replace hn1:=hid hn1;replace c1:=hid c1;go_wp2;go_ret;exact⟨v',rfl,hr1.out,hn1.out,c1.out⟩
theorem log_holds (h:Hold w τ M)(hl:LogIn M g lp L)(hfew:L.holds.length≤100000) :
    Calls Tryz.prog 127 #[pV lp] w (ClonePost w 188 2 L.holds.length (L.holds.flatMap hdC)):=by
  have hc:=hl.cells h;have y0:=(hc 4 _ rfl).1;have hr:=hl.rowH h;have hcl:=hid (cloneH (n:=L.holds.length) (by exact hr) (hds_one _) (by omega))
  obtain⟨sa,sn,sc,hv⟩:∃a n c,L.vh = .slice a n c:=by
    obtain⟨a,c,e⟩:=owns_slice hr;exact⟨a,_,c,e⟩
  rw[hv] at y0 hcl;clear h hl hc hr;go_enter Tryz.func127,Tryz.ntmps127;go_wp2_with fail
  refine hcl.out.mono ?_;rintro e w1 ⟨v',rfl,hr1,hn1,c1⟩;replace hr1:=hid hr1;replace hn1:=hid hn1;replace c1:=hid c1;go_wp2;go_ret;exact⟨v',rfl,hr1.out,hn1.out,c1.out⟩
theorem log_undos (h:Hold w τ M)(hl:LogIn M g lp L)(hfew:L.undos.length≤100000) :
    Calls Tryz.prog 194 #[pV lp] w (ClonePost w 191 4 L.undos.length (L.undos.flatMap udC)):=by
  have hc:=hl.cells h;have y0:=(hc 5 _ rfl).1;have hr:=hl.rowU h;have hcl:=hid (cloneU (n:=L.undos.length) (by exact hr) (uds_one _) (by omega))
  obtain⟨sa,sn,sc,hv⟩:∃a n c,L.vu = .slice a n c:=by
    obtain⟨a,c,e⟩:=owns_slice hr;exact⟨a,_,c,e⟩
  rw[hv] at y0 hcl;clear h hl hc hr;go_enter Tryz.func194,Tryz.ntmps194;go_wp2_with fail
  refine hcl.out.mono ?_;rintro e w1 ⟨v',rfl,hr1,hn1,c1⟩;replace hr1:=hid hr1;replace hn1:=hid hn1;replace c1:=hid c1;go_wp2;go_ret;exact⟨v',rfl,hr1.out,hn1.out,c1.out⟩
end
def LogD.new (mr mu:Int):LogD:=⟨mr,mu,.slice none 0 0,.slice none 0 0,.slice none 0 0,.slice none 0 0,[],[],[],[]⟩
theorem log_new (w:World)(r u:Int):Calls Tryz.prog 34 #[vI r,vI u] w fun e w'=>∃mr mu:Int,e = .returned (pV w.heap.size)∧OwnL w' w.heap.size [vI mr,vI mu,.slice none 0 0,.slice none 0 0,.slice none 0 0,.slice none 0 0]∧Calm w w'∧0≤mr∧mr≤200∧0≤mu∧mu≤200:=by
  go_enter Tryz.func34,Tryz.ntmps34;go_wp2_with fail
  refine(bound_is r _).mono ?_;rintro e w1 ⟨⟨mr,rfl,a1,a2,-⟩,rfl⟩;go_wp2_with fail
  refine(bound_is u _).mono ?_;rintro e w2 ⟨⟨mu,rfl,b1,b2,-⟩,rfl⟩;go_wp2;go_ret;exact⟨mr,mu,rfl,OwnL.new w [vI mr,vI mu,.slice none 0 0,.slice none 0 0,.slice none 0 0,.slice none 0 0] _,(Fr.refl _ _).alloc _,a1,a2,b1,b2⟩
end
end Go.Proofs.YtdffnjikmkgjkaaGreat
