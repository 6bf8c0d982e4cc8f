/- TopMemory: a part of its proof (HeapD). -/
import Derived.Test.YtdffnjikmkgjkaaGreatTmAA
import Derived.Test.YtdffnjikmkgjkaaGreatTmAF
set_option linter.unusedSimpArgs false
set_option linter.unusedVariables false
set_option maxHeartbeats 4000000
namespace Go.Proofs.YtdffnjikmkgjkaaGreat
section
open Go.RowKit Go.Shelf
theorem OldAt.of_mem {s:HS}{p:Nat}(h:p∈opl s.old):∃i o m,OldAt s i p o m:=by
  obtain⟨x,hx,rfl⟩:=List.mem_map.1 h;obtain⟨i,hi,e⟩:=List.getElem_of_mem hx;exact⟨i,x.2.1,x.2.2,hi,by simp[List.getD,hi,e]⟩
inductive Goes (s:HS) (p:Nat):HS→Nat→Prop
  | stay (h:p∉opl s.old):Goes s p s p
  | gone {i t:Nat} {o:Ob} (c:OldAt s i p o (some t)):Goes s p s t
  | move {i:Nat} {o:Ob} (c:OldAt s i p o none):Goes s p (s.move i) s.top
def MovedPost (w:World)(B:HB)(s:HS)(p:Nat)(e:Ending)(w':World):Prop:=
  ∃s' q,Goes s p s' q∧e = .returned (vI (q:Nat))∧∃B' X',HAt w' B' s' X'∧HKeep w B w' B'
theorem hmoved {w:World}{B:HB}{s:HS}{X:List Nat}(h:HAt w B s X){p:Nat}(hp:p≤131072) :
    Calls Tryz.prog 112 #[hpV B,vI p] w (MovedPost w B s p):=by
  by_cases hm:p∈opl s.old
  · obtain⟨i,o,m,c⟩:=OldAt.of_mem hm
    cases m with
    | some t=>
      have hg:Gone X p t:=by
        have:=(h.rep.half.ol.at i c.lt).2.2.2;rw[c.get] at this;exact this
      cases hu:s.u
      · exact(hgone_0 h hu c hp hg).mono (fun e w' ⟨h1,h2⟩=>⟨s,t,.gone c,h1,B,X,h.calm h2,HKeep.calm B h2⟩)
      · exact(hgone_1 h hu c hp hg).mono (fun e w' ⟨h1,h2⟩=>⟨s,t,.gone c,h1,B,X,h.calm h2,HKeep.calm B h2⟩)
    | none=>
      cases hu:s.u
      · exact(hmove_0 h hu c hp).mono (fun e w' ⟨h1,B',X',h2,h3⟩=>⟨_,_,.move c,h1,B',X',h2,h3⟩)
      · exact(hmove_1 h hu c hp).mono (fun e w' ⟨h1,B',X',h2,h3⟩=>⟨_,_,.move c,h1,B',X',h2,h3⟩)
  · exact(hmoved_not h ⟨by omega,by omega⟩ (fun e=>hm (mem_nI.1 e))).mono (fun e w' ⟨h1,h2⟩=>⟨s,p,.stay hm,h1,B,X,h.calm h2,HKeep.calm B h2⟩)
theorem halloc_yes {w:World}{B:HB}{s:HS}{X:List Nat}(h:HAt w B s X){p d:Nat}{wk fn:Bool}(hok:okS p d wk fn)
    (hr:rnd ((3+p+d:Nat):Int)≤s.room) (hs:s.ser<1099511627776) (hf:s.weak.length<100000∧s.fin.length<100000) :
    Calls Tryz.prog 183 #[hpV B,shV p d wk fn] w fun e w'=>e = .returned (.tuple #[vI (s.top:Nat),vI 0])∧∃B' X',HAt w' B' (s.alloc p d wk fn) X'∧HKeep w B w' B':=by
  cases hu:s.u
  · exact halloc_0 h hu hok hr hs hf
  · exact halloc_1 h hu hok hr hs hf
set_option maxRecDepth 100000 in
theorem halloc_no {w:World}{B:HB}{s:HS}{X:List Nat}(h:HAt w B s X){p d:Nat}{wk fn:Bool}(hok:okS p d wk fn)(hr:s.room<rnd ((3+p+d:Nat):Int)) :
    Calls Tryz.prog 183 #[hpV B,shV p d wk fn] w fun e w'=>e = .returned (.tuple #[vI 0,vI 100])∧Calm w w':=by
  have p8:=hok.1;have d8:=hok.2.1;obtain⟨n,hn⟩:∃n,3+p+d=n:=⟨_,rfl⟩;have hcast:(3:Int)+p+d=(n:Int):=by rw[←hn];push_cast;rfl
  have hn19:n≤19:=by omega
  have hn3:3≤n:=by omega
  obtain⟨R,hR⟩:∃R:Nat,rnd (n:Int)=(R:Int):=⟨(rnd (n:Int)).toNat,by have:=rnd_spec (n:=(n:Int)) (by omega);omega⟩;rw[hn,hR] at hr;have hrm:=hid (fun W (c:Calm w W)=>room_is (h.calm c));obtain⟨RM,hRM⟩:∃RM,s.room=RM:=⟨_,rfl⟩;rw[hRM] at hr hrm;replace hok:=hid hok;clear h hRM;go_enter Tryz.func183,Tryz.ntmps183;go_wp2_with fail
  have k1:Calm w (w.alloc (.cells #[vI p,vI d,.bool wk,.bool fn] 47)):=(Fr.refl _ _).alloc _;refine(size_yes p d wk fn hok.out _).mono ?_;rintro e w2 ⟨rfl,k2⟩;rw[hcast];clear hcast;replace hn:=hid hn;replace hR:=hid hR;replace k2:=k1.trans k2;clear k1;go_wp2_with fail
  refine(round_yes n (by omega) (by omega) _).mono ?_;rintro e w3 ⟨rfl,k3⟩;rw[hR.out];replace k3:=k2.trans k3;clear k2;go_wp2_with fail
  refine(hrm.out _ k3).mono ?_;rintro e w4 ⟨rfl,k4⟩;replace k4:=k3.trans k4;go_wp2
  go_ret2
  exact⟨rfl,k4⟩
section
variable {w:World}{B:HB}{s:HS}{X:List Nat}
theorem hshape_no (h:HAt w B s X){a:Int}(ha:I64 a)(hm:a∉nI (plc s.cur)) :
    Calls Tryz.prog 49 #[hpV B,vI a] w fun e w'=>e = .returned (.tuple #[shV 0 0 false false,.bool false,vI 70])∧Calm w w':=by
  have hh:=hid (fun W (c:Calm w W)=>here_no (h.calm c) ha hm);clear h hm;go_enter Tryz.func49,Tryz.ntmps49;go_wp2_with fail
  have k1:Calm w (w.alloc (.cells #[vI 0,vI 0,.bool false,.bool false] 47)):=(Fr.refl _ _).alloc _;have o1:=OwnL.new w [vI 0,vI 0,.bool false,.bool false] 47;refine(hh.out _ k1).mono ?_;rintro e w1 ⟨rfl,c1⟩;replace o1:=o1.calm c1;replace k1:=k1.trans c1;obtain⟨m0,n0⟩:=o1 0 _ rfl;obtain⟨m1,n1⟩:=o1 1 _ rfl;obtain⟨m2,n2⟩:=o1 2 _ rfl;obtain⟨m3,n3⟩:=o1 3 _ rfl;go_wp2;have o2:=o1.set4 (vI 0) (vI 0) (.bool false) (.bool false);have c3:Calm w _:=k1.join o2.2 (by intros;omega);have z:=o2.1;generalize World.setCell _ _ _=w3 at *;obtain⟨z0,z1,z2,z3⟩:=OwnL.ce4 z;exact bodyPost_ret (v:=.tuple #[shV 0 0 false false,.bool false,vI 70]) (by simp[results,Tryz.f49,go_sem,z0,z1,z2,z3]) rfl ⟨rfl,c3⟩
theorem hshape_yes (h:HAt w B s X){i a:Nat}{o:Ob}(c:CurAt s i a o) :
    Calls Tryz.prog 49 #[hpV B,vI a] w fun e w'=>e = .returned (.tuple #[shV o.p o.d o.wk o.fn,.bool o.fr,vI 0])∧Calm w w':=by
  have hh:=hid (fun W (k:Calm w W)=>here_yes (h.calm k) c.mem (c.le h.rep));have y0:=(h.own (i:=0) (v:=arV B.ap) rfl).1;have ha:=hid (c.at_ h.rep);have hlt:=h.lt_hp;have H:=hid h;clear h;go_enter Tryz.func49,Tryz.ntmps49;go_wp2_with fail
  have k1:Calm w (w.alloc (.cells #[vI 0,vI 0,.bool false,.bool false] 47)):=(Fr.refl _ _).alloc _;have o1:=OwnL.new w [vI 0,vI 0,.bool false,.bool false] 47;refine(hh.out _ k1).mono ?_;rintro e w1 ⟨rfl,c1⟩;replace o1:=o1.calm c1;replace k1:=k1.trans c1;replace y0:=k1.cellAt y0 id;have arx:=hid (H.out.ar.calm k1);clear c1;go_wp2_with fail
  refine(at_shape arx.out ha.out).mono ?_;rintro e w2 ⟨rfl,c2⟩;replace o1:=o1.calm c2;replace k1:=k1.trans c2;obtain⟨m0,n0⟩:=o1 0 _ rfl;obtain⟨m1,n1⟩:=o1 1 _ rfl;obtain⟨m2,n2⟩:=o1 2 _ rfl;obtain⟨m3,n3⟩:=o1 3 _ rfl;go_wp2;have o2:=o1.set4 (vI o.p) (vI o.d) (.bool o.wk) (.bool o.fn);have c3:Calm w _:=k1.join o2.2 (by intros;omega);have z:=o2.1;generalize World.setCell _ _ _=w3 at *;obtain⟨z0,z1,z2,z3⟩:=OwnL.ce4 z;exact bodyPost_ret (v:=.tuple #[shV o.p o.d o.wk o.fn,.bool o.fr,vI 0]) (by simp[results,Tryz.f49,go_sem,z0,z1,z2,z3]) rfl ⟨rfl,c3⟩
theorem hsetptr_if (h:HAt w B s X){i a:Nat}{o:Ob}(c:CurAt s i a o){bp:Bool}{k:Int}{v:Nat}(hk:Has bp k o.p)(hv:v=0∨v∈plc s.cur)(hv2:v≤131072) :
    Calls Tryz.prog 136 #[hpV B,vI a,vI k,vI v] w fun e w'=>e = .returned (vI (bif bp then 0 else 71))∧∃X',HAt w' B (s.upd i (o.setp bp k v)) X'∧HKeep w B w' B:=by
  replace hk:=hid hk;replace hv2:=hid hv2;have hh:=hid (here_yes h c.mem (c.le h.rep));have ha:=hid (c.at_ h.rep);have y0:=(h.own (i:=0) (v:=arV B.ap) rfl).1;have H:=hid h;clear h
  by_cases hz:v=0
  · subst hz;go_enter Tryz.func136,Tryz.ntmps136;go_wp2_with fail
    refine(hh.out).mono ?_;rintro e w1 ⟨rfl,c1⟩;replace y0:=c1.cellAt y0 id;replace H:=hid (H.out.calm c1);go_wp2_with fail
    refine(at_setptr_if (v:=0) H.out.ar ha.out hk.out hv2.out).mono ?_;rintro e w2 ⟨rfl,ar2,f2⟩;have ht:=hid (H.out.turn c ar2 f2 (o':=o.setp bp k 0) (by cases bp <;> simp) (Has.at_ptr ha.out hk.out hv2.out) (o.setp_same bp k 0) (fun j hj=>by have hk:=hk.out;simp only[Ob.size] at hj;rcases hk with ⟨rfl,h1,h2⟩|⟨rfl,h1⟩ <;> simp only[cond_true,cond_false];rw[getD_set,if_neg (by omega)]));have hk0:=HKeep.calm B c1;go_wp2;go_ret;exact⟨rfl,_,ht.out.1,hk0.trans ht.out.2⟩
  · have hvm:=hv.resolve_left hz;have hh2:=hid (fun W (c:Calm w W)=>here_yes (H.out.calm c) hvm hv2.out);have hz1:¬((v:Int)=0):=by omega
    replace hvm:=hid hvm;go_enter Tryz.func136,Tryz.ntmps136;go_wp2_with fail
    refine(hh.out).mono ?_;rintro e w1 ⟨rfl,c1⟩;replace y0:=c1.cellAt y0 id;replace H:=hid (H.out.calm c1);go_wp2_with fail
    refine(hh2.out _ c1).mono ?_;rintro e w2 ⟨rfl,c2⟩;replace y0:=c2.cellAt y0 id;replace H:=hid (H.out.calm c2);go_wp2_with fail
    refine(at_setptr_if H.out.ar ha.out hk.out hv2.out).mono ?_;rintro e w3 ⟨rfl,ar2,f2⟩;have ht:=hid (H.out.turn c ar2 f2 (o':=o.setp bp k v) (by cases bp <;> simp) (Has.at_ptr ha.out hk.out hv2.out) (o.setp_same bp k v) (fun j hj=>by have hk:=hk.out;simp only[Ob.size] at hj;rcases hk with ⟨rfl,h1,h2⟩|⟨rfl,h1⟩ <;> simp only[cond_true,cond_false];rw[getD_set,if_neg (by omega)]));have hk0:=(HKeep.calm B c1).trans (HKeep.calm B c2);go_wp2;go_ret;exact⟨rfl,_,ht.out.1,hk0.trans ht.out.2⟩
theorem hptr_field (h:HAt w B s X){i a:Nat}{o:Ob}(c:CurAt s i a o){k:Int}(hk:k<0∨(o.p:Int)≤k) :
    Calls Tryz.prog 138 #[hpV B,vI a,vI k] w fun e w'=>e = .returned (.tuple #[vI 0,vI 71])∧Calm w w':=by
  replace hk:=hid hk;have hh:=hid (here_yes h c.mem (c.le h.rep));have y0:=(h.own (i:=0) (v:=arV B.ap) rfl).1;have ha:=hid (c.at_ h.rep);have H:=hid h;clear h;go_enter Tryz.func138,Tryz.ntmps138;go_wp2_with fail
  refine(hh.out).mono ?_;rintro e w1 ⟨rfl,c1⟩;replace y0:=c1.cellAt y0 id;replace H:=hid (H.out.calm c1);go_wp2_with fail
  refine(at_ptr_no H.out.ar ha.out hk.out).mono ?_;rintro e w2 ⟨rfl,c2⟩;go_wp2
  go_ret2
  exact⟨rfl,c1.trans c2⟩
theorem get_mem' {α:Type}{l:List α}{i:Nat}(d:α)(h:i<l.length):l.getD i d∈l:=by simp[List.getD,h]
theorem Goes.cur {s s':HS}{p q:Nat}(g:Goes s p s' q){i a:Nat}{o:Ob}(c:CurAt s i a o):CurAt s' i a o:=by
  cases g with
  | stay _=>exact c
  | gone _=>exact c
  | @move j u m=>
    have e:(s.move j).cur=s.cur++[(s.top,(s.old.getD j oo).2.1)]:=rfl;refine⟨by rw[e,List.length_append];have:=c.lt;omega,?_⟩;rw[e];have:=c.get;have hl:=c.lt;simp only[List.getD,List.getElem?_append_left hl] at *;exact this
theorem Goes.here {s s':HS}{X:List Nat}(h:HRep s X){p q:Nat}(g:Goes s p s' q)(hp:p=0∨p∈plc s.cur∨p∈opl s.old):q=0∨q∈plc s'.cur:=by
  cases g with
  | stay hn=>
    rcases hp with hp|hp|hp
    · exact .inl hp
    · exact .inr hp
    · exact absurd hp hn
  | gone c=>
    obtain⟨j,h1,h2,_⟩:=h.half.gone _ c.lt _ (by rw[c.get]);refine .inr (List.mem_map.2 ⟨s.cur.getD j ob0,get_mem' ob0 h1,?_⟩);rw[(h.place h1).1];exact h2
  | move m=>exact .inr (List.mem_map.2 ⟨_,List.mem_append.2 (.inr (List.mem_singleton.2 rfl)),rfl⟩)
theorem HRep.plc_le {s:HS}{X:List Nat}(h:HRep s X){q:Nat}(hq:q∈plc s.cur):q≤131072:=by
  obtain⟨i,o,c⟩:=CurAt.of_mem hq;exact c.le h
def PtrPost (w:World)(B:HB)(s:HS)(i:Nat)(o:Ob)(k:Nat)(e:Ending)(w':World):Prop:=
  ∃s' q,Goes s (o.ps.getD k 0) s' q∧e = .returned (.tuple #[vI (q:Nat),vI 0])∧∃B' X',HAt w' B' (s'.upd i (o.setp true k q)) X'∧HKeep w B w' B'
theorem hptr_yes (h:HAt w B s X){i a:Nat}{o:Ob}(c:CurAt s i a o){k:Nat}(hk:k<o.p)(hq:o.ps.getD k 0=0∨o.ps.getD k 0∈plc s.cur∨o.ps.getD k 0∈opl s.old) :
    Calls Tryz.prog 138 #[hpV B,vI a,vI k] w (PtrPost w B s i o k):=by
  have hh:=hid (here_yes h c.mem (c.le h.rep));have y0:=(h.own (i:=0) (v:=arV B.ap) rfl).1;have ha:=hid (c.at_ h.rep);have H:=hid h;have hks:=hid hk;obtain⟨q,hqe⟩:∃q,o.ps.getD k 0=q:=⟨_,rfl⟩
  have hq2:q≤131072:=by
    rw[hqe] at hq;rcases hq with hq|hq|hq
    · omega
    · exact h.rep.plc_le hq
    · obtain⟨j,u,m,c2⟩:=OldAt.of_mem hq;have h1:=(h.rep.half.ol.at j c2.lt).2.1;rw[c2.get] at h1;have h1:q+u.took≤s.otop:=h1;have h2:=h.rep.top_le;have h3:=h.rep.sep;have h4:=h.rep.n2;have h5:=h.rep.len;omega
  rw[hqe] at hq;replace hq:=hid hq;clear h hk
  by_cases ht:q∈opl s.old
  · have hth:=hid (fun W (cw:Calm w W)=>(there_is (H.out.calm cw) q ⟨by omega,by omega⟩).mono (fun e w' (h:e=_∧_)=>(⟨by rw[h.1,decide_eq_true (mem_nI.2 ht)],h.2⟩:e = .returned (.bool true)∧Calm W w')));have hmv:=hid (fun W (cw:Calm w W)=>hmoved (H.out.calm cw) hq2);replace ht:=hid ht;replace hq2:=hid hq2;go_enter Tryz.func138,Tryz.ntmps138;go_wp2_with fail
    refine(hh.out).mono ?_;rintro e w1 ⟨rfl,c1⟩;replace y0:=c1.cellAt y0 id;have ar1:=hid (H.out.ar.calm c1);go_wp2_with fail
    refine(at_ptr ar1.out ha.out hks.out).mono ?_;rintro e w2 ⟨rfl,c2⟩;rw[hqe];replace c2:=c1.trans c2;clear c1 ar1;go_wp2_with fail
    refine(hth.out _ c2).mono ?_;rintro e w3 ⟨rfl,c3⟩;replace c3:=c2.trans c3;clear c2;go_wp2_with fail
    refine(hmv.out _ c3).mono ?_;rintro e w4 ⟨s',q',hg,rfl,B',X',hA,hK⟩;have hB:=hK.hp;have hc':=hid (hg.cur c);have ho':=hid (hg.here H.out.rep hq.out);have hk3:=hid ((HKeep.calm B c3).trans hK);replace hg:=hid hg;have ya:=(hA.own (i:=0) (v:=arV B'.ap) rfl).1;rw[hB] at ya;have hA':=hid hA;clear y0 hK hA c3;go_wp2_with fail
    have hq3:q'≤131072:=by
      rcases ho'.out with h|h
      · omega
      · exact hA'.out.rep.plc_le h
    have hat:=hid (hc'.out.at_ hA'.out.rep);have hbp:Has true (k:Int) o.p:=Has.lt (by omega) (by have:=hks.out;omega);replace hbp:=hid hbp;replace hq3:=hid hq3;refine(at_setptr hA'.out.ar hat.out hks.out hq3.out).mono ?_;rintro e w5 ⟨rfl,ar5,f5⟩;have hfin:=hid (hA'.out.turn hc'.out ar5 f5 (o':=o.setp true k q') (by simp) (Has.at_ptr hat.out hbp.out hq3.out) (o.setp_same true k q') (fun j hj=>by have hk:=hks.out;simp only[Ob.size] at hj;rw[getD_set,if_neg (by omega)]));go_wp2
    go_ret2
    exact⟨s',q',by rw[hqe];exact hg.out,rfl,B',_,hfin.out.1,hk3.out.trans hfin.out.2⟩
  · have hth:=hid (fun W (cw:Calm w W)=>(there_is (H.out.calm cw) q ⟨by omega,by omega⟩).mono (fun e w' (h:e=_∧_)=>(⟨by rw[h.1,decide_eq_false (fun e=>ht (mem_nI.1 e))],h.2⟩:e = .returned (.bool false)∧Calm W w')));replace ht:=hid ht;replace hq2:=hid hq2;go_enter Tryz.func138,Tryz.ntmps138;go_wp2_with fail
    refine(hh.out).mono ?_;rintro e w1 ⟨rfl,c1⟩;replace y0:=c1.cellAt y0 id;have ar1:=hid (H.out.ar.calm c1);go_wp2_with fail
    refine(at_ptr ar1.out ha.out hks.out).mono ?_;rintro e w2 ⟨rfl,c2⟩;rw[hqe];replace c2:=c1.trans c2;clear c1 ar1;go_wp2_with fail
    refine(hth.out _ c2).mono ?_;rintro e w3 ⟨rfl,c3⟩;replace c3:=c2.trans c3;go_wp2
    go_ret2
    have e1:o.setp true k q=o:=by
      unfold Ob.setp;simp only[cond_true,Int.toNat_natCast,←hqe]
      have:o.ps.set k (o.ps.getD k 0)=o.ps:=by
        apply List.ext_getElem (by simp);intro j h1 h2;rw[List.getElem_set];split
        · rename_i e;subst e;simp[List.getD,h2]
        · rfl
      rw[this]
    refine⟨s,q,by rw[hqe];exact .stay ht.out,rfl,B,X,?_,HKeep.calm B c3⟩;rw[e1,upd_same c];exact H.out.calm c3
end
end
section
open Go.RowKit Go.Shelf
theorem scanned_is {w:World}{B:HB}{s:HS}{X:List Nat}(h:HAt w B s X){S:Bool}(hS:((s.scan:Int)==(s.top:Int))=S) :
    Calls Tryz.prog 115 #[hpV B] w fun e w'=>e = .returned (.bool S)∧Calm w w':=by
  have ys:=h.rd 12 (vI s.scan) rfl;cases hu:s.u
  · have y9:=h.rd 9 (vI 0) (by simp[hcells,hu]);have y3:=h.rd 3 (vI s.top) (by simp[hcells,hu]);clear h hu;obtain⟨T,hT⟩:∃T:Int,(s.top:Int)=T:=⟨_,rfl⟩;obtain⟨V,hV⟩:∃T:Int,(s.scan:Int)=T:=⟨_,rfl⟩;rw[hT] at y3 hS;rw[hV] at ys hS;clear hT hV;go_enter Tryz.func115,Tryz.ntmps115;go_wp2;refine wp_region_calm (by kernel_rfl) (by kernel_rfl) ?_
    repeat (go_big_quiet_step (fail))
    refine wpQuiet_nil ?_;intro w2 hw';have c2:=Later.out hw';clear hw' y9 y3 ys;go_wp2;go_ret;exact⟨rfl,c2⟩
  · have y9:=h.rd 9 (vI 1) (by simp[hcells,hu]);have y3:=h.rd 6 (vI s.top) (by simp[hcells,hu]);clear h hu;obtain⟨T,hT⟩:∃T:Int,(s.top:Int)=T:=⟨_,rfl⟩;obtain⟨V,hV⟩:∃T:Int,(s.scan:Int)=T:=⟨_,rfl⟩;rw[hT] at y3 hS;rw[hV] at ys hS;clear hT hV;go_enter Tryz.func115,Tryz.ntmps115;go_wp2;refine wp_region_calm (by kernel_rfl) (by kernel_rfl) ?_
    repeat (go_big_quiet_step (fail))
    refine wpQuiet_nil ?_;intro w2 hw';have c2:=Later.out hw';clear hw' y9 y3 ys;go_wp2;go_ret;exact⟨rfl,c2⟩
def Ob.setK (o:Ob)(l:List Nat)(k:Nat):Ob:={ o with ps:=l.take k++o.ps.drop k }
def Ob.setS (o:Ob)(l:List Nat):Ob:=o.setK l l.length
theorem Ob.setK_zero (o:Ob)(l:List Nat):o.setK l 0=o:=by simp[Ob.setK]
theorem Ob.setK_succ (o:Ob)(l:List Nat){k:Nat}(hk:k<l.length)(hp:k<o.ps.length):o.setK l (k+1) = { o.setK l k with ps:=(o.setK l k).ps.set k (l.getD k 0) }:=by
  unfold Ob.setK
  have:l.take (k+1)++o.ps.drop (k+1)=(l.take k++o.ps.drop k).set k (l.getD k 0):=by
    have e:=List.drop_eq_getElem_cons hp;rw[take_succ_getD l hk,e,List.set_append_right _ _ (by simp;omega)];have e2:k-(l.take k).length=0:=by simp;omega
    rw[e2,List.set_cons_zero,List.append_assoc];rfl
  rw[this]
theorem Ob.setS_same (o:Ob)(l:List Nat):SameK o (o.setS l):=⟨rfl,rfl,rfl,rfl,rfl⟩
def SetSt (w0:World)(b c:Nat)(xs:List Nat)(a:Nat)(o:Ob)(l:List Nat)(k:Nat)(wr:World):Prop:=
  ∃xs',Ar wr b c xs'∧xs'.length=xs.length∧At xs' a (o.setK l k)∧(∀j,j<a∨a+o.size≤j→xs'.getD j 0=xs.getD j 0)∧Fr (fun k=>k=c) w0 wr
theorem setstrong_yes {w:World}{b c:Nat}{xs:List Nat}(h:Ar w b c xs){a:Nat}{o:Ob}(ho:At xs a o){v:Value}{l:List Nat}(hr:ORow w 0 v (nI l))(hnv:¬InB v c)(hl:l.length=o.strong.length)(hb:∀x∈l,x≤131072) :
    Calls Tryz.prog 117 #[arV b,vI a,v] w fun e w'=>e = .returned (vI 0)∧SetSt w b c xs a o l l.length w':=by
  have hle:=Ob.strong_le ho.ok;have hlp:=ho.ok.lp;have p8:=ho.ok.sh.1;obtain⟨n,hn⟩:∃n,l.length=n:=⟨_,rfl⟩;rw[hn] at hl;rw[hn];obtain⟨sa,sc,rfl⟩:=hr.sliceN (n:=n) (by simp[hn]);have hR:=hid hr;have HA:=hid h;have HO:=hid ho;have hcnt:=hid (fun W=>strcnt_yes W o ho.ok);rw[←hl] at hcnt hle;replace hn:=hid hn;replace hlp:=hid hlp;replace hb:=hid hb;replace hnv:=hid hnv;clear h ho hr hl;go_enter Tryz.func117,Tryz.ntmps117;go_wp2_with fail
  refine(at_shape HA.out HO.out).mono ?_;rintro e w1 ⟨rfl,c1⟩;have o7:=OwnL.new w1 [vI o.p,vI o.d,.bool o.wk,.bool o.fn] 47;replace c1:=c1.alloc (.cells #[vI o.p,vI o.d,.bool o.wk,.bool o.fn] 47);obtain⟨x0,x1,x2,x3⟩:=OwnL.ce4 o7;go_wp2_with (first|(go_at_call 168;refine(hcnt.out _).mono ?_;rintro e w2 ⟨rfl,c2⟩))
  replace c1:=c1.trans c2;clear c2 x0 x1 x2 x3 o7 hcnt;go_loopw [32] (fun i wr=>∃k:Nat,k≤n∧i=vI k∧Calm w wr) (fun i _=>n-(intOf i).toNat)
  case atStart=>exact⟨0,by omega,rfl,c1⟩
  case round=>
    obtain⟨k,hk,rfl,ck⟩:=hrel;rcases Nat.lt_or_ge k n with hlt|hge
    · have hkl:k<l.length:=by rw[hn.out];exact hlt
      obtain⟨g,gc,hv,_,hg0,_⟩:=(hR.out.calm ck).get (k:=k) (by simpa using hkl);injection hv with hv1 hv2 hv3
      subst hv1;rw[show(nI l).getD k 0=((l.getD k 0:Nat):Int) by simp[List.getD,hkl]] at hg0;have hx:l.getD k 0≤131072:=hb.out _ (by simp[List.getD,hkl]);clear hv2 hv3 hkl;generalize l.getD k 0=x at *;have z1:¬((x:Int)<0):=by omega
      have z2:¬((131072:Int)<(x:Int)):=by omega
      go_wp2
      go_roundw
      case rel=>exact⟨k+1,by omega,by go_num,ck⟩
      case measure=>simp[intOf];omega
    · obtain rfl:k=n:=by omega
      go_wp2;go_loopw [45] (fun i wr=>∃j:Nat,j≤k∧i=vI j∧SetSt w b c xs a o l j wr) (fun i _=>k-(intOf i).toNat)
      case atStart=>exact⟨0,by omega,rfl,xs,HA.out.calm ck,rfl,by rw[Ob.setK_zero];exact HO.out,fun _ _=>rfl,ck.any⟩
      case round=>
        obtain⟨j,hj,rfl,xs',hA,hlen,hat,hout,hf⟩:=hrel;rcases Nat.lt_or_ge j k with hlt|hge
        · have hkl:j<l.length:=by rw[hn.out];exact hlt
          obtain⟨g,gc,hv,_,hg0,_⟩:=(hR.out.frB hf (fun b hb e=>hnv.out (e ▸ hb))).get (k:=j) (by simpa using hkl);injection hv with hv1 hv2 hv3
          subst hv1;rw[show(nI l).getD j 0=((l.getD j 0:Nat):Int) by simp[List.getD,hkl]] at hg0;have hx:l.getD j 0≤131072:=hb.out _ (by simp[List.getD,hkl]);have hs1:=Ob.setK_succ o l hkl (by rw[hlp.out];omega);have hat2:At (xs'.set (a+3+j) (l.getD j 0)) a (o.setK l (j+1)):=by rw[hs1];exact hat.setPtr (i:=j) (by show j<o.p;omega) hx
          replace hat2:=hid hat2;have hset:=hid (at_setptr hA hat (i:=j) (v:=l.getD j 0) (show j<o.p by omega) hx);replace hat:=hid hat;replace hA:=hid hA;replace hout:=hid hout;replace hlen:=hid hlen;have hsz:Hid (o.size=3+o.p+o.d):=rfl;clear hv2 hv3 hkl hs1;generalize l.getD j 0=x at *;go_wp2_with fail
          refine(hset.out).mono ?_;rintro e w3 ⟨rfl,ar3,f3⟩;replace ar3:=hid ar3;go_wp2
          go_roundw
          case rel=>
            refine⟨j+1,by omega,by go_num,_,ar3.out,by rw[List.length_set];exact hlen.out,hat2.out,fun m hm=>?_,hf.trans f3⟩;have:=hsz.out;rw[getD_set,if_neg (by omega)];exact hout.out m hm
          case measure=>simp[intOf];omega
        · obtain rfl:j=k:=by omega
          replace hat:=hid hat;replace hA:=hid hA;replace hout:=hid hout;replace hlen:=hid hlen;go_wp2;go_ret;exact⟨rfl,xs',hA.out,hlen.out,hat.out,hout.out,hf⟩
end
section
open Go.RowKit Go.Shelf
def Place (s:HS)(p:Nat):Prop:=p=0∨p∈plc s.cur∨p∈opl s.old
def Placed (s:HS)(q:Nat):Prop:=q=0∨q∈plc s.cur
inductive GoesL (s:HS):List Nat→HS→List Nat→Prop
  | nil:GoesL s [] s []
  | snoc {l l':List Nat} {s1 s2:HS} {p q:Nat} (h:GoesL s l s1 l') (g:Goes s1 p s2 q):GoesL s (l++[p]) s2 (l'++[q])
theorem Goes.place {s s':HS}{p q:Nat}(g:Goes s p s' q){x:Nat}(h:Place s x):Place s' x:=by
  cases g with
  | stay _=>exact h
  | gone _=>exact h
  | @move i o c=>
    refine h.imp id (fun h=>h.imp (fun h=>?_) (fun h=>by rw[move_opl c];exact h))
    have e:plc (s.move i).cur=plc s.cur++[s.top]:=by
      show(s.cur++[(s.top,(s.old.getD i oo).2.1)]).map (·.1)=_;simp[plc]
    rw[e];simp[h]
theorem Goes.placed {s s':HS}{p q:Nat}(g:Goes s p s' q){x:Nat}(h:Placed s x):Placed s' x:=by
  cases g with
  | stay _=>exact h
  | gone _=>exact h
  | @move i o c=>
    refine h.imp id (fun h=>?_)
    have e:plc (s.move i).cur=plc s.cur++[s.top]:=by
      show(s.cur++[(s.top,(s.old.getD i oo).2.1)]).map (·.1)=_;simp[plc]
    rw[e];simp[h]
theorem GoesL.len {s:HS}{l:List Nat}{s':HS}{l':List Nat}(h:GoesL s l s' l'):l'.length=l.length:=by
  induction h with
  | nil=>rfl
  | snoc h g ih=>simp[ih]
theorem GoesL.place {s:HS}{l:List Nat}{s':HS}{l':List Nat}(h:GoesL s l s' l'){x:Nat}(hx:Place s x):Place s' x:=by
  induction h with
  | nil=>exact hx
  | snoc h g ih=>exact g.place ih
theorem GoesL.cur {s:HS}{l:List Nat}{s':HS}{l':List Nat}(h:GoesL s l s' l'){i a:Nat}{o:Ob}(c:CurAt s i a o):CurAt s' i a o:=by
  induction h with
  | nil=>exact c
  | snoc h g ih=>exact g.cur ih
theorem Goes.same {s s':HS}{p q:Nat}(g:Goes s p s' q):s'.n=s.n∧s'.u=s.u∧s'.mv=s.mv∧s'.scan=s.scan∧s'.ser=s.ser∧s'.weak=s.weak∧s'.fin=s.fin∧opl s'.old=opl s.old:=by
  cases g with
  | stay _=>exact⟨rfl,rfl,rfl,rfl,rfl,rfl,rfl,rfl⟩
  | gone _=>exact⟨rfl,rfl,rfl,rfl,rfl,rfl,rfl,rfl⟩
  | move c=>exact⟨rfl,rfl,rfl,rfl,rfl,rfl,rfl,move_opl c⟩
theorem GoesL.same {s:HS}{l:List Nat}{s':HS}{l':List Nat}(h:GoesL s l s' l'):s'.n=s.n∧s'.u=s.u∧s'.mv=s.mv∧s'.scan=s.scan∧s'.ser=s.ser∧s'.weak=s.weak∧s'.fin=s.fin∧opl s'.old=opl s.old:=by
  induction h with
  | nil=>exact⟨rfl,rfl,rfl,rfl,rfl,rfl,rfl,rfl⟩
  | snoc h g ih=>
    obtain⟨a1,a2,a3,a4,a5,a6,a7,a8⟩:=ih;obtain⟨b1,b2,b3,b4,b5,b6,b7,b8⟩:=g.same;exact⟨b1.trans a1,b2.trans a2,b3.trans a3,b4.trans a4,b5.trans a5,b6.trans a6,b7.trans a7,b8.trans a8⟩
theorem Place.le {s:HS}{X:List Nat}(h:HRep s X){p:Nat}(hp:Place s p):p≤131072:=by
  rcases hp with hp|hp|hp
  · omega
  · exact h.plc_le hp
  · obtain⟨j,u,m,c2⟩:=OldAt.of_mem hp;have h1:=(h.half.ol.at j c2.lt).2.1;rw[c2.get] at h1;have h1:p+u.took≤s.otop:=h1;have h2:=h.top_le;have h3:=h.sep;have h4:=h.n2;have h5:=h.len;omega
theorem HKeep.far {T:Nat→Prop}{w w1 w2:World}{B B':HB}(h:HKeep w B w1 B')(f:Fr T w1 w2)(ht:∀k,k<w.heap.size→¬T k):HKeep w B w2 B':=
  ⟨h.fr.join f (fun k hk hT=>absurd hT (ht k (by first|exact hk|omega))),h.new,h.hp⟩
def MvL (w:World)(B:HB)(s:HS)(v:Value)(l:List Nat)(k:Nat)(wr:World):Prop:=
  ∃s' l' B' X',GoesL s (l.take k) s' l'∧HAt wr B' s' X'∧HKeep w B wr B'∧ORow wr 0 v (nI (l'++l.drop k))∧(∀b,InB v b→¬HBlk B' b∧w.heap.size≤b)∧∀q∈l',Placed s' q
theorem MvL.start {w wr:World}{B:HB}{s:HS}{X:List Nat}{v:Value}{l:List Nat}(h:HAt wr B s X)(k:HKeep w B wr B)(hr:ORow wr 0 v (nI l))(hn:∀b,InB v b→¬HBlk B b∧w.heap.size≤b):MvL w B s v l 0 wr:=
  ⟨s,[],B,X,by rw[List.take_zero];exact .nil,h,k,by simpa using hr,hn,fun q hq=>by cases hq⟩
theorem MvL.step {w wr w2:World}{B B' B2:HB}{s s' s2:HS}{X X' X2:List Nat}{l l':List Nat}{g n c k q:Nat}(hk:k<l.length)(hg:GoesL s (l.take k) s' l')(hA:HAt wr B' s' X')(hK:HKeep w B wr B')(hr:ORow wr 0 (.slice (some ⟨g,0,none⟩) n c) (nI (l'++l.drop k)))
    (hn:∀b,InB (.slice (some ⟨g,0,none⟩) n c) b→¬HBlk B' b∧w.heap.size≤b) (hq:∀q∈l',Placed s' q) (hp:Place s (l.getD k 0)) (g2:Goes s' (l.getD k 0) s2 q) (hA2:HAt w2 B2 s2 X2) (hK2:HKeep wr B' w2 B2) :
    MvL w B s (.slice (some ⟨g,0,none⟩) n c) l (k+1) (w2.setCell ⟨g,k,none⟩ (vI (q:Nat)))∧Own w2 g k (vI (l.getD k 0:Nat)):=by
  have hlen:=hg.len;have hl1:l'.length=k:=by rw[hlen,List.length_take];omega
  have hin:InB (.slice (some ⟨g,0,none⟩) n c) g:=rfl;obtain⟨hnB,hge⟩:=hn g hin;have hglt:=(hr.lt hin).2;have hnB2:¬HBlk B2 g:=fun e=>(hK2.new g e).elim hnB (fun e=>by omega);have hr2:=hr.frB hK2.fr (fun b hb e=>(hn b hb).1 e);have hlk:k<(nI (l'++l.drop k)).length:=by simp;omega
  have hr3:=hr2.set hlk (q:Int);have hf:Fr (fun j=>j=g) w2 (w2.setCell ⟨g,k,none⟩ (vI (q:Nat))):=(Fr.refl (fun j=>j=g) w2).setCell (p:=⟨g,k,none⟩) (.inl rfl) _
  have e1:(nI (l'++l.drop k)).set k (q:Int)=nI ((l'++[q])++l.drop (k+1)):=by
    rw[List.drop_eq_getElem_cons hk];simp only[nI,List.map_append,List.map_cons];rw[List.set_append_right _ _ (by simp;omega)];have e2:k-(l'.map (fun x:Nat=>(x:Int))).length=0:=by simp;omega
    rw[e2,List.set_cons_zero,List.append_assoc];rfl
  rw[e1] at hr3;have hpl:Place s' (l.getD k 0):=hg.place hp;refine⟨⟨s2,l'++[q],B2,X2,?_,hA2.fr hf (fun j hj (e:j=g)=>hnB2 (e ▸ hj)),(hK.trans hK2).far hf (fun j hj (e:j=g)=>by omega),hr3,fun b hb=>?_,fun x hx=>?_⟩,?_⟩
  · rw[take_succ_getD l hk];exact .snoc hg g2
  · have hb:b=g:=InB.mk1 hb;subst hb;exact⟨hnB2,hge⟩
  · rcases List.mem_append.1 hx with hx|hx
    · exact g2.placed (hq x hx)
    · have:=List.mem_singleton.1 hx;subst this;exact g2.here hA.rep hpl
  · obtain⟨g',c',hv,_,ho⟩:=hr2.get hlk;injection hv with hv1 hv2 hv3
    have hv1:g=g':=by injection hv1 with h;injection h
    subst hv1
    have e3:(nI (l'++l.drop k)).getD k 0=((l.getD k 0:Nat):Int):=by
      rw[List.drop_eq_getElem_cons hk];simp[List.getD,hk,List.getElem?_append_right,hl1]
    rw[e3] at ho;exact ho
end
section
open Go.RowKit Go.Shelf
section
variable {w:World}{B:HB}{s:HS}{X:List Nat}
theorem hscan_still (h:HAt w B s X)(hm:s.mv=false) :
    Calls Tryz.prog 70 #[hpV B] w fun e w'=>e = .returned (.bool false)∧w=w':=by
  have hmv:=moving_is h;rw[hm] at hmv;replace hmv:=hid hmv;clear h hm;go_enter Tryz.func70,Tryz.ntmps70;go_wp2_with fail
  refine(hmv.out).mono ?_;rintro e w1 ⟨rfl,rfl⟩;go_wp2;go_ret;exact⟨rfl,rfl⟩
theorem hscan_no (h:HAt w B s X)(hs:s.scan=s.top) :
    Calls Tryz.prog 70 #[hpV B] w fun e w'=>e = .returned (.bool false)∧Calm w w':=by
  cases hm:s.mv
  · exact(hscan_still h hm).mono (fun e w' ⟨h1,h2⟩=>⟨h1,h2 ▸ Fr.refl _ _⟩)
  have hmv:=moving_is h;rw[hm] at hmv;replace hmv:=hid hmv;have hsc:=hid (scanned_is h (S:=true) (by rw[hs];simp));clear h hm hs;go_enter Tryz.func70,Tryz.ntmps70;go_wp2_with fail
  refine(hmv.out).mono ?_;rintro e w1 ⟨rfl,rfl⟩;go_wp2_with fail
  refine(hsc.out).mono ?_;rintro e w1 ⟨rfl,c1⟩;go_wp2;go_ret;exact⟨rfl,c1⟩
theorem HAt.rescan {w w':World}{B:HB}{s:HS}{X:List Nat}(h:HAt w B s X){m:Nat}(f:Fr (fun k=>k=B.hp) w w')(hc:OwnL w' B.hp (hcells B { s with scan:=m })):HAt w' B { s with scan:=m } X∧HKeep w B w' B:=by
  have nn:=h.none_;refine⟨⟨hc,h.ar.fr f (fun e=>h.hap e.symm) (fun e=>h.hac e.symm),h.r0.frB f ?_,h.r1.frB f ?_,h.rw.frB f ?_,h.rf.frB f ?_,?_,h.hap,h.hac,h.apart,nn⟩,⟨f.mono (fun k _ e=>.inl e),fun k h=>.inl h,rfl⟩⟩
  · rintro k hk e;exact(nn B.v0 (by simp[HB.vs])).1 (e ▸ hk)
  · rintro k hk e;exact(nn B.v1 (by simp[HB.vs])).1 (e ▸ hk)
  · rintro k hk e;exact(nn B.vw (by simp[HB.vs])).1 (e ▸ hk)
  · rintro k hk e;exact(nn B.vf (by simp[HB.vs])).1 (e ▸ hk)
  · exact⟨h.rep.n1,h.rep.n2,h.rep.len,h.rep.zero,h.rep.half,h.rep.oroom,h.rep.room,h.rep.still,h.rep.ser,h.rep.few⟩
def ScanPost (w:World)(B:HB)(s:HS)(k:Nat)(o:Ob)(e:Ending)(w':World):Prop:=
  e = .returned (.bool true)∧∃s' l',GoesL s o.strong s' l'∧(∀q∈l',Placed s' q)∧∃B' X',HAt w' B' { s'.upd k (o.setS l') with scan:=s.scan+o.took } X'∧HKeep w B w' B'
set_option maxRecDepth 4000 in
theorem hscan_yes (h:HAt w B s X)(hm:s.mv=true){k a:Nat}{o:Ob}(c:CurAt s k a o)(hs:s.scan=a)(hp:∀q∈o.strong,Place s q) :
    Calls Tryz.prog 70 #[hpV B] w (ScanPost w B s k o):=by
  have hmv:=moving_is h;rw[hm] at hmv;replace hmv:=hid hmv;have hpl:=h.rep.place c.lt;rw[c.get] at hpl;have hat:=c.at_ h.rep;obtain⟨tk1,tk2,tk3,tk4⟩:=Ob.took_eq hat.ok;have htop:=h.rep.top_le;have hn2:=h.rep.n2;have hsep:=h.rep.sep;have hlen:=h.rep.len;have hpl1:a+o.took≤s.top:=hpl.2.2;have hsc:=hid (scanned_is h (S:=false) (by simp;omega));have hlt:=h.lt_hp;have ha64:a+o.took≤131072:=by omega
  have hcs:=h.cs;have H:=hid h;have y0:=(hcs 0 _ rfl).1;have y12:=(hcs 12 (vI s.scan) rfl).1;rw[hs] at y12;replace hat:=hid hat;replace c:=hid c;replace hp:=hid hp;replace tk1:=hid tk1;replace hs:=hid hs;replace ha64:=hid ha64;replace hlt:=hid hlt;clear h hcs hpl tk2 tk3 tk4 htop hn2 hsep hlen hpl1;go_enter Tryz.func70,Tryz.ntmps70;go_wp2_with fail
  refine(hmv.out).mono ?_;rintro e w1 ⟨rfl,rfl⟩;go_wp2_with fail
  refine(hsc.out).mono ?_;rintro e w1 ⟨rfl,c1⟩;replace y0:=c1.cellAt y0 id;replace y12:=c1.cellAt y12 id;have hsp:=hid (fun W (cw:Calm w1 W)=>at_shape (H.out.ar.calm (c1.trans cw)) hat.out);have ne3:B.hp≠w1.heap.size:=by have:=hlt.out;have:=c1.size;omega
  have ne4:w1.heap.size≠B.hp:=Ne.symm ne3;have hs1:=hid c1.size;go_wp2_with fail
  go_cut [3,4,5] (fun s3 s4 s5 wx=>∃g,s3 = .pointer (some ⟨g,0,none⟩)∧s4 = .bool o.fr∧s5=vI 0∧OwnL wx g [vI o.p,vI o.d,.bool o.wk,.bool o.fn]∧Calm w1 wx∧w1.heap.size≤g)
  case first=>
    go_region_held3 (fun w'=>w'.cell? ⟨B.hp,0,none⟩=some (arV B.ap)∧w'.cell? ⟨B.hp,12,none⟩=some (vI a)) (go_keep)
      (first|(go_at_call 71;refine(hsp.out _ (by first|exact Fr.refl _ _|exact(Fr.refl _ _).drew|exact((Fr.refl _ _).drew).alloc _|exact((Fr.refl _ _).alloc _).drew)).mono ?_;rintro e w5 ⟨rfl,c5⟩;have ka:Calm w1 w5:=Fr.trans (by first|exact Fr.refl _ _|exact(Fr.refl _ _).drew|exact((Fr.refl _ _).drew).alloc _|exact((Fr.refl _ _).alloc _).drew) c5;have q0:=ka.cellAt y0 id;have q12:=ka.cellAt y12 id;try (have ow:OwnL w5 w1.heap.size [vI 0,vI 0,.bool false,.bool false]:=(by first|exact(OwnL.at _ [vI 0,vI 0,.bool false,.bool false] 47 w1.heap.size rfl).calm c5|exact((OwnL.at _ [vI 0,vI 0,.bool false,.bool false] 47 w1.heap.size rfl).calm ((Fr.refl _ _).drew)).calm c5);have m0:=(ow 0 _ rfl).1;have m1:=(ow 1 _ rfl).1;have m2:=(ow 2 _ rfl).1;have m3:=(ow 3 _ rfl).1;have n0:=(ow 0 _ rfl).2;have n1:=(ow 1 _ rfl).2;have n2:=(ow 2 _ rfl).2;have n3:=(ow 3 _ rfl).2)))
    · go_wp2_with fail
      go_meet;exact⟨w5.heap.size,rfl,rfl,rfl,OwnL.new w5 [vI o.p,vI o.d,.bool o.wk,.bool o.fn] _,ka.alloc _,ka.size⟩
    · go_wp2_with fail
      go_meet;have o4:=ow.set4 (vI o.p) (vI o.d) (.bool o.wk) (.bool o.fn);exact⟨w1.heap.size,rfl,rfl,rfl,o4.1,ka.join o4.2 (fun j hj (e:j=w1.heap.size)=>absurd hj (by omega)),Nat.le_refl _⟩
  case rest=>
    obtain⟨g,rfl,rfl,rfl,og,cx,hg⟩:=hcut;replace og:=hid og;replace y0:=cx.cellAt y0 id;replace y12:=cx.cellAt y12 id;replace cx:=c1.trans cx;have hst:=hid (fun W (cw:Calm wc W)=>strong_yes (H.out.ar.calm (cx.trans cw)) hat.out);clear c1 hsp;go_wp2_with fail
    go_region_held3 (fun w'=>w'.cell? ⟨B.hp,0,none⟩=some (arV B.ap)∧w'.cell? ⟨B.hp,12,none⟩=some (vI a)) (go_keep)
      (first|(go_at_call 116;refine(hst.out _ (by first|exact Fr.refl _ _|exact(Fr.refl _ _).drew|exact((Fr.refl _ _).drew).alloc _|exact((Fr.refl _ _).alloc _).drew)).mono ?_;rintro e w5 ⟨v,rfl,hr,c5⟩;have ka:Calm wc w5:=Fr.trans (by first|exact Fr.refl _ _|exact(Fr.refl _ _).drew|exact((Fr.refl _ _).drew).alloc _|exact((Fr.refl _ _).alloc _).drew) c5;have q0:=ka.cellAt y0 id;have q12:=ka.cellAt y12 id))
    replace ka:=hid ka;have hb5:Hid (∀b,InB v b→wc.heap.size≤b):=fun b hb=>(hr.lt hb).1;have hr5:ORow w5 0 v (nI o.strong):=hr.mono (Nat.zero_le _);clear hst q0 q12 y0 y12 hr;obtain⟨N,hN⟩:∃N,o.strong.length=N:=⟨_,rfl⟩;obtain⟨sa,sc,rfl⟩:=hr5.sliceN (n:=N) (by simp[hN]);have hgB:Hid (¬HBlk B g):=fun e=>by have:=H.out.lt g e;have:=ne3;have:=hs1.out;omega
    have hM0:=hid (MvL.start (w:=wc) (H.out.calm (cx.trans ka.out)) (HKeep.calm B ka.out) hr5 (fun b hb=>⟨fun e=>by have:=H.out.lt b e;have:=hb5.out b hb;have:=cx.size;omega,hb5.out b hb⟩));have hN8:N≤8:=by have:=Ob.strong_le hat.out.ok;have:=hat.out.ok.sh.1;omega
    replace hN:=hid hN;replace hr5:=hid hr5;go_wp2_with fail
    go_loopw [52] (fun i wr=>∃j:Nat,j≤N∧i=vI j∧MvL wc B s (.slice sa N sc) o.strong j wr) (fun i _=>N-(intOf i).toNat)
    case atStart=>exact⟨0,by omega,rfl,hM0.out⟩
    case round=>
      obtain⟨j,hj,rfl,s',l',B',X',hg1,hA,hK,hrow,hn,hq⟩:=hrel;rcases Nat.lt_or_ge j N with hlt2|hge
      · have hjl:j<o.strong.length:=by rw[hN.out];exact hlt2
        have hl1:l'.length=j:=by rw[hg1.len,List.length_take];omega
        obtain⟨gv,gc,hv,_,hg0,_⟩:=hrow.get (k:=j) (by simp;omega);injection hv with hv1 hv2 hv3
        subst hv1;rw[show(nI (l'++o.strong.drop j)).getD j 0=((o.strong.getD j 0:Nat):Int) by rw[List.drop_eq_getElem_cons hjl];simp[List.getD,hjl,List.getElem?_append_right,hl1]] at hg0;have hpj:=hp.out (o.strong.getD j 0) (by simp[List.getD,hjl]);have hmo:=hmoved hA ((hg1.place hpj).le hA.rep);have hBe:hpV B'=hpV B:=by unfold hpV;rw[hK.hp]
        rw[hBe] at hmo;have hst:=hid (fun(w2:World) (B2:HB) (s2:HS) (X2:List Nat) (q:Nat) (g2:Goes s' (o.strong.getD j 0) s2 q) (hA2:HAt w2 B2 s2 X2) (hK2:HKeep wr B' w2 B2)=>MvL.step (X:=X) hjl hg1 hA hK hrow hn hq hpj g2 hA2 hK2);replace hmo:=hid hmo;clear hv2 hv3 hg1 hA hK hrow hn hq hl1 hBe hpj;generalize o.strong.getD j 0=x at *;go_wp2_with fail
        refine(hmo.out).mono ?_;rintro e w2 ⟨s2,q,g2,rfl,B2,X2,hA2,hK2⟩;have hst2:=hst.out _ _ _ _ _ g2 hA2 hK2;have z1:=hst2.2.1;have z2:=hst2.2.2;replace hst2:=hid hst2.1;clear hA2 hK2 g2 hst hmo;go_wp2
        go_roundw
        case rel=>exact⟨j+1,by omega,by go_num,hst2.out⟩
        case measure=>simp[intOf];omega
      · obtain rfl:j=N:=by omega
        rw[List.take_of_length_le (by rw[hN.out];exact Nat.le_refl _)] at hg1;rw[List.drop_of_length_le (by rw[hN.out];exact Nat.le_refl _),List.append_nil] at hrow;have hl1:=hg1.len;have c':=hid (hg1.cur c.out);have hat':=hid (c'.out.at_ hA.rep);have e12:((s'.scan:Nat):Int)=a:=by rw[hg1.same.2.2.2.1,hs.out]
        have q0:∀x:Later wr,x.w.cell? ⟨B.hp,0,none⟩=some (arV B'.ap):=by rw[←hK.hp];exact hA.rd 0 _ rfl
        have q12:∀x:Later wr,x.w.cell? ⟨B.hp,12,none⟩=some (vI a):=by rw[←hK.hp,←e12];exact hA.rd 12 _ rfl
        have hgac:Hid (g≠B'.ac):=fun e=>(hK.new B'.ac (.inr (.inr (.inl rfl)))).elim (fun h=>hgB.out (e ▸ h)) (fun h=>by have:=(og.out).lt (by simp);omega);have og1:=hid (og.out.fr hK.fr hgB.out);have hnv:Hid (¬InB (.slice sa j sc) B'.ac):=fun h=>(hn _ h).1 (.inr (.inr (.inl rfl)));have hb2:Hid (∀x∈l',x≤131072):=fun x hx=>Place.le hA.rep ((hq x hx).imp id .inl);have hpe:=hK.hp;have hKw:=hid ((HKeep.calm B cx).trans hK);replace hg1:=hid hg1;replace hA:=hid hA;replace hrow:=hid hrow;replace hl1:=hid hl1;replace hpe:=hid hpe;replace hq:=hid hq;clear hK hn hM0 e12 og;go_wp2_with fail
        refine wp_region_calm_tail 9 (by kernel_rfl) (by kernel_rfl) ?_;simp only[List.take_succ_cons,List.take_zero,List.drop_succ_cons,List.drop_zero]
        repeat (go_big_quiet_step (fail))
        refine wpQuiet_nil ?_;intro w7 hw';have c7:=Later.out hw';clear hw' q0 q12;go_wp2_with fail
        refine(setstrong_yes (hA.out.ar.calm c7) hat'.out (hrow.out.calm c7) hnv.out hl1.out hb2.out).mono ?_;rintro e w8 ⟨rfl,X8,ar8,hl8,hat8,hout8,f8⟩;have ht:=hid ((hA.out.calm c7).turn c'.out ar8 f8 hl8 hat8 (o.setS_same l') hout8);have og8:=(og1.out.calm c7).fr f8 hgac.out;obtain⟨m0,n0⟩:=og8 0 _ rfl;obtain⟨m1,n1⟩:=og8 1 _ rfl;obtain⟨m2,n2⟩:=og8 2 _ rfl;obtain⟨m3,n3⟩:=og8 3 _ rfl;have hsz:(3:Int)+o.p+o.d=(o.size:Int):=by unfold Ob.size;push_cast;rfl
        have hok:=hid hat.out.ok.sh;have hs19:Hid (3≤o.size∧o.size≤19):=by have:=hat.out.ok.sh;have h1:=this.1;have h2:=this.2.1;show 3≤o.size∧o.size≤19;unfold Ob.size;omega
        clear ar8 hl8 hat8 hout8 f8 og8 og1;go_wp2_with fail
        refine(size_yes o.p o.d o.wk o.fn hok.out _).mono ?_;rintro e w9 ⟨rfl,c9⟩;rw[hsz];clear hsz;generalize o.size=sz at *;go_wp2_with fail
        refine(round_yes sz (by have:=hs19.out.1;omega) (by have:=hs19.out.2;omega) _).mono ?_;rintro e w10 ⟨rfl,c10⟩;rw[←tk1.out];replace c10:=c9.trans c10;have h10:=hid (ht.out.1.calm c10);have hk10:=hid (ht.out.2.trans (HKeep.calm B' c10));have y12:=h10.out.own (i:=12) (v:=vI (s'.scan:Nat)) rfl;rw[hg1.out.same.2.2.2.1,hs.out,hpe.out] at y12;have y1:=y12.1;have y2:=y12.2;have hw:IntKind.i64.wrap ((a:Int)+o.took)=(a:Int)+o.took:=IntWalk.i64_in _ (by have:=ha64.out;omega);clear y12 c9 ht;go_wp2;go_ret;have hfr:Fr (fun k=>k=B'.hp) w10 (w10.setCell ⟨B.hp,12,none⟩ (vI ((a:Int)+o.took))):=(Fr.refl (fun k=>k=B'.hp) w10).setCell (p:=⟨B.hp,12,none⟩) (.inl hpe.out.symm) _;have hc:=h10.out.cs.set 12 (vI ((a:Int)+o.took)) (by simp[hcells]);rw[hpe.out] at hc
        obtain⟨hf1,hf2⟩:=h10.out.rescan (m:=s.scan+o.took) hfr (by
          rw[hpe.out,hs.out];simp only[hcells,List.set_cons_succ,List.set_cons_zero] at hc;simp only[hcells]
          push_cast
          exact hc)
        exact⟨rfl,s',l',hg1.out,hq.out,B',X8,hf1,((hKw.out.trans (HKeep.calm B' c7)).trans hk10.out).trans hf2⟩
end
end
section
open Go.RowKit Go.Shelf
inductive Settles (s:HS):List Nat→List Nat→List Nat→Prop
  | nil:Settles s [] [] []
  | stay {l st lf:List Nat} {p:Nat} (h:Settles s l st lf) (hp:p∉opl s.old):Settles s (l++[p]) (st++[p]) lf
  | gone {l st lf:List Nat} {p i t:Nat} {o:Ob} (h:Settles s l st lf) (c:OldAt s i p o (some t)):Settles s (l++[p]) (st++[t]) lf
  | left {l st lf:List Nat} {p i:Nat} {o:Ob} (h:Settles s l st lf) (c:OldAt s i p o none):Settles s (l++[p]) st (lf++[p])
theorem Settles.len {s:HS}{l st lf:List Nat}(h:Settles s l st lf):st.length+lf.length=l.length:=by
  induction h <;> simp <;> omega
def SetI (w:World)(s:HS)(l:List Nat)(va vb:Value)(k:Nat)(wr:World):Prop:=
  ∃st lf,Settles s (l.take k) st lf∧ORow wr w.heap.size va (nI st)∧ORow wr w.heap.size vb (nI lf)∧Aprt va vb∧Calm w wr
def SettlePost (w:World)(s:HS)(l:List Nat)(e:Ending)(w':World):Prop:=
  ∃va vb st lf,e = .returned (.tuple #[va,vb])∧Settles s l st lf∧ORow w' w.heap.size va (nI st)∧ORow w' w.heap.size vb (nI lf)∧Aprt va vb∧Calm w w'
set_option maxRecDepth 4000 in
theorem settle_is {w:World}{B:HB}{s:HS}{X:List Nat}(h:HAt w B s X){v:Value}{l:List Nat}(hr:ORow w 0 v (nI l))(hl:l.length≤100000)(hp:∀p∈l,p≤131072) :
    Calls Tryz.prog 163 #[hpV B,v] w (SettlePost w s l):=by
  obtain⟨n,hn⟩:∃n,l.length=n:=⟨_,rfl⟩;rw[hn] at hl;obtain⟨sa,sc,rfl⟩:=hr.sliceN (n:=n) (by simp[hn]);have H:=hid h;have hR:=hid hr;have y0:=(h.cs 0 _ rfl).1;replace hp:=hid hp;replace hn:=hid hn;clear h hr;go_enter Tryz.func163,Tryz.ntmps163;go_wp2_with fail
  go_loopw [4,5,12] (fun va vb i wr=>∃k:Nat,k≤n∧i=vI k∧SetI w s l va vb k wr) (fun _ _ i _=>n-(intOf i).toNat)
  case atStart=>exact⟨0,by omega,rfl,[],[],by rw[List.take_zero];exact .nil,ORow.nil _ _,ORow.nil _ _,(fun _ h=>by cases h),Fr.refl _ _⟩
  case round=>
    obtain⟨k,hk,rfl,st,lf,hS,ha,hb,hab,ck⟩:=hrel;rcases Nat.lt_or_ge k n with hlt|hge
    · have hkl:k<l.length:=by rw[hn.out];exact hlt
      obtain⟨g,gc,hv,_,hg0,_⟩:=(hR.out.calm ck).get (k:=k) (by simpa using hkl);injection hv with hv1 hv2 hv3
      subst hv1;rw[show(nI l).getD k 0=((l.getD k 0:Nat):Int) by simp[List.getD,hkl]] at hg0;have hx:l.getD k 0≤131072:=hp.out _ (by simp[List.getD,hkl]);have htk:=take_succ_getD l hkl;have hth:=there_is (H.out.calm ck) (l.getD k 0) ⟨by omega,by omega⟩
      have hle:Hid ((nI st).length≤1000000∧(nI lf).length≤1000000):=by
        have:=hS.len;simp only[List.length_take] at this;have:=hn.out;exact⟨by simp;omega,by simp;omega⟩
      obtain⟨aa,an,ac,rfl⟩:=ha.letters;obtain⟨ba,bn,bc,rfl⟩:=hb.letters;have y0':=ck.cellAt y0 id;have hsz:=hid ck.size
      by_cases hm:l.getD k 0∈opl s.old
      · rw[decide_eq_true (mem_nI.2 hm)] at hth;obtain⟨i,o,m,c⟩:=OldAt.of_mem hm
        cases m with
        | some t=>
          have hS':=hid (htk ▸ hS.gone c:Settles s (l.take (k+1)) (st++[t]) lf)
          have hgn:Gone X (l.getD k 0) t:=by
            have:=(H.out.rep.half.ol.at i c.lt).2.2.2;rw[c.get] at this;exact this
          have hma:=hid (fun W (cw:Calm wr W)=>mat_gone W B.ap B.ac X (H.out.ar.calm (ck.trans cw)) (l.getD k 0) t hgn);replace hth:=hid hth;replace ha:=hid ha;replace hb:=hid hb;replace hab:=hid hab;clear hv2 hv3 hkl htk hS c hgn hm;generalize l.getD k 0=x at *;have e2:Hid (nI (st++[t])=nI st++[(t:Int)]):=by show nI (st++[t])=_;simp
          generalize nI st=L at *;go_wp2_with fail
          refine(hth.out).mono ?_;rintro e w2 ⟨rfl,c2⟩;replace y0':=c2.cellAt y0' id;replace ha:=hid (ha.out.calm c2);replace hb:=hid (hb.out.calm c2);replace hsz:=hid (Nat.le_trans hsz.out c2.size);go_wp2_with fail
          refine(hma.out _ c2).mono ?_;rintro e w3 ⟨rfl,rfl⟩;go_wp2_with (at_builtin;go_must (refine wpList_app1 rfl _ _ rfl _ _ L ha.out rfl (t:Int) rfl hle.out.1 hsz.out ?_);intro g4 c4 w4 hN4 hF4 hg4;replace hN4:=hid hN4;replace hF4:=hid hF4;replace hg4:=hid hg4)
          go_roundw
          case rel=>
            refine⟨k+1,by omega,by go_num,_,lf,hS'.out,by rw[e2.out];exact hN4.out,hb.out.frB hF4.out (fun b h1 h2=>hab.out b h2 h1),fun b h1 h2=>?_,(ck.trans c2).join hF4.out (fun j h1 h2=>absurd (ha.out.lt h2).1 (by omega))⟩;have:=InB.mk1 h1;subst this;exact hg4.out.elim (fun h=>hab.out _ h h2) (fun h=>by have:=(hb.out.lt h2).2;omega)
          case measure=>simp[intOf];omega
        | none=>
          have hS':=hid (htk ▸ hS.left c:Settles s (l.take (k+1)) st (lf++[l.getD k 0]))
          have hat:At X (l.getD k 0) o:=by
            have:=(H.out.rep.half.ol.at i c.lt).2.2.2;rw[c.get] at this;exact this
          have hma:=hid (fun W (cw:Calm wr W)=>mat_here W B.ap B.ac X (H.out.ar.calm (ck.trans cw)) (l.getD k 0) o hat);replace hth:=hid hth;replace ha:=hid ha;replace hb:=hid hb;replace hab:=hid hab;clear hv2 hv3 hkl htk hS c hat hm;generalize l.getD k 0=x at *;have e2:Hid (nI (lf++[x])=nI lf++[(x:Int)]):=by show nI (lf++[x])=_;simp
          generalize nI lf=L at *;go_wp2_with fail
          refine(hth.out).mono ?_;rintro e w2 ⟨rfl,c2⟩;replace y0':=c2.cellAt y0' id;replace ha:=hid (ha.out.calm c2);replace hb:=hid (hb.out.calm c2);replace hsz:=hid (Nat.le_trans hsz.out c2.size);go_wp2_with fail
          refine(hma.out _ c2).mono ?_;rintro e w3 ⟨rfl,rfl⟩;go_wp2_with (at_builtin;go_must (refine wpList_app1 rfl _ _ rfl _ _ L hb.out rfl (x:Int) rfl hle.out.2 hsz.out ?_);intro g4 c4 w4 hN4 hF4 hg4;replace hN4:=hid hN4;replace hF4:=hid hF4;replace hg4:=hid hg4)
          go_roundw
          case rel=>
            refine⟨k+1,by omega,by go_num,st,_,hS'.out,ha.out.frB hF4.out (fun b h1 h2=>hab.out b h1 h2),by rw[e2.out];exact hN4.out,fun b h1 h2=>?_,(ck.trans c2).join hF4.out (fun j h1 h2=>absurd (hb.out.lt h2).1 (by omega))⟩;have:=InB.mk1 h2;subst this;exact hg4.out.elim (fun h=>hab.out _ h1 h) (fun h=>by have:=(ha.out.lt h1).2;omega)
          case measure=>simp[intOf];omega
      · rw[decide_eq_false (fun e=>hm (mem_nI.1 e))] at hth;have hS':=hid (htk ▸ hS.stay hm:Settles s (l.take (k+1)) (st++[l.getD k 0]) lf);replace hth:=hid hth;replace ha:=hid ha;replace hb:=hid hb;replace hab:=hid hab;clear hv2 hv3 hkl htk hS hm;generalize l.getD k 0=x at *;have e2:Hid (nI (st++[x])=nI st++[(x:Int)]):=by show nI (st++[x])=_;simp
        generalize nI st=L at *;go_wp2_with fail
        refine(hth.out).mono ?_;rintro e w2 ⟨rfl,c2⟩;replace ha:=hid (ha.out.calm c2);replace hb:=hid (hb.out.calm c2);replace hsz:=hid (Nat.le_trans hsz.out c2.size);go_wp2_with (at_builtin;go_must (refine wpList_app1 rfl _ _ rfl _ _ L ha.out rfl (x:Int) rfl hle.out.1 hsz.out ?_);intro g4 c4 w4 hN4 hF4 hg4;replace hN4:=hid hN4;replace hF4:=hid hF4;replace hg4:=hid hg4)
        go_roundw
        case rel=>
          refine⟨k+1,by omega,by go_num,_,lf,hS'.out,by rw[e2.out];exact hN4.out,hb.out.frB hF4.out (fun b h1 h2=>hab.out b h2 h1),fun b h1 h2=>?_,(ck.trans c2).join hF4.out (fun j h1 h2=>absurd (ha.out.lt h2).1 (by omega))⟩;have:=InB.mk1 h1;subst this;exact hg4.out.elim (fun h=>hab.out _ h h2) (fun h=>by have:=(hb.out.lt h2).2;omega)
        case measure=>simp[intOf];omega
    · obtain rfl:k=n:=by omega
      rw[List.take_of_length_le (by rw[hn.out];exact Nat.le_refl _)] at hS;obtain⟨aa,an,ac,rfl⟩:=ha.letters;obtain⟨ba,bn,bc,rfl⟩:=hb.letters;replace ha:=hid ha;replace hb:=hid hb;go_wp2
      go_ret2
      exact⟨_,_,st,lf,rfl,hS,ha.out,hb.out,hab,ck⟩
end
section
open Go.RowKit Go.Shelf
theorem MvL.start' {w wr:World}{B B1:HB}{s:HS}{X:List Nat}{v:Value}{l:List Nat}(h:HAt wr B1 s X)(k:HKeep w B wr B1)(hr:ORow wr 0 v (nI l))(hn:∀b,InB v b→¬HBlk B1 b∧w.heap.size≤b):MvL w B s v l 0 wr:=
  ⟨s,[],B1,X,by rw[List.take_zero];exact .nil,h,k,by simpa using hr,hn,fun q hq=>by cases hq⟩
theorem Settles.mem {s:HS}{l st lf:List Nat}(h:Settles s l st lf):(∀p∈lf,p∈opl s.old):=by
  induction h with
  | nil=>intro p hp;cases hp
  | stay h hp ih=>exact ih
  | gone h c ih=>exact ih
  | left h c ih=>
    intro p hp;rcases List.mem_append.1 hp with hp|hp
    · exact ih p hp
    · have:=List.mem_singleton.1 hp;subst this;exact c.mem
def FinalsPost (w:World)(B:HB)(s:HS)(e:Ending)(w':World):Prop:=
  ∃st lf s' l' v,Settles s s.fin st lf∧GoesL { s with fin:=st } lf s' l'∧(∀q∈l',Placed s' q)∧e = .returned v∧ORow w' w.heap.size v (nI l')∧∃B' X',HAt w' B' s' X'∧HKeep w B w' B'∧∀b,InB v b→¬HBlk B' b
set_option maxRecDepth 4000 in
theorem hfinals {w:World}{B:HB}{s:HS}{X:List Nat}(h:HAt w B s X)(hm:s.mv=true)(hp:∀p∈s.fin,p≤131072) :
    Calls Tryz.prog 110 #[hpV B] w (FinalsPost w B s):=by
  have hmv:=moving_is h;rw[hm] at hmv;replace hmv:=hid hmv;have hse:=hid (settle_is h h.rf h.rep.few.2 hp);have y15:=(h.own (i:=15) (v:=B.vf) rfl).1;have hfew:=hid h.rep.few.2;have H:=hid h;clear h;go_enter Tryz.func110,Tryz.ntmps110;go_wp2_with fail
  refine(hmv.out).mono ?_;rintro e w1 ⟨rfl,rfl⟩;go_wp2_with fail
  refine(hse.out).mono ?_;rintro e w2 ⟨va,vb,st,lf,rfl,hS,ha,hb,hab,c2⟩;have hsl:=hS.len;have hlf:lf.length≤100000:=by have:=hfew.out;omega
  have hst:st.length≤100000:=by have:=hfew.out;omega
  have y15':=(H.out.own (i:=15) (v:=B.vf) rfl).calm c2;have y1:=y15'.1;have y2:=y15'.2;obtain⟨N,hN⟩:∃N,lf.length=N:=⟨_,rfl⟩;obtain⟨sa,sc,rfl⟩:=hb.sliceN (n:=N) (by simp[hN]);obtain⟨aa,an,ac,rfl⟩:=ha.letters;have hahp:∀b,InB (.slice aa an ac) b→w.heap.size≤b:=fun b hb=>(ha.lt hb).1;have hbhp:∀b,InB (.slice sa N sc) b→w.heap.size≤b:=fun b h=>(hb.lt h).1;have hlt:=H.out.lt_hp;have hfr:Fr (fun k=>k=B.hp∨InB B.vf k) w (w2.setCell ⟨B.hp,15,none⟩ (.slice aa an ac)):=(Calm.any c2).setCell (p:=⟨B.hp,15,none⟩) (.inl (.inl rfl)) _;have hf2:=frS w2 (B.hp) 15 (.slice aa an ac);obtain⟨hA3,hK3⟩:=H.out.refin (v:=.slice aa an ac) (l:=st) hfr ((H.out.cs.calm c2).set 15 _ (by simp[hcells])) ((ha.mono (Nat.zero_le _)).frB hf2 (fun b h1 (h2:b=B.hp)=>by have:=hahp b h1;omega)) (fun k hk=>.inr (hahp k hk)) hst;have hb3:=(hb.mono (Nat.zero_le _)).frB hf2 (fun b h1 (h2:b=B.hp)=>by have:=hbhp b h1;omega)
  have hM0:=hid (MvL.start' (w:=w) hA3 hK3 hb3 (fun b hbb=>⟨by
    rintro (e|e|e|⟨u,hu,e⟩)
    · have:=hbhp b hbb;have e:b=B.hp:=e;omega
    · have:=hbhp b hbb;have e:b=B.ap:=e;have:=H.out.lt _ (.inr (.inl rfl));omega
    · have:=hbhp b hbb;have e:b=B.ac:=e;have:=H.out.lt _ (.inr (.inr (.inl rfl)));omega
    · simp only[HB.vs,List.mem_cons,List.not_mem_nil,or_false] at hu;have:=hbhp b hbb;rcases hu with rfl|rfl|rfl|rfl
      · have:=H.out.lt b (.inr (.inr (.inr ⟨B.v0,by simp[HB.vs],e⟩)));omega
      · have:=H.out.lt b (.inr (.inr (.inr ⟨B.v1,by simp[HB.vs],e⟩)));omega
      · have:=H.out.lt b (.inr (.inr (.inr ⟨B.vw,by simp[HB.vs],e⟩)));omega
      · exact hab b e hbb,hbhp b hbb⟩))
  have hplf:=hid (fun p (hp:p∈lf)=>(.inr (.inr (hS.mem p hp)):Place { s with fin:=st } p));replace hN:=hid hN;replace hS:=hid hS;replace hlf:N≤100000:=by rw[←hN.out];exact hlf
  clear hsl hst y15 y15' hahp hbhp hlt hfr hf2 hA3 hK3 hb3 ha hb hab hse hmv hm;go_wp2_with fail
  generalize World.setCell w2 _ _=w3 at *;go_loopw [25] (fun i wr=>∃j:Nat,j≤N∧i=vI j∧MvL w B { s with fin:=st } (.slice sa N sc) lf j wr) (fun i _=>N-(intOf i).toNat)
  case atStart=>exact⟨0,by omega,rfl,hM0.out⟩
  case round=>
    obtain⟨j,hj,rfl,s',l',B',X',hg1,hA,hK,hrow,hn,hq⟩:=hrel;rcases Nat.lt_or_ge j N with hlt2|hge
    · have hjl:j<lf.length:=by rw[hN.out];exact hlt2
      have hl1:l'.length=j:=by rw[hg1.len,List.length_take];omega
      obtain⟨gv,gc,hv,_,hg0,_⟩:=hrow.get (k:=j) (by simp;omega);injection hv with hv1 hv2 hv3
      subst hv1;rw[show(nI (l'++lf.drop j)).getD j 0=((lf.getD j 0:Nat):Int) by rw[List.drop_eq_getElem_cons hjl];simp[List.getD,hjl,List.getElem?_append_right,hl1]] at hg0;have hpj:=hplf.out (lf.getD j 0) (by simp[List.getD,hjl]);have hmo:=hmoved hA ((hg1.place hpj).le hA.rep);have hBe:hpV B'=hpV B:=by unfold hpV;rw[hK.hp]
      rw[hBe] at hmo;have hst:=hid (fun(w2:World) (B2:HB) (s2:HS) (X2:List Nat) (q:Nat) (g2:Goes s' (lf.getD j 0) s2 q) (hA2:HAt w2 B2 s2 X2) (hK2:HKeep wr B' w2 B2)=>MvL.step (X:=X) hjl hg1 hA hK hrow hn hq hpj g2 hA2 hK2);replace hmo:=hid hmo;clear hv2 hv3 hg1 hA hK hrow hn hq hl1 hBe hpj;generalize lf.getD j 0=x at *;go_wp2_with fail
      refine(hmo.out).mono ?_;rintro e w4 ⟨s2,q,g2,rfl,B2,X2,hA2,hK2⟩;have hst2:=hst.out _ _ _ _ _ g2 hA2 hK2;have z1:=hst2.2.1;have z2:=hst2.2.2;replace hst2:=hid hst2.1;clear hA2 hK2 g2 hst hmo;go_wp2
      go_roundw
      case rel=>exact⟨j+1,by omega,by go_num,hst2.out⟩
      case measure=>simp[intOf];omega
    · obtain rfl:j=N:=by omega
      rw[List.take_of_length_le (by rw[hN.out];exact Nat.le_refl _)] at hg1;rw[List.drop_of_length_le (by rw[hN.out];exact Nat.le_refl _),List.append_nil] at hrow;replace hrow:=hid hrow;go_wp2;go_ret;exact⟨st,lf,s',l',_,hS.out,hg1,hq,rfl,hrow.out.base (fun b hb=>(hn b hb).2),B',X',hA,hK,fun b hb=>(hn b hb).1⟩
end
end Go.Proofs.YtdffnjikmkgjkaaGreat
