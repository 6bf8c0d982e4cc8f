/- TopMemory: a part of its proof (HeapE Coll). -/
import Derived.Test.YtdffnjikmkgjkaaGreatTmAA
import Derived.Test.YtdffnjikmkgjkaaGreatTmAG
set_option linter.unusedSimpArgs false
set_option linter.unusedVariables false
set_option maxHeartbeats 8000000
namespace Go.Proofs.YtdffnjikmkgjkaaGreat
section
open Go.RowKit Go.Shelf
inductive WeakS (s:HS) (q:Nat):HS→List Nat→Prop
  | stay {i:Nat} {o:Ob} (c:CurAt s i q o) (h:o.ps.getD 0 0∉opl s.old):WeakS s q s []
  | gone {i j t:Nat} {o u:Ob} (c:CurAt s i q o) (d:OldAt s j (o.ps.getD 0 0) u (some t)):WeakS s q (s.upd i (o.setp true 0 t)) []
  | lost {i j:Nat} {o u:Ob} (c:CurAt s i q o) (d:OldAt s j (o.ps.getD 0 0) u none):WeakS s q (s.upd i (o.setp true 0 0)) [o.ser]
inductive WeakL (s:HS):List Nat→HS→List Nat→Prop
  | nil:WeakL s [] s []
  | snoc {l ls m:List Nat} {s1 s2:HS} {q:Nat} (h:WeakL s l s1 ls) (g:WeakS s1 q s2 m):WeakL s (l++[q]) s2 (ls++m)
theorem CurAt.upd {s:HS}{i a j b:Nat}{o u u':Ob}(c:CurAt s i a o)(d:CurAt s j b u):CurAt (s.upd j u') i a (if i=j then u' else o):=by
  have e:(s.upd j u').cur=s.cur.set j (b,u'):=by
    unfold HS.upd;have:=d.get;simp only[ob0] at this;rw[this]
  refine⟨by rw[e,List.length_set];exact c.lt,?_⟩;rw[e]
  by_cases h:i=j
  · subst h;rw[if_pos rfl];have h1:=c.get;rw[d.get] at h1;have hl:=c.lt;cases h1;simp[List.getD,hl]
  · rw[if_neg h];have h1:=c.get;simp only[List.getD,List.getElem?_set,if_neg (Ne.symm h)] at h1 ⊢;exact h1
def WeakOk (s:HS)(q:Nat):Prop:=∃i o,CurAt s i q o∧o.wk=true∧Place s (o.ps.getD 0 0)
theorem upd_place {s:HS}{i:Nat}{o:Ob}{x:Nat}(h:Place s x):Place (s.upd i o) x:=by
  refine h.imp id (fun h=>h.imp (fun h=>?_) id);rw[plc_upd];exact h
theorem Ob.weak_p {o:Ob}(h:o.Ok)(hw:o.wk=true):o.p=1:=(h.sh.2.2 hw).1
theorem OldAt.gone_cur {s:HS}{X:List Nat}(h:HRep s X){j a t:Nat}{u:Ob}(d:OldAt s j a u (some t)):t∈plc s.cur:=by
  obtain⟨k,h1,h2,_⟩:=h.half.gone _ d.lt _ (by rw[d.get]);refine List.mem_map.2 ⟨s.cur.getD k ob0,get_mem' ob0 h1,?_⟩;rw[(h.place h1).1];exact h2
theorem WeakOk.set {s:HS}{i a v:Nat}{o:Ob}(c:CurAt s i a o)(hw:o.wk=true)(hv:Place s v)(hlp:o.ps.length=1){x:Nat}(h:WeakOk s x):WeakOk (s.upd i (o.setp true 0 v)) x:=by
  obtain⟨k,u,d,h1,h2⟩:=h;refine⟨k,_,d.upd (u':=o.setp true 0 v) c,?_,?_⟩
  · split
    · exact hw
    · exact h1
  · split
    · have:(o.setp true 0 v).ps.getD 0 0=v:=by
        simp[Ob.setp,List.getD,hlp]
      rw[this];exact upd_place hv
    · exact upd_place h2
theorem drop_otop (s:HS):s.drop.otop=s.base (!s.u):=rfl
theorem HAt.dropped_0 {w w':World}{B:HB}{s:HS}{X:List Nat}(h:HAt w B s X)(hu:s.u=false)(f:Fr (fun k=>k=B.hp) w w')
    (H:OwnL w' B.hp [arV B.ap,vI 1,vI s.n,vI (s.top:Nat),vI (1+s.n),vI s.n,vI (1+s.n),B.v0,.slice none 0 0,vI 0,.bool false,vI 0,vI s.scan,vI s.ser,B.vw,B.vf]) :
    HAt w' (B.flip s.u) s.drop X∧HKeep w B w' (B.flip s.u):=by
  have hrep:=h.rep.drop;have nn:=h.none_;have hap:=h.apart;have hin:=InB.nil;simp only[HB.vs,List.mem_cons,List.not_mem_nil,or_false,forall_eq_or_imp,forall_eq] at nn;simp only[HB.vs,List.pairwise_cons,List.mem_cons,List.not_mem_nil,or_false,forall_eq_or_imp,forall_eq] at hap;have hu2:s.drop.u=false:=hu;have b0:s.base false=1:=rfl;have b1:s.base true=1+s.n:=rfl;rw[hu];refine⟨⟨?_,?_,?_,?_,?_,?_,hrep,h.hap,h.hac,?_,?_⟩,⟨f.mono (fun k _ e=>.inl e),?_,rfl⟩⟩
  · have:hcells (B.flip false) s.drop=[arV B.ap,vI 1,vI s.n,vI (s.top:Nat),vI (1+s.n),vI s.n,vI (1+s.n),B.v0,.slice none 0 0,vI 0,.bool false,vI 0,vI s.scan,vI s.ser,B.vw,B.vf]:=by
      have e1:((s.drop.otop:Nat):Int)=1+s.n:=by rw[drop_otop,hu];simp only[Bool.not_false,Bool.not_true,b0,b1];try push_cast;try rfl
      have e2:s.drop.top=s.top:=rfl;have e3:owed s.drop.old=0:=rfl;simp only[hcells,hu2,cond_true,cond_false,e1,e2,e3,HB.flip];rfl
    rw[this];exact H
  · exact h.ar.fr f (by simpa using Ne.symm h.hap) (by simpa using Ne.symm h.hac)
  · have:=h.r0.frB f (fun k hk e=>nn.1.1 (e ▸ hk));simp only[l0,hu,cond_false,cond_true] at this;simp only[l0,hu2,cond_true,cond_false,HB.flip];exact this
  · simp only[l1,hu2,cond_true,cond_false,HB.flip];exact World.ownsRow_nil _ _ _ _
  · exact h.rw.frB f (fun k hk e=>nn.2.2.1.1 (e ▸ hk))
  · exact h.rf.frB f (fun k hk e=>nn.2.2.2.1 (e ▸ hk))
  · simp only[HB.vs,HB.flip,cond_true,cond_false,List.pairwise_cons,List.mem_cons,List.not_mem_nil,or_false,forall_eq_or_imp,forall_eq];exact⟨⟨fun k _ h2=>hin k h2,hap.1.2.1,hap.1.2.2⟩,⟨fun k h1 _=>hin k h1,fun k h1 _=>hin k h1⟩,hap.2.2.1,by simp,List.Pairwise.nil⟩
  · intro v hv;simp only[HB.vs,HB.flip,cond_false,cond_true,List.mem_cons,List.not_mem_nil,or_false] at hv;rcases hv with rfl|rfl|rfl|rfl
    · exact nn.1
    · exact⟨hin _,hin _,hin _⟩
    · exact nn.2.2.1
    · exact nn.2.2.2
  · rintro k (hk|hk|hk|⟨v,hv,hk⟩)
    · exact .inl (.inl hk)
    · exact .inl (.inr (.inl hk))
    · exact .inl (.inr (.inr (.inl hk)))
    · simp only[HB.vs,HB.flip,cond_false,cond_true,List.mem_cons,List.not_mem_nil,or_false] at hv;rcases hv with rfl|rfl|rfl|rfl
      · first|exact absurd hk (hin _)|exact .inl (.inr (.inr (.inr ⟨_,by simp[HB.vs],hk⟩)))
      · first|exact absurd hk (hin _)|exact .inl (.inr (.inr (.inr ⟨_,by simp[HB.vs],hk⟩)))
      · exact .inl (.inr (.inr (.inr ⟨_,by simp[HB.vs],hk⟩)))
      · exact .inl (.inr (.inr (.inr ⟨_,by simp[HB.vs],hk⟩)))
theorem HAt.dropped_1 {w w':World}{B:HB}{s:HS}{X:List Nat}(h:HAt w B s X)(hu:s.u=true)(f:Fr (fun k=>k=B.hp) w w')
    (H:OwnL w' B.hp [arV B.ap,vI 1,vI s.n,vI 1,vI (1+s.n),vI s.n,vI (s.top:Nat),.slice none 0 0,B.v1,vI 1,.bool false,vI 0,vI s.scan,vI s.ser,B.vw,B.vf]) :
    HAt w' (B.flip s.u) s.drop X∧HKeep w B w' (B.flip s.u):=by
  have hrep:=h.rep.drop;have nn:=h.none_;have hap:=h.apart;have hin:=InB.nil;simp only[HB.vs,List.mem_cons,List.not_mem_nil,or_false,forall_eq_or_imp,forall_eq] at nn;simp only[HB.vs,List.pairwise_cons,List.mem_cons,List.not_mem_nil,or_false,forall_eq_or_imp,forall_eq] at hap;have hu2:s.drop.u=true:=hu;have b0:s.base false=1:=rfl;have b1:s.base true=1+s.n:=rfl;rw[hu];refine⟨⟨?_,?_,?_,?_,?_,?_,hrep,h.hap,h.hac,?_,?_⟩,⟨f.mono (fun k _ e=>.inl e),?_,rfl⟩⟩
  · have:hcells (B.flip true) s.drop=[arV B.ap,vI 1,vI s.n,vI 1,vI (1+s.n),vI s.n,vI (s.top:Nat),.slice none 0 0,B.v1,vI 1,.bool false,vI 0,vI s.scan,vI s.ser,B.vw,B.vf]:=by
      have e1:((s.drop.otop:Nat):Int)=1:=by rw[drop_otop,hu];simp only[Bool.not_false,Bool.not_true,b0,b1];try push_cast;try rfl
      have e2:s.drop.top=s.top:=rfl;have e3:owed s.drop.old=0:=rfl;simp only[hcells,hu2,cond_true,cond_false,e1,e2,e3,HB.flip];rfl
    rw[this];exact H
  · exact h.ar.fr f (by simpa using Ne.symm h.hap) (by simpa using Ne.symm h.hac)
  · simp only[l0,hu2,cond_true,cond_false,HB.flip];exact World.ownsRow_nil _ _ _ _
  · have:=h.r1.frB f (fun k hk e=>nn.2.1.1 (e ▸ hk));simp only[l1,hu,cond_false,cond_true] at this;simp only[l1,hu2,cond_true,cond_false,HB.flip];exact this
  · exact h.rw.frB f (fun k hk e=>nn.2.2.1.1 (e ▸ hk))
  · exact h.rf.frB f (fun k hk e=>nn.2.2.2.1 (e ▸ hk))
  · simp only[HB.vs,HB.flip,cond_true,cond_false,List.pairwise_cons,List.mem_cons,List.not_mem_nil,or_false,forall_eq_or_imp,forall_eq];exact⟨⟨fun k h1 _=>hin k h1,fun k h1 _=>hin k h1,fun k h1 _=>hin k h1⟩,hap.2.1,hap.2.2.1,by simp,List.Pairwise.nil⟩
  · intro v hv;simp only[HB.vs,HB.flip,cond_false,cond_true,List.mem_cons,List.not_mem_nil,or_false] at hv;rcases hv with rfl|rfl|rfl|rfl
    · exact⟨hin _,hin _,hin _⟩
    · exact nn.2.1
    · exact nn.2.2.1
    · exact nn.2.2.2
  · rintro k (hk|hk|hk|⟨v,hv,hk⟩)
    · exact .inl (.inl hk)
    · exact .inl (.inr (.inl hk))
    · exact .inl (.inr (.inr (.inl hk)))
    · simp only[HB.vs,HB.flip,cond_false,cond_true,List.mem_cons,List.not_mem_nil,or_false] at hv;rcases hv with rfl|rfl|rfl|rfl
      · first|exact absurd hk (hin _)|exact .inl (.inr (.inr (.inr ⟨_,by simp[HB.vs],hk⟩)))
      · first|exact absurd hk (hin _)|exact .inl (.inr (.inr (.inr ⟨_,by simp[HB.vs],hk⟩)))
      · exact .inl (.inr (.inr (.inr ⟨_,by simp[HB.vs],hk⟩)))
      · exact .inl (.inr (.inr (.inr ⟨_,by simp[HB.vs],hk⟩)))
end
section
open Go.RowKit Go.Shelf
theorem Settles.congr {s s':HS}(he:s.old=s'.old){l st lf:List Nat}(h:Settles s l st lf):Settles s' l st lf:=by
  induction h with
  | nil=>exact .nil
  | stay h hp ih=>exact .stay ih (he ▸ hp)
  | gone h c ih=>exact .gone ih ⟨he ▸ c.lt,he ▸ c.get⟩
  | left h c ih=>exact .left ih ⟨he ▸ c.lt,he ▸ c.get⟩
def DropI (w:World)(B B2:HB)(s:HS)(l:List Nat)(v:Value)(k:Nat)(wr:World):Prop:=
  ∃s' ls X',WeakL s (l.take k) s' ls∧HAt wr B2 s' X'∧HKeep w B wr B2∧ORow wr w.heap.size v (nI ls)∧(∀b,InB v b→¬HBlk B2 b)∧ls.length≤k∧(∀q∈l,WeakOk s' q)∧s'.old=s.old∧s'.weak=s.weak∧s'.fin=s.fin∧s'.u=s.u∧s'.mv=s.mv∧s'.scan=s.scan
def DropPost (w:World)(B:HB)(s:HS)(e:Ending)(w':World):Prop:=
  ∃stw stf l1 l2 s' ls v,Settles s s.weak stw l1∧Settles s s.fin stf l2∧WeakL { s with weak:=stw,fin:=stf } stw s' ls∧e = .returned (.tuple #[v,.bool true])∧ORow w' w.heap.size v (nI ls)∧∃B' X',HAt w' B' s'.drop X'∧HKeep w B w' B'
set_option maxRecDepth 4000 in
theorem hdrop {w:World}{B:HB}{s:HS}{X:List Nat}(h:HAt w B s X)(hm:s.mv=true)(hs:s.scan=s.top)(hpw:∀p∈s.weak,p≤131072)(hpf:∀p∈s.fin,p≤131072)(hok:∀stw lf,Settles s s.weak stw lf→∀q∈stw,WeakOk s q) :
    Calls Tryz.prog 164 #[hpV B] w (DropPost w B s):=by
  have hmv:=moving_is h;rw[hm] at hmv;replace hmv:=hid hmv;have hsc:=hid (scanned_is h (S:=true) (by rw[hs];simp));have y14:=(h.own (i:=14) (v:=B.vw) rfl).1;have H:=hid h;replace hpw:=hid hpw;replace hpf:=hid hpf;replace hok:=hid hok;replace hs:=hid hs;clear h;go_enter Tryz.func164,Tryz.ntmps164;go_wp2_with fail
  refine(hmv.out).mono ?_;rintro e w1 ⟨rfl,rfl⟩;go_wp2_with fail
  refine(hsc.out).mono ?_;rintro e w1 ⟨rfl,c1⟩;replace y14:=c1.cellAt y14 id;go_wp2_with fail
  have H1:=H.out.calm c1;refine(settle_is H1 H1.rw H.out.rep.few.1 hpw.out).mono ?_;rintro e w2 ⟨va,vb,stw,lf,rfl,hS,ha,hb,hab,c2⟩;have hstl:stw.length≤100000:=by have:=hS.len;have:=H.out.rep.few.1;omega
  replace c2:=c1.trans c2;obtain⟨N,hN⟩:∃N,stw.length=N:=⟨_,rfl⟩;obtain⟨aa,ac,rfl⟩:=ha.sliceN (n:=N) (by simp[hN]);have y14':=(H.out.own (i:=14) (v:=B.vw) rfl).calm c2;have y1:=y14'.1;have y2:=y14'.2;have y15:=((H.out.own (i:=15) (v:=B.vf) rfl).calm c2).1;have hlt:=H.out.lt_hp;have hab2:∀b,InB (.slice aa N ac) b→w.heap.size≤b:=fun b hb=>by have:=(ha.lt hb).1;have:=c1.size;omega
  have hfr:Fr (fun k=>k=B.hp∨InB B.vw k) w (w2.setCell ⟨B.hp,14,none⟩ (.slice aa N ac)):=(Calm.any c2).setCell (p:=⟨B.hp,14,none⟩) (.inl (.inl rfl)) _;have hf2:=frS w2 (B.hp) 14 (.slice aa N ac);obtain⟨hA3,hK3⟩:=H.out.reweak (v:=.slice aa N ac) (l:=stw) hfr ((H.out.cs.calm c2).set 14 _ (by simp[hcells])) ((ha.mono (Nat.zero_le _)).frB hf2 (fun b h1 (h2:b=B.hp)=>by have:=hab2 b h1;omega)) (fun k hk=>.inr (hab2 k hk)) hstl;have hokw:=hid (hok.out _ _ hS);have hN5:N≤100000:=by rw[←hN];exact hstl
  replace hN:=hid hN;clear hstl;replace hS:=hid hS;replace hA3:=hid hA3;replace hK3:=hid hK3;clear y14 y14' ha hb hab hab2 hfr c1 c2 H1 hlt hmv hsc hok;go_wp2_with fail
  clear y1 y2 y15 hf2;generalize World.setCell w2 _ _=w3 at *;refine(settle_is hA3.out hA3.out.rf H.out.rep.few.2 hpf.out).mono ?_;rintro e w4 ⟨va,vd,stf,lf2,rfl,hS2,ha,hb,hab,c4⟩;have hstf:stf.length≤100000:=by have h3:stf.length+lf2.length=s.fin.length:=hS2.len;have:=H.out.rep.few.2;omega
  obtain⟨fa,fn,fc,rfl⟩:=ha.letters;have y15':=(hA3.out.own (i:=15) (v:=B.vf) rfl).calm c4;have y1:=y15'.1;have y2:=y15'.2;have hlt:B.hp<w3.heap.size:=hA3.out.lt_hp;have hab2:∀b,InB (.slice fa fn fc) b→w3.heap.size≤b:=fun b hb=>(ha.lt hb).1;have hfr:Fr (fun k=>k=B.hp∨InB B.vf k) w3 (w4.setCell ⟨B.hp,15,none⟩ (.slice fa fn fc)):=(Calm.any c4).setCell (p:=⟨B.hp,15,none⟩) (.inl (.inl rfl)) _;have hf2:=frS w4 (B.hp) 15 (.slice fa fn fc);obtain⟨hA5,hK5⟩:=hA3.out.refin (v:=.slice fa fn fc) (l:=stf) hfr ((hA3.out.cs.calm c4).set 15 _ (by simp[hcells])) ((ha.mono (Nat.zero_le _)).frB hf2 (fun b h1 (h2:b=B.hp)=>by have:=hab2 b h1;omega)) (fun k hk=>.inr (hab2 k hk)) hstf;have hS2':=hid (Settles.congr (s:={ s with weak:=stw }) (s':=s) (l:=s.fin) rfl hS2);have hK5':=hid (hK3.out.trans hK5);obtain⟨B2,hB2⟩:∃B2,B2=({ B with vw:=.slice aa N ac,vf:=.slice fa fn fc } : HB):=⟨_,rfl⟩;have hp2:B2.hp=B.hp:=by rw[hB2]
  have hvw2:B2.vw = .slice aa N ac:=by rw[hB2]
  have hA6:HAt (w4.setCell ⟨B.hp,15,none⟩ (.slice fa fn fc)) B2 { s with weak:=stw,fin:=stf } X:=by rw[hB2];exact hA5
  have hK6:HKeep w B (w4.setCell ⟨B.hp,15,none⟩ (.slice fa fn fc)) B2:=by rw[hB2];exact hK5'.out
  have y14:=(hA3.out.own (i:=14) (v:=.slice aa N ac) rfl).calm c4 |>.1;replace hA6:=hid hA6;replace hK6:=hid hK6;replace hp2:=hid hp2;clear hA3 hK3 hS2 ha hb hab y15' hlt hab2 hfr c4 hA5 hK5 hK5' hB2;go_wp2_with fail
  clear y1 y2 hf2 y14;generalize World.setCell w4 _ _=w5 at *
  have hI0:DropI w B B2 { s with weak:=stw,fin:=stf } stw (.slice none 0 0) 0 w5:=
    ⟨_,[],X,by rw[List.take_zero];exact .nil,hA6.out,hK6.out,ORow.nil _ _,(fun b h=>(InB.nil b h).elim),Nat.zero_le _,(fun q hq=>let ⟨i,o,c,h1,h2⟩:=hokw.out q hq;⟨i,o,⟨c.lt,c.get⟩,h1,h2⟩),rfl,rfl,rfl,rfl,rfl,rfl⟩
  replace hI0:=hid hI0;replace hvw2:=hid hvw2;clear hA6 hokw hK6;go_loopw [4,51] (fun v i wr=>∃k:Nat,k≤N∧i=vI k∧DropI w B B2 { s with weak:=stw,fin:=stf } stw v k wr) (fun _ i _=>N-(intOf i).toNat)
  case atStart=>exact⟨0,by omega,rfl,hI0.out⟩
  case round=>
    clear hI0;obtain⟨k,hk,rfl,s',ls,X',hW,hA,hK,hv,hn,hll,hok',eo,ew,ef,eu,em,es⟩:=hrel;have ew:s'.weak=stw:=ew;obtain⟨va,vn,vc,rfl⟩:=hv.letters;rcases Nat.lt_or_ge k N with hlt|hge
    · have hkl:k<stw.length:=by rw[hN.out];exact hlt
      have hrw:=hA.rw;rw[ew,hvw2.out] at hrw;obtain⟨g,gc,hv',_,hg0,_⟩:=hrw.get (k:=k) (by simpa using hkl);injection hv' with hv1 hv2 hv3
      subst hv1;rw[show(nI stw).getD k 0=((stw.getD k 0:Nat):Int) by simp[List.getD,hkl]] at hg0;have hmem:stw.getD k 0∈stw:=by simp[List.getD,hkl]
      obtain⟨i,o,c,hwk,hpl⟩:=hok' _ hmem;have htk:=take_succ_getD stw hkl;clear hrw hv2 hv3 hkl hmem;generalize stw.getD k 0=q at *;have hat:=c.at_ hA.rep;have hp1:=Ob.weak_p hat.ok hwk;have hlp:o.ps.length=1:=by rw[hat.ok.lp,hp1]
      have hp2':=hpl.le hA.rep;have y0:=(hA.own (i:=0) (v:=arV B2.ap) rfl).1;rw[hp2.out] at y0;have hap:=hid (fun W (cw:Calm wr W)=>(at_ptr (hA.ar.calm cw) hat (i:=0) (by omega):Calls Tryz.prog 169 #[arV B2.ap,vI q,vI 0] W _));have hth:=fun W (cw:Calm wr W)=>there_is (hA.calm cw) (o.ps.getD 0 0:Nat) ⟨by omega,by omega⟩;have hB2e:hpV B2=hpV B:=by unfold hpV;rw[hp2.out]
      rw[hB2e] at hth;have hls9:Hid ((nI ls).length≤1000000):=by show(nI ls).length≤1000000;simp;omega
      have hsz:=hid (hK.fr.size)
      by_cases hm:o.ps.getD 0 0∈opl s'.old
      · rw[decide_eq_true (mem_nI.2 hm)] at hth;obtain⟨j,u,m,d⟩:=OldAt.of_mem hm
        cases m with
        | some t=>
          have hgn:Gone X' (o.ps.getD 0 0) t:=by
            have:=(hA.rep.half.ol.at j d.lt).2.2.2;rw[d.get] at this;exact this
          have htc:=d.gone_cur hA.rep;have ht2:=hA.rep.plc_le htc;have hma:=hid (fun W (cw:Calm wr W)=>mat_gone W B2.ap B2.ac X' (hA.ar.calm cw) (o.ps.getD 0 0) t hgn);have hset:=hid (fun W (cw:Calm wr W)=>(at_setptr (hA.ar.calm cw) hat (i:=0) (v:=t) (by omega) ht2:Calls Tryz.prog 170 #[arV B2.ap,vI q,vI 0,vI t] W _));have hW2:WeakL { s with weak:=stw,fin:=stf } (stw.take (k+1)) (s'.upd i (o.setp true 0 t)) (ls++[]):=by rw[htk];exact .snoc hW (.gone c d)
          rw[List.append_nil] at hW2;have hturn:=fun W (cw:Calm wr W) W' (ar:Ar W' B2.ap B2.ac (X'.set (q+3+0) t)) (f:Fr (fun k=>k=B2.ac) W W')=>(hA.calm cw).turn c ar f (o':=o.setp true 0 t) (by simp) (Has.at_ptr hat (Has.lt (n:=o.p) (k:=0) (by omega) (by omega)) ht2) (o.setp_same true 0 t) (fun j hj=>by simp only[Ob.size] at hj;rw[getD_set,if_neg (by omega)]);have hok2:∀q∈stw,WeakOk (s'.upd i (o.setp true 0 t)) q:=fun x hx=>(hok' x hx).set c hwk (.inr (.inl htc)) hlp;replace hturn:=hid hturn;replace hok2:=hid hok2;replace hW2:=hid hW2;replace hth:=hid hth;replace hA:=hid hA;replace hK:=hid hK;replace hv:=hid hv;replace hn:=hid hn;replace ew:=hid ew;replace ef:=hid ef;replace eu:=hid eu;replace em:=hid em;replace es:=hid es;replace eo:=hid eo;clear hW hok' hm d hgn htc c hat hpl htk hp1 hlp;generalize o.ps.getD 0 0=p at *;go_wp2_with fail
          refine(hap.out _ (Fr.refl _ _)).mono ?_;rintro e w6 ⟨rfl,c6⟩;go_wp2_with fail
          refine(hth.out _ c6).mono ?_;rintro e w7 ⟨rfl,c7⟩;replace c7:=c6.trans c7;replace y0:=c7.cellAt y0 id;clear c6;go_wp2_with fail
          refine(hma.out _ c7).mono ?_;rintro e w8 ⟨rfl,rfl⟩;go_wp2_with fail
          refine(hset.out _ c7).mono ?_;rintro e w9 ⟨rfl,ar9,f9⟩;have ht:=hid (hturn.out _ c7 _ ar9 f9);clear ar9;go_wp2
          go_roundw
          case rel=>
            refine⟨k+1,by omega,by go_num,_,ls,_,hW2.out,ht.out.1,(hK.out.trans (HKeep.calm B2 c7)).trans ht.out.2,(hv.out.calm c7).frB f9 (fun b hb e=>hn.out b hb (.inr (.inr (.inl e)))),hn.out,by omega,hok2.out,eo.out,ew.out,ef.out,eu.out,em.out,es.out⟩
          case measure=>simp[intOf];omega
        | none=>
          have hat2:At X' (o.ps.getD 0 0) u:=by
            have:=(hA.rep.half.ol.at j d.lt).2.2.2;rw[d.get] at this;exact this
          have hma:=hid (fun W (cw:Calm wr W)=>mat_here W B2.ap B2.ac X' (hA.ar.calm cw) (o.ps.getD 0 0) u hat2);have hset:=hid (fun W (cw:Calm wr W)=>(at_setptr (hA.ar.calm cw) hat (i:=0) (v:=0) (by omega) (by omega):Calls Tryz.prog 170 #[arV B2.ap,vI q,vI 0,vI 0] W _));have hW2:WeakL { s with weak:=stw,fin:=stf } (stw.take (k+1)) (s'.upd i (o.setp true 0 0)) (ls++[o.ser]):=by rw[htk];exact .snoc hW (.lost c d)
          have hturn:=fun W (cw:Calm wr W) W' (ar:Ar W' B2.ap B2.ac (X'.set (q+3+0) 0)) (f:Fr (fun k=>k=B2.ac) W W')=>(hA.calm cw).turn c ar f (o':=o.setp true 0 0) (by simp) (Has.at_ptr hat (Has.lt (n:=o.p) (k:=0) (by omega) (by omega)) (by omega)) (o.setp_same true 0 0) (fun j hj=>by simp only[Ob.size] at hj;rw[getD_set,if_neg (by omega)]);have hok2:∀q∈stw,WeakOk (s'.upd i (o.setp true 0 0)) q:=fun x hx=>(hok' x hx).set c hwk (.inl rfl) hlp;have hcu:CurAt (s'.upd i (o.setp true 0 0)) i q (o.setp true 0 0):=by have:=c.upd (u':=o.setp true 0 0) c;rwa [if_pos rfl] at this
          replace hturn:=hid hturn;replace hok2:=hid hok2;replace hW2:=hid hW2;replace hth:=hid hth;replace hA:=hid hA;replace hK:=hid hK;replace hv:=hid hv;replace hn:=hid hn;replace hcu:=hid hcu;replace ew:=hid ew;replace ef:=hid ef;replace eu:=hid eu;replace em:=hid em;replace es:=hid es;replace eo:=hid eo;clear hW hok' hm d hat2 c hat hpl htk hp1 hlp;generalize o.ps.getD 0 0=p at *;have e2:Hid (nI (ls++[o.ser])=nI ls++[(o.ser:Int)]):=by show nI (ls++[o.ser])=_;simp
          generalize nI ls=L at *;go_wp2_with fail
          refine(hap.out _ (Fr.refl _ _)).mono ?_;rintro e w6 ⟨rfl,c6⟩;go_wp2_with fail
          refine(hth.out _ c6).mono ?_;rintro e w7 ⟨rfl,c7⟩;replace c7:=c6.trans c7;replace y0:=c7.cellAt y0 id;clear c6;go_wp2_with fail
          refine(hma.out _ c7).mono ?_;rintro e w8 ⟨rfl,rfl⟩;go_wp2_with fail
          refine(hset.out _ c7).mono ?_;rintro e w9 ⟨rfl,ar9,f9⟩;have ht:=hturn.out _ c7 _ ar9 f9;have hv9:=(hv.out.calm c7).frB f9 (fun b hb e=>hn.out b hb (.inr (.inr (.inl e))));have hser:=hid (at_serial ht.1.ar (hcu.out.at_ ht.1.rep));have y0b:=(ht.1.own (i:=0) (v:=arV B2.ap) rfl).1;rw[hp2.out] at y0b;have hsz9:=Nat.le_trans hsz.out (Nat.le_trans c7.size f9.size);replace ht:=hid ht;replace hv9:=hid hv9;clear ar9 y0;go_wp2_with fail
          refine(hser.out).mono ?_;rintro e w10 ⟨rfl,c10⟩;have hsz10:=hid (Nat.le_trans hsz9 c10.size);replace hv9:=hid (hv9.out.calm c10);clear hsz9;go_wp2_with (at_builtin;go_must (refine wpList_app1 rfl _ _ rfl _ _ L hv9.out rfl (o.ser:Int) rfl hls9.out hsz10.out ?_);intro g4 c4 w4 hN4 hF4 hg4;replace hN4:=hid hN4;replace hF4:=hid hF4;replace hg4:=hid hg4)
          go_roundw
          case rel=>
            refine⟨k+1,by omega,by go_num,_,_,_,hW2.out,(ht.out.1.calm c10).fr hF4.out (fun b h1 h2=>hn.out b h2 h1),(((hK.out.trans (HKeep.calm B2 c7)).trans ht.out.2).trans (HKeep.calm B2 c10)).far hF4.out (fun b h1 h2=>by have:=(hv.out.lt h2).1;omega),by rw[e2.out];exact hN4.out,fun b h1 h2=>?_,by simp;omega,hok2.out,eo.out,ew.out,ef.out,eu.out,em.out,es.out⟩;have:=InB.mk1 h1;subst this;exact hg4.out.elim (fun h=>hn.out _ h h2) (fun h=>by have:=(ht.out.1.calm c10).lt _ h2;omega)
          case measure=>simp[intOf];omega
      · rw[decide_eq_false (fun e=>hm (mem_nI.1 e))] at hth;have hW2:WeakL { s with weak:=stw,fin:=stf } (stw.take (k+1)) s' (ls++[]):=by rw[htk];exact .snoc hW (.stay c hm)
        rw[List.append_nil] at hW2;replace hW2:=hid hW2;replace hth:=hid hth;replace hA:=hid hA;replace hK:=hid hK;replace hv:=hid hv;replace hn:=hid hn;replace hok':=hid hok';replace ew:=hid ew;replace ef:=hid ef;replace eu:=hid eu;replace em:=hid em;replace es:=hid es;replace eo:=hid eo;clear hW hm c hat hpl htk hp1 hlp;generalize o.ps.getD 0 0=p at *;go_wp2_with fail
        refine(hap.out _ (Fr.refl _ _)).mono ?_;rintro e w6 ⟨rfl,c6⟩;go_wp2_with fail
        refine(hth.out _ c6).mono ?_;rintro e w7 ⟨rfl,c7⟩;replace c7:=c6.trans c7;go_wp2
        go_roundw
        case rel=>
          refine⟨k+1,by omega,by go_num,_,ls,_,hW2.out,hA.out.calm c7,hK.out.trans (HKeep.calm B2 c7),hv.out.calm c7,hn.out,by omega,hok'.out,eo.out,ew.out,ef.out,eu.out,em.out,es.out⟩
        case measure=>simp[intOf];omega
    · obtain rfl:k=N:=by omega
      rw[List.take_of_length_le (by rw[hN.out];exact Nat.le_refl _)] at hW;have hok:=okP_old hA.rep;have hpe:=hp2.out;have hc:=hA.cs;rw[hpe] at hc;have bs:=base_sep s';replace hA:=hid hA;replace hK:=hid hK;replace hv:=hid hv;replace hn:=hid hn;replace hW:=hid hW;clear hok' eo ew ef eu em es hvw2;cases hu:s'.u
      · have eb:((s'.base (!s'.u):Nat):Int)=1+s'.n:=by rw[(bs.2 hu).2];push_cast;rfl
        rw[eb] at hok;have hem:=hid (fun W=>empty_any (1+s'.n) s'.n (s'.otop:Nat) W hok);simp only[hcells,hu,cond_true,cond_false] at hc;clear hok bs eb;generalize hT:((s'.top:Nat):Int)=T at hc;generalize hO:((s'.otop:Nat):Int)=OT at hc hem;generalize hD:((owed s'.old:Nat):Int)=OW at hc;generalize hSC:((s'.scan:Nat):Int)=SC at hc;generalize hSE:((s'.ser:Nat):Int)=SE at hc;replace hT:=hid hT;replace hSC:=hid hSC;replace hSE:=hid hSE;clear hD hO;have y9:=(hc 9 _ rfl).1;replace hc:=hid hc;go_wp2_with fail
        have q1:=lat hc.out 4 rfl;have q2:=lat hc.out 5 rfl;have q3:=lat hc.out 6 rfl;refine wp_region_calm_tail 12 (by kernel_rfl) (by kernel_rfl) ?_;simp only[List.take_succ_cons,List.take_zero,List.drop_succ_cons,List.drop_zero]
        repeat (go_big_quiet_step ((go_at_call 108;exact Calls.calm_of (hem.out _))))
        refine wpQuiet_nil ?_;intro W2 hw';have c2:=Later.out hw';clear hw' q1 q2 q3 hem y9;have H1:=hc.out.calm c2;have u1:=(H1 4 _ rfl).1;have u2:=(H1 5 _ rfl).1;have u3:=(H1 6 _ rfl).1;have v1:=(H1 4 _ rfl).2;have v2:=(H1 5 _ rfl).2;have v3:=(H1 6 _ rfl).2;have u4:=(H1 8 _ rfl).1;have v4:=(H1 8 _ rfl).2;have u5:=(H1 10 _ rfl).1;have v5:=(H1 10 _ rfl).2;have u6:=(H1 11 _ rfl).1;have v6:=(H1 11 _ rfl).2;replace H1:=hid H1;clear hc;go_wp2
        go_ret2
        have f2:Fr (fun k=>k=B.hp) wr W2:=Calm.any c2;have f3:=(((((f2.setCell (p:=⟨B.hp,4,none⟩) (.inl rfl) (vI (1+s'.n))).setCell (p:=⟨B.hp,5,none⟩) (.inl rfl) (vI s'.n)).setCell (p:=⟨B.hp,6,none⟩) (.inl rfl) (vI (1+s'.n))).setCell (p:=⟨B.hp,8,none⟩) (.inl rfl) (.slice none 0 0)).setCell (p:=⟨B.hp,10,none⟩) (.inl rfl) (.bool false)).setCell (p:=⟨B.hp,11,none⟩) (.inl rfl) (vI 0);have H3:=(((((H1.out.set 4 (vI (1+s'.n)) (by simp)).set 5 (vI s'.n) (by simp)).set 6 (vI (1+s'.n)) (by simp)).set 8 (.slice none 0 0) (by simp)).set 10 (.bool false) (by simp)).set 11 (vI 0) (by simp);simp only[List.set_cons_zero,List.set_cons_succ] at H3;generalize World.setCell _ _ _=W3 at *;have hD:=hA.out.dropped_0 hu (by rw[hpe];exact f3) (by rw[hpe,hT.out,hSC.out,hSE.out];exact H3);have hnn:=hn.out;refine⟨stw,stf,lf,lf2,s',ls,_,hS.out,hS2'.out,hW.out,rfl,hv.out.frB f3 (fun b h1 (h2:b=B.hp)=>hnn b h1 (.inl (h2.trans hpe.symm))),_,X',hD.1,hK.out.trans hD.2⟩
      · have eb:((s'.base (!s'.u):Nat):Int)=1:=by rw[(bs.1 hu).2];rfl
        rw[eb] at hok;have hem:=hid (fun W=>empty_any (1) s'.n (s'.otop:Nat) W hok);simp only[hcells,hu,cond_true,cond_false] at hc;clear hok bs eb;generalize hT:((s'.top:Nat):Int)=T at hc;generalize hO:((s'.otop:Nat):Int)=OT at hc hem;generalize hD:((owed s'.old:Nat):Int)=OW at hc;generalize hSC:((s'.scan:Nat):Int)=SC at hc;generalize hSE:((s'.ser:Nat):Int)=SE at hc;replace hT:=hid hT;replace hSC:=hid hSC;replace hSE:=hid hSE;clear hD hO;have y9:=(hc 9 _ rfl).1;replace hc:=hid hc;go_wp2_with fail
        have q1:=lat hc.out 1 rfl;have q2:=lat hc.out 2 rfl;have q3:=lat hc.out 3 rfl;refine wp_region_calm_tail 12 (by kernel_rfl) (by kernel_rfl) ?_;simp only[List.take_succ_cons,List.take_zero,List.drop_succ_cons,List.drop_zero]
        repeat (go_big_quiet_step ((go_at_call 108;exact Calls.calm_of (hem.out _))))
        refine wpQuiet_nil ?_;intro W2 hw';have c2:=Later.out hw';clear hw' q1 q2 q3 hem y9;have H1:=hc.out.calm c2;have u1:=(H1 1 _ rfl).1;have u2:=(H1 2 _ rfl).1;have u3:=(H1 3 _ rfl).1;have v1:=(H1 1 _ rfl).2;have v2:=(H1 2 _ rfl).2;have v3:=(H1 3 _ rfl).2;have u4:=(H1 7 _ rfl).1;have v4:=(H1 7 _ rfl).2;have u5:=(H1 10 _ rfl).1;have v5:=(H1 10 _ rfl).2;have u6:=(H1 11 _ rfl).1;have v6:=(H1 11 _ rfl).2;replace H1:=hid H1;clear hc;go_wp2
        go_ret2
        have f2:Fr (fun k=>k=B.hp) wr W2:=Calm.any c2;have f3:=(((((f2.setCell (p:=⟨B.hp,1,none⟩) (.inl rfl) (vI 1)).setCell (p:=⟨B.hp,2,none⟩) (.inl rfl) (vI s'.n)).setCell (p:=⟨B.hp,3,none⟩) (.inl rfl) (vI 1)).setCell (p:=⟨B.hp,7,none⟩) (.inl rfl) (.slice none 0 0)).setCell (p:=⟨B.hp,10,none⟩) (.inl rfl) (.bool false)).setCell (p:=⟨B.hp,11,none⟩) (.inl rfl) (vI 0);have H3:=(((((H1.out.set 1 (vI 1) (by simp)).set 2 (vI s'.n) (by simp)).set 3 (vI 1) (by simp)).set 7 (.slice none 0 0) (by simp)).set 10 (.bool false) (by simp)).set 11 (vI 0) (by simp);simp only[List.set_cons_zero,List.set_cons_succ] at H3;generalize World.setCell _ _ _=W3 at *;have hD:=hA.out.dropped_1 hu (by rw[hpe];exact f3) (by rw[hpe,hT.out,hSC.out,hSE.out];exact H3);have hnn:=hn.out;refine⟨stw,stf,lf,lf2,s',ls,_,hS.out,hS2'.out,hW.out,rfl,hv.out.frB f3 (fun b h1 (h2:b=B.hp)=>hnn b h1 (.inl (h2.trans hpe.symm))),_,X',hD.1,hK.out.trans hD.2⟩
end
section
open Go.RowKit Go.Shelf
def Entry (s:HS)(p:Nat)(o:Ob):Prop:=(p,o)∈s.cur∨∃m,(p,o,m)∈s.old
theorem Entry.ok {s:HS}{X:List Nat}(h:HRep s X){p:Nat}{o:Ob}(hp:Entry s p o):o.Ok∧1≤p∧4≤o.took:=by
  have hsep:=h.sep;rcases hp with hp|⟨m,hp⟩
  · obtain⟨a0,a1,a2,_⟩:=h.cur_ok hp;obtain⟨_,_,q,_⟩:=Ob.took_eq a0;exact⟨a0,by simp only at a1;omega,q⟩
  · obtain⟨a0,a1,a2⟩:=h.old_ok hp;obtain⟨_,_,q,_⟩:=Ob.took_eq a0;exact⟨a0,by simp only at a1;omega,q⟩
theorem Entry.unique {s:HS}{X:List Nat}(h:HRep s X){p:Nat}{o u:Ob}(hp:(p,o)∈s.cur):¬∃m,(p,u,m)∈s.old:=by
  rintro ⟨m,hq⟩;have hap:=h.apart;have htop:=h.top_le;obtain⟨a0,a1,a2,_⟩:=h.cur_ok hp;obtain⟨b0,b1,b2⟩:=h.old_ok hq;obtain⟨_,_,q1,_⟩:=Ob.took_eq a0;obtain⟨_,_,q2,_⟩:=Ob.took_eq b0;simp only at a1 a2 b1 b2 q1 q2;omega
def GoneTo (s:HS)(q t:Nat):Prop:=∃i o,OldAt s i q o (some t)
theorem OldAt.mem' {s:HS}{i a:Nat}{o:Ob}{m:Option Nat}(c:OldAt s i a o m):(a,o,m)∈s.old:=by rw[←c.get];exact get_mem' _ c.lt
theorem old_same {s:HS}{X:List Nat}(h:HRep s X){x y:Nat × Ob × Option Nat}(hx:x∈s.old)(hy:y∈s.old)(e:x.1=y.1):x=y:=by
  obtain⟨i,hi,rfl⟩:=mem_get oo hx;obtain⟨j,hj,rfl⟩:=mem_get oo hy;obtain⟨_,_,k1,_⟩:=h.half.ol.at i hi;obtain⟨_,_,k2,_⟩:=h.half.ol.at j hj;obtain⟨_,_,q1,_⟩:=Ob.took_eq k1;obtain⟨_,_,q2,_⟩:=Ob.took_eq k2;rcases Nat.lt_trichotomy i j with hl|rfl|hl
  · have:=h.half.ol.apart i j hl hj;omega
  · rfl
  · have:=h.half.ol.apart j i hl hi;omega
theorem GoneTo.cur {s:HS}{X:List Nat}(h:HRep s X){q t:Nat}(g:GoneTo s q t):t∈plc s.cur:=by
  obtain⟨i,o,c⟩:=g;exact c.gone_cur h
theorem live_unique {s:HS}{X:List Nat}(hr:HRep s X){p:Nat}{o u:Ob}(h1:Live s p o)(h2:Live s p u):u=o:=by
  rcases h1 with h1|h1 <;> rcases h2 with h2|h2
  · obtain⟨i,hi,e1⟩:=mem_get ob0 h1;obtain⟨j,hj,e2⟩:=mem_get ob0 h2;obtain⟨_,_,q1⟩:=Entry.ok hr (show Entry s p o from .inl h1);obtain⟨_,_,q2⟩:=Entry.ok hr (show Entry s p u from .inl h2)
    by_cases hij:i=j
    · subst hij;rw[e1] at e2;cases e2;rfl
    · exfalso;rcases Nat.lt_or_gt_of_ne hij with hlt|hlt
      · have:=hr.cur_lt hlt hj;rw[e1,e2] at this;simp only at this;omega
      · have:=hr.cur_lt hlt hi;rw[e1,e2] at this;simp only at this;omega
  · exact absurd ⟨none,h2⟩ (Entry.unique hr h1)
  · exact absurd ⟨none,h1⟩ (Entry.unique hr h2)
  · have:=old_same hr h1 h2 rfl;cases this;rfl
end
section
open Go.RowKit Go.Shelf
theorem cur_not_old_ {s:HS}{X:List Nat}(hr:HRep s X){q:Nat}(h:q∈plc s.cur):q∉opl s.old:=fun e=>by
  obtain⟨x,hx,rfl⟩:=List.mem_map.1 h;obtain⟨i,o,m,c⟩:=OldAt.of_mem e;exact Entry.unique hr (o:=x.2) (u:=o) (by exact hx) ⟨m,c.mem'⟩
structure Coll (s:HS):Prop where
  scan:s.mv=true→∃k,k≤s.cur.length∧s.scan=begs (s.base s.u) s.cur k∧∀i,i<k→∀q∈(s.cur.getD i ob0).2.strong,Placed s q
  weak:∀p o,Live s p o→o.wk=true→p∈s.weak∨∃a,GoneTo s a p∧a∈s.weak
  wk:∀q∈s.weak,(∃o,(q,o)∈s.cur∧o.wk=true)∨∃o m,(q,o,m)∈s.old∧o.wk=true
  fn:∀q∈s.fin,q∈plc s.cur∨q∈opl s.old
  few:s.weak.length≤s.ser∧s.fin.length≤s.ser
theorem begs_set (b:Nat)(l:List (Nat × Ob))(i:Nat)(x:Nat × Ob)(h:x.2.took=(l.getD i ob0).2.took):∀k,begs b (l.set i x) k=begs b l k
  | 0=>rfl
  | k+1=>by
    show begs b (l.set i x) k+((l.set i x).getD k ob0).2.took=begs b l k+(l.getD k ob0).2.took;rw[begs_set b l i x h k]
    by_cases e:i=k
    · subst e
      by_cases hl:i<l.length
      · rw[getD_set_self l x ob0 hl,h]
      · have:l.set i x=l:=List.set_eq_of_length_le (by omega);rw[this]
    · rw[getD_set_ne l x ob0 e]
theorem CurAt.upd_cur {s:HS}{i a:Nat}{o o':Ob}(d:CurAt s i a o):(s.upd i o').cur=s.cur.set i (a,o'):=by
  unfold HS.upd;have:=d.get;simp only[ob0] at this;rw[this]
theorem upd_placed {s:HS}{i:Nat}{o:Ob}{q:Nat} : Placed (s.upd i o) q↔Placed s q:=by
  unfold Placed;rw[plc_upd]
theorem upd_gone {s:HS}{i:Nat}{o:Ob}{a t:Nat} : GoneTo (s.upd i o) a t↔GoneTo s a t:=
  ⟨fun⟨j,u,c⟩=>⟨j,u,c.lt,c.get⟩,fun⟨j,u,c⟩=>⟨j,u,c.lt,c.get⟩⟩
theorem CurAt.updIn {s:HS}{i a:Nat}{o o':Ob}(d:CurAt s i a o)(h:SameK o o'):UpdIn s i a o o':=⟨d.lt,d.get,h⟩
theorem CurAt.mem' {s:HS}{i a:Nat}{o:Ob}(d:CurAt s i a o):(a,o)∈s.cur:=by rw[←d.get];exact get_mem' _ d.lt
theorem Coll.upd {s:HS}{X:List Nat}(h:HRep s X)(c:Coll s){i a:Nat}{o o':Ob}(d:CurAt s i a o)(hs:SameK o o')(hp:∀q∈o'.strong,q∈o.strong∨Placed s q):Coll (s.upd i o'):=by
  have m:=d.updIn hs;refine⟨fun hm=>?_,fun p u hl hw=>?_,fun q hq=>?_,fun q hq=>?_,c.few⟩
  · obtain⟨k,h1,h2,h3⟩:=c.scan hm;refine⟨k,by rw[d.upd_cur,List.length_set];exact h1,?_,fun j hj q hq=>?_⟩
    · rw[d.upd_cur];rw[begs_set _ _ _ _ (by rw[d.get];exact hs.took)];exact h2
    · rw[upd_placed];rw[d.upd_cur] at hq
      by_cases e:i=j
      · subst e;rw[getD_set_self _ _ _ d.lt] at hq;rcases hp q hq with h4|h4
        · refine h3 i hj q ?_;rw[d.get];exact h4
        · exact h4
      · rw[getD_set_ne _ _ _ e] at hq;exact h3 j hj q hq
  · have key:p∈s.weak∨∃a,GoneTo s a p∧a∈s.weak:=by
      rcases m.live h hl with (⟨h1,_⟩|⟨h1,_⟩)|⟨rfl,rfl⟩
      · exact c.weak p u h1 hw
      · exact c.weak p u h1 hw
      · exact c.weak p o (.inl m.mem) (by rw[←hs.2.2.1];exact hw)
    exact key.imp id (fun⟨a,h1,h2⟩=>⟨a,upd_gone.2 h1,h2⟩)
  · rcases c.wk q hq with ⟨u,h1,h2⟩|h1
    · left
      by_cases e:q=a
      · subst e;refine⟨o',m.there,?_⟩;have:=live_unique h (.inl h1:Live s q u) (.inl m.mem);rw[hs.2.2.1,this];exact h2
      · exact⟨u,m.of_cur h1 e,h2⟩
    · exact .inr h1
  · rw[plc_upd];exact c.fn q hq
theorem move_plc' (s:HS)(i:Nat):plc (s.move i).cur=plc s.cur++[s.top]:=by
  show(s.cur++[(s.top,(s.old.getD i oo).2.1)]).map (·.1)=_;simp[plc]
theorem OldAt.moveIn {s:HS}{i a:Nat}{o:Ob}(c:OldAt s i a o none):MoveIn s i a o:=⟨c.lt,c.get⟩
theorem GoneTo.keep {s s':HS}{p q:Nat}(g:Goes s p s' q){a t:Nat}(h:GoneTo s a t):GoneTo s' a t:=by
  cases g with
  | stay _=>exact h
  | gone _=>exact h
  | @move j u d=>
    obtain⟨i,o,c⟩:=h;have e:(s.move j).old=s.old.set j (p,u,some s.top):=by unfold HS.move;rw[d.get]
    have hne:i≠j:=fun e2=>by
      subst e2;have h1:=c.get;rw[d.get] at h1;cases h1
    refine⟨i,o,by rw[e,List.length_set];exact c.lt,?_⟩;rw[e];have h1:=c.get;simp only[List.getD,List.getElem?_set,if_neg (Ne.symm hne)] at h1 ⊢;exact h1
theorem Coll.goes {s s':HS}{X:List Nat}(h:HRep s X)(c:Coll s){p q:Nat}(g:Goes s p s' q):Coll s':=by
  cases g with
  | stay _=>exact c
  | gone _=>exact c
  | @move j u d=>
    have m:=d.moveIn;have ec:=m.cur;refine⟨fun hm=>?_,fun z v hl hw=>?_,fun z hz=>?_,fun z hz=>?_,c.few⟩
    · obtain⟨k,h1,h2,h3⟩:=c.scan hm;refine⟨k,by rw[ec.1,List.length_append];omega,?_,fun i hi z hz=>?_⟩
      · rw[ec.1,begs_snoc _ _ _ h1];exact h2
      · rw[ec.1,getD_snoc _ _ _ (by omega)] at hz;exact(Goes.move d:Goes s p (s.move j) s.top).placed (h3 i hi z hz)
    · rcases m.live h hl with h1|⟨rfl,rfl⟩
      · exact(c.weak z v h1 hw).imp id (fun⟨a,h2,h3⟩=>⟨a,h2.keep (Goes.move d),h3⟩)
      · rcases c.weak p v (.inr m.mem) hw with h2|⟨a,h2,_⟩
        · exact .inr ⟨p,⟨j,v,by rw[ec.2,List.length_set];exact d.lt,by rw[ec.2];exact getD_set_self _ _ _ d.lt⟩,h2⟩
        · exfalso;exact cur_not_old_ h (h2.cur h) d.mem
    · rcases c.wk z hz with ⟨o,h1,h2⟩|⟨o,k,h1,h2⟩
      · exact .inl ⟨o,by rw[ec.1];simp[h1],h2⟩
      · right
        by_cases e:z=p
        · subst e;have:=old_same h h1 m.mem rfl;cases this;exact⟨u,_,m.there,h2⟩
        · exact⟨o,k,m.of_old h1 e,h2⟩
    · rw[move_plc',move_opl d];rcases c.fn z hz with h1|h1
      · exact .inl (by simp[h1])
      · exact .inr h1
theorem Coll.goesL {s s':HS}{l l':List Nat}(c:Coll s)(g:GoesL s l s' l'):∀ {X:List Nat},HRep s X→(∀ {s1:HS} {l1 l1':List Nat},GoesL s l1 s1 l1'→∃X1,HRep s1 X1)→Coll s':=by
  intro X h hx
  induction g with
  | nil=>exact c
  | snoc g1 g2 ih=>
    obtain⟨X1,h1⟩:=hx g1;exact ih.goes h1 g2
theorem Goes.rep {s s':HS}{X:List Nat}(h:HRep s X){p q:Nat}(g:Goes s p s' q):∃X',HRep s' X':=by
  cases g with
  | stay _=>exact⟨X,h⟩
  | gone _=>exact⟨X,h⟩
  | move d=>exact⟨_,(h.move d.lt d.get).1⟩
theorem GoesL.rep {s s':HS}{X:List Nat}(h:HRep s X){l l':List Nat}(g:GoesL s l s' l'):∃X',HRep s' X':=by
  induction g with
  | nil=>exact⟨X,h⟩
  | snoc g1 g2 ih=>
    obtain⟨X1,h1⟩:=ih;exact g2.rep h1
theorem Coll.goesL' {s s':HS}{X:List Nat}(h:HRep s X){l l':List Nat}(c:Coll s)(g:GoesL s l s' l'):Coll s':=c.goesL g h (fun g1=>g1.rep h)
theorem Coll.alloc {s:HS}(c:Coll s){p d:Nat}{wk fn:Bool} : Coll (s.alloc p d wk fn):=by
  have e:(s.alloc p d wk fn).cur=s.cur++[(s.top,Ob.new p d wk fn (s.ser+1))]:=rfl;have ep:plc (s.alloc p d wk fn).cur=plc s.cur++[s.top]:=by rw[e];simp[plc]
  have ew:∀z,z∈s.weak→z∈(s.alloc p d wk fn).weak:=fun z hz=>by
    show z∈(bif wk then s.weak++[s.top] else s.weak);cases wk <;> simp[hz]
  refine⟨fun hm=>?_,fun z v hl hw=>?_,fun z hz=>?_,fun z hz=>?_,?_⟩
  · obtain⟨k,h1,h2,h3⟩:=c.scan hm;refine⟨k,by rw[e,List.length_append];omega,?_,fun i hi z hz=>?_⟩
    · rw[e,begs_snoc _ _ _ h1];exact h2
    · rw[e,getD_snoc _ _ _ (by omega)] at hz;unfold Placed;rw[ep];rcases h3 i hi z hz with h4|h4
      · exact .inl h4
      · exact .inr (by simp[h4])
  · rcases alloc_live hl with h1|⟨rfl,rfl⟩
    · exact(c.weak z v h1 hw).imp (ew z) (fun⟨a,⟨i,u,h2⟩,h3⟩=>⟨a,⟨i,u,h2.lt,h2.get⟩,ew a h3⟩)
    · left;have hw:wk=true:=hw;subst hw;show s.top∈s.weak++[s.top];simp
  · have hz:z∈(bif wk then s.weak++[s.top] else s.weak):=hz
    have old:z∈s.weak→(∃o,(z,o)∈(s.alloc p d wk fn).cur∧o.wk=true)∨∃o m,(z,o,m)∈(s.alloc p d wk fn).old∧o.wk=true:=fun hz=>by
      rcases c.wk z hz with ⟨o,h1,h2⟩|h1
      · exact .inl ⟨o,by rw[e];simp[h1],h2⟩
      · exact .inr h1
    cases wk
    · exact old hz
    · simp only[cond_true] at hz;rcases List.mem_append.1 hz with hz|hz
      · exact old hz
      · have:=List.mem_singleton.1 hz;subst this;exact .inl ⟨_,alloc_here,rfl⟩
  · have hz:z∈(bif fn then s.fin++[s.top] else s.fin):=hz
    have old:z∈s.fin→z∈plc (s.alloc p d wk fn).cur∨z∈opl (s.alloc p d wk fn).old:=fun hz=>by
      rw[ep];rcases c.fn z hz with h1|h1
      · exact .inl (by simp[h1])
      · exact .inr h1
    cases fn
    · exact old hz
    · simp only[cond_true] at hz;rcases List.mem_append.1 hz with hz|hz
      · exact old hz
      · have:=List.mem_singleton.1 hz;subst this;rw[ep];exact .inl (by simp)
  · have hf:=c.few;show(bif wk then s.weak++[s.top] else s.weak).length≤s.ser+1∧(bif fn then s.fin++[s.top] else s.fin).length≤s.ser+1;cases wk <;> cases fn <;> simp <;> omega
theorem Coll.flip {s:HS}(c:Coll s)(ho:s.old=[]):Coll s.flip:=by
  have ng:∀a p,¬GoneTo s a p:=fun a p ⟨i,o,c⟩=>by have:=c.lt;rw[ho] at this;simp at this
  refine⟨fun _=>⟨0,Nat.zero_le _,rfl,fun i hi=>by omega⟩,fun p u hl hw=>?_,fun q hq=>?_,fun q hq=>?_,c.few⟩
  · rcases c.weak p u ((flip_live ho).1 hl) hw with h|⟨a,h,_⟩
    · exact .inl h
    · exact absurd h (ng a p)
  · rcases c.wk q hq with ⟨o,h1,h2⟩|⟨o,m,h1,h2⟩
    · exact .inr ⟨o,none,List.mem_map.2 ⟨_,h1,rfl⟩,h2⟩
    · rw[ho] at h1;cases h1
  · rcases c.fn q hq with h1|h1
    · right;rw[flip_opl];exact h1
    · rw[ho] at h1;cases h1
theorem Coll.start (n:Nat):Coll (HS.start n):=
  ⟨(fun h=>by cases h),(fun p o h=>by rcases h with h|h <;> cases h),(fun q h=>by cases h),(fun q h=>by cases h),⟨Nat.le_refl _,Nat.le_refl _⟩⟩
theorem Settles.stay_mem {s:HS}{l st lf:List Nat}(h:Settles s l st lf){p:Nat}(hp:p∈l)(hn:p∉opl s.old):p∈st:=by
  induction h with
  | nil=>cases hp
  | stay h hq ih=>
    rcases List.mem_append.1 hp with hp|hp
    · exact List.mem_append.2 (.inl (ih hp))
    · exact List.mem_append.2 (.inr hp)
  | gone h c ih=>
    rcases List.mem_append.1 hp with hp|hp
    · exact List.mem_append.2 (.inl (ih hp))
    · have:=List.mem_singleton.1 hp;subst this;exact absurd c.mem hn
  | left h c ih=>
    rcases List.mem_append.1 hp with hp|hp
    · exact ih hp
    · have:=List.mem_singleton.1 hp;subst this;exact absurd c.mem hn
theorem Settles.gone_mem {s:HS}{X:List Nat}(hr:HRep s X){l st lf:List Nat}(h:Settles s l st lf){a t:Nat}(ha:a∈l)(hg:GoneTo s a t):t∈st:=by
  obtain⟨i,o,d⟩:=hg
  induction h with
  | nil=>cases ha
  | stay h hq ih=>
    rcases List.mem_append.1 ha with hp|hp
    · exact List.mem_append.2 (.inl (ih hp))
    · have:=List.mem_singleton.1 hp;subst this;exact absurd d.mem hq
  | gone h c ih=>
    rcases List.mem_append.1 ha with hp|hp
    · exact List.mem_append.2 (.inl (ih hp))
    · have:=List.mem_singleton.1 hp;subst this;have:=old_same hr c.mem' d.mem' rfl;cases this;exact List.mem_append.2 (.inr (List.mem_singleton.2 rfl))
  | left h c ih=>
    rcases List.mem_append.1 ha with hp|hp
    · exact ih hp
    · have:=List.mem_singleton.1 hp;subst this;have:=old_same hr c.mem' d.mem' rfl;cases this
theorem Settles.st_mem {s:HS}{l st lf:List Nat}(h:Settles s l st lf){q:Nat}(hq:q∈st):(q∈l∧q∉opl s.old)∨∃a,a∈l∧GoneTo s a q:=by
  induction h with
  | nil=>cases hq
  | stay h hp ih=>
    rcases List.mem_append.1 hq with h1|h1
    · exact(ih h1).imp (fun⟨a,b⟩=>⟨List.mem_append.2 (.inl a),b⟩) (fun⟨a,b,c⟩=>⟨a,List.mem_append.2 (.inl b),c⟩)
    · have:=List.mem_singleton.1 h1;subst this;exact .inl ⟨List.mem_append.2 (.inr h1),hp⟩
  | gone h c ih=>
    rcases List.mem_append.1 hq with h1|h1
    · exact(ih h1).imp (fun⟨a,b⟩=>⟨List.mem_append.2 (.inl a),b⟩) (fun⟨a,b,c⟩=>⟨a,List.mem_append.2 (.inl b),c⟩)
    · have:=List.mem_singleton.1 h1;subst this;exact .inr ⟨_,List.mem_append.2 (.inr (List.mem_singleton.2 rfl)),⟨_,_,c⟩⟩
  | left h c ih=>
    exact(ih hq).imp (fun⟨a,b⟩=>⟨List.mem_append.2 (.inl a),b⟩) (fun⟨a,b,c⟩=>⟨a,List.mem_append.2 (.inl b),c⟩)
theorem Coll.settleF {s:HS}{X:List Nat}(h:HRep s X)(c:Coll s){st lf:List Nat}(hs:Settles s s.fin st lf):Coll { s with fin:=st }:=by
  refine⟨fun hm=>c.scan hm,fun p u hl hw=>(c.weak p u hl hw).imp id (fun⟨a,⟨i,o,d⟩,h2⟩=>⟨a,⟨i,o,d.lt,d.get⟩,h2⟩),c.wk,fun q hq=>?_,⟨c.few.1,?_⟩⟩
  · rcases hs.st_mem hq with ⟨h1,h2⟩|⟨a,h1,h2⟩
    · exact c.fn q h1
    · exact .inl (h2.cur h)
  · have:=hs.len;have:=c.few.2;show st.length≤s.ser;omega
theorem Coll.scanned {s s':HS}{X X':List Nat}(h:HRep s X)(c:Coll s){k a:Nat}{o:Ob}(d:CurAt s k a o)(hs:s.scan=a){l':List Nat}(g:GoesL s o.strong s' l')(hq:∀q∈l',Placed s' q)(h':HRep s' X')(hk:s.mv=true)
    : Coll { s'.upd k (o.setS l') with scan:=s.scan+o.took }:=by
  have c':=c.goesL' h g;have d':=g.cur d;have hok:=(d.at_ h).ok;have hlen:=g.len
  have hst:∀q∈(o.setS l').strong,q∈l':=fun q hq=>by
    unfold Ob.strong at hq;split at hq
    · cases hq
    · rename_i hw
      have hw2:o.wk=false:=by
        have:(o.setS l').wk=o.wk:=rfl;rw[this] at hw;cases ho:o.wk
        · rfl
        · exact absurd ho hw
      have hsl:o.strong=o.ps:=by unfold Ob.strong;rw[if_neg (by rw[hw2];decide)]
      have e:(o.setS l').ps=l':=by
        unfold Ob.setS Ob.setK;simp only[List.take_length];rw[List.drop_of_length_le (by rw[hlen,hsl];exact Nat.le_refl _),List.append_nil]
      rw[e] at hq;exact hq
  have cu:=c'.upd h' d' (o':=o.setS l') (o.setS_same l') (fun q hq'=>.inr (hq q (hst q hq')));obtain⟨k0,h1,h2,h3⟩:=c'.scan (by rw[g.same.2.2.1];exact hk);have hpl:=h'.place d'.lt;rw[d'.get] at hpl;have hsc:s'.scan=a:=by rw[g.same.2.2.2.1];exact hs
  have hkk:k0=k:=by
    have e1:begs (s'.base s'.u) s'.cur k0=begs (s'.base s'.u) s'.cur k:=by rw[←h2,hsc];exact hpl.1
    have hlt:=d'.lt;rcases Nat.lt_trichotomy k0 k with hl|he|hl
    · have:=begs_mono (s'.base s'.u) s'.cur (show k0+1≤k from hl);have h5:begs (s'.base s'.u) s'.cur (k0+1)=begs (s'.base s'.u) s'.cur k0+(s'.cur.getD k0 ob0).2.took:=rfl;have h6:=(Ob.took_eq (h'.at_ (show k0<s'.cur.length by omega)).ok).2.2.1;have h6:4≤(s'.cur.getD k0 ob0).2.took:=h6;omega
    · exact he
    · have:=begs_mono (s'.base s'.u) s'.cur (show k+1≤k0 from hl);have h5:begs (s'.base s'.u) s'.cur (k+1)=begs (s'.base s'.u) s'.cur k+(s'.cur.getD k ob0).2.took:=rfl;have h6:=(Ob.took_eq (h'.at_ hlt).ok).2.2.1;have h6:4≤(s'.cur.getD k ob0).2.took:=h6;omega
  subst hkk;refine⟨fun _=>⟨k0+1,?_,?_,fun i hi q hq'=>?_⟩,fun p u hl hw=>(cu.weak p u hl hw).imp id (fun⟨b,⟨i,v,c⟩,h2⟩=>⟨b,⟨i,v,c.lt,c.get⟩,h2⟩),cu.wk,cu.fn,cu.few⟩
  · show k0+1≤(s'.upd k0 (o.setS l')).cur.length;rw[d'.upd_cur,List.length_set];have:=d'.lt;omega
  · show s.scan+o.took=begs (s'.base s'.u) (s'.upd k0 (o.setS l')).cur (k0+1);rw[d'.upd_cur,begs_set _ _ _ _ (by rw[d'.get];rfl)];show _=begs (s'.base s'.u) s'.cur k0+(s'.cur.getD k0 ob0).2.took;rw[d'.get,←h2,hsc,hs]
  · have hq':q∈((s'.upd k0 (o.setS l')).cur.getD i ob0).2.strong:=hq';show Placed (s'.upd k0 (o.setS l')) q;rw[upd_placed];rw[d'.upd_cur] at hq'
    by_cases e:k0=i
    · subst e;rw[getD_set_self _ _ _ d'.lt] at hq';exact hq q (hst q hq')
    · rw[getD_set_ne _ _ _ e] at hq';exact h3 i (by omega) q hq'
end
section
open Go.RowKit Go.Shelf
theorem Goes.refk {s s':HS}(w:WF s){p q:Nat}(g:Goes s p s' q):RefK s s':=fun x n h=>by
  cases g with
  | stay _=>exact h
  | gone _=>exact h
  | move d=>exact d.moveIn.ref w h
theorem Goes.ref {s s':HS}{X:List Nat}(hr:HRep s X)(w:WF s){p q n:Nat}(g:Goes s p s' q)(h:Ref s p n):Ref s' q n:=by
  cases g with
  | stay _=>exact h
  | @gone i t o c=>
    have hp:Ref s p o.ser:=.inr (.inr ⟨o,_,c.mem',rfl⟩);have:=Ref.unique w h hp;subst this;obtain⟨o',h1,h2⟩:=w.gone p o _ c.mem';exact .inr (.inl ⟨o',h1,h2.2.2.2.2⟩)
  | @move i o c=>
    have hp:Ref s p o.ser:=.inr (.inr ⟨o,_,c.mem',rfl⟩);have:=Ref.unique w h hp;subst this;exact c.moveIn.ref'
theorem Tw.goes {σ:Nat→Nat}{A A' B:HS}{X:List Nat}(t:Tw σ A B)(h:HRep A X){p q:Nat}(g:Goes A p A' q):Tw σ A' B:=by
  cases g with
  | stay _=>exact t
  | gone _=>exact t
  | move d=>exact t.move h d.moveIn
theorem Ref.place {s:HS}{p n:Nat}(h:Ref s p n):Place s p:=by
  rcases h with ⟨h,_⟩|⟨o,h,_⟩|⟨o,m,h,_⟩
  · exact .inl h
  · exact .inr (.inl (List.mem_map.2 ⟨_,h,rfl⟩))
  · exact .inr (.inr (List.mem_map.2 ⟨_,h,rfl⟩))
structure RegOK (σ:Nat→Nat)(A B:HS)(R S:List Nat)(m:Nat):Prop where
  lr:R.length=4
  ls:S.length=4
  here:∀j,j<m→Placed A (R.getD j 0)
  ref:∀j,j<4→∃n,n≤B.ser∧Ref A (R.getD j 0) (σ n)∧Ref B (S.getD j 0) n
structure Pair (σ:Nat→Nat)(A B:HS)(R S:List Nat)(m:Nat):Prop where
  tw:Tw σ A B
  ca:Coll A
  bm:B.mv=false
  bn:B.n=16000
  bt:tookC B.cur≤24*B.ser
  bf:B.weak.length≤B.ser∧B.fin.length≤B.ser
  rg:RegOK σ A B R S m
theorem getD_set_r {R:List Nat}{i j q:Nat}(hi:i<R.length):(R.set i q).getD j 0=if i=j then q else R.getD j 0:=by
  simp only[List.getD,List.getElem?_set]
  by_cases h:i=j
  · subst h;simp[hi]
  · simp[h]
theorem RegOK.left {σ:Nat→Nat}{A A' B:HS}{R S:List Nat}{m:Nat}(h:RegOK σ A B R S m)(hp:∀q,Placed A q→Placed A' q)(hr:RefK A A'):RegOK σ A' B R S m:=
  ⟨h.lr,h.ls,fun j hj=>hp _ (h.here j hj),fun j hj=>let ⟨n,h1,h2,h3⟩:=h.ref j hj;⟨n,h1,hr _ _ h2,h3⟩⟩
theorem Pair.left {σ:Nat→Nat}{A A' B:HS}{R S:List Nat}{m:Nat}(h:Pair σ A B R S m)(t:Tw σ A' B)(c:Coll A')(hp:∀q,Placed A q→Placed A' q)(hr:RefK A A'):Pair σ A' B R S m:=
  ⟨t,c,h.bm,h.bn,h.bt,h.bf,h.rg.left hp hr⟩
theorem Pair.goes {σ:Nat→Nat}{A A' B:HS}{R S:List Nat}{m:Nat}{X:List Nat}(h:Pair σ A B R S m)(hA:HRep A X){p q:Nat}(g:Goes A p A' q):Pair σ A' B R S m:=
  h.left (h.tw.goes hA g) (h.ca.goes hA g) (fun _ h=>g.placed h) (g.refk h.tw.wa)
theorem Pair.goesL {σ:Nat→Nat}{A A' B:HS}{R S:List Nat}{m:Nat}{X:List Nat}(h:Pair σ A B R S m)(hA:HRep A X){l l':List Nat}(g:GoesL A l A' l'):Pair σ A' B R S m:=by
  induction g with
  | nil=>exact h
  | snoc g1 g2 ih=>
    obtain⟨X1,h1⟩:=g1.rep hA;exact ih.goes h1 g2
theorem GoesL.refk {s s':HS}{X:List Nat}(hr:HRep s X)(w:WF s){l l':List Nat}(g:GoesL s l s' l'):RefK s s'∧WF s':=by
  induction g with
  | nil=>exact⟨fun _ _ h=>h,w⟩
  | snoc g1 g2 ih=>
    obtain⟨X1,h1⟩:=g1.rep hr;obtain⟨X2,h2⟩:=g2.rep h1;refine⟨fun p n h=>g2.refk ih.2 p n (ih.1 p n h),?_⟩
    cases g2 with
    | stay _=>exact ih.2
    | gone _=>exact ih.2
    | move d=>exact WF.of h2 (d.moveIn.sem h1 ih.2)
theorem GoesL.get {s s':HS}{X:List Nat}(hr:HRep s X)(w:WF s){l l':List Nat}(g:GoesL s l s' l'){j n:Nat}(hj:j<l.length)(h:Ref s (l.getD j 0) n):Ref s' (l'.getD j 0) n:=by
  induction g with
  | nil=>simp at hj
  | @snoc l l' s1 s2 p q g1 g2 ih=>
    obtain⟨X1,h1⟩:=g1.rep hr;have hk:=g1.refk hr w;have hlen:=g1.len;rcases Nat.lt_or_ge j l.length with hl|hl
    · rw[getD_snoc _ _ _ hl] at h;rw[getD_snoc _ _ _ (by omega)];exact g2.refk hk.2 _ _ (ih hl h)
    · obtain rfl:j=l.length:=by simp at hj;omega
      rw[getD_snoc'] at h;rw[←hlen,getD_snoc'];exact g2.ref h1 hk.2 (hk.1 _ _ h)
theorem flip_places {s:HS}(ho:s.old=[]):RefK s s.flip:=fun p n h=>(flip_ref ho).2 h
theorem Pair.flip {σ:Nat→Nat}{A B:HS}{R S:List Nat}{X:List Nat}(h:Pair σ A B R S 4)(hA:HRep A X)(hm:A.mv=false):Pair σ A.flip B R S 0:=by
  have ho:=hA.still hm;exact⟨h.tw.flip hA hm,h.ca.flip ho,h.bm,h.bn,h.bt,h.bf,⟨h.rg.lr,h.rg.ls,fun j hj=>by omega,fun j hj=>let ⟨n,h1,h2,h3⟩:=h.rg.ref j hj;⟨n,h1,flip_places ho _ _ h2,h3⟩⟩⟩
theorem WF.rescan {s:HS}(w:WF s)(m:Nat):WF { s with scan:=m }:=⟨w.serC,w.serO,w.unC,w.unO,w.unM,w.plC,w.plO,w.plM,w.posC,w.posO,w.ptr,w.gone⟩
theorem Tw.rescan {σ:Nat→Nat}{A B:HS}(t:Tw σ A B)(m:Nat):Tw σ { A with scan:=m } B:=⟨t.wa.rescan m,t.wb,t.still,t.z,t.rng,t.inj,t.obj⟩
theorem Tw.relist {σ:Nat→Nat}{A B:HS}(t:Tw σ A B)(k l:List Nat):Tw σ { A with weak:=k,fin:=l } B:=
  ⟨⟨t.wa.serC,t.wa.serO,t.wa.unC,t.wa.unO,t.wa.unM,t.wa.plC,t.wa.plO,t.wa.plM,t.wa.posC,t.wa.posO,t.wa.ptr,t.wa.gone⟩,t.wb,t.still,t.z,t.rng,t.inj,t.obj⟩
theorem Pair.scan {σ:Nat→Nat}{A s' B:HS}{R S:List Nat}{m:Nat}{X X':List Nat}(h:Pair σ A B R S m)(hA:HRep A X){k a:Nat}{o:Ob}(d:CurAt A k a o)(hs:A.scan=a)(hm:A.mv=true){l':List Nat}(g:GoesL A o.strong s' l')(hq:∀q∈l',Placed s' q)
    (h':HRep { s'.upd k (o.setS l') with scan:=A.scan+o.took } X'):Pair σ { s'.upd k (o.setS l') with scan:=A.scan+o.took } B R S m:=by
  obtain⟨X1,h1⟩:=g.rep hA;have p1:=h.goesL hA g;have d':=g.cur d;have hok:=(d.at_ hA).ok;have hu:HRep (s'.upd k (o.setS l')) X':=⟨h'.n1,h'.n2,h'.len,h'.zero,h'.half,h'.oroom,h'.room,h'.still,h'.ser,h'.few⟩;have hlen:=g.len;have hsl:=Ob.strong_length hok
  have hlk:Alk o (o.setS l'):=⟨rfl,rfl,rfl,rfl,rfl,rfl,hok.lp,by
    show((l'.take l'.length)++o.ps.drop l'.length).length=o.p;rw[List.take_length,List.length_append,List.length_drop,hlen,hsl,hok.lp]
    split <;> omega⟩
  have hrf:∀j,j<o.p→∀n,Ref s' (o.ps.getD j 0) n→Ref s' ((o.setS l').ps.getD j 0) n:=fun j hj n hn=>by
    by_cases hw:o.wk=true
    · have e0:l'=[]:=List.eq_nil_of_length_eq_zero (by rw[hlen,hsl,if_pos hw]);subst e0;exact hn
    · have hs2:o.strong=o.ps:=by unfold Ob.strong;rw[if_neg hw]
      have e:(o.setS l').ps=l':=by
        unfold Ob.setS Ob.setK;simp only[List.take_length];rw[List.drop_of_length_le (by rw[hlen,hs2];exact Nat.le_refl _),List.append_nil]
      rw[e];obtain⟨n',hn'⟩:=h.tw.wa.ptr a o (.inl d.mem') (o.ps.getD j 0) (get_mem' 0 (by rw[hok.lp];exact hj));have h3:=(g.refk hA h.tw.wa).1 _ _ hn';have:=Ref.unique p1.tw.wa h3 hn;subst this;rw[hs2] at g;exact g.get hA h.tw.wa (by rw[hok.lp];exact hj) hn'
  have t2:=p1.tw.updA h1 (d'.updIn (o.setS_same l')) hu hlk hrf;refine p1.left (t2.rescan _) (h.ca.scanned hA d hs g hq h1 hm) (fun q hq=>?_) (fun p n hp=>(d'.updIn (o.setS_same l')).ref p1.tw.wa hp);exact upd_placed.2 hq
theorem setp_alk {o:Ob}(h:o.Ok){k q:Nat}(hk:k<o.p):Alk o (o.setp true k q):=⟨rfl,rfl,rfl,rfl,rfl,rfl,h.lp,by show(o.ps.set k q).length=o.p;rw[List.length_set];exact h.lp⟩
theorem setp_get {o:Ob}(h:o.Ok){k q j:Nat}(hk:k<o.p):(o.setp true k q).ps.getD j 0=if k=j then q else o.ps.getD j 0:=by
  show(o.ps.set ((k:Int).toNat) q).getD j 0=_;rw[Int.toNat_natCast];exact getD_set_r (by rw[h.lp];exact hk)
theorem setp_strong {o:Ob}{k q:Nat} : ∀z∈(o.setp true k q).strong,z∈o.strong∨z=q:=fun z hz=>by
  unfold Ob.strong at hz ⊢;have hw:(o.setp true (k:Int) q).wk=o.wk:=rfl;rw[hw] at hz;split at hz
  · cases hz
  · rename_i h;rw[if_neg h];have hz:z∈o.ps.set ((k:Int).toNat) q:=hz;rcases List.mem_or_eq_of_mem_set hz with h|h
    · exact .inl h
    · exact .inr h
theorem Pair.ptr {σ:Nat→Nat}{A s' B:HS}{R S:List Nat}{X X':List Nat}(h:Pair σ A B R S 4)(hA:HRep A X){i a k q:Nat}{o:Ob}(d:CurAt A i a o)(hk:k<o.p)(g:Goes A (o.ps.getD k 0) s' q)(h':HRep (s'.upd i (o.setp true k q)) X') :
    Pair σ (s'.upd i (o.setp true k q)) B R S 4∧Placed (s'.upd i (o.setp true k q)) q∧∀n,Ref A (o.ps.getD k 0) n→Ref (s'.upd i (o.setp true k q)) q n:=by
  obtain⟨X1,h1⟩:=g.rep hA;have p1:=h.goes hA g;have d':=g.cur d;have hok:=(d.at_ hA).ok;obtain⟨n0,hn0⟩:=h.tw.wa.ptr a o (.inl d.mem') (o.ps.getD k 0) (get_mem' 0 (by rw[hok.lp];exact hk));have hq:=g.here hA hn0.place;have hqr:∀n,Ref A (o.ps.getD k 0) n→Ref s' q n:=fun n hn=>g.ref hA h.tw.wa hn;have m:=d'.updIn (o.setp_same true k q)
  have t2:=p1.tw.updA h1 m h' (setp_alk hok hk) (fun j hj n hn=>by
    rw[setp_get hok hk];split
    · rename_i e;subst e;have:=Ref.unique p1.tw.wa (g.refk h.tw.wa _ _ hn0) hn;subst this;exact hqr _ hn0
    · exact hn)
  refine⟨p1.left t2 (p1.ca.upd h1 d' (o.setp_same true k q) (fun z hz=>(setp_strong z hz).imp id (fun e=>by rw[e];exact hq))) (fun z hz=>upd_placed.2 hz) (fun p n hp=>m.ref p1.tw.wa hp),upd_placed.2 hq,fun n hn=>m.ref p1.tw.wa (hqr n hn)⟩
theorem tookC_upd {s:HS}{i a:Nat}{o o':Ob}(d:CurAt s i a o)(h:SameK o o'):tookC (s.upd i o').cur=tookC s.cur:=by
  rw[d.upd_cur];exact tookC_set _ _ _ d.lt (by rw[show s.cur.getD i (0,Ob.new 0 0 false false 0)=(a,o) from d.get];exact h.took)
theorem Pair.allocA {σ:Nat→Nat}{A B:HS}{R S:List Nat}{X X':List Nat}(h:Pair σ A B R S 4)(hA:HRep A X){p d:Nat}{wk fn:Bool}(hA':HRep (A.alloc p d wk fn) X'):Pair σ (A.alloc p d wk fn) B R S 4:=by
  have hpl:plc (A.alloc p d wk fn).cur=plc A.cur++[A.top]:=by
    show(A.cur++[(A.top,Ob.new p d wk fn (A.ser+1))]).map (·.1)=_;simp[plc]
  refine h.left (h.tw.allocA hA hA') h.ca.alloc (fun q hq=>?_) alloc_ref;unfold Placed;rw[hpl];exact hq.imp id (fun h=>List.mem_append.2 (.inl h))
theorem Pair.settleF {σ:Nat→Nat}{A B:HS}{R S:List Nat}{X:List Nat}{m:Nat}(h:Pair σ A B R S m)(hA:HRep A X){st lf:List Nat}(hs:Settles A A.fin st lf):Pair σ { A with fin:=st } B R S m:=
  h.left (h.tw.relist A.weak st) (h.ca.settleF hA hs) (fun q hq=>hq) (fun p n hp=>hp)
theorem Pair.finals {σ:Nat→Nat}{A s' B:HS}{R S:List Nat}{X:List Nat}{m:Nat}(h:Pair σ A B R S m)(hA:HRep A X){st lf l':List Nat}(hs:Settles A A.fin st lf)(hst:st.length≤100000)(g:GoesL { A with fin:=st } lf s' l'):Pair σ s' B R S m:=
  (h.settleF hA hs).goesL (X:=X) ⟨hA.n1,hA.n2,hA.len,hA.zero,hA.half,hA.oroom,hA.room,hA.still,hA.ser,⟨hA.few.1,hst⟩⟩ g
theorem WF.start (n:Nat):WF (HS.start n):=
  ⟨(fun x h=>by cases h),(fun x h=>by cases h),(fun x h=>by cases h),(fun x h=>by cases h),(fun x h=>by cases h),(fun x h=>by cases h),(fun x h=>by cases h),(fun x h=>by cases h),(fun x h=>by cases h),(fun x h=>by cases h),(fun p o h=>by rcases h with h|h <;> cases h),(fun a o t h=>by cases h)⟩
end
section
open Go.RowKit Go.Shelf
def WkO (A:HS)(done:Prop)(o o':Ob):Prop:=
  (o'=o∧(done→o.ps.getD 0 0∉opl A.old))∨∃q,o'=o.setp true 0 q∧o.wk=true∧(GoneTo A (o.ps.getD 0 0) q∨((∃j u,OldAt A j (o.ps.getD 0 0) u none)∧q=0))
structure WkI (A:HS)(l:List Nat)(s:HS):Prop where
  n:s.n=A.n
  u:s.u=A.u
  mv:s.mv=A.mv
  old:s.old=A.old
  ser:s.ser=A.ser
  weak:s.weak=A.weak
  fin:s.fin=A.fin
  len:s.cur.length=A.cur.length
  obj:∀i,i<A.cur.length→(s.cur.getD i ob0).1=(A.cur.getD i ob0).1∧WkO A ((A.cur.getD i ob0).1∈l) (A.cur.getD i ob0).2 (s.cur.getD i ob0).2
theorem WkI.start (A:HS):WkI A [] A:=⟨rfl,rfl,rfl,rfl,rfl,rfl,rfl,rfl,fun i hi=>⟨rfl,.inl ⟨rfl,fun h=>by cases h⟩⟩⟩
theorem HRep.place_inj {s:HS}{X:List Nat}(h:HRep s X){i j:Nat}(hi:i<s.cur.length)(hj:j<s.cur.length)(e:(s.cur.getD i ob0).1=(s.cur.getD j ob0).1):i=j:=by
  obtain⟨_,_,q1,_⟩:=Ob.took_eq (h.at_ hi).ok;obtain⟨_,_,q2,_⟩:=Ob.took_eq (h.at_ hj).ok;have q1:4≤(s.cur.getD i ob0).2.took:=q1;have q2:4≤(s.cur.getD j ob0).2.took:=q2;rcases Nat.lt_trichotomy i j with hl|he|hl
  · have:=h.cur_lt hl hj;omega
  · exact he
  · have:=h.cur_lt hl hi;omega
theorem WkO.mono {A:HS}{P Q:Prop}{o o':Ob}(h:WkO A P o o')(hq:Q→P∨o.ps.getD 0 0∉opl A.old):WkO A Q o o':=
  h.imp (fun⟨h1,h2⟩=>⟨h1,fun q=>(hq q).elim h2 id⟩) id
theorem WkO.fresh {A:HS}{X:List Nat}(h:HRep A X){P:Prop}{o o':Ob}(hok:o.Ok)(w:WkO A P o o')(hne:o'≠o):o'.ps.getD 0 0∉opl A.old:=by
  rcases w with ⟨h1,_⟩|⟨q,h1,h2,h3⟩
  · exact absurd h1 hne
  · have hp:=Ob.weak_p hok h2;have e:o'.ps.getD 0 0=q:=by rw[h1];exact(setp_get (k:=0) (j:=0) hok (by omega)).trans (if_pos rfl)
    rw[e];rcases h3 with h3|⟨_,h3⟩
    · exact cur_not_old_ h (h3.cur h)
    · rw[h3];intro hm;obtain⟨i,u,m,c⟩:=OldAt.of_mem hm;have:=(Entry.ok h (show Entry A 0 u from .inr ⟨m,c.mem'⟩)).2.1;omega
theorem WkI.step {A s s2:HS}{X:List Nat}(h:HRep A X){l m:List Nat}{q:Nat}(w:WkI A l s)(hq:∃o,(q,o)∈A.cur∧o.wk=true)(g:WeakS s q s2 m):WkI A (l++[q]) s2:=by
  have key:∀ {i:Nat} {o1:Ob},CurAt s i q o1→i<A.cur.length∧(A.cur.getD i ob0).1=q∧WkO A (q∈l) (A.cur.getD i ob0).2 o1∧(A.cur.getD i ob0).2.wk=true∧(A.cur.getD i ob0).2.Ok:=fun {i o1} c=>by
    have hi:i<A.cur.length:=by rw[←w.len];exact c.lt
    obtain⟨h1,h2⟩:=w.obj i hi;rw[c.get] at h1 h2;have h1:q=(A.cur.getD i ob0).1:=h1;obtain⟨o,ho,hw⟩:=hq;obtain⟨j,hj,e⟩:=mem_get ob0 ho;have hij:j=i:=h.place_inj hj hi (by rw[e,←h1]);subst hij;refine⟨hi,h1.symm,by rw[←h1] at h2;exact h2,by rw[e];exact hw,(h.at_ hi).ok⟩
  cases g with
  | @stay i o1 c hn=>
    refine⟨w.n,w.u,w.mv,w.old,w.ser,w.weak,w.fin,w.len,fun j hj=>⟨(w.obj j hj).1,?_⟩⟩;rcases(w.obj j hj).2 with ⟨e2,f⟩|k
    · refine .inl ⟨e2,fun hm=>?_⟩;rcases List.mem_append.1 hm with hm|hm
      · exact f hm
      · obtain⟨k1,k2,k3,k4,k5⟩:=key c;have hij:j=i:=h.place_inj hj k1 (by rw[k2];exact List.mem_singleton.1 hm);subst hij;rw[c.get] at e2;have e2:o1=(A.cur.getD j ob0).2:=e2;rw[←e2,←w.old];exact hn
    · exact .inr k
  | @gone i j t o1 u c d=>
    obtain⟨k1,k2,k3,k4,k5⟩:=key c
    have e1:o1=(A.cur.getD i ob0).2:=by
      rcases Classical.em (o1=(A.cur.getD i ob0).2) with e|e
      · exact e
      · exact absurd (w.old ▸ d.mem) (k3.fresh h k5 e)
    refine⟨w.n,w.u,w.mv,w.old,w.ser,w.weak,w.fin,by rw[c.upd_cur,List.length_set];exact w.len,fun k hk=>?_⟩;rw[c.upd_cur]
    by_cases e:i=k
    · subst e;rw[getD_set_self _ _ _ c.lt];refine⟨k2.symm,.inr ⟨t,by rw[←e1],k4,.inl ?_⟩⟩;rw[←e1];exact⟨j,u,w.old ▸ d.lt,w.old ▸ d.get⟩
    · rw[getD_set_ne _ _ _ e];refine⟨(w.obj k hk).1,(w.obj k hk).2.mono (fun hm=>?_)⟩;rcases List.mem_append.1 hm with hm|hm
      · exact .inl hm
      · exact absurd (h.place_inj k1 hk (by rw[k2];exact(List.mem_singleton.1 hm).symm)) e
  | @lost i j o1 u c d=>
    obtain⟨k1,k2,k3,k4,k5⟩:=key c
    have e1:o1=(A.cur.getD i ob0).2:=by
      rcases Classical.em (o1=(A.cur.getD i ob0).2) with e|e
      · exact e
      · exact absurd (w.old ▸ d.mem) (k3.fresh h k5 e)
    refine⟨w.n,w.u,w.mv,w.old,w.ser,w.weak,w.fin,by rw[c.upd_cur,List.length_set];exact w.len,fun k hk=>?_⟩;rw[c.upd_cur]
    by_cases e:i=k
    · subst e;rw[getD_set_self _ _ _ c.lt];refine⟨k2.symm,.inr ⟨0,by rw[←e1],k4,.inr ⟨?_,rfl⟩⟩⟩;rw[←e1];exact⟨j,u,w.old ▸ d.lt,w.old ▸ d.get⟩
    · rw[getD_set_ne _ _ _ e];refine⟨(w.obj k hk).1,(w.obj k hk).2.mono (fun hm=>?_)⟩;rcases List.mem_append.1 hm with hm|hm
      · exact .inl hm
      · exact absurd (h.place_inj k1 hk (by rw[k2];exact(List.mem_singleton.1 hm).symm)) e
theorem WkI.of {A s:HS}{X:List Nat}(h:HRep A X){l ls:List Nat}(g:WeakL A l s ls)(hq:∀q∈l,∃o,(q,o)∈A.cur∧o.wk=true):WkI A l s:=by
  induction g with
  | nil=>exact WkI.start A
  | snoc g1 g2 ih=>exact(ih (fun q hq'=>hq q (List.mem_append.2 (.inl hq')))).step h (hq _ (List.mem_append.2 (.inr (List.mem_singleton.2 rfl)))) g2
theorem WkO.same {A:HS}{P:Prop}{o o':Ob}(h:WkO A P o o'):SameK o o':=by
  rcases h with ⟨h,_⟩|⟨q,h,_⟩
  · rw[h];exact SameK.refl _
  · rw[h];exact o.setp_same true 0 q
theorem GoneTo.ref {s:HS}(w:WF s){a t n:Nat}(g:GoneTo s a t)(h:Ref s a n):Ref s t n:=by
  obtain⟨i,o,c⟩:=g;have hp:Ref s a o.ser:=.inr (.inr ⟨o,_,c.mem',rfl⟩);have:=Ref.unique w h hp;subst this;obtain⟨o',h1,h2⟩:=w.gone a o _ c.mem';exact .inr (.inl ⟨o',h1,h2.2.2.2.2⟩)
theorem Pair.drop {σ:Nat→Nat}{A s' B:HS}{R S:List Nat}{X X':List Nat}(h:Pair σ A B R S 4)(hA:HRep A X)(hm:A.mv=true)(hs:A.scan=A.top){stw stf l1 l2 ls:List Nat}(h1:Settles A A.weak stw l1)(h2:Settles A A.fin stf l2)
    (g:WeakL { A with weak:=stw,fin:=stf } stw s' ls) (h':HRep s'.drop X') (hfew:stw.length≤100000∧stf.length≤100000):Pair σ s'.drop B R S 4:=by
  have hA1:HRep { A with weak:=stw,fin:=stf } X:=⟨hA.n1,hA.n2,hA.len,hA.zero,hA.half,hA.oroom,hA.room,hA.still,hA.ser,hfew⟩
  have hst:∀q∈stw,∃o,(q,o)∈A.cur∧o.wk=true:=fun q hq=>by
    rcases h1.st_mem hq with ⟨k1,k2⟩|⟨a,k1,k2⟩
    · rcases h.ca.wk q k1 with k3|⟨o,m,k3,_⟩
      · exact k3
      · exact absurd (List.mem_map.2 ⟨_,k3,rfl⟩) k2
    · rcases h.ca.wk a k1 with ⟨o,k3,_⟩|⟨o,m,k3,k4⟩
      · exfalso;obtain⟨i,u,c⟩:=k2;exact Entry.unique hA k3 ⟨_,c.mem'⟩
      · obtain⟨i,u,c⟩:=k2;have:=old_same hA k3 c.mem' rfl;cases this;obtain⟨o',k5,k6⟩:=h.tw.wa.gone a o q c.mem';exact⟨o',k5,by rw[k6.2.2.1];exact k4⟩
  have W:=WkI.of hA1 g hst;obtain⟨k,kl,ks,kp⟩:=h.ca.scan hm
  have hk:k=A.cur.length:=by
    have e:begs (A.base A.u) A.cur A.cur.length=A.top:=hA.half.cl.lie.end;rcases Nat.lt_or_eq_of_le kl with hlt|he
    · have:=begs_mono (A.base A.u) A.cur (show k+1≤A.cur.length from hlt);have h5:begs (A.base A.u) A.cur (k+1)=begs (A.base A.u) A.cur k+(A.cur.getD k ob0).2.took:=rfl;have h6:=(Ob.took_eq (hA.at_ hlt).ok).2.2.1;have h6:4≤(A.cur.getD k ob0).2.took:=h6;omega
    · exact he
  subst hk
  have hpl:plc s'.drop.cur=plc A.cur:=by
    show s'.cur.map (·.1)=A.cur.map (·.1);refine List.ext_getElem (by simpa using W.len) (fun i a b=>?_);have hi:i<A.cur.length:=by simpa using b
    have hi2:i<s'.cur.length:=by rw[W.len];exact hi
    have:=(W.obj i hi).1;simpa[List.getD,hi,hi2] using this
  have hwk:∀p o,(p,o)∈A.cur→o.wk=true→p∈stw:=fun p o ho hw=>by
    rcases h.ca.weak p o (.inl ho) hw with k1|⟨a,k1,k2⟩
    · exact h1.stay_mem k1 (cur_not_old_ hA (List.mem_map.2 ⟨_,ho,rfl⟩))
    · exact h1.gone_mem hA k2 k1
  have back:∀p o,(p,o)∈s'.cur→∃o0,(p,o0)∈A.cur∧WkO A (p∈stw) o0 o:=fun p o ho=>by
    obtain⟨i,hi,e⟩:=mem_get ob0 ho;have hi2:i<A.cur.length:=by rw[←W.len];exact hi
    obtain⟨e1,e2⟩:=W.obj i hi2;rw[e] at e1 e2;have e1:p=(A.cur.getD i ob0).1:=e1;refine⟨(A.cur.getD i ob0).2,by rw[e1];exact get_mem' ob0 hi2,?_⟩;rw[←e1] at e2;rcases e2 with ⟨f1,f2⟩|⟨q,f1,f2,f3⟩
    · exact .inl ⟨f1,f2⟩
    · refine .inr ⟨q,f1,f2,f3.imp (fun⟨j,u,c⟩=>⟨j,u,c.lt,c.get⟩) (fun⟨⟨j,u,c⟩,e⟩=>⟨⟨j,u,c.lt,c.get⟩,e⟩)⟩
  have forth:∀p o0,(p,o0)∈A.cur→∃o,(p,o)∈s'.cur∧SameK o0 o:=fun p o0 ho=>by
    obtain⟨i,hi,e⟩:=mem_get ob0 ho;have hi2:i<s'.cur.length:=by rw[W.len];exact hi
    obtain⟨e1,e2⟩:=W.obj i hi;rw[e] at e1 e2;refine⟨(s'.cur.getD i ob0).2,?_,e2.same⟩;have e1:(s'.cur.getD i ob0).1=p:=e1;rw[←e1];exact get_mem' ob0 hi2
  have refD:∀p n,Placed A p→Ref A p n→Ref s'.drop p n:=fun p n hp hr=>by
    rcases hp with hp|hp
    · exact .inl ⟨hp,(hr.pos h.tw.wa).1 hp⟩
    · obtain⟨x,hx,rfl⟩:=List.mem_map.1 hp;obtain⟨o,ho,hs⟩:=forth x.1 x.2 hx;have:x.2.ser=n:=Ref.unique h.tw.wa (.inr (.inl ⟨x.2,hx,rfl⟩)) hr;exact .inr (.inl ⟨o,ho,hs.2.2.2.2.trans this⟩)
  have strongP:∀p o,(p,o)∈A.cur→∀q∈o.strong,Placed A q:=fun p o ho q hq=>by
    obtain⟨i,hi,e⟩:=mem_get ob0 ho;exact kp i hi q (by rw[e];exact hq)
  have ptrP:∀p o0 o,(p,o0)∈A.cur→WkO A (p∈stw) o0 o→∀m,m<o.p→(∀n,Ref A (o0.ps.getD m 0) n→Ref s'.drop (o.ps.getD m 0) n∨(o.wk=true∧o.ps.getD m 0=0∧∀x u,Live s'.drop x u→u.ser≠n))∧(o0.wk=true→o0.ps.getD m 0=0→o.ps.getD m 0=0):=fun p o0 o ho hw m hm=>by
    have hok:o0.Ok:=(hA.cur_ok ho).1;have hlp:=hok.lp;have hmp:m<o0.p:=by rw[←hw.same.1];exact hm
    by_cases hwk0:o0.wk=true
    · have hp1:=Ob.weak_p hok hwk0;obtain rfl:m=0:=by omega
      rcases hw with ⟨e,f⟩|⟨q,e,_,f⟩
      · subst e;have hno:=f (hwk p _ ho hwk0);refine⟨fun n hn=>.inl (refD _ n ?_ hn),fun _ e0=>e0⟩;rcases hn.place with k1|k1|k1
        · exact .inl k1
        · exact .inr k1
        · exact absurd k1 hno
      · have eq:o.ps.getD 0 0=q:=by rw[e];exact(setp_get (k:=0) (j:=0) hok (by omega)).trans (if_pos rfl)
        rw[eq];rcases f with f|⟨⟨j,u,c⟩,f⟩
        · refine⟨fun n hn=>.inl (refD _ n (.inr (f.cur hA)) (f.ref h.tw.wa hn)),fun _ e0=>?_⟩;exfalso;obtain⟨j,u,c⟩:=f;have:=(Entry.ok hA (show Entry A _ u from .inr ⟨_,c.mem'⟩)).2.1;omega
        · refine⟨fun n hn=>.inr ⟨by rw[e];exact hwk0,f,fun x v hv=>?_⟩,fun _ _=>f⟩;have hn2:u.ser=n:=Ref.unique h.tw.wa (.inr (.inr ⟨u,_,c.mem',rfl⟩)) hn;rcases hv with hv|hv
          · obtain⟨v0,hv0,hvw⟩:=back x v hv;have:=h.tw.wa.unM _ hv0 _ _ c.mem';rw[hvw.same.2.2.2.2,←hn2];exact this
          · cases hv
    · have e:o=o0:=by
        rcases hw with ⟨e,_⟩|⟨q,_,f,_⟩
        · exact e
        · exact absurd f hwk0
      subst e;refine⟨fun n hn=>.inl (refD _ n (strongP p _ ho _ ?_) hn),fun h0=>absurd h0 hwk0⟩;unfold Ob.strong;rw[if_neg hwk0];exact get_mem' 0 (by rw[hlp];exact hm)
  have hS:Sem s'.drop:=by
    refine⟨fun x hx=>?_,(fun x hx=>by cases hx),fun x hx y hy e=>?_,(fun x hx=>by cases hx),(fun x hx p o ho=>by cases ho),fun p o ho q hq=>?_⟩
    · obtain⟨o0,k1,k2⟩:=back x.1 x.2 hx;have:=h.tw.wa.serC _ k1;rw[k2.same.2.2.2.2];show 1≤o0.ser∧o0.ser≤s'.ser;rw[W.ser];exact this
    · obtain⟨o0,k1,k2⟩:=back x.1 x.2 hx;obtain⟨u0,k3,k4⟩:=back y.1 y.2 hy;have:=h.tw.wa.unC _ k1 _ k3 (by show o0.ser=u0.ser;rw[←k2.same.2.2.2.2,←k4.same.2.2.2.2];exact e);have e1:x.1=y.1:=(Prod.mk.inj this).1;have l1:Live s'.drop x.1 x.2:=.inl hx;have l2:Live s'.drop x.1 y.2:=.inl (by rw[e1];exact hy);exact Prod.ext e1 (live_unique h' l2 l1)
    · rcases ho with ho|ho
      · obtain⟨o0,k1,k2⟩:=back p o ho;have hok:o0.Ok:=(hA.cur_ok k1).1;obtain⟨m,hm,rfl⟩:=mem_get 0 hq;have hlo:o.ps.length=o.p:=(show o.Ok from(h'.cur_ok (x:=(p,o)) ho).1).lp;have hmp:m<o.p:=by rw[←hlo];exact hm
        obtain⟨n,hn⟩:=h.tw.wa.ptr p o0 (.inl k1) (o0.ps.getD m 0) (get_mem' 0 (by rw[hok.lp,←k2.same.1];exact hmp));rcases(ptrP p o0 o k1 k2 m hmp).1 n hn with k3|⟨_,k3,_⟩
        · exact⟨n,k3⟩
        · exact⟨0,.inl ⟨k3,rfl⟩⟩
      · cases ho
  have w':=WF.of h' hS
  have tw':Tw σ s'.drop B:=by
    refine h.tw.left w' (by show A.ser≤s'.ser;rw[W.ser];exact Nat.le_refl _) (fun x u hu=>?_) (fun p o ho _=>?_)
    · rcases hu with hu|hu
      · obtain⟨o0,k1,k2⟩:=back x u hu;exact .inl ⟨x,o0,.inl k1,k2.same.2.2.2.2.symm⟩
      · cases hu
    · rcases ho with ho|ho
      · obtain⟨o0,k1,k2⟩:=back p o ho;have hok:o0.Ok:=(hA.cur_ok k1).1;have hlo:o.ps.length=o.p:=(show o.Ok from(h'.cur_ok (x:=(p,o)) ho).1).lp
        have hlk:Alk o0 o:=by
          rcases k2 with ⟨e,_⟩|⟨q,e,_,_⟩
          · rw[e];exact Alk.refl hok
          · subst e;exact⟨rfl,rfl,rfl,rfl,rfl,rfl,hok.lp,hlo⟩
        exact⟨p,o0,.inl k1,hlk,k2.same.2.2.2.2.symm,ptrP p o0 o k1 k2⟩
      · cases ho
  have cl:Coll s'.drop:=by
    refine⟨(fun hm=>by cases hm),fun p o ho hw=>.inl ?_,fun q hq=>.inl ?_,fun q hq=>.inl ?_,?_⟩
    · rcases ho with ho|ho
      · obtain⟨o0,k1,k2⟩:=back p o ho;show p∈s'.weak;rw[W.weak];exact hwk p o0 k1 (by rw[←k2.same.2.2.1];exact hw)
      · cases ho
    · have hq:q∈s'.weak:=hq;rw[W.weak] at hq;obtain⟨o,k1,k2⟩:=hst q hq;obtain⟨o',k3,k4⟩:=forth q o k1;exact⟨o',k3,by rw[k4.2.2.1];exact k2⟩
    · have hq:q∈s'.fin:=hq;rw[W.fin] at hq;rw[hpl];rcases h2.st_mem hq with ⟨k1,k2⟩|⟨a,k1,k2⟩
      · rcases h.ca.fn q k1 with k3|k3
        · exact k3
        · exact absurd k3 k2
      · exact k2.cur hA
    · show s'.weak.length≤s'.ser∧s'.fin.length≤s'.ser;have e1:=h1.len;have e2:=h2.len;have e3:=h.ca.few;have e4:s'.weak=stw:=W.weak;have e5:s'.fin=stf:=W.fin;have e6:s'.ser=A.ser:=W.ser;rw[e4,e5,e6];omega
  refine⟨tw',cl,h.bm,h.bn,h.bt,h.bf,⟨h.rg.lr,h.rg.ls,fun j hj=>?_,fun j hj=>?_⟩⟩
  · unfold Placed;rw[hpl];exact h.rg.here j hj
  · obtain⟨n,n1,n2,n3⟩:=h.rg.ref j hj;exact⟨n,n1,refD _ _ (h.rg.here j hj) n2,n3⟩
end
end Go.Proofs.YtdffnjikmkgjkaaGreat
