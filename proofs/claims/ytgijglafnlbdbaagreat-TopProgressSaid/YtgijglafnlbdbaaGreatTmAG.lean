import Derived.Test.YtgijglafnlbdbaaGreatTmAF
set_option linter.all false
set_option maxHeartbeats 4000000
set_option maxRecDepth 8000
namespace Go.Proofs.YtgijglafnlbdbaaGreat
open RowKit Shelf Proofs.Tryz
open Go renaming World->ag,Value->aA,Calls->aJ
section
theorem dB.im{s:HS}{p:Nat}(h:p∈jL s.aV):∃i o m,dB s i p o m:=by
 obtain⟨x,hx,rfl⟩:=List.mem_map.1 h;obtain⟨i,hi,e⟩:=List.getElem_of_mem hx;exact⟨i,x.2.1,x.2.2,hi,by simp[List.getD,hi,e]⟩
inductive Goes (s:HS) (p:Nat):HS->Nat->Prop
 | stay (h:p∉jL s.aV):Goes s p s p
 | gone {i t:Nat} {o:Ob} (c:dB s i p o (some t)):Goes s p s t
 | move {i:Nat} {o:Ob} (c:dB s i p o none):Goes s p (s.move i) s.top
def GU(w:ag)(B:HB)(s:HS)(p:Nat)(e:Ending)(w':ag):Prop:=
 ∃s' q,Goes s p s' q/\e=.returned (vI (q:Nat))/\∃B' X',cz w' B' s' X'/\bz w B w' B'
theorem zD{w:ag}{B:HB}{s:HS}{X:aj}(h:cz w B s X){p:Nat}(hp:p<=131072) :
 aJ prog 191 #[eU B,vI p] w (GU w B s p):=by
 by_cases hm:p∈jL s.aV
 ·obtain⟨i,o,m,c⟩:=dB.im hm
  cases m with
  | some t=>
    have hg:mP X p t:=by
     have:=(h.rep.half.ol.at i c.lt).2.2.2;rw[c.get] at this;exact this
    cases hu:s.u
    ·exact(PO h hu c hp hg).mono (λe w' ⟨h1,h2⟩=>⟨s,t,.gone c,h1,B,X,h.calm h2,bz.calm B h2⟩)
    ·exact(PR h hu c hp hg).mono (λe w' ⟨h1,h2⟩=>⟨s,t,.gone c,h1,B,X,h.calm h2,bz.calm B h2⟩)
  | none=>
    cases hu:s.u
    ·exact(PV h hu c hp).mono (λe w' ⟨h1,B',X',h2,h3⟩=>⟨_,_,.move c,h1,B',X',h2,h3⟩)
    ·exact(PW h hu c hp).mono (λe w' ⟨h1,B',X',h2,h3⟩=>⟨_,_,.move c,h1,B',X',h2,h3⟩)
 ·exact(Ev h ⟨by omega,by omega⟩ (λe=>hm (gV.1 e))).mono (λe w' ⟨h1,h2⟩=>⟨s,p,.stay hm,h1,B,X,h.calm h2,bz.calm B h2⟩)
theorem Eg{w:ag}{B:HB}{s:HS}{X:aj}(h:cz w B s X){p d:Nat}{wk fn:Bool}(bU:sV p d wk fn)
 (hr:ju ((3+p+d:Nat):Int)<=s.room) (hs:s.ser<1099511627776) (hf:s.bI.length<100000/\s.fin.length<100000) :
 aJ prog 183 #[eU B,mz p d wk fn] w λe w'=>e=.returned (.tuple #[vI (s.top:Nat),vI 0])/\∃B' X',cz w' B' (s.alloc p d wk fn) X'/\bz w B w' B':=by
 cases hu:s.u
 ·exact Kz h hu bU hr hs hf
 ·exact KC h hu bU hr hs hf
set_option maxRecDepth 100000 in
theorem Hy{w:ag}{B:HB}{s:HS}{X:aj}(h:cz w B s X){p d:Nat}{wk fn:Bool}(bU:sV p d wk fn)(hr:s.room<ju ((3+p+d:Nat):Int)) :
 aJ prog 183 #[eU B,mz p d wk fn] w λe w'=>e=.returned (.tuple #[vI 0,vI 100])/\Calm w w':=by
 have p8:=bU.1;have d8:=bU.2.1;obtain⟨n,hn⟩:=ao (3+p+d);have mo:(3:Int)+p+d=(n:Int):=by rw[<-hn];push_cast;rfl
 have B0:n<=19:=by omega
 have ld:3<=n:=by omega
 obtain⟨R,hR⟩:∃R:Nat,ju (n:Int)=(R:Int):=⟨(ju (n:Int)).toNat,by have:=iw (n:=(n:Int)) (by omega);omega⟩;rw[hn,hR] at hr;have zG:=hid (λW (c:Calm w W)=>z_ (h.calm c));obtain⟨RM,FY⟩:=ao s.room;rw[FY] at hr zG;replace bU:=hid bU;clear h FY;go_in;go_wp2_with fail
 have k1:Calm w (w.alloc (.cells #[vI p,vI d,.bool wk,.bool fn] 179)):=ah.alloc _;refine(jY p d wk fn bU.out _).mono ?_;rintro e w2 ⟨rfl,k2⟩;rw[mo];clear mo;replace hn:=hid hn;replace hR:=hid hR;replace k2:=k1.trans k2;clear k1;go_wp2_with fail
 refine(lN n (by omega) (by omega) _).mono ?_;rintro e w3 ⟨rfl,k3⟩;rw[hR.out];replace k3:=k2.trans k3;clear k2;go_wp2_with fail
 refine(zG.out _ k3).mono ?_;rintro e w4 ⟨rfl,k4⟩;replace k4:=k3.trans k4;go_wp2
 go_ret2
 exact⟨rfl,k4⟩
section
variable {w:ag}{B:HB}{s:HS}{X:aj}
theorem Ie(h:cz w B s X){a:Int}(ha:bX a)(hm:a∉nI (dL s.cur)) :
 aJ prog 99 #[eU B,vI a] w λe w'=>e=.returned (.tuple #[mz 0 0 false false,.bool false,vI 70])/\Calm w w':=by
 have hh:=hid (λW (c:Calm w W)=>ja (h.calm c) ha hm);clear h hm;go_in;go_wp2_with fail
 have k1:Calm w (w.alloc (.cells #[vI 0,vI 0,.bool false,.bool false] 179)):=ah.alloc _;have o1:=af.new w [vI 0,vI 0,.bool false,.bool false] 179;refine(hh.out _ k1).mono ?_;rintro e w1 ⟨rfl,c1⟩;replace o1:=o1.calm c1;replace k1:=k1.trans c1;obtain⟨m0,n0⟩:=o1 0 _ rfl;obtain⟨m1,n1⟩:=o1 1 _ rfl;obtain⟨m2,n2⟩:=o1 2 _ rfl;obtain⟨m3,n3⟩:=o1 3 _ rfl;go_wp2;have o2:=o1.xt (vI 0) (vI 0) (.bool false) (.bool false);have c3:Calm w _:=k1.join o2.2 (by intros;omega);have z:=o2.1;generalize World.setCell _ _ _=w3 at *;obtain⟨z0,z1,z2,z3⟩:=af.Bh z;exact bodyPost_ret (v:=.tuple #[mz 0 0 false false,.bool false,vI 70]) (by simp[results,Tryz.f99,go_sem,z0,z1,z2,z3]) rfl ⟨rfl,c3⟩
theorem EG(h:cz w B s X){i a:Nat}{o:Ob}(c:aY s i a o) :
 aJ prog 99 #[eU B,vI a] w λe w'=>e=.returned (.tuple #[mz o.p o.d o.wk o.fn,.bool o.fr,vI 0])/\Calm w w':=by
 have hh:=hid (λW (k:Calm w W)=>fy (h.calm k) c.mem (c.le h.rep));have y0:=(h.own (i:=0) (v:=eL B.ap) rfl).1;have ha:=hid (c.at_ h.rep);have aM:=h.jW;have H:=hid h;clear h;go_in;go_wp2_with fail
 have k1:Calm w (w.alloc (.cells #[vI 0,vI 0,.bool false,.bool false] 179)):=ah.alloc _;have o1:=af.new w [vI 0,vI 0,.bool false,.bool false] 179;refine(hh.out _ k1).mono ?_;rintro e w1 ⟨rfl,c1⟩;replace o1:=o1.calm c1;replace k1:=k1.trans c1;replace y0:=k1.cellAt y0 id;have DP:=hid (H.out.ar.calm k1);clear c1;go_wp2_with fail
 refine(mW DP.out ha.out).mono ?_;rintro e w2 ⟨rfl,c2⟩;replace o1:=o1.calm c2;replace k1:=k1.trans c2;obtain⟨m0,n0⟩:=o1 0 _ rfl;obtain⟨m1,n1⟩:=o1 1 _ rfl;obtain⟨m2,n2⟩:=o1 2 _ rfl;obtain⟨m3,n3⟩:=o1 3 _ rfl;go_wp2;have o2:=o1.xt (vI o.p) (vI o.d) (.bool o.wk) (.bool o.fn);have c3:Calm w _:=k1.join o2.2 (by intros;omega);have z:=o2.1;generalize World.setCell _ _ _=w3 at *;obtain⟨z0,z1,z2,z3⟩:=af.Bh z;exact bodyPost_ret (v:=.tuple #[mz o.p o.d o.wk o.fn,.bool o.fr,vI 0]) (by simp[results,Tryz.f99,go_sem,z0,z1,z2,z3]) rfl ⟨rfl,c3⟩
theorem EE(h:cz w B s X){i a:Nat}{o:Ob}(c:aY s i a o){bp:Bool}{k:Int}{v:Nat}(hk:Has bp k o.p)(hv:v=0\/v∈dL s.cur)(dK:v<=131072) :
 aJ prog 133 #[eU B,vI a,vI k,vI v] w λe w'=>e=.returned (vI (bif bp then 0 else 71))/\∃X',cz w' B (s.cV i (o.e_ bp k v)) X'/\bz w B w' B:=by
 replace hk:=hid hk;replace dK:=hid dK;have hh:=hid (fy h c.mem (c.le h.rep));have ha:=hid (c.at_ h.rep);have y0:=(h.own (i:=0) (v:=eL B.ap) rfl).1;have H:=hid h;clear h
 by_cases hz:v=0
 ·subst hz;go_in;go_wp2_with fail
  refine(hh.out).mono ?_;rintro e w1 ⟨rfl,c1⟩;replace y0:=c1.cellAt y0 id;replace H:=hid (H.out.calm c1);go_wp2_with fail
  refine(pS (v:=0) H.out.ar ha.out hk.out dK.out).mono ?_;rintro e w2 ⟨rfl,OQ,f2⟩;have ht:=hid (H.out.fD c OQ f2 (o':=o.e_ bp k 0) (by cases bp <;> simp) (Has.kR ha.out hk.out dK.out) (o.cZ bp k 0) (λj hj=>by have hk:=hk.out;simp only[Ob.size] at hj;rcases hk with ⟨rfl,h1,h2⟩|⟨rfl,h1⟩ <;> simp only[cond_true,cond_false];rw[dr,if_neg (by omega)]));have fR:=bz.calm B c1;go_wp2;go_ret;exact⟨rfl,_,ht.out.1,fR.trans ht.out.2⟩
 ·have hvm:=hv.resolve_left hz;have HQ:=hid (λW (c:Calm w W)=>fy (H.out.calm c) hvm dK.out);have iT:¬((v:Int)=0):=by omega
  replace hvm:=hid hvm;go_in;go_wp2_with fail
  refine(hh.out).mono ?_;rintro e w1 ⟨rfl,c1⟩;replace y0:=c1.cellAt y0 id;replace H:=hid (H.out.calm c1);go_wp2_with fail
  refine(HQ.out _ c1).mono ?_;rintro e w2 ⟨rfl,c2⟩;replace y0:=c2.cellAt y0 id;replace H:=hid (H.out.calm c2);go_wp2_with fail
  refine(pS H.out.ar ha.out hk.out dK.out).mono ?_;rintro e w3 ⟨rfl,OQ,f2⟩;have ht:=hid (H.out.fD c OQ f2 (o':=o.e_ bp k v) (by cases bp <;> simp) (Has.kR ha.out hk.out dK.out) (o.cZ bp k v) (λj hj=>by have hk:=hk.out;simp only[Ob.size] at hj;rcases hk with ⟨rfl,h1,h2⟩|⟨rfl,h1⟩ <;> simp only[cond_true,cond_false];rw[dr,if_neg (by omega)]));have fR:=(bz.calm B c1).trans (bz.calm B c2);go_wp2;go_ret;exact⟨rfl,_,ht.out.1,fR.trans ht.out.2⟩
theorem Ex(h:cz w B s X){i a:Nat}{o:Ob}(c:aY s i a o){k:Int}(hk:k<0\/(o.p:Int)<=k) :
 aJ prog 135 #[eU B,vI a,vI k] w λe w'=>e=.returned (.tuple #[vI 0,vI 71])/\Calm w w':=by
 replace hk:=hid hk;have hh:=hid (fy h c.mem (c.le h.rep));have y0:=(h.own (i:=0) (v:=eL B.ap) rfl).1;have ha:=hid (c.at_ h.rep);have H:=hid h;clear h;go_in;go_wp2_with fail
 refine(hh.out).mono ?_;rintro e w1 ⟨rfl,c1⟩;replace y0:=c1.cellAt y0 id;replace H:=hid (H.out.calm c1);go_wp2_with fail
 refine(Ha H.out.ar ha.out hk.out).mono ?_;rintro e w2 ⟨rfl,c2⟩;go_wp2
 go_ret2
 exact⟨rfl,c1.trans c2⟩
theorem eO{α:Type}{l:List α}{i:Nat}(d:α)(h:i<l.length):l.getD i d∈l:=by simp[List.getD,h]
theorem Goes.cur{s s':HS}{p q:Nat}(g:Goes s p s' q){i a:Nat}{o:Ob}(c:aY s i a o):aY s' i a o:=by
 cases g with
 | stay _=>exact c
 | gone _=>exact c
 | @move j u m=>
   have e:(s.move j).cur=s.cur++[(s.top,(s.aV.getD j oo).2.1)]:=rfl;refine⟨by rw[e,b_];have:=c.lt;omega,?_⟩;rw[e];have:=c.get;have hl:=c.lt;simp only[List.getD,List.getElem?_append_left hl] at *;exact this
theorem Goes.here{s s':HS}{X:aj}(h:aR s X){p q:Nat}(g:Goes s p s' q)(hp:p=0\/p∈dL s.cur\/p∈jL s.aV):q=0\/q∈dL s'.cur:=by
 cases g with
 | stay hn=>
   rcases hp with hp|hp|hp
   ·exact .inl hp
   ·exact .inr hp
   ·exact absurd hp hn
 | gone c=>
   obtain⟨j,h1,h2,_⟩:=h.half.gone _ c.lt _ (by rw[c.get]);refine .inr (List.mem_map.2 ⟨s.cur.getD j eF,eO eF h1,?_⟩);rw[(h.place h1).1];exact h2
 | move m=>exact .inr (List.mem_map.2 ⟨_,cJ.2 (.inr (gH.2 rfl)),rfl⟩)
theorem aR.mh{s:HS}{X:aj}(h:aR s X){q:Nat}(hq:q∈dL s.cur):q<=131072:=by
 obtain⟨i,o,c⟩:=aY.im hq;exact c.le h
def OG(w:ag)(B:HB)(s:HS)(i:Nat)(o:Ob)(k:Nat)(e:Ending)(w':ag):Prop:=
 ∃s' q,Goes s (o.ps.getD k 0) s' q/\e=.returned (.tuple #[vI (q:Nat),vI 0])/\∃B' X',cz w' B' (s'.cV i (o.e_ true k q)) X'/\bz w B w' B'
theorem Ln(h:cz w B s X){i a:Nat}{o:Ob}(c:aY s i a o){k:Nat}(hk:k<o.p)(hq:o.ps.getD k 0=0\/o.ps.getD k 0∈dL s.cur\/o.ps.getD k 0∈jL s.aV) :
 aJ prog 135 #[eU B,vI a,vI k] w (OG w B s i o k):=by
 have hh:=hid (fy h c.mem (c.le h.rep));have y0:=(h.own (i:=0) (v:=eL B.ap) rfl).1;have ha:=hid (c.at_ h.rep);have H:=hid h;have ZK:=hid hk;obtain⟨q,Vh⟩:=ao (o.ps.getD k 0)
 have hq2:q<=131072:=by
  rw[Vh] at hq;rcases hq with hq|hq|hq
  ·omega
  ·exact h.rep.mh hq
  ·obtain⟨j,u,m,c2⟩:=dB.im hq;have h1:=(h.rep.half.ol.at j c2.lt).2.1;rw[c2.get] at h1;have h1:q+u.took<=s.hZ:=h1;have h2:=h.rep.gh;have h3:=h.rep.sep;have h4:=h.rep.n2;have h5:=h.rep.len;omega
 rw[Vh] at hq;replace hq:=hid hq;clear h hk
 by_cases ht:q∈jL s.aV
 ·have mb:=hid (λW (cw:Calm w W)=>(iB (H.out.calm cw) q ⟨by omega,by omega⟩).mono (λe w' (h:e=_/\_)=>(⟨by rw[h.1,decide_eq_true (gV.2 ht)],h.2⟩:e=.returned (.bool true)/\Calm W w')));have kU:=hid (λW (cw:Calm w W)=>zD (H.out.calm cw) hq2);replace ht:=hid ht;replace hq2:=hid hq2;go_in;go_wp2_with fail
  refine(hh.out).mono ?_;rintro e w1 ⟨rfl,c1⟩;replace y0:=c1.cellAt y0 id;have G6:=hid (H.out.ar.calm c1);go_wp2_with fail
  refine(kR G6.out ha.out ZK.out).mono ?_;rintro e w2 ⟨rfl,c2⟩;rw[Vh];replace c2:=c1.trans c2;clear c1 G6;go_wp2_with fail
  refine(mb.out _ c2).mono ?_;rintro e w3 ⟨rfl,c3⟩;replace c3:=c2.trans c3;clear c2;go_wp2_with fail
  refine(kU.out _ c3).mono ?_;rintro e w4 ⟨s',q',hg,rfl,B',X',hA,hK⟩;have hB:=hK.hp;have KJ:=hid (hg.cur c);have H9:=hid (hg.here H.out.rep hq.out);have mL:=hid ((bz.calm B c3).trans hK);replace hg:=hid hg;have ya:=(hA.own (i:=0) (v:=eL B'.ap) rfl).1;rw[hB] at ya;have WO:=hid hA;clear y0 hK hA c3;go_wp2_with fail
  have hq3:q'<=131072:=by
   rcases H9.out with h|h
   ·omega
   ·exact WO.out.rep.mh h
  have iW:=hid (KJ.out.at_ WO.out.rep);have hbp:Has true (k:Int) o.p:=Has.lt (by omega) (by have:=ZK.out;omega);replace hbp:=hid hbp;replace hq3:=hid hq3;refine(lq WO.out.ar iW.out ZK.out hq3.out).mono ?_;rintro e w5 ⟨rfl,G7,f5⟩;have bM:=hid (WO.out.fD KJ.out G7 f5 (o':=o.e_ true k q') (by simp) (Has.kR iW.out hbp.out hq3.out) (o.cZ true k q') (λj hj=>by have hk:=ZK.out;simp only[Ob.size] at hj;rw[dr,if_neg (by omega)]));go_wp2
  go_ret2
  exact⟨s',q',by rw[Vh];exact hg.out,rfl,B',_,bM.out.1,mL.out.trans bM.out.2⟩
 ·have mb:=hid (λW (cw:Calm w W)=>(iB (H.out.calm cw) q ⟨by omega,by omega⟩).mono (λe w' (h:e=_/\_)=>(⟨by rw[h.1,decide_eq_false (λe=>ht (gV.1 e))],h.2⟩:e=.returned (.bool false)/\Calm W w')));replace ht:=hid ht;replace hq2:=hid hq2;go_in;go_wp2_with fail
  refine(hh.out).mono ?_;rintro e w1 ⟨rfl,c1⟩;replace y0:=c1.cellAt y0 id;have G6:=hid (H.out.ar.calm c1);go_wp2_with fail
  refine(kR G6.out ha.out ZK.out).mono ?_;rintro e w2 ⟨rfl,c2⟩;rw[Vh];replace c2:=c1.trans c2;clear c1 G6;go_wp2_with fail
  refine(mb.out _ c2).mono ?_;rintro e w3 ⟨rfl,c3⟩;replace c3:=c2.trans c3;go_wp2
  go_ret2
  have e1:o.e_ true k q=o:=by
   unfold Ob.e_;simp only[cond_true,Int.toNat_natCast,<-Vh]
   have:o.ps.set k (o.ps.getD k 0)=o.ps:=by
    apply List.ext_getElem (by simp);intro j h1 h2;rw[List.getElem_set];split
    ·rename_i e;subst e;simp[List.getD,h2]
    ·rfl
   rw[this]
  refine⟨s,q,by rw[Vh];exact .stay ht.out,rfl,B,X,?_,bz.calm B c3⟩;rw[e1,NL c];exact H.out.calm c3
end
end
section
theorem px{w:ag}{B:HB}{s:HS}{X:aj}(h:cz w B s X){S:Bool}(hS:((s.scan:Int)==(s.top:Int))=S) :
 aJ prog 211 #[eU B] w λe w'=>e=.returned (.bool S)/\Calm w w':=by
 have ys:=h.rd 12 (vI s.scan) rfl;cases hu:s.u
 ·have y9:=h.rd 9 (vI 0) (by simp[aN,hu]);have y3:=h.rd 3 (vI s.top) (by simp[aN,hu]);clear h hu;obtain⟨T,hT⟩:=ao ((s.top:Int):Int);obtain⟨V,hV⟩:=ao ((s.scan:Int):Int);rw[hT] at y3 hS;rw[hV] at ys hS;clear hT hV;go_in;go_wp2;refine bO (by kernel_rfl) (by kernel_rfl) ?_
  repeat (go_big_quiet_step (fail))
  refine wpQuiet_nil ?_;intro w2 hw';have c2:=a_.out hw';clear hw' y9 y3 ys;go_wp2;go_ret;exact⟨rfl,c2⟩
 ·have y9:=h.rd 9 (vI 1) (by simp[aN,hu]);have y3:=h.rd 6 (vI s.top) (by simp[aN,hu]);clear h hu;obtain⟨T,hT⟩:=ao ((s.top:Int):Int);obtain⟨V,hV⟩:=ao ((s.scan:Int):Int);rw[hT] at y3 hS;rw[hV] at ys hS;clear hT hV;go_in;go_wp2;refine bO (by kernel_rfl) (by kernel_rfl) ?_
  repeat (go_big_quiet_step (fail))
  refine wpQuiet_nil ?_;intro w2 hw';have c2:=a_.out hw';clear hw' y9 y3 ys;go_wp2;go_ret;exact⟨rfl,c2⟩
def Ob.vL(o:Ob)(l:aj)(k:Nat):Ob:={ o with ps:=l.take k++o.ps.drop k }
def Ob.cD(o:Ob)(l:aj):Ob:=o.vL l l.length
theorem Ob.IM(o:Ob)(l:aj):o.vL l 0=o:=by simp[Ob.vL]
theorem Ob.IL(o:Ob)(l:aj){k:Nat}(hk:k<l.length)(hp:k<o.ps.length):o.vL l (k+1) = { o.vL l k with ps:=(o.vL l k).ps.set k (l.getD k 0) }:=by
 unfold Ob.vL
 have:l.take (k+1)++o.ps.drop (k+1)=(l.take k++o.ps.drop k).set k (l.getD k 0):=by
  have e:=List.drop_eq_getElem_cons hp;rw[dR l hk,e,List.set_append_right _ _ (by simp;omega)];have e2:k-(l.take k).length=0:=by simp;omega
  rw[e2,iz,List.append_assoc];rfl
 rw[this]
theorem Ob.jN(o:Ob)(l:aj):dV o (o.cD l):=⟨rfl,rfl,rfl,rfl,rfl⟩
def Rq(w0:ag)(b c:Nat)(xs:aj)(a:Nat)(o:Ob)(l:aj)(k:Nat)(wr:ag):Prop:=
 ∃AM,Ar wr b c AM/\AM.length=xs.length/\At AM a (o.vL l k)/\(∀j,j<a\/a+o.size<=j->AM.getD j 0=xs.getD j 0)/\Fr (λk=>k=c) w0 wr
theorem xu{w:ag}{b c:Nat}{xs:aj}(h:Ar w b c xs){a:Nat}{o:Ob}(ho:At xs a o){v:aA}{l:aj}(hr:aI w 0 v (nI l))(Z3:¬ay v c)(hl:l.length=o.aZ.length)(hb:∀x∈l,x<=131072) :
 aJ prog 213 #[eL b,vI a,v] w λe w'=>e=.returned (vI 0)/\Rq w b c xs a o l l.length w':=by
 have hle:=Ob.rL ho.ok;have oC:=ho.ok.lp;have p8:=ho.ok.sh.1;obtain⟨n,hn⟩:=ao l.length;rw[hn] at hl;rw[hn];obtain⟨sa,sc,rfl⟩:=hr.iy (n:=n) (by simp[hn]);have hR:=hid hr;have HA:=hid h;have HO:=hid ho;have El:=hid (λW=>vR W o ho.ok);rw[<-hl] at El hle;replace hn:=hid hn;replace oC:=hid oC;replace hb:=hid hb;replace Z3:=hid Z3;clear h ho hr hl;go_in;go_wp2_with fail
 refine(mW HA.out HO.out).mono ?_;rintro e w1 ⟨rfl,c1⟩;have o7:=af.new w1 [vI o.p,vI o.d,.bool o.wk,.bool o.fn] 179;replace c1:=c1.alloc (.cells #[vI o.p,vI o.d,.bool o.wk,.bool o.fn] 179);obtain⟨x0,x1,x2,x3⟩:=af.Bh o7;go_wp2_with (first|(go_at_call 243;refine(El.out _).mono ?_;rintro e w2 ⟨rfl,c2⟩))
 replace c1:=c1.trans c2;clear c2 x0 x1 x2 x3 o7 El;go_loopw [32] (λi wr=>∃k:Nat,k<=n/\i=vI k/\Calm w wr) (λi _=>n-(intOf i).toNat)
 case atStart=>exact⟨0,by omega,rfl,c1⟩
 case round=>
  obtain⟨k,hk,rfl,ck⟩:=hrel;rcases fB k n with aM|ic
  ·have ki:k<l.length:=by rw[hn.out];exact aM
   obtain⟨g,gc,hv,_,qg,_⟩:=(hR.out.calm ck).get (k:=k) (by simpa using ki);injection hv with rz dK rZ
   subst rz;rw[show(nI l).getD k 0=((l.getD k 0:Nat):Int) by simp[List.getD,ki]] at qg;have hx:l.getD k 0<=131072:=hb.out _ (by simp[List.getD,ki]);clear dK rZ ki;generalize l.getD k 0=x at *;have z1:¬((x:Int)<0):=by omega
   have z2:¬((131072:Int)<(x:Int)):=by omega
   go_wp2
   go_roundw
   case rel=>exact⟨k+1,by omega,by go_num,ck⟩
   case measure=>simp[intOf];omega
  ·obtain rfl:k=n:=by omega
   go_wp2;go_loopw [45] (λi wr=>∃j:Nat,j<=k/\i=vI j/\Rq w b c xs a o l j wr) (λi _=>k-(intOf i).toNat)
   case atStart=>exact⟨0,by omega,rfl,xs,HA.out.calm ck,rfl,by rw[Ob.IM];exact HO.out,λ_ _=>rfl,ck.any⟩
   case round=>
    obtain⟨j,hj,rfl,AM,hA,hlen,iW,wW,hf⟩:=hrel;rcases fB j k with aM|ic
    ·have ki:j<l.length:=by rw[hn.out];exact aM
     obtain⟨g,gc,hv,_,qg,_⟩:=(hR.out.dw hf (λb hb e=>Z3.out (e ▸ hb))).get (k:=j) (by simpa using ki);injection hv with rz dK rZ
     subst rz;rw[show(nI l).getD j 0=((l.getD j 0:Nat):Int) by simp[List.getD,ki]] at qg;have hx:l.getD j 0<=131072:=hb.out _ (by simp[List.getD,ki]);have mq:=Ob.IL o l ki (by rw[oC.out];omega);have HC:At (AM.set (a+3+j) (l.getD j 0)) a (o.vL l (j+1)):=by rw[mq];exact iW.MP (i:=j) (by show j<o.p;omega) hx
     replace HC:=hid HC;have mF:=hid (lq hA iW (i:=j) (v:=l.getD j 0) (show j<o.p by omega) hx);replace iW:=hid iW;replace hA:=hid hA;replace wW:=hid wW;replace hlen:=hid hlen;have iG:Hid (o.size=3+o.p+o.d):=rfl;clear dK rZ ki mq;generalize l.getD j 0=x at *;go_wp2_with fail
     refine(mF.out).mono ?_;rintro e w3 ⟨rfl,ar3,f3⟩;replace ar3:=hid ar3;go_wp2
     go_roundw
     case rel=>
      refine⟨j+1,by omega,by go_num,_,ar3.out,by rw[bN];exact hlen.out,HC.out,λm hm=>?_,hf.trans f3⟩;have:=iG.out;rw[dr,if_neg (by omega)];exact wW.out m hm
     case measure=>simp[intOf];omega
    ·obtain rfl:j=k:=by omega
     replace iW:=hid iW;replace hA:=hid hA;replace wW:=hid wW;replace hlen:=hid hlen;go_wp2;go_ret;exact⟨rfl,AM,hA.out,hlen.out,iW.out,wW.out,hf⟩
end
section
def Place(s:HS)(p:Nat):Prop:=p=0\/p∈dL s.cur\/p∈jL s.aV
def cH(s:HS)(q:Nat):Prop:=q=0\/q∈dL s.cur
inductive cK (s:HS):aj->HS->aj->Prop
 | nil:cK s [] s []
 | snoc {l l':aj} {s1 s2:HS} {p q:Nat} (h:cK s l s1 l') (g:Goes s1 p s2 q):cK s (l++[p]) s2 (l'++[q])
theorem Goes.place{s s':HS}{p q:Nat}(g:Goes s p s' q){x:Nat}(h:Place s x):Place s' x:=by
 cases g with
 | stay _=>exact h
 | gone _=>exact h
 | @move i o c=>
   refine h.imp id (λh=>h.imp (λh=>?_) (λh=>by rw[m_ c];exact h))
   have e:dL (s.move i).cur=dL s.cur++[s.top]:=by
    show(s.cur++[(s.top,(s.aV.getD i oo).2.1)]).map (·.1)=_;simp[dL]
   rw[e];simp[h]
theorem Goes.zY{s s':HS}{p q:Nat}(g:Goes s p s' q){x:Nat}(h:cH s x):cH s' x:=by
 cases g with
 | stay _=>exact h
 | gone _=>exact h
 | @move i o c=>
   refine h.imp id (λh=>?_)
   have e:dL (s.move i).cur=dL s.cur++[s.top]:=by
    show(s.cur++[(s.top,(s.aV.getD i oo).2.1)]).map (·.1)=_;simp[dL]
   rw[e];simp[h]
theorem cK.len{s:HS}{l:aj}{s':HS}{l':aj}(h:cK s l s' l'):l'.length=l.length:=by
 induction h with
 | nil=>rfl
 | snoc h g ih=>simp[ih]
theorem cK.place{s:HS}{l:aj}{s':HS}{l':aj}(h:cK s l s' l'){x:Nat}(hx:Place s x):Place s' x:=by
 induction h with
 | nil=>exact hx
 | snoc h g ih=>exact g.place ih
theorem cK.cur{s:HS}{l:aj}{s':HS}{l':aj}(h:cK s l s' l'){i a:Nat}{o:Ob}(c:aY s i a o):aY s' i a o:=by
 induction h with
 | nil=>exact c
 | snoc h g ih=>exact g.cur ih
theorem Goes.same{s s':HS}{p q:Nat}(g:Goes s p s' q):s'.n=s.n/\s'.u=s.u/\s'.mv=s.mv/\s'.scan=s.scan/\s'.ser=s.ser/\s'.bI=s.bI/\s'.fin=s.fin/\jL s'.aV=jL s.aV:=by
 cases g with
 | stay _=>exact⟨rfl,rfl,rfl,rfl,rfl,rfl,rfl,rfl⟩
 | gone _=>exact⟨rfl,rfl,rfl,rfl,rfl,rfl,rfl,rfl⟩
 | move c=>exact⟨rfl,rfl,rfl,rfl,rfl,rfl,rfl,m_ c⟩
theorem cK.same{s:HS}{l:aj}{s':HS}{l':aj}(h:cK s l s' l'):s'.n=s.n/\s'.u=s.u/\s'.mv=s.mv/\s'.scan=s.scan/\s'.ser=s.ser/\s'.bI=s.bI/\s'.fin=s.fin/\jL s'.aV=jL s.aV:=by
 induction h with
 | nil=>exact⟨rfl,rfl,rfl,rfl,rfl,rfl,rfl,rfl⟩
 | snoc h g ih=>
   obtain⟨a1,a2,a3,a4,a5,a6,a7,a8⟩:=ih;obtain⟨b1,b2,b3,b4,b5,b6,b7,b8⟩:=g.same;exact⟨b1.trans a1,b2.trans a2,b3.trans a3,b4.trans a4,b5.trans a5,b6.trans a6,b7.trans a7,b8.trans a8⟩
theorem Place.le{s:HS}{X:aj}(h:aR s X){p:Nat}(hp:Place s p):p<=131072:=by
 rcases hp with hp|hp|hp
 ·omega
 ·exact h.mh hp
 ·obtain⟨j,u,m,c2⟩:=dB.im hp;have h1:=(h.half.ol.at j c2.lt).2.1;rw[c2.get] at h1;have h1:p+u.took<=s.hZ:=h1;have h2:=h.gh;have h3:=h.sep;have h4:=h.n2;have h5:=h.len;omega
theorem bz.gL{T:Nat->Prop}{w w1 w2:ag}{B B':HB}(h:bz w B w1 B')(f:Fr T w1 w2)(ht:∀k,k<w.heap.size->¬T k):bz w B w2 B':=
 ⟨h.fr.join f (λk hk hT=>absurd hT (ht k (by first|exact hk|omega))),h.new,h.hp⟩
def Jf(w:ag)(B:HB)(s:HS)(v:aA)(l:aj)(k:Nat)(wr:ag):Prop:=
 ∃s' l' B' X',cK s (l.take k) s' l'/\cz wr B' s' X'/\bz w B wr B'/\aI wr 0 v (nI (l'++l.drop k))/\(∀b,ay v b->¬dz B' b/\w.heap.size<=b)/\∀q∈l',cH s' q
theorem Jf.start{w wr:ag}{B:HB}{s:HS}{X:aj}{v:aA}{l:aj}(h:cz wr B s X)(k:bz w B wr B)(hr:aI wr 0 v (nI l))(hn:∀b,ay v b->¬dz B b/\w.heap.size<=b):Jf w B s v l 0 wr:=
 ⟨s,[],B,X,by rw[List.take_zero];exact .nil,h,k,by simpa using hr,hn,λq hq=>by cases hq⟩
theorem Jf.step{w wr w2:ag}{B B' B2:HB}{s s' s2:HS}{X X' X2 l l':aj}{g n c k q:Nat}(hk:k<l.length)(hg:cK s (l.take k) s' l')(hA:cz wr B' s' X')(hK:bz w B wr B')(hr:aI wr 0 (.slice (some ⟨g,0,none⟩) n c) (nI (l'++l.drop k)))
 (hn:∀b,ay (.slice (some ⟨g,0,none⟩) n c) b->¬dz B' b/\w.heap.size<=b) (hq:∀q∈l',cH s' q) (hp:Place s (l.getD k 0)) (g2:Goes s' (l.getD k 0) s2 q) (Hu:cz w2 B2 s2 X2) (Hw:bz wr B' w2 B2) :
 Jf w B s (.slice (some ⟨g,0,none⟩) n c) l (k+1) (w2.setCell ⟨g,k,none⟩ (vI (q:Nat)))/\Own w2 g k (vI (l.getD k 0:Nat)):=by
 have hlen:=hg.len;have qI:l'.length=k:=by rw[hlen,List.length_take];omega
 have gi:ay (.slice (some ⟨g,0,none⟩) n c) g:=rfl;obtain⟨hnB,ic⟩:=hn g gi;have acQ:=(hr.lt gi).2;have Z1:¬dz B2 g:=λe=>(Hw.new g e).elim hnB (λe=>by omega);have rV:=hr.dw Hw.fr (λb hb e=>(hn b hb).1 e);have BW:k<(nI (l'++l.drop k)).length:=by simp;omega
 have fp:=rV.set BW (q:Int);have hf:Fr (λj=>j=g) w2 (w2.setCell ⟨g,k,none⟩ (vI (q:Nat))):=(Fr.refl (λj=>j=g) w2).setCell (p:=⟨g,k,none⟩) (.inl rfl) _
 have e1:(nI (l'++l.drop k)).set k (q:Int)=nI ((l'++[q])++l.drop (k+1)):=by
  rw[List.drop_eq_getElem_cons hk];simp only[nI,List.map_append,List.map_cons];rw[List.set_append_right _ _ (by simp;omega)];have e2:k-(l'.map (λx:Nat=>(x:Int))).length=0:=by simp;omega
  rw[e2,iz,List.append_assoc];rfl
 rw[e1] at fp;have kI:Place s' (l.getD k 0):=hg.place hp;refine⟨⟨s2,l'++[q],B2,X2,?_,Hu.fr hf (λj hj (e:j=g)=>Z1 (e ▸ hj)),(hK.trans Hw).gL hf (λj hj (e:j=g)=>by omega),fp,λb hb=>?_,λx hx=>?_⟩,?_⟩
 ·rw[dR l hk];exact .snoc hg g2
 ·have hb:b=g:=ay.fJ hb;subst hb;exact⟨Z1,ic⟩
 ·rcases cJ.1 hx with hx|hx
  ·exact g2.zY (hq x hx)
  ·have:=gH.1 hx;subst this;exact g2.here hA.rep kI
 ·obtain⟨g',c',hv,_,ho⟩:=rV.get BW;injection hv with rz dK rZ
  have rz:g=g':=by injection rz with h;injection h
  subst rz
  have e3:(nI (l'++l.drop k)).getD k 0=((l.getD k 0:Nat):Int):=by
   rw[List.drop_eq_getElem_cons hk];simp[List.getD,hk,rM,qI]
  rw[e3] at ho;exact ho
end
section
section
variable {w:ag}{B:HB}{s:HS}{X:aj}
theorem Cd(h:cz w B s X)(hm:s.mv=false) :
 aJ prog 164 #[eU B] w λe w'=>e=.returned (.bool false)/\w=w':=by
 have kU:=jK h;rw[hm] at kU;replace kU:=hid kU;clear h hm;go_in;go_wp2_with fail
 refine(kU.out).mono ?_;rintro e w1 ⟨rfl,rfl⟩;go_wp2;go_ret;exact⟨rfl,rfl⟩
theorem Lw(h:cz w B s X)(hs:s.scan=s.top) :
 aJ prog 164 #[eU B] w λe w'=>e=.returned (.bool false)/\Calm w w':=by
 cases hm:s.mv
 ·exact(Cd h hm).mono (λe w' ⟨h1,h2⟩=>⟨h1,h2 ▸ ah⟩)
 have kU:=jK h;rw[hm] at kU;replace kU:=hid kU;have hsc:=hid (px h (S:=true) (by rw[hs];simp));clear h hm hs;go_in;go_wp2_with fail
 refine(kU.out).mono ?_;rintro e w1 ⟨rfl,rfl⟩;go_wp2_with fail
 refine(hsc.out).mono ?_;rintro e w1 ⟨rfl,c1⟩;go_wp2;go_ret;exact⟨rfl,c1⟩
theorem cz.vG{w w':ag}{B:HB}{s:HS}{X:aj}(h:cz w B s X){m:Nat}(f:Fr (λk=>k=B.hp) w w')(hc:af w' B.hp (aN B { s with scan:=m })):cz w' B { s with scan:=m } X/\bz w B w' B:=by
 have nn:=h.none_;refine⟨⟨hc,h.ar.fr f (λe=>h.cT e.symm) (λe=>h.kF e.symm),h.r0.dw f ?_,h.r1.dw f ?_,h.rw.dw f ?_,h.rf.dw f ?_,?_,h.cT,h.kF,h.apart,nn⟩,⟨f.mono (λk _ e=>.inl e),λk h=>.inl h,rfl⟩⟩
 ·rintro k hk e;exact(nn B.v0 (by simp[HB.vs])).1 (e ▸ hk)
 ·rintro k hk e;exact(nn B.v1 (by simp[HB.vs])).1 (e ▸ hk)
 ·rintro k hk e;exact(nn B.vw (by simp[HB.vs])).1 (e ▸ hk)
 ·rintro k hk e;exact(nn B.vf (by simp[HB.vs])).1 (e ▸ hk)
 ·exact⟨h.rep.n1,h.rep.n2,h.rep.len,h.rep.zero,h.rep.half,h.rep.lL,h.rep.room,h.rep.still,h.rep.ser,h.rep.mJ⟩
def JS(w:ag)(B:HB)(s:HS)(k:Nat)(o:Ob)(e:Ending)(w':ag):Prop:=
 e=.returned (.bool true)/\∃s' l',cK s o.aZ s' l'/\(∀q∈l',cH s' q)/\∃B' X',cz w' B' { s'.cV k (o.cD l') with scan:=s.scan+o.took } X'/\bz w B w' B'
theorem Ic(h:cz w B s X)(hm:s.mv=true){k a:Nat}{o:Ob}(c:aY s k a o)(hs:s.scan=a)(hp:∀q∈o.aZ,Place s q) :
 aJ prog 164 #[eU B] w (JS w B s k o):=by
 have kU:=jK h;rw[hm] at kU;replace kU:=hid kU;have kI:=h.rep.place c.lt;rw[c.get] at kI;have iW:=c.at_ h.rep;obtain⟨DE,Tb,QX,Wt⟩:=Ob.bF iW.ok;have mf:=h.rep.gh;have lU:=h.rep.n2;have sS:=h.rep.sep;have hlen:=h.rep.len;have P1:a+o.took<=s.top:=kI.2.2;have hsc:=hid (px h (S:=false) (by simp;omega));have aM:=h.jW;have Ur:a+o.took<=131072:=by omega
 have hcs:=h.cs;have H:=hid h;have y0:=(hcs 0 _ rfl).1;have iL:=(hcs 12 (vI s.scan) rfl).1;rw[hs] at iL;replace iW:=hid iW;replace c:=hid c;replace hp:=hid hp;replace DE:=hid DE;replace hs:=hid hs;replace Ur:=hid Ur;replace aM:=hid aM;clear h hcs kI Tb QX Wt mf lU sS hlen P1;go_in;go_wp2_with fail
 refine(kU.out).mono ?_;rintro e w1 ⟨rfl,rfl⟩;go_wp2_with fail
 refine(hsc.out).mono ?_;rintro e w1 ⟨rfl,c1⟩;replace y0:=c1.cellAt y0 id;replace iL:=c1.cellAt iL id;have gU:=hid (λW (cw:Calm w1 W)=>mW (H.out.ar.calm (c1.trans cw)) iW.out);have Oi:B.hp≠w1.heap.size:=by have:=aM.out;have:=c1.size;omega
 have SK:w1.heap.size≠B.hp:=Ne.symm Oi;have mq:=hid c1.size;go_wp2_with fail
 go_cut [3,4,5] (λs3 s4 s5 wx=>∃g,s3 = bw g/\s4=.bool o.fr/\s5=vI 0/\af wx g [vI o.p,vI o.d,.bool o.wk,.bool o.fn]/\Calm w1 wx/\w1.heap.size<=g)
 case first=>
  go_region_held3 (λw'=>w'.cell? ⟨B.hp,0,none⟩=some (eL B.ap)/\w'.cell? ⟨B.hp,12,none⟩=some (vI a)) (go_keep)
   (first|(go_at_call 165;refine(gU.out _ (by first|exact ah|exact ah.drew|exact(ah.drew).alloc _|exact(ah.alloc _).drew)).mono ?_;rintro e w5 ⟨rfl,c5⟩;have ka:Calm w1 w5:=Fr.trans (by first|exact ah|exact ah.drew|exact(ah.drew).alloc _|exact(ah.alloc _).drew) c5;have q0:=ka.cellAt y0 id;have qK:=ka.cellAt iL id;try (have ow:af w5 w1.heap.size [vI 0,vI 0,.bool false,.bool false]:=(by first|exact(af.at _ [vI 0,vI 0,.bool false,.bool false] 179 w1.heap.size rfl).calm c5|exact((af.at _ [vI 0,vI 0,.bool false,.bool false] 179 w1.heap.size rfl).calm (ah.drew)).calm c5);have m0:=(ow 0 _ rfl).1;have m1:=(ow 1 _ rfl).1;have m2:=(ow 2 _ rfl).1;have m3:=(ow 3 _ rfl).1;have n0:=(ow 0 _ rfl).2;have n1:=(ow 1 _ rfl).2;have n2:=(ow 2 _ rfl).2;have n3:=(ow 3 _ rfl).2)))
  ·go_wp2_with fail
   go_meet;exact⟨w5.heap.size,rfl,rfl,rfl,af.new w5 [vI o.p,vI o.d,.bool o.wk,.bool o.fn] _,ka.alloc _,ka.size⟩
  ·go_wp2_with fail
   go_meet;have o4:=ow.xt (vI o.p) (vI o.d) (.bool o.wk) (.bool o.fn);exact⟨w1.heap.size,rfl,rfl,rfl,o4.1,ka.join o4.2 (λj hj (e:j=w1.heap.size)=>absurd hj (by omega)),aD _⟩
 case rest=>
  obtain⟨g,rfl,rfl,rfl,og,cx,hg⟩:=hcut;replace og:=hid og;replace y0:=cx.cellAt y0 id;replace iL:=cx.cellAt iL id;replace cx:=c1.trans cx;have cM:=hid (λW (cw:Calm wc W)=>Fu (H.out.ar.calm (cx.trans cw)) iW.out);clear c1 gU;go_wp2_with fail
  go_region_held3 (λw'=>w'.cell? ⟨B.hp,0,none⟩=some (eL B.ap)/\w'.cell? ⟨B.hp,12,none⟩=some (vI a)) (go_keep)
   (first|(go_at_call 212;refine(cM.out _ (by first|exact ah|exact ah.drew|exact(ah.drew).alloc _|exact(ah.alloc _).drew)).mono ?_;rintro e w5 ⟨v,rfl,hr,c5⟩;have ka:Calm wc w5:=Fr.trans (by first|exact ah|exact ah.drew|exact(ah.drew).alloc _|exact(ah.alloc _).drew) c5;have q0:=ka.cellAt y0 id;have qK:=ka.cellAt iL id))
  replace ka:=hid ka;have F_:Hid (∀b,ay v b->wc.heap.size<=b):=λb hb=>(hr.lt hb).1;have Ca:aI w5 0 v (nI o.aZ):=hr.mono (bY _);clear cM q0 qK y0 iL hr;obtain⟨N,hN⟩:=ao o.aZ.length;obtain⟨sa,sc,rfl⟩:=Ca.iy (n:=N) (by simp[hN]);have hgB:Hid (¬dz B g):=λe=>by have:=H.out.lt g e;have:=Oi;have:=mq.out;omega
  have Pq:=hid (Jf.start (w:=wc) (H.out.calm (cx.trans ka.out)) (bz.calm B ka.out) Ca (λb hb=>⟨λe=>by have:=H.out.lt b e;have:=F_.out b hb;have:=cx.size;omega,F_.out b hb⟩));have hN8:N<=8:=by have:=Ob.rL iW.out.ok;have:=iW.out.ok.sh.1;omega
  replace hN:=hid hN;replace Ca:=hid Ca;go_wp2_with fail
  go_loopw [52] (λi wr=>∃j:Nat,j<=N/\i=vI j/\Jf wc B s (.slice sa N sc) o.aZ j wr) (λi _=>N-(intOf i).toNat)
  case atStart=>exact⟨0,by omega,rfl,Pq.out⟩
  case round=>
   obtain⟨j,hj,rfl,s',l',B',X',tA,hA,hK,aP,hn,hq⟩:=hrel;rcases fB j N with dO|ic
   ·have wQ:j<o.aZ.length:=by rw[hN.out];exact dO
    have qI:l'.length=j:=by rw[tA.len,List.length_take];omega
    obtain⟨gv,gc,hv,_,qg,_⟩:=aP.get (k:=j) (by simp;omega);injection hv with rz dK rZ
    subst rz;rw[show(nI (l'++o.aZ.drop j)).getD j 0=((o.aZ.getD j 0:Nat):Int) by rw[List.drop_eq_getElem_cons wQ];simp[List.getD,wQ,rM,qI]] at qg;have Vg:=hp.out (o.aZ.getD j 0) (by simp[List.getD,wQ]);have BX:=zD hA ((tA.place Vg).le hA.rep);have YR:eU B'=eU B:=by unfold eU;rw[hK.hp]
    rw[YR] at BX;have cM:=hid (λ(w2:ag) (B2:HB) (s2:HS) (X2:aj) (q:Nat) (g2:Goes s' (o.aZ.getD j 0) s2 q) (Hu:cz w2 B2 s2 X2) (Hw:bz wr B' w2 B2)=>Jf.step (X:=X) wQ tA hA hK aP hn hq Vg g2 Hu Hw);replace BX:=hid BX;clear dK rZ tA hA hK aP hn hq qI YR Vg;generalize o.aZ.getD j 0=x at *;go_wp2_with fail
    refine(BX.out).mono ?_;rintro e w2 ⟨s2,q,g2,rfl,B2,X2,Hu,Hw⟩;have nY:=cM.out _ _ _ _ _ g2 Hu Hw;have z1:=nY.2.1;have z2:=nY.2.2;replace nY:=hid nY.1;clear Hu Hw g2 cM BX;go_wp2
    go_roundw
    case rel=>exact⟨j+1,by omega,by go_num,nY.out⟩
    case measure=>simp[intOf];omega
   ·obtain rfl:j=N:=by omega
    rw[List.take_of_length_le (by rw[hN.out];exact aD _)] at tA;rw[List.drop_of_length_le (by rw[hN.out];exact aD _),List.append_nil] at aP;have qI:=tA.len;have c':=hid (tA.cur c.out);have abi:=hid (c'.out.at_ hA.rep);have Bn:((s'.scan:Nat):Int)=a:=by rw[tA.same.2.2.2.1,hs.out]
    have q0:∀x:a_ wr,x.w.cell? ⟨B.hp,0,none⟩=some (eL B'.ap):=by rw[<-hK.hp];exact hA.rd 0 _ rfl
    have qK:∀x:a_ wr,x.w.cell? ⟨B.hp,12,none⟩=some (vI a):=by rw[<-hK.hp,<-Bn];exact hA.rd 12 _ rfl
    have abx:Hid (g≠B'.ac):=λe=>(hK.new B'.ac (.inr (.inr (.inl rfl)))).elim (λh=>hgB.out (e ▸ h)) (λh=>by have:=(og.out).lt (by simp);omega);have SM:=hid (og.out.fr hK.fr hgB.out);have Z3:Hid (¬ay (.slice sa j sc) B'.ac):=λh=>(hn _ h).1 (.inr (.inr (.inl rfl)));have tz:Hid (∀x∈l',x<=131072):=λx hx=>Place.le hA.rep ((hq x hx).imp id .inl);have rU:=hK.hp;have hKw:=hid ((bz.calm B cx).trans hK);replace tA:=hid tA;replace hA:=hid hA;replace aP:=hid aP;replace qI:=hid qI;replace rU:=hid rU;replace hq:=hid hq;clear hK hn Pq Bn og;go_wp2_with fail
    refine bB 9 (by kernel_rfl) (by kernel_rfl) ?_;simp only[List.take_succ_cons,List.take_zero,List.drop_succ_cons,List.drop_zero]
    repeat (go_big_quiet_step (fail))
    refine wpQuiet_nil ?_;intro w7 hw';have c7:=a_.out hw';clear hw' q0 qK;go_wp2_with fail
    refine(xu (hA.out.ar.calm c7) abi.out (aP.out.calm c7) Z3.out qI.out tz.out).mono ?_;rintro e w8 ⟨rfl,X8,ar8,Oa,Zf,Sc,f8⟩;have ht:=hid ((hA.out.calm c7).fD c'.out ar8 f8 Oa Zf (o.jN l') Sc);have L9:=(SM.out.calm c7).fr f8 abx.out;obtain⟨m0,n0⟩:=L9 0 _ rfl;obtain⟨m1,n1⟩:=L9 1 _ rfl;obtain⟨m2,n2⟩:=L9 2 _ rfl;obtain⟨m3,n3⟩:=L9 3 _ rfl;have iG:(3:Int)+o.p+o.d=(o.size:Int):=by unfold Ob.size;push_cast;rfl
    have bU:=hid iW.out.ok.sh;have aaf:Hid (3<=o.size/\o.size<=19):=by have:=iW.out.ok.sh;have h1:=this.1;have h2:=this.2.1;show 3<=o.size/\o.size<=19;unfold Ob.size;omega
    clear ar8 Oa Zf Sc f8 L9 SM;go_wp2_with fail
    refine(jY o.p o.d o.wk o.fn bU.out _).mono ?_;rintro e w9 ⟨rfl,c9⟩;rw[iG];clear iG;generalize o.size=sz at *;go_wp2_with fail
    refine(lN sz (by have:=aaf.out.1;omega) (by have:=aaf.out.2;omega) _).mono ?_;rintro e Wv ⟨rfl,Dr⟩;rw[<-DE.out];replace Dr:=c9.trans Dr;have Ub:=hid (ht.out.1.calm Dr);have abC:=hid (ht.out.2.trans (bz.calm B' Dr));have iL:=Ub.out.own (i:=12) (v:=vI (s'.scan:Nat)) rfl;rw[tA.out.same.2.2.2.1,hs.out,rU.out] at iL;have y1:=iL.1;have y2:=iL.2;have hw:IntKind.i64.wrap ((a:Int)+o.took)=(a:Int)+o.took:=IntWalk.i64_in _ (by have:=Ur.out;omega);clear iL c9 ht;go_wp2;go_ret;have oX:Fr (λk=>k=B'.hp) Wv (Wv.setCell ⟨B.hp,12,none⟩ (vI ((a:Int)+o.took))):=(Fr.refl (λk=>k=B'.hp) Wv).setCell (p:=⟨B.hp,12,none⟩) (.inl rU.out.symm) _;have hc:=Ub.out.cs.set 12 (vI ((a:Int)+o.took)) (by simp[aN]);rw[rU.out] at hc
    obtain⟨N8,Eo⟩:=Ub.out.vG (m:=s.scan+o.took) oX (by
     rw[rU.out,hs.out];simp only[aN,jk,iz] at hc;simp only[aN]
     push_cast
     exact hc)
    exact⟨rfl,s',l',tA.out,hq.out,B',X8,N8,((hKw.out.trans (bz.calm B' c7)).trans abC.out).trans Eo⟩
end
end
section
inductive bL (s:HS):aj->aj->aj->Prop
 | nil:bL s [] [] []
 | stay {l st lf:aj} {p:Nat} (h:bL s l st lf) (hp:p∉jL s.aV):bL s (l++[p]) (st++[p]) lf
 | gone {l st lf:aj} {p i t:Nat} {o:Ob} (h:bL s l st lf) (c:dB s i p o (some t)):bL s (l++[p]) (st++[t]) lf
 | left {l st lf:aj} {p i:Nat} {o:Ob} (h:bL s l st lf) (c:dB s i p o none):bL s (l++[p]) st (lf++[p])
theorem bL.len{s:HS}{l st lf:aj}(h:bL s l st lf):st.length+lf.length=l.length:=by
 induction h <;> simp <;> omega
def aa2(w:ag)(s:HS)(l:aj)(va vb:aA)(k:Nat)(wr:ag):Prop:=
 ∃st lf,bL s (l.take k) st lf/\aI wr w.heap.size va (nI st)/\aI wr w.heap.size vb (nI lf)/\Ot va vb/\Calm w wr
def DJ(w:ag)(s:HS)(l:aj)(e:Ending)(w':ag):Prop:=
 ∃va vb st lf,e=.returned (.tuple #[va,vb])/\bL s l st lf/\aI w' w.heap.size va (nI st)/\aI w' w.heap.size vb (nI lf)/\Ot va vb/\Calm w w'
theorem rK{w:ag}{B:HB}{s:HS}{X:aj}(h:cz w B s X){v:aA}{l:aj}(hr:aI w 0 v (nI l))(hl:l.length<=100000)(hp:∀p∈l,p<=131072) :
 aJ prog 241 #[eU B,v] w (DJ w s l):=by
 obtain⟨n,hn⟩:=ao l.length;rw[hn] at hl;obtain⟨sa,sc,rfl⟩:=hr.iy (n:=n) (by simp[hn]);have H:=hid h;have hR:=hid hr;have y0:=(h.cs 0 _ rfl).1;replace hp:=hid hp;replace hn:=hid hn;clear h hr;go_in;go_wp2_with fail
 go_loopw [4,5,12] (λva vb i wr=>∃k:Nat,k<=n/\i=vI k/\aa2 w s l va vb k wr) (λ_ _ i _=>n-(intOf i).toNat)
 case atStart=>exact⟨0,by omega,rfl,[],[],by rw[List.take_zero];exact .nil,aI.nil _ _,aI.nil _ _,(λ_ h=>by cases h),ah⟩
 case round=>
  obtain⟨k,hk,rfl,st,lf,hS,ha,hb,uz,ck⟩:=hrel;rcases fB k n with aM|ic
  ·have ki:k<l.length:=by rw[hn.out];exact aM
   obtain⟨g,gc,hv,_,qg,_⟩:=(hR.out.calm ck).get (k:=k) (by simpa using ki);injection hv with rz dK rZ
   subst rz;rw[show(nI l).getD k 0=((l.getD k 0:Nat):Int) by simp[List.getD,ki]] at qg;have hx:l.getD k 0<=131072:=hp.out _ (by simp[List.getD,ki]);have kK:=dR l ki;have mb:=iB (H.out.calm ck) (l.getD k 0) ⟨by omega,by omega⟩
   have hle:Hid ((nI st).length<=1000000/\(nI lf).length<=1000000):=by
    have:=hS.len;simp only[List.length_take] at this;have:=hn.out;exact⟨by simp;omega,by simp;omega⟩
   obtain⟨aa,an,ac,rfl⟩:=ha.letters;obtain⟨ba,bn,bc,rfl⟩:=hb.letters;have Wz:=ck.cellAt y0 id;have iG:=hid ck.size
   by_cases hm:l.getD k 0∈jL s.aV
   ·rw[decide_eq_true (gV.2 hm)] at mb;obtain⟨i,o,m,c⟩:=dB.im hm
    cases m with
    | some t=>
      have Pw:=hid (kK ▸ hS.gone c:bL s (l.take (k+1)) (st++[t]) lf)
      have ZE:mP X (l.getD k 0) t:=by
       have:=(H.out.rep.half.ol.at i c.lt).2.2.2;rw[c.get] at this;exact this
      have U9:=hid (λW (cw:Calm wr W)=>uU W B.ap B.ac X (H.out.ar.calm (ck.trans cw)) (l.getD k 0) t ZE);replace mb:=hid mb;replace ha:=hid ha;replace hb:=hid hb;replace uz:=hid uz;clear dK rZ ki kK hS c ZE hm;generalize l.getD k 0=x at *;have e2:Hid (nI (st++[t])=nI st++[(t:Int)]):=by show nI (st++[t])=_;simp
      generalize nI st=L at *;go_wp2_with fail
      refine(mb.out).mono ?_;rintro e w2 ⟨rfl,c2⟩;replace Wz:=c2.cellAt Wz id;replace ha:=hid (ha.out.calm c2);replace hb:=hid (hb.out.calm c2);replace iG:=hid (gw iG.out c2.size);go_wp2_with fail
      refine(U9.out _ c2).mono ?_;rintro e w3 ⟨rfl,rfl⟩;go_wp2_with (at_builtin;go_must (refine cU rfl _ _ rfl _ _ L ha.out rfl (t:Int) rfl hle.out.1 iG.out ?_);intro g4 c4 w4 AB zp wN;replace AB:=hid AB;replace zp:=hid zp;replace wN:=hid wN)
      go_roundw
      case rel=>
       refine⟨k+1,by omega,by go_num,_,lf,Pw.out,by rw[e2.out];exact AB.out,hb.out.dw zp.out (λb h1 h2=>uz.out b h2 h1),λb h1 h2=>?_,(ck.trans c2).join zp.out (λj h1 h2=>absurd (ha.out.lt h2).1 (by omega))⟩;have:=ay.fJ h1;subst this;exact wN.out.elim (λh=>uz.out _ h h2) (λh=>by have:=(hb.out.lt h2).2;omega)
      case measure=>simp[intOf];omega
    | none=>
      have Pw:=hid (kK ▸ hS.left c:bL s (l.take (k+1)) st (lf++[l.getD k 0]))
      have iW:At X (l.getD k 0) o:=by
       have:=(H.out.rep.half.ol.at i c.lt).2.2.2;rw[c.get] at this;exact this
      have U9:=hid (λW (cw:Calm wr W)=>uV W B.ap B.ac X (H.out.ar.calm (ck.trans cw)) (l.getD k 0) o iW);replace mb:=hid mb;replace ha:=hid ha;replace hb:=hid hb;replace uz:=hid uz;clear dK rZ ki kK hS c iW hm;generalize l.getD k 0=x at *;have e2:Hid (nI (lf++[x])=nI lf++[(x:Int)]):=by show nI (lf++[x])=_;simp
      generalize nI lf=L at *;go_wp2_with fail
      refine(mb.out).mono ?_;rintro e w2 ⟨rfl,c2⟩;replace Wz:=c2.cellAt Wz id;replace ha:=hid (ha.out.calm c2);replace hb:=hid (hb.out.calm c2);replace iG:=hid (gw iG.out c2.size);go_wp2_with fail
      refine(U9.out _ c2).mono ?_;rintro e w3 ⟨rfl,rfl⟩;go_wp2_with (at_builtin;go_must (refine cU rfl _ _ rfl _ _ L hb.out rfl (x:Int) rfl hle.out.2 iG.out ?_);intro g4 c4 w4 AB zp wN;replace AB:=hid AB;replace zp:=hid zp;replace wN:=hid wN)
      go_roundw
      case rel=>
       refine⟨k+1,by omega,by go_num,st,_,Pw.out,ha.out.dw zp.out (λb h1 h2=>uz.out b h1 h2),by rw[e2.out];exact AB.out,λb h1 h2=>?_,(ck.trans c2).join zp.out (λj h1 h2=>absurd (hb.out.lt h2).1 (by omega))⟩;have:=ay.fJ h2;subst this;exact wN.out.elim (λh=>uz.out _ h1 h) (λh=>by have:=(ha.out.lt h1).2;omega)
      case measure=>simp[intOf];omega
   ·rw[decide_eq_false (λe=>hm (gV.1 e))] at mb;have Pw:=hid (kK ▸ hS.stay hm:bL s (l.take (k+1)) (st++[l.getD k 0]) lf);replace mb:=hid mb;replace ha:=hid ha;replace hb:=hid hb;replace uz:=hid uz;clear dK rZ ki kK hS hm;generalize l.getD k 0=x at *;have e2:Hid (nI (st++[x])=nI st++[(x:Int)]):=by show nI (st++[x])=_;simp
    generalize nI st=L at *;go_wp2_with fail
    refine(mb.out).mono ?_;rintro e w2 ⟨rfl,c2⟩;replace ha:=hid (ha.out.calm c2);replace hb:=hid (hb.out.calm c2);replace iG:=hid (gw iG.out c2.size);go_wp2_with (at_builtin;go_must (refine cU rfl _ _ rfl _ _ L ha.out rfl (x:Int) rfl hle.out.1 iG.out ?_);intro g4 c4 w4 AB zp wN;replace AB:=hid AB;replace zp:=hid zp;replace wN:=hid wN)
    go_roundw
    case rel=>
     refine⟨k+1,by omega,by go_num,_,lf,Pw.out,by rw[e2.out];exact AB.out,hb.out.dw zp.out (λb h1 h2=>uz.out b h2 h1),λb h1 h2=>?_,(ck.trans c2).join zp.out (λj h1 h2=>absurd (ha.out.lt h2).1 (by omega))⟩;have:=ay.fJ h1;subst this;exact wN.out.elim (λh=>uz.out _ h h2) (λh=>by have:=(hb.out.lt h2).2;omega)
    case measure=>simp[intOf];omega
  ·obtain rfl:k=n:=by omega
   rw[List.take_of_length_le (by rw[hn.out];exact aD _)] at hS;obtain⟨aa,an,ac,rfl⟩:=ha.letters;obtain⟨ba,bn,bc,rfl⟩:=hb.letters;replace ha:=hid ha;replace hb:=hid hb;go_wp2
   go_ret2
   exact⟨_,_,st,lf,rfl,hS,ha.out,hb.out,uz,ck⟩
end
section
theorem Jf.Wq{w wr:ag}{B B1:HB}{s:HS}{X:aj}{v:aA}{l:aj}(h:cz wr B1 s X)(k:bz w B wr B1)(hr:aI wr 0 v (nI l))(hn:∀b,ay v b->¬dz B1 b/\w.heap.size<=b):Jf w B s v l 0 wr:=
 ⟨s,[],B1,X,by rw[List.take_zero];exact .nil,h,k,by simpa using hr,hn,λq hq=>by cases hq⟩
theorem bL.mem{s:HS}{l st lf:aj}(h:bL s l st lf):(∀p∈lf,p∈jL s.aV):=by
 induction h with
 | nil=>intro p hp;cases hp
 | stay h hp ih=>exact ih
 | gone h c ih=>exact ih
 | left h c ih=>
   intro p hp;rcases cJ.1 hp with hp|hp
   ·exact ih p hp
   ·have:=gH.1 hp;subst this;exact c.mem
def DH(w:ag)(B:HB)(s:HS)(e:Ending)(w':ag):Prop:=
 ∃st lf s' l' v,bL s s.fin st lf/\cK { s with fin:=st } lf s' l'/\(∀q∈l',cH s' q)/\e=.returned v/\aI w' w.heap.size v (nI l')/\∃B' X',cz w' B' s' X'/\bz w B w' B'/\∀b,ay v b->¬dz B' b
theorem PN{w:ag}{B:HB}{s:HS}{X:aj}(h:cz w B s X)(hm:s.mv=true)(hp:∀p∈s.fin,p<=131072) :
 aJ prog 207 #[eU B] w (DH w B s):=by
 have kU:=jK h;rw[hm] at kU;replace kU:=hid kU;have hse:=hid (rK h h.rf h.rep.mJ.2 hp);have FA:=(h.own (i:=15) (v:=B.vf) rfl).1;have jq:=hid h.rep.mJ.2;have H:=hid h;clear h;go_in;go_wp2_with fail
 refine(kU.out).mono ?_;rintro e w1 ⟨rfl,rfl⟩;go_wp2_with fail
 refine(hse.out).mono ?_;rintro e w2 ⟨va,vb,st,lf,rfl,hS,ha,hb,uz,c2⟩;have Ig:=hS.len;have hlf:lf.length<=100000:=by have:=jq.out;omega
 have cM:st.length<=100000:=by have:=jq.out;omega
 have FB:=(H.out.own (i:=15) (v:=B.vf) rfl).calm c2;have y1:=FB.1;have y2:=FB.2;obtain⟨N,hN⟩:=ao lf.length;obtain⟨sa,sc,rfl⟩:=hb.iy (n:=N) (by simp[hN]);obtain⟨aa,an,ac,rfl⟩:=ha.letters;have Us:∀b,ay (.slice aa an ac) b->w.heap.size<=b:=λb hb=>(ha.lt hb).1;have Ei:∀b,ay (.slice sa N sc) b->w.heap.size<=b:=λb h=>(hb.lt h).1;have aM:=H.out.jW;have oX:Fr (λk=>k=B.hp\/ay B.vf k) w (w2.setCell ⟨B.hp,15,none⟩ (.slice aa an ac)):=(Calm.any c2).setCell (p:=⟨B.hp,15,none⟩) (.inl (.inl rfl)) _;have Eo:=jR w2 (B.hp) 15 (.slice aa an ac);obtain⟨Az,Jk⟩:=H.out.Gz (v:=.slice aa an ac) (l:=st) oX ((H.out.cs.calm c2).set 15 _ (by simp[aN])) ((ha.mono (bY _)).dw Eo (λb h1 (h2:b=B.hp)=>by have:=Us b h1;omega)) (λk hk=>.inr (Us k hk)) cM;have xU:=(hb.mono (bY _)).dw Eo (λb h1 (h2:b=B.hp)=>by have:=Ei b h1;omega)
 have Pq:=hid (Jf.Wq (w:=w) Az Jk xU (λb Eh=>⟨by
  rintro (e|e|e|⟨u,hu,e⟩)
  ·have:=Ei b Eh;have e:b=B.hp:=e;omega
  ·have:=Ei b Eh;have e:b=B.ap:=e;have:=H.out.lt _ (.inr (.inl rfl));omega
  ·have:=Ei b Eh;have e:b=B.ac:=e;have:=H.out.lt _ (.inr (.inr (.inl rfl)));omega
  ·simp only[HB.vs,eH,eS,or_false] at hu;have:=Ei b Eh;rcases hu with rfl|rfl|rfl|rfl
   ·have:=H.out.lt b (.inr (.inr (.inr ⟨B.v0,by simp[HB.vs],e⟩)));omega
   ·have:=H.out.lt b (.inr (.inr (.inr ⟨B.v1,by simp[HB.vs],e⟩)));omega
   ·have:=H.out.lt b (.inr (.inr (.inr ⟨B.vw,by simp[HB.vs],e⟩)));omega
   ·exact uz b e Eh,Ei b Eh⟩))
 have abU:=hid (λp (hp:p∈lf)=>(.inr (.inr (hS.mem p hp)):Place { s with fin:=st } p));replace hN:=hid hN;replace hS:=hid hS;replace hlf:N<=100000:=by rw[<-hN.out];exact hlf
 clear Ig cM FA FB Us Ei aM oX Eo Az Jk xU ha hb uz hse kU hm;go_wp2_with fail
 generalize World.setCell w2 _ _=w3 at *;go_loopw [25] (λi wr=>∃j:Nat,j<=N/\i=vI j/\Jf w B { s with fin:=st } (.slice sa N sc) lf j wr) (λi _=>N-(intOf i).toNat)
 case atStart=>exact⟨0,by omega,rfl,Pq.out⟩
 case round=>
  obtain⟨j,hj,rfl,s',l',B',X',tA,hA,hK,aP,hn,hq⟩:=hrel;rcases fB j N with dO|ic
  ·have wQ:j<lf.length:=by rw[hN.out];exact dO
   have qI:l'.length=j:=by rw[tA.len,List.length_take];omega
   obtain⟨gv,gc,hv,_,qg,_⟩:=aP.get (k:=j) (by simp;omega);injection hv with rz dK rZ
   subst rz;rw[show(nI (l'++lf.drop j)).getD j 0=((lf.getD j 0:Nat):Int) by rw[List.drop_eq_getElem_cons wQ];simp[List.getD,wQ,rM,qI]] at qg;have Vg:=abU.out (lf.getD j 0) (by simp[List.getD,wQ]);have BX:=zD hA ((tA.place Vg).le hA.rep);have YR:eU B'=eU B:=by unfold eU;rw[hK.hp]
   rw[YR] at BX;have cM:=hid (λ(w2:ag) (B2:HB) (s2:HS) (X2:aj) (q:Nat) (g2:Goes s' (lf.getD j 0) s2 q) (Hu:cz w2 B2 s2 X2) (Hw:bz wr B' w2 B2)=>Jf.step (X:=X) wQ tA hA hK aP hn hq Vg g2 Hu Hw);replace BX:=hid BX;clear dK rZ tA hA hK aP hn hq qI YR Vg;generalize lf.getD j 0=x at *;go_wp2_with fail
   refine(BX.out).mono ?_;rintro e w4 ⟨s2,q,g2,rfl,B2,X2,Hu,Hw⟩;have nY:=cM.out _ _ _ _ _ g2 Hu Hw;have z1:=nY.2.1;have z2:=nY.2.2;replace nY:=hid nY.1;clear Hu Hw g2 cM BX;go_wp2
   go_roundw
   case rel=>exact⟨j+1,by omega,by go_num,nY.out⟩
   case measure=>simp[intOf];omega
  ·obtain rfl:j=N:=by omega
   rw[List.take_of_length_le (by rw[hN.out];exact aD _)] at tA;rw[List.drop_of_length_le (by rw[hN.out];exact aD _),List.append_nil] at aP;replace aP:=hid aP;go_wp2;go_ret;exact⟨st,lf,s',l',_,hS.out,tA,hq,rfl,aP.out.base (λb hb=>(hn b hb).2),B',X',hA,hK,λb hb=>(hn b hb).1⟩
end
