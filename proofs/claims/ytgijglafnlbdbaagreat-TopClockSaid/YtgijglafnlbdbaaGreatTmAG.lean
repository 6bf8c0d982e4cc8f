import Derived.Test.YtgijglafnlbdbaaGreatTmAF
set_option linter.all false
set_option maxHeartbeats 4000000
set_option maxRecDepth 8000
namespace Go.Proofs.YtgijglafnlbdbaaGreat
open RowKit Shelf Proofs.Tryz
open Go renaming World->aj,Value->aC,Calls->aL
section
def zW:List (Nat × Ob)->Nat->Option Ob
 | [],_=>none
 | x::l,p=>if p=x.1 then some x.2 else zW l p
def HS.ob(A:HS):Nat->Option Ob:=zW A.cur
def ni(f:Nat->Option Ob)(a:Nat)(g:Ob->Ob):Nat->Option Ob:=λp=>if p=a then (f a).map g else f p
theorem mP{f:Nat->Option Ob}{a:Nat}(g:Ob->Ob)(h:f a=none):ni f a g=f:=by
 funext p;unfold ni;split
 ·rename_i e;rw[e,h];rfl
 ·rfl
theorem j9{f:Nat->Option Ob}{a:Nat}(g:Ob->Ob){o:Ob}(h:f a=some o):ni f a g=λp=>if p=a then some (g o) else f p:=by
 funext p;unfold ni;rw[h];rfl
theorem uI:∀ {l:List (Nat × Ob)} {a:Nat},a∉gV l->zW l a=none
 | [],_,_=>rfl
 | x::l,a,h=>by
   have h:a∉x.1::gV l:=h;unfold zW;rw[if_neg (λe:a=x.1=>h (by rw[e];exact .head _)),uI (λe=>h (.tail _ e))]
theorem zj:∀ {l:List (Nat × Ob)} {a:Nat} {o:Ob},zW l a=some o->(a,o)∈l
 | [],_,_,h=>by cases h
 | x::l,a,o,h=>by
   unfold zW at h;split at h
   ·rename_i e;injection h with h;subst h;subst e;exact .head _
   ·exact .tail _ (zj h)
def PH(l:List (Nat × Ob)):Prop:=∀i j,i<l.length->j<l.length->(l.getD i qz).1=(l.getD j qz).1->i=j
theorem dF.dis{s:HS}{X:aE}(h:dF s X):PH s.cur:=λi j hi hj e=>by
 have r:=BW h;have g:∀k,k<s.cur.length->(nI (gV s.cur)).getD k 0=((s.cur.getD k qz).1:Nat):=λk hk=>by simp[List.getD,hk]
 rcases Nat.lt_trichotomy i j with h1|h1|h1
 ·have:=r i j h1 (by simpa using hj);rw[g i hi,g j hj,e] at this;omega
 ·exact h1
 ·have:=r j i h1 (by simpa using hi);rw[g i hi,g j hj,e] at this;omega
theorem PH.tail{x:Nat × Ob}{l:List (Nat × Ob)}(h:PH (x::l)):PH l:=λi j hi hj e=>by
 have:=h (i+1) (j+1) (by simpa using hi) (by simpa using hj) e;omega
theorem PH.ne{x:Nat × Ob}{l:List (Nat × Ob)}(h:PH (x::l)){i:Nat}(hi:i<l.length):(l.getD i qz).1≠x.1:=λe=>by
 have:=h (i+1) 0 (by simpa using hi) (by simp) e;omega
theorem Kz:∀ {l:List (Nat × Ob)} {i a:Nat} {o:Ob},PH l->i<l.length->l.getD i qz=(a,o)->zW l a=some o
 | [],_,_,_,_,h,_=>by simp at h
 | x::l,0,a,o,_,_,e=>by
   have e:x=(a,o):=e;subst e;exact if_pos rfl
 | x::l,i+1,a,o,d,h,e=>by
   have hi:i<l.length:=by simpa using h
   have e:l.getD i qz=(a,o):=e;have:=d.ne hi;rw[e] at this;unfold zW;rw[if_neg this];exact Kz d.tail hi e
theorem Fj:∀ {l:List (Nat × Ob)} {i a:Nat} {o:Ob} (o':Ob),PH l->i<l.length->l.getD i qz=(a,o)->zW (l.set i (a,o'))=λp=>if p=a then some o' else zW l p
 | [],_,_,_,_,_,h,_=>by simp at h
 | x::l,0,a,o,o',_,_,e=>by
   have e:x=(a,o):=e;subst e;funext p;show(if p=a then some o' else zW l p)=_
   by_cases e:p=a
   ·rw[if_pos e,if_pos e]
   ·rw[if_neg e,if_neg e];unfold zW;rw[if_neg e];cases l <;> rfl
 | x::l,i+1,a,o,o',d,h,e=>by
   have hi:i<l.length:=by simpa using h
   have e:l.getD i qz=(a,o):=e;have hn:=d.ne hi;rw[e] at hn;have hn:a≠x.1:=hn;funext p;show(if p=x.1 then some x.2 else zW (l.set i (a,o')) p)=if p=a then some o' else (if p=x.1 then some x.2 else zW l p)
   rw[Fj o' d.tail hi e]
   by_cases e1:p=x.1
   ·rw[if_pos e1,if_neg (λe:p=a=>hn (e.symm.trans e1)),if_pos e1]
   ·rw[if_neg e1,if_neg e1]
theorem BA:∀ {l:List (Nat × Ob)} {a:Nat} (o:Ob),a∉gV l->zW (l++[(a,o)])=λp=>if p=a then some o else zW l p
 | [],_,_,_=>rfl
 | x::l,a,o,h=>by
   have h:a∉x.1::gV l:=h;funext p;show(if p=x.1 then some x.2 else zW (l++[(a,o)]) p)=if p=a then some o else (if p=x.1 then some x.2 else zW l p)
   rw[BA o (λe=>h (.tail _ e))]
   by_cases e:p=x.1
   ·rw[if_pos e,if_neg (λe2=>h (by rw[<-e2,e];exact .head _)),if_pos e]
   ·rw[if_neg e,if_neg e]
structure HE(A:HS):Prop where
 mv:A.mv=false
 ps:∀a o,A.ob a=some o->∀q∈o.ps,q=0\/q∈gV A.cur
 fw:A.gh.length<=A.ser/\A.fin.length<=A.ser
def Ei(w:aj)(B:HB)(w':aj)(A':HS):Prop:=∃B' X',dB w' B' A' X'/\dO w B w' B'/\HE A'
def pK(x:Int):Prop:=x=0\/x=70\/x=71
theorem dz.ob{A:HS}{X:aE}(h:dF A X){i a:Nat}{o:Ob}(c:dz A i a o):A.ob a=some o:=Kz h.dis c.lt c.get
theorem fx{A:HS}{X:aE}(h:dF A X)(a:Nat):(∃i o,dz A i a o/\A.ob a=some o)\/(a∉gV A.cur/\A.ob a=none):=by
 by_cases hm:a∈gV A.cur
 ·obtain⟨i,o,c⟩:=dz.zm hm;exact .inl ⟨i,o,c,c.ob h⟩
 ·exact .inr ⟨hm,uI hm⟩
theorem Tt{A:HS}{X:aE}(h:dF A X){a:Nat}(hm:a∈gV A.cur):∃o,A.ob a=some o:=by
 obtain⟨i,o,c⟩:=dz.zm hm;exact⟨o,c.ob h⟩
theorem uJ{A:HS}{X:aE}(h:dF A X){i a:Nat}{o:Ob}(c:dz A i a o)(g:Ob->Ob):(A.nT i (g o)).ob=ni A.ob a g:=by
 rw[j9 g (c.ob h)]
 have e:(A.nT i (g o)).cur=A.cur.set i (a,g o):=by
  unfold HS.nT;have:=c.get;simp only[qz] at this;rw[this]
 unfold HS.ob;rw[e];exact Fj _ h.dis c.lt c.get
theorem Py{A:HS}{i a:Nat}{o:Ob}(c:dz A i a o)(o':Ob):gV (A.nT i o').cur=gV A.cur:=by
 have e:(A.nT i o').cur=A.cur.set i (a,o'):=by
  unfold HS.nT;have:=c.get;simp only[qz] at this;rw[this]
 rw[e];unfold gV;rw[List.map_set];show(A.cur.map (·.1)).set i a=_;apply List.ext_getElem (by simp);intro j h1 h2;rw[List.getElem_set];split
 ·rename_i ej;subst ej;have:=c.get;rw[List.getElem_map];have hl:=c.lt;simp[List.getD,hl] at this;rw[this]
 ·rfl
theorem HE.nT{A:HS}{X:aE}(h:HE A)(hr:dF A X){i a:Nat}{o:Ob}(c:dz A i a o)(g:Ob->Ob)(hp:∀q∈(g o).ps,q∈o.ps\/q=0\/q∈gV A.cur):HE (A.nT i (g o)):=by
 refine⟨h.mv,λb u hu q hq=>?_,h.fw⟩;rw[Py c];rw[uJ hr c g,j9 g (c.ob hr)] at hu;have hu:(if b=a then some (g o) else A.ob b)=some u:=hu;split at hu
 ·injection hu with hu;subst hu
  rcases hp q hq with e|e
  ·exact h.ps a o (c.ob hr) q e
  ·exact e
 ·exact h.ps b u hu q hq
theorem jd{a:Nat}{l:aE}(h:a∉l):((a:Nat):Int)∉nI l:=λe=>h (y_.1 e)
theorem uA{a:Nat}(h:a<=131072):cL (a:Nat):=⟨by omega,by omega⟩
def okF(k:Int)(p:Nat):Bool:=decide (0<=k/\k<p)
theorem RO(k:Int)(p:Nat):Has (okF k p) k p:=by
 unfold okF;rcases(by omega:(0<=k/\k<p)\/k<0\/(p:Int)<=k) with h|h|h
 ·rw[decide_eq_true h];exact .lt h.1 h.2
 ·rw[decide_eq_false (by omega)];exact .neg h
 ·rw[decide_eq_false (by omega)];exact .ge h
section
variable {w:aj}{B:HB}{A:HS}{X:aE}
theorem Ei.calm{w':aj}(h:dB w B A X)(he:HE A)(c:Calm w w'):Ei w B w' A:=⟨B,X,h.calm c,dO.calm B c,he⟩
theorem Dn(h:dB w B A X){a:Int}(ha:cL a)(hm:a∉nI (gV A.cur)) :
 aL prog 178 #[jq B,vI a] w λe w'=>e=.returned (.tuple #[wV 0,vI 70])/\Calm w w':=by
 have hh:=af (gG h ha hm);clear h;go_in;go_wp2_with fail
 refine(hh.out).mono ?_;rintro e w1 ⟨rfl,c1⟩;go_wp2
 go_ret2
 exact⟨rfl,c1⟩
theorem Bi(h:dB w B A X){i a:Nat}{o:Ob}(c:dz A i a o) :
 aL prog 178 #[jq B,vI a] w λe w'=>e=.returned (.tuple #[wV o.snd,vI 0])/\Calm w w':=by
 have hh:=af (dY h c.mem (c.le h.rep));have y0:=(h.own (i:=0) (v:=gP B.ap) rfl).1;have ha:=af (c.at_ h.rep);have H:=af h;clear h;go_in;go_wp2_with fail
 refine(hh.out).mono ?_;rintro e w1 ⟨rfl,c1⟩;replace y0:=c1.cellAt y0 id;replace H:=af (H.out.calm c1);go_wp2_with fail
 refine(FX H.out.ar ha.out).mono ?_;rintro e w2 ⟨rfl,c2⟩;go_wp2
 go_ret2
 exact⟨rfl,c1.trans c2⟩
def HS.sn(A:HS)(a:Nat):Nat:=match A.ob a with|some o=>o.snd|none=>0
def sr(A:HS)(a:Nat):Nat:=match A.ob a with|some o=>o.ser|none=>0
theorem rQ(h:dB w B A X){a:Nat}(ha:a<=131072) :
 aL prog 178 #[jq B,vI a] w λe w'=>(∃x:Int,e=.returned (.tuple #[wV (A.sn a),vI x]))/\Calm w w':=by
 unfold HS.sn;rcases fx h.rep a with ⟨i,o,c,e⟩|⟨hm,e⟩ <;> rw[e]
 ·exact(Bi h c).mono (λe w' ⟨h1,h2⟩=>⟨⟨0,h1⟩,h2⟩)
 ·exact(Dn h (uA ha) (jd hm)).mono (λe w' ⟨h1,h2⟩=>⟨⟨70,h1⟩,h2⟩)
theorem Bk(h:dB w B A X){a:Nat}(ha:a<=131072) :
 aL prog 61 #[jq B,vI a] w λe w'=>(∃x:Int,e=.returned (.tuple #[vI (sr A a:Nat),vI x]))/\Calm w w':=by
 unfold sr;rcases fx h.rep a with ⟨i,o,c,e⟩|⟨hm,e⟩ <;> rw[e]
 ·exact(Bl h c).mono (λe w' ⟨h1,h2⟩=>⟨⟨0,h1⟩,h2⟩)
 ·exact(Dp h (uA ha) (jd hm)).mono (λe w' ⟨h1,h2⟩=>⟨⟨70,h1⟩,h2⟩)
theorem Du(h:dB w B A X){a:Nat}(ha:a<=131072) :
 aL prog 99 #[jq B,vI a] w λe w'=>Calm w w'/\((A.ob a=none/\e=.returned (.tuple #[lV 0 0 false false,.bool false,vI 70]))\/∃o,A.ob a=some o/\e=.returned (.tuple #[lV o.p o.d o.wk o.fn,.bool o.fr,vI 0])):=by
 rcases fx h.rep a with ⟨i,o,c,e⟩|⟨hm,e⟩
 ·exact(Dv h c).mono (λe2 w' ⟨h1,h2⟩=>⟨h2,.inr ⟨o,e,h1⟩⟩)
 ·exact(Gy h (uA ha) (jd hm)).mono (λe2 w' ⟨h1,h2⟩=>⟨h2,.inl ⟨e,h1⟩⟩)
structure HK(A A':HS):Prop where
 n:A'.n=A.n
 ser:A'.ser=A.ser
theorem vQ(h:dB w B A X)(he:HE A){a:Nat}(ha:a<=131072)(fr:Bool) :
 aL prog 149 #[jq B,vI a,.bool fr] w λe w'=>∃ (x:Int) (A':HS),e=.returned (vI x)/\pK x/\(A.ob a≠none->x=0)/\Ei w B w' A'/\HK A A'/\A'.ob=ni A.ob a λo=>{ o with fr:=fr }:=by
 rcases fx h.rep a with ⟨i,o,c,eo⟩|⟨hm,eo⟩
 ·refine(vR h c fr).mono (λe w' ⟨h1,X',h2,h3⟩=>?_);exact⟨0,_,h1,.inl rfl,λ_=>rfl,⟨B,X',h2,h3,he.nT h.rep c (λo=>{ o with fr:=fr }) (λq hq=>.inl hq)⟩,⟨rfl,rfl⟩,uJ h.rep c (λo=>{ o with fr:=fr })⟩
 ·exact(yQ h (uA ha) (jd hm) fr).mono (λe w' ⟨h1,h2⟩=>⟨70,A,h1,.inr (.inl rfl),λe=>absurd eo e,Ei.calm h he h2,⟨rfl,rfl⟩,(mP _ eo).symm⟩)
theorem mq(h:dB w B A X)(he:HE A){a:Nat}(ha:a<=131072)(v:Nat) :
 aL prog 182 #[jq B,vI a,wV v] w λe w'=>∃ (x:Int) (A':HS),e=.returned (vI x)/\pK x/\Ei w B w' A'/\HK A A'/\A'.ob=ni A.ob a λo=>{ o with snd:=v }:=by
 rcases fx h.rep a with ⟨i,o,c,eo⟩|⟨hm,eo⟩
 ·refine(uz h c v).mono (λe w' ⟨h1,X',h2,h3⟩=>?_);exact⟨0,_,h1,.inl rfl,⟨B,X',h2,h3,he.nT h.rep c (λo=>{ o with snd:=v }) (λq hq=>.inl hq)⟩,⟨rfl,rfl⟩,uJ h.rep c (λo=>{ o with snd:=v })⟩
 ·exact(vS h (uA ha) (jd hm) v).mono (λe w' ⟨h1,h2⟩=>⟨70,A,h1,.inr (.inl rfl),Ei.calm h he h2,⟨rfl,rfl⟩,(mP _ eo).symm⟩)
theorem JJ(h:dB w B A X){a:Nat}(ha:a<=131072)(k:Int) :
 aL prog 143 #[jq B,vI a,vI k] w λe w'=>∃v x:Int,e=.returned (.tuple #[vI v,vI x])/\cL v/\pK x/\Calm w w'/\∀o,A.ob a=some o->v=(bif okF k o.d then zt (o.ns.getD k.toNat 0) else 0)/\x=bif okF k o.d then 0 else 71:=by
 rcases fx h.rep a with ⟨i,o,c,eo⟩|⟨hm,eo⟩
 ·have hb:=RO k o.d;refine(N3 h c hb).mono (λe w' ⟨h1,h2⟩=>⟨_,_,h1,?_,?_,h2,λu hu=>?_⟩)
  ·cases hf:okF k o.d
   ·show cL 0;exact⟨by decide,by decide⟩
   ·have df:o.Ok:=(h.rep.IX (zj eo)).1;have hk:0<=k/\k<o.d:=by simpa[okF] using hf
    exact YJ (df.ns _ (AD 0 (by rw[df.ln];omega)))
  ·cases okF k o.d
   ·exact .inr (.inr rfl)
   ·exact .inl rfl
  ·rw[eo] at hu;injection hu with hu;subst hu;exact⟨rfl,rfl⟩
 ·exact(N4 h (uA ha) (jd hm) k).mono (λe w' ⟨h1,h2⟩=>⟨0,70,h1,⟨by decide,by decide⟩,.inr (.inl rfl),h2,λu hu=>by rw[eo] at hu;cases hu⟩)
theorem Bm(h:dB w B A X)(he:HE A){a:Nat}(ha:a<=131072)(k v:Int)(hv:cL v) :
 aL prog 145 #[jq B,vI a,vI k,vI v] w λe w'=>∃ (x:Int) (A':HS),e=.returned (vI x)/\pK x/\(∀o,A.ob a=some o->okF k o.d=true->x=0)/\Ei w B w' A'/\HK A A'/\A'.ob=ni A.ob a λo=>o.oU (okF k o.d) k v:=by
 rcases fx h.rep a with ⟨i,o,c,eo⟩|⟨hm,eo⟩
 ·have hb:=RO k o.d;refine(Dq h c hb hv).mono (λe w' ⟨h1,X',h2,h3⟩=>?_);have hp:(o.oU (okF k o.d) k v).ps=o.ps:=by unfold Ob.oU;cases okF k o.d <;> rfl
  refine⟨_,_,h1,?_,λu hu hf=>?_,⟨B,X',h2,h3,he.nT h.rep c (λo=>o.oU (okF k o.d) k v) (λq hq=>.inl (by rw[hp] at hq;exact hq))⟩,⟨rfl,rfl⟩,uJ h.rep c (λo=>o.oU (okF k o.d) k v)⟩
  ·cases okF k o.d
   ·exact .inr (.inr rfl)
   ·exact .inl rfl
  ·rw[eo] at hu;injection hu with hu;subst hu;rw[hf];rfl
 ·exact(Dr h (uA ha) (jd hm) k v).mono (λe w' ⟨h1,h2⟩=>⟨70,A,h1,.inr (.inl rfl),λu hu=>(by rw[eo] at hu;cases hu),Ei.calm h he h2,⟨rfl,rfl⟩,(mP _ eo).symm⟩)
theorem Bo(h:dB w B A X){i a:Nat}{o:Ob}(c:dz A i a o){v:Nat}(h0:v≠0)(hv:v<=131072)(hm:v∉gV A.cur)(k:Int) :
 aL prog 133 #[jq B,vI a,vI k,vI v] w λe w'=>e=.returned (vI 70)/\Calm w w':=by
 have hh:=af (dY h c.mem (c.le h.rep));have hn:=af (λW (cw:Calm w W)=>gG (h.calm cw) (uA hv) (jd hm));have b0:(((v:Nat):Int) != 0)=true:=by simp;omega
 clear h;go_in;go_wp2_with fail
 refine(hh.out).mono ?_;rintro e w1 ⟨rfl,c1⟩;go_wp2_with fail
 refine(hn.out _ c1).mono ?_;rintro e w2 ⟨rfl,c2⟩;go_wp2;go_ret;exact⟨rfl,c1.trans c2⟩
def Lo(f:Nat->Option Ob)(a:Nat)(k:Int)(v:Nat):Nat->Option Ob:=if v=0\/f v≠none then ni f a λo=>o.np (okF k o.p) k v else f
theorem Bn(h:dB w B A X)(he:HE A){a v:Nat}(ha:a<=131072)(hv:v<=131072)(k:Int) :
 aL prog 133 #[jq B,vI a,vI k,vI v] w λe w'=>∃ (x:Int) (A':HS),e=.returned (vI x)/\pK x/\(∀o,A.ob a=some o->okF k o.p=true->(v=0\/A.ob v≠none)->x=0)/\Ei w B w' A'/\HK A A'/\A'.ob=Lo A.ob a k v:=by
 have pD:(v=0\/A.ob v≠none)↔(v=0\/v∈gV A.cur):=by
  refine or_congr Iff.rfl ⟨λe=>?_,λe=>?_⟩
  ·rcases fx h.rep v with ⟨_,_,c,_⟩|⟨_,e2⟩
   ·exact c.mem
   ·exact absurd e2 e
  ·obtain⟨o,ho⟩:=Tt h.rep e;rw[ho];intro e;cases e
 unfold Lo;rcases fx h.rep a with ⟨i,o,c,eo⟩|⟨hm,eo⟩
 ·by_cases hp:v=0\/v∈gV A.cur
  ·have hb:=RO k o.p;rw[if_pos (pD.2 hp)];refine(Ds h c hb hp hv).mono (λe w' ⟨h1,X',h2,h3⟩=>?_);refine⟨_,_,h1,?_,λu hu hf _=>?_,⟨B,X',h2,h3,he.nT h.rep c (λo=>o.np (okF k o.p) k v) (λq hq=>?_)⟩,⟨rfl,rfl⟩,uJ h.rep c (λo=>o.np (okF k o.p) k v)⟩
   ·cases okF k o.p
    ·exact .inr (.inr rfl)
    ·exact .inl rfl
   ·rw[eo] at hu;injection hu with hu;subst hu;rw[hf];rfl
   ·have hq:q∈(o.np (okF k o.p) k v).ps:=hq;cases hf:okF k o.p
    ·rw[hf] at hq;exact .inl hq
    ·rw[hf] at hq;have hq:q∈o.ps.set k.toNat v:=hq;rcases List.mem_or_eq_of_mem_set hq with h4|h4
     ·exact .inl h4
     ·exact .inr (h4 ▸ hp)
  ·rw[if_neg (λe=>hp (pD.1 e))];exact(Bo h c (λe=>hp (.inl e)) hv (λe=>hp (.inr e)) k).mono (λe w' ⟨h1,h2⟩=>⟨70,A,h1,.inr (.inl rfl),λ_ _ _ e=>absurd (pD.1 e) hp,Ei.calm h he h2,⟨rfl,rfl⟩,rfl⟩)
 ·refine(Dt h (uA ha) (jd hm) k v).mono (λe w' ⟨h1,h2⟩=>⟨70,A,h1,.inr (.inl rfl),λu hu=>(by rw[eo] at hu;cases hu),Ei.calm h he h2,⟨rfl,rfl⟩,?_⟩);split
  ·exact(mP _ eo).symm
  ·rfl
theorem Dk(h:dB w B A X)(hm:A.mv=false){i a:Nat}{o:Ob}(c:dz A i a o){k:Nat}(hk:k<o.p)(UF:o.ps.getD k 0<=131072) :
 aL prog 135 #[jq B,vI a,vI k] w λe w'=>e=.returned (.tuple #[vI (o.ps.getD k 0:Nat),vI 0])/\Calm w w':=by
 have hh:=af (dY h c.mem (c.le h.rep));have y0:=(h.own (i:=0) (v:=gP B.ap) rfl).1;have ha:=af (c.at_ h.rep);have H:=af h;have hks:=af hk;obtain⟨q,hqe⟩:=au (o.ps.getD k 0);rw[hqe] at UF;have sJ:=af (λW (cw:Calm w W)=>(LM (H.out.calm cw) q ⟨by omega,by omega⟩).mono (λe w' (h2:e=_/\_)=>(⟨by rw[h2.1,h.rep.still hm];rfl,h2.2⟩:e=.returned (.bool false)/\Calm W w')));replace UF:=af UF;clear h hk;go_in;go_wp2_with fail
 refine(hh.out).mono ?_;rintro e w1 ⟨rfl,c1⟩;replace y0:=c1.cellAt y0 id;have ar1:=af (H.out.ar.calm c1);go_wp2_with fail
 refine(x_ ar1.out ha.out hks.out).mono ?_;rintro e w2 ⟨rfl,c2⟩;rw[hqe];replace c2:=c1.trans c2;clear c1 ar1;go_wp2_with fail
 refine(sJ.out _ c2).mono ?_;rintro e w3 ⟨rfl,c3⟩;replace c3:=c2.trans c3;go_wp2
 go_ret2
 exact⟨by rw[hqe];rfl,c3⟩
theorem JP(h:dB w B A X)(he:HE A){a:Nat}(ha:a<=131072)(k:Int) :
 aL prog 135 #[jq B,vI a,vI k] w λe w'=>∃ (q:Nat) (x:Int),e=.returned (.tuple #[vI (q:Nat),vI x])/\pK x/\q<=131072/\Calm w w'/\∀o,A.ob a=some o->q=(bif okF k o.p then o.ps.getD k.toNat 0 else 0)/\x=bif okF k o.p then 0 else 71:=by
 rcases fx h.rep a with ⟨i,o,c,eo⟩|⟨hm,eo⟩
 ·by_cases hk:0<=k/\k<o.p
  ·obtain⟨K,rfl⟩:=Int.eq_ofNat_of_zero_le hk.1;have df:o.Ok:=(h.rep.IX (zj eo)).1;have UF:o.ps.getD K 0<=131072:=df.ps _ (AD 0 (by rw[df.lp];omega));refine(Dk h he.mv c (by omega) UF).mono (λe w' ⟨h1,h2⟩=>⟨_,0,h1,.inl rfl,UF,h2,λu hu=>?_⟩);rw[eo] at hu;injection hu with hu;subst hu
   rw[show okF (K:Int) o.p=true from decide_eq_true hk];exact⟨rfl,rfl⟩
  ·refine(Dj h c (by omega)).mono (λe w' ⟨h1,h2⟩=>⟨0,71,h1,.inr (.inr rfl),by omega,h2,λu hu=>?_⟩);rw[eo] at hu;injection hu with hu;subst hu
   rw[show okF k o.p=false from decide_eq_false hk];exact⟨rfl,rfl⟩
 ·exact(N7 h (uA ha) (jd hm) k).mono (λe w' ⟨h1,h2⟩=>⟨0,70,h1,.inr (.inl rfl),by omega,h2,λu hu=>by rw[eo] at hu;cases hu⟩)
theorem AX(h:dB w B A X){a:Nat}(ha:a<=131072):aL prog 88 #[jq B,vI a] w λe w'=>∃b:Bool,e=.returned (.bool b)/\(b=true↔A.ob a≠none)/\Calm w w':=by
 rcases fx h.rep a with ⟨i,o,c,eo⟩|⟨hm,eo⟩
 ·exact(dY h c.mem ha).mono (λe w' ⟨h1,h2⟩=>⟨true,h1,⟨λ_=>(by rw[eo];intro e;cases e),λ_=>rfl⟩,h2⟩)
 ·exact(gG h (uA ha) (jd hm)).mono (λe w' ⟨h1,h2⟩=>⟨false,h1,⟨λe=>(by cases e),λe=>absurd eo e⟩,h2⟩)
theorem CZ(h:dB w B A X)(he:HE A){p d:Nat}{wk fn:Bool}(df:sK p d wk fn)(hs:A.ser<100000) :
 aL prog 183 #[jq B,lV p d wk fn] w λe w'=>
  (∃ (a:Nat) (A':HS),e=.returned (.tuple #[vI (a:Nat),vI 0])/\a<=131072/\1<=a/\A.ob a=none/\Ei w B w' A'/\A'.n=A.n/\A'.ser=A.ser+1/\A'.ob=λq=>if q=a then some (Ob.new p d wk fn (A.ser+1)) else A.ob q)\/(e=.returned (.tuple #[vI 0,vI 100])/\Calm w w'):=by
 rcases Int.lt_or_le A.room (qp ((3+p+d:Nat):Int)) with hr|hr
 ·exact(Gl h df hr).mono (λe w' ⟨h1,h2⟩=>.inr ⟨h1,h2⟩)
 ·have hf:=he.fw;refine(C0 h df hr (by omega) ⟨by omega,by omega⟩).mono (λe w' ⟨h1,B',X',h2,h3⟩=>?_);have mi:(A.alloc p d wk fn).cur=A.cur++[(A.top,Ob.new p d wk fn (A.ser+1))]:=rfl
  have hnp:A.top∉gV A.cur:=λhm=>by
   obtain⟨i,o,c⟩:=dz.zm hm;have d:=h2.rep.dis
   have:=d i A.cur.length (by rw[mi];have:=c.lt;simp;omega) (by rw[mi];simp) (by
    rw[mi,qO _ _ _ c.lt,CT,c.get])
   have:=c.lt;omega
  have Qj:(A.alloc p d wk fn).ob=λq=>if q=A.top then some (Ob.new p d wk fn (A.ser+1)) else A.ob q:=by
   unfold HS.ob;rw[mi];exact BA _ hnp
  have vT:A.top∈gV (A.alloc p d wk fn).cur:=by rw[mi];simp[gV]
  have Mm:∀q∈gV A.cur,q∈gV (A.alloc p d wk fn).cur:=λq hq=>by rw[mi];unfold gV;rw[List.map_append];exact List.mem_append_left _ hq
  have pE:1<=A.top:=by
   have:=h.rep.sep.2.2.2.1;unfold HS.top;omega
  refine .inl ⟨A.top,_,h1,h2.rep.Ts vT,pE,uI hnp,⟨B',X',h2,h3,⟨he.mv,λb u hu q hq=>?_,?_⟩⟩,rfl,rfl,Qj⟩
  ·rw[Qj] at hu;have hu:(if b=A.top then some (Ob.new p d wk fn (A.ser+1)) else A.ob b)=some u:=hu;split at hu
   ·injection hu with hu;subst hu
    have hq:q∈List.replicate p 0:=hq;exact .inl (List.eq_of_mem_replicate hq)
   ·exact(he.ps b u hu q hq).imp id (Mm q)
  ·show(bif wk then A.gh++[A.top] else A.gh).length<=A.ser+1/\(bif fn then A.fin++[A.top] else A.fin).length<=A.ser+1;cases wk <;> cases fn <;> simp <;> omega
end
end
section
attribute [local go_sem ↓] Go.wp_at_zero Go.wp_at_succ
def MJ(w:aj)(l:List Int)(a:Int)(e:Ending)(w':aj):Prop:=∃x:Int,e=.returned (vI x)/\((0<=x/\a∈l)\/(x = -1/\a∉l))/\w=w'
theorem G8{w:aj}{v:aC}{l:List Int}(hr:Row w v (lu l))(hn:l.length<=1000000)(a:Int):aL prog 254 #[v,vI a] w (MJ w l a):=by
 obtain⟨va,vc,rfl,HU⟩:=hr.loop;obtain⟨n,hN⟩:=au l.length;rw[hN] at hn;rw[hN];replace hN:=af hN;replace HU:=af HU;clear hr;go_in;go_wp2_with fail
 go_loopw [8] (λi wr=>∃k:Nat,k<=n/\i=vI k/\Hid (∀j,j<k->l.getD j 0≠a)/\wr=w) (λi _=>n-(intOf i).toNat)
 case atStart=>exact⟨0,by omega,rfl,af (λj hj=>absurd hj (by omega)),rfl⟩
 case round=>
  obtain⟨k,hk,rfl,hne,rfl⟩:=hrel;rcases oZ k n with aZ|jL
  ·have g1:(k:Int)<n:=by omega
   have Qe:k<l.length:=by rw[hN.out];exact aZ
   obtain⟨b,off,rfl,sW,hc⟩:=HU.out k Qe;have sG:l.getD k 0∈l:=by simp[List.getD,Qe]
   obtain⟨y,hy⟩:=au (l.getD k 0);rw[hy] at hc sG;replace hy:=af hy;replace sG:=af sG
   by_cases e:a=y
   ·have b1:(a==y)=true:=by simp[e]
    replace e:=af e;go_wp2;go_ret;exact⟨_,rfl,.inl ⟨by omega,by rw[e.out];exact sG.out⟩,rfl⟩
   ·have b1:(a==y)=false:=by simp[e]
    replace e:=af e;go_wp2
    go_roundw
    case rel=>exact⟨k+1,by omega,by go_num,af (λj hj=>by
     rcases oZ j k with h|h
     ·exact hne.out j h
     ·obtain rfl:j=k:=by omega
      rw[hy.out];exact λh2=>e.out h2.symm),by trivial⟩
    case measure=>simp[intOf];omega
  ·obtain rfl:k=n:=by omega
   have g1:¬((k:Int)<k):=by omega
   go_wp2;go_ret;refine⟨_,rfl,.inr ⟨rfl,λhm=>?_⟩,rfl⟩;obtain⟨j,hj,e⟩:=yZ 0 hm;exact hne.out j (by rw[hN.out] at hj;exact hj) e
theorem zA{w:aj}{v:aC}{l:List Int}(hr:Row w v (lu l))(hn:l.length<=1000000)(a:Int):aL prog 231 #[v,vI a] w λe w'=>e=.returned (.bool (decide (a∈l)))/\w=w':=by
 have hi:=af (G8 hr hn a);clear hr;go_in;go_wp2_with fail
 refine(hi.out).mono ?_;rintro e w1 ⟨x,rfl,hx,rfl⟩;rcases hx with ⟨h1,h2⟩|⟨rfl,h2⟩
 ·replace h2:=af h2;go_wp2;go_ret;exact⟨by rw[decide_eq_true h2.out];simp[h1],rfl⟩
 ·replace h2:=af h2;go_wp2;go_ret;exact⟨by rw[decide_eq_false h2.out];rfl,rfl⟩
def je(l:aE)(a:Nat)(aW:Int):aE:=if a∈l\/aW<=l.length then l else l++[a]
def IC(w:aj)(lp i:Nat)(vs:List aC)(v:aC)(l:aE)(a:Nat)(aW:Int)(e:Ending)(w':aj):Prop:=
 ∃v',e=.returned (.bool (decide (a∈l) || decide ((l.length:Int)<aW)))/\ag w' lp (vs.set i v')/\bm w' 0 v' (nI (je l a aW))/\Fr (λk=>k=lp\/aB v k) w w'/\∀k,aB v' k->aB v k\/w.heap.size<=k
theorem Fi{w:aj}{lp i:Nat}{vs:List aC}{v:aC}{l:aE}(h:ag w lp vs)(hv:vs[i]?=some v)(hr:bm w 0 v (nI l))(hn:¬aB v lp)(hl:l.length<=100000)(a:Nat)(aW:Int) :
 aL prog 193 #[.pointer (some ⟨lp,i,none⟩),vI a,vI aW] w (IC w lp i vs v l a aW):=by
 have Zm:i<vs.length:=by rcases oZ i vs.length with h|h;exact h;rw[List.getElem?_eq_none h] at hv;cases hv
 have y0:=(h i v hv).1;have y1:=(h i v hv).2;have hlp:lp<w.heap.size:=lM w _ y0;obtain⟨va,vn,vc,rfl⟩:=hr.letters;have pG:vn=l.length:=by obtain⟨a',c',e⟩:=hr.slice;injection e with _ e2 _;simpa using e2
 have Od:vs.set i (.slice va vn vc)=vs:=by
  apply List.ext_getElem (by simp);intro j h1 h2;rw[List.getElem_set];split
  ·rename_i e;subst e;rw[jI Zm] at hv;exact(Option.some.inj hv).symm
  ·rfl
 have Y3:=af (zA hr.row (by simp;omega) (a:Int))
 have sG:decide ((a:Int)∈nI l)=decide (a∈l):=by
  by_cases hm:a∈l
  ·rw[decide_eq_true hm,decide_eq_true (y_.2 hm)]
  ·rw[decide_eq_false hm,decide_eq_false (λe=>hm (y_.1 e))]
 have Gw:=af hr;have H:=af h;subst pG;replace hn:=af hn;replace Od:=af Od;replace sG:=af sG;replace hv:=af hv;replace Zm:=af Zm;clear h hr;go_in;go_wp2_with fail
 refine(Y3.out).mono ?_;rintro e w1 ⟨rfl,rfl⟩;rw[sG.out]
 by_cases hm:a∈l
 ·rw[decide_eq_true hm];replace hm:=af hm;go_wp2;go_ret;refine⟨_,by rw[decide_eq_true hm.out];rfl,by rw[Od.out];exact H.out,by unfold je;rw[if_pos (.inl hm.out)];exact Gw.out,aq,λk hk=>.inl hk⟩
 ·rw[decide_eq_false hm];replace hm:=af hm;rcases Int.lt_or_le (l.length:Int) aW with aZ|jL
  ·have g1:¬((l.length:Int)>=aW):=by omega
   have OH:lp≠w.heap.size:=by omega
   go_wp2_with (at_builtin;go_must (refine gx rfl _ _ rfl 0 (.slice va l.length vc) (nI l) Gw.out rfl (a:Int) rfl (by simp;omega) (by omega) ?_);intro g gc w3 fu f3 hg;have q0:=f3.cellAt y0 hn.out;have q1:=f3.frozenAt y0 y1 hn.out;have hH:=af (H.out.fr f3 hn.out);replace fu:=af fu;replace f3:=af f3;replace hg:=af hg)
   have f4:Fr (λk=>k=lp\/aB (.slice va l.length vc) k) w (w3.setCell ⟨lp,i,none⟩ (.slice (some ⟨g,0,none⟩) (l.length+1) gc)):=(f3.out.mono (λk _ e=>.inr e)).setCell (p:=⟨lp,i,none⟩) (.inl (.inl rfl)) _
   have R9:g≠lp:=by
    rintro rfl;rcases hg.out with h|h
    ·exact hn.out h
    ·omega
   go_wp2;go_ret;refine⟨.slice (some ⟨g,0,none⟩) (l.length+1) gc,by rw[decide_eq_false hm.out,decide_eq_true aZ];rfl,hH.out.set i _ Zm.out,?_,f4,λk hk=>?_⟩
   ·unfold je;rw[if_neg (λe=>e.elim hm.out (λe=>by omega))];have:=fu.out.iI ((Fr.refl (λb=>b=lp) w3).setCell (p:=⟨lp,i,none⟩) (.inl rfl) (.slice (some ⟨g,0,none⟩) (l.length+1) gc)) (λk hk e=>R9 ((aB.fg hk).symm.trans e));simpa using this
   ·rw[aB.fg hk];exact hg.out
  ·have g1:((l.length:Int)>=aW):=by omega
   go_wp2;go_ret;refine⟨_,by rw[decide_eq_false hm.out,decide_eq_false (by omega)];rfl,by rw[Od.out];exact H.out,by unfold je;rw[if_pos (.inr jL)];exact Gw.out,aq,λk hk=>.inl hk⟩
structure Hd where
 at_:Nat
 bt:Int
structure Ud where
 kind:Int
 at_:Nat
 i:Int
 cC:Int
def Ct(x:Hd):List aC:=[vI x.at_,vI x.bt]
def wC(x:Ud):List aC:=[vI x.kind,vI x.at_,vI x.i,vI x.cC]
structure iB where
 mr:Int
 mu:Int
 vr:aC
 vk:aC
 vh:aC
 vu:aC
 reads:aE
 keeps:aE
 holds:List Hd
 aQ:List Ud
def FQ(v:aC)(l:List Hd):si:=dK 219 2 v l.length (l.flatMap Ct)
def FR(v:aC)(l:List Ud):si:=dK 231 4 v l.length (l.flatMap wC)
structure cG(M:Mem)(g lp:Nat)(L:iB):Prop where
 c:M (g+1)=bD lp (vI L.mr) [vI L.mu,L.vr,L.vk,L.vh,L.vu]
 r:M (g+2)=iL L.vr (nI L.reads)
 k:M (g+3)=iL L.vk (nI L.keeps)
 h:M (g+4)=FQ L.vh L.holds
 u:M (g+5)=FR L.vu L.aQ
theorem cG.only{M M':Mem}{g lp:Nat}{L:iB}{P:Nat->Prop}(h:cG M g lp L)(o:Mem.cM P M M')(hp:∀t,g+1<=t->t<=g+5->¬P t):cG M' g lp L:=
 ⟨(o _ (hp _ (by omega) (by omega))).trans h.c,(o _ (hp _ (by omega) (by omega))).trans h.r,(o _ (hp _ (by omega) (by omega))).trans h.k,(o _ (hp _ (by omega) (by omega))).trans h.h,(o _ (hp _ (by omega) (by omega))).trans h.u⟩
section
variable {w:aj}{τ:Nat->Nat}{M:Mem}{g lp:Nat}{L:iB}
theorem cG.cells(h:bF w τ M)(hl:cG M g lp L):ag w lp [vI L.mr,vI L.mu,L.vr,L.vk,L.vh,L.vu]:=by have:=h.at_ (g+1);rw[hl.c] at this;exact this
theorem cG.Yn(h:bF w τ M)(hl:cG M g lp L):bm w 0 L.vr (nI L.reads):=by have:=h.at_ (g+2);rw[hl.r] at this;exact this
theorem cG.aa_(h:bF w τ M)(hl:cG M g lp L):bm w 0 L.vk (nI L.keeps):=by have:=h.at_ (g+3);rw[hl.k] at this;exact this
theorem cG.Ym(h:bF w τ M)(hl:cG M g lp L):w.ownsRow 0 219 2 L.vh L.holds.length (L.holds.flatMap Ct):=by have:=h.at_ (g+4);rw[hl.h] at this;exact this
theorem cG.Yo(h:bF w τ M)(hl:cG M g lp L):w.ownsRow 0 231 4 L.vu L.aQ.length (L.aQ.flatMap wC):=by have:=h.at_ (g+5);rw[hl.u] at this;exact this
theorem cG.nW(hl:cG M g lp L):(M (g+1)).bU=λk=>k=lp:=by rw[hl.c];rfl
theorem cG.Q6(hl:cG M g lp L):(M (g+2)).bU=aB L.vr:=by rw[hl.r];rfl
theorem cG.Q7(hl:cG M g lp L):(M (g+3)).bU=aB L.vk:=by rw[hl.k];rfl
theorem cG.Q8(hl:cG M g lp L):(M (g+4)).bU=aB L.vh:=by rw[hl.h];rfl
theorem cG.Q9(hl:cG M g lp L):(M (g+5)).bU=aB L.vu:=by rw[hl.u];rfl
def Aa(w:aj)(τ:Nat->Nat)(M:Mem)(g lp:Nat)(L:iB)(a:Nat)(e:Ending)(w':aj):Prop:=
 ∃v' aX M',e=.returned (.bool (decide (a∈L.reads) || decide ((L.reads.length:Int)<L.mr)))/\bF w' aX M' /\
  cG M' g lp { L with vr:=v',reads:=je L.reads a L.mr } /\ Mem.cM (λt=>g+1<=t/\t<=g+5) M M'/\aF w τ w' aX
theorem GK(h:bF w τ M)(hl:cG M g lp L)(hg:g<=400)(mZ:L.reads.length<=100000)(a:Nat) :
 aL prog 192 #[pV lp,vI a] w (Aa w τ M g lp L a):=by
 have hc:=hl.cells h;have y0:=(hc 0 _ rfl).1;have hr:=hl.Yn h;have hn:¬aB L.vr lp:=λe=>h.apart (t:=g+1) (u:=g+2) (by omega) (k:=lp) (by rw[hl.nW]) (by rw[hl.Q6];exact e);have Bb:=af (λW (cw:Calm w W)=>Fi (i:=2) (hc.calm cw) rfl (hr.calm cw) hn mZ a L.mr);have H:=af h;have HL:=af hl;obtain⟨mr,WU⟩:=au L.mr;rw[WU] at y0 Bb;clear h hl hc hr hn;go_in;go_wp2_with fail
 go_region_held3 (λw'=>w'.cell? ⟨lp,0,none⟩=some (vI mr)) (go_keep)
  (first|(go_at_call 193;refine(Bb.out _ (by first|exact aq|exact aq.drew)).mono ?_;rintro e w2 ⟨v',rfl,hC,hR,hF,hN⟩;have ka:Fr (λk=>k=lp\/aB L.vr k) w w2:=Fr.trans (by first|exact aq|exact aq.drew) hF;have q0:w2.cell? ⟨lp,0,none⟩=some (vI mr):=(hC 0 _ rfl).1;replace hC:=af hC;replace hR:=af hR;replace hF:=af hF;replace hN:=af hN;replace ka:=af ka))
 subst WU
 obtain⟨aX,h1,h2⟩:=H.out.DT (t:=g+1) (u:=g+2) (by omega) (a:=bD lp (vI L.mr) [vI L.mu,v',L.vk,L.vh,L.vu]) (b:=iL v' (nI (je L.reads a L.mr))) (by rw[HL.out.nW,HL.out.Q6];exact ka.out) hC.out hR.out (λk hk=>by rw[HL.out.nW];exact hk) (λk hk=>by
  rw[HL.out.Q6];rcases hN.out k hk with e|e
  ·exact .inl e
  ·right;exact e) (by omega) (by omega)
 have hP:Hid (Aa w τ M g lp L a (.returned (.bool (decide (a∈L.reads) || decide ((L.reads.length:Int)<L.mr)))) w2):=by
  refine⟨v',aX,_,rfl,h1,⟨?_,?_,?_,?_,?_⟩,?_,h2⟩
  ·rw[Mem.aA _ _ (by omega),Mem.aP]
  ·rw[Mem.aP]
  ·rw[Mem.aA _ _ (by omega),Mem.aA _ _ (by omega)];exact HL.out.k
  ·rw[Mem.aA _ _ (by omega),Mem.aA _ _ (by omega)];exact HL.out.h
  ·rw[Mem.aA _ _ (by omega),Mem.aA _ _ (by omega)];exact HL.out.u
  ·exact(Mem.cM.put M _ ⟨by omega,by omega⟩).trans (Mem.cM.put _ _ ⟨by omega,by omega⟩)
 clear hC hR hF hN ka h1 h2 Bb;go_wp2;go_ret;exact hP.out
def Ab(w:aj)(τ:Nat->Nat)(M:Mem)(g lp:Nat)(L:iB)(a:Nat)(e:Ending)(w':aj):Prop:=
 ∃v' aX M',e=.returned (.bool (decide (a∈L.keeps) || decide ((L.keeps.length:Int)<L.mr)))/\bF w' aX M' /\
  cG M' g lp { L with vk:=v',keeps:=je L.keeps a L.mr } /\ Mem.cM (λt=>g+1<=t/\t<=g+5) M M'/\aF w τ w' aX
theorem GL(h:bF w τ M)(hl:cG M g lp L)(hg:g<=400)(mZ:L.keeps.length<=100000)(a:Nat) :
 aL prog 138 #[pV lp,vI a] w (Ab w τ M g lp L a):=by
 have hc:=hl.cells h;have y0:=(hc 0 _ rfl).1;have hr:=hl.aa_ h;have hn:¬aB L.vk lp:=λe=>h.apart (t:=g+1) (u:=g+3) (by omega) (k:=lp) (by rw[hl.nW]) (by rw[hl.Q7];exact e);have Bb:=af (λW (cw:Calm w W)=>Fi (i:=3) (hc.calm cw) rfl (hr.calm cw) hn mZ a L.mr);have H:=af h;have HL:=af hl;obtain⟨mr,WU⟩:=au L.mr;rw[WU] at y0 Bb;clear h hl hc hr hn;go_in;go_wp2_with fail
 go_region_held3 (λw'=>w'.cell? ⟨lp,0,none⟩=some (vI mr)) (go_keep)
  (first|(go_at_call 193;refine(Bb.out _ (by first|exact aq|exact aq.drew)).mono ?_;rintro e w2 ⟨v',rfl,hC,hR,hF,hN⟩;have ka:Fr (λk=>k=lp\/aB L.vk k) w w2:=Fr.trans (by first|exact aq|exact aq.drew) hF;have q0:w2.cell? ⟨lp,0,none⟩=some (vI mr):=(hC 0 _ rfl).1;replace hC:=af hC;replace hR:=af hR;replace hF:=af hF;replace hN:=af hN;replace ka:=af ka))
 subst WU
 obtain⟨aX,h1,h2⟩:=H.out.DT (t:=g+1) (u:=g+3) (by omega) (a:=bD lp (vI L.mr) [vI L.mu,L.vr,v',L.vh,L.vu]) (b:=iL v' (nI (je L.keeps a L.mr))) (by rw[HL.out.nW,HL.out.Q7];exact ka.out) hC.out hR.out (λk hk=>by rw[HL.out.nW];exact hk) (λk hk=>by
  rw[HL.out.Q7];rcases hN.out k hk with e|e
  ·exact .inl e
  ·right;exact e) (by omega) (by omega)
 have hP:Hid (Ab w τ M g lp L a (.returned (.bool (decide (a∈L.keeps) || decide ((L.keeps.length:Int)<L.mr)))) w2):=by
  refine⟨v',aX,_,rfl,h1,⟨?_,?_,?_,?_,?_⟩,?_,h2⟩
  ·rw[Mem.aA _ _ (by omega),Mem.aP]
  ·rw[Mem.aA _ _ (by omega),Mem.aA _ _ (by omega)];exact HL.out.r
  ·rw[Mem.aP]
  ·rw[Mem.aA _ _ (by omega),Mem.aA _ _ (by omega)];exact HL.out.h
  ·rw[Mem.aA _ _ (by omega),Mem.aA _ _ (by omega)];exact HL.out.u
  ·exact(Mem.cM.put M _ ⟨by omega,by omega⟩).trans (Mem.cM.put _ _ ⟨by omega,by omega⟩)
 clear hC hR hF hN ka h1 h2 Bb;go_wp2;go_ret;exact hP.out
theorem sY(x:Hd):(Ct x).length=2:=rfl
theorem Pv(x:Ud):(wC x).length=4:=rfl
abbrev dH:Hd:=⟨0,0⟩
abbrev dU:Ud:=⟨0,0,0,0⟩
theorem gW(w:aj)(xs:List aC)(t:TypeId)(j:Nat){u:aC}(hj:xs[j]?=some u):(w.alloc (.cells xs.toArray t)).cell? ⟨w.heap.size,j,none⟩=some u:=by
 rw[World.cell?_alloc_new];simpa using hj
def rJ(l:List Hd)(a:Nat):Bool:=l.any λx=>x.at_==a
theorem Jp{l:List Hd}{a:Nat}(h:∀j,j<l.length->(l.getD j dH).at_≠a):rJ l a=false:=by
 unfold rJ;rw[List.any_eq_false];intro x hx;obtain⟨j,hj,e⟩:=yZ dH hx;have:=h j hj;rw[e] at this;simpa using this
theorem Gm{l:List Hd}{a j:Nat}(hj:j<l.length)(h:(l.getD j dH).at_=a):rJ l a=true:=by
 unfold rJ;rw[List.any_eq_true];exact⟨_,get_mem dH hj,by simpa using h⟩
def lY(w:aj)(τ:Nat->Nat)(M:Mem)(g lp:Nat)(L:iB)(x:Hd)(e:Ending)(w':aj):Prop:=
 ∃b v' aX M',e=.returned (.bool b)/\b=(!rJ L.holds x.at_ && decide ((L.holds.length:Int)<L.mu))/\bF w' aX M' /\
  cG M' g lp { L with vh:=v',holds:=bif b then L.holds++[x] else L.holds } /\ Mem.cM (λt=>g+1<=t/\t<=g+5) M M'/\aF w τ w' aX
theorem lY.no{w w':aj}(h:bF w τ M)(hl:cG M g lp L){x:Hd}(c:Calm w w')(hb:(!rJ L.holds x.at_ && decide ((L.holds.length:Int)<L.mu))=false):lY w τ M g lp L x (.returned (.bool false)) w':=
 ⟨false,L.vh,τ,M,rfl,hb.symm,h.calm c,hl,Mem.cM.refl _ _,aF.calm τ c⟩
theorem Kf(h:bF w τ M)(hl:cG M g lp L)(hg:g<=400)(mZ:L.holds.length<=100000)(x:Hd) :
 aL prog 184 #[pV lp,.agg #[vI x.at_,vI x.bt]] w (lY w τ M g lp L x):=by
 have hc:=hl.cells h;have y1:=(hc 1 _ rfl).1;have y4:=(hc 4 _ rfl).1;have z4:=(hc 4 _ rfl).2;have hlp:lp<w.heap.size:=lM w _ y1;have hr:=hl.Ym h;have hn:¬aB L.vh lp:=λe=>h.apart (t:=g+1) (u:=g+4) (by omega) (k:=lp) (by rw[hl.nW]) (by rw[hl.Q8];exact e);obtain⟨sa,sc,hv⟩:=aG hr;have dQ:=af (λi (hi:i<L.holds.length)=>bz sY (by decide) hr dH hi);obtain⟨n,hN⟩:=au L.holds.length;have So:=af (λ(w':aj) (c:Calm w w') hb=>lY.no (x:=x) h hl c hb);rw[hv] at y4 hn;rw[hN] at y4 mZ hn;have H:=af h;have HL:=af hl;replace hr:=af hr;obtain⟨mu,Gs⟩:=au L.mu;rw[Gs] at y1;replace hc:=af hc;replace hN:=af hN;replace hv:=af hv;replace hn:=af hn;clear h hl;go_in;go_wp2_with fail
 have k0:Calm w (w.alloc (.cells #[vI x.at_,vI x.bt] 219)):=aq.alloc _;have o3:=ag.new w [vI x.at_,vI x.bt] 219;have Xm:(w.alloc (.cells #[vI x.at_,vI x.bt] 219)).heap.size=w.heap.size+1:=by simp
 generalize gS:w.alloc (.cells #[vI x.at_,vI x.bt] 219)=W0 at *;generalize w.heap.size=P at *;clear gS;go_loopw [14] (λi wr=>∃k:Nat,k<=n/\i=vI k/\Hid (∀j,j<k->(L.holds.getD j dH).at_≠x.at_)/\Calm W0 wr) (λi _=>n-(intOf i).toNat)
 case atStart=>exact⟨0,by omega,rfl,af (λj hj=>absurd hj (by omega)),aq⟩
 case round=>
  obtain⟨k,hk,rfl,hne,kr⟩:=hrel;have k1:=k0.trans kr;have o4:=o3.calm kr;obtain⟨u0,u1⟩:=ag.lF o4;have P4:=o4.lt (by simp);rcases oZ k n with aZ|jL
  ·have g1:(k:Int)<n:=by omega
   obtain⟨b,c',eC,hcs⟩:=dQ.out k (by rw[hN.out];exact aZ);rw[hv.out] at eC;injection eC with e1 e2 e3
   subst e1;have q0:=k1.cellAt (hcs 0 _ rfl).1 id;have q1:=k1.cellAt (hcs 1 _ rfl).1 id;rw[fj] at q0;clear e2 e3 hcs;obtain⟨y,hy⟩:=au (L.holds.getD k dH);rw[hy] at q0 q1;replace hy:=af hy
   by_cases e:y.at_=x.at_
   ·have b1:(((y.at_:Nat):Int)==((x.at_:Nat):Int))=true:=by simp[e]
    have hb:Hid (rJ L.holds x.at_=true):=Gm (j:=k) (by rw[hN.out];exact aZ) (by rw[hy.out];exact e);have k2:=af (k1.alloc (.cells #[vI y.at_,vI y.bt] 219));clear e o3 o4 k0;go_wp2;go_ret;exact So.out _ k2.out (by rw[hb.out];rfl)
   ·have b1:(((y.at_:Nat):Int)==((x.at_:Nat):Int))=false:=by simp;omega
    have k2:=af (kr.alloc (.cells #[vI y.at_,vI y.bt] 219));replace e:=af e;go_wp2
    go_roundw
    case rel=>exact⟨k+1,by omega,by go_num,af (λj hj=>by
     rcases oZ j k with h|h
     ·exact hne.out j h
     ·obtain rfl:j=k:=by omega
      rw[hy.out];exact e.out),k2.out⟩
    case measure=>simp[intOf];omega
  ·obtain rfl:k=n:=by omega
   have g1:¬((k:Int)<k):=by omega
   have hb:Hid (rJ L.holds x.at_=false):=Jp (λj hj=>hne.out j (by rw[hN.out] at hj;exact hj));have w1:=k1.cellAt y1 id;have w4:=k1.cellAt y4 id;have f4:=k1.frozenAt y4 z4 id;clear jL hk hne dQ;go_wp2_with fail
   go_region
   by_cases aZ:(k:Int)<mu
   ·have g2:¬((k:Int)>=mu):=by omega
    have kd:Calm w wr.drew:=k1.trans (aq.drew);have od:=o4.calm (aq.drew:Calm wr wr.drew);have nL:Hid (w.heap.size<=wr.drew.heap.size):=kd.size;have v1:=kd.cellAt y1 id;have v4:=kd.cellAt y4 id;have r4:=kd.frozenAt y4 z4 id;obtain⟨v0,v0'⟩:=ag.lF od;have jF:=af (az hr.out kd (λ_ _=>id));have hlW:lp<wr.drew.heap.size:=lM _ _ v1;have hPW:P<wr.drew.heap.size:=od.lt (by simp);rw[hv.out,hN.out] at jF;clear u0 u1 w1 w4 f4 o4 o3 k0 kr k1 So;generalize wr.drew=W1 at *;go_wp2_with fail
    go_region_law
     ((refine gu giH rfl _ _ rfl (.slice sa k sc) k (L.holds.flatMap Ct) (az jF.out (by first|exact aq.alloc _|exact(aq.drew).alloc _|exact(aq.alloc _).drew:Calm W1 _) (λ_ _=>id)) rfl (Ct x) rfl (by simp[Ct,Value.oneCell']) ⟨W1.heap.size,0,none⟩ 1 rfl (λj u hj=>by rw[cT];simp only[fk];exact gW _ _ _ _ hj) (by omega) ?_;intro q gc W3 fu f3 Da;have ka:Fr (aB (.slice sa k sc)) W1 W3:=Fr.trans (by first|exact aq.alloc _|exact(aq.drew).alloc _|exact(aq.alloc _).drew) f3;have q4:=ka.cellAt v4 hn.out;have p4:=ka.frozenAt v4 r4 hn.out;replace fu:=af fu;replace Da:=af Da;replace f3:=af f3;replace ka:=af ka))
    all_goals
     have hP:Hid (lY w τ M g lp L x (.returned (.bool true)) (W3.setCell ⟨lp,4,none⟩ (.slice (some ⟨q,0,none⟩) (k+1) gc))):=by
      have hs:=nL.out;have aaH:lp<w.heap.size:=lM w _ y1
      have qQ:aB (.slice sa k sc) q\/w.heap.size<=q:=by
       rcases Da.out with e|e
       ·exact .inl e
       ·right;simp at e;omega
      have hqx:q≠lp:=by
       rintro rfl;rcases qQ with e|e
       ·exact hn.out e
       ·omega
      have f4:Fr (λk'=>k'=lp\/aB (.slice sa k sc) k') w (W3.setCell ⟨lp,4,none⟩ (.slice (some ⟨q,0,none⟩) (k+1) gc)):=((Calm.any kd:Fr (λk'=>k'=lp\/aB (.slice sa k sc) k') _ _).trans (ka.out.mono (λk' _ e=>.inr e))).setCell (p:=⟨lp,4,none⟩) (.inl (.inl rfl)) _;have hC:=(((hc.out.calm kd).fr ka.out hn.out).set 4 (.slice (some ⟨q,0,none⟩) (k+1) gc) (by simp));have hR:=az fu.out ((Fr.refl (λb=>b=lp) W3).setCell (p:=⟨lp,4,none⟩) (.inl rfl) (.slice (some ⟨q,0,none⟩) (k+1) gc)) (λk' zP e=>hqx ((aB.fg zP).symm.trans e));have hlen:(L.holds++[x]).length=k+1:=by rw[cX,hN.out];rfl
      have sF:(L.holds++[x]).flatMap Ct=L.holds.flatMap Ct++Ct x:=by simp
      obtain⟨aX,h1,h2⟩:=H.out.DT (t:=g+1) (u:=g+4) (by omega) (a:=bD lp (vI L.mr) [vI L.mu,L.vr,L.vk,.slice (some ⟨q,0,none⟩) (k+1) gc,L.vu]) (b:=FQ (.slice (some ⟨q,0,none⟩) (k+1) gc) (L.holds++[x])) (by rw[HL.out.nW,HL.out.Q8,hv.out,hN.out];exact f4) hC (by show World.ownsRow _ _ _ _ _ _ _;rw[hlen,sF];exact hR) (λk' zP=>by rw[HL.out.nW];exact zP) (λk' zP=>by
       rw[HL.out.Q8,hv.out,hN.out];have zP:aB (.slice (some ⟨q,0,none⟩) (k+1) gc) k':=zP
       rw[aB.fg zP];exact qQ) (by omega) (by omega)
      refine⟨true,.slice (some ⟨q,0,none⟩) (k+1) gc,aX,_,rfl,by rw[hb.out,hN.out,Gs];simp[aZ],h1,⟨?_,?_,?_,?_,?_⟩,?_,h2⟩
      ·rw[Mem.aA _ _ (by omega),Mem.aP]
      ·rw[Mem.aA _ _ (by omega),Mem.aA _ _ (by omega)];exact HL.out.r
      ·rw[Mem.aA _ _ (by omega),Mem.aA _ _ (by omega)];exact HL.out.k
      ·rw[Mem.aP];rfl
      ·rw[Mem.aA _ _ (by omega),Mem.aA _ _ (by omega)];exact HL.out.u
      ·exact(Mem.cM.put M _ ⟨by omega,by omega⟩).trans (Mem.cM.put _ _ ⟨by omega,by omega⟩)
     clear fu Da f3 ka q4 p4 v0 v0' v1 v4 r4;go_wp2;go_ret;exact hP.out
   ·have g2:((k:Int)>=mu):=by omega
    go_wp2;go_ret;exact So.out _ (k1.trans (aq.drew)) (by rw[hb.out,hN.out,Gs];simp;omega)
end
section
variable {w:aj}{τ:Nat->Nat}{M:Mem}{g lp:Nat}{L:iB}
def tR(w:aj)(τ:Nat->Nat)(M:Mem)(g lp:Nat)(L:iB)(x:Ud)(e:Ending)(w':aj):Prop:=
 ∃b v' aX M',e=.returned (.bool b)/\b=decide ((L.aQ.length:Int)<L.mu)/\bF w' aX M' /\
  cG M' g lp { L with vu:=v',aQ:=bif b then L.aQ++[x] else L.aQ } /\ Mem.cM (λt=>g+1<=t/\t<=g+5) M M'/\aF w τ w' aX
theorem Kg(h:bF w τ M)(hl:cG M g lp L)(hg:g<=400)(mZ:L.aQ.length<=100000)(x:Ud) :
 aL prog 148 #[pV lp,.agg #[vI x.kind,vI x.at_,vI x.i,vI x.cC]] w (tR w τ M g lp L x):=by
 have hc:=hl.cells h;have y1:=(hc 1 _ rfl).1;have y5:=(hc 5 _ rfl).1;have z5:=(hc 5 _ rfl).2;have hlp:lp<w.heap.size:=lM w _ y1;have hr:=hl.Yo h;have hn:¬aB L.vu lp:=λe=>h.apart (t:=g+1) (u:=g+5) (by omega) (k:=lp) (by rw[hl.nW]) (by rw[hl.Q9];exact e);obtain⟨sa,sc,hv⟩:=aG hr;obtain⟨n,hN⟩:=au L.aQ.length;rw[hv] at y5 hn;rw[hN] at y5 mZ hn;have H:=af h;have HL:=af hl;replace hr:=af hr;obtain⟨mu,Gs⟩:=au L.mu;rw[Gs] at y1;replace hc:=af hc;replace hN:=af hN;replace hv:=af hv;replace hn:=af hn;clear h hl;go_in;go_wp2_with fail
 have k0:Calm w (w.alloc (.cells #[vI x.kind,vI x.at_,vI x.i,vI x.cC] 231)):=aq.alloc _;have o3:=ag.new w [vI x.kind,vI x.at_,vI x.i,vI x.cC] 231;obtain⟨P,Wg⟩:=au w.heap.size;rw[Wg] at o3 ⊢;have x1:=k0.cellAt y1 id;have x5:=k0.cellAt y5 id;generalize gS:w.alloc (.cells #[vI x.kind,vI x.at_,vI x.i,vI x.cC] 231)=W0 at *;replace Wg:=af Wg;clear gS
 go_region
 have kd:Calm w W0.drew:=k0.trans (aq.drew)
 by_cases aZ:(n:Int)<mu
 ·have g2:¬((n:Int)>=mu):=by omega
  have od:=o3.calm (aq.drew:Calm W0 W0.drew);have nL:Hid (w.heap.size<=W0.drew.heap.size):=kd.size;have v1:=kd.cellAt y1 id;have v4:=kd.cellAt y5 id;have r4:=kd.frozenAt y5 z5 id;obtain⟨va,vb,vc,vd⟩:=ag.sQ od;have jF:=af (az hr.out kd (λ_ _=>id));have hlW:lp<W0.drew.heap.size:=lM _ _ v1;have hPW:P<W0.drew.heap.size:=od.lt (by simp);rw[hv.out,hN.out] at jF;clear x1 x5 o3 k0 hlp;generalize W0.drew=W1 at *;go_wp2_with fail
  go_region_law
   ((refine gu giU rfl _ _ rfl (.slice sa n sc) n (L.aQ.flatMap wC) (az jF.out (by first|exact aq.alloc _|exact(aq.drew).alloc _|exact(aq.alloc _).drew:Calm W1 _) (λ_ _=>id)) rfl (wC x) rfl (by simp[wC,Value.oneCell']) ⟨W1.heap.size,0,none⟩ 1 rfl (λj u hj=>by rw[cT];simp only[fk];exact gW _ _ _ _ hj) (by omega) ?_;intro q gc W3 fu f3 Da;have ka:Fr (aB (.slice sa n sc)) W1 W3:=Fr.trans (by first|exact aq.alloc _|exact(aq.drew).alloc _|exact(aq.alloc _).drew) f3;have q4:=ka.cellAt v4 hn.out;have p4:=ka.frozenAt v4 r4 hn.out;replace fu:=af fu;replace Da:=af Da;replace f3:=af f3;replace ka:=af ka))
  all_goals
   have hP:Hid (tR w τ M g lp L x (.returned (.bool true)) (W3.setCell ⟨lp,5,none⟩ (.slice (some ⟨q,0,none⟩) (n+1) gc))):=by
    have hs:=nL.out;have aaH:lp<w.heap.size:=lM w _ y1
    have qQ:aB (.slice sa n sc) q\/w.heap.size<=q:=by
     rcases Da.out with e|e
     ·exact .inl e
     ·right;simp at e;omega
    have hqx:q≠lp:=by
     rintro rfl;rcases qQ with e|e
     ·exact hn.out e
     ·omega
    have f4:Fr (λk'=>k'=lp\/aB (.slice sa n sc) k') w (W3.setCell ⟨lp,5,none⟩ (.slice (some ⟨q,0,none⟩) (n+1) gc)):=((Calm.any kd:Fr (λk'=>k'=lp\/aB (.slice sa n sc) k') _ _).trans (ka.out.mono (λk' _ e=>.inr e))).setCell (p:=⟨lp,5,none⟩) (.inl (.inl rfl)) _;have hC:=(((hc.out.calm kd).fr ka.out hn.out).set 5 (.slice (some ⟨q,0,none⟩) (n+1) gc) (by simp));have hR:=az fu.out ((Fr.refl (λb=>b=lp) W3).setCell (p:=⟨lp,5,none⟩) (.inl rfl) (.slice (some ⟨q,0,none⟩) (n+1) gc)) (λk' zP e=>hqx ((aB.fg zP).symm.trans e));have hlen:(L.aQ++[x]).length=n+1:=by rw[cX,hN.out];rfl
    have sF:(L.aQ++[x]).flatMap wC=L.aQ.flatMap wC++wC x:=by simp
    obtain⟨aX,h1,h2⟩:=H.out.DT (t:=g+1) (u:=g+5) (by omega) (a:=bD lp (vI L.mr) [vI L.mu,L.vr,L.vk,L.vh,.slice (some ⟨q,0,none⟩) (n+1) gc]) (b:=FR (.slice (some ⟨q,0,none⟩) (n+1) gc) (L.aQ++[x])) (by rw[HL.out.nW,HL.out.Q9,hv.out,hN.out];exact f4) hC (by show World.ownsRow _ _ _ _ _ _ _;rw[hlen,sF];exact hR) (λk' zP=>by rw[HL.out.nW];exact zP) (λk' zP=>by
     rw[HL.out.Q9,hv.out,hN.out];have zP:aB (.slice (some ⟨q,0,none⟩) (n+1) gc) k':=zP
     rw[aB.fg zP];exact qQ) (by omega) (by omega)
    refine⟨true,.slice (some ⟨q,0,none⟩) (n+1) gc,aX,_,rfl,by rw[hN.out,Gs];simp[aZ],h1,⟨?_,?_,?_,?_,?_⟩,?_,h2⟩
    ·rw[Mem.aA _ _ (by omega),Mem.aP]
    ·rw[Mem.aA _ _ (by omega),Mem.aA _ _ (by omega)];exact HL.out.r
    ·rw[Mem.aA _ _ (by omega),Mem.aA _ _ (by omega)];exact HL.out.k
    ·rw[Mem.aA _ _ (by omega),Mem.aA _ _ (by omega)];exact HL.out.h
    ·rw[Mem.aP];rfl
    ·exact(Mem.cM.put M _ ⟨by omega,by omega⟩).trans (Mem.cM.put _ _ ⟨by omega,by omega⟩)
   clear fu Da f3 ka q4 p4 va vb vc vd v1 v4 r4;go_wp2;go_ret;exact hP.out
 ·have g2:((n:Int)>=mu):=by omega
  have hP:Hid (tR w τ M g lp L x (.returned (.bool false)) W0.drew):=⟨false,L.vu,τ,M,rfl,by rw[hN.out,Gs];simp;omega,H.out.calm kd,HL.out,Mem.cM.refl _ _,aF.calm τ kd⟩;go_wp2;go_ret;exact hP.out
def iB.empty(L:iB):iB:={ L with vr:=.slice none 0 0,vk:=.slice none 0 0,vh:=.slice none 0 0,vu:=.slice none 0 0,reads:=[],keeps:=[],holds:=[],aQ:=[] }
def wK(w:aj)(τ:Nat->Nat)(M:Mem)(g lp:Nat)(L:iB)(e:Ending)(w':aj):Prop:=
 ∃M',e=.returned (.tuple #[])/\bF w' τ M'/\cG M' g lp L.empty/\Mem.cM (λt=>g+1<=t/\t<=g+5) M M'/\aF w τ w' τ
theorem qi(w:aj)(base:Nat)(e:TypeId)(k:Nat):w.ownsRow base e k (.slice none 0 0) 0 []:=World.ownsRow_nil _ _ _ _
theorem GN(h:bF w τ M)(hl:cG M g lp L)(hg:g<=400) :
 aL prog 177 #[pV lp] w (wK w τ M g lp L):=by
 have hc:=hl.cells h;have y2:=(hc 2 _ rfl).1;have y3:=(hc 3 _ rfl).1;have y4:=(hc 4 _ rfl).1;have y5:=(hc 5 _ rfl).1;have z2:=(hc 2 _ rfl).2;have z3:=(hc 3 _ rfl).2;have z4:=(hc 4 _ rfl).2;have z5:=(hc 5 _ rfl).2;have hC:=(((hc.set 2 (.slice none 0 0) (by simp)).set 3 (.slice none 0 0) (by simp)).set 4 (.slice none 0 0) (by simp)).set 5 (.slice none 0 0) (by simp)
 have fr:Fr (λk=>k=lp) w ((((w.setCell ⟨lp,2,none⟩ (.slice none 0 0)).setCell ⟨lp,3,none⟩ (.slice none 0 0)).setCell ⟨lp,4,none⟩ (.slice none 0 0)).setCell ⟨lp,5,none⟩ (.slice none 0 0)):=
  ((((Fr.refl (λk=>k=lp) w).setCell (p:=⟨lp,2,none⟩) (.inl rfl) _).setCell (p:=⟨lp,3,none⟩) (.inl rfl) _).setCell (p:=⟨lp,4,none⟩) (.inl rfl) _).setCell (p:=⟨lp,5,none⟩) (.inl rfl) _
 have h1:=h.put' (t:=g+1) (a:=bD lp (vI L.mr) [vI L.mu,.slice none 0 0,.slice none 0 0,.slice none 0 0,.slice none 0 0]) (by rw[hl.nW];exact fr) hC (λk hk=>by rw[hl.nW];exact hk);have h2:=h1.put' (t:=g+2) (a:=iL (.slice none 0 0) []) aq (bm.nil _ _) (λk hk=>(aB.nil k hk).elim);have h3:=h2.put' (t:=g+3) (a:=iL (.slice none 0 0) []) aq (bm.nil _ _) (λk hk=>(aB.nil k hk).elim);have h4:=h3.put' (t:=g+4) (a:=FQ (.slice none 0 0) []) aq (qi _ _ _ _) (λk hk=>(aB.nil k hk).elim);have h5:=h4.put' (t:=g+5) (a:=FR (.slice none 0 0) []) aq (qi _ _ _ _) (λk hk=>(aB.nil k hk).elim)
 have hP:Hid (wK w τ M g lp L (.returned (.tuple #[])) ((((w.setCell ⟨lp,2,none⟩ (.slice none 0 0)).setCell ⟨lp,3,none⟩ (.slice none 0 0)).setCell ⟨lp,4,none⟩ (.slice none 0 0)).setCell ⟨lp,5,none⟩ (.slice none 0 0))):=by
  refine⟨_,rfl,h5,⟨?_,?_,?_,?_,?_⟩,?_,aF.piece h (t:=g+1) (by rw[hl.nW];exact fr) (by omega)⟩
  ·rw[Mem.aA _ _ (by omega),Mem.aA _ _ (by omega),Mem.aA _ _ (by omega),Mem.aA _ _ (by omega),Mem.aP];rfl
  ·rw[Mem.aA _ _ (by omega),Mem.aA _ _ (by omega),Mem.aA _ _ (by omega),Mem.aP];rfl
  ·rw[Mem.aA _ _ (by omega),Mem.aA _ _ (by omega),Mem.aP];rfl
  ·rw[Mem.aA _ _ (by omega),Mem.aP];rfl
  ·rw[Mem.aP];rfl
  ·exact((((Mem.cM.put M _ ⟨by omega,by omega⟩).trans (Mem.cM.put _ _ ⟨by omega,by omega⟩)).trans (Mem.cM.put _ _ ⟨by omega,by omega⟩)).trans (Mem.cM.put _ _ ⟨by omega,by omega⟩)).trans (Mem.cM.put _ _ ⟨by omega,by omega⟩)
 clear h1 h2 h3 h4 h5 hC fr hc h hl;go_in;go_wp2
 go_end0
 exact hP.out
end
end
structure bT where
 b:Int
 p:Int
 R:aE
 V:aE
 live:Bool
def rg(l:aE)(j:Nat):aC:=vI ((l.getD j 0:Nat):Int)
def bO(x:bT):aC:=.agg #[vI x.b,vI x.p,rg x.R 0,rg x.R 1,rg x.R 2,rg x.R 3,rg x.R 4,rg x.R 5,rg x.V 0,rg x.V 1,rg x.V 2,rg x.V 3,rg x.V 4,rg x.V 5,.bool x.live]
def bq(x:bT):List aC:=[vI x.b,vI x.p,rg x.R 0,rg x.R 1,rg x.R 2,rg x.R 3,rg x.R 4,rg x.R 5,rg x.V 0,rg x.V 1,rg x.V 2,rg x.V 3,rg x.V 4,rg x.V 5,.bool x.live]
def cO(k e v:Int):aC:=.agg #[vI k,vI e,vI v]
structure kG(n:Nat)(x:bT):Prop where
 b:0<=x.b/\x.b<=n
 p:0<=x.p/\x.p<=100
 l:x.live=true->x.b<n
 r:x.R.length=6
 v:x.V.length=6
 rp:∀a∈x.R,a<=131072
 vp:∀a∈x.V,a<=131072
def bT.back(x:bT):bT:={ x with R:=x.V,live:=false,p:=0 }
def bT.cV(x:bT)(e:Int):bT:=if e=0 then { x with p:=x.p+1 } else if e=141\/e=140 then x.back else if e=100\/e=130 then { x.back with b:=x.b+1 } else { x with p:=x.p+1 }
def Vg(w:aj)(x:bT)(v e:Int)(en:Ending)(w':aj):Prop:=en=.returned (.tuple #[bO (x.cV e),cO 2 e (if e=0 then v else 0)])/\Calm w w'
theorem qH(w:aj)(b p r0 r1 r2 r3 r4 r5 v0 v1 v2 v3 v4 v5:Int)(live:Bool):aL prog 67 #[.agg #[vI b,vI p,vI r0,vI r1,vI r2,vI r3,vI r4,vI r5,vI v0,vI v1,vI v2,vI v3,vI v4,vI v5,.bool live]] w λe w'=>e=.returned (.agg #[vI b,vI 0,vI v0,vI v1,vI v2,vI v3,vI v4,vI v5,vI v0,vI v1,vI v2,vI v3,vI v4,vI v5,.bool false])/\w'=(w.alloc (.cells #[vI b,vI 0,vI v0,vI v1,vI v2,vI v3,vI v4,vI v5,vI v0,vI v1,vI v2,vI v3,vI v4,vI v5,.bool false] 31)).alloc (.cells #[vI b,vI 0,vI v0,vI v1,vI v2,vI v3,vI v4,vI v5,vI v0,vI v1,vI v2,vI v3,vI v4,vI v5,.bool false] 31):=by
 go_in;go_wp2;refine bodyPost_ret ?_ rfl ⟨rfl,rfl⟩;simp[results,Tryz.f67,go_sem]
