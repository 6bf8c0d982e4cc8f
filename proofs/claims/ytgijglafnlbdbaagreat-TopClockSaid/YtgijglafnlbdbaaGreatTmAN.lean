import Derived.Test.YtgijglafnlbdbaaGreatTmAM
import Derived.Test.YtgijglafnlbdbaaGreatTmAH
set_option linter.all false
set_option maxHeartbeats 8000000
set_option maxRecDepth 8000
namespace Go.Proofs.YtgijglafnlbdbaaGreat
open RowKit Shelf Proofs.Tryz
open Go renaming World->aj,Value->aC,Calls->aL
section
variable {w:aj}{τ:Nat->Nat}{s:Nat}{S:aY}
theorem ag.lI(w:aj)(vs:List aC)(ty:TypeId)(b:Nat)(h:w.heap.size=b):ag (w.alloc (.cells vs.toArray ty)) b vs:=by
 subst h;exact ag.new w vs ty
theorem Nx.outT{W w':aj}{τ0:Nat->Nat}{s':Nat}{R:aY->Prop}(n:Nx W τ0 s' S w' R)(c:Calm w W)(tk:nV w τ τ0):Nx w τ s' S w' R:=by
 obtain⟨gi,S1,k1,k2,k3,k4⟩:=n;exact⟨gi,S1,k1,((aF.calm τ0 c).trans k2).dp tk,k3,k4⟩
theorem By:¬Fatal 0:=by unfold Fatal;omega
theorem I2(o:Ob)(k i:Int):¬Fatal (fO o k i):=by
 unfold fO;split
 ·unfold Fatal;omega
 ·split
  ·exact By
  ·split
   ·unfold Fatal;omega
   ·by_cases e:(if k=6\/k=7 then (o.d:Int) else (o.p:Int))<=i
    ·rw[if_pos e];unfold Fatal;omega
    ·rw[if_neg e];exact By
def Iu(S:aY)(t:Nat)(R:Int->Int->aY->Prop)(v x:Int)(S':aY):Prop:=(¬Fatal x/\R v x S')\/(Fatal x/\v=0/\∃v0 S1,R v0 x S1/\Co (vw S) t (vw S1)/\vw S'=(vw S1).wM t)
def wG(w:aj)(τ:Nat->Nat)(s:Nat)(S:aY)(t:Nat)(R:Int->Int->aY->Prop)(e:Ending)(w':aj):Prop:=
 ∃v x:Int,e=.returned (.tuple #[vI v,vI x])/\cL v/\cL x/\Nx w τ s S w' (Iu S t R v x)
def T_(w:aj)(τ:Nat->Nat)(s:Nat)(S:aY)(t:Nat)(R:Int->Int->aY->Prop)(e:Ending)(w':aj):Prop:=
 ∃x:Int,e=.returned (vI x)/\cL x/\Nx w τ s S w' (Iu S t R 0 x)
structure RQ(S:aY)(t:Nat)(R:Int->Int->aY->Prop):Prop where
 z:∀v x S',R v x S'->x≠0->¬Fatal x->R 0 x S'
 m:∀v x S',R v x S'->Fatal x->Co (vw S) t (vw S')
theorem eG.q{t:Nat}{R:Int->Int->aY->Prop}{e:Ending}{w':aj}(ht:t<S.bB.length)(hl:(S.tx t).live=true)(hR:RQ S t R)(h:eG w τ s S (t:Nat) R e w'):wG w τ s S t R e w':=by
 obtain⟨v,x,h1,h2,h3,h4⟩:=h;refine⟨v,x,h1,h2,h3,h4.mono (aM _) λS' h=>?_⟩;rcases h with ⟨rfl,_,_,h5⟩|⟨rfl,h5⟩|⟨h5,rfl,v0,S1,h6,h7,h8⟩
 ·have:=h5 t rfl ht;rw[hl] at this;cases this
 ·exact .inl ⟨By,h5⟩
 ·by_cases hf:Fatal x
  ·exact .inr ⟨hf,rfl,v0,S1,h6,hR.m _ _ _ h6 hf,h7 hf t rfl⟩
  ·rw[h8 hf];exact .inl ⟨hf,hR.z _ _ _ h6 h5 hf⟩
theorem RQ.gt{K:Int}{t a:Nat}{k:Int}{val:Ob->Int} : RQ S t (Vw S (iY K t a k val)):=by
 refine⟨λv x S' h hx _=>?_,λv x S' h hf=>?_⟩
 ·rcases h with h|h|h|⟨o,l,h1,h2,h3,h4,h5,h6,h7,_⟩
  ·exact .inl h
  ·exact .inr (.inl h)
  ·exact .inr (.inr (.inl h))
  ·exact .inr (.inr (.inr ⟨o,l,h1,h2,h3,h4,h5,h6,h7,λe=>absurd e hx⟩))
 ·rcases h with ⟨h,_⟩|⟨h,_⟩|h|⟨o,l,_,_,_,_,_,_,h7,_⟩
  ·unfold Fatal at hf;omega
  ·unfold Fatal at hf;omega
  ·exact h.2
  ·rw[h7] at hf;exact absurd hf (I2 _ _ _)
theorem RQ.rng{t:Nat}{R:Int->Int->aY->Prop}(h:RQ S t R):RQ S t (λv x S'=>R v x S'/\0<=v/\v<=131072):=⟨λv x S' g hx hf=>⟨h.z v x S' g.1 hx hf,by decide,by decide⟩,λv x S' g hf=>h.m v x S' g.1 hf⟩
theorem RQ.Vt{t p d:Nat}{wk fn:Bool} : RQ S t (Vw S (lB t p d wk fn)):=by
 refine⟨λv x S' h hx hf=>?_,λv x S' h hf=>?_⟩
 ·rcases h with ⟨h,_⟩|⟨_,h⟩
  ·exact absurd h hx
  ·exact absurd h.1 hf
 ·rcases h with ⟨rfl,_⟩|⟨_,h⟩
  ·exact absurd hf By
  ·exact h.2
theorem RQ.wk{t a:Nat} : RQ S t (Vw S (xY t a)):=by
 refine⟨λv x S' h hx hf=>?_,λv x S' h hf=>?_⟩
 ·rcases h with ⟨rfl,h⟩|⟨rfl,h⟩|⟨_,h⟩|⟨h,_⟩
  ·exact .inl ⟨rfl,h⟩
  ·exact .inr (.inl ⟨rfl,h⟩)
  ·exact absurd h.1 hf
  ·exact absurd h hx
 ·rcases h with ⟨_,h,_⟩|⟨_,h,_⟩|⟨_,h⟩|⟨h,_⟩
  ·unfold Fatal at hf;omega
  ·unfold Fatal at hf;omega
  ·exact h.2
  ·rw[h] at hf;exact absurd hf By
theorem RQ.tk{t:Nat} : RQ S t (Vw S (Cq t)):=by
 refine⟨λv x S' h hx hf=>?_,λv x S' h hf=>?_⟩
 ·obtain⟨rfl,h⟩:=h;exact⟨rfl,h⟩
 ·rcases h.2 with ⟨_,h⟩|⟨h,_⟩
  ·rw[h];exact .refl
  ·rw[h] at hf;exact absurd hf By
theorem RQ.cm{t:Nat} : RQ S t (Vw S (vE t)):=by
 refine⟨λv x S' h hx hf=>?_,λv x S' h hf=>?_⟩
 ·rcases h with ⟨h,_⟩|⟨_,h,_⟩|⟨h,_⟩
  ·exact absurd h hx
  ·exact absurd (.inl h) hf
  ·exact absurd h hx
 ·rcases h with ⟨h,_⟩|⟨_,_,h⟩|⟨h,_⟩
  ·rw[h] at hf;exact absurd hf By
  ·rw[h];exact .refl
  ·rw[h] at hf;exact absurd hf By
theorem RQ.ch{d:Dd}{b t a:Nat} : RQ S t (λv x S'=>v=0/\jK d b t a x (vw S) (vw S')):=by
 refine⟨λv x S' h _ _=>⟨rfl,h.2⟩,λv x S' h hf=>?_⟩;rcases h.2 with ⟨h,_⟩|⟨h,_⟩|h|⟨o,l,_,_,_,_,_,h7,_⟩
 ·unfold Fatal at hf;omega
 ·unfold Fatal at hf;omega
 ·exact h.2
 ·rw[h7] at hf;exact absurd hf (I2 _ _ _)
theorem Aj(h:St w τ s S)(hs:s<100000){t:Nat}(ht:t<S.bB.length)(hl:(S.tx t).live=true){p d:Nat}{fn:Bool}(df:sK p d false fn) :
 aL prog 72 #[pV S.sp,vI (t:Int),lV p d false fn] w (wG w τ (s+1) S t (Vw S (lB t p d false fn))):=by
 obtain⟨τ0,hf,tk,fr⟩:=h.fresh;have gT:=af dm;obtain⟨W2,iA,k2,eJ,X4⟩:=rU w [pV S.sp] 56 [vI p,vI d,.bool false,.bool fn] 179;have zF:500<=τ0 (w.heap.size):=by rw[fr _ (by omega)];omega
 have ab5:500<=τ0 (w.heap.size+1):=by rw[fr _ (by omega)];omega
 have hd:=ib (s':=s+1) (hf.calm k2) (Nat.le_succ _) (t:Int) ⟨by have:=h.ok.n;omega,by have:=h.ok.n;omega⟩ 129 #[.pointer (some ⟨w.heap.size+1,0,none⟩),aR w.heap.size] (Vw S (lB t p d false fn)) (enters_of func129 (by kernel_rfl) rfl)
  (λk kN hk eW W sN cW tW hW=>by
   obtain rfl:t=k:=by omega
   have tg:∀b,b<W2.heap.size->w.heap.size<=b->500<=sN b:=λb h1 h2=>by rw[tW b h1,fr b h2];omega
   have yV:=eJ.lt (by simp);have ab4:=X4.lt (by simp)
   exact FT hW hs hk df (X4.calm cW) ((eJ.calm cW) 0 _ rfl))
 have c0:=(eJ 0 _ rfl).1;have yM:=gT.out;go_in;go_wp2_with fail
 clear iA;refine hd.mono ?_;rintro e w5 hp;obtain⟨v,x,rfl,hv,hx,n5⟩:=hp;have hP:wG w τ (s+1) S t (Vw S (lB t p d false fn)) (.returned (.tuple #[vI v,vI x])) w5:=eG.q ht hl RQ.Vt (show eG w τ (s+1) S (t:Nat) (Vw S (lB t p d false fn)) (.returned (.tuple #[vI v,vI x])) w5 from⟨v,x,rfl,hv,hx,n5.outT k2 tk⟩);replace hP:=af hP;clear hd n5;go_wp2
 go_ret2
 exact hP.out
theorem Pz(h:St w τ s S)(hs:s<100000){t:Nat}(ht:t<S.bB.length)(hl:(S.tx t).live=true){a:Nat}(ha:a<=131072) :
 aL prog 73 #[pV S.sp,vI (t:Int),vI (a:Int)] w (wG w τ (s+1) S t (Vw S (xY t a))):=by
 obtain⟨τ0,hf,tk,fr⟩:=h.fresh;have gT:=af dm;obtain⟨W2,iA,k2,eJ,xz⟩:=rU w [pV S.sp] 56 [vI (a:Int)] 3;have zF:500<=τ0 (w.heap.size):=by rw[fr _ (by omega)];omega
 have U3:500<=τ0 (w.heap.size+1):=by rw[fr _ (by omega)];omega
 have hd:=ib (s':=s+1) (hf.calm k2) (Nat.le_succ _) (t:Int) ⟨by have:=h.ok.n;omega,by have:=h.ok.n;omega⟩ 132 #[.pointer (some ⟨w.heap.size+1,0,none⟩),aR w.heap.size] (Vw S (xY t a)) (enters_of func132 (by kernel_rfl) rfl)
  (λk kN hk eW W sN cW tW hW=>by
   obtain rfl:t=k:=by omega
   have tg:∀b,b<W2.heap.size->w.heap.size<=b->500<=sN b:=λb h1 h2=>by rw[tW b h1,fr b h2];omega
   have yV:=eJ.lt (by simp);have UO:=xz.lt (by simp)
   exact LY hW hs hk ha ((xz.calm cW) 0 _ rfl) ((eJ.calm cW) 0 _ rfl) (tg _ (by omega) (by omega)) (tg _ (by omega) (by omega)))
 have c0:=(eJ 0 _ rfl).1;have yM:=gT.out;go_in;go_wp2_with fail
 clear iA;refine hd.mono ?_;rintro e w5 hp;obtain⟨v,x,rfl,hv,hx,n5⟩:=hp;have hP:wG w τ (s+1) S t (Vw S (xY t a)) (.returned (.tuple #[vI v,vI x])) w5:=eG.q ht hl RQ.wk (show eG w τ (s+1) S (t:Nat) (Vw S (xY t a)) (.returned (.tuple #[vI v,vI x])) w5 from⟨v,x,rfl,hv,hx,n5.outT k2 tk⟩);replace hP:=af hP;clear hd n5;go_wp2
 go_ret2
 exact hP.out
theorem Ow(h:St w τ s S){t:Nat}(ht:t<S.bB.length)(hl:(S.tx t).live=true){a:Nat}(ha:a<=131072) :
 aL prog 75 #[pV S.sp,vI (t:Int),vI (a:Int)] w (wG w τ s S t (λv x S'=>iY 9 t a 0 (λo=>(o.ps.getD 0 0:Nat)) v x (vw S) (vw S')/\0<=v/\v<=131072)):=by
 obtain⟨τ0,hf,tk,fr⟩:=h.fresh;have gT:=af dm;obtain⟨W2,iA,k2,eJ,xz⟩:=rU w [pV S.sp] 56 [vI (a:Int)] 3;have zF:500<=τ0 (w.heap.size):=by rw[fr _ (by omega)];omega
 have U3:500<=τ0 (w.heap.size+1):=by rw[fr _ (by omega)];omega
 have hd:=ib (s':=s) (hf.calm k2) (aM _) (t:Int) ⟨by have:=h.ok.n;omega,by have:=h.ok.n;omega⟩ 136 #[aR w.heap.size,.pointer (some ⟨w.heap.size+1,0,none⟩)] (λv x S'=>iY 9 t a 0 (λo=>(o.ps.getD 0 0:Nat)) v x (vw S) (vw S')/\0<=v/\v<=131072) (enters_of func136 (by kernel_rfl) rfl)
  (λk kN hk eW W sN cW tW hW=>by
   obtain rfl:t=k:=by omega
   have tg:∀b,b<W2.heap.size->w.heap.size<=b->500<=sN b:=λb h1 h2=>by rw[tW b h1,fr b h2];omega
   have yV:=eJ.lt (by simp);have UO:=xz.lt (by simp)
   exact Ke hW hk eW ha ((eJ.calm cW) 0 _ rfl) ((xz.calm cW) 0 _ rfl) (tg _ (by omega) (by omega)) (tg _ (by omega) (by omega)))
 have c0:=(eJ 0 _ rfl).1;have yM:=gT.out;go_in;go_wp2_with fail
 clear iA;refine hd.mono ?_;rintro e w5 hp;obtain⟨v,x,rfl,hv,hx,n5⟩:=hp;have hP:wG w τ s S t (λv x S'=>iY 9 t a 0 (λo=>(o.ps.getD 0 0:Nat)) v x (vw S) (vw S')/\0<=v/\v<=131072) (.returned (.tuple #[vI v,vI x])) w5:=eG.q ht hl RQ.gt.rng (show eG w τ s S (t:Nat) (λv x S'=>iY 9 t a 0 (λo=>(o.ps.getD 0 0:Nat)) v x (vw S) (vw S')/\0<=v/\v<=131072) (.returned (.tuple #[vI v,vI x])) w5 from⟨v,x,rfl,hv,hx,n5.outT k2 tk⟩);replace hP:=af hP;clear hd n5;go_wp2
 go_ret2
 exact hP.out
theorem Ph(h:St w τ s S){t:Nat}(ht:t<S.bB.length)(hl:(S.tx t).live=true) :
 aL prog 76 #[pV S.sp,vI (t:Int)] w (wG w τ s S t (Vw S (Cq t))):=by
 obtain⟨τ0,hf,tk,fr⟩:=h.fresh;have gT:=af dm;obtain⟨W2,iA,k2,eJ,-⟩:=dy w [pV S.sp] 56;have zF:500<=τ0 (w.heap.size):=by rw[fr _ (by omega)];omega
 have hd:=ib (s':=s) (hf.calm k2) (aM _) (t:Int) ⟨by have:=h.ok.n;omega,by have:=h.ok.n;omega⟩ 139 #[aR w.heap.size] (Vw S (Cq t)) (enters_of func139 (by kernel_rfl) rfl)
  (λk kN hk eW W sN cW tW hW=>by
   obtain rfl:t=k:=by omega
   have tg:∀b,b<W2.heap.size->w.heap.size<=b->500<=sN b:=λb h1 h2=>by rw[tW b h1,fr b h2];omega
   have yV:=eJ.lt (by simp)
   exact Lt hW hk eW ((eJ.calm cW) 0 _ rfl) (tg _ (by omega) (by omega)))
 have c0:=(eJ 0 _ rfl).1;have yM:=gT.out;go_in;go_wp2_with fail
 clear iA;refine hd.mono ?_;rintro e w5 hp;obtain⟨v,x,rfl,hv,hx,n5⟩:=hp;have hP:wG w τ s S t (Vw S (Cq t)) (.returned (.tuple #[vI v,vI x])) w5:=eG.q ht hl RQ.tk (show eG w τ s S (t:Nat) (Vw S (Cq t)) (.returned (.tuple #[vI v,vI x])) w5 from⟨v,x,rfl,hv,hx,n5.outT k2 tk⟩);replace hP:=af hP;clear hd n5;go_wp2
 go_ret2
 exact hP.out
theorem Gf(h:St w τ s S){t:Nat}(ht:t<S.bB.length)(hl:(S.tx t).live=true)(oL:(S.now:Int)<S.aW) :
 aL prog 66 #[pV S.sp,vI (t:Int)] w (wG w τ s S t (Vw S (vE t))):=by
 obtain⟨τ0,hf,tk,fr⟩:=h.fresh;have gT:=af dm;obtain⟨W2,iA,k2,eJ,-⟩:=dy w [pV S.sp] 56;have zF:500<=τ0 (w.heap.size):=by rw[fr _ (by omega)];omega
 have hd:=ib (s':=s) (hf.calm k2) (aM _) (t:Int) ⟨by have:=h.ok.n;omega,by have:=h.ok.n;omega⟩ 122 #[aR w.heap.size] (Vw S (vE t)) (enters_of func122 (by kernel_rfl) rfl)
  (λk kN hk eW W sN cW tW hW=>by
   obtain rfl:t=k:=by omega
   have tg:∀b,b<W2.heap.size->w.heap.size<=b->500<=sN b:=λb h1 h2=>by rw[tW b h1,fr b h2];omega
   have yV:=eJ.lt (by simp)
   exact CM hW hk eW oL ((eJ.calm cW) 0 _ rfl) (tg _ (by omega) (by omega)))
 have c0:=(eJ 0 _ rfl).1;have yM:=gT.out;go_in;go_wp2_with fail
 clear iA;refine hd.mono ?_;rintro e w5 hp;obtain⟨v,x,rfl,hv,hx,n5⟩:=hp;have hP:wG w τ s S t (Vw S (vE t)) (.returned (.tuple #[vI v,vI x])) w5:=eG.q ht hl RQ.cm (show eG w τ s S (t:Nat) (Vw S (vE t)) (.returned (.tuple #[vI v,vI x])) w5 from⟨v,x,rfl,hv,hx,n5.outT k2 tk⟩);replace hP:=af hP;clear hd n5;go_wp2
 go_ret2
 exact hP.out
theorem Nl(h:St w τ s S){t:Nat}(ht:t<S.bB.length)(hl:(S.tx t).live=true){a:Nat}(ha:a<=131072){d9:Dd}(jY:d9.k=8)(b9:Nat) :
 aL prog 80 #[pV S.sp,vI (t:Int),vI (a:Int)] w (T_ w τ s S t (λv x S'=>v=0/\jK d9 b9 t a x (vw S) (vw S'))):=by
 obtain⟨τ0,hf,tk,fr⟩:=h.fresh;have gT:=af dm;obtain⟨W2,iA,k2,eJ,xz⟩:=rU w [pV S.sp] 56 [vI (a:Int)] 3;have zF:500<=τ0 (w.heap.size):=by rw[fr _ (by omega)];omega
 have U3:500<=τ0 (w.heap.size+1):=by rw[fr _ (by omega)];omega
 have hd:=ib (s':=s) (hf.calm k2) (aM _) (t:Int) ⟨by have:=h.ok.n;omega,by have:=h.ok.n;omega⟩ 146 #[aR w.heap.size,.pointer (some ⟨w.heap.size+1,0,none⟩)] (λv x S'=>v=0/\jK d9 b9 t a x (vw S) (vw S')) (enters_of func146 (by kernel_rfl) rfl)
  (λk kN hk eW W sN cW tW hW=>by
   obtain rfl:t=k:=by omega
   have tg:∀b,b<W2.heap.size->w.heap.size<=b->500<=sN b:=λb h1 h2=>by rw[tW b h1,fr b h2];omega
   have yV:=eJ.lt (by simp);have UO:=xz.lt (by simp)
   exact Jf hW hk eW ha jY b9 ((eJ.calm cW) 0 _ rfl) ((xz.calm cW) 0 _ rfl) (tg _ (by omega) (by omega)) (tg _ (by omega) (by omega)))
 have c0:=(eJ 0 _ rfl).1;have yM:=gT.out;go_in;go_wp2_with fail
 clear iA;refine hd.mono ?_;rintro e w5 hp;obtain⟨v,x,rfl,hv,hx,n5⟩:=hp;have hP:wG w τ s S t (λv x S'=>v=0/\jK d9 b9 t a x (vw S) (vw S')) (.returned (.tuple #[vI v,vI x])) w5:=eG.q ht hl RQ.ch (show eG w τ s S (t:Nat) (λv x S'=>v=0/\jK d9 b9 t a x (vw S) (vw S')) (.returned (.tuple #[vI v,vI x])) w5 from⟨v,x,rfl,hv,hx,n5.outT k2 tk⟩)
 have Jk:T_ w τ s S t (λv x S'=>v=0/\jK d9 b9 t a x (vw S) (vw S')) (.returned (vI x)) w5:=by
  obtain⟨v1,x1,e1,_,g1,g3⟩:=hP;injection e1 with e1;injection e1 with e1;simp at e1;obtain⟨rfl,rfl⟩:=e1
  refine⟨_,rfl,g1,g3.mono (aM _) λS' g=>?_⟩;rcases g with ⟨g4,g5⟩|⟨g4,_,g5⟩
  ·exact .inl ⟨g4,rfl,g5.2⟩
  ·exact .inr ⟨g4,rfl,g5⟩
 replace Jk:=af Jk;clear hd n5 hP;go_wp2;go_ret;exact Jk.out
theorem Tv(h:St w τ s S){t:Nat}(ht:t<S.bB.length)(hl:(S.tx t).live=true){a:Nat}(ha:a<=131072){k:Int}(yK:cL k)(ic:0<=k){b:Nat}(hb:b<=131072){dd:Dd}(jY:dd.k=5)(sy:dd.i=k) :
 aL prog 77 #[pV S.sp,vI (t:Int),vI (a:Int),vI k,vI (b:Int)] w (T_ w τ s S t (λv x S'=>v=0/\jK dd b t a x (vw S) (vw S'))):=by
 obtain⟨τ0,hf,tk,fr⟩:=h.fresh;have gT:=af dm;obtain⟨W2,iA,k2,eJ,xz,Ky,X0⟩:=Fh w [pV S.sp] 56 [vI (a:Int)] 3 [vI k] 3 [vI (b:Int)] 3;have zF:500<=τ0 (w.heap.size):=by rw[fr _ (by omega)];omega
 have U3:500<=τ0 (w.heap.size+1):=by rw[fr _ (by omega)];omega
 have t_k:500<=τ0 (w.heap.size+1+1):=by rw[fr _ (by omega)];omega
 have t_b:500<=τ0 (w.heap.size+1+1+1):=by rw[fr _ (by omega)];omega
 have hd:=ib (s':=s) (hf.calm k2) (aM _) (t:Int) ⟨by have:=h.ok.n;omega,by have:=h.ok.n;omega⟩ 141 #[.pointer (some ⟨w.heap.size+1+1+1,0,none⟩),aR w.heap.size,.pointer (some ⟨w.heap.size+1,0,none⟩),.pointer (some ⟨w.heap.size+1+1,0,none⟩)] (λv x S'=>v=0/\jK dd b t a x (vw S) (vw S')) (enters_of func141 (by kernel_rfl) rfl)
  (λk kN hk eW W sN cW tW hW=>by
   obtain rfl:t=k:=by omega
   have tg:∀b,b<W2.heap.size->w.heap.size<=b->500<=sN b:=λb h1 h2=>by rw[tW b h1,fr b h2];omega
   have yV:=eJ.lt (by simp);have UO:=xz.lt (by simp);have l_k:=Ky.lt (by simp);have l_b:=X0.lt (by simp)
   exact OX hW hk eW ha yK ic hb jY sy ((eJ.calm cW) 0 _ rfl) ((xz.calm cW) 0 _ rfl) ((Ky.calm cW) 0 _ rfl) ((X0.calm cW) 0 _ rfl))
 have c0:=(eJ 0 _ rfl).1;have yM:=gT.out;go_in;go_wp2_with fail
 clear iA;refine hd.mono ?_;rintro e w5 hp;obtain⟨v,x,rfl,hv,hx,n5⟩:=hp;have hP:wG w τ s S t (λv x S'=>v=0/\jK dd b t a x (vw S) (vw S')) (.returned (.tuple #[vI v,vI x])) w5:=eG.q ht hl RQ.ch (show eG w τ s S (t:Nat) (λv x S'=>v=0/\jK dd b t a x (vw S) (vw S')) (.returned (.tuple #[vI v,vI x])) w5 from⟨v,x,rfl,hv,hx,n5.outT k2 tk⟩)
 have Jk:T_ w τ s S t (λv x S'=>v=0/\jK dd b t a x (vw S) (vw S')) (.returned (vI x)) w5:=by
  obtain⟨v1,x1,e1,_,g1,g3⟩:=hP;injection e1 with e1;injection e1 with e1;simp at e1;obtain⟨rfl,rfl⟩:=e1
  refine⟨_,rfl,g1,g3.mono (aM _) λS' g=>?_⟩;rcases g with ⟨g4,g5⟩|⟨g4,_,g5⟩
  ·exact .inl ⟨g4,rfl,g5.2⟩
  ·exact .inr ⟨g4,rfl,g5⟩
 replace Jk:=af Jk;clear hd n5 hP;go_wp2;go_ret;exact Jk.out
theorem L2(h:St w τ s S){t:Nat}(ht:t<S.bB.length)(hl:(S.tx t).live=true){a:Nat}(ha:a<=131072){k:Int}(yK:cL k)(ic:0<=k){b:Int}(hb:cL b){dd:Dd}(jY:dd.k=7)(sy:dd.i=k)(RZ:dd.n=b)(bb:Nat) :
 aL prog 79 #[pV S.sp,vI (t:Int),vI (a:Int),vI k,vI b] w (T_ w τ s S t (λv x S'=>v=0/\jK dd bb t a x (vw S) (vw S'))):=by
 obtain⟨τ0,hf,tk,fr⟩:=h.fresh;have gT:=af dm;obtain⟨W2,iA,k2,eJ,xz,Ky,X0⟩:=Fh w [pV S.sp] 56 [vI (a:Int)] 3 [vI k] 3 [vI b] 3;have zF:500<=τ0 (w.heap.size):=by rw[fr _ (by omega)];omega
 have U3:500<=τ0 (w.heap.size+1):=by rw[fr _ (by omega)];omega
 have t_k:500<=τ0 (w.heap.size+1+1):=by rw[fr _ (by omega)];omega
 have t_b:500<=τ0 (w.heap.size+1+1+1):=by rw[fr _ (by omega)];omega
 have hd:=ib (s':=s) (hf.calm k2) (aM _) (t:Int) ⟨by have:=h.ok.n;omega,by have:=h.ok.n;omega⟩ 144 #[.pointer (some ⟨w.heap.size+1,0,none⟩),.pointer (some ⟨w.heap.size+1+1,0,none⟩),aR w.heap.size,.pointer (some ⟨w.heap.size+1+1+1,0,none⟩)] (λv x S'=>v=0/\jK dd bb t a x (vw S) (vw S')) (enters_of func144 (by kernel_rfl) rfl)
  (λk kN hk eW W sN cW tW hW=>by
   obtain rfl:t=k:=by omega
   have tg:∀b,b<W2.heap.size->w.heap.size<=b->500<=sN b:=λb h1 h2=>by rw[tW b h1,fr b h2];omega
   have yV:=eJ.lt (by simp);have UO:=xz.lt (by simp);have l_k:=Ky.lt (by simp);have l_b:=X0.lt (by simp)
   exact Hr hW hk eW ha yK ic hb jY sy RZ bb ((eJ.calm cW) 0 _ rfl) ((xz.calm cW) 0 _ rfl) ((Ky.calm cW) 0 _ rfl) ((X0.calm cW) 0 _ rfl))
 have c0:=(eJ 0 _ rfl).1;have yM:=gT.out;go_in;go_wp2_with fail
 clear iA;refine hd.mono ?_;rintro e w5 hp;obtain⟨v,x,rfl,hv,hx,n5⟩:=hp;have hP:wG w τ s S t (λv x S'=>v=0/\jK dd bb t a x (vw S) (vw S')) (.returned (.tuple #[vI v,vI x])) w5:=eG.q ht hl RQ.ch (show eG w τ s S (t:Nat) (λv x S'=>v=0/\jK dd bb t a x (vw S) (vw S')) (.returned (.tuple #[vI v,vI x])) w5 from⟨v,x,rfl,hv,hx,n5.outT k2 tk⟩)
 have Jk:T_ w τ s S t (λv x S'=>v=0/\jK dd bb t a x (vw S) (vw S')) (.returned (vI x)) w5:=by
  obtain⟨v1,x1,e1,_,g1,g3⟩:=hP;injection e1 with e1;injection e1 with e1;simp at e1;obtain⟨rfl,rfl⟩:=e1
  refine⟨_,rfl,g1,g3.mono (aM _) λS' g=>?_⟩;rcases g with ⟨g4,g5⟩|⟨g4,_,g5⟩
  ·exact .inl ⟨g4,rfl,g5.2⟩
  ·exact .inr ⟨g4,rfl,g5⟩
 replace Jk:=af Jk;clear hd n5 hP;go_wp2;go_ret;exact Jk.out
theorem Nf(h:St w τ s S){t:Nat}(ht:t<S.bB.length)(hl:(S.tx t).live=true){a:Nat}(ha:a<=131072){k:Int}(yK:cL k)(ic:0<=k) :
 aL prog 134 #[pV S.sp,vI (t:Int),vI (a:Int),vI k,.func (.func 135) #[] #[]] w (wG w τ s S t (λv x S'=>iY 4 t a k (λo=>(o.ps.getD k.toNat 0:Nat)) v x (vw S) (vw S')/\0<=v/\v<=131072)):=by
 obtain⟨τ0,hf,tk,fr⟩:=h.fresh;have gT:=af dm;obtain⟨W2,iA,k2,eJ,xz,Ky,X1⟩:=Fh w [pV S.sp] 56 [vI (a:Int)] 3 [vI k] 3 [.func (.func 135) #[] #[]] 226;have zF:500<=τ0 (w.heap.size):=by rw[fr _ (by omega)];omega
 have U3:500<=τ0 (w.heap.size+1):=by rw[fr _ (by omega)];omega
 have t_k:500<=τ0 (w.heap.size+1+1):=by rw[fr _ (by omega)];omega
 have t_f:500<=τ0 (w.heap.size+1+1+1):=by rw[fr _ (by omega)];omega
 have hd:=ib (s':=s) (hf.calm k2) (aM _) (t:Int) ⟨by have:=h.ok.n;omega,by have:=h.ok.n;omega⟩ 187 #[aR w.heap.size,.pointer (some ⟨w.heap.size+1,0,none⟩),.pointer (some ⟨w.heap.size+1+1+1,0,none⟩),.pointer (some ⟨w.heap.size+1+1,0,none⟩)] (λv x S'=>iY 4 t a k (λo=>(o.ps.getD k.toNat 0:Nat)) v x (vw S) (vw S')/\0<=v/\v<=131072) (enters_of func187 (by kernel_rfl) rfl)
  (λk kN hk eW W sN cW tW hW=>by
   obtain rfl:t=k:=by omega
   have tg:∀b,b<W2.heap.size->w.heap.size<=b->500<=sN b:=λb h1 h2=>by rw[tW b h1,fr b h2];omega
   have yV:=eJ.lt (by simp);have UO:=xz.lt (by simp);have l_k:=Ky.lt (by simp);have l_f:=X1.lt (by simp)
   exact Jb hW hk eW ha ic ((eJ.calm cW) 0 _ rfl) ((xz.calm cW) 0 _ rfl) ((X1.calm cW) 0 _ rfl) ((Ky.calm cW) 0 _ rfl) (tg _ (by omega) (by omega)) (tg _ (by omega) (by omega)) (tg _ (by omega) (by omega)) (tg _ (by omega) (by omega)))
 have c0:=(eJ 0 _ rfl).1;have yM:=gT.out;go_in;go_wp2_with fail
 clear iA;refine hd.mono ?_;rintro e w5 hp;obtain⟨v,x,rfl,hv,hx,n5⟩:=hp;have hP:wG w τ s S t (λv x S'=>iY 4 t a k (λo=>(o.ps.getD k.toNat 0:Nat)) v x (vw S) (vw S')/\0<=v/\v<=131072) (.returned (.tuple #[vI v,vI x])) w5:=eG.q ht hl RQ.gt.rng (show eG w τ s S (t:Nat) (λv x S'=>iY 4 t a k (λo=>(o.ps.getD k.toNat 0:Nat)) v x (vw S) (vw S')/\0<=v/\v<=131072) (.returned (.tuple #[vI v,vI x])) w5 from⟨v,x,rfl,hv,hx,n5.outT k2 tk⟩);replace hP:=af hP;clear hd n5;go_wp2
 go_ret2
 exact hP.out
theorem Rx(h:St w τ s S){t:Nat}(ht:t<S.bB.length)(hl:(S.tx t).live=true){a:Nat}(ha:a<=131072){k:Int}(yK:cL k)(ic:0<=k) :
 aL prog 74 #[pV S.sp,vI (t:Int),vI (a:Int),vI k] w (wG w τ s S t (λv x S'=>iY 4 t a k (λo=>(o.ps.getD k.toNat 0:Nat)) v x (vw S) (vw S')/\0<=v/\v<=131072)):=by
 have hd:=Nf h ht hl ha yK ic;go_in;go_wp2_with fail
 refine hd.mono ?_;rintro e w5 hp;have UE:=af hp;obtain⟨v,x,rfl,-⟩:=hp;clear hd;go_wp2
 go_ret2
 exact UE.out
theorem Ng(h:St w τ s S){t:Nat}(ht:t<S.bB.length)(hl:(S.tx t).live=true){a:Nat}(ha:a<=131072){k:Int}(yK:cL k)(ic:0<=k) :
 aL prog 134 #[pV S.sp,vI (t:Int),vI (a:Int),vI k,.func (.func 143) #[] #[]] w (wG w τ s S t (Vw S (iY 6 t a k (λo=>zt (o.ns.getD k.toNat 0))))):=by
 obtain⟨τ0,hf,tk,fr⟩:=h.fresh;have gT:=af dm;obtain⟨W2,iA,k2,eJ,xz,Ky,X1⟩:=Fh w [pV S.sp] 56 [vI (a:Int)] 3 [vI k] 3 [.func (.func 143) #[] #[]] 226;have zF:500<=τ0 (w.heap.size):=by rw[fr _ (by omega)];omega
 have U3:500<=τ0 (w.heap.size+1):=by rw[fr _ (by omega)];omega
 have t_k:500<=τ0 (w.heap.size+1+1):=by rw[fr _ (by omega)];omega
 have t_f:500<=τ0 (w.heap.size+1+1+1):=by rw[fr _ (by omega)];omega
 have hd:=ib (s':=s) (hf.calm k2) (aM _) (t:Int) ⟨by have:=h.ok.n;omega,by have:=h.ok.n;omega⟩ 187 #[aR w.heap.size,.pointer (some ⟨w.heap.size+1,0,none⟩),.pointer (some ⟨w.heap.size+1+1+1,0,none⟩),.pointer (some ⟨w.heap.size+1+1,0,none⟩)] (Vw S (iY 6 t a k (λo=>zt (o.ns.getD k.toNat 0)))) (enters_of func187 (by kernel_rfl) rfl)
  (λk kN hk eW W sN cW tW hW=>by
   obtain rfl:t=k:=by omega
   have tg:∀b,b<W2.heap.size->w.heap.size<=b->500<=sN b:=λb h1 h2=>by rw[tW b h1,fr b h2];omega
   have yV:=eJ.lt (by simp);have UO:=xz.lt (by simp);have l_k:=Ky.lt (by simp);have l_f:=X1.lt (by simp)
   exact Jc hW hk eW ha ic ((eJ.calm cW) 0 _ rfl) ((xz.calm cW) 0 _ rfl) ((X1.calm cW) 0 _ rfl) ((Ky.calm cW) 0 _ rfl) (tg _ (by omega) (by omega)) (tg _ (by omega) (by omega)) (tg _ (by omega) (by omega)) (tg _ (by omega) (by omega)))
 have c0:=(eJ 0 _ rfl).1;have yM:=gT.out;go_in;go_wp2_with fail
 clear iA;refine hd.mono ?_;rintro e w5 hp;obtain⟨v,x,rfl,hv,hx,n5⟩:=hp;have hP:wG w τ s S t (Vw S (iY 6 t a k (λo=>zt (o.ns.getD k.toNat 0)))) (.returned (.tuple #[vI v,vI x])) w5:=eG.q ht hl RQ.gt (show eG w τ s S (t:Nat) (Vw S (iY 6 t a k (λo=>zt (o.ns.getD k.toNat 0)))) (.returned (.tuple #[vI v,vI x])) w5 from⟨v,x,rfl,hv,hx,n5.outT k2 tk⟩);replace hP:=af hP;clear hd n5;go_wp2
 go_ret2
 exact hP.out
theorem O1(h:St w τ s S){t:Nat}(ht:t<S.bB.length)(hl:(S.tx t).live=true){a:Nat}(ha:a<=131072){k:Int}(yK:cL k)(ic:0<=k) :
 aL prog 78 #[pV S.sp,vI (t:Int),vI (a:Int),vI k] w (wG w τ s S t (Vw S (iY 6 t a k (λo=>zt (o.ns.getD k.toNat 0))))):=by
 have hd:=Ng h ht hl ha yK ic;go_in;go_wp2_with fail
 refine hd.mono ?_;rintro e w5 hp;have UE:=af hp;obtain⟨v,x,rfl,-⟩:=hp;clear hd;go_wp2
 go_ret2
 exact UE.out
end
theorem Fr.setCells{S:Nat->Prop}{b:Nat}(hb:S b):∀ (vs:List aC) (o:Nat) {a w:aj},Fr S a w->Fr S a (w.setCells b o vs)
 | [],_,_,_,h=>h
 | v::r,o,a,w,h=>Fr.setCells hb r (o+1) (h.setCell (p:=⟨b,o,none⟩) (.inl hb) v)
theorem ag.whole{w:aj}{b:Nat}{vs us:List aC}(h:ag w b vs)(hl:us.length=vs.length):ag (w.setCells b 0 us) b us:=λi u hu=>by
 have hi:i<us.length:=(List.getElem?_eq_some_iff.1 hu).1;refine⟨?_,?_⟩
 ·have:=World.cell?_setCells_in b us 0 w (λj hj=>by
   obtain⟨v,hv⟩:∃v,vs[j]?=some v:=⟨vs[j]'(by omega),jI _⟩
   rw[fk,(h j v hv).1];rfl) i hi
  rw[fk] at this;rw[this,<-hu,jI hi]
 ·rw[World.frozen?_setCells];obtain⟨v,hv⟩:∃v,vs[i]?=some v:=⟨vs[i]'(by omega),jI _⟩;exact(h i v hv).2
theorem ag.there{w:aj}{b:Nat}{vs:List aC}(h:ag w b vs)(n:Nat)(hn:n=vs.length):w.there b 0 n:=λj hj=>by
 obtain⟨v,hv⟩:∃v,vs[j]?=some v:=⟨vs[j]'(by omega),jI _⟩;have:=h j v hv;rw[fk];exact⟨by rw[this.1];rfl,this.2⟩
theorem il{P:Program}{ops:Array Oper}{rest:List Oper}{op:Oper}{a:Act}{w:aj}{Q:Exit->Act->aj->Prop}(oJ:op.guard=none)(ty:TypeId)(x y:Operand)(ho:op.op=.store ty x y)
 (b:Nat) (cells:Array aC) (hx:a.eval x = aR b) (hy:a.eval y=.agg cells) {vs:List aC} (own:ag w b vs) (hn:cells.size=vs.length) (hi:(P.info? ty).map (·.size)=some cells.size) (h1:cells.all (·.oneCell')=true)
 (h:∀w',ag w' b cells.toList->Fr (λk=>k=b) w w'->wpList P ops Q rest (a.put op.dst undef) w'):wpList P ops Q (op::rest) a w:=
 wpList_store_mid oJ ty x y ho b 0 cells hx hy (own.there _ hn) hi h1 (h _ (own.whole (by simpa using hn)) (Fr.setCells (S:=λk=>k=b) rfl _ _ aq))
theorem iQ(x:bT):(bq x).length=15:=rfl
theorem cd{fn:Func}{i j:Nat}{W:aj}{B5 B6:Nat}{x:bT}{k e v:Int}{tmps:Array aC}(hf:fn.results = #[.cell i 31,.cell j 35])(h5:tmps[i]?.getD undef = aR B5)(h6:tmps[j]?.getD undef = aR B6)
 (t:ag W B5 (bq x)) (u:ag W B6 [vI k,vI e,vI v]):(results fn tmps).run prog W=.ok (.tuple #[bO x,cO k e v]) W:=by
 simp only[bq,rg] at t;obtain⟨y0,y1,y2,y3,y4,y5,y6,y7,y8,y9,lN,nB,nC,ko,kp⟩:=ag.nY t;obtain⟨z0,z1,z2⟩:=ag.sP u;simp[results,hf,h5,h6,go_sem,bO,cO,rg,y0,y1,y2,y3,y4,y5,y6,y7,y8,y9,lN,nB,nC,ko,kp,z0,z1,z2]
theorem ij{w:aj}{x:bT}{B:Nat}(h:ag w B (bq x))(hb:0<=x.b/\x.b<=1000)(hp:0<=x.p/\x.p<=1000)(v e:Int) :
 aL prog 68 #[vI v,vI e,aR B] w (Vg w x v e):=by
 have k2:Calm w ((w.alloc (.cells #[vI 0,vI 0,vI 0,vI 0,vI 0,vI 0,vI 0,vI 0,vI 0,vI 0,vI 0,vI 0,vI 0,vI 0,.bool false] 31)).alloc (.cells #[vI 0,vI 0,vI 0] 35)):=(aq.alloc _).alloc _;have o5:ag ((w.alloc (.cells #[vI 0,vI 0,vI 0,vI 0,vI 0,vI 0,vI 0,vI 0,vI 0,vI 0,vI 0,vI 0,vI 0,vI 0,.bool false] 31)).alloc (.cells #[vI 0,vI 0,vI 0] 35)) w.heap.size [vI 0,vI 0,vI 0,vI 0,vI 0,vI 0,vI 0,vI 0,vI 0,vI 0,vI 0,vI 0,vI 0,vI 0,.bool false]:=(ag.lI w [_,_,_,_,_,_,_,_,_,_,_,_,_,_,_] _ _ rfl).alloc _;have o6:ag ((w.alloc (.cells #[vI 0,vI 0,vI 0,vI 0,vI 0,vI 0,vI 0,vI 0,vI 0,vI 0,vI 0,vI 0,vI 0,vI 0,.bool false] 31)).alloc (.cells #[vI 0,vI 0,vI 0] 35)) (w.heap.size+1) [vI 0,vI 0,vI 0]:=ag.lI (w.alloc _) [_,_,_] _ _ (by simp);generalize iA:((w.alloc (.cells #[vI 0,vI 0,vI 0,vI 0,vI 0,vI 0,vI 0,vI 0,vI 0,vI 0,vI 0,vI 0,vI 0,vI 0,.bool false] 31)).alloc (.cells #[vI 0,vI 0,vI 0] 35))=W2 at *;have h2:=h.calm k2;simp only[bq,rg] at h2;obtain⟨y0,y1,y2,y3,y4,y5,y6,y7,y8,y9,lN,nB,nC,ko,kp⟩:=ag.nY h2;have oe:=Pm W2 x hb hp v e;simp only[bO,rg] at oe;go_in;go_wp2_with fail
 clear iA;refine oe.mono ?_;rintro en w3 ⟨rfl,k3⟩;clear oe y0 y1 y2 y3 y4 y5 y6 y7 y8 y9 lN nB nC ko kp h2;have jH:=o5.calm k3;have lx:=o6.calm k3;generalize dg:x.cV e=x2 at *;generalize eC:(if e=0 then v else 0)=v2 at *;replace dg:=af dg;replace eC:=af eC;simp only[bO,cO,rg];obtain⟨y0,z0,y1,z1,y2,z2,y3,z3,y4,z4,y5,z5,y6,z6,y7,z7,y8,z8,y9,z9,lN,vo,nB,xR,nC,xS,ko,zL,kp,vB⟩:=ag.jU jH;obtain⟨wD,vC,wE,vD,wF,xT⟩:=ag.sR lx;have T1:=jH.whole (us:=(bq x2)) rfl;have F1:=rG w3 (w.heap.size) 0 (bq x2);have U0:=lx.fr F1 (by omega);have U:=U0.whole (us:=[vI 2,vI e,vI v2]) rfl;have F2:Fr (λk=>k=w.heap.size+1) (w3.setCells w.heap.size 0 (bq x2)) ((w3.setCells w.heap.size 0 (bq x2)).setCells (w.heap.size+1) 0 [vI 2,vI e,vI v2]):=Fr.setCells (S:=λk=>k=w.heap.size+1) rfl _ _ aq;have T:=T1.fr F2 (by omega);have hC:Calm w ((w3.setCells w.heap.size 0 (bq x2)).setCells (w.heap.size+1) 0 [vI 2,vI e,vI v2]):=((k2.trans k3).join F1 (λj hj e=>by omega)).join F2 (λj hj e=>by omega);replace hC:=af hC;replace T:=af T;replace U:=af U;clear T1 F1 U0 F2;go_wp2;exact bodyPost_ret (v:=.tuple #[bO x2,cO 2 e v2]) (cd (i:=5) (j:=6) rfl rfl rfl T.out U.out) rfl ⟨by rw[dg.out,eC.out],hC.out⟩
theorem fc(s:Int):∀ (l:List Mo) (i:Int),gQ l s i = -1\/(i<=gQ l s i/\gQ l s i<i+l.length/\(l.getD (gQ l s i-i).toNat jB).ser=s)
 | [],i=>.inl rfl
 | x::l,i=>by
   unfold gQ
   by_cases e:x.ser=s
   ·rw[if_pos e];exact .inr ⟨Int.le_refl _,by simp;omega,by rw[Int.sub_self];exact e⟩
   ·rw[if_neg e];rcases fc s l (i+1) with h|⟨h1,h2,h3⟩
    ·exact .inl h
    ·refine .inr ⟨by omega,by simp at h2 ⊢;omega,?_⟩;rw[show(gQ l s (i+1)-i).toNat=(gQ l s (i+1)-(i+1)).toNat+1 by omega];exact h3
def lays(l:List Mo)(fresh:Int):Int:=if fresh<1\/0<=gQ l fresh 0 then 1 else 0
theorem jw{T:Nat->Prop}{w:aj}{v qv:aC}{ms:List fW}(h:bL T w v ms)(hl:ms.length<=100000)(fresh:Int) :
 aL prog 202 #[.agg #[v,qv],vI fresh] w λe w'=>e=.returned (vI (lays (ms.map (·.x)) fresh))/\Calm w w':=by
 have k0:Calm w (w.alloc (.cells #[v,qv] 92)):=aq.alloc _;have hp:=af (λW (c:Calm w W)=>dZ (h.calm c) hl fresh);obtain⟨p,EU⟩:=au (gQ (ms.map (·.x)) fresh 0);have ml:=fc fresh (ms.map (·.x)) 0;rw[EU,List.length_map] at ml;have Gx:lays (ms.map (·.x)) fresh=if fresh<1\/0<=p then 1 else 0:=by unfold lays;rw[EU]
 obtain⟨L,hL⟩:=au (lays (ms.map (·.x)) fresh);rw[hL] at Gx ⊢;clear hL h;rcases(by omega:fresh<1\/1<=fresh) with h1|h1
 ·have hd:decide (fresh<1)=true:=decide_eq_true h1;have hr:=af (Gx.trans (if_pos (.inl h1)));clear EU ml Gx;go_in;go_wp2;go_ret;exact⟨by rw[hr.out];rfl,k0⟩
 ·have hd:decide (fresh<1)=false:=decide_eq_false (by omega)
  have hcs:(0<=p/\L=1)\/(p<0/\L=0):=by
   rcases(by omega:0<=p\/p<0) with e|e
   ·exact .inl ⟨e,Gx.trans (if_pos (.inr e))⟩
   ·exact .inr ⟨e,Gx.trans (if_neg (by omega))⟩
  have op:=hp.out _ k0;rw[EU] at op;replace EU:=af EU;clear Gx ml;rcases hcs with ⟨e,rfl⟩|⟨e,rfl⟩
  ·go_in;go_wp2_with fail
   refine op.mono ?_;rintro e w' ⟨rfl,c⟩;have kc:=k0.trans c;have hd2:decide (p>=0)=true:=decide_eq_true (by omega);clear op;go_wp2;go_ret;exact⟨rfl,kc⟩
  ·go_in;go_wp2_with fail
   refine op.mono ?_;rintro e w' ⟨rfl,c⟩;have kc:=k0.trans c;have hd2:decide (p>=0)=false:=decide_eq_false (by omega);clear op;go_wp2;go_ret;exact⟨rfl,kc⟩
def cZ(l:List Mo)(s k i fresh:Int):Int:=
 if s=0\/gQ l s 0<0 then 143 else if k=3 then lays l fresh else
 if (l.getD (gQ l s 0).toNat jB).fr=true then 142 else if k=8 then 0 else if (l.getD (gQ l s 0).toNat jB).wk≠(k==9) then 144
 else if (if k=6\/k=7 then ((l.getD (gQ l s 0).toNat jB).ns.length:Int) else ((l.getD (gQ l s 0).toNat jB).ps.length:Int))<=i then 71 else 0
def CS(l:List Mo)(R:List Int)(d:Dd)(fresh:Int):Int:=
 if d.k=1\/d.k=2 then lays l fresh else if d.k=3\/d.k=4\/d.k=9 then cZ l (R.getD d.b.toNat 0) d.k d.i fresh
 else if d.k=5\/d.k=6\/d.k=7\/d.k=8 then cZ l (R.getD d.a.toNat 0) d.k d.i fresh else 0
abbrev FM:=Int->Option Mo
def lk:List Mo->FM
 | [],_=>none
 | x::l,s=>if x.ser=s then some x else lk l s
def FM.put(f:FM)(s:Int)(x:Mo):FM:=λq=>if q=s then some x else f q
theorem FM.BT(f:FM)(s:Int)(x:Mo):f.put s x s=some x:=if_pos rfl
theorem FM.KV(f:FM){s q:Int}(x:Mo)(h:q≠s):f.put s x q=f q:=if_neg h
theorem xm(s:Int):∀ (l:List Mo) (i:Int),(lk l s=none/\gQ l s i = -1)\/∃ (x:Mo) (j:Nat),lk l s=some x/\x.ser=s/\gQ l s i=i+j/\j<l.length/\l.getD j jB=x
 | [],_=>.inl ⟨rfl,rfl⟩
 | x::l,i=>by
   unfold lk gQ
   by_cases h:x.ser=s
   ·rw[if_pos h,if_pos h];exact .inr ⟨x,0,rfl,h,by simp,by simp,rfl⟩
   ·rw[if_neg h,if_neg h];rcases xm s l (i+1) with h1|⟨y,j,h1,h2,h3,h4,h5⟩
    ·exact .inl h1
    ·exact .inr ⟨y,j+1,h1,h2,by rw[h3];omega,by simpa using h4,h5⟩
theorem Dz{l:List Mo}{s:Int}{x:Mo}(h:lk l s=some x):x.ser=s:=by
 rcases xm s l 0 with ⟨h1,_⟩|⟨y,_,h1,h2,_⟩
 ·rw[h1] at h;cases h
 ·rw[h1] at h;cases h;exact h2
theorem Kc{s:Int}{y:Mo}(hy:y.ser=s):∀ (l:List Mo) (i:Int) (j:Nat),0<=i->gQ l s i=i+j->j<l.length->lk (l.set j y)=(lk l).put s y
 | [],_,_,_,_,h=>by simp at h
 | x::l,i,0,hi,hp,_=>by
   have hx:x.ser=s:=by
    by_cases h:x.ser=s
    ·exact h
    ·unfold gQ at hp;rw[if_neg h] at hp;rcases xm s l (i+1) with ⟨_,h2⟩|⟨_,k,_,_,h3,_⟩
     ·rw[h2] at hp;omega
     ·rw[h3] at hp;omega
   funext q;simp only[qq,lk,FM.put]
   by_cases h:q=s
   ·rw[if_pos (hy.trans h.symm),if_pos h]
   ·rw[if_neg (λe=>h (e.symm.trans hy)),if_neg h,if_neg (λe=>h (e.symm.trans hx))]
 | x::l,i,j+1,hi,hp,hj=>by
   have hx:x.ser≠s:=by
    intro h;unfold gQ at hp;rw[if_pos h] at hp;omega
   have Di:gQ l s (i+1)=(i+1)+j:=by
    unfold gQ at hp;rw[if_neg hx] at hp;rw[hp];omega
   have ih:=Kc hy l (i+1) j (by omega) Di (by simpa using hj);funext q;simp only[rj,lk,FM.put];rw[ih]
   by_cases h:q=s
   ·rw[if_pos h,if_neg (λe=>hx (e.trans h))];exact if_pos h
   ·rw[if_neg h];split
    ·rfl
    ·exact if_neg h
theorem Kb{y:Mo} : ∀ (l:List Mo),lk l y.ser=none->lk (l++[y])=(lk l).put y.ser y
 | [],_=>by
   funext q;simp only[List.nil_append,lk,FM.put]
   by_cases h:y.ser=q
   ·rw[if_pos h,if_pos h.symm]
   ·rw[if_neg h,if_neg (Ne.symm h)]
 | x::l,h=>by
   have hx:x.ser≠y.ser:=by
    intro e;unfold lk at h;rw[if_pos e] at h;cases h
   have h':lk l y.ser=none:=by unfold lk at h;rwa [if_neg hx] at h
   have ih:=Kb l h';funext q;simp only[List.cons_append,lk,FM.put];rw[ih]
   by_cases e:q=y.ser
   ·rw[if_pos e,if_neg (λg=>hx (g.trans e))];exact if_pos e
   ·rw[if_neg e];split
    ·rfl
    ·exact if_neg e
def fE(o:Option Mo)(s k i:Int):Int:=
 if s=0 then 143 else match o with
  | none=>143
  | some x=>if x.fr=true then 142 else if k=8 then 0 else if x.wk≠(k==9) then 144 else if (if k=6\/k=7 then (x.ns.length:Int) else (x.ps.length:Int))<=i then 71 else 0
def xw(d:Dd)(fresh b:Int):Mo:=if d.k=3 then ⟨fresh,1,0,true,false,[b],[],false⟩ else ⟨fresh,d.i,d.n,false,d.k==2,List.replicate d.i.toNat 0,List.replicate d.n.toNat 0,false⟩
def Fe(d:Dd)(b:Int)(x:Mo):Mo:=if d.k=5 then { x with ps:=x.ps.set d.i.toNat b } else if d.k=7 then { x with ns:=x.ns.set d.i.toNat d.n } else { x with fr:=true }
theorem ze(d:Dd)(b:Int)(x:Mo):(Fe d b x).ser=x.ser:=by unfold Fe;split;rfl;split <;> rfl
theorem Fc(d:Dd)(fresh b:Int):(xw d fresh b).ser=fresh:=by unfold xw;split <;> rfl
def oG(o:Option Mo):Mo:=o.getD jB
def l9(f:FM)(R:List Int)(d:Dd)(fresh:Int):FM × List Int × Int × Int:=
 if d.k=1\/d.k=2 then (if fresh<1\/f fresh≠none then (f,R,0,1) else (f.put fresh (xw d fresh 0),R.set d.a.toNat fresh,fresh,0))
 else if d.k=3 then (if R.getD d.b.toNat 0=0\/f (R.getD d.b.toNat 0)=none then (f,R,0,143) else if fresh<1\/f fresh≠none then (f,R,0,1) else (f.put fresh (xw d fresh (R.getD d.b.toNat 0)),R.set d.a.toNat fresh,fresh,0))
 else if d.k=4\/d.k=9 then (if fE (f (R.getD d.b.toNat 0)) (R.getD d.b.toNat 0) d.k d.i≠0 then (f,R,0,fE (f (R.getD d.b.toNat 0)) (R.getD d.b.toNat 0) d.k d.i)
  else (f,R.set d.a.toNat ((oG (f (R.getD d.b.toNat 0))).ps.getD d.i.toNat 0),(oG (f (R.getD d.b.toNat 0))).ps.getD d.i.toNat 0,0))
 else if d.k=5\/d.k=6\/d.k=7\/d.k=8 then (if fE (f (R.getD d.a.toNat 0)) (R.getD d.a.toNat 0) d.k d.i≠0 then (f,R,0,fE (f (R.getD d.a.toNat 0)) (R.getD d.a.toNat 0) d.k d.i)
  else if d.k=6 then (f,R,(oG (f (R.getD d.a.toNat 0))).ns.getD d.i.toNat 0,0)
  else (f.put (R.getD d.a.toNat 0) (Fe d (R.getD d.b.toNat 0) (oG (f (R.getD d.a.toNat 0)))),R,0,0))
 else if d.k=10\/d.k=13 then (f,R.set d.a.toNat 0,0,0)
 else if d.k=11 then (f,R,if R.getD d.a.toNat 0=R.getD d.b.toNat 0 then 1 else 0,0)
 else if d.k=12 then (f,R.set d.a.toNat (R.getD d.b.toNat 0),0,0)
 else (f,R,0,0)
def gj(l:List Mo)(R:List Int)(d:Dd)(fresh:Int):List Mo × List Int × Int × Int:=
 if CS l R d fresh≠0 then (l,R,0,CS l R d fresh)
 else if d.k=1\/d.k=2\/d.k=3 then (l++[xw d fresh (R.getD d.b.toNat 0)],R.set d.a.toNat fresh,fresh,0)
 else if d.k=4\/d.k=9 then (l,R.set d.a.toNat ((l.getD (gQ l (R.getD d.b.toNat 0) 0).toNat jB).ps.getD d.i.toNat 0),(l.getD (gQ l (R.getD d.b.toNat 0) 0).toNat jB).ps.getD d.i.toNat 0,0)
 else if d.k=6 then (l,R,(l.getD (gQ l (R.getD d.a.toNat 0) 0).toNat jB).ns.getD d.i.toNat 0,0)
 else if d.k=5\/d.k=7\/d.k=8 then (l.set (gQ l (R.getD d.a.toNat 0) 0).toNat (Fe d (R.getD d.b.toNat 0) (l.getD (gQ l (R.getD d.a.toNat 0) 0).toNat jB)),R,0,0)
 else if d.k=10\/d.k=13 then (l,R.set d.a.toNat 0,0,0)
 else if d.k=11 then (l,R,if R.getD d.a.toNat 0=R.getD d.b.toNat 0 then 1 else 0,0)
 else if d.k=12 then (l,R.set d.a.toNat (R.getD d.b.toNat 0),0,0)
 else (l,R,0,0)
theorem E3(l:List Mo)(fresh:Int):lays l fresh=if fresh<1\/lk l fresh≠none then 1 else 0:=by
 unfold lays;rcases xm fresh l 0 with ⟨h1,h2⟩|⟨x,j,h1,_,h2,_⟩
 ·rw[h1,h2];simp
 ·rw[h1,h2];simp
theorem kK(l:List Mo)(s k i fresh:Int):cZ l s k i fresh=if k=3 then (if s=0\/lk l s=none then 143 else lays l fresh) else fE (lk l s) s k i:=by
 unfold cZ fE;rcases xm s l 0 with ⟨h1,h2⟩|⟨x,j,h1,_,h2,_,h3⟩
 ·rw[h1,h2];simp
 ·rw[h1,h2,Int.zero_add,Int.toNat_natCast,h3]
  by_cases hs:s=0
  ·simp[hs]
  ·simp only[hs,false_or,if_false];rw[if_neg (by omega)];simp
theorem mL{o:Option Mo}{s k i:Int}(h:fE o s k i=0):∃x,o=some x:=by
 unfold fE at h;split at h
 ·cases h
 ·cases o with
  | none=>cases h
  | some x=>exact⟨x,rfl⟩
theorem Rh(l:List Mo)(R:List Int)(d:Dd)(fresh:Int)(hr:d.Rt):l9 (lk l) R d fresh=(lk (gj l R d fresh).1,(gj l R d fresh).2.1,(gj l R d fresh).2.2.1,(gj l R d fresh).2.2.2):=by
 have key:∀s x,lk l s=some x->(l.getD (gQ l s 0).toNat jB)=x/\(∀y:Mo,y.ser=s->lk (l.set (gQ l s 0).toNat y)=(lk l).put s y):=by
  intro s x h;rcases xm s l 0 with ⟨h1,h2⟩|⟨y,j,h1,hy,h2,hj,h3⟩
  ·rw[h1] at h;cases h
  ·rw[h1] at h;cases h;rw[show(gQ l s 0).toNat=j by omega];exact⟨h3,λz hz=>Kc hz l 0 j (Int.le_refl _) h2 hj⟩
 have app:∀b,¬(fresh<1\/lk l fresh≠none)->lk (l++[xw d fresh b])=(lk l).put fresh (xw d fresh b):=λb h=>by
  have:=Kb (y:=xw d fresh b) l (by rw[Fc];exact Classical.byContradiction λe=>h (.inr e))
  rwa [Fc] at this
 have SZ:¬(fresh<1\/lk l fresh≠none)->lays l fresh=0:=λh=>by rw[E3,if_neg h]
 have S_:(fresh<1\/lk l fresh≠none)->lays l fresh=1:=λh=>by rw[E3,if_pos h]
 unfold l9 gj CS;generalize hA:R.getD d.a.toNat 0=A;generalize hB:R.getD d.b.toNat 0=B;unfold Dd.Rt at hr;rcases hr with h|h|h|h|h|h|h|h|h|h|h|h|h|h <;> obtain⟨hk,h⟩:=h
 ·simp only[hk]
  by_cases hl:fresh<1\/lk l fresh≠none
  ·simp[hl,S_ hl]
  ·have:=app B hl;simp only[xw,hk] at this ⊢;simp[hl,SZ hl];simpa using this.symm
 ·simp only[hk]
  by_cases hl:fresh<1\/lk l fresh≠none
  ·simp[hl,S_ hl]
  ·have:=app B hl;simp only[xw,hk] at this ⊢;simp[hl,SZ hl];simpa using this.symm
 ·simp only[hk,kK]
  by_cases hs:B=0\/lk l B=none
  ·simp[hs]
  ·by_cases hl:fresh<1\/lk l fresh≠none
   ·simp[hs,hl,S_ hl]
   ·simp[hs,hl,SZ hl];exact(app _ hl).symm
 ·simp only[hk,kK]
  by_cases he:fE (lk l B) B 4 d.i=0
  ·obtain⟨x,hx⟩:=mL he;rw[(key B x hx).1,hx];rw[hx] at he;simp[he,oG]
  ·simp[he]
 ·simp only[hk,kK]
  by_cases he:fE (lk l A) A 5 d.i=0
  ·obtain⟨x,hx⟩:=mL he;have k3:=(key A x hx).2 _ ((ze d B x).trans (Dz hx));rw[(key A x hx).1,hx];rw[hx] at he;simp[he,oG,k3]
  ·simp[he]
 ·simp only[hk,kK]
  by_cases he:fE (lk l A) A 6 d.i=0
  ·obtain⟨x,hx⟩:=mL he;rw[(key A x hx).1,hx];rw[hx] at he;simp[he,oG]
  ·simp[he]
 ·simp only[hk,kK]
  by_cases he:fE (lk l A) A 7 d.i=0
  ·obtain⟨x,hx⟩:=mL he;have k3:=(key A x hx).2 _ ((ze d B x).trans (Dz hx));rw[(key A x hx).1,hx];rw[hx] at he;simp[he,oG,k3]
  ·simp[he]
 ·simp only[hk,kK]
  by_cases he:fE (lk l A) A 8 d.i=0
  ·obtain⟨x,hx⟩:=mL he;have k3:=(key A x hx).2 _ ((ze d B x).trans (Dz hx));rw[(key A x hx).1,hx];rw[hx] at he;simp[he,oG,k3]
  ·simp[he]
 ·simp only[hk,kK]
  by_cases he:fE (lk l B) B 9 d.i=0
  ·obtain⟨x,hx⟩:=mL he;rw[(key B x hx).1,hx];rw[hx] at he;simp[he,oG]
  ·simp[he]
 all_goals simp[hk]
theorem Cg(l:List Ud)(u:Ud)(a:Nat)(o:Ob):pj (l++[u]) a o=pj l a (sg u a o):=by unfold pj;rw[List.foldr_append];rfl
theorem Ee{u:Ud}{a:Nat}(h:u.at_≠a)(o:Ob):sg u a o=o:=if_neg h
structure pL(o o':Ob):Prop where
 ser:o'.ser=o.ser
 p:o'.p=o.p
 d:o'.d=o.d
 wk:o'.wk=o.wk
 fn:o'.fn=o.fn
 snd:o'.snd=o.snd
 lp:o'.ps.length=o.ps.length
 ln:o'.ns.length=o.ns.length
theorem pL.refl(o:Ob):pL o o:=⟨rfl,rfl,rfl,rfl,rfl,rfl,rfl,rfl⟩
theorem pL.trans{a b c:Ob}(h:pL a b)(k:pL b c):pL a c:=⟨k.ser.trans h.ser,k.p.trans h.p,k.d.trans h.d,k.wk.trans h.wk,k.fn.trans h.fn,k.snd.trans h.snd,k.lp.trans h.lp,k.ln.trans h.ln⟩
theorem LW(u:Ud)(a:Nat)(o:Ob):pL o (sg u a o):=by
 unfold sg;split
 ·split
  ·exact⟨rfl,rfl,rfl,rfl,rfl,rfl,bE,rfl⟩
  ·split
   ·exact⟨rfl,rfl,rfl,rfl,rfl,rfl,rfl,bE⟩
   ·exact⟨rfl,rfl,rfl,rfl,rfl,rfl,rfl,rfl⟩
 ·exact .refl o
theorem uY:∀ (l:List Ud) (a:Nat) (o:Ob),pL o (pj l a o)
 | [],_,o=>.refl o
 | u::l,a,o=>(uY l a o).trans (LW u a _)
theorem Px(u:Ud)(a:Nat)(o:Ob)(n:Nat):sg u a { o with snd:=n } = { sg u a o with snd:=n }:=by
 unfold sg;split
 ·split
  ·rfl
  ·split <;> rfl
 ·rfl
theorem FD(a:Nat)(o:Ob)(n:Nat):∀l:List Ud,pj l a { o with snd:=n } = { pj l a o with snd:=n }
 | []=>rfl
 | u::l=>by
   show sg u a (pj l a _) = { sg u a (pj l a o) with snd:=n };rw[FD a o n l,Px]
def nF(σ:PS)(o:Ob)(u:Ud):Prop:=(u.kind=1/\0<=u.i/\u.i<o.p/\0<=u.cC/\(u.cC=0\/∃o',σ.ob u.cC.toNat=some o'))\/(u.kind=2/\0<=u.i/\u.i<o.d)\/u.kind=3
theorem TR{σ:PS}{u:Ud}{o:Ob}(ho:σ.ob u.at_=some o)(hf:nF σ o u):(σ.nz u).tx=σ.tx/\(σ.nz u).ser=σ.ser/\(σ.nz u).now=σ.now/\∀p,(σ.nz u).ob p=(σ.ob p).map (sg u p):=by
 have key:∀ (σ':PS) (g:Ob->Ob),σ'.ob=ni σ.ob u.at_ g->g o=sg u u.at_ o->∀p,σ'.ob p=(σ.ob p).map (sg u p):=λσ' g h1 h2 p=>by
  rw[h1,j9 g ho,h2];show(if p=u.at_ then some (sg u u.at_ o) else σ.ob p)=_
  by_cases e:p=u.at_
  ·rw[if_pos e,e,ho];rfl
  ·rw[if_neg e]
   cases σ.ob p with
   | none=>rfl
   | some q=>exact congrArg some (Ee (λe'=>e e'.symm) q).symm
 unfold PS.nz;rcases hf with ⟨h1,h2,h3,h4,h5⟩|⟨h1,h2,h3⟩|h1
 ·rw[if_pos h1];refine⟨rfl,rfl,rfl,key _ (λo=>o.np (okF u.i o.p) u.i u.cC.toNat) ?_ ?_⟩
  ·show Lo _ _ _ _=_;unfold Lo;rw[if_pos];rcases h5 with e|⟨q,e⟩
   ·left;omega
   ·right;rw[e];intro e';cases e'
  ·show Ob.np _ _ _ _=_;unfold Ob.np okF sg;rw[decide_eq_true ⟨h2,h3⟩,if_pos rfl,if_pos h1];rfl
 ·rw[if_neg (by omega),if_pos h1];refine⟨rfl,rfl,rfl,key _ (λo=>o.oU (okF u.i o.d) u.i u.cC) rfl ?_⟩;show Ob.oU _ _ _ _=_;unfold Ob.oU okF sg;rw[decide_eq_true ⟨h2,h3⟩,if_pos rfl,if_neg (by omega),if_pos h1];rfl
 ·rw[if_neg (by omega),if_neg (by omega),if_pos h1];refine⟨rfl,rfl,rfl,key _ (λo=>{ o with fr:=decide (u.cC≠0) }) rfl ?_⟩;show _=sg _ _ _;unfold sg;rw[if_pos rfl,if_neg (by omega),if_neg (by omega)]
theorem FE{σ:PS} : ∀ {l:List Ud} (h:∀u∈l,∃o,σ.ob u.at_=some o/\nF σ o u),(l.foldr (λu σ=>PS.nz σ u) σ).tx=σ.tx/\(l.foldr (λu σ=>PS.nz σ u) σ).ser=σ.ser/\(l.foldr (λu σ=>PS.nz σ u) σ).now=σ.now/\∀p,(l.foldr (λu σ=>PS.nz σ u) σ).ob p=(σ.ob p).map (pj l p)
 | [],_=>⟨rfl,rfl,rfl,λp=>by show σ.ob p=_;cases σ.ob p <;> rfl⟩
 | u::l,h=>by
   obtain⟨h1,h2,h3,h4⟩:=FE (l:=l) (λv hv=>h v (.tail _ hv));obtain⟨o,ho,hf⟩:=h u (.head _);obtain⟨dE,e⟩:=au (l.foldr (λu σ=>PS.nz σ u) σ);rw[e] at h1 h2 h3 h4;have xe:dE.ob u.at_=some (pj l u.at_ o):=by rw[h4,ho];rfl
   have sm:=uY l u.at_ o
   have WG:nF dE (pj l u.at_ o) u:=by
    rcases hf with ⟨k1,k2,k3,k4,k5⟩|⟨k1,k2,k3⟩|k1
    ·refine .inl ⟨k1,k2,by rw[sm.p];exact k3,k4,k5.imp id λ⟨q,hq⟩=>⟨_,by rw[h4,hq];rfl⟩⟩
    ·exact .inr (.inl ⟨k1,k2,by rw[sm.d];exact k3⟩)
    ·exact .inr (.inr k1)
   obtain⟨g1,g2,g3,g4⟩:=TR xe WG;show(PS.nz (l.foldr (λu σ=>PS.nz σ u) σ) u).tx=_/\(PS.nz (l.foldr (λu σ=>PS.nz σ u) σ) u).ser=_/\(PS.nz (l.foldr (λu σ=>PS.nz σ u) σ) u).now=_/\∀p,(PS.nz (l.foldr (λu σ=>PS.nz σ u) σ) u).ob p=_;rw[e];refine⟨g1.trans h1,g2.trans h2,g3.trans h3,λp=>?_⟩;rw[g4,h4,Option.map_map];rfl
def Mx(h:Hd)(o:Ob):Ob:=if h.bt=0 then { o with snd:=0,fr:=true } else { o with snd:=2*h.bt.toNat }
theorem Ty(σ:PS)(h:Hd):(σ.rel h).tx=σ.tx/\(σ.rel h).ser=σ.ser/\(σ.rel h).now=σ.now/\∀p,(σ.rel h).ob p=if p=h.at_ then (σ.ob p).map (Mx h) else σ.ob p:=by
 unfold PS.rel
 by_cases e:h.bt=0
 ·rw[if_pos e];refine⟨rfl,rfl,rfl,λp=>?_⟩;show(if p=h.at_ then Option.map _ (if h.at_=h.at_ then Option.map _ (σ.ob h.at_) else σ.ob h.at_) else if p=h.at_ then Option.map _ (σ.ob h.at_) else σ.ob p)=_
  by_cases e2:p=h.at_
  ·rw[if_pos e2,if_pos e2,if_pos rfl,e2,Option.map_map]
   congr 1
   funext o;unfold Mx;rw[if_pos e,e];rfl
  ·rw[if_neg e2,if_neg e2,if_neg e2]
 ·rw[if_neg e];refine⟨rfl,rfl,rfl,λp=>?_⟩;show(if p=h.at_ then Option.map _ (σ.ob h.at_) else σ.ob p)=_
  by_cases e2:p=h.at_
  ·rw[if_pos e2,if_pos e2,e2]
   congr 1
   funext o;unfold Mx;rw[if_neg e]
  ·rw[if_neg e2,if_neg e2]
theorem Tx(h:Hd)(o:Ob):Mx h (Mx h o)=Mx h o:=by unfold Mx;split <;> rfl
theorem yq{G:Hd->Ob->Ob}{f:PS->Hd->PS}(hG:∀h o,G h (G h o)=G h o)(hf:∀σ h,(f σ h).tx=σ.tx/\(f σ h).ser=σ.ser/\(f σ h).now=σ.now/\∀p,(f σ h).ob p=if p=h.at_ then (σ.ob p).map (G h) else σ.ob p):∀ (l:List Hd) (σ:PS),(∀h∈l,∀h'∈l,h.at_=h'.at_->h=h')->(l.foldl f σ).tx=σ.tx/\(l.foldl f σ).ser=σ.ser/\(l.foldl f σ).now=σ.now/\(∀h∈l,(l.foldl f σ).ob h.at_=(σ.ob h.at_).map (G h))/\∀p,(∀h∈l,h.at_≠p)->(l.foldl f σ).ob p=σ.ob p
 | [],σ,_=>⟨rfl,rfl,rfl,λh hh=>(by cases hh),λ_ _=>rfl⟩
 | y::l,σ,nd=>by
   obtain⟨a1,a2,a3,a4⟩:=hf σ y;obtain⟨b1,b2,b3,b4,b5⟩:=yq hG hf l (f σ y) (λh hh h' hh'=>nd h (.tail _ hh) h' (.tail _ hh'));refine⟨b1.trans a1,b2.trans a2,b3.trans a3,λh hh=>?_,λp hp=>?_⟩
   ·by_cases e:h.at_=y.at_
    ·have ey:h=y:=nd h hh y (.head _) e;subst ey;show(l.foldl f (f σ h)).ob h.at_=_
     by_cases hl:h∈l
     ·rw[b4 h hl,a4,if_pos rfl,Option.map_map]
      congr 1
      funext o;exact hG h o
     ·rw[b5 h.at_ (λz hz e2=>hl (by rw[<-nd z (.tail _ hz) h hh e2];exact hz)),a4,if_pos rfl]
    ·have hl:h∈l:=by
      cases hh with
      | head=>exact absurd rfl e
      | tail _ hh=>exact hh
     show(l.foldl f (f σ y)).ob h.at_=_;rw[b4 h hl,a4,if_neg e]
   ·show(l.foldl f (f σ y)).ob p=_;rw[b5 p (λh hh=>hp h (.tail _ hh)),a4,if_neg (λe=>hp y (.head _) e.symm)]
structure qD(σ:PS)(t:Nat):Prop where
 lv:(σ.tx t).live=true
 hs:∀h∈(σ.tx t).holds,∃o,σ.ob h.at_=some o/\o.snd=2*t+1
 nd:∀h∈(σ.tx t).holds,∀h'∈(σ.tx t).holds,h.at_=h'.at_->h=h'
 us:∀u∈(σ.tx t).aQ,∃h∈(σ.tx t).holds,h.at_=u.at_/\∀o,σ.ob h.at_=some o->nF σ o u
theorem qD.Rm{σ dE:PS}{t:Nat}(h:qD σ t)(g1:dE.tx=σ.tx)(g2:dE.ser=σ.ser)(g4:∀p,(∀y∈(σ.tx t).holds,y.at_≠p)->dE.ob p=σ.ob p):sj σ t (dE.fin t):=by
 have et:(dE.fin t).tx t=(dE.tx t).fin:=aV _ _ _;refine⟨h.lv,g2,λu hu=>by rw[<-g1];exact bN _ _ hu,by rw[et];rfl,by rw[et];rfl,by rw[et];rfl,by rw[et];rfl,λp o ho hs=>?_,λp hp=>?_⟩
 ·show dE.ob p=_;rw[g4 p λy hy e=>?_];exact ho;obtain⟨q,h1,h2⟩:=h.hs y hy;rw[e,ho] at h1;injection h1 with h1;subst h1;exact hs h2
 ·show dE.ob p=_;rw[g4 p λy hy e=>?_];exact hp;obtain⟨q,h1,h2⟩:=h.hs y hy;rw[e,hp] at h1;cases h1
theorem qD.fin{σ:PS}{t:Nat}(h:qD σ t):sj σ t (σ.fin t):=h.Rm rfl rfl λ_ _=>rfl
theorem qD.wM{σ:PS}{t:Nat}(h:qD σ t):PD σ t (σ.wM t):=by
 have un:=FE (σ:=σ) (l:=(σ.tx t).aQ) λu hu=>by
  obtain⟨k,k1,k2,k3⟩:=h.us u hu;obtain⟨o,ho,_⟩:=h.hs k k1;exact⟨o,by rw[<-k2];exact ho,k3 o ho⟩
 unfold PS.wM;obtain⟨dE,e⟩:=au ((σ.tx t).aQ.foldr (λu σ=>PS.nz σ u) σ);rw[e] at un ⊢;obtain⟨a1,a2,a3,a4⟩:=un;obtain⟨b1,b2,b3,b4,b5⟩:=yq Tx Ty (σ.tx t).holds dE h.nd
 have XV:∀p o,σ.ob p=some o->(∀y∈(σ.tx t).holds,y.at_≠p)->pj (σ.tx t).aQ p o=o:=λp o ho hp=>by
  have:∀u∈(σ.tx t).aQ,u.at_≠p:=λu hu e=>by
   obtain⟨k,k1,k2,_⟩:=h.us u hu;exact hp k k1 (k2.trans e)
  revert this
  generalize (σ.tx t).aQ=l
  induction l with
  | nil=>exact λ_=>rfl
  | cons u l ih=>
    intro hu;show sg u p (pj l p o)=o;rw[ih (λv hv=>hu v (.tail _ hv)),Ee (hu u (.head _))]
 have o5:∀y∈(σ.tx t).holds,∀o,σ.ob y.at_=some o->(((σ.tx t).holds.foldl PS.rel dE).fin t).ob y.at_=some (Mx y (pj (σ.tx t).aQ y.at_ o)):=λy hy o ho=>by
  show((σ.tx t).holds.foldl PS.rel dE).ob _=_;rw[b4 y hy,a4,ho];rfl
 refine⟨h.Rm (b1.trans a1) (b2.trans a2) λp hp=>?_,b3.trans a3,λy hy o ho hv=>?_,λy hy o ho hv=>?_⟩
 ·rw[b5 p hp,a4]
  cases e:σ.ob p with
  | none=>rfl
  | some o=>exact congrArg some (XV p o e hp)
 ·rw[o5 y hy o ho];unfold Mx;rw[if_neg (by omega)]
 ·rw[o5 y hy o ho];unfold Mx;rw[if_pos hv]
theorem qD.Re{σ:PS}{t:Nat}(h:qD σ t)(hr:∀a∈(σ.tx t).reads,∀o,σ.ob a=some o->gO σ t o):YL σ t (σ.Re t):=by
 unfold PS.Re
 obtain⟨b1,b2,b3,b4,b5⟩:=yq (f:=λ(σ':PS) (h:Hd)=>σ'.mod h.at_ (λo=>{ o with snd:=2*(σ.now+1) })) (G:=λ_ o=>{ o with snd:=2*(σ.now+1) }) (λ_ _=>rfl) (λσ' y=>⟨rfl,rfl,rfl,λp=>by
  show(if p=y.at_ then Option.map _ (σ'.ob y.at_) else σ'.ob p)=_
  by_cases e:p=y.at_
  ·rw[if_pos e,if_pos e,e]
  ·rw[if_neg e,if_neg e]⟩) (σ.tx t).holds { σ with now:=σ.now+1 } h.nd
 refine⟨h.Rm b1 b2 λp hp=>b5 p hp,b3,hr,λy hy o ho=>?_⟩;refine(b4 y hy).trans ?_;show Option.map _ (σ.ob y.at_)=_;rw[ho];rfl
def PS.mo(σ:PS)(o:Ob):Mo:=⟨o.ser,o.p,o.d,o.wk,o.fn,o.ps.map (λp=>(σ.fh p:Int)),o.ns.map zt,o.fr⟩
theorem PS.h_{σ:PS}{a:Nat}{o:Ob}(h:σ.ob a=some o):σ.fh a=o.ser:=by unfold PS.fh;rw[h]
theorem PS.oX{σ:PS}{a:Nat}(h:σ.ob a=none):σ.fh a=0:=by unfold PS.fh;rw[h]
structure PW(σ:PS):Prop where
 z:σ.ob 0=none
 sr:∀a o,σ.ob a=some o->1<=o.ser/\o.ser<=σ.ser
 inj:∀a b o o',σ.ob a=some o->σ.ob b=some o'->o.ser=o'.ser->a=b
 ps:∀a o,σ.ob a=some o->∀p∈o.ps,p=0\/∃o',σ.ob p=some o'
 ln:∀a o,σ.ob a=some o->o.ps.length=o.p/\o.ns.length=o.d
 hs:∀t,∀h∈(σ.tx t).holds,(σ.tx t).live=true/\∃o,σ.ob h.at_=some o/\o.snd=2*t+1
 nd:∀t,∀h∈(σ.tx t).holds,∀h'∈(σ.tx t).holds,h.at_=h'.at_->h=h'
 us:∀t,∀u∈(σ.tx t).aQ,∃h∈(σ.tx t).holds,h.at_=u.at_/\∀o,σ.ob h.at_=some o->nF σ o u
 lv:∀t,(σ.tx t).live=false->(σ.tx t).holds=[]/\(σ.tx t).aQ=[]/\(σ.tx t).reads=[]
 st:∀t,(σ.tx t).live=true->(σ.tx t).start<=σ.now
structure GM(σ:PS)(M:Nat->FM):Prop where
 un:∀a o v,σ.ob a=some o->o.snd=2*v->v<=σ.now/\(v=0->∀u,u<=σ.now->M u o.ser=none)/\(1<=v->∀u,v<=u->u<=σ.now->M u o.ser=some (σ.mo o))
 ex:∀a o t,σ.ob a=some o->o.snd=2*t+1->∃h∈(σ.tx t).holds,h.at_=a
 hd:∀t,∀h∈(σ.tx t).holds,∀o,σ.ob h.at_=some o->0<=h.bt/\h.bt<=(σ.tx t).start/\(h.bt=0->∀u,u<=σ.now->M u o.ser=none)/\(1<=h.bt->∀u:Nat,h.bt<=u->u<=σ.now->M u o.ser=some (σ.mo (pj (σ.tx t).aQ h.at_ o)))
 cl:∀u,u<=σ.now->∀s m,M u s=some m->∀q∈m.ps,q=0\/M u q≠none
 mm:∀u u',u<=u'->u'<=σ.now->∀s,M u s≠none->M u' s≠none
 mf:∀u,u<=σ.now->∀s,M u s≠none->∃a o,σ.ob a=some o/\(o.ser:Int)=s
def KM(σ:PS)(g:FM)(p:Nat):Prop:=p=0\/∃o,σ.ob p=some o/\g o.ser≠none
def Kn(σ:PS)(M:Nat->FM)(t p:Nat):Prop:=KM σ (M (σ.tx t).start) p\/∃h∈(σ.tx t).holds,h.at_=p/\h.bt=0
noncomputable def PS.ov(σ:PS)(t:Nat)(f:FM):FM:=λs=>open Classical in
 if h:∃o,(∃h∈(σ.tx t).holds,σ.ob h.at_=some o)/\(o.ser:Int)=s then some (σ.mo h.choose) else f s
theorem j_{σ:PS}(hw:PW σ){t:Nat}(f:FM){h:Hd}(hh:h∈(σ.tx t).holds){o:Ob}(ho:σ.ob h.at_=some o):σ.ov t f o.ser=some (σ.mo o):=by
 unfold PS.ov;have e:∃o',(∃h∈(σ.tx t).holds,σ.ob h.at_=some o')/\(o'.ser:Int)=o.ser:=⟨o,⟨h,hh,ho⟩,rfl⟩;rw[dif_pos e];obtain⟨⟨h',h1,h2⟩,h3⟩:=e.choose_spec;have:=hw.inj _ _ _ _ h2 ho (by omega);rw[this,ho] at h2;injection h2 with h2
 rw[<-h2]
theorem lz{σ:PS}{t:Nat}(f:FM){s:Int}(h:∀h∈(σ.tx t).holds,∀o,σ.ob h.at_=some o->(o.ser:Int)≠s):σ.ov t f s=f s:=by
 unfold PS.ov;rw[dif_neg];rintro ⟨o,⟨h',h1,h2⟩,h3⟩;exact h h' h1 o h2 h3
structure Cp(σ:PS)(M:Nat->FM)(t:Nat)(f:FM):Prop where
 d:∀s,M (σ.tx t).start s≠none->f s≠none
 r:∀a∈(σ.tx t).reads,∀o,σ.ob a=some o->M (σ.tx t).start o.ser≠none->f o.ser=M (σ.tx t).start o.ser
 h:∀h∈(σ.tx t).holds,∀o,σ.ob h.at_=some o->(h.bt=0->f o.ser=none)/\(1<=h.bt->f o.ser=M (σ.tx t).start o.ser)
def dV(Q:List Dd):List Ac->Nat->FM × List Int->Option (FM × List Int)
 | [],_,x=>some x
 | a::l,i,x=>if (l9 x.1 x.2 (Q.getD i dD) a.v).2.2.1=a.v/\(l9 x.1 x.2 (Q.getD i dD) a.v).2.2.2=a.e then dV Q l (i+1) ((l9 x.1 x.2 (Q.getD i dD) a.v).1,(l9 x.1 x.2 (Q.getD i dD) a.v).2.1) else none
theorem wR(Q:List Dd):∀ (l m:List Ac) (i:Nat) (x:FM × List Int),dV Q (l++m) i x=(dV Q l i x).bind (dV Q m (i+l.length))
 | [],m,i,x=>rfl
 | a::l,m,i,x=>by
   rw[List.cons_append];unfold dV;split
   ·rw[wR Q l m (i+1)];congr 2;simp;omega
   ·rfl
theorem ja{Q:List Dd}{l:List Ac}{x y:FM × List Int}{a:Ac}{f:FM}{R:List Int}(h:dV Q l 0 x=some y)(hd:l9 y.1 y.2 (Q.getD l.length dD) a.v=(f,R,a.v,a.e)):dV Q (l++[a]) 0 x=some (f,R):=by
 rw[wR,h,fk];show dV Q [a] l.length y=_;unfold dV;rw[hd];simp[dV]
structure TI(σ:PS)(M:Nat->FM)(t:Nat)(R V:aE)(Q:List Dd)(aJ:List Ac):Prop where
 kr:∀p∈R,Kn σ M t p
 kv:∀p∈V,KM σ (M (σ.tx t).start) p
 kh:∀h∈(σ.tx t).holds,∀o,σ.ob h.at_=some o->∀p∈o.ps,Kn σ M t p
 MA:∀f,Cp σ M t f->dV Q aJ 0 (f,V.map λp=>(σ.fh p:Int))=some (σ.ov t f,R.map λp=>(σ.fh p:Int))
section
def qE(σ σ':PS):Prop:=∀a o,σ.ob a=some o->∃o',σ'.ob a=some o'/\o'.ser=o.ser
theorem qE.fh{σ σ':PS}(h:qE σ σ'){a:Nat}{o:Ob}(ho:σ.ob a=some o):σ'.fh a=σ.fh a:=by
 obtain⟨o',h1,h2⟩:=h a o ho;rw[PS.h_ h1,PS.h_ ho,h2]
theorem qE.Yt{σ σ':PS}(h:qE σ σ')(z:σ.ob 0=none)(z':σ'.ob 0=none){p:Nat}(hp:p=0\/∃o,σ.ob p=some o):σ'.fh p=σ.fh p:=by
 rcases hp with rfl|⟨o,ho⟩
 ·rw[PS.oX z,PS.oX z']
 ·exact h.fh ho
theorem qE.mo{σ σ':PS}(h:qE σ σ')(z:σ.ob 0=none)(z':σ'.ob 0=none){o:Ob}(hp:∀p∈o.ps,p=0\/∃o',σ.ob p=some o'):σ'.mo o=σ.mo o:=by
 unfold PS.mo;rw[List.map_congr_left (λp hq=>by rw[h.Yt z z' (hp p hq)])]
theorem qE.km{σ σ':PS}(h:qE σ σ'){g:FM}{p:Nat}(k:KM σ g p):KM σ' g p:=by
 rcases k with rfl|⟨o,ho,hg⟩
 ·exact .inl rfl
 ·obtain⟨o',h1,h2⟩:=h p o ho;exact .inr ⟨o',h1,by rw[h2];exact hg⟩
theorem KM.here{σ:PS}{g:FM}{p:Nat}(k:KM σ g p):p=0\/∃o,σ.ob p=some o:=by
 rcases k with e|⟨o,ho,_⟩
 ·exact .inl e
 ·exact .inr ⟨o,ho⟩
theorem Kn.here{σ:PS}(hw:PW σ){M:Nat->FM}{t p:Nat}(k:Kn σ M t p):p=0\/∃o,σ.ob p=some o:=by
 rcases k with k|⟨h,hh,rfl,_⟩
 ·exact k.here
 ·obtain⟨o,ho,_⟩:=(hw.hs t h hh).2;exact .inr ⟨o,ho⟩
theorem qE.map{σ σ':PS}(h:qE σ σ')(z:σ.ob 0=none)(z':σ'.ob 0=none){l:aE}(hl:∀p∈l,p=0\/∃o,σ.ob p=some o):l.map (λp=>(σ'.fh p:Int))=l.map (λp=>(σ.fh p:Int)):=
 List.map_congr_left λp hp=>by rw[h.Yt z z' (hl p hp)]
theorem qE.refl(σ:PS):qE σ σ:=λa o h=>⟨o,h,rfl⟩
theorem TI.frame{σ σ':PS}{M M':Nat->FM}{t:Nat}{R V:aE}{Q:List Dd}{aJ:List Ac}(h:TI σ M t R V Q aJ)(hw:PW σ)(hz:σ'.ob 0=none)(ht:σ'.tx t=σ.tx t)(hk:qE σ σ')(hh:∀h∈(σ.tx t).holds,σ'.ob h.at_=σ.ob h.at_)(hm:M' (σ.tx t).start=M (σ.tx t).start):TI σ' M' t R V Q aJ:=by
 have kn:∀p,Kn σ M t p->Kn σ' M' t p:=λp k=>by
  rcases k with k|⟨h,h1,h2,h3⟩
  ·exact .inl (by rw[ht,hm];exact hk.km k)
  ·exact .inr ⟨h,by rw[ht];exact h1,h2,h3⟩
 refine⟨λp hp=>kn p (h.kr p hp),λp hp=>by rw[ht,hm];exact hk.km (h.kv p hp),λx hx o ho p hp=>?_,λf hf=>?_⟩
 ·rw[ht] at hx;rw[hh x hx] at ho;exact kn p (h.kh x hx o ho p hp)
 ·have c:Cp σ M t f:=by
   refine⟨λs hs=>hf.d s (by rw[ht,hm];exact hs),λa ha o ho hs=>?_,λx hx o ho=>?_⟩
   ·obtain⟨o',h1,h2⟩:=hk a o ho;have:=hf.r a (by rw[ht];exact ha) o' h1 (by rw[ht,hm,h2];exact hs);rw[ht,hm,h2] at this;exact this
   ·have:=hf.h x (by rw[ht];exact hx) o (by rw[hh x hx];exact ho);rw[ht,hm] at this;exact this
  have hs:=h.MA f c;rw[hk.map hw.z hz (λp hp=>(h.kv p hp).here),hk.map hw.z hz (λp hp=>(h.kr p hp).here hw),hs]
  congr 2
  funext s
  by_cases e:∃o,(∃h∈(σ.tx t).holds,σ.ob h.at_=some o)/\(o.ser:Int)=s
  ·obtain⟨o,⟨x,hx,ho⟩,rfl⟩:=e;rw[j_ hw f hx ho];unfold PS.ov;have e':∃o',(∃h∈(σ'.tx t).holds,σ'.ob h.at_=some o')/\(o'.ser:Int)=o.ser:=⟨o,⟨x,by rw[ht];exact hx,by rw[hh x hx];exact ho⟩,rfl⟩;rw[dif_pos e'];obtain⟨⟨y,h1,h2⟩,h3⟩:=e'.choose_spec;rw[ht] at h1;rw[hh y h1] at h2;have e5:=hw.inj _ _ _ _ h2 ho (by omega);rw[e5,ho] at h2;injection h2 with h2
   rw[<-h2,hk.mo hw.z hz (hw.ps _ _ ho)]
  ·have e2:∀h∈(σ.tx t).holds,∀o,σ.ob h.at_=some o->(o.ser:Int)≠s:=λx hx o ho he=>e ⟨o,⟨x,hx,ho⟩,he⟩;rw[lz f e2,lz f (λx hx o ho=>e2 x (by rw[ht] at hx;exact hx) o (by rw[ht] at hx;rw[<-hh x hx];exact ho))]
theorem PW.rd{σ:PS}(h:PW σ){t:Nat}(hl:(σ.tx t).live=true)(l:aE):PW (σ.aO t { σ.tx t with reads:=l }):=by
 have tx:∀u,((σ.aO t { σ.tx t with reads:=l }).tx u).live=(σ.tx u).live/\((σ.aO t { σ.tx t with reads:=l }).tx u).holds=(σ.tx u).holds/\((σ.aO t { σ.tx t with reads:=l }).tx u).aQ=(σ.tx u).aQ/\((σ.aO t { σ.tx t with reads:=l }).tx u).start=(σ.tx u).start:=λu=>by
  by_cases e:u=t
  ·subst e;rw[aV];exact⟨rfl,rfl,rfl,rfl⟩
  ·rw[bN _ _ e];exact⟨rfl,rfl,rfl,rfl⟩
 refine⟨h.z,h.sr,h.inj,h.ps,h.ln,λu x hx=>?_,λu x hx y hy=>?_,λu x hx=>?_,λu hu=>?_,λu hu=>?_⟩
 ·rw[(tx u).2.1] at hx;rw[(tx u).1];exact h.hs u x hx
 ·rw[(tx u).2.1] at hx hy;exact h.nd u x hx y hy
 ·rw[(tx u).2.2.1] at hx;rw[(tx u).2.1];exact h.us u x hx
 ·rw[(tx u).1] at hu;rw[(tx u).2.1,(tx u).2.2.1];refine⟨(h.lv u hu).1,(h.lv u hu).2.1,?_⟩;have e:u≠t:=λe=>by subst e;rw[hl] at hu;cases hu
  rw[bN _ _ e];exact(h.lv u hu).2.2
 ·rw[(tx u).1] at hu;rw[(tx u).2.2.2];exact h.st u hu
theorem GM.rd{σ:PS}{M:Nat->FM}(h:GM σ M){t:Nat}(l:aE):GM (σ.aO t { σ.tx t with reads:=l }) M:=by
 have tx:∀u,((σ.aO t { σ.tx t with reads:=l }).tx u).holds=(σ.tx u).holds/\((σ.aO t { σ.tx t with reads:=l }).tx u).aQ=(σ.tx u).aQ/\((σ.aO t { σ.tx t with reads:=l }).tx u).start=(σ.tx u).start:=λu=>by
  by_cases e:u=t
  ·subst e;rw[aV];exact⟨rfl,rfl,rfl⟩
  ·rw[bN _ _ e];exact⟨rfl,rfl,rfl⟩
 refine⟨h.un,λa o u h1 h2=>?_,λu x hx o ho=>?_,h.cl,h.mm,h.mf⟩
 ·rw[(tx u).1];exact h.ex a o u h1 h2
 ·rw[(tx u).1] at hx;rw[(tx u).2.1,(tx u).2.2];exact h.hd u x hx o ho
theorem TI.rd{σ:PS}{M:Nat->FM}{t:Nat}{R V:aE}{Q:List Dd}{aJ:List Ac}(h:TI σ M t R V Q aJ){l:aE}(hl:∀a∈(σ.tx t).reads,a∈l):TI (σ.aO t { σ.tx t with reads:=l }) M t R V Q aJ:=by
 have e:(σ.aO t { σ.tx t with reads:=l }).tx t = { σ.tx t with reads:=l }:=aV _ _ _;refine⟨λp hp=>?_,λp hp=>?_,λx hx o ho p hp=>?_,λf hf=>?_⟩
 ·have:=h.kr p hp;unfold Kn at this ⊢;rw[e];exact this
 ·have:=h.kv p hp;rw[e];exact this
 ·rw[e] at hx;have:=h.kh x hx o ho p hp;unfold Kn at this ⊢;rw[e];exact this
 ·have c:Cp σ M t f:=by
   obtain⟨h1,h2,h3⟩:=hf;rw[e] at h1 h2 h3;exact⟨h1,λa ha=>h2 a (hl a ha),h3⟩
  have h5:=h.MA f c;rw[show(σ.aO t { σ.tx t with reads:=l }).ov t f=σ.ov t f by unfold PS.ov;rw[e];rfl];exact h5
structure tQ(σ:PS)(t a:Nat)(o o':Ob)(x':PT):Prop where
 ho:σ.ob a=some o
 own:(∃v,o.snd=2*v)\/o.snd=2*t+1
 lv:(σ.tx t).live=true
 ser:o'.ser=o.ser
 p:o'.p=o.p
 d:o'.d=o.d
 lp:o'.ps.length=o'.p
 ln:o'.ns.length=o'.d
 snd:o'.snd=2*t+1
 ps:∀p∈o'.ps,p=0\/∃q,σ.ob p=some q
 xl:x'.live=true
 xs:x'.start=(σ.tx t).start
 xr:x'.reads=(σ.tx t).reads
 h0:∀h∈(σ.tx t).holds,h∈x'.holds
 h1:∀h∈x'.holds,h∈(σ.tx t).holds\/h.at_=a
 ha:∃h∈x'.holds,h.at_=a
 nd:∀h∈x'.holds,∀h'∈x'.holds,h.at_=a->h'.at_=a->h=h'
 ud:∃l,x'.aQ=(σ.tx t).aQ++l/\∀u∈l,u.at_=a/\nF σ o' u
section
variable {σ:PS}{t a:Nat}{o o':Ob}{x':PT}
theorem tQ.r_(h:tQ σ t a o o' x'):qE σ ((σ.cN a o').aO t x'):=λb q hq=>by
 show ∃o',(σ.cN a _).ob b=some o'/\_
 by_cases e:b=a
 ·subst e;rw[h.ho] at hq;injection hq with hq
  exact⟨o',kl _ _ _,by rw[<-hq];exact h.ser⟩
 ·exact⟨q,by rw[kW _ _ e];exact hq,rfl⟩
theorem tQ.back(h:tQ σ t a o o' x'){b:Nat}{q:Ob}(hq:((σ.cN a o').aO t x').ob b=some q):(b=a/\q=o')\/(b≠a/\σ.ob b=some q):=by
 by_cases e:b=a
 ·subst e;rw[show((σ.cN b o').aO t x').ob b=some o' from kl _ _ _] at hq;injection hq with hq
  exact .inl ⟨rfl,hq.symm⟩
 ·rw[show((σ.cN a o').aO t x').ob b=σ.ob b from kW _ _ e] at hq;exact .inr ⟨e,hq⟩
theorem tQ.D4(h:tQ σ t a o o' x'){b:Nat}{q:Ob}(hq:((σ.cN a o').aO t x').ob b=some q):∃q0,σ.ob b=some q0/\q0.ser=q.ser:=by
 rcases h.back hq with ⟨rfl,rfl⟩|⟨_,h1⟩
 ·exact⟨o,h.ho,h.ser.symm⟩
 ·exact⟨q,h1,rfl⟩
theorem tQ.z(h:tQ σ t a o o' x')(hw:PW σ):((σ.cN a o').aO t x').ob 0=none:=by
 have e:0≠a:=λe=>by have:=hw.z;rw[e,h.ho] at this;cases this
 exact(kW _ _ e).trans hw.z
theorem tQ.other(h:tQ σ t a o o' x')(hw:PW σ){u:Nat}(hu:u≠t){y:Hd}(hy:y∈(σ.tx u).holds):y.at_≠a:=λe=>by
 obtain⟨_,q,h1,h2⟩:=hw.hs u y hy;rw[e,h.ho] at h1;injection h1 with h1
 subst h1;rcases h.own with ⟨v,h3⟩|h3 <;> omega
theorem nF.mono{σ σ':PS}{o o':Ob}{u:Ud}(h:nF σ o u)(hk:qE σ σ')(hp:o'.p=o.p)(hd:o'.d=o.d):nF σ' o' u:=by
 rcases h with ⟨h1,h2,h3,h4,h5⟩|⟨h1,h2,h3⟩|h1
 ·refine .inl ⟨h1,h2,by rw[hp];exact h3,h4,?_⟩;rcases h5 with e|⟨q,hq⟩
  ·exact .inl e
  ·obtain⟨q',k1,_⟩:=hk _ q hq;exact .inr ⟨q',k1⟩
 ·exact .inr (.inl ⟨h1,h2,by rw[hd];exact h3⟩)
 ·exact .inr (.inr h1)
theorem PW.dN(hw:PW σ)(h:tQ σ t a o o' x'):PW ((σ.cN a o').aO t x'):=by
 have sk:=h.r_;have Cf:∀u,u≠t->((σ.cN a o').aO t x').tx u=σ.tx u:=λu hu=>bN _ _ hu;have txt:((σ.cN a o').aO t x').tx t=x':=aV _ _ _;refine⟨h.z hw,λb q hq=>?_,λb c q r hq hr e=>?_,λb q hq p hp=>?_,λb q hq=>?_,λu y hy=>?_,λu y hy y' xh e=>?_,λu y hy=>?_,λu hu=>?_,λu hu=>?_⟩
 ·obtain⟨q0,h1,h2⟩:=h.D4 hq;rw[<-h2];exact hw.sr b q0 h1
 ·obtain⟨q0,h1,h2⟩:=h.D4 hq;obtain⟨r0,h3,h4⟩:=h.D4 hr;exact hw.inj b c q0 r0 h1 h3 (by omega)
 ·have:p=0\/∃q,σ.ob p=some q:=by
   rcases h.back hq with ⟨rfl,rfl⟩|⟨_,h1⟩
   ·exact h.ps p hp
   ·exact hw.ps b q h1 p hp
  rcases this with e|⟨r,hr⟩
  ·exact .inl e
  ·obtain⟨r',h1,_⟩:=sk p r hr;exact .inr ⟨r',h1⟩
 ·rcases h.back hq with ⟨rfl,rfl⟩|⟨_,h1⟩
  ·exact⟨h.lp,h.ln⟩
  ·exact hw.ln b q h1
 ·by_cases e:u=t
  ·subst e;rw[txt] at hy ⊢;refine⟨h.xl,?_⟩
   by_cases e2:y.at_=a
   ·exact⟨o',by rw[e2];exact kl _ _ _,h.snd⟩
   ·rcases h.h1 y hy with h1|h1
    ·obtain⟨_,q,h2,h3⟩:=hw.hs u y h1;exact⟨q,(kW _ _ e2).trans h2,h3⟩
    ·exact absurd h1 e2
  ·rw[Cf u e] at hy ⊢;obtain⟨h1,q,h2,h3⟩:=hw.hs u y hy;exact⟨h1,q,(kW _ _ (h.other hw e hy)).trans h2,h3⟩
 ·by_cases e1:u=t
  ·subst e1;rw[txt] at hy xh
   by_cases e2:y.at_=a
   ·exact h.nd y hy y' xh e2 (e ▸ e2)
   ·rcases h.h1 y hy with h1|h1
    ·rcases h.h1 y' xh with h2|h2
     ·exact hw.nd u y h1 y' h2 e
     ·exact absurd (e.trans h2) e2
    ·exact absurd h1 e2
  ·rw[Cf u e1] at hy xh;exact hw.nd u y hy y' xh e
 ·by_cases e1:u=t
  ·subst e1;rw[txt] at hy ⊢;obtain⟨l,h1,h2⟩:=h.ud;rw[h1] at hy;rcases mD.1 hy with h3|h3
   ·obtain⟨k,k1,k2,k3⟩:=hw.us u y h3;refine⟨k,h.h0 k k1,k2,λq hq=>?_⟩;rcases h.back hq with ⟨e4,rfl⟩|⟨_,h4⟩
    ·exact(k3 o (by rw[e4];exact h.ho)).mono sk h.p h.d
    ·exact(k3 q h4).mono sk rfl rfl
   ·obtain⟨k,k1,k2⟩:=h.ha;obtain⟨h4,h5⟩:=h2 y h3;refine⟨k,k1,k2.trans h4.symm,λq hq=>?_⟩;rcases h.back hq with ⟨e4,rfl⟩|⟨e4,_⟩
    ·exact h5.mono sk rfl rfl
    ·exact absurd k2 e4
  ·rw[Cf u e1] at hy ⊢;obtain⟨k,k1,k2,k3⟩:=hw.us u y hy;refine⟨k,k1,k2,λq hq=>?_⟩;rcases h.back hq with ⟨e4,rfl⟩|⟨_,h4⟩
   ·exact absurd e4 (h.other hw e1 k1)
   ·exact(k3 q h4).mono sk rfl rfl
 ·by_cases e1:u=t
  ·subst e1;rw[txt,h.xl] at hu;cases hu
  ·rw[Cf u e1] at hu ⊢;exact hw.lv u hu
 ·by_cases e1:u=t
  ·subst e1;rw[txt,h.xs];exact hw.st u h.lv
  ·rw[Cf u e1] at hu ⊢;exact hw.st u hu
end
end
