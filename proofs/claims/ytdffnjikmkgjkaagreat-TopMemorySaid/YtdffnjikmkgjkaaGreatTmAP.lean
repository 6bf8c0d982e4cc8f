/- TopMemory: a part of its proof (StE StF StG). -/
import Derived.Test.YtdffnjikmkgjkaaGreatTmAA
import Derived.Test.YtdffnjikmkgjkaaGreatTmAO
set_option linter.unusedSimpArgs false
set_option linter.unusedVariables false
set_option maxHeartbeats 4000000
namespace Go.Proofs.YtdffnjikmkgjkaaGreat
section
open Go.RowKit Go.Shelf
variable {w:World}{τ:Nat→Nat}{s q:Nat}{S:StD}
theorem OwnL.nth2 (w:World)(vs:List Value)(ty:TypeId)(b:Nat)(h:w.heap.size=b):OwnL (w.alloc (.cells vs.toArray ty)) b vs:=by
  subst h;exact OwnL.new w vs ty
theorem Nx.outT {W w':World}{τ0:Nat→Nat}{s' q':Nat}{R:StD→Prop}(n:Nx W τ0 s' q' S w' R)(c:Calm w W)(tk:TagK w τ τ0):Nx w τ s' q' S w' R:=by
  obtain⟨τ1,S1,k1,k2,k3,k4⟩:=n;exact⟨τ1,S1,k1,((KeepT.calm τ0 c).trans k2).retag tk,k3,k4⟩
def GetP (w:World)(τ:Nat→Nat)(s q:Nat)(S:StD)(e:Ending)(w':World):Prop:=∃v x:Int,e = .returned (.tuple #[vI v,vI x])∧0≤v∧v≤131072∧I64 x∧x≠100∧Nx0 w τ s q S w'
def NumP (w:World)(τ:Nat→Nat)(s q:Nat)(S:StD)(e:Ending)(w':World):Prop:=∃v x:Int,e = .returned (.tuple #[vI v,vI x])∧I64 v∧I64 x∧x≠100∧Nx0 w τ s q S w'
def AlR (S:StD)(n:Int)(P:Prop)(x:Int)(S':StD):Prop:=(x=0∧S'.D.A.room=S.D.A.room-rnd n∧rnd n≤S.D.A.room)∨(x=100∧P∧S.D.A.room<rnd n∧Still (fun _=>True) S.D.A S'.D.A)∨(x≠0∧x≠100)
def AlP (w:World)(τ:Nat→Nat)(s q:Nat)(S:StD)(n:Int)(P:Prop)(e:Ending)(w':World):Prop:=∃v x:Int,e = .returned (.tuple #[vI v,vI x])∧0≤v∧v≤131072∧I64 x∧Nx w τ s q S w' (AlR S n P x)
theorem DeedP.get {e:Ending}{w':World}(h:DeedP w τ s q S GetR e w'):GetP w τ s q S e w':=by
  obtain⟨v,x,h1,h2,h3,h4⟩:=h;have h5:=h4;obtain⟨_,_,_,_,_,h6⟩:=h5;rcases h6 with ⟨rfl,rfl,_⟩|⟨rfl,g1,g2,_⟩|⟨hx,rfl,v0,S1,⟨_,_,g3⟩,_⟩
  · exact⟨0,140,h1,by decide,by decide,h3,by decide,h4.any⟩
  · exact⟨v,0,h1,g1,g2,h3,by decide,h4.any⟩
  · exact⟨0,x,h1,by decide,by decide,h3,g3,h4.any⟩
theorem DeedP.num {e:Ending}{w':World}(h:DeedP w τ s q S NumR e w'):NumP w τ s q S e w':=by
  obtain⟨v,x,h1,h2,h3,h4⟩:=h;have h5:=h4;obtain⟨_,_,_,_,_,h6⟩:=h5;rcases h6 with ⟨rfl,rfl,_⟩|⟨rfl,_⟩|⟨hx,rfl,v0,S1,g3,_⟩
  · exact⟨0,140,h1,by decide,h3,by decide,h4.any⟩
  · exact⟨v,0,h1,h2,h3,by decide,h4.any⟩
  · exact⟨0,x,h1,by decide,h3,g3,h4.any⟩
theorem DeedP.al {e:Ending}{w':World}{p d:Nat}(h:DeedP w τ s q S (LayR S p d) e w'):AlP w τ s q S ((3+p+d:Nat):Int) True e w':=by
  obtain⟨v,x,h1,h2,h3,h4⟩:=h;have h5:=h4;obtain⟨_,_,_,_,_,h6⟩:=h5
  have hv:0≤v∧v≤131072:=by
    rcases h6 with ⟨rfl,rfl,_⟩|⟨rfl,⟨_,a,rfl,h7,_⟩|⟨_,rfl,_⟩|⟨_,rfl⟩⟩|⟨hx,rfl,_⟩ <;> omega
  refine⟨v,x,h1,hv.1,hv.2,h3,h4.mono (Nat.le_refl _) (Nat.le_refl _) fun S' h6=>?_⟩;rcases h6 with ⟨rfl,rfl,_⟩|⟨rfl,h7⟩|⟨hx,rfl,v0,S1,h7,hst⟩
  · exact .inr (.inr ⟨by decide,by decide⟩)
  · rcases h7 with ⟨_,a,rfl,_,g1,g2⟩|⟨e,_⟩|⟨e,_⟩
    · exact .inl ⟨rfl,g1,g2⟩
    · cases e
    · cases e
  · rcases h7 with ⟨e,_⟩|⟨e,_,g1,g2⟩|⟨e,_⟩
    · exact absurd e hx
    · exact .inr (.inl ⟨e,trivial,g1,by rw[←g2];exact hst⟩)
    · exact .inr (.inr ⟨hx,by rw[e];decide⟩)
theorem DeedP.wk {e:Ending}{w':World}{a:Nat}(h:DeedP w τ s q S (WkR S a) e w'):AlP w τ s q S 4 (a∈plc S.D.A.cur) e w':=by
  obtain⟨v,x,h1,h2,h3,h4⟩:=h;have h5:=h4;obtain⟨_,_,_,_,_,h6⟩:=h5
  have hv:0≤v∧v≤131072:=by
    rcases h6 with ⟨rfl,rfl,_⟩|⟨rfl,⟨_,a,rfl,h7,_⟩|⟨e,_⟩|⟨e,_⟩⟩|⟨hx,rfl,_⟩
    · omega
    · omega
    · cases e
    · exact absurd rfl e
    · omega
  refine⟨v,x,h1,hv.1,hv.2,h3,h4.mono (Nat.le_refl _) (Nat.le_refl _) fun S' h6=>?_⟩;rcases h6 with ⟨rfl,rfl,_⟩|⟨rfl,h7⟩|⟨hx,rfl,v0,S1,h7,hst⟩
  · exact .inr (.inr ⟨by decide,by decide⟩)
  · rcases h7 with ⟨_,a,rfl,_,g1,g2⟩|⟨e,_⟩|⟨e,_⟩
    · exact .inl ⟨rfl,g1,g2⟩
    · cases e
    · exact absurd rfl e
  · rcases h7 with ⟨e,_⟩|⟨e,g0,g1,g2⟩|⟨_,e⟩
    · exact absurd e hx
    · exact .inr (.inl ⟨e,g0,g1,by rw[←g2];exact hst⟩)
    · exact .inr (.inr ⟨hx,e⟩)
set_option maxRecDepth 4000 in
theorem alloc_is (h:St w τ s q S)(hs:s<100000)(hq:q≤100000)(t:Int)(ht:I64 t){p d:Nat}{fn:Bool}(hok:okS p d false fn) :
    Calls Tryz.prog 82 #[pV S.sp,vI t,shV p d false fn] w (AlP w τ (s+1) q S ((3+p+d:Nat):Int) True):=by
  obtain⟨τ0,hf,tk,fr⟩:=h.fresh;have hmf:=hid run_mf;obtain⟨W2,hW2,k2,o_sp,o_sh⟩:=newE2 w [pV S.sp] 54 [vI p,vI d,.bool false,.bool fn] 47;have t_sp:500≤τ0 (w.heap.size):=by rw[fr _ (by omega)];omega
  have t_sh:500≤τ0 (w.heap.size+1):=by rw[fr _ (by omega)];omega
  have hd:=deed_is (s':=s+1) (q':=q) (hf.calm k2) hq (Nat.le_succ _) (Nat.le_refl _) t ht 133 #[.pointer (some ⟨w.heap.size+1,0,none⟩),.pointer (some ⟨w.heap.size,0,none⟩)] (LayR S p d) (enters_of Tryz.func133 (by kernel_rfl) rfl)
    (fun k hk1 hk hlive W τW cW tW hW=>by
      have tg:∀b,b<W2.heap.size→w.heap.size≤b→500≤τW b:=fun b h1 h2=>by rw[tW b h1,fr b h2];omega
      have l_sp:=o_sp.lt (by simp);have l_sh:=o_sh.lt (by simp)
      exact alloc1_is hW hs hk hok (o_sh.calm cW) ((o_sp.calm cW) 0 _ rfl))
  have c0:=(o_sp 0 _ rfl).1;have hmf2:=hmf.out;go_enter Tryz.func82,Tryz.ntmps82;go_wp2_with fail
  clear hW2;refine hd.mono ?_;rintro e w5 hp;obtain⟨v,x,rfl,hv,hx,n5⟩:=hp;have hP:AlP w τ (s+1) q S ((3+p+d:Nat):Int) True (.returned (.tuple #[vI v,vI x])) w5:=(show DeedP w τ (s+1) q S (LayR S p d) (.returned (.tuple #[vI v,vI x])) w5 from⟨v,x,rfl,hv,hx,n5.outT k2 tk⟩).al;replace hP:=hid hP;clear hd n5;go_wp2
  go_ret2
  exact hP.out
set_option maxRecDepth 4000 in
theorem weak_is (h:St w τ s q S)(hs:s<100000)(hq:q≤100000)(t:Int)(ht:I64 t){a:Nat}(ha:a≤131072) :
    Calls Tryz.prog 83 #[pV S.sp,vI t,vI (a:Int)] w (AlP w τ (s+1) q S 4 (a∈plc S.D.A.cur)):=by
  obtain⟨τ0,hf,tk,fr⟩:=h.fresh;have hmf:=hid run_mf;obtain⟨W2,hW2,k2,o_sp,o_a⟩:=newE2 w [pV S.sp] 54 [vI (a:Int)] 3;have t_sp:500≤τ0 (w.heap.size):=by rw[fr _ (by omega)];omega
  have t_a:500≤τ0 (w.heap.size+1):=by rw[fr _ (by omega)];omega
  have hd:=deed_is (s':=s+1) (q':=q) (hf.calm k2) hq (Nat.le_succ _) (Nat.le_refl _) t ht 135 #[.pointer (some ⟨w.heap.size+1,0,none⟩),.pointer (some ⟨w.heap.size,0,none⟩)] (WkR S a) (enters_of Tryz.func135 (by kernel_rfl) rfl)
    (fun k hk1 hk hlive W τW cW tW hW=>by
      have tg:∀b,b<W2.heap.size→w.heap.size≤b→500≤τW b:=fun b h1 h2=>by rw[tW b h1,fr b h2];omega
      have l_sp:=o_sp.lt (by simp);have l_a:=o_a.lt (by simp)
      exact weak1_is hW hs hk ha ((o_a.calm cW) 0 _ rfl) ((o_sp.calm cW) 0 _ rfl) (tg _ (by omega) (by omega)) (tg _ (by omega) (by omega)))
  have c0:=(o_sp 0 _ rfl).1;have hmf2:=hmf.out;go_enter Tryz.func83,Tryz.ntmps83;go_wp2_with fail
  clear hW2;refine hd.mono ?_;rintro e w5 hp;obtain⟨v,x,rfl,hv,hx,n5⟩:=hp;have hP:AlP w τ (s+1) q S 4 (a∈plc S.D.A.cur) (.returned (.tuple #[vI v,vI x])) w5:=(show DeedP w τ (s+1) q S (WkR S a) (.returned (.tuple #[vI v,vI x])) w5 from⟨v,x,rfl,hv,hx,n5.outT k2 tk⟩).wk;replace hP:=hid hP;clear hd n5;go_wp2
  go_ret2
  exact hP.out
set_option maxRecDepth 4000 in
theorem load_is (h:St w τ s q S)(hq:q≤100000)(t:Int)(ht:I64 t){a:Nat}(ha:a≤131072) :
    Calls Tryz.prog 85 #[pV S.sp,vI t,vI (a:Int)] w (GetP w τ s q S):=by
  obtain⟨τ0,hf,tk,fr⟩:=h.fresh;have hmf:=hid run_mf;obtain⟨W2,hW2,k2,o_sp,o_a⟩:=newE2 w [pV S.sp] 54 [vI (a:Int)] 3;have t_sp:500≤τ0 (w.heap.size):=by rw[fr _ (by omega)];omega
  have t_a:500≤τ0 (w.heap.size+1):=by rw[fr _ (by omega)];omega
  have hd:=deed_is (s':=s) (q':=q) (hf.calm k2) hq (Nat.le_refl _) (Nat.le_refl _) t ht 139 #[.pointer (some ⟨w.heap.size,0,none⟩),.pointer (some ⟨w.heap.size+1,0,none⟩)] (GetR) (enters_of Tryz.func139 (by kernel_rfl) rfl)
    (fun k hk1 hk hlive W τW cW tW hW=>by
      have tg:∀b,b<W2.heap.size→w.heap.size≤b→500≤τW b:=fun b h1 h2=>by rw[tW b h1,fr b h2];omega
      have l_sp:=o_sp.lt (by simp);have l_a:=o_a.lt (by simp)
      exact load1_is hW hk ha ((o_sp.calm cW) 0 _ rfl) ((o_a.calm cW) 0 _ rfl) (tg _ (by omega) (by omega)) (tg _ (by omega) (by omega)))
  have c0:=(o_sp 0 _ rfl).1;have hmf2:=hmf.out;go_enter Tryz.func85,Tryz.ntmps85;go_wp2_with fail
  clear hW2;refine hd.mono ?_;rintro e w5 hp;obtain⟨v,x,rfl,hv,hx,n5⟩:=hp;have hP:GetP w τ s q S (.returned (.tuple #[vI v,vI x])) w5:=(show DeedP w τ s q S (GetR) (.returned (.tuple #[vI v,vI x])) w5 from⟨v,x,rfl,hv,hx,n5.outT k2 tk⟩).get;replace hP:=hid hP;clear hd n5;go_wp2
  go_ret2
  exact hP.out
set_option maxRecDepth 4000 in
theorem take_is (h:St w τ s q S)(hq:q≤100000)(t:Int)(ht:I64 t) :
    Calls Tryz.prog 86 #[pV S.sp,vI t] w (GetP w τ s q S):=by
  obtain⟨τ0,hf,tk,fr⟩:=h.fresh;have hmf:=hid run_mf;obtain⟨W2,hW2,k2,o_sp,-⟩:=newE w [pV S.sp] 54;have t_sp:500≤τ0 (w.heap.size):=by rw[fr _ (by omega)];omega
  have hd:=deed_is (s':=s) (q':=q) (hf.calm k2) hq (Nat.le_refl _) (Nat.le_refl _) t ht 142 #[.pointer (some ⟨w.heap.size,0,none⟩)] (GetR) (enters_of Tryz.func142 (by kernel_rfl) rfl)
    (fun k hk1 hk hlive W τW cW tW hW=>by
      have tg:∀b,b<W2.heap.size→w.heap.size≤b→500≤τW b:=fun b h1 h2=>by rw[tW b h1,fr b h2];omega
      have l_sp:=o_sp.lt (by simp)
      exact take1_is hW hq hk ((o_sp.calm cW) 0 _ rfl) (tg _ (by omega) (by omega)))
  have c0:=(o_sp 0 _ rfl).1;have hmf2:=hmf.out;go_enter Tryz.func86,Tryz.ntmps86;go_wp2_with fail
  clear hW2;refine hd.mono ?_;rintro e w5 hp;obtain⟨v,x,rfl,hv,hx,n5⟩:=hp;have hP:GetP w τ s q S (.returned (.tuple #[vI v,vI x])) w5:=(show DeedP w τ s q S (GetR) (.returned (.tuple #[vI v,vI x])) w5 from⟨v,x,rfl,hv,hx,n5.outT k2 tk⟩).get;replace hP:=hid hP;clear hd n5;go_wp2
  go_ret2
  exact hP.out
set_option maxRecDepth 4000 in
theorem commit_is (h:St w τ s q S)(hq:q≤100000)(t:Int)(ht:I64 t) :
    Calls Tryz.prog 76 #[pV S.sp,vI t] w (NumP w τ s q S):=by
  obtain⟨τ0,hf,tk,fr⟩:=h.fresh;have hmf:=hid run_mf;obtain⟨W2,hW2,k2,o_sp,-⟩:=newE w [pV S.sp] 54;have t_sp:500≤τ0 (w.heap.size):=by rw[fr _ (by omega)];omega
  have hd:=deed_is (s':=s) (q':=q) (hf.calm k2) hq (Nat.le_refl _) (Nat.le_refl _) t ht 126 #[.pointer (some ⟨w.heap.size,0,none⟩)] (NumR) (enters_of Tryz.func126 (by kernel_rfl) rfl)
    (fun k hk1 hk hlive W τW cW tW hW=>by
      have tg:∀b,b<W2.heap.size→w.heap.size≤b→500≤τW b:=fun b h1 h2=>by rw[tW b h1,fr b h2];omega
      have l_sp:=o_sp.lt (by simp)
      exact commit1_is hW hq hk ((o_sp.calm cW) 0 _ rfl) (tg _ (by omega) (by omega)))
  have c0:=(o_sp 0 _ rfl).1;have hmf2:=hmf.out;go_enter Tryz.func76,Tryz.ntmps76;go_wp2_with fail
  clear hW2;refine hd.mono ?_;rintro e w5 hp;obtain⟨v,x,rfl,hv,hx,n5⟩:=hp;have hP:NumP w τ s q S (.returned (.tuple #[vI v,vI x])) w5:=(show DeedP w τ s q S (NumR) (.returned (.tuple #[vI v,vI x])) w5 from⟨v,x,rfl,hv,hx,n5.outT k2 tk⟩).num;replace hP:=hid hP;clear hd n5;go_wp2
  go_ret2
  exact hP.out
set_option maxRecDepth 4000 in
theorem free_is (h:St w τ s q S)(hq:q≤100000)(t:Int)(ht:I64 t){a:Nat}(ha:a≤131072) :
    Calls Tryz.prog 90 #[pV S.sp,vI t,vI (a:Int)] w (ChP w τ s q S):=by
  obtain⟨τ0,hf,tk,fr⟩:=h.fresh;have hmf:=hid run_mf;obtain⟨W2,hW2,k2,o_sp,o_a⟩:=newE2 w [pV S.sp] 54 [vI (a:Int)] 3;have t_sp:500≤τ0 (w.heap.size):=by rw[fr _ (by omega)];omega
  have t_a:500≤τ0 (w.heap.size+1):=by rw[fr _ (by omega)];omega
  have hd:=deed_is (s':=s) (q':=q) (hf.calm k2) hq (Nat.le_refl _) (Nat.le_refl _) t ht 149 #[.pointer (some ⟨w.heap.size,0,none⟩),.pointer (some ⟨w.heap.size+1,0,none⟩)] (NumR) (enters_of Tryz.func149 (by kernel_rfl) rfl)
    (fun k hk1 hk hlive W τW cW tW hW=>by
      have tg:∀b,b<W2.heap.size→w.heap.size≤b→500≤τW b:=fun b h1 h2=>by rw[tW b h1,fr b h2];omega
      have l_sp:=o_sp.lt (by simp);have l_a:=o_a.lt (by simp)
      exact free1_is hW hk ha ((o_sp.calm cW) 0 _ rfl) ((o_a.calm cW) 0 _ rfl) (tg _ (by omega) (by omega)) (tg _ (by omega) (by omega)))
  have c0:=(o_sp 0 _ rfl).1;have hmf2:=hmf.out;go_enter Tryz.func90,Tryz.ntmps90;go_wp2_with fail
  clear hW2;refine hd.mono ?_;rintro e w5 hp;obtain⟨v,x,rfl,hv,hx,n5⟩:=hp;have hP:NumP w τ s q S (.returned (.tuple #[vI v,vI x])) w5:=(show DeedP w τ s q S (NumR) (.returned (.tuple #[vI v,vI x])) w5 from⟨v,x,rfl,hv,hx,n5.outT k2 tk⟩).num
  have hP2:ChP w τ s q S (.returned (vI x)) w5:=by
    obtain⟨v1,x1,e1,_,g1,g2,g3⟩:=hP;injection e1 with e1;injection e1 with e1;simp at e1;obtain⟨rfl,rfl⟩:=e1
    exact⟨_,rfl,g1,g2,g3⟩
  replace hP2:=hid hP2;clear hd n5 hP;go_wp2;go_ret;exact hP2.out
set_option maxRecDepth 4000 in
theorem put_is (h:St w τ s q S)(hq:q≤100000)(t:Int)(ht:I64 t){a:Nat}(ha:a≤131072){k:Int}(hk64:I64 k){b:Nat}(hb:b≤131072) :
    Calls Tryz.prog 87 #[pV S.sp,vI t,vI (a:Int),vI k,vI (b:Int)] w (ChP w τ s q S):=by
  obtain⟨τ0,hf,tk,fr⟩:=h.fresh;have hmf:=hid run_mf;obtain⟨W2,hW2,k2,o_sp,o_a,o_k,o_b⟩:=newE4 w [pV S.sp] 54 [vI (a:Int)] 3 [vI k] 3 [vI (b:Int)] 3;have t_sp:500≤τ0 (w.heap.size):=by rw[fr _ (by omega)];omega
  have t_a:500≤τ0 (w.heap.size+1):=by rw[fr _ (by omega)];omega
  have t_k:500≤τ0 (w.heap.size+1+1):=by rw[fr _ (by omega)];omega
  have t_b:500≤τ0 (w.heap.size+1+1+1):=by rw[fr _ (by omega)];omega
  have hd:=deed_is (s':=s) (q':=q) (hf.calm k2) hq (Nat.le_refl _) (Nat.le_refl _) t ht 144 #[.pointer (some ⟨w.heap.size+1+1+1,0,none⟩),.pointer (some ⟨w.heap.size,0,none⟩),.pointer (some ⟨w.heap.size+1,0,none⟩),.pointer (some ⟨w.heap.size+1+1,0,none⟩)] (NumR) (enters_of Tryz.func144 (by kernel_rfl) rfl)
    (fun k hk1 hk hlive W τW cW tW hW=>by
      have tg:∀b,b<W2.heap.size→w.heap.size≤b→500≤τW b:=fun b h1 h2=>by rw[tW b h1,fr b h2];omega
      have l_sp:=o_sp.lt (by simp);have l_a:=o_a.lt (by simp);have l_k:=o_k.lt (by simp);have l_b:=o_b.lt (by simp)
      exact put1_is hW hk ha hk64 hb ((o_sp.calm cW) 0 _ rfl) ((o_a.calm cW) 0 _ rfl) ((o_k.calm cW) 0 _ rfl) ((o_b.calm cW) 0 _ rfl))
  have c0:=(o_sp 0 _ rfl).1;have hmf2:=hmf.out;go_enter Tryz.func87,Tryz.ntmps87;go_wp2_with fail
  clear hW2;refine hd.mono ?_;rintro e w5 hp;obtain⟨v,x,rfl,hv,hx,n5⟩:=hp;have hP:NumP w τ s q S (.returned (.tuple #[vI v,vI x])) w5:=(show DeedP w τ s q S (NumR) (.returned (.tuple #[vI v,vI x])) w5 from⟨v,x,rfl,hv,hx,n5.outT k2 tk⟩).num
  have hP2:ChP w τ s q S (.returned (vI x)) w5:=by
    obtain⟨v1,x1,e1,_,g1,g2,g3⟩:=hP;injection e1 with e1;injection e1 with e1;simp at e1;obtain⟨rfl,rfl⟩:=e1
    exact⟨_,rfl,g1,g2,g3⟩
  replace hP2:=hid hP2;clear hd n5 hP;go_wp2;go_ret;exact hP2.out
set_option maxRecDepth 4000 in
theorem write_is (h:St w τ s q S)(hq:q≤100000)(t:Int)(ht:I64 t){a:Nat}(ha:a≤131072){k:Int}(hk64:I64 k){b:Int}(hb:I64 b) :
    Calls Tryz.prog 89 #[pV S.sp,vI t,vI (a:Int),vI k,vI b] w (ChP w τ s q S):=by
  obtain⟨τ0,hf,tk,fr⟩:=h.fresh;have hmf:=hid run_mf;obtain⟨W2,hW2,k2,o_sp,o_a,o_k,o_b⟩:=newE4 w [pV S.sp] 54 [vI (a:Int)] 3 [vI k] 3 [vI b] 3;have t_sp:500≤τ0 (w.heap.size):=by rw[fr _ (by omega)];omega
  have t_a:500≤τ0 (w.heap.size+1):=by rw[fr _ (by omega)];omega
  have t_k:500≤τ0 (w.heap.size+1+1):=by rw[fr _ (by omega)];omega
  have t_b:500≤τ0 (w.heap.size+1+1+1):=by rw[fr _ (by omega)];omega
  have hd:=deed_is (s':=s) (q':=q) (hf.calm k2) hq (Nat.le_refl _) (Nat.le_refl _) t ht 147 #[.pointer (some ⟨w.heap.size+1,0,none⟩),.pointer (some ⟨w.heap.size+1+1,0,none⟩),.pointer (some ⟨w.heap.size,0,none⟩),.pointer (some ⟨w.heap.size+1+1+1,0,none⟩)] (NumR) (enters_of Tryz.func147 (by kernel_rfl) rfl)
    (fun k hk1 hk hlive W τW cW tW hW=>by
      have tg:∀b,b<W2.heap.size→w.heap.size≤b→500≤τW b:=fun b h1 h2=>by rw[tW b h1,fr b h2];omega
      have l_sp:=o_sp.lt (by simp);have l_a:=o_a.lt (by simp);have l_k:=o_k.lt (by simp);have l_b:=o_b.lt (by simp)
      exact write1_is hW hk ha hk64 hb ((o_sp.calm cW) 0 _ rfl) ((o_a.calm cW) 0 _ rfl) ((o_k.calm cW) 0 _ rfl) ((o_b.calm cW) 0 _ rfl))
  have c0:=(o_sp 0 _ rfl).1;have hmf2:=hmf.out;go_enter Tryz.func89,Tryz.ntmps89;go_wp2_with fail
  clear hW2;refine hd.mono ?_;rintro e w5 hp;obtain⟨v,x,rfl,hv,hx,n5⟩:=hp;have hP:NumP w τ s q S (.returned (.tuple #[vI v,vI x])) w5:=(show DeedP w τ s q S (NumR) (.returned (.tuple #[vI v,vI x])) w5 from⟨v,x,rfl,hv,hx,n5.outT k2 tk⟩).num
  have hP2:ChP w τ s q S (.returned (vI x)) w5:=by
    obtain⟨v1,x1,e1,_,g1,g2,g3⟩:=hP;injection e1 with e1;injection e1 with e1;simp at e1;obtain⟨rfl,rfl⟩:=e1
    exact⟨_,rfl,g1,g2,g3⟩
  replace hP2:=hid hP2;clear hd n5 hP;go_wp2;go_ret;exact hP2.out
set_option maxRecDepth 4000 in
theorem field_0 (h:St w τ s q S)(hq:q≤100000)(t:Int)(ht:I64 t){a:Nat}(ha:a≤131072){k:Int}(hk64:I64 k) :
    Calls Tryz.prog 137 #[pV S.sp,vI t,vI (a:Int),vI k,.func (.func 138) #[] #[]] w (GetP w τ s q S):=by
  obtain⟨τ0,hf,tk,fr⟩:=h.fresh;have hmf:=hid run_mf;obtain⟨W2,hW2,k2,o_sp,o_a,o_k,o_f⟩:=newE4 w [pV S.sp] 54 [vI (a:Int)] 3 [vI k] 3 [.func (.func 138) #[] #[]] 211;have t_sp:500≤τ0 (w.heap.size):=by rw[fr _ (by omega)];omega
  have t_a:500≤τ0 (w.heap.size+1):=by rw[fr _ (by omega)];omega
  have t_k:500≤τ0 (w.heap.size+1+1):=by rw[fr _ (by omega)];omega
  have t_f:500≤τ0 (w.heap.size+1+1+1):=by rw[fr _ (by omega)];omega
  have hd:=deed_is (s':=s) (q':=q) (hf.calm k2) hq (Nat.le_refl _) (Nat.le_refl _) t ht 186 #[.pointer (some ⟨w.heap.size,0,none⟩),.pointer (some ⟨w.heap.size+1,0,none⟩),.pointer (some ⟨w.heap.size+1+1+1,0,none⟩),.pointer (some ⟨w.heap.size+1+1,0,none⟩)] (GetR) (enters_of Tryz.func186 (by kernel_rfl) rfl)
    (fun k hk1 hk hlive W τW cW tW hW=>by
      have tg:∀b,b<W2.heap.size→w.heap.size≤b→500≤τW b:=fun b h1 h2=>by rw[tW b h1,fr b h2];omega
      have l_sp:=o_sp.lt (by simp);have l_a:=o_a.lt (by simp);have l_k:=o_k.lt (by simp);have l_f:=o_f.lt (by simp)
      exact field1_0 hW hk ha ((o_sp.calm cW) 0 _ rfl) ((o_a.calm cW) 0 _ rfl) ((o_f.calm cW) 0 _ rfl) ((o_k.calm cW) 0 _ rfl) (tg _ (by omega) (by omega)) (tg _ (by omega) (by omega)) (tg _ (by omega) (by omega)) (tg _ (by omega) (by omega)))
  have c0:=(o_sp 0 _ rfl).1;have hmf2:=hmf.out;go_enter Tryz.func137,Tryz.ntmps137;go_wp2_with fail
  clear hW2;refine hd.mono ?_;rintro e w5 hp;obtain⟨v,x,rfl,hv,hx,n5⟩:=hp;have hP:GetP w τ s q S (.returned (.tuple #[vI v,vI x])) w5:=(show DeedP w τ s q S (GetR) (.returned (.tuple #[vI v,vI x])) w5 from⟨v,x,rfl,hv,hx,n5.outT k2 tk⟩).get;replace hP:=hid hP;clear hd n5;go_wp2
  go_ret2
  exact hP.out
theorem get_is (h:St w τ s q S)(hq:q≤100000)(t:Int)(ht:I64 t){a:Nat}(ha:a≤131072){k:Int}(hk64:I64 k) :
    Calls Tryz.prog 84 #[pV S.sp,vI t,vI (a:Int),vI k] w (GetP w τ s q S):=by
  have hd:=field_0 h hq t ht ha hk64;go_enter Tryz.func84,Tryz.ntmps84;go_wp2_with fail
  refine hd.mono ?_;rintro e w5 hp;have hp2:=hid hp;obtain⟨v,x,rfl,-⟩:=hp;clear hd;go_wp2
  go_ret2
  exact hp2.out
set_option maxRecDepth 4000 in
theorem field_1 (h:St w τ s q S)(hq:q≤100000)(t:Int)(ht:I64 t){a:Nat}(ha:a≤131072){k:Int}(hk64:I64 k) :
    Calls Tryz.prog 137 #[pV S.sp,vI t,vI (a:Int),vI k,.func (.func 146) #[] #[]] w (NumP w τ s q S):=by
  obtain⟨τ0,hf,tk,fr⟩:=h.fresh;have hmf:=hid run_mf;obtain⟨W2,hW2,k2,o_sp,o_a,o_k,o_f⟩:=newE4 w [pV S.sp] 54 [vI (a:Int)] 3 [vI k] 3 [.func (.func 146) #[] #[]] 211;have t_sp:500≤τ0 (w.heap.size):=by rw[fr _ (by omega)];omega
  have t_a:500≤τ0 (w.heap.size+1):=by rw[fr _ (by omega)];omega
  have t_k:500≤τ0 (w.heap.size+1+1):=by rw[fr _ (by omega)];omega
  have t_f:500≤τ0 (w.heap.size+1+1+1):=by rw[fr _ (by omega)];omega
  have hd:=deed_is (s':=s) (q':=q) (hf.calm k2) hq (Nat.le_refl _) (Nat.le_refl _) t ht 186 #[.pointer (some ⟨w.heap.size,0,none⟩),.pointer (some ⟨w.heap.size+1,0,none⟩),.pointer (some ⟨w.heap.size+1+1+1,0,none⟩),.pointer (some ⟨w.heap.size+1+1,0,none⟩)] (NumR) (enters_of Tryz.func186 (by kernel_rfl) rfl)
    (fun k hk1 hk hlive W τW cW tW hW=>by
      have tg:∀b,b<W2.heap.size→w.heap.size≤b→500≤τW b:=fun b h1 h2=>by rw[tW b h1,fr b h2];omega
      have l_sp:=o_sp.lt (by simp);have l_a:=o_a.lt (by simp);have l_k:=o_k.lt (by simp);have l_f:=o_f.lt (by simp)
      exact field1_1 hW hk ha ((o_sp.calm cW) 0 _ rfl) ((o_a.calm cW) 0 _ rfl) ((o_f.calm cW) 0 _ rfl) ((o_k.calm cW) 0 _ rfl) (tg _ (by omega) (by omega)) (tg _ (by omega) (by omega)) (tg _ (by omega) (by omega)) (tg _ (by omega) (by omega)))
  have c0:=(o_sp 0 _ rfl).1;have hmf2:=hmf.out;go_enter Tryz.func137,Tryz.ntmps137;go_wp2_with fail
  clear hW2;refine hd.mono ?_;rintro e w5 hp;obtain⟨v,x,rfl,hv,hx,n5⟩:=hp;have hP:NumP w τ s q S (.returned (.tuple #[vI v,vI x])) w5:=(show DeedP w τ s q S (NumR) (.returned (.tuple #[vI v,vI x])) w5 from⟨v,x,rfl,hv,hx,n5.outT k2 tk⟩).num;replace hP:=hid hP;clear hd n5;go_wp2
  go_ret2
  exact hP.out
theorem read_is (h:St w τ s q S)(hq:q≤100000)(t:Int)(ht:I64 t){a:Nat}(ha:a≤131072){k:Int}(hk64:I64 k) :
    Calls Tryz.prog 88 #[pV S.sp,vI t,vI (a:Int),vI k] w (NumP w τ s q S):=by
  have hd:=field_1 h hq t ht ha hk64;go_enter Tryz.func88,Tryz.ntmps88;go_wp2_with fail
  refine hd.mono ?_;rintro e w5 hp;have hp2:=hid hp;obtain⟨v,x,rfl,-⟩:=hp;clear hd;go_wp2
  go_ret2
  exact hp2.out
end
section
open Go.RowKit Go.Shelf
variable {w:World}{τ:Nat→Nat}{s q:Nat}{S:StD}
theorem tabort_is (h:St w τ s q S)(hq:q≤100000)(t:Int)(ht:I64 t):Calls Tryz.prog 91 #[pV S.sp,vI t] w (ChP w τ s q S):=by
  have hr:=running_is h t ht;go_enter Tryz.func91,Tryz.ntmps91;go_wp2_with fail
  refine hr.mono ?_;rintro e w' ⟨⟨k,rfl,hk,hlive,rfl⟩|⟨hn,rfl⟩,rfl⟩
  · have ha:=abort_is h hq hk;go_wp2_with fail
    refine ha.mono ?_;rintro e w1 ⟨rfl,n1⟩;have hP:ChP w' τ s q S (.returned (vI 0)) w1:=⟨0,rfl,by decide,by decide,n1.any⟩;replace hP:=hid hP;clear n1 ha hr;go_wp2;go_ret;exact hP.out
  · have hP:ChP w' τ s q S (.returned (vI 140)) w':=⟨140,rfl,by decide,by decide,Nx.calm h (Fr.refl _ _) trivial⟩;replace hP:=hid hP;clear hr;go_wp2;go_ret;exact hP.out
theorem tlive_is (h:St w τ s q S)(t:Int)(ht:I64 t):Calls Tryz.prog 75 #[pV S.sp,vI t] w fun e w'=>(∃ (v:Int) (b:Bool),e = .returned (.tuple #[vI v,.bool b])∧I64 v)∧w'=w:=by
  have hr:=running_is h t ht;go_enter Tryz.func75,Tryz.ntmps75;go_wp2_with fail
  refine hr.mono ?_;rintro e w' ⟨⟨k,rfl,hk,hlive,rfl⟩|⟨hn,rfl⟩,rfl⟩
  · have c2:=(h.txc hk 2 _ rfl).1;have hi:=(h.ok.x k hk).i.1;clear hr;go_wp2
    go_ret2
    exact⟨⟨_,_,rfl,hi⟩,rfl⟩
  · clear hr;go_wp2
    go_ret2
    exact⟨⟨_,_,rfl,by decide⟩,rfl⟩
theorem sserial_is (h:St w τ s q S){a:Nat}(ha:a≤131072):Calls Tryz.prog 53 #[pV S.sp,vI (a:Int)] w fun e w'=>(∃x:Int,e = .returned (.tuple #[vI (sr S.D.A a:Nat),vI x]))∧Calm w w':=by
  have c0:=(h.cells 0 _ rfl).1;obtain⟨X,hh⟩:=h.hat;have hs:=hserial_any hh h.ok.hw ha;go_enter Tryz.func53,Tryz.ntmps53;go_wp2_with fail
  refine hs.mono ?_;rintro e w' ⟨⟨x,rfl⟩,c⟩;clear hs;go_wp2
  go_ret2
  exact⟨⟨_,rfl⟩,c⟩
theorem sroom_is (h:St w τ s q S):Calls Tryz.prog 24 #[pV S.sp] w fun e w'=>e = .returned (vI S.D.A.room)∧Calm w w':=by
  have c0:=(h.cells 0 _ rfl).1;obtain⟨X,hh⟩:=h.hat;have hs:=room_is hh;go_enter Tryz.func24,Tryz.ntmps24;go_wp2_with fail
  refine hs.mono ?_;rintro e w' ⟨rfl,c⟩;clear hs;go_wp2;go_ret;exact⟨rfl,c⟩
def OutP0 (w:World)(τ:Nat→Nat)(s q:Nat)(S:StD)(e:Ending)(w':World):Prop:=
  e = .returned S.lv∧ORow w' 0 S.lv (nI S.lost)∧Fr (fun b=>b=S.sp) w w'∧∃τ',St w' τ' s q { S with lv:=.slice none 0 0,lost:=[] } ∧ (∀b,InB S.lv b→τ' b=1000)∧∀b,500≤τ b→τ' b=τ b
theorem out_0 (h:St w τ s q S):Calls Tryz.prog 23 #[pV S.sp] w (OutP0 w τ s q S):=by
  have hc:=h.cells;have y0:=(hc 8 _ rfl).1;have f0:=(hc 8 _ rfl).2;obtain⟨M,h1,h2,h3⟩:=h;have hr:ORow w 0 S.lv (nI S.lost):=by have:=h1.at_ 6;rw[h2.l] at this;exact this
  have hne:∀b,InB S.lv b→b≠S.sp:=by
    rintro b hb rfl;exact h1.apart (t:=6) (u:=2) (by omega) (by rw[h2.l];exact hb) (by rw[h2.c];rfl)
  have F:=frS w (S.sp) 8 (.slice none 0 0);have hc9:=hc.set 8 (.slice none 0 0) (by simp[StD.cs])
  have hP:OutP0 w τ s q S (.returned S.lv) (w.setCell ⟨S.sp,8,none⟩ (.slice none 0 0)):=by
    classical
    refine⟨rfl,hr.frB F (fun b hb=>hne b hb),F,fun k=>if InB S.lv k then 1000 else τ k,?_,fun b hb=>if_pos hb,fun b hb=>?_⟩
    · have hb2:(M 2).blk=fun k=>k=S.sp:=by rw[h2.c];rfl
      have k1:=h1.put' (t:=2) (a:=aCells S.sp (pV S.D.B.hp) [pV S.D.c,pV S.ck,S.tsv,S.qv,vI S.next,vI S.holder,vI S.ver,.slice none 0 0,S.cv]) (F.mono (fun k _ e=>by rw[hb2];exact e)) hc9 (fun k hk=>by rw[hb2];exact hk);have o:=(Mem.Only.put M (P:=fun j=>j=2∨j=6) (aCells S.sp (pV S.D.B.hp) [pV S.D.c,pV S.ck,S.tsv,S.qv,vI S.next,vI S.holder,vI S.ver,.slice none 0 0,S.cv]) (.inl rfl)).trans (Mem.Only.put _ (aRow (.slice none 0 0) (nI [])) (.inr rfl))
      refine⟨_,(?_:Hold _ _ ((M.put 2 (aCells S.sp (pV S.D.B.hp) [pV S.D.c,pV S.ck,S.tsv,S.qv,vI S.next,vI S.holder,vI S.ver,.slice none 0 0,S.cv])).put 6 (aRow (.slice none 0 0) (nI [])))),⟨(o 0 (by omega)).trans h2.h,?_,(o 3 (by omega)).trans h2.k,(o 4 (by omega)).trans h2.t,(o 5 (by omega)).trans h2.q,?_,?_,fun t ht=>(h2.x t ht).only o (fun j h1 h2=>by omega),fun u hu=>(o u (by omega)).trans (h2.z u hu)⟩,
        ⟨h3.hw,h3.ph,h3.p2,h3.se,h3.rd,h3.ls,h3.ck,h3.n,h3.x,h3.qu,h3.tt,h3.nx,h3.ho,h3.ve,Nat.zero_le _,h3.ca⟩⟩
      · refine⟨fun t=>?_,fun t k hk=>?_⟩
        · by_cases e:t=6
          · subst e;rw[Mem.put_same];exact ORow.nil _ _
          · rw[Mem.put_other _ _ e];exact k1.at_ t
        · by_cases e:t=6
          · subst e;rw[Mem.put_same] at hk;exact(InB.nil k hk).elim
          · rw[Mem.put_other _ _ e] at hk;have h9:=k1.tag t k hk
            have:¬InB S.lv k:=fun e2=>by
              have h8:=h1.tag 6 k (by rw[h2.l];exact e2);omega
            simp only[if_neg this];exact h9
      · rw[Mem.put_other _ _ (by omega),Mem.put_same]
      · rw[Mem.put_same]
      · exact(o 7 (by omega)).trans h2.m
    · have:¬InB S.lv b:=fun e2=>by
        have h8:=h1.tag 6 b (by rw[h2.l];exact e2);omega
      exact if_neg this
  replace hP:=hid hP;obtain⟨sa,sn,sc,hv⟩:=hr.letters;rw[hv] at hP y0;clear hr hne h1 h2 h3 F hc9 hv;go_enter Tryz.func23,Tryz.ntmps23;go_wp2;go_ret;exact hP.out
def OutP1 (w:World)(τ:Nat→Nat)(s q:Nat)(S:StD)(e:Ending)(w':World):Prop:=
  e = .returned S.cv∧ORow w' 0 S.cv (nI S.came)∧Fr (fun b=>b=S.sp) w w'∧∃τ',St w' τ' s q { S with cv:=.slice none 0 0,came:=[] } ∧ (∀b,InB S.cv b→τ' b=1000)∧∀b,500≤τ b→τ' b=τ b
theorem out_1 (h:St w τ s q S):Calls Tryz.prog 21 #[pV S.sp] w (OutP1 w τ s q S):=by
  have hc:=h.cells;have y0:=(hc 9 _ rfl).1;have f0:=(hc 9 _ rfl).2;obtain⟨M,h1,h2,h3⟩:=h;have hr:ORow w 0 S.cv (nI S.came):=by have:=h1.at_ 7;rw[h2.m] at this;exact this
  have hne:∀b,InB S.cv b→b≠S.sp:=by
    rintro b hb rfl;exact h1.apart (t:=7) (u:=2) (by omega) (by rw[h2.m];exact hb) (by rw[h2.c];rfl)
  have F:=frS w (S.sp) 9 (.slice none 0 0);have hc9:=hc.set 9 (.slice none 0 0) (by simp[StD.cs])
  have hP:OutP1 w τ s q S (.returned S.cv) (w.setCell ⟨S.sp,9,none⟩ (.slice none 0 0)):=by
    classical
    refine⟨rfl,hr.frB F (fun b hb=>hne b hb),F,fun k=>if InB S.cv k then 1000 else τ k,?_,fun b hb=>if_pos hb,fun b hb=>?_⟩
    · have hb2:(M 2).blk=fun k=>k=S.sp:=by rw[h2.c];rfl
      have k1:=h1.put' (t:=2) (a:=aCells S.sp (pV S.D.B.hp) [pV S.D.c,pV S.ck,S.tsv,S.qv,vI S.next,vI S.holder,vI S.ver,S.lv,.slice none 0 0]) (F.mono (fun k _ e=>by rw[hb2];exact e)) hc9 (fun k hk=>by rw[hb2];exact hk);have o:=(Mem.Only.put M (P:=fun j=>j=2∨j=7) (aCells S.sp (pV S.D.B.hp) [pV S.D.c,pV S.ck,S.tsv,S.qv,vI S.next,vI S.holder,vI S.ver,S.lv,.slice none 0 0]) (.inl rfl)).trans (Mem.Only.put _ (aRow (.slice none 0 0) (nI [])) (.inr rfl))
      refine⟨_,(?_:Hold _ _ ((M.put 2 (aCells S.sp (pV S.D.B.hp) [pV S.D.c,pV S.ck,S.tsv,S.qv,vI S.next,vI S.holder,vI S.ver,S.lv,.slice none 0 0])).put 7 (aRow (.slice none 0 0) (nI [])))),⟨(o 0 (by omega)).trans h2.h,?_,(o 3 (by omega)).trans h2.k,(o 4 (by omega)).trans h2.t,(o 5 (by omega)).trans h2.q,?_,?_,fun t ht=>(h2.x t ht).only o (fun j h1 h2=>by omega),fun u hu=>(o u (by omega)).trans (h2.z u hu)⟩,
        ⟨h3.hw,h3.ph,h3.p2,h3.se,h3.rd,h3.ls,h3.ck,h3.n,h3.x,h3.qu,h3.tt,h3.nx,h3.ho,h3.ve,h3.lo,Nat.zero_le _⟩⟩
      · refine⟨fun t=>?_,fun t k hk=>?_⟩
        · by_cases e:t=7
          · subst e;rw[Mem.put_same];exact ORow.nil _ _
          · rw[Mem.put_other _ _ e];exact k1.at_ t
        · by_cases e:t=7
          · subst e;rw[Mem.put_same] at hk;exact(InB.nil k hk).elim
          · rw[Mem.put_other _ _ e] at hk;have h9:=k1.tag t k hk
            have:¬InB S.cv k:=fun e2=>by
              have h8:=h1.tag 7 k (by rw[h2.m];exact e2);omega
            simp only[if_neg this];exact h9
      · rw[Mem.put_other _ _ (by omega),Mem.put_same]
      · exact(o 6 (by omega)).trans h2.l
      · rw[Mem.put_same]
    · have:¬InB S.cv b:=fun e2=>by
        have h8:=h1.tag 7 b (by rw[h2.m];exact e2);omega
      exact if_neg this
  replace hP:=hid hP;obtain⟨sa,sn,sc,hv⟩:=hr.letters;rw[hv] at hP y0;clear hr hne h1 h2 h3 F hc9 hv;go_enter Tryz.func21,Tryz.ntmps21;go_wp2;go_ret;exact hP.out
end
section
open Go.RowKit Go.Shelf
variable {w:World}{τ:Nat→Nat}{s q:Nat}{S:StD}
theorem St.x_sp (h:St w τ s q S){t:Nat}(ht:t<S.txs.length):S.sp≠(S.tx t).xp:=by
  obtain⟨M,h1,h2,h3⟩:=h;have:=h3.n;intro e;exact h1.apart (t:=10+8*t) (u:=2) (k:=S.sp) (by omega) (by rw[(h2.x t ht).c];exact e) (by rw[h2.c];rfl)
set_option maxRecDepth 4000 in
theorem begin_is (h:St w τ s q S)(hq:q≤100000)(t:Int)(ht:I64 t):Calls Tryz.prog 74 #[pV S.sp,vI t] w (ChP w τ s q S):=by
  have hr:=thread_is h t ht;have hn8:=h.ok.n;have hcs:=h.cells;have c3:w.cell? ⟨S.sp,3,none⟩=some S.tsv:=(hcs 3 _ rfl).1;have c2:=(hcs 2 _ rfl).1;have c5:=(hcs 5 _ rfl).1;obtain⟨N,hN⟩:∃N,S.txs.length=N:=⟨_,rfl⟩;have hrow:=h.thr;obtain⟨sa,sc,hsv⟩:=owns_slice hrow;rw[hN] at hsv;rw[hsv] at c3
  have hget:Hid (∀i,i<N→∃g,sa=some ⟨g,0,none⟩∧w.cell? ⟨g,i,none⟩=some (pV (S.tx i).xp)∧w.cell? ⟨(S.tx i).xp,1,none⟩=some (.bool (S.tx i).live)):=fun i hi=>by
    obtain⟨g,c,hv,ho⟩:=owns_get hrow (by decide) (show i<S.txs.length by omega);have h1:=(ho 0 (by decide)).1;rw[show i*1+0=i by omega] at h1;have hi2:i<S.txs.length:=by omega
    have e1:(S.txs.map fun x=>pV x.xp).getD i .nilFunc=pV (S.tx i).xp:=by simp[StD.tx,List.getD_eq_getElem?_getD,hi2]
    rw[e1] at h1;rw[hsv] at hv;injection hv with e2 e3 e4
    exact⟨g,e2,h1,(h.txc hi2 1 _ rfl).1⟩
  have bad:Hid (∀ (x:Int) W,Calm w W→I64 x→x≠100→ChP w τ s q S (.returned (vI x)) W):=fun x W c h1 h2=>⟨x,rfl,h1,h2,Nx.calm h c trivial⟩;clear hrow hsv;go_enter Tryz.func74,Tryz.ntmps74;go_wp2_with fail
  refine hr.mono ?_;rintro e w' ⟨⟨k,rfl,hk,rfl⟩|⟨hn,rfl⟩,rfl⟩
  · clear hr;have x1:=(h.txc hk 1 _ rfl).1
    cases hl:(S.tx k).live with
    | true=>
      rw[hl] at x1;go_wp2;go_ret;exact bad.out 140 _ (Fr.refl _ _) (by decide) (by decide)
    | false=>
      rw[hl] at x1;have hN':=hid hN;clear hN;go_wp2_with fail
      go_loopw [6,25] (fun n z wr=>∃i c:Nat,i≤N∧c≤i∧n=vI c∧z=vI i∧wr=w') (fun _ z _=>N-(intOf z).toNat)
      case atStart=>exact⟨0,0,by omega,by omega,rfl,rfl,rfl⟩
      case round=>
        obtain⟨i,c,hi,hc,rfl,rfl,hw⟩:=hrel;subst wr;have hN8:N≤8:=by have:=hN'.out;omega
        by_cases hlt:i<N
        · obtain⟨g,rfl,e1,e2⟩:=hget.out i hlt;clear x1
          cases hl2:(S.tx i).live with
          | true=>
            rw[hl2] at e2;go_wp2;exact⟨⟨i+1,c+1,by omega,by omega,by simp,by simp,trivial⟩,by simp[intOf] <;> omega⟩
          | false=>
            rw[hl2] at e2;go_wp2;exact⟨⟨i+1,c,by omega,by omega,rfl,by simp,trivial⟩,by simp[intOf] <;> omega⟩
        · obtain rfl:i=N:=by omega
          have om:=clock_may h.clk h.ok.ck (c+1) (by omega);rw[show(((c+1:Nat):Int))=(c:Int)+1 by omega] at om;go_wp2_with fail
          refine om.mono ?_;rintro e w2 ⟨⟨b,rfl⟩,k2⟩;clear om
          cases b with
          | false=>
            go_wp2;go_ret;exact bad.out 120 _ k2 (by decide) (by decide)
          | true=>
            have h2:=h.calm k2;have d2:=k2.cellAt c2 id;have d5:=k2.cellAt c5 id;have kd:Calm w2 w2.drew:=(Fr.refl _ _).drew;have hck:=(h2.calm kd).clk;have onow:=clock_now (hck 0 _ rfl);have hxd:=(h2.calm kd).txc hk;have hxo:=h.ok.x k hk;have hx2:=h2.txc hk;have u1:=(hx2 1 _ rfl).1;have u2:=(hx2 2 _ rfl).1;have u3:=(hx2 3 _ rfl).1;have v1:=(hx2 1 _ rfl).2;have v2:=(hx2 2 _ rfl).2;have v3:=(hx2 3 _ rfl).2;clear hx2;have hxs:=h.x_sp hk;have hcko:=h.ok.ck;have hnx:=h.ok.nx;clear x1 c3 c2 c5 hcs hget bad;go_wp2_with fail
            refine wp_region_any (by kernel_rfl) (wpAny_last [0,1,2,3,4,5,6,8,9,10,11] [7,12,13,14,15,16,17,18,19,20] (fun w'=>w'.cell? ⟨S.sp,2,none⟩=some (pV S.ck)∧w'.cell? ⟨S.sp,5,none⟩=some (vI (S.next:Int))) (by kernel_rfl) ⟨d2,d5⟩ ?_);refine pickList_step (pV (S.tx k).xp) rfl rfl (fun w' hw'=>?_) (fun _ _ _ h=>h) ?_
            · simp[go_sem]
            refine pickList_step (pV (S.tx k).xp) rfl rfl (fun w' hw'=>?_) (fun _ _ _ h=>h) ?_
            · simp[go_sem]
            refine pickList_step (pV (S.tx k).xp) rfl rfl (fun w' hw'=>?_) (fun _ _ _ h=>h) ?_
            · simp[go_sem]
            refine pickList_step (pV S.sp) rfl rfl (fun w' hw'=>?_) (fun _ _ _ h=>h) ?_
            · simp[go_sem]
            refine pickList_step (pV S.sp) rfl rfl (fun w' hw'=>?_) (fun _ _ _ h=>h) ?_
            · simp[go_sem]
            refine pickList_step (.pointer (some ⟨S.sp,2,none⟩)) rfl rfl (fun w' hw'=>?_) (fun _ _ _ h=>h) ?_
            · simp[go_sem]
            refine pickList_step (pV S.ck) rfl rfl (fun w' hw'=>?_) (fun _ _ _ h=>h) ?_
            · have e1:=hw'.1;simp[go_sem,e1]
            refine pickList_step (pV S.sp) rfl rfl (fun w' hw'=>?_) (fun _ _ _ h=>h) ?_
            · simp[go_sem]
            refine pickList_step (pV S.sp) rfl rfl (fun w' hw'=>?_) (fun _ _ _ h=>h) ?_
            · simp[go_sem]
            refine pickList_step (.pointer (some ⟨S.sp,5,none⟩)) rfl rfl (fun w' hw'=>?_) (fun _ _ _ h=>h) ?_
            · simp[go_sem]
            refine pickList_step (vI (S.next:Int)) rfl rfl (fun w' hw'=>?_) (fun _ _ _ h=>h) ?_
            · have e1:=hw'.2;simp[go_sem,e1]
            simp only[pickList];have m1:=hxd.set 1 (.bool true) (by simp[TxD.cs]);have m2:=m1.set 2 (vI (S.now:Int)) (by simp[TxD.cs]);have m3:=m2.set 3 (vI (S.next:Int)) (by simp[TxD.cs]);have y1:=(hxd 1 _ rfl).1;have g1:=(hxd 1 _ rfl).2;have y2:=(m1 2 _ rfl).1;have g2:=(m1 2 _ rfl).2;have y3:=(m2 3 _ rfl).1;have g3:=(m2 3 _ rfl).2;have F1:Fr (fun b=>b=(S.tx k).xp) w2.drew (w2.drew.setCell ⟨(S.tx k).xp,1,none⟩ (.bool true)):=(Fr.refl (fun b=>b=(S.tx k).xp) w2.drew).setCell (p:=⟨(S.tx k).xp,1,none⟩) (.inl rfl) _;have F2:Fr (fun b=>b=(S.tx k).xp) w2.drew ((w2.drew.setCell ⟨(S.tx k).xp,1,none⟩ (.bool true)).setCell ⟨(S.tx k).xp,2,none⟩ (vI (S.now:Int))):=F1.setCell (p:=⟨(S.tx k).xp,2,none⟩) (.inl rfl) _;have F3:Fr (fun b=>b=(S.tx k).xp) w2.drew (((w2.drew.setCell ⟨(S.tx k).xp,1,none⟩ (.bool true)).setCell ⟨(S.tx k).xp,2,none⟩ (vI (S.now:Int))).setCell ⟨(S.tx k).xp,3,none⟩ (vI (S.next:Int))):=F2.setCell (p:=⟨(S.tx k).xp,3,none⟩) (.inl rfl) _;have dd2:=kd.cellAt d2 id;have dd5:=kd.cellAt d5 id;have a1:(w2.drew.setCell ⟨(S.tx k).xp,1,none⟩ (.bool true)).cell? ⟨S.sp,2,none⟩=some (pV S.ck)∧(w2.drew.setCell ⟨(S.tx k).xp,1,none⟩ (.bool true)).cell? ⟨S.sp,5,none⟩=some (vI (S.next:Int)):=⟨F1.cellAt dd2 hxs,F1.cellAt dd5 hxs⟩;have a2:((w2.drew.setCell ⟨(S.tx k).xp,1,none⟩ (.bool true)).setCell ⟨(S.tx k).xp,2,none⟩ (vI (S.now:Int))).cell? ⟨S.sp,2,none⟩=some (pV S.ck)∧((w2.drew.setCell ⟨(S.tx k).xp,1,none⟩ (.bool true)).setCell ⟨(S.tx k).xp,2,none⟩ (vI (S.now:Int))).cell? ⟨S.sp,5,none⟩=some (vI (S.next:Int)):=⟨F2.cellAt dd2 hxs,F2.cellAt dd5 hxs⟩;have a3:(((w2.drew.setCell ⟨(S.tx k).xp,1,none⟩ (.bool true)).setCell ⟨(S.tx k).xp,2,none⟩ (vI (S.now:Int))).setCell ⟨(S.tx k).xp,3,none⟩ (vI (S.next:Int))).cell? ⟨S.sp,2,none⟩=some (pV S.ck)∧(((w2.drew.setCell ⟨(S.tx k).xp,1,none⟩ (.bool true)).setCell ⟨(S.tx k).xp,2,none⟩ (vI (S.now:Int))).setCell ⟨(S.tx k).xp,3,none⟩ (vI (S.next:Int))).cell? ⟨S.sp,5,none⟩=some (vI (S.next:Int)):=⟨F3.cellAt dd2 hxs,F3.cellAt dd5 hxs⟩;obtain⟨M,H1,H2,H3⟩:=h2.calm kd;have hfin:=St.setC (x':={ S.tx k with live:=true,start:=S.now,seen:=S.next }) H1 H2 H3 hk F3 m3 rfl rfl rfl rfl rfl ⟨hxo.l,hxo.f,hxo.m,⟨by show I64 (S.now:Int);exact⟨by omega,by have:=hcko.2.2;omega⟩,by show I64 (S.next:Int);exact⟨by omega,by omega⟩⟩,hxo.k⟩;have hP:ChP w' τ s q S (.returned (vI 0)) (((w2.drew.setCell ⟨(S.tx k).xp,1,none⟩ (.bool true)).setCell ⟨(S.tx k).xp,2,none⟩ (vI (S.now:Int))).setCell ⟨(S.tx k).xp,3,none⟩ (vI (S.next:Int))):=⟨0,rfl,by decide,by decide,τ,_,hfin.1,(KeepT.calm τ (k2.trans kd)).trans hfin.2,Fix.setX hk rfl rfl,trivial⟩;replace hP:=hid hP;clear hfin m1 m2 m3 hxd F1 F2 F3 H1 H2 H3 hck;refine pickSeq_step rfl rfl ?_;go_wp2_with fail
            refine onow.mono ?_;rintro e w4 ⟨rfl,rfl⟩;refine⟨⟨dd2,dd5⟩,?_⟩;refine pickSeq_step rfl rfl ?_;unfold Oper.wp;go_simp
            try refine⟨⟨dd2,dd5⟩,?_⟩
            refine pickSeq_step rfl rfl ?_;unfold Oper.wp;go_simp
            try refine⟨⟨dd2,dd5⟩,?_⟩
            refine pickSeq_step rfl rfl ?_;unfold Oper.wp;go_simp
            try refine⟨a1,?_⟩
            refine pickSeq_step rfl rfl ?_;unfold Oper.wp;go_simp
            try refine⟨a1,?_⟩
            refine pickSeq_step rfl rfl ?_;unfold Oper.wp;go_simp
            try refine⟨a1,?_⟩
            refine pickSeq_step rfl rfl ?_;unfold Oper.wp;go_simp
            try refine⟨a2,?_⟩
            refine pickSeq_step rfl rfl ?_;unfold Oper.wp;go_simp
            try refine⟨a2,?_⟩
            refine pickSeq_step rfl rfl ?_;unfold Oper.wp;go_simp
            try refine⟨a2,?_⟩
            refine pickSeq_step rfl rfl ?_;unfold Oper.wp;go_simp
            try refine⟨a3,?_⟩
            try simp only[pickSeq]
            clear a1 a2 a3 y1 g1 y2 g2 y3 g3 dd2 dd5 d2 d5 onow;go_wp2;go_ret;exact hP.out
  · clear hr hget;go_wp2;go_ret;exact bad.out 140 _ (Fr.refl _ _) (by decide) (by decide)
end
end Go.Proofs.YtdffnjikmkgjkaaGreat
