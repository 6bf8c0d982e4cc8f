/- TopMemory: a part of its proof (Head Arena Object). -/
import Derived.LoopN
import Derived.Laws.Rows
import Derived.OwnWalk
import Derived.Test.YtdffnjikmkgjkaaGreatTmAA
set_option linter.unusedSimpArgs false
set_option linter.unusedVariables false
set_option maxHeartbeats 1000000
namespace Go.Proofs.YtdffnjikmkgjkaaGreat
section
def hd (p d:Nat)(wk fn fr:Bool):Nat:=1+p*2+d*32+wk.toNat*512+fn.toNat*1024+fr.toNat*2048
def okS (p d:Nat)(wk fn:Bool):Prop:=p≤8∧d≤8∧(wk=true→p=1∧d=0∧fn=false)
theorem or_add {a b k:Nat}(ha:a<2 ^ k)(h:a+b*2 ^ k<18446744073709551616):bits .or .u64 (a:Int) ((b*2 ^ k:Nat):Int)=((a+b*2 ^ k:Nat):Int):=by
  rw[u64_or_nat a (b*2 ^ k) (by omega) (by omega)]
  congr 1
  have:=Nat.shiftLeft_add_eq_or_of_lt ha b;rw[Nat.shiftLeft_eq] at this;rw[Nat.or_comm,←this,Nat.add_comm]
theorem hd_lt {p d:Nat}{wk fn fr:Bool}(h:okS p d wk fn):hd p d wk fn fr<4096:=by
  obtain⟨h1,h2,h3⟩:=h;unfold hd;have:=Bool.toNat_le wk;have:=Bool.toNat_le fn;have:=Bool.toNat_le fr;omega
theorem bit_of {b:Bool}{W k:Nat}(h:gt W k 1=b.toNat):(gt W k 1==1)=b:=by
  rw[h];cases b <;> rfl
theorem gt_hd {p d:Nat}{wk fn fr:Bool}(h:okS p d wk fn) :
    gt (hd p d wk fn fr) 1 4=p∧gt (hd p d wk fn fr) 5 4=d∧gt (hd p d wk fn fr) 9 1=wk.toNat∧gt (hd p d wk fn fr) 10 1=fn.toNat∧gt (hd p d wk fn fr) 11 1=fr.toNat:=by
  obtain⟨h1,h2,h3⟩:=h;unfold gt hd;have:=Bool.toNat_le wk;have:=Bool.toNat_le fn;have:=Bool.toNat_le fr;omega
theorem hd_bits {p d:Nat}{wk fn fr:Bool}(h1:p≤8)(h2:d≤8) :
    bits .or .u64 (bits .or .u64 (bits .or .u64 (bits .or .u64 (bits .or .u64 1 ((p:Int)*2)) ((d:Int)*32)) ((wk.toNat:Int)*512)) ((fn.toNat:Int)*1024)) ((fr.toNat:Int)*2048)=(hd p d wk fn fr:Nat):=by
  have t1:=Bool.toNat_le wk;have t2:=Bool.toNat_le fn;have t3:=Bool.toNat_le fr;have e1:=or_add (a:=1) (b:=p) (k:=1) (by decide) (by omega);have e2:=or_add (a:=1+p*2 ^ 1) (b:=d) (k:=5) (by omega) (by omega);have e3:=or_add (a:=1+p*2 ^ 1+d*2 ^ 5) (b:=wk.toNat) (k:=9) (by omega) (by omega);have e4:=or_add (a:=1+p*2 ^ 1+d*2 ^ 5+wk.toNat*2 ^ 9) (b:=fn.toNat) (k:=10) (by omega) (by omega);have e5:=or_add (a:=1+p*2 ^ 1+d*2 ^ 5+wk.toNat*2 ^ 9+fn.toNat*2 ^ 10) (b:=fr.toNat) (k:=11) (by omega) (by omega);have c1:(p:Int)*2=((p*2 ^ 1:Nat):Int):=by omega
  have c2:(d:Int)*32=((d*2 ^ 5:Nat):Int):=by omega
  have c3:(wk.toNat:Int)*512=((wk.toNat*2 ^ 9:Nat):Int):=by omega
  have c4:(fn.toNat:Int)*1024=((fn.toNat*2 ^ 10:Nat):Int):=by omega
  have c5:(fr.toNat:Int)*2048=((fr.toNat*2 ^ 11:Nat):Int):=by omega
  rw[c1,c2,c3,c4,c5,show(1:Int)=((1:Nat):Int) from rfl,e1,e2,e3,e4,e5];rfl
end
section
open Go.RowKit Go.Shelf
theorem zig_is (n:Int)(w:World)(hn:I64 n) :
    Calls Tryz.prog 216 #[vI n] w fun e w'=>e = .returned (.int .u64 (if 0≤n then 2*n else -2*n-1))∧Calm w w':=by
  obtain⟨hn1,hn2⟩:=hn;go_enter Tryz.func216,Tryz.ntmps216;go_wp2
  · go_ret;exact⟨by rw[Int.mul_comm];rfl,Fr.refl _ _⟩
  · go_ret;refine⟨?_,Fr.refl _ _⟩;obtain⟨m,hm⟩:=Int.eq_ofNat_of_zero_le (show 0≤-(n+1) by omega);rw[hm];have hm':m<9223372036854775808:=by omega
    have e:=u64_or_nat (m*2) 1 (by omega) (by omega)
    have e2:m*2 ||| 1=m*2+1:=by
      rw[Nat.mul_comm];exact(Nat.two_pow_add_eq_or_of_lt (i:=1) (by omega:1<2 ^ 1) m).symm
    rw[e2] at e;have e3:((m:Int)*2)=((m*2:Nat):Int):=by push_cast;rfl
    rw[e3];refine congrArg (fun x=>Ending.returned (.int .u64 x)) (Eq.trans e ?_);omega
theorem and_one (W:Nat)(hW:W<18446744073709551616):bits .and .u64 (W:Int) 1=((W % 2:Nat):Int):=by
  have:=u64_and_nat W 1 hW (by omega);rw[Nat.and_one_is_mod] at this;exact this
theorem zag_is (W:Nat)(w:World)(hW:W<18446744073709551616) :
    Calls Tryz.prog 215 #[wV W] w fun e w'=>e = .returned (vI (if W % 2=1 then -((W / 2:Nat):Int)-1 else (W / 2:Nat)))∧Calm w w':=by
  have h1:=and_one W hW;go_enter Tryz.func215,Tryz.ntmps215;go_wp2
  all_goals (first|(go_ret;exact⟨rfl,Fr.refl _ _⟩)|(exfalso;rename_i hh;simp at hh;omega))
def zg (n:Int):Nat:=if 0≤n then 2*n.toNat else 2*(-n-1).toNat+1
def zt (W:Nat):Int:=if W % 2=1 then -((W / 2:Nat):Int)-1 else (W / 2:Nat)
theorem zig_yes (n:Int)(w:World)(hn:I64 n) :
    Calls Tryz.prog 216 #[vI n] w fun e w'=>e = .returned (wV (zg n))∧Calm w w':=by
  refine(zig_is n w hn).mono ?_;rintro e w' ⟨rfl,c⟩;refine⟨congrArg (fun x=>Ending.returned (.int .u64 x)) ?_,c⟩;unfold zg;split <;> omega
theorem zag_yes (W:Nat)(w:World)(hW:W<18446744073709551616) :
    Calls Tryz.prog 215 #[wV W] w fun e w'=>e = .returned (vI (zt W))∧Calm w w':=zag_is W w hW
theorem zg_lt {n:Int}(h:I64 n):zg n<18446744073709551616:=by
  obtain⟨h1,h2⟩:=h;unfold zg;split <;> omega
theorem zt_ok {W:Nat}(h:W<18446744073709551616):I64 (zt W):=by
  unfold zt;split <;> constructor <;> omega
end
section
open Go.RowKit Go.Shelf
abbrev shV (p d:Int)(wk fn:Bool):Value:=.agg #[vI p,vI d,.bool wk,.bool fn]
theorem hright_yes (p d:Nat)(wk fn:Bool)(h:okS p d wk fn)(w:World) :
    Calls Tryz.prog 27 #[shV p d wk fn] w fun e w'=>e = .returned (.bool true)∧Calm w w':=by
  obtain⟨h1,h2,h3⟩:=h
  cases wk with
  | false=>
    clear h3;go_enter Tryz.func27,Tryz.ntmps27;go_wp2;go_ret;exact⟨rfl,Fr.alloc (Fr.refl _ _) _⟩
  | true=>
    obtain⟨rfl,rfl,rfl⟩:=h3 rfl;clear h3 h1 h2;go_enter Tryz.func27,Tryz.ntmps27;go_wp2;go_ret;exact⟨rfl,Fr.alloc (Fr.refl _ _) _⟩
theorem size_yes (p d:Nat)(wk fn:Bool)(h:okS p d wk fn)(w:World) :
    Calls Tryz.prog 11 #[shV p d wk fn] w fun e w'=>e = .returned (.tuple #[vI (3+(p:Int)+(d:Int)),.bool true])∧Calm w w':=by
  have h1:p≤8:=h.1;have h2:d≤8:=h.2.1;go_enter Tryz.func11,Tryz.ntmps11;go_wp2_with fail
  refine(hright_yes p d wk fn h _).mono ?_;rintro e w1 ⟨rfl,c1⟩;have b1:=Fr.cellAt c1 ((Own.new w #[vI p,vI d,.bool wk,.bool fn] 47 0 rfl).1) id;have b2:=Fr.cellAt c1 ((Own.new w #[vI p,vI d,.bool wk,.bool fn] 47 1 rfl).1) id;go_wp2
  go_ret2
  exact⟨rfl,Fr.trans (Fr.alloc (Fr.refl _ _) _) c1⟩
theorem bit_any (k:Int)(b:Bool)(h1:0≤k)(h2:k≤62)(w:World) :
    Calls Tryz.prog 206 #[vI k,.bool b] w fun e w'=>e = .returned (wV (b.toNat*2 ^ k.toNat))∧Calm w w':=by
  obtain⟨K,rfl⟩:=Int.eq_ofNat_of_zero_le h1
  have hb:(2:Nat) ^ K<18446744073709551616:=by have:=pow_le (a:=K) (b:=62) (by omega);have:(2:Nat) ^ 62=4611686018427387904:=by decide
                                               omega
  have he:Hid (IntKind.u64.wrap (2 ^ K)=((2 ^ K:Nat):Int)):=by
    show IntKind.u64.wrap (2 ^ K)=_;rw[show(2:Int) ^ K=((2 ^ K:Nat):Int) from by rw[Int.natCast_pow];rfl,IntKind.wrap_u64];exact Int.emod_eq_of_lt (Int.natCast_nonneg _) (Int.ofNat_lt.2 hb)
  have HB:Hid ((2:Nat) ^ K<18446744073709551616):=hb;clear hb
  cases b with
  | false=>
    go_enter Tryz.func206,Tryz.ntmps206;go_wp2;go_ret;exact⟨by simp,Fr.refl _ _⟩
  | true=>
    go_enter Tryz.func206,Tryz.ntmps206;go_wp2;go_ret;refine⟨?_,Fr.refl _ _⟩;show Ending.returned (.int .u64 (IntKind.u64.wrap (2 ^ K)))=_;rw[he.out];simp
theorem head_yes (p d:Nat)(wk fn fr:Bool)(h:okS p d wk fn)(w:World) :
    Calls Tryz.prog 173 #[shV p d wk fn,.bool fr] w fun e w'=>e = .returned (.tuple #[wV (hd p d wk fn fr),.bool true])∧Calm w w':=by
  have h1:p≤8:=h.1;have h2:d≤8:=h.2.1;go_enter Tryz.func173,Tryz.ntmps173;go_wp2_with fail
  refine(hright_yes p d wk fn h _).mono ?_;rintro e w1 ⟨rfl,c1⟩;have b1:=Fr.cellAt c1 ((Own.new w #[vI p,vI d,.bool wk,.bool fn] 47 0 rfl).1) id;have b2:=Fr.cellAt c1 ((Own.new w #[vI p,vI d,.bool wk,.bool fn] 47 1 rfl).1) id;have b3:=Fr.cellAt c1 ((Own.new w #[vI p,vI d,.bool wk,.bool fn] 47 2 rfl).1) id;have b4:=Fr.cellAt c1 ((Own.new w #[vI p,vI d,.bool wk,.bool fn] 47 3 rfl).1) id;go_wp2_with fail
  have q1:∀x:Later w1,x.w.cell? ⟨w.heap.size,0,none⟩=some (vI p):=fun x=>x.cell b1;have q2:∀x:Later w1,x.w.cell? ⟨w.heap.size,1,none⟩=some (vI d):=fun x=>x.cell b2;refine wp_region_calm (by kernel_rfl) (by kernel_rfl) ?_
  repeat (go_big_quiet_step ((go_at_call 206;exact Calls.calm_of (bit_any _ _ (by decide) (by decide) _))))
  refine wpQuiet_nil ?_;intro w2 hw';have c2:=Later.out hw';clear hw';clear q1 q2;have d3:=Fr.cellAt c2 b3 id;have d4:=Fr.cellAt c2 b4 id;go_wp2_with fail
  have q3:∀x:Later w2,x.w.cell? ⟨w.heap.size,2,none⟩=some (.bool wk):=fun x=>x.cell d3;have q4:∀x:Later w2,x.w.cell? ⟨w.heap.size,3,none⟩=some (.bool fn):=fun x=>x.cell d4;refine wp_region_calm (by kernel_rfl) (by kernel_rfl) ?_
  repeat (go_big_quiet_step ((go_at_call 206;exact Calls.calm_of (bit_any _ _ (by decide) (by decide) _))))
  refine wpQuiet_nil ?_;intro w3 hw';have c3:=Later.out hw';clear hw';go_wp2
  go_ret2
  refine⟨?_,((Fr.trans (Fr.alloc (Fr.refl _ _) _) c1).trans c2).trans c3⟩;exact congrArg (fun x=>Ending.returned (.tuple #[.int .u64 x,.bool true])) (hd_bits h1 h2)
theorem count_any (W:Nat)(hW:W<18446744073709551616)(k:Int)(h1:0≤k)(h2:k≤60)(w:World) :
    Calls Tryz.prog 171 #[wV W,vI k] w fun e w'=>e = .returned (vI (gt W k.toNat 4:Nat))∧Calm w w':=by
  have hl:gt W k.toNat 4<16:=gt_lt W k.toNat 4;obtain⟨g,hg⟩:∃g,gt W k.toNat 4=g:=⟨_,rfl⟩;rw[hg] at hl;have HG:Hid (gt W k.toNat 4=g):=hg;clear hg;go_enter Tryz.func171,Tryz.ntmps171;go_wp2_with fail
  refine(get_yes W hW k 4 _ h1 (by decide) (by omega)).mono ?_;rintro e w1 ⟨rfl,c1⟩;rw[show Int.toNat 4=4 from rfl,HG.out];go_wp2;go_ret;exact⟨by rw[HG.out];rfl,c1⟩
theorem has_any (W:Nat)(hW:W<18446744073709551616)(k:Int)(h1:0≤k)(h2:k≤63)(w:World) :
    Calls Tryz.prog 172 #[wV W,vI k] w fun e w'=>e = .returned (.bool (gt W k.toNat 1==1))∧Calm w w':=by
  have hl:gt W k.toNat 1<2:=gt_lt W k.toNat 1;obtain⟨g,hg⟩:∃g,gt W k.toNat 1=g:=⟨_,rfl⟩;rw[hg] at hl;have HG:Hid (gt W k.toNat 1=g):=hg;clear hg;rcases(by omega:g=0∨g=1) with rfl|rfl
  all_goals
    go_enter Tryz.func172,Tryz.ntmps172;go_wp2_with fail
    refine(get_yes W hW k 1 _ h1 (by decide) (by omega)).mono ?_;rintro e w1 ⟨rfl,c1⟩;rw[show Int.toNat 1=1 from rfl,HG.out];go_wp2;go_ret;exact⟨by rw[HG.out];rfl,c1⟩
theorem gone_yes (n:Int)(h1:1≤n)(h2:n≤131072)(w:World) :
    Calls Tryz.prog 198 #[vI n] w fun e w'=>e = .returned (.tuple #[wV (n.toNat*4+2),.bool true])∧w=w':=by
  obtain⟨N,rfl⟩:=Int.eq_ofNat_of_zero_le (show 0≤n by omega)
  have he:Hid (bits .or .u64 ((N:Int)*4) 2=((N*4+2:Nat):Int)):=by
    show bits .or .u64 ((N:Int)*4) 2=_;have e:=or_add (a:=2) (b:=N) (k:=2) (by decide) (by omega);have c:(N:Int)*4=((N*2 ^ 2:Nat):Int):=by omega
    have e2:=u64_or_nat (N*2 ^ 2) 2 (by omega) (by decide);rw[c,show(2:Int)=((2:Nat):Int) from rfl,e2,Nat.or_comm];rw[u64_or_nat 2 (N*2 ^ 2) (by decide) (by omega)] at e;rw[e];omega
  go_enter Tryz.func198,Tryz.ntmps198;go_wp2
  go_ret2
  exact⟨congrArg (fun x=>Ending.returned (.tuple #[.int .u64 x,.bool true])) he.out,rfl⟩
theorem gone_no (n:Int)(h:n<1∨131072<n)(w:World) :
    Calls Tryz.prog 198 #[vI n] w fun e w'=>e = .returned (.tuple #[wV 0,.bool false])∧w=w':=by
  rcases(by omega:n<1∨(1≤n∧131072<n)) with h|⟨h,h'⟩
  all_goals
    go_enter Tryz.func198,Tryz.ntmps198;go_wp2
    go_ret2
    exact⟨rfl,rfl⟩
theorem free_yes (n:Int)(h1:0≤n)(h2:n≤1099511627776)(w:World) :
    Calls Tryz.prog 181 #[vI n] w fun e w'=>e = .returned (.tuple #[wV (2*n.toNat),.bool true])∧w=w':=by
  obtain⟨N,rfl⟩:=Int.eq_ofNat_of_zero_le h1;go_enter Tryz.func181,Tryz.ntmps181;go_wp2
  go_ret2
  exact⟨rfl,rfl⟩
theorem free_no (n:Int)(h:n<0∨1099511627776<n)(w:World) :
    Calls Tryz.prog 181 #[vI n] w fun e w'=>e = .returned (.tuple #[wV 0,.bool false])∧w=w':=by
  rcases(by omega:n<0∨(0≤n∧1099511627776<n)) with h|⟨h,h'⟩
  all_goals
    go_enter Tryz.func181,Tryz.ntmps181;go_wp2
    go_ret2
    exact⟨rfl,rfl⟩
theorem held_yes (n:Int)(h1:0≤n)(h2:n<8)(w:World) :
    Calls Tryz.prog 209 #[vI n] w fun e w'=>e = .returned (.tuple #[wV (2*n.toNat+1),.bool true])∧w=w':=by
  obtain⟨N,rfl⟩:=Int.eq_ofNat_of_zero_le h1;go_enter Tryz.func209,Tryz.ntmps209;go_wp2
  go_ret2
  exact⟨rfl,rfl⟩
theorem held_no (n:Int)(h:n<0∨8≤n)(w:World) :
    Calls Tryz.prog 209 #[vI n] w fun e w'=>e = .returned (.tuple #[wV 0,.bool false])∧w=w':=by
  rcases(by omega:n<0∨(0≤n∧8≤n)) with h|⟨h,h'⟩
  all_goals
    go_enter Tryz.func209,Tryz.ntmps209;go_wp2
    go_ret2
    exact⟨rfl,rfl⟩
theorem where_yes (W:Nat)(hW:W<18446744073709551616)(h1:1≤W / 4)(h2:W / 4≤131072)(h3:W % 4=2)(w:World) :
    Calls Tryz.prog 220 #[wV W] w fun e w'=>e = .returned (.tuple #[vI (W / 4:Nat),.bool true])∧w=w':=by
  have H3:Hid (W % 4=2):=h3;clear h3;go_enter Tryz.func220,Tryz.ntmps220;go_wp2_with fail
  refine(gone_yes _ (by omega) (by omega) _).mono ?_;rintro e w' ⟨rfl,rfl⟩;rw[show((W:Int) / 4).toNat*4+2=W from by have:=H3.out;omega];go_wp2
  go_ret2
  exact⟨by simp,rfl⟩
theorem where_no (W:Nat)(hW:W<18446744073709551616)(h:W / 4<1∨131072<W / 4∨W % 4≠2)(w:World) :
    Calls Tryz.prog 220 #[wV W] w fun e w'=>e = .returned (.tuple #[vI 0,.bool false])∧w=w':=by
  by_cases hr:1≤W / 4∧W / 4≤131072
  · have h3:W % 4≠2:=by omega
    have H3:Hid (W % 4≠2):=h3;clear h3 h;obtain⟨r1,r2⟩:=hr;go_enter Tryz.func220,Tryz.ntmps220;go_wp2_with fail
    refine(gone_yes _ (by omega) (by omega) _).mono ?_;rintro e w' ⟨rfl,rfl⟩;obtain⟨V,hV⟩:∃V,((W:Int) / 4).toNat*4+2=V:=⟨_,rfl⟩;have hne:(((V:Nat):Int)==(W:Int))=false:=by have:=H3.out;simp;omega
    have hne2:(((V:Nat):Int) != (W:Int))=true:=by have:=H3.out;simp;omega
    rw[hV];clear hV;go_wp2
    go_ret2
    exact⟨rfl,rfl⟩
  · have H:Hid (W / 4<1∨131072<W / 4):=by show W / 4<1∨131072<W / 4;omega
    clear h hr;go_enter Tryz.func220,Tryz.ntmps220;go_wp2_with fail
    refine(gone_no _ (by have:=H.out;omega) _).mono ?_;rintro e w' ⟨rfl,rfl⟩;go_wp2
    go_ret2
    exact⟨rfl,rfl⟩
theorem shape_core_yes (W:Nat)(hW:W<18446744073709551616)(w:World)(b1 b2 b3:Bool)(p d:Nat)(hp:gt W 1 4=p)(hd':gt W 5 4=d)(h1:(gt W 9 1==1)=b1)(h2:(gt W 10 1==1)=b2)(h3:(gt W 11 1==1)=b3)
    (hok:okS p d b1 b2) (e:hd p d b1 b2 b3=W) :
    Calls Tryz.prog 119 #[wV W] w fun e w'=>e = .returned (.tuple #[shV p d b1 b2,.bool b3,.bool true])∧Calm w w':=by
  have HE:Hid (hd p d b1 b2 b3=W):=e;have HO:Hid (okS p d b1 b2):=hok;clear e hok;have HP:Hid (gt W 1 4=p):=hp;have HD:Hid (gt W 5 4=d):=hd';have H1:Hid ((gt W 9 1==1)=b1):=h1;have H2:Hid ((gt W 10 1==1)=b2):=h2;have H3:Hid ((gt W 11 1==1)=b3):=h3;clear hp hd' h1 h2 h3;go_enter Tryz.func119,Tryz.ntmps119;go_wp2_with fail
  refine(count_any W hW 1 (by decide) (by decide) _).mono ?_;rintro e w1 ⟨rfl,c1⟩;rw[show Int.toNat 1=1 from rfl,HP.out];go_wp2_with fail
  refine(count_any W hW 5 (by decide) (by decide) _).mono ?_;rintro e w2 ⟨rfl,c2⟩;rw[show Int.toNat 5=5 from rfl,HD.out];go_wp2_with fail
  refine(has_any W hW 9 (by decide) (by decide) _).mono ?_;rintro e w3 ⟨rfl,c3⟩;rw[show Int.toNat 9=9 from rfl,H1.out];go_wp2_with fail
  refine(has_any W hW 10 (by decide) (by decide) _).mono ?_;rintro e w4 ⟨rfl,c4⟩;rw[show Int.toNat 10=10 from rfl,H2.out];have c14:=((c1.trans c2).trans c3).trans c4;have o0:=(Own.new w #[vI 0,vI 0,.bool false,.bool false] 47 0 rfl).fr c14 id;have o1:=(Own.new w #[vI 0,vI 0,.bool false,.bool false] 47 1 rfl).fr c14 id;have o2:=(Own.new w #[vI 0,vI 0,.bool false,.bool false] 47 2 rfl).fr c14 id;have o3:=(Own.new w #[vI 0,vI 0,.bool false,.bool false] 47 3 rfl).fr c14 id;have c04:Calm w w4:=(Fr.alloc (Fr.refl _ w) _).trans c14;clear c1 c2 c3 c4 c14;obtain⟨B,hB⟩:∃B,w.heap.size=B:=⟨_,rfl⟩;have hBl:Hid (w.heap.size=B):=hB;rw[hB] at o0 o1 o2 o3 ⊢;clear hB;have x0:=o0.1;have x1:=o1.1;have x2:=o2.1;have x3:=o3.1;have y0:=o0.2;have y1:=o1.2;have y2:=o2.2;have y3:=o3.2;go_wp2_with fail
  clear x0 x1 x2 x3 y0 y1 y2 y3;obtain⟨s0,s1,s2,s3,sf⟩:=own_set4 o0 o1 o2 o3 (vI p) (vI d) (.bool b1) (.bool b2);obtain⟨w5,hw5⟩:∃w5,((((w4.setCell ⟨B,0,none⟩ (vI p)).setCell ⟨B,1,none⟩ (vI d)).setCell ⟨B,2,none⟩ (.bool b1)).setCell ⟨B,3,none⟩ (.bool b2))=w5:=⟨_,rfl⟩;rw[hw5] at s0 s1 s2 s3 sf ⊢;clear hw5 o0 o1 o2 o3;have c05:Calm w w5:=c04.join sf (by have:=hBl.out;intro k h1 h2;omega);clear c04 sf;refine(has_any W hW 11 (by decide) (by decide) _).mono ?_;rintro e w6 ⟨rfl,c6⟩;rw[show Int.toNat 11=11 from rfl,H3.out];have c06:=c05.trans c6;replace s0:=s0.fr c6 id;replace s1:=s1.fr c6 id;replace s2:=s2.fr c6 id;replace s3:=s3.fr c6 id;clear c05 c6;have x0:=s0.1;have x1:=s1.1;have x2:=s2.1;have x3:=s3.1;go_wp2_with fail
  clear x0 x1 x2 x3;refine(head_yes p d b1 b2 b3 HO.out _).mono ?_;rintro e w7 ⟨rfl,c7⟩;rw[HE.out];have c07:=c06.trans c7;replace s0:=s0.fr c7 id;replace s1:=s1.fr c7 id;replace s2:=s2.fr c7 id;replace s3:=s3.fr c7 id;clear c06 c7;have x0:=s0.1;have x1:=s1.1;have x2:=s2.1;have x3:=s3.1;have y0:=s0.2;have y1:=s1.2;have y2:=s2.2;have y3:=s3.2;have hne:((W:Int) != (W:Int))=false:=by simp
  go_wp2;obtain⟨t0,t1,t2,t3,tf⟩:=own_set4 s0 s1 s2 s3 (vI p) (vI d) (.bool b1) (.bool b2);have c08:Calm w _:=c07.join tf (by have:=hBl.out;intro k h1 h2;omega);refine bodyPost_ret (v:=.tuple #[shV p d b1 b2,.bool b3,.bool true]) ?_ rfl ⟨rfl,c08⟩;simp[results,Tryz.f119,go_sem,t0.1,t1.1,t2.1,t3.1]
theorem shape_yes (p d:Nat)(wk fn fr:Bool)(h:okS p d wk fn)(w:World) :
    Calls Tryz.prog 119 #[wV (hd p d wk fn fr)] w fun e w'=>e = .returned (.tuple #[shV p d wk fn,.bool fr,.bool true])∧Calm w w':=by
  obtain⟨a1,a2,a3,a4,a5⟩:=gt_hd (fr:=fr) h;have:=hd_lt (fr:=fr) h;exact shape_core_yes _ (by omega) w wk fn fr p d a1 a2 (bit_of a3) (bit_of a4) (bit_of a5) h rfl
end
section
open Go.RowKit Go.Shelf
end
section
open Go.RowKit Go.Shelf
end
section
open Go.RowKit Go.Shelf
def Whole (w:World)(c:Nat)(vs:List Value):Prop:=∃t,w.heap[c]?=some (.cells vs.toArray t (0,0))
theorem Whole.own {w:World}{c:Nat}{vs:List Value}(h:Whole w c vs):OwnL w c vs:=by
  obtain⟨t,hg⟩:=h;intro i v hv;exact⟨by simp[World.cell?,hg,hv],by simp[World.frozen?,hg]⟩
theorem Whole.fr {S:Nat→Prop}{w w':World}{c:Nat}{vs:List Value}(h:Whole w c vs)(f:Fr S w w')(hs:¬S c):Whole w' c vs:=by
  obtain⟨t,hg⟩:=h;exact⟨t,f.heapAt hg hs⟩
theorem Whole.set {w:World}{c:Nat}{vs:List Value}(h:Whole w c vs)(k:Nat)(u:Value):Whole (w.setCell ⟨c,k,none⟩ u) c (vs.set k u):=by
  obtain⟨t,hg⟩:=h;exact⟨t,by rw[heap_setCell_same _ _ _ _ _ _ hg];simp⟩
def Ar (w:World)(p c:Nat)(xs:List Nat):Prop:=
  Own w p 0 (.slice (some ⟨c,0,none⟩) xs.length xs.length)∧Whole w c (xs.map wV)∧p≠c∧xs.length≤65536
abbrev arV (p:Nat):Value:=.pointer (some ⟨p,0,none⟩)
theorem Ar.fr {S:Nat→Prop}{w w':World}{p c:Nat}{xs:List Nat}(h:Ar w p c xs)(f:Fr S w w')(hp:¬S p)(hc:¬S c):Ar w' p c xs:=
  ⟨h.1.fr f hp,h.2.1.fr f hc,h.2.2⟩
theorem Ar.calm {w w':World}{p c:Nat}{xs:List Nat}(h:Ar w p c xs)(f:Calm w w'):Ar w' p c xs:=h.fr f id id
theorem Ar.cell {w:World}{p c:Nat}{xs:List Nat}(h:Ar w p c xs){k:Nat}(hk:k<xs.length):Own w c k (wV (xs.getD k 0)):=
  h.2.1.own k _ (by simp[List.getD,hk])
theorem Ar.set {w:World}{p c:Nat}{xs:List Nat}(h:Ar w p c xs){k:Nat}(hk:k<xs.length)(v:Nat):Ar (w.setCell ⟨c,k,none⟩ (wV v)) p c (xs.set k v):=by
  obtain⟨h1,h2,h3,h4⟩:=h;refine⟨?_,?_,h3,by simpa using h4⟩
  · rw[List.length_set];exact h1.far _ _ (fun e=>h3 e.symm)
  · have:=h2.set k (wV v)
    rwa [←List.map_set] at this
theorem Ar.lt {w:World}{p c:Nat}{xs:List Nat}(h:Ar w p c xs):p<w.heap.size:=h.1.lt
theorem len_is (w:World)(p c:Nat)(xs:List Nat)(h:Ar w p c xs) :
    Calls Tryz.prog 120 #[arV p] w fun e w'=>e = .returned (vI xs.length)∧w'=w:=by
  obtain⟨h1,_,_,h4⟩:=h;have b1:=h1.1;go_enter Tryz.func120,Tryz.ntmps120;go_wp2;go_ret;exact⟨rfl,rfl⟩
theorem load_yes (w:World)(p c:Nat)(xs:List Nat)(h:Ar w p c xs)(k:Nat)(hk:k<xs.length) :
    Calls Tryz.prog 118 #[arV p,vI k] w fun e w'=>e = .returned (.tuple #[wV (xs.getD k 0),vI 0])∧w'=w:=by
  have b1:=h.1.1;have b2:=(h.cell hk).1;have h4:=h.2.2.2;generalize xs.getD k 0=x at *;have HA:=hid h;clear h;go_enter Tryz.func118,Tryz.ntmps118;go_wp2_with fail
  refine(len_is _ p c xs HA.out).mono ?_;rintro e w' ⟨rfl,rfl⟩;go_wp2;exact bodyPost_ret (v:=.tuple #[wV x,vI 0]) (by simp[results,Tryz.f118,go_sem]) rfl ⟨rfl,rfl⟩
theorem store_yes (w:World)(p c:Nat)(xs:List Nat)(h:Ar w p c xs)(k:Nat)(hk:k<xs.length)(v:Nat) :
    Calls Tryz.prog 200 #[arV p,vI k,wV v] w fun e w'=>e = .returned (vI 0)∧w'=w.setCell ⟨c,k,none⟩ (wV v):=by
  have b1:=h.1.1;have b2:=(h.cell hk).1;have b3:=(h.cell hk).2;have h4:=h.2.2.2;generalize xs.getD k 0=x at *;have HA:=hid h;clear h;go_enter Tryz.func200,Tryz.ntmps200;go_wp2_with fail
  refine(len_is _ p c xs HA.out).mono ?_;rintro e w' ⟨rfl,rfl⟩;go_wp2;go_ret;exact⟨rfl,rfl⟩
end
section
open Go.RowKit Go.Shelf
theorem stretch_yes (w:World)(p c:Nat)(xs:List Nat)(h:Ar w p c xs)(at_ n:Nat)(hn:at_+n≤xs.length) :
    Calls Tryz.prog 221 #[arV p,vI at_,vI n] w fun e w'=>e = .returned (.bool true)∧w'=w:=by
  have HA:=hid h;have h4:=h.2.2.2;have h5:(at_:Int)≤xs.length:=by omega
  have h6:(n:Int)≤xs.length-at_:=by omega
  clear h;go_enter Tryz.func221,Tryz.ntmps221;go_wp2_with fail
  refine(len_is _ p c xs HA.out).mono ?_;rintro e w' ⟨rfl,rfl⟩;go_wp2_with fail
  refine(len_is _ p c xs HA.out).mono ?_;rintro e w' ⟨rfl,rfl⟩;go_wp2;go_ret;exact⟨rfl,rfl⟩
def fl (xs:List Nat)(at_ v:Nat):Nat→List Nat
  | 0=>xs
  | k+1=>(fl xs at_ v k).set (at_+k) v
theorem fl_length (xs:List Nat)(at_ v:Nat):∀n,(fl xs at_ v n).length=xs.length
  | 0=>rfl
  | n+1=>by simp[fl,fl_length xs at_ v n]
theorem fl_getD (xs:List Nat)(at_ v:Nat)(j:Nat):∀n,at_+n≤xs.length→(fl xs at_ v n).getD j 0=if at_≤j∧j<at_+n then v else xs.getD j 0
  | 0,_=>by rw[if_neg (by omega)];rfl
  | n+1,h=>by
    have ih:=fl_getD xs at_ v j n (by omega);have hl:=fl_length xs at_ v n;simp only[fl,List.getD,List.getElem?_set,hl] at ih ⊢
    by_cases hj:at_+n=j
    · subst hj;rw[if_pos rfl,if_pos (by omega),if_pos (by omega)];rfl
    · rw[if_neg hj,ih]
      by_cases h2:at_≤j∧j<at_+n
      · rw[if_pos h2,if_pos (by omega)]
      · rw[if_neg h2,if_neg (by omega)]
theorem fill_yes (w:World)(p c:Nat)(xs:List Nat)(h:Ar w p c xs)(at_ n v:Nat)(hn:at_+n≤xs.length) :
    Calls Tryz.prog 225 #[arV p,vI at_,vI n,wV v] w fun e w'=>e = .returned (vI 0)∧Ar w' p c (fl xs at_ v n)∧Fr (fun b=>b=c) w w':=by
  have HA:=hid h;have h4:=h.2.2.2;go_enter Tryz.func225,Tryz.ntmps225;go_wp2_with fail
  refine(stretch_yes _ p c xs HA.out at_ n hn).mono ?_;rintro e w' ⟨rfl,rfl⟩;clear h;go_wp2_with fail
  go_loopw [16] (fun i wr=>∃k:Nat,k≤n∧i=vI k∧Hid (Ar wr p c (fl xs at_ v k))∧Fr (fun b=>b=c) w' wr) (fun i _=>n-(intOf i).toNat)
  case atStart=>exact⟨0,by omega,rfl,HA,Fr.refl _ _⟩
  case round=>
    obtain⟨k,hk,rfl,ha,hfr⟩:=hrel;rcases Nat.lt_or_ge k n with hlt|hge
    · have hl:=fl_length xs at_ v k;have b1:=ha.out.1.1;have b2:=(ha.out.cell (k:=at_+k) (by omega)).1;have b3:=(ha.out.cell (k:=at_+k) (by omega)).2;have hs:Hid (Ar (wr.setCell ⟨c,at_+k,none⟩ (wV v)) p c (fl xs at_ v (k+1))):=ha.out.set (k:=at_+k) (by omega) v;rw[hl] at b1;generalize (fl xs at_ v k).getD (at_+k) 0=x at *;replace hl:=hid hl;clear HA;go_wp2
      go_roundw
      case rel=>exact⟨k+1,by omega,by go_num,hs,hfr.setCell (.inl rfl) _⟩
      case measure=>simp[intOf];omega
    · obtain rfl:k=n:=by omega
      clear HA;go_wp2;go_ret;exact⟨rfl,ha.out,hfr⟩
theorem info_w:(Tryz.prog.info? 195).map (fun i=>(i.zero,i.size,i.bytes))=some (some (.int .u64 0),1,8):=by kernel_rfl
theorem own_of_row {w:World}{base:Nat}{e:TypeId}{g n cap:Nat}{xs:List Value}(h:w.ownsRow base e 1 (.slice (some ⟨g,0,none⟩) n cap) n xs):OwnL w g xs:=by
  obtain⟨hl,h⟩:=h;rcases h with ⟨h,_⟩|⟨g',cap',cur,hv,_,hg,hn,_,hcur,hx⟩
  · cases h
  · cases hv;intro i v hv;have hi:i<xs.length:=(List.getElem?_eq_some_iff.1 hv).1
    have h2:cur[i]?=some v:=by
      rw[←Array.getElem?_toList,←hv,←hx,List.getElem?_take,if_pos (by omega)]
    have hi2:i<cur.size:=(Array.getElem?_eq_some_iff.1 h2).1;refine⟨by simp[World.cell?,hg,h2],by simp[World.frozen?,hg]⟩
theorem whole_of_row {w:World}{base:Nat}{e:TypeId}{g n:Nat}{xs:List Value}(h:w.ownsRow base e 1 (.slice (some ⟨g,0,none⟩) n n) n xs):Whole w g xs:=by
  obtain⟨hl,h⟩:=h;rcases h with ⟨h,_⟩|⟨g',cap',cur,hv,_,hg,hn,_,hcur,hx⟩
  · cases h
  · cases hv
    have:cur=xs.toArray:=by
      rw[←hx,Nat.mul_one,List.take_of_length_le (by simp;omega)]
    exact⟨e,by rw[hg,this]⟩
theorem noughts (n:Nat):(madeCells (Value.int .u64 0).cells (n*1)).toList=(List.replicate n 0).map wV:=by
  rw[Nat.mul_one];apply List.ext_getElem
  · simp[madeCells]
  · intro i h1 h2;simp[madeCells,Value.cells,Nat.mod_one]
set_option maxRecDepth 4000 in
theorem new_yes (w:World)(n:Nat)(h1:1≤n)(h2:n≤65536) :
    Calls Tryz.prog 60 #[vI n] w fun e w'=>∃p c,e = .returned (.tuple #[arV p,vI 0])∧Ar w' p c (List.replicate n 0)∧Calm w w'∧w.heap.size≤p∧w.heap.size≤c:=by
  obtain⟨i0,hi,hz0,hz1,hz2⟩:=info_parts info_w;go_enter Tryz.func60,Tryz.ntmps60;go_wp2_with (at_make;(refine wpList_make_full _ rfl _ _ 172 rfl w.heap.size 195 i0 (.int .u64 0) 1 Tryz.underlying172 hi hz0 hz1 .i64 .i64 n n n rfl rfl rfl rfl (by rw[hz2];omega) (by unfold maxLen;omega) (Nat.le_refl _) ?_;intro w3 hown hgrow;rw[noughts] at hown;have c3:Hid (Calm w w3):=Fr.grown (Fr.refl _ _) hgrow (fun k hk=>by cases hk);have OL:=hid (whole_of_row hown);have LT:=hid ((own_of_row hown) 0 (wV 0) (by simp[show 0<n by omega])).lt;clear hown hgrow))
  have lt:=LT.out;refine bodyPost_ret (v:=.tuple #[arV w3.heap.size,vI 0]) (by simp[results,Tryz.f60,go_sem]) rfl ⟨w3.heap.size,w.heap.size,rfl,⟨?_,OL.out.fr (Fr.alloc (Fr.refl (fun _=>False) _) _) id,by omega,by simpa using h2⟩,c3.out.alloc _,by omega,Nat.le_refl _⟩;rw[List.length_replicate];exact Own.new _ _ _ 0 rfl
end
section
open Go.RowKit Go.Shelf
structure IsObj (xs:List Nat)(at_ p d:Nat)(wk fn fr:Bool):Prop where
  ok:okS p d wk fn
  room:at_+(3+p+d)≤xs.length
  head:xs.getD at_ 0=hd p d wk fn fr
theorem oshape_yes (w:World)(b c:Nat)(xs:List Nat)(h:Ar w b c xs)(at_ p d:Nat)(wk fn fr:Bool)(ho:IsObj xs at_ p d wk fn fr) :
    Calls Tryz.prog 71 #[arV b,vI at_] w fun e w'=>e = .returned (.tuple #[shV p d wk fn,.bool fr,vI 0])∧Calm w w':=by
  obtain⟨h1,h2,h3⟩:=ho;have HA:=hid h;have h4:=h.2.2.2;have p8:=h1.1;have d8:=h1.2.1;replace h1:=hid h1;go_enter Tryz.func71,Tryz.ntmps71;go_wp2_with fail
  refine(load_yes _ b c xs (h.calm (Fr.alloc (Fr.refl _ _) _)) at_ (by omega)).mono ?_;rintro e w1 ⟨rfl,rfl⟩;rw[h3];clear h;have o1:=OwnL.new w [vI 0,vI 0,.bool false,.bool false] 47;have k1:Calm w (w.alloc (.cells #[vI 0,vI 0,.bool false,.bool false] 47)):=Fr.alloc (Fr.refl _ _) _;go_wp2_with fail
  refine(shape_yes p d wk fn fr h1.out _).mono ?_;rintro e w2 ⟨rfl,c2⟩;replace o1:=o1.calm c2;replace k1:=k1.trans c2;obtain⟨b0,b1,b2,b3⟩:=OwnL.ce4 o1;have f0:=(o1 0 _ rfl).2;have f1:=(o1 1 _ rfl).2;have f2:=(o1 2 _ rfl).2;have f3:=(o1 3 _ rfl).2;clear c2;go_wp2_with fail
  have o2:=o1.set4 (vI p) (vI d) (.bool wk) (.bool fn);replace k1:Calm w _:=k1.join o2.2 (by intros;omega);obtain⟨W',hW'⟩:∃W',((((w2.setCell ⟨w.heap.size,0,none⟩ (vI p)).setCell ⟨w.heap.size,1,none⟩ (vI d)).setCell ⟨w.heap.size,2,none⟩ (.bool wk)).setCell ⟨w.heap.size,3,none⟩ (.bool fn))=W':=⟨_,rfl⟩;rw[hW'] at o2 k1 ⊢;clear b0 b1 b2 b3 f0 f1 f2 f3 o1 hW';obtain⟨o1,-⟩:=o2;refine(size_yes p d wk fn h1.out _).mono ?_;rintro e w3 ⟨rfl,c3⟩;replace o1:=o1.calm c3;replace k1:=k1.trans c3;clear c3;obtain⟨b0,b1,b2,b3⟩:=OwnL.ce4 o1;have f0:=(o1 0 _ rfl).2;have f1:=(o1 1 _ rfl).2;have f2:=(o1 2 _ rfl).2;have f3:=(o1 3 _ rfl).2;go_wp2_with fail
  refine(len_is _ b c xs (HA.out.calm k1)).mono ?_;rintro e w4 ⟨rfl,rfl⟩;have h5:¬((3:Int)+p+d>xs.length-at_):=by omega
  go_wp2;have o3:=o1.set4 (vI p) (vI d) (.bool wk) (.bool fn);obtain⟨u0,u1,u2,u3⟩:=OwnL.ce4 o3.1;have k2:Calm w _:=k1.join o3.2 (by intros;omega);clear b0 b1 b2 b3 f0 f1 f2 f3 o1 o3;refine bodyPost_ret (v:=.tuple #[shV p d wk fn,.bool fr,vI 0]) (by simp[results,Tryz.f71,go_sem,u0,u1,u2,u3]) rfl ⟨rfl,k2⟩
theorem optr_yes (p d:Int)(wk fn:Bool)(at_ i:Int)(w:World)(h1:0≤i)(h2:i<p)(h3:0≤at_)(h4:at_≤1000000)(h5:p≤8) :
    Calls Tryz.prog 202 #[shV p d wk fn,vI at_,vI i] w fun e w'=>e = .returned (.tuple #[vI (at_+3+i),vI 0])∧Calm w w':=by
  go_enter Tryz.func202,Tryz.ntmps202;go_wp2
  go_ret2
  exact⟨rfl,Fr.alloc (Fr.refl _ _) _⟩
theorem optr_no (p d:Int)(wk fn:Bool)(at_ i:Int)(w:World)(h:i<0∨p≤i) :
    Calls Tryz.prog 202 #[shV p d wk fn,vI at_,vI i] w fun e w'=>e = .returned (.tuple #[vI 0,vI 71])∧Calm w w':=by
  by_cases hn:i<0
  all_goals
    go_enter Tryz.func202,Tryz.ntmps202;go_wp2
    go_ret2
    exact⟨rfl,Fr.alloc (Fr.refl _ _) _⟩
theorem onum_yes (p d:Int)(wk fn:Bool)(at_ i:Int)(w:World)(h1:0≤i)(h2:i<d)(h3:0≤at_)(h4:at_≤1000000)(h5:d≤8)(h6:0≤p)(h7:p≤8) :
    Calls Tryz.prog 214 #[shV p d wk fn,vI at_,vI i] w fun e w'=>e = .returned (.tuple #[vI (at_+3+p+i),vI 0])∧Calm w w':=by
  go_enter Tryz.func214,Tryz.ntmps214;go_wp2
  go_ret2
  exact⟨rfl,Fr.alloc (Fr.refl _ _) _⟩
theorem onum_no (p d:Int)(wk fn:Bool)(at_ i:Int)(w:World)(h:i<0∨d≤i) :
    Calls Tryz.prog 214 #[shV p d wk fn,vI at_,vI i] w fun e w'=>e = .returned (.tuple #[vI 0,vI 71])∧Calm w w':=by
  by_cases hn:i<0
  all_goals
    go_enter Tryz.func214,Tryz.ntmps214;go_wp2
    go_ret2
    exact⟨rfl,Fr.alloc (Fr.refl _ _) _⟩
end
section
open Go.RowKit Go.Shelf
def made (xs:List Nat)(at_ p d:Nat)(wk fn:Bool)(ser:Nat):List Nat:=
  (((fl xs at_ 0 (3+p+d)).set at_ (hd p d wk fn false)).set (at_+1) 0).set (at_+2) ser
theorem omake_yes (w:World)(b c:Nat)(xs:List Nat)(h:Ar w b c xs)(at_ p d:Nat)(wk fn:Bool)(ser:Nat)(hok:okS p d wk fn)(hroom:at_+(3+p+d)≤xs.length)(hs:ser≤1099511627776) :
    Calls Tryz.prog 212 #[arV b,vI at_,shV p d wk fn,vI ser] w fun e w'=>e = .returned (vI 0)∧Ar w' b c (made xs at_ p d wk fn ser)∧Fr (fun k=>k=c) w w':=by
  have h4:=h.2.2.2;have p8:=hok.1;have d8:=hok.2.1;have HA:=hid h;have hcl:c<w.heap.size:=(h.cell (k:=at_) (by omega)).lt;clear h;have hok':=hid hok;clear hok;go_enter Tryz.func212,Tryz.ntmps212;have o1:=OwnL.new w [vI p,vI d,.bool wk,.bool fn] 47;have k1:Calm w (w.alloc (.cells #[vI p,vI d,.bool wk,.bool fn] 47)):=Fr.alloc (Fr.refl _ _) _;go_wp2_with fail
  refine(size_yes p d wk fn hok'.out _).mono ?_;rintro e w1 ⟨rfl,c1⟩;replace o1:=o1.calm c1;replace k1:=k1.trans c1;clear c1;go_wp2_with fail
  have hcast:(3:Int)+p+d=((3+p+d:Nat):Int):=by push_cast;rfl
  rw[hcast];refine(fill_yes w1 b c xs (HA.out.calm k1) at_ (3+p+d) 0 hroom).mono ?_;rintro e w2 ⟨rfl,ha,f2⟩;replace o1:=o1.fr f2 (by omega);have k2:Fr (fun k=>k=c) w w2:=(Calm.any k1).trans f2;obtain⟨b0,b1,b2,b3⟩:=OwnL.ce4 o1;replace ha:=hid ha;replace hcast:=hid hcast;clear k1 f2;go_wp2_with fail
  refine(head_yes p d wk fn false hok'.out _).mono ?_;rintro e w3 ⟨rfl,c3⟩;replace ha:=hid (ha.out.calm c3);replace k2:=k2.join c3 (fun _ _ h=>h.elim);clear c3 b0 b1 b2 b3 o1;have hl:=fl_length xs at_ 0 (3+p+d);go_wp2_with fail
  refine(free_yes 0 (by decide) (by decide) _).mono ?_;rintro e w4 ⟨rfl,rfl⟩;go_wp2_with fail
  refine(store_yes _ b c _ ha.out at_ (by omega) (hd p d wk fn false)).mono ?_;rintro e w5 ⟨rfl,rfl⟩;have a1:=hid (ha.out.set (k:=at_) (by omega) (hd p d wk fn false));have k3:=k2.setCell (p:=⟨c,at_,none⟩) (.inl rfl) (wV (hd p d wk fn false));go_wp2_with fail
  have hc1:((at_:Int)+1)=((at_+1:Nat):Int):=by push_cast;rfl
  rw[hc1];have hl1:((fl xs at_ 0 (3+p+d)).set at_ (hd p d wk fn false)).length=xs.length:=by rw[List.length_set,hl]
  refine(store_yes _ b c _ a1.out (at_+1) (by omega) 0).mono ?_;rintro e w6 ⟨rfl,rfl⟩;have a2:=hid (a1.out.set (k:=at_+1) (by omega) 0);have k4:=k3.setCell (p:=⟨c,at_+1,none⟩) (.inl rfl) (wV 0);clear k2 k3 a1 ha hl;replace hc1:=hid hc1;replace hl1:=hid hl1;go_wp2_with fail
  have hc2:((at_:Int)+2)=((at_+2:Nat):Int):=by push_cast;rfl
  rw[hc2];have hl2:(((fl xs at_ 0 (3+p+d)).set at_ (hd p d wk fn false)).set (at_+1) 0).length=xs.length:=by rw[List.length_set,hl1.out]
  refine(store_yes _ b c _ a2.out (at_+2) (by omega) ser).mono ?_;rintro e w7 ⟨rfl,rfl⟩;have a3:=hid (a2.out.set (k:=at_+2) (by omega) ser);have k5:=k4.setCell (p:=⟨c,at_+2,none⟩) (.inl rfl) (wV ser);replace hc2:=hid hc2;replace hl2:=hid hl2;go_wp2;go_ret;exact⟨rfl,a3.out,k5⟩
end
section
structure Ob where
  p:Nat
  d:Nat
  wk:Bool
  fn:Bool
  fr:Bool
  snd:Nat
  ser:Nat
  ps:List Nat
  ns:List Nat
def Ob.ws (o:Ob):List Nat:=hd o.p o.d o.wk o.fn o.fr::o.snd::o.ser::(o.ps++o.ns)
def Ob.size (o:Ob):Nat:=3+o.p+o.d
structure Ob.Ok (o:Ob):Prop where
  sh:okS o.p o.d o.wk o.fn
  lp:o.ps.length=o.p
  ln:o.ns.length=o.d
  ser:o.ser≤1099511627776
  ps:∀x∈o.ps,x≤131072
  ns:∀x∈o.ns,x<18446744073709551616
structure At (xs:List Nat)(a:Nat)(o:Ob):Prop where
  ok:o.Ok
  room:a+o.size≤xs.length
  word:∀i,i<o.size→xs.getD (a+i) 0=o.ws.getD i 0
theorem At.isObj {xs:List Nat}{a:Nat}{o:Ob}(h:At xs a o):IsObj xs a o.p o.d o.wk o.fn o.fr:=
  ⟨h.ok.sh,by have:=h.room;simp only[Ob.size] at this;omega,by simpa[Ob.ws] using h.word 0 (by simp[Ob.size];omega)⟩
theorem At.snd {xs:List Nat}{a:Nat}{o:Ob}(h:At xs a o):xs.getD (a+1) 0=o.snd:=by
  simpa[Ob.ws] using h.word 1 (by simp[Ob.size];omega)
theorem At.ser {xs:List Nat}{a:Nat}{o:Ob}(h:At xs a o):xs.getD (a+2) 0=o.ser:=by
  simpa[Ob.ws] using h.word 2 (by simp[Ob.size];omega)
theorem Ob.ws_ptr {o:Ob}(h:o.Ok){i:Nat}(hi:i<o.p):o.ws.getD (3+i) 0=o.ps.getD i 0:=by
  have hl:=h.lp;rw[Nat.add_comm 3 i];simp[Ob.ws,List.getD,List.getElem?_append,show i<o.ps.length by omega]
theorem Ob.ws_num {o:Ob}(h:o.Ok){i:Nat}(hi:i<o.d):o.ws.getD (3+o.p+i) 0=o.ns.getD i 0:=by
  have hl:=h.lp;rw[show 3+o.p+i=(o.p+i)+3 by omega];simp[Ob.ws,List.getD,List.getElem?_append,show ¬o.p+i<o.ps.length by omega,show o.p+i-o.ps.length=i by omega]
theorem At.ptr {xs:List Nat}{a:Nat}{o:Ob}(h:At xs a o){i:Nat}(hi:i<o.p):xs.getD (a+3+i) 0=o.ps.getD i 0:=by
  have:=h.word (3+i) (by simp only[Ob.size];omega);rw[Ob.ws_ptr h.ok hi] at this
  rwa [←Nat.add_assoc] at this
theorem At.num {xs:List Nat}{a:Nat}{o:Ob}(h:At xs a o){i:Nat}(hi:i<o.d):xs.getD (a+3+o.p+i) 0=o.ns.getD i 0:=by
  have:=h.word (3+o.p+i) (by simp only[Ob.size];omega);rw[Ob.ws_num h.ok hi] at this
  rwa [show a+(3+o.p+i)=a+3+o.p+i by omega] at this
theorem Ob.Ok.ptr {o:Ob}(h:o.Ok){i:Nat}(hi:i<o.p):o.ps.getD i 0≤131072:=by
  have hl:=h.lp;have hi':i<o.ps.length:=by omega
  simpa[List.getD,hi'] using h.ps o.ps[i] (List.getElem_mem _)
theorem Ob.Ok.num {o:Ob}(h:o.Ok){i:Nat}(hi:i<o.d):o.ns.getD i 0<18446744073709551616:=by
  have hl:=h.ln;have hi':i<o.ns.length:=by omega
  simpa[List.getD,hi'] using h.ns o.ns[i] (List.getElem_mem _)
theorem getD_set (xs:List Nat)(i j v:Nat):(xs.set i v).getD j 0=if i=j∧i<xs.length then v else xs.getD j 0:=by
  simp only[List.getD,List.getElem?_set]
  by_cases h:i=j
  · subst h
    by_cases h2:i<xs.length
    · simp[h2]
    · simp[h2]
  · simp[h]
theorem At.of_eq {xs ys:List Nat}{a b:Nat}{o:Ob}(h:At xs a o)(hl:b+o.size≤ys.length)(he:∀i,i<o.size→ys.getD (b+i) 0=xs.getD (a+i) 0):At ys b o:=
  ⟨h.ok,hl,fun i hi=>(he i hi).trans (h.word i hi)⟩
theorem At.setPtr {xs:List Nat}{a:Nat}{o:Ob}(h:At xs a o){i v:Nat}(hi:i<o.p)(hv:v≤131072):At (xs.set (a+3+i) v) a { o with ps:=o.ps.set i v }:=by
  have hl:=h.ok.lp;have hln:=h.ok.ln;have hr:=h.room;refine⟨⟨h.ok.sh,by simpa using hl,hln,h.ok.ser,fun x hx=>?_,h.ok.ns⟩,by rw[List.length_set];exact hr,fun j hj=>?_⟩
  · rcases List.mem_or_eq_of_mem_set hx with hx|rfl
    · exact h.ok.ps x hx
    · exact hv
  · have hj':j<o.size:=hj;have hw:=h.word j hj';simp only[Ob.size] at hr hj';rw[getD_set]
    by_cases hj3:3+i=j
    · subst hj3;rw[if_pos (by omega)];have e:3+i=i+1+1+1:=by omega
      rw[e];simp[Ob.ws,List.getD,List.getElem?_append,show i<o.ps.length by omega]
    · rw[if_neg (by omega),hw]
      match j,hj3 with
      | 0,_=>simp[Ob.ws]
      | 1,_=>simp[Ob.ws]
      | 2,_=>simp[Ob.ws]
      | j+3,hj3=>
        simp only[Ob.ws,List.getD,List.getElem?_cons_succ,List.getElem?_append,List.length_set,List.getElem?_set]
        by_cases h1:j<o.ps.length
        · rw[if_pos h1,if_pos h1,if_neg (by omega)]
        · rw[if_neg h1,if_neg h1]
theorem At.setNum {xs:List Nat}{a:Nat}{o:Ob}(h:At xs a o){i v:Nat}(hi:i<o.d)(hv:v<18446744073709551616):At (xs.set (a+3+o.p+i) v) a { o with ns:=o.ns.set i v }:=by
  have hl:=h.ok.lp;have hln:=h.ok.ln;have hr:=h.room;refine⟨⟨h.ok.sh,hl,by simpa using hln,h.ok.ser,h.ok.ps,fun x hx=>?_⟩,by rw[List.length_set];exact hr,fun j hj=>?_⟩
  · rcases List.mem_or_eq_of_mem_set hx with hx|rfl
    · exact h.ok.ns x hx
    · exact hv
  · have hj':j<o.size:=hj;have hw:=h.word j hj';simp only[Ob.size] at hr hj';rw[getD_set]
    by_cases hj3:3+o.p+i=j
    · subst hj3;rw[if_pos (by omega)];have e:3+o.p+i=(o.p+i)+1+1+1:=by omega
      rw[e];simp[Ob.ws,List.getD,List.getElem?_append,show ¬o.p+i<o.ps.length by omega,show o.p+i-o.ps.length=i by omega,show i<o.ns.length by omega]
    · rw[if_neg (by omega),hw]
      match j,hj3 with
      | 0,_=>simp[Ob.ws]
      | 1,_=>simp[Ob.ws]
      | 2,_=>simp[Ob.ws]
      | j+3,hj3=>
        simp only[Ob.ws,List.getD,List.getElem?_cons_succ,List.getElem?_append,List.length_set,List.getElem?_set]
        by_cases h1:j<o.ps.length
        · rw[if_pos h1,if_pos h1]
        · rw[if_neg h1,if_neg h1,if_neg (by omega)]
theorem At.setHead {xs:List Nat}{a:Nat}{o:Ob}(h:At xs a o)(fr':Bool):At (xs.set a (hd o.p o.d o.wk o.fn fr')) a { o with fr:=fr' }:=by
  have hr:=h.room;refine⟨⟨h.ok.sh,h.ok.lp,h.ok.ln,h.ok.ser,h.ok.ps,h.ok.ns⟩,by rw[List.length_set];exact hr,fun j hj=>?_⟩;have hj':j<o.size:=hj;have hw:=h.word j hj';rw[getD_set];simp only[Ob.size] at hr
  match j with
  | 0=>rw[if_pos (by omega)];simp[Ob.ws]
  | j+1=>rw[if_neg (by omega),hw];simp[Ob.ws]
theorem At.setSnd {xs:List Nat}{a:Nat}{o:Ob}(h:At xs a o)(v:Nat):At (xs.set (a+1) v) a { o with snd:=v }:=by
  have hr:=h.room;refine⟨⟨h.ok.sh,h.ok.lp,h.ok.ln,h.ok.ser,h.ok.ps,h.ok.ns⟩,by rw[List.length_set];exact hr,fun j hj=>?_⟩;have hj':j<o.size:=hj;have hw:=h.word j hj';rw[getD_set];simp only[Ob.size] at hr
  match j with
  | 0=>rw[if_neg (by omega),hw];simp[Ob.ws]
  | 1=>rw[if_pos (by omega)];simp[Ob.ws]
  | j+2=>rw[if_neg (by omega),hw];simp[Ob.ws]
def Ob.new (p d:Nat)(wk fn:Bool)(ser:Nat):Ob:=⟨p,d,wk,fn,false,0,ser,List.replicate p 0,List.replicate d 0⟩
theorem Ob.new_ok {p d:Nat}{wk fn:Bool}{ser:Nat}(h:okS p d wk fn)(hs:ser≤1099511627776):(Ob.new p d wk fn ser).Ok:=
  ⟨h,by simp[Ob.new],by simp[Ob.new],hs,fun x hx=>by simp[Ob.new] at hx;omega,fun x hx=>by simp[Ob.new] at hx;omega⟩
theorem made_length (xs:List Nat)(a p d:Nat)(wk fn:Bool)(ser:Nat):(made xs a p d wk fn ser).length=xs.length:=by
  simp[made,fl_length]
theorem made_getD {xs:List Nat}{a p d:Nat}{wk fn:Bool}{ser:Nat}(hr:a+(3+p+d)≤xs.length)(j:Nat) :
    (made xs a p d wk fn ser).getD j 0=if j=a then hd p d wk fn false else if j=a+2 then ser else if a≤j∧j<a+(3+p+d) then 0 else xs.getD j 0:=by
  have hl:(fl xs a 0 (3+p+d)).length=xs.length:=fl_length _ _ _ _;simp only[made];rw[getD_set,getD_set,getD_set,fl_getD _ _ _ _ _ hr];simp only[List.length_set,hl]
  by_cases h1:j=a
  · subst h1;rw[if_neg (by omega),if_neg (by omega),if_pos (by omega),if_pos rfl]
  · rw[if_neg h1]
    by_cases h2:j=a+2
    · subst h2;rw[if_pos (by omega),if_pos rfl]
    · rw[if_neg h2,if_neg (by omega)]
      by_cases h3:j=a+1
      · subst h3;rw[if_pos (by omega),if_pos (by omega)]
      · rw[if_neg (by omega),if_neg (by omega)]
theorem made_at {xs:List Nat}{a p d:Nat}{wk fn:Bool}{ser:Nat}(h:okS p d wk fn)(hs:ser≤1099511627776)(hr:a+(3+p+d)≤xs.length):At (made xs a p d wk fn ser) a (Ob.new p d wk fn ser):=by
  refine⟨Ob.new_ok h hs,by rw[made_length];exact hr,fun i hi=>?_⟩;have hi':i<3+p+d:=hi;rw[made_getD hr]
  match i with
  | 0=>simp[Ob.ws,Ob.new]
  | 1=>rw[if_neg (by omega),if_neg (by omega),if_pos (by omega)];simp[Ob.ws,Ob.new]
  | 2=>simp[Ob.ws,Ob.new]
  | i+3=>
    rw[if_neg (by omega),if_neg (by omega),if_pos (by omega)];simp only[Ob.ws,Ob.new,List.getD,List.getElem?_cons_succ,List.getElem?_append,List.getElem?_replicate,List.length_replicate]
    by_cases h1:i<p
    · simp[h1]
    · simp[h1,show i-p<d by omega]
end
section
open Go.RowKit Go.Shelf
theorem oserial_yes (w:World)(b c:Nat)(xs:List Nat)(h:Ar w b c xs)(at_ p d:Nat)(wk fn fr:Bool)(ho:IsObj xs at_ p d wk fn fr)(hs:xs.getD (at_+2) 0≤1099511627776) :
    Calls Tryz.prog 72 #[arV b,vI at_] w fun e w'=>e = .returned (.tuple #[vI (xs.getD (at_+2) 0:Nat),vI 0])∧Calm w w':=by
  have HA:=hid h;have HO:=hid ho;have hr:=ho.room;have h4:=h.2.2.2;clear h ho;obtain⟨s,hS⟩:∃s,xs.getD (at_+2) 0=s:=⟨_,rfl⟩;rw[hS] at hs ⊢;replace hS:=hid hS;go_enter Tryz.func72,Tryz.ntmps72;go_wp2_with fail
  refine(oshape_yes _ b c xs HA.out at_ p d wk fn fr HO.out).mono ?_;rintro e w1 ⟨rfl,c1⟩;go_wp2_with fail
  have hc2:((at_:Int)+2)=((at_+2:Nat):Int):=by push_cast;rfl
  rw[hc2];refine(load_yes _ b c xs (HA.out.calm (c1.alloc _)) (at_+2) (by omega)).mono ?_;rintro e w2 ⟨rfl,rfl⟩;rw[hS.out];replace hc2:=hid hc2;go_wp2;exact bodyPost_ret (v:=.tuple #[vI s,vI 0]) (by simp[results,Tryz.f72,go_sem]) rfl ⟨rfl,c1.alloc _⟩
theorem osecond_yes (w:World)(b c:Nat)(xs:List Nat)(h:Ar w b c xs)(at_ p d:Nat)(wk fn fr:Bool)(ho:IsObj xs at_ p d wk fn fr) :
    Calls Tryz.prog 208 #[arV b,vI at_] w fun e w'=>e = .returned (.tuple #[wV (xs.getD (at_+1) 0),vI 0])∧Calm w w':=by
  have HA:=hid h;have HO:=hid ho;have hr:=ho.room;have h4:=h.2.2.2;clear h ho;obtain⟨s,hS⟩:∃s,xs.getD (at_+1) 0=s:=⟨_,rfl⟩;rw[hS];replace hS:=hid hS;go_enter Tryz.func208,Tryz.ntmps208;go_wp2_with fail
  refine(oshape_yes _ b c xs HA.out at_ p d wk fn fr HO.out).mono ?_;rintro e w1 ⟨rfl,c1⟩;go_wp2_with fail
  have hc2:((at_:Int)+1)=((at_+1:Nat):Int):=by push_cast;rfl
  rw[hc2];refine(load_yes _ b c xs (HA.out.calm (c1.alloc _)) (at_+1) (by omega)).mono ?_;rintro e w2 ⟨rfl,rfl⟩;rw[hS.out];replace hc2:=hid hc2;go_wp2;exact bodyPost_ret (v:=.tuple #[wV s,vI 0]) (by simp[results,Tryz.f208,go_sem]) rfl ⟨rfl,c1.alloc _⟩
theorem ofield_ptr_yes (w:World)(b c:Nat)(xs:List Nat)(h:Ar w b c xs)(at_ p d:Nat)(wk fn fr:Bool)(ho:IsObj xs at_ p d wk fn fr)(i:Nat)(hi:i<p) :
    Calls Tryz.prog 201 #[arV b,vI at_,vI i,.func (.func 202) #[] #[]] w fun e w'=>e = .returned (.tuple #[vI ((at_:Int)+3+i),vI 0])∧Calm w w':=by
  have HA:=hid h;have HO:=hid ho;have hr:=ho.room;have h4:=h.2.2.2;have p8:=ho.ok.1;clear h ho;go_enter Tryz.func201,Tryz.ntmps201;go_wp2_with fail
  refine(oshape_yes _ b c xs HA.out at_ p d wk fn fr HO.out).mono ?_;rintro e w1 ⟨rfl,c1⟩;go_wp2_with fail
  refine(optr_yes p d wk fn at_ i _ (by omega) (by omega) (by omega) (by omega) (by omega)).mono ?_;rintro e w2 ⟨rfl,c2⟩;go_wp2;exact bodyPost_ret (v:=.tuple #[vI ((at_:Int)+3+i),vI 0]) (by simp[results,Tryz.f201,go_sem]) rfl ⟨rfl,(c1.alloc _).trans c2⟩
end
section
open Go.RowKit Go.Shelf
theorem ofield_num_yes (w:World)(b c:Nat)(xs:List Nat)(h:Ar w b c xs)(at_ p d:Nat)(wk fn fr:Bool)(ho:IsObj xs at_ p d wk fn fr)(i:Nat)(hi:i<d) :
    Calls Tryz.prog 201 #[arV b,vI at_,vI i,.func (.func 214) #[] #[]] w fun e w'=>e = .returned (.tuple #[vI ((at_:Int)+3+p+i),vI 0])∧Calm w w':=by
  have HA:=hid h;have HO:=hid ho;have hr:=ho.room;have h4:=h.2.2.2;have p8:=ho.ok.1;have d8:=ho.ok.2.1;clear h ho;go_enter Tryz.func201,Tryz.ntmps201;go_wp2_with fail
  refine(oshape_yes _ b c xs HA.out at_ p d wk fn fr HO.out).mono ?_;rintro e w1 ⟨rfl,c1⟩;go_wp2_with fail
  refine(onum_yes p d wk fn at_ i _ (by omega) (by omega) (by omega) (by omega) (by omega) (by omega) (by omega)).mono ?_;rintro e w2 ⟨rfl,c2⟩;go_wp2;exact bodyPost_ret (v:=.tuple #[vI ((at_:Int)+3+p+i),vI 0]) (by simp[results,Tryz.f201,go_sem]) rfl ⟨rfl,(c1.alloc _).trans c2⟩
theorem ochange_yes (w:World)(b c:Nat)(xs:List Nat)(h:Ar w b c xs)(k:Nat)(hk:k<xs.length)(g v:Nat)(hg:Own w g 0 (wV v))(hgc:g≠c) :
    Calls Tryz.prog 203 #[arV b,vI k,.func (.func 222) #[] #[.pointer (some ⟨g,0,none⟩)]] w fun e w'=>e = .returned (vI 0)∧Ar w' b c (xs.set k v)∧Fr (fun b=>b=c) w w':=by
  have HA:=hid h;have h4:=h.2.2.2;have g1:=hg.1;have hs:=hid (h.set hk v);clear h;go_enter Tryz.func203,Tryz.ntmps203;go_wp2_with fail
  refine(load_yes _ b c xs HA.out k hk).mono ?_;rintro e w1 ⟨rfl,rfl⟩;go_wp2_with (first|(go_at_call 200;refine(store_yes _ b c xs HA.out k hk v).mono ?_;rintro e w2 ⟨rfl,rfl⟩)|go_in)
  go_ret;exact⟨rfl,hs.out,Fr.setCell (S:=fun b=>b=c) (p:=⟨c,k,none⟩) (Fr.refl _ _) (.inl rfl) _⟩
end
section
open Go.RowKit Go.Shelf
theorem ogetptr_yes (w:World)(b c:Nat)(xs:List Nat)(h:Ar w b c xs)(at_ p d:Nat)(wk fn fr:Bool)(ho:IsObj xs at_ p d wk fn fr)(i:Nat)(hi:i<p)(hs:xs.getD (at_+3+i) 0≤1099511627776) :
    Calls Tryz.prog 169 #[arV b,vI at_,vI i] w fun e w'=>e = .returned (.tuple #[vI (xs.getD (at_+3+i) 0:Nat),vI 0])∧Calm w w':=by
  have HA:=hid h;have HO:=hid ho;have hr:=ho.room;have h4:=h.2.2.2;clear h ho;obtain⟨s,hS⟩:∃s,xs.getD (at_+3+i) 0=s:=⟨_,rfl⟩;rw[hS] at hs ⊢;replace hS:=hid hS;go_enter Tryz.func169,Tryz.ntmps169;go_wp2_with fail
  refine(ofield_ptr_yes _ b c xs HA.out at_ p d wk fn fr HO.out i hi).mono ?_;rintro e w1 ⟨rfl,c1⟩;go_wp2_with fail
  have hc2:((at_:Int)+3+i)=((at_+3+i:Nat):Int):=by push_cast;rfl
  rw[hc2];refine(load_yes _ b c xs (HA.out.calm c1) (at_+3+i) (by omega)).mono ?_;rintro e w2 ⟨rfl,rfl⟩;rw[hS.out];replace hc2:=hid hc2;go_wp2;exact bodyPost_ret (v:=.tuple #[vI s,vI 0]) (by simp[results,Tryz.f169,go_sem]) rfl ⟨rfl,c1⟩
theorem ogetnum_yes (w:World)(b c:Nat)(xs:List Nat)(h:Ar w b c xs)(at_ p d:Nat)(wk fn fr:Bool)(ho:IsObj xs at_ p d wk fn fr)(i:Nat)(hi:i<d)(hs:xs.getD (at_+3+p+i) 0<18446744073709551616) :
    Calls Tryz.prog 190 #[arV b,vI at_,vI i] w fun e w'=>e = .returned (.tuple #[vI (zt (xs.getD (at_+3+p+i) 0)),vI 0])∧Calm w w':=by
  have HA:=hid h;have HO:=hid ho;have hr:=ho.room;have h4:=h.2.2.2;clear h ho;obtain⟨s,hS⟩:∃s,xs.getD (at_+3+p+i) 0=s:=⟨_,rfl⟩;rw[hS] at hs ⊢;replace hS:=hid hS;go_enter Tryz.func190,Tryz.ntmps190;go_wp2_with fail
  refine(ofield_num_yes _ b c xs HA.out at_ p d wk fn fr HO.out i hi).mono ?_;rintro e w1 ⟨rfl,c1⟩;go_wp2_with fail
  have hc2:((at_:Int)+3+p+i)=((at_+3+p+i:Nat):Int):=by push_cast;rfl
  rw[hc2];refine(load_yes _ b c xs (HA.out.calm c1) (at_+3+p+i) (by omega)).mono ?_;rintro e w2 ⟨rfl,rfl⟩;rw[hS.out];replace hc2:=hid hc2;go_wp2_with fail
  refine(zag_yes s _ hs).mono ?_;rintro e w3 ⟨rfl,c3⟩;go_wp2;exact bodyPost_ret (v:=.tuple #[vI (zt s),vI 0]) (by simp[results,Tryz.f190,go_sem]) rfl ⟨rfl,c1.trans c3⟩
end
section
open Go.RowKit Go.Shelf
theorem oto_is (w:World)(v:Nat) :
    Calls Tryz.prog 204 #[wV v] w fun e w'=>e = .returned (.func (.func 222) #[] #[.pointer (some ⟨w.heap.size,0,none⟩)])∧w'=w.alloc (.cells #[wV v] 195):=by
  go_enter Tryz.func204,Tryz.ntmps204;go_wp2;go_ret;exact⟨rfl,rfl⟩
theorem osetptr_yes (w:World)(b c:Nat)(xs:List Nat)(h:Ar w b c xs)(at_ p d:Nat)(wk fn fr:Bool)(ho:IsObj xs at_ p d wk fn fr)(i:Nat)(hi:i<p)(v:Nat)(hv:v≤131072) :
    Calls Tryz.prog 170 #[arV b,vI at_,vI i,vI v] w fun e w'=>e = .returned (vI 0)∧Ar w' b c (xs.set (at_+3+i) v)∧Fr (fun k=>k=c) w w':=by
  have HA:=hid h;have HO:=hid ho;have hr:=ho.room;have h4:=h.2.2.2;have hcl:c<w.heap.size:=(h.cell (k:=at_) (by omega)).lt;clear h ho;go_enter Tryz.func170,Tryz.ntmps170;go_wp2_with fail
  refine(ofield_ptr_yes _ b c xs HA.out at_ p d wk fn fr HO.out i hi).mono ?_;rintro e w1 ⟨rfl,c1⟩;go_wp2_with fail
  refine(oto_is _ v).mono ?_;rintro e w2 ⟨rfl,rfl⟩;go_wp2_with fail
  have hc2:((at_:Int)+3+i)=((at_+3+i:Nat):Int):=by push_cast;rfl
  rw[hc2];refine(ochange_yes _ b c xs (HA.out.calm (c1.alloc _)) (at_+3+i) (by omega) w1.heap.size v (Own.new _ _ _ 0 rfl) (by have:=c1.size;omega)).mono ?_;rintro e w3 ⟨rfl,ha,f⟩;replace hc2:=hid hc2;replace ha:=hid ha;go_wp2;go_ret;exact⟨rfl,ha.out,(Calm.any (c1.alloc _)).trans f⟩
theorem osetnum_yes (w:World)(b c:Nat)(xs:List Nat)(h:Ar w b c xs)(at_ p d:Nat)(wk fn fr:Bool)(ho:IsObj xs at_ p d wk fn fr)(i:Nat)(hi:i<d)(n:Int)(hn:I64 n) :
    Calls Tryz.prog 191 #[arV b,vI at_,vI i,vI n] w fun e w'=>e = .returned (vI 0)∧Ar w' b c (xs.set (at_+3+p+i) (zg n))∧Fr (fun k=>k=c) w w':=by
  have HA:=hid h;have HO:=hid ho;have hr:=ho.room;have h4:=h.2.2.2;have hcl:c<w.heap.size:=(h.cell (k:=at_) (by omega)).lt;clear h ho;go_enter Tryz.func191,Tryz.ntmps191;go_wp2_with fail
  refine(ofield_num_yes _ b c xs HA.out at_ p d wk fn fr HO.out i hi).mono ?_;rintro e w1 ⟨rfl,c1⟩;go_wp2_with fail
  refine(zig_yes n _ hn).mono ?_;rintro e w2 ⟨rfl,c2⟩;replace c1:=c1.trans c2;go_wp2_with fail
  refine(oto_is _ (zg n)).mono ?_;rintro e w2' ⟨rfl,rfl⟩;go_wp2_with fail
  have hc2:((at_:Int)+3+p+i)=((at_+3+p+i:Nat):Int):=by push_cast;rfl
  rw[hc2];refine(ochange_yes _ b c xs (HA.out.calm (c1.alloc _)) (at_+3+p+i) (by omega) w2.heap.size (zg n) (Own.new _ _ _ 0 rfl) (by have:=c1.size;omega)).mono ?_;rintro e w3 ⟨rfl,ha,f⟩;replace hc2:=hid hc2;replace ha:=hid ha;go_wp2;go_ret;exact⟨rfl,ha.out,(Calm.any (c1.alloc _)).trans f⟩
end
section
open Go.RowKit Go.Shelf
theorem osetsecond_yes (w:World)(b c:Nat)(xs:List Nat)(h:Ar w b c xs)(at_ p d:Nat)(wk fn fr:Bool)(ho:IsObj xs at_ p d wk fn fr)(v:Nat) :
    Calls Tryz.prog 211 #[arV b,vI at_,wV v] w fun e w'=>e = .returned (vI 0)∧Ar w' b c (xs.set (at_+1) v)∧Fr (fun k=>k=c) w w':=by
  have HA:=hid h;have HO:=hid ho;have hr:=ho.room;have h4:=h.2.2.2;have hcl:c<w.heap.size:=(h.cell (k:=at_) (by omega)).lt;clear h ho;go_enter Tryz.func211,Tryz.ntmps211;go_wp2_with fail
  refine(oshape_yes _ b c xs HA.out at_ p d wk fn fr HO.out).mono ?_;rintro e w1 ⟨rfl,c1⟩;go_wp2_with fail
  refine(oto_is _ v).mono ?_;rintro e w2 ⟨rfl,rfl⟩;go_wp2_with fail
  have hc2:((at_:Int)+1)=((at_+1:Nat):Int):=by push_cast;rfl
  rw[hc2];refine(ochange_yes _ b c xs (HA.out.calm ((c1.alloc _).alloc _)) (at_+1) (by omega) (w1.heap.size+1) v (Own.at _ _ _ _ 0 (by simp) rfl) (by have:=c1.size;omega)).mono ?_;rintro e w3 ⟨rfl,ha,f⟩;replace hc2:=hid hc2;replace ha:=hid ha;go_wp2;go_ret;exact⟨rfl,ha.out,(Calm.any ((c1.alloc _).alloc _)).trans f⟩
theorem osetfreed_yes (w:World)(b c:Nat)(xs:List Nat)(h:Ar w b c xs)(at_ p d:Nat)(wk fn fr fr':Bool)(ho:IsObj xs at_ p d wk fn fr) :
    Calls Tryz.prog 192 #[arV b,vI at_,.bool fr'] w fun e w'=>e = .returned (vI 0)∧Ar w' b c (xs.set at_ (hd p d wk fn fr'))∧Fr (fun k=>k=c) w w':=by
  have HA:=hid h;have HO:=hid ho;have hr:=ho.room;have h4:=h.2.2.2;have hcl:c<w.heap.size:=(h.cell (k:=at_) (by omega)).lt;clear h ho;go_enter Tryz.func192,Tryz.ntmps192;go_wp2_with fail
  refine(oshape_yes _ b c xs HA.out at_ p d wk fn fr HO.out).mono ?_;rintro e w1 ⟨rfl,c1⟩;go_wp2_with fail
  refine(head_yes p d wk fn fr' HO.out.ok _).mono ?_;rintro e w2 ⟨rfl,c2⟩;replace c1:=(c1.alloc _).trans c2;go_wp2_with fail
  refine(oto_is _ (hd p d wk fn fr')).mono ?_;rintro e w3 ⟨rfl,rfl⟩;go_wp2_with fail
  refine(ochange_yes _ b c xs (HA.out.calm (c1.alloc _)) at_ (by omega) w2.heap.size (hd p d wk fn fr') (Own.new _ _ _ 0 rfl) (by have:=c1.size;omega)).mono ?_;rintro e w4 ⟨rfl,ha,f⟩;replace ha:=hid ha;go_wp2;go_ret;exact⟨rfl,ha.out,(Calm.any (c1.alloc _)).trans f⟩
end
section
open Go.RowKit Go.Shelf
theorem ofield_ptr_no (w:World)(b c:Nat)(xs:List Nat)(h:Ar w b c xs)(at_ p d:Nat)(wk fn fr:Bool)(ho:IsObj xs at_ p d wk fn fr)(i:Int)(hi:i<0∨(p:Int)≤i) :
    Calls Tryz.prog 201 #[arV b,vI at_,vI i,.func (.func 202) #[] #[]] w fun e w'=>e = .returned (.tuple #[vI 0,vI 71])∧Calm w w':=by
  have HA:=hid h;have HO:=hid ho;have HI:=hid hi;clear h ho hi;go_enter Tryz.func201,Tryz.ntmps201;go_wp2_with fail
  refine(oshape_yes _ b c xs HA.out at_ p d wk fn fr HO.out).mono ?_;rintro e w1 ⟨rfl,c1⟩;go_wp2_with fail
  refine(optr_no p d wk fn at_ i _ HI.out).mono ?_;rintro e w2 ⟨rfl,c2⟩;go_wp2;exact bodyPost_ret (v:=.tuple #[vI 0,vI 71]) (by simp[results,Tryz.f201,go_sem]) rfl ⟨rfl,(c1.alloc _).trans c2⟩
theorem ofield_num_no (w:World)(b c:Nat)(xs:List Nat)(h:Ar w b c xs)(at_ p d:Nat)(wk fn fr:Bool)(ho:IsObj xs at_ p d wk fn fr)(i:Int)(hi:i<0∨(d:Int)≤i) :
    Calls Tryz.prog 201 #[arV b,vI at_,vI i,.func (.func 214) #[] #[]] w fun e w'=>e = .returned (.tuple #[vI 0,vI 71])∧Calm w w':=by
  have HA:=hid h;have HO:=hid ho;have HI:=hid hi;clear h ho hi;go_enter Tryz.func201,Tryz.ntmps201;go_wp2_with fail
  refine(oshape_yes _ b c xs HA.out at_ p d wk fn fr HO.out).mono ?_;rintro e w1 ⟨rfl,c1⟩;go_wp2_with fail
  refine(onum_no p d wk fn at_ i _ HI.out).mono ?_;rintro e w2 ⟨rfl,c2⟩;go_wp2;exact bodyPost_ret (v:=.tuple #[vI 0,vI 71]) (by simp[results,Tryz.f201,go_sem]) rfl ⟨rfl,(c1.alloc _).trans c2⟩
theorem ogetptr_no (w:World)(b c:Nat)(xs:List Nat)(h:Ar w b c xs)(at_ p d:Nat)(wk fn fr:Bool)(ho:IsObj xs at_ p d wk fn fr)(i:Int)(hi:i<0∨(p:Int)≤i) :
    Calls Tryz.prog 169 #[arV b,vI at_,vI i] w fun e w'=>e = .returned (.tuple #[vI 0,vI 71])∧Calm w w':=by
  have HI:=hid hi;clear hi;go_enter Tryz.func169,Tryz.ntmps169;go_wp2_with fail
  refine(ofield_ptr_no _ b c xs h at_ p d wk fn fr ho i HI.out).mono ?_;rintro e w1 ⟨rfl,c1⟩;clear ho h;go_wp2;exact bodyPost_ret (v:=.tuple #[vI 0,vI 71]) (by simp[results,Tryz.f169,go_sem]) rfl ⟨rfl,c1⟩
theorem ogetnum_no (w:World)(b c:Nat)(xs:List Nat)(h:Ar w b c xs)(at_ p d:Nat)(wk fn fr:Bool)(ho:IsObj xs at_ p d wk fn fr)(i:Int)(hi:i<0∨(d:Int)≤i) :
    Calls Tryz.prog 190 #[arV b,vI at_,vI i] w fun e w'=>e = .returned (.tuple #[vI 0,vI 71])∧Calm w w':=by
  have HI:=hid hi;clear hi;go_enter Tryz.func190,Tryz.ntmps190;go_wp2_with fail
  refine(ofield_num_no _ b c xs h at_ p d wk fn fr ho i HI.out).mono ?_;rintro e w1 ⟨rfl,c1⟩;clear ho h;go_wp2;exact bodyPost_ret (v:=.tuple #[vI 0,vI 71]) (by simp[results,Tryz.f190,go_sem]) rfl ⟨rfl,c1⟩
theorem osetptr_no (w:World)(b c:Nat)(xs:List Nat)(h:Ar w b c xs)(at_ p d:Nat)(wk fn fr:Bool)(ho:IsObj xs at_ p d wk fn fr)(i v:Int)(hi:i<0∨(p:Int)≤i) :
    Calls Tryz.prog 170 #[arV b,vI at_,vI i,vI v] w fun e w'=>e = .returned (vI 71)∧Calm w w':=by
  have HI:=hid hi;clear hi;go_enter Tryz.func170,Tryz.ntmps170;go_wp2_with fail
  refine(ofield_ptr_no _ b c xs h at_ p d wk fn fr ho i HI.out).mono ?_;rintro e w1 ⟨rfl,c1⟩;clear ho h;go_wp2;go_ret;exact⟨rfl,c1⟩
theorem osetnum_no (w:World)(b c:Nat)(xs:List Nat)(h:Ar w b c xs)(at_ p d:Nat)(wk fn fr:Bool)(ho:IsObj xs at_ p d wk fn fr)(i v:Int)(hi:i<0∨(d:Int)≤i) :
    Calls Tryz.prog 191 #[arV b,vI at_,vI i,vI v] w fun e w'=>e = .returned (vI 71)∧Calm w w':=by
  have HI:=hid hi;clear hi;go_enter Tryz.func191,Tryz.ntmps191;go_wp2_with fail
  refine(ofield_num_no _ b c xs h at_ p d wk fn fr ho i HI.out).mono ?_;rintro e w1 ⟨rfl,c1⟩;clear ho h;go_wp2;go_ret;exact⟨rfl,c1⟩
end
section
open Go.RowKit Go.Shelf
def Has (bp:Bool)(k:Int)(n:Nat):Prop:=(bp=true∧0≤k∧k<n)∨(bp=false∧(k<0∨(n:Int)≤k))
section
variable {w:World}{b c:Nat}{xs:List Nat}(h:Ar w b c xs){a:Nat}{o:Ob}(ho:At xs a o)
include h ho
theorem at_shape:Calls Tryz.prog 71 #[arV b,vI a] w fun e w'=>e = .returned (.tuple #[shV o.p o.d o.wk o.fn,.bool o.fr,vI 0])∧Calm w w':=
  oshape_yes w b c xs h a _ _ _ _ _ ho.isObj
theorem at_serial:Calls Tryz.prog 72 #[arV b,vI a] w fun e w'=>e = .returned (.tuple #[vI o.ser,vI 0])∧Calm w w':=by
  have:=oserial_yes w b c xs h a _ _ _ _ _ ho.isObj (by rw[ho.ser];exact ho.ok.ser)
  rwa [ho.ser] at this
theorem at_second:Calls Tryz.prog 208 #[arV b,vI a] w fun e w'=>e = .returned (.tuple #[wV o.snd,vI 0])∧Calm w w':=by
  have:=osecond_yes w b c xs h a _ _ _ _ _ ho.isObj
  rwa [ho.snd] at this
theorem at_ptr {i:Nat}(hi:i<o.p):Calls Tryz.prog 169 #[arV b,vI a,vI i] w fun e w'=>e = .returned (.tuple #[vI (o.ps.getD i 0:Nat),vI 0])∧Calm w w':=by
  have:=ogetptr_yes w b c xs h a _ _ _ _ _ ho.isObj i hi (by rw[ho.ptr hi];have:=ho.ok.ptr hi;omega)
  rwa [ho.ptr hi] at this
theorem at_ptr_no {i:Int}(hi:i<0∨(o.p:Int)≤i):Calls Tryz.prog 169 #[arV b,vI a,vI i] w fun e w'=>e = .returned (.tuple #[vI 0,vI 71])∧Calm w w':=
  ogetptr_no w b c xs h a _ _ _ _ _ ho.isObj i hi
theorem at_num {i:Nat}(hi:i<o.d):Calls Tryz.prog 190 #[arV b,vI a,vI i] w fun e w'=>e = .returned (.tuple #[vI (zt (o.ns.getD i 0)),vI 0])∧Calm w w':=by
  have:=ogetnum_yes w b c xs h a _ _ _ _ _ ho.isObj i hi (by rw[ho.num hi];exact ho.ok.num hi)
  rwa [ho.num hi] at this
theorem at_num_no {i:Int}(hi:i<0∨(o.d:Int)≤i):Calls Tryz.prog 190 #[arV b,vI a,vI i] w fun e w'=>e = .returned (.tuple #[vI 0,vI 71])∧Calm w w':=
  ogetnum_no w b c xs h a _ _ _ _ _ ho.isObj i hi
theorem at_setptr {i v:Nat}(hi:i<o.p)(hv:v≤131072):Calls Tryz.prog 170 #[arV b,vI a,vI i,vI v] w fun e w'=>e = .returned (vI 0)∧Ar w' b c (xs.set (a+3+i) v)∧Fr (fun k=>k=c) w w':=
  osetptr_yes w b c xs h a _ _ _ _ _ ho.isObj i hi v hv
theorem at_setptr_no {i v:Int}(hi:i<0∨(o.p:Int)≤i):Calls Tryz.prog 170 #[arV b,vI a,vI i,vI v] w fun e w'=>e = .returned (vI 71)∧Calm w w':=
  osetptr_no w b c xs h a _ _ _ _ _ ho.isObj i v hi
theorem at_setnum {i:Nat}{v:Int}(hi:i<o.d)(hv:I64 v):Calls Tryz.prog 191 #[arV b,vI a,vI i,vI v] w fun e w'=>e = .returned (vI 0)∧Ar w' b c (xs.set (a+3+o.p+i) (zg v))∧Fr (fun k=>k=c) w w':=
  osetnum_yes w b c xs h a _ _ _ _ _ ho.isObj i hi v hv
theorem at_setnum_no {i v:Int}(hi:i<0∨(o.d:Int)≤i):Calls Tryz.prog 191 #[arV b,vI a,vI i,vI v] w fun e w'=>e = .returned (vI 71)∧Calm w w':=
  osetnum_no w b c xs h a _ _ _ _ _ ho.isObj i v hi
theorem at_setfreed (fr':Bool):Calls Tryz.prog 192 #[arV b,vI a,.bool fr'] w fun e w'=>e = .returned (vI 0)∧Ar w' b c (xs.set a (hd o.p o.d o.wk o.fn fr'))∧Fr (fun k=>k=c) w w':=
  osetfreed_yes w b c xs h a _ _ _ _ _ _ ho.isObj
theorem at_setsecond (v:Nat):Calls Tryz.prog 211 #[arV b,vI a,wV v] w fun e w'=>e = .returned (vI 0)∧Ar w' b c (xs.set (a+1) v)∧Fr (fun k=>k=c) w w':=
  osetsecond_yes w b c xs h a _ _ _ _ _ ho.isObj v
theorem at_num_if {bp:Bool}{k:Int}(hk:Has bp k o.d):Calls Tryz.prog 190 #[arV b,vI a,vI k] w fun e w'=>e = .returned (.tuple #[vI (bif bp then zt (o.ns.getD k.toNat 0) else 0),vI (bif bp then 0 else 71)])∧Calm w w':=by
  rcases hk with ⟨rfl,h1,h2⟩|⟨rfl,h1⟩
  · obtain⟨K,rfl⟩:=Int.eq_ofNat_of_zero_le h1;exact at_num h ho (by omega)
  · exact at_num_no h ho h1
theorem at_setptr_if {bp:Bool}{k:Int}{v:Nat}(hk:Has bp k o.p)(hv:v≤131072):Calls Tryz.prog 170 #[arV b,vI a,vI k,vI v] w fun e w'=>e = .returned (vI (bif bp then 0 else 71))∧Ar w' b c (bif bp then xs.set (a+3+k.toNat) v else xs)∧Fr (fun k=>k=c) w w':=by
  rcases hk with ⟨rfl,h1,h2⟩|⟨rfl,h1⟩
  · obtain⟨K,rfl⟩:=Int.eq_ofNat_of_zero_le h1;exact at_setptr h ho (by omega) hv
  · exact(at_setptr_no h ho h1).mono fun e w' ⟨he,hc⟩=>⟨he,h.calm hc,hc.any⟩
theorem at_setnum_if {bp:Bool}{k v:Int}(hk:Has bp k o.d)(hv:I64 v):Calls Tryz.prog 191 #[arV b,vI a,vI k,vI v] w fun e w'=>e = .returned (vI (bif bp then 0 else 71))∧Ar w' b c (bif bp then xs.set (a+3+o.p+k.toNat) (zg v) else xs)∧Fr (fun k=>k=c) w w':=by
  rcases hk with ⟨rfl,h1,h2⟩|⟨rfl,h1⟩
  · obtain⟨K,rfl⟩:=Int.eq_ofNat_of_zero_le h1;exact at_setnum h ho (by omega) hv
  · exact(at_setnum_no h ho h1).mono fun e w' ⟨he,hc⟩=>⟨he,h.calm hc,hc.any⟩
end
theorem Has.at_ptr {xs:List Nat}{a:Nat}{o:Ob}(ho:At xs a o){bp:Bool}{k:Int}{v:Nat}(hk:Has bp k o.p)(hv:v≤131072) :
    At (bif bp then xs.set (a+3+k.toNat) v else xs) a (bif bp then { o with ps:=o.ps.set k.toNat v } else o):=by
  rcases hk with ⟨rfl,h1,h2⟩|⟨rfl,h1⟩
  · exact ho.setPtr (by omega) hv
  · exact ho
theorem Has.at_num {xs:List Nat}{a:Nat}{o:Ob}(ho:At xs a o){bp:Bool}{k v:Int}(hk:Has bp k o.d)(hv:I64 v) :
    At (bif bp then xs.set (a+3+o.p+k.toNat) (zg v) else xs) a (bif bp then { o with ns:=o.ns.set k.toNat (zg v) } else o):=by
  rcases hk with ⟨rfl,h1,h2⟩|⟨rfl,h1⟩
  · exact ho.setNum (by omega) (zg_lt hv)
  · exact ho
theorem Has.lt {k:Int}{n:Nat}(h1:0≤k)(h2:k<n):Has true k n:=.inl ⟨rfl,h1,h2⟩
theorem Has.neg {k:Int}{n:Nat}(h1:k<0):Has false k n:=.inr ⟨rfl,.inl h1⟩
theorem Has.ge {k:Int}{n:Nat}(h1:(n:Int)≤k):Has false k n:=.inr ⟨rfl,.inr h1⟩
end
end Go.Proofs.YtdffnjikmkgjkaaGreat
