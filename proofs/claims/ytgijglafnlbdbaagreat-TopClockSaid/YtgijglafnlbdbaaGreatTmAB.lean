import Derived.Test.YtgijglafnlbdbaaGreatTmAA
set_option linter.all false
set_option maxHeartbeats 1000000
set_option maxRecDepth 8000
namespace Go.Proofs.YtgijglafnlbdbaaGreat
open RowKit Shelf Proofs.Tryz
open Go renaming World->aj,Value->aC,Calls->aL
def hd(p d:Nat)(wk fn fr:Bool):Nat:=1+p*2+d*32+wk.toNat*512+fn.toNat*1024+fr.toNat*2048
def sK(p d:Nat)(wk fn:Bool):Prop:=p<=8/\d<=8/\(wk=true->p=1/\d=0/\fn=false)
theorem uK{a b k:Nat}(ha:a<2^k)(h:a+b*2^k<18446744073709551616):bits .or .u64 (a:Int) ((b*2^k:Nat):Int)=((a+b*2^k:Nat):Int):=by
 rw[u64_or_nat a (b*2^k) (by omega) (by omega)]
 congr 1
 have:=Nat.shiftLeft_add_eq_or_of_lt ha b;rw[Nat.shiftLeft_eq] at this;rw[Nat.or_comm,<-this,Nat.add_comm]
theorem Ww{p d:Nat}{wk fn fr:Bool}(h:sK p d wk fn):hd p d wk fn fr<4096:=by
 obtain⟨h1,h2,h3⟩:=h;unfold hd;have:=Bool.toNat_le wk;have:=Bool.toNat_le fn;have:=Bool.toNat_le fr;omega
theorem CH{b:Bool}{W k:Nat}(h:gt W k 1=b.toNat):(gt W k 1==1)=b:=by
 rw[h];cases b <;> rfl
theorem VX{p d:Nat}{wk fn fr:Bool}(h:sK p d wk fn) :
 gt (hd p d wk fn fr) 1 4=p/\gt (hd p d wk fn fr) 5 4=d/\gt (hd p d wk fn fr) 9 1=wk.toNat/\gt (hd p d wk fn fr) 10 1=fn.toNat/\gt (hd p d wk fn fr) 11 1=fr.toNat:=by
 obtain⟨h1,h2,h3⟩:=h;unfold gt hd;have:=Bool.toNat_le wk;have:=Bool.toNat_le fn;have:=Bool.toNat_le fr;omega
theorem NF{p d:Nat}{wk fn fr:Bool}(h1:p<=8)(h2:d<=8) :
 bits .or .u64 (bits .or .u64 (bits .or .u64 (bits .or .u64 (bits .or .u64 1 ((p:Int)*2)) ((d:Int)*32)) ((wk.toNat:Int)*512)) ((fn.toNat:Int)*1024)) ((fr.toNat:Int)*2048)=(hd p d wk fn fr:Nat):=by
 have t1:=Bool.toNat_le wk;have t2:=Bool.toNat_le fn;have t3:=Bool.toNat_le fr;have e1:=uK (a:=1) (b:=p) (k:=1) (by decide) (by omega);have e2:=uK (a:=1+p*2^1) (b:=d) (k:=5) (by omega) (by omega);have e3:=uK (a:=1+p*2^1+d*2^5) (b:=wk.toNat) (k:=9) (by omega) (by omega);have e4:=uK (a:=1+p*2^1+d*2^5+wk.toNat*2^9) (b:=fn.toNat) (k:=10) (by omega) (by omega);have e5:=uK (a:=1+p*2^1+d*2^5+wk.toNat*2^9+fn.toNat*2^10) (b:=fr.toNat) (k:=11) (by omega) (by omega);have c1:(p:Int)*2=((p*2^1:Nat):Int):=by omega
 have c2:(d:Int)*32=((d*2^5:Nat):Int):=by omega
 have c3:(wk.toNat:Int)*512=((wk.toNat*2^9:Nat):Int):=by omega
 have c4:(fn.toNat:Int)*1024=((fn.toNat*2^10:Nat):Int):=by omega
 have c5:(fr.toNat:Int)*2048=((fr.toNat*2^11:Nat):Int):=by omega
 rw[c1,c2,c3,c4,c5,show(1:Int)=((1:Nat):Int) from rfl,e1,e2,e3,e4,e5];rfl
theorem TX(n:Int)(w:aj)(hn:cL n) :
 aL prog 234 #[vI n] w λe w'=>e=.returned (.int .u64 (if 0<=n then 2*n else -2*n-1))/\Calm w w':=by
 obtain⟨jM,nJ⟩:=hn;go_in;go_wp2
 ·go_ret;exact⟨by rw[Int.mul_comm];rfl,aq⟩
 ·go_ret;refine⟨?_,aq⟩;obtain⟨m,hm⟩:=Int.eq_ofNat_of_zero_le (show 0<=-(n+1) by omega);rw[hm];have EN:m<9223372036854775808:=by omega
  have e:=u64_or_nat (m*2) 1 (by omega) (by omega)
  have e2:m*2 ||| 1=m*2+1:=by
   rw[Nat.mul_comm];exact(Nat.two_pow_add_eq_or_of_lt (i:=1) (by omega:1<2^1) m).symm
  rw[e2] at e;have e3:((m:Int)*2)=((m*2:Nat):Int):=by push_cast;rfl
  rw[e3];refine congrArg (λx=>Ending.returned (.int .u64 x)) (Eq.trans e ?_);omega
theorem MR(W:Nat)(hW:W<18446744073709551616):bits .and .u64 (W:Int) 1=((W % 2:Nat):Int):=by
 have:=u64_and_nat W 1 hW (by omega);rw[Nat.and_one_is_mod] at this;exact this
theorem TW(W:Nat)(w:aj)(hW:W<18446744073709551616) :
 aL prog 233 #[wV W] w λe w'=>e=.returned (vI (if W % 2=1 then -((W / 2:Nat):Int)-1 else (W / 2:Nat)))/\Calm w w':=by
 have h1:=MR W hW;go_in;go_wp2
 all_goals (first|(go_ret;exact⟨rfl,aq⟩)|(exfalso;rename_i hh;simp at hh;omega))
def zg(n:Int):Nat:=if 0<=n then 2*n.toNat else 2*(-n-1).toNat+1
def zt(W:Nat):Int:=if W % 2=1 then -((W / 2:Nat):Int)-1 else (W / 2:Nat)
theorem PC(n:Int)(w:aj)(hn:cL n) :
 aL prog 234 #[vI n] w λe w'=>e=.returned (wV (zg n))/\Calm w w':=by
 refine(TX n w hn).mono ?_;rintro e w' ⟨rfl,c⟩;refine⟨congrArg (λx=>Ending.returned (.int .u64 x)) ?_,c⟩;unfold zg;split <;> omega
theorem PB(W:Nat)(w:aj)(hW:W<18446744073709551616) :
 aL prog 233 #[wV W] w λe w'=>e=.returned (vI (zt W))/\Calm w w':=TW W w hW
theorem YI{n:Int}(h:cL n):zg n<18446744073709551616:=by
 obtain⟨h1,h2⟩:=h;unfold zg;split <;> omega
theorem YJ{W:Nat}(h:W<18446744073709551616):cL (zt W):=by
 unfold zt;split <;> constructor <;> omega
abbrev lV(p d:Int)(wk fn:Bool):aC:=.agg #[vI p,vI d,.bool wk,.bool fn]
theorem oM(p d:Nat)(wk fn:Bool)(h:sK p d wk fn)(w:aj) :
 aL prog 130 #[lV p d wk fn] w λe w'=>e=.returned (.bool true)/\Calm w w':=by
 obtain⟨h1,h2,h3⟩:=h
 cases wk with
 | false=>
   clear h3;go_in;go_wp2;go_ret;exact⟨rfl,Fr.alloc aq _⟩
 | true=>
   obtain⟨rfl,rfl,rfl⟩:=h3 rfl;clear h3 h1 h2;go_in;go_wp2;go_ret;exact⟨rfl,Fr.alloc aq _⟩
theorem mC(p d:Nat)(wk fn:Bool)(h:sK p d wk fn)(w:aj) :
 aL prog 214 #[lV p d wk fn] w λe w'=>e=.returned (.tuple #[vI (3+(p:Int)+(d:Int)),.bool true])/\Calm w w':=by
 have h1:p<=8:=h.1;have h2:d<=8:=h.2.1;go_in;go_wp2_with fail
 refine(oM p d wk fn h _).mono ?_;rintro e w1 ⟨rfl,c1⟩;have b1:=Fr.cellAt c1 ((Own.new w #[vI p,vI d,.bool wk,.bool fn] 179 0 rfl).1) id;have b2:=Fr.cellAt c1 ((Own.new w #[vI p,vI d,.bool wk,.bool fn] 179 1 rfl).1) id;go_wp2
 go_ret2
 exact⟨rfl,Fr.trans (Fr.alloc aq _) c1⟩
theorem Et(k:Int)(b:Bool)(h1:0<=k)(h2:k<=62)(w:aj) :
 aL prog 255 #[vI k,.bool b] w λe w'=>e=.returned (wV (b.toNat*2^k.toNat))/\Calm w w':=by
 obtain⟨K,rfl⟩:=Int.eq_ofNat_of_zero_le h1
 have hb:(2:Nat)^K<18446744073709551616:=by have:=DS (a:=K) (b:=62) (by omega);have:(2:Nat)^62=4611686018427387904:=(by decide);omega
 have he:Hid (IntKind.u64.wrap (2^K)=((2^K:Nat):Int)):=by
  show IntKind.u64.wrap (2^K)=_;rw[show(2:Int)^K=((2^K:Nat):Int) from by rw[Int.natCast_pow];rfl,IntKind.wrap_u64];exact Int.emod_eq_of_lt (Int.natCast_nonneg _) (Int.ofNat_lt.2 hb)
 have HB:Hid ((2:Nat)^K<18446744073709551616):=hb;clear hb
 cases b with
 | false=>
   go_in;go_wp2;go_ret;exact⟨by simp,aq⟩
 | true=>
   go_in;go_wp2;go_ret;refine⟨?_,aq⟩;show Ending.returned (.int .u64 (IntKind.u64.wrap (2^K)))=_;rw[he.out];simp
theorem uo(p d:Nat)(wk fn fr:Bool)(h:sK p d wk fn)(w:aj) :
 aL prog 235 #[lV p d wk fn,.bool fr] w λe w'=>e=.returned (.tuple #[wV (hd p d wk fn fr),.bool true])/\Calm w w':=by
 have h1:p<=8:=h.1;have h2:d<=8:=h.2.1;go_in;go_wp2_with fail
 refine(oM p d wk fn h _).mono ?_;rintro e w1 ⟨rfl,c1⟩;have b1:=Fr.cellAt c1 ((Own.new w #[vI p,vI d,.bool wk,.bool fn] 179 0 rfl).1) id;have b2:=Fr.cellAt c1 ((Own.new w #[vI p,vI d,.bool wk,.bool fn] 179 1 rfl).1) id;have b3:=Fr.cellAt c1 ((Own.new w #[vI p,vI d,.bool wk,.bool fn] 179 2 rfl).1) id;have b4:=Fr.cellAt c1 ((Own.new w #[vI p,vI d,.bool wk,.bool fn] 179 3 rfl).1) id;go_wp2_with fail
 have q1:∀x:bS w1,x.w.cell? ⟨w.heap.size,0,none⟩=some (vI p):=λx=>x.cell b1;have q2:∀x:bS w1,x.w.cell? ⟨w.heap.size,1,none⟩=some (vI d):=λx=>x.cell b2;refine bP (by kernel_rfl) (by kernel_rfl) ?_
 repeat (go_big_quiet_step ((go_at_call 255;exact Calls.fR (Et _ _ (by decide) (by decide) _))))
 refine wpQuiet_nil ?_;intro w2 hw';have c2:=bS.out hw';clear hw';clear q1 q2;have d3:=Fr.cellAt c2 b3 id;have d4:=Fr.cellAt c2 b4 id;go_wp2_with fail
 have q3:∀x:bS w2,x.w.cell? ⟨w.heap.size,2,none⟩=some (.bool wk):=λx=>x.cell d3;have q4:∀x:bS w2,x.w.cell? ⟨w.heap.size,3,none⟩=some (.bool fn):=λx=>x.cell d4;refine bP (by kernel_rfl) (by kernel_rfl) ?_
 repeat (go_big_quiet_step ((go_at_call 255;exact Calls.fR (Et _ _ (by decide) (by decide) _))))
 refine wpQuiet_nil ?_;intro w3 hw';have c3:=bS.out hw';clear hw';go_wp2
 go_ret2
 refine⟨?_,((Fr.trans (Fr.alloc aq _) c1).trans c2).trans c3⟩;exact congrArg (λx=>Ending.returned (.tuple #[.int .u64 x,.bool true])) (NF h1 h2)
theorem wP(W:Nat)(hW:W<18446744073709551616)(k:Int)(h1:0<=k)(h2:k<=60)(w:aj) :
 aL prog 245 #[wV W,vI k] w λe w'=>e=.returned (vI (gt W k.toNat 4:Nat))/\Calm w w':=by
 have hl:gt W k.toNat 4<16:=P3 W k.toNat 4;obtain⟨g,hg⟩:=au (gt W k.toNat 4);rw[hg] at hl;have HG:Hid (gt W k.toNat 4=g):=hg;clear hg;go_in;go_wp2_with fail
 refine(EE W hW k 4 _ h1 (by decide) (by omega)).mono ?_;rintro e w1 ⟨rfl,c1⟩;rw[show Int.toNat 4=4 from rfl,HG.out];go_wp2;go_ret;exact⟨by rw[HG.out];rfl,c1⟩
theorem yB(W:Nat)(hW:W<18446744073709551616)(k:Int)(h1:0<=k)(h2:k<=63)(w:aj) :
 aL prog 246 #[wV W,vI k] w λe w'=>e=.returned (.bool (gt W k.toNat 1==1))/\Calm w w':=by
 have hl:gt W k.toNat 1<2:=P3 W k.toNat 1;obtain⟨g,hg⟩:=au (gt W k.toNat 1);rw[hg] at hl;have HG:Hid (gt W k.toNat 1=g):=hg;clear hg;rcases(by omega:g=0\/g=1) with rfl|rfl
 all_goals
  go_in;go_wp2_with fail
  refine(EE W hW k 1 _ h1 (by decide) (by omega)).mono ?_;rintro e w1 ⟨rfl,c1⟩;rw[show Int.toNat 1=1 from rfl,HG.out];go_wp2;go_ret;exact⟨by rw[HG.out];rfl,c1⟩
theorem pW(n:Int)(h1:0<=n)(h2:n<=1099511627776)(w:aj) :
 aL prog 181 #[vI n] w λe w'=>e=.returned (.tuple #[wV (2*n.toNat),.bool true])/\w=w':=by
 obtain⟨N,rfl⟩:=Int.eq_ofNat_of_zero_le h1;go_in;go_wp2
 go_ret2
 exact⟨rfl,rfl⟩
theorem uq(n:Int)(h1:0<=n)(h2:n<8)(w:aj) :
 aL prog 219 #[vI n] w λe w'=>e=.returned (.tuple #[wV (2*n.toNat+1),.bool true])/\w=w':=by
 obtain⟨N,rfl⟩:=Int.eq_ofNat_of_zero_le h1;go_in;go_wp2
 go_ret2
 exact⟨rfl,rfl⟩
theorem NI(n:Int)(h:n<0\/8<=n)(w:aj) :
 aL prog 219 #[vI n] w λe w'=>e=.returned (.tuple #[wV 0,.bool false])/\w=w':=by
 rcases(by omega:n<0\/(0<=n/\8<=n)) with h|⟨h,h'⟩
 all_goals
  go_in;go_wp2
  go_ret2
  exact⟨rfl,rfl⟩
theorem DP(n:Nat)(h:n<8)(w:aj) :
 aL prog 179 #[wV (2*n+1)] w λe w'=>e=.returned (.tuple #[vI n,vI 0,.bool true])/\w=w':=by
 obtain⟨W,hW⟩:=au (2*n+1);have hb:W<18446744073709551616:=by omega
 have HW:Hid (2*n+1=W):=hW;rw[hW];clear hW;go_in;go_wp2_with fail
 refine(uq _ (by have:=HW.out;omega) (by have:=HW.out;omega) _).mono ?_;rintro e w' ⟨rfl,rfl⟩;rw[show 2*((W:Int) / 2).toNat+1=W from by have:=HW.out;omega];go_wp2
 go_ret3
 exact⟨congrArg (λx=>Ending.returned (.tuple #[vI x,vI 0,.bool true])) (by have:=HW.out;omega),rfl⟩
theorem DO(n:Nat)(h:n<=1099511627776)(w:aj) :
 aL prog 179 #[wV (2*n)] w λe w'=>e=.returned (.tuple #[vI 0,vI n,.bool false])/\w=w':=by
 obtain⟨W,hW⟩:=au (2*n);have hb:W<18446744073709551616:=by omega
 have HW:Hid (2*n=W):=hW;rw[hW];clear hW
 by_cases h8:n<8
 ·go_in;go_wp2_with fail
  refine(uq _ (by have:=HW.out;omega) (by have:=HW.out;omega) _).mono ?_;rintro e w' ⟨rfl,rfl⟩;rw[show 2*((W:Int) / 2).toNat+1=W+1 from by have:=HW.out;omega];have hne:(((W+1:Nat):Int)==(W:Int))=false:=by simp;omega
  obtain⟨V,hV⟩:=au (W+1);rw[hV] at hne ⊢;clear hV;go_wp2_with fail
  refine(pW _ (by have:=HW.out;omega) (by have:=HW.out;omega) _).mono ?_;rintro e w' ⟨rfl,rfl⟩;rw[show 2*((W:Int) / 2).toNat=W from by have:=HW.out;omega];go_wp2
  go_ret3
  exact⟨congrArg (λx=>Ending.returned (.tuple #[vI 0,vI x,.bool false])) (by have:=HW.out;omega),rfl⟩
 ·go_in;go_wp2_with fail
  refine(NI _ (by have:=HW.out;omega) _).mono ?_;rintro e w' ⟨rfl,rfl⟩;go_wp2_with fail
  refine(pW _ (by have:=HW.out;omega) (by have:=HW.out;omega) _).mono ?_;rintro e w' ⟨rfl,rfl⟩;rw[show 2*((W:Int) / 2).toNat=W from by have:=HW.out;omega];go_wp2
  go_ret3
  exact⟨congrArg (λx=>Ending.returned (.tuple #[vI 0,vI x,.bool false])) (by have:=HW.out;omega),rfl⟩
theorem uU(W:Nat)(hW:W<18446744073709551616)(w:aj)(b1 b2 b3:Bool)(p d:Nat)(hp:gt W 1 4=p)(hd':gt W 5 4=d)(h1:(gt W 9 1==1)=b1)(h2:(gt W 10 1==1)=b2)(h3:(gt W 11 1==1)=b3)
 (df:sK p d b1 b2) (e:hd p d b1 b2 b3=W) :
 aL prog 216 #[wV W] w λe w'=>e=.returned (.tuple #[lV p d b1 b2,.bool b3,.bool true])/\Calm w w':=by
 have HE:Hid (hd p d b1 b2 b3=W):=e;have HO:Hid (sK p d b1 b2):=df;clear e df;have HP:Hid (gt W 1 4=p):=hp;have HD:Hid (gt W 5 4=d):=hd';have H1:Hid ((gt W 9 1==1)=b1):=h1;have H2:Hid ((gt W 10 1==1)=b2):=h2;have H3:Hid ((gt W 11 1==1)=b3):=h3;clear hp hd' h1 h2 h3;go_in;go_wp2_with fail
 refine(wP W hW 1 (by decide) (by decide) _).mono ?_;rintro e w1 ⟨rfl,c1⟩;rw[show Int.toNat 1=1 from rfl,HP.out];go_wp2_with fail
 refine(wP W hW 5 (by decide) (by decide) _).mono ?_;rintro e w2 ⟨rfl,c2⟩;rw[show Int.toNat 5=5 from rfl,HD.out];go_wp2_with fail
 refine(yB W hW 9 (by decide) (by decide) _).mono ?_;rintro e w3 ⟨rfl,c3⟩;rw[show Int.toNat 9=9 from rfl,H1.out];go_wp2_with fail
 refine(yB W hW 10 (by decide) (by decide) _).mono ?_;rintro e w4 ⟨rfl,c4⟩;rw[show Int.toNat 10=10 from rfl,H2.out];have Hw:=((c1.trans c2).trans c3).trans c4;have o0:=(Own.new w #[vI 0,vI 0,.bool false,.bool false] 179 0 rfl).fr Hw id;have o1:=(Own.new w #[vI 0,vI 0,.bool false,.bool false] 179 1 rfl).fr Hw id;have o2:=(Own.new w #[vI 0,vI 0,.bool false,.bool false] 179 2 rfl).fr Hw id;have o3:=(Own.new w #[vI 0,vI 0,.bool false,.bool false] 179 3 rfl).fr Hw id;have c04:Calm w w4:=(Fr.alloc (Fr.refl _ w) _).trans Hw;clear c1 c2 c3 c4 Hw;obtain⟨B,hB⟩:=au w.heap.size;have hBl:Hid (w.heap.size=B):=hB;rw[hB] at o0 o1 o2 o3 ⊢;clear hB;have x0:=o0.1;have x1:=o1.1;have x2:=o2.1;have x3:=o3.1;have y0:=o0.2;have y1:=o1.2;have y2:=o2.2;have y3:=o3.2;go_wp2_with fail
 clear x0 x1 x2 x3 y0 y1 y2 y3;obtain⟨s0,s1,s2,s3,sf⟩:=BM o0 o1 o2 o3 (vI p) (vI d) (.bool b1) (.bool b2);obtain⟨w5,hw5⟩:=au (((((w4.setCell ⟨B,0,none⟩ (vI p)).setCell ⟨B,1,none⟩ (vI d)).setCell ⟨B,2,none⟩ (.bool b1)).setCell ⟨B,3,none⟩ (.bool b2)));rw[hw5] at s0 s1 s2 s3 sf ⊢;clear hw5 o0 o1 o2 o3;have c05:Calm w w5:=c04.join sf (by have:=hBl.out;intro k h1 h2;omega);clear c04 sf;refine(yB W hW 11 (by decide) (by decide) _).mono ?_;rintro e w6 ⟨rfl,c6⟩;rw[show Int.toNat 11=11 from rfl,H3.out];have L9:=c05.trans c6;replace s0:=s0.fr c6 id;replace s1:=s1.fr c6 id;replace s2:=s2.fr c6 id;replace s3:=s3.fr c6 id;clear c05 c6;have x0:=s0.1;have x1:=s1.1;have x2:=s2.1;have x3:=s3.1;go_wp2_with fail
 clear x0 x1 x2 x3;refine(uo p d b1 b2 b3 HO.out _).mono ?_;rintro e w7 ⟨rfl,c7⟩;rw[HE.out];have c07:=L9.trans c7;replace s0:=s0.fr c7 id;replace s1:=s1.fr c7 id;replace s2:=s2.fr c7 id;replace s3:=s3.fr c7 id;clear L9 c7;have x0:=s0.1;have x1:=s1.1;have x2:=s2.1;have x3:=s3.1;have y0:=s0.2;have y1:=s1.2;have y2:=s2.2;have y3:=s3.2;have hne:((W:Int) != (W:Int))=false:=by simp
 go_wp2;obtain⟨t0,t1,t2,t3,tf⟩:=BM s0 s1 s2 s3 (vI p) (vI d) (.bool b1) (.bool b2);have c08:Calm w _:=c07.join tf (by have:=hBl.out;intro k h1 h2;omega);refine bodyPost_ret (v:=.tuple #[lV p d b1 b2,.bool b3,.bool true]) ?_ rfl ⟨rfl,c08⟩;simp[results,Tryz.f216,go_sem,t0.1,t1.1,t2.1,t3.1]
theorem G7(p d:Nat)(wk fn fr:Bool)(h:sK p d wk fn)(w:aj) :
 aL prog 216 #[wV (hd p d wk fn fr)] w λe w'=>e=.returned (.tuple #[lV p d wk fn,.bool fr,.bool true])/\Calm w w':=by
 obtain⟨a1,a2,a3,a4,a5⟩:=VX (fr:=fr) h;have:=Ww (fr:=fr) h;exact uU _ (by omega) w wk fn fr p d a1 a2 (CH a3) (CH a4) (CH a5) h rfl
section
structure gR(xs:aE)(at_ p d:Nat)(wk fn fr:Bool):Prop where
 ok:sK p d wk fn
 room:at_+(3+p+d)<=xs.length
 head:xs.getD at_ 0=hd p d wk fn fr
theorem eK(w:aj)(b c:Nat)(xs:aE)(h:Ar w b c xs)(at_ p d:Nat)(wk fn fr:Bool)(ho:gR xs at_ p d wk fn fr) :
 aL prog 165 #[gP b,vI at_] w λe w'=>e=.returned (.tuple #[lV p d wk fn,.bool fr,vI 0])/\Calm w w':=by
 obtain⟨h1,h2,h3⟩:=ho;have HA:=af h;have h4:=h.2.2.2;have p8:=h1.1;have d8:=h1.2.1;replace h1:=af h1;go_in;go_wp2_with fail
 refine(j8 _ b c xs (h.calm (Fr.alloc aq _)) at_ (by omega)).mono ?_;rintro e w1 ⟨rfl,rfl⟩;rw[h3];clear h;have o1:=ag.new w [vI 0,vI 0,.bool false,.bool false] 179;have k1:Calm w (w.alloc (.cells #[vI 0,vI 0,.bool false,.bool false] 179)):=Fr.alloc aq _;go_wp2_with fail
 refine(G7 p d wk fn fr h1.out _).mono ?_;rintro e w2 ⟨rfl,c2⟩;replace o1:=o1.calm c2;replace k1:=k1.trans c2;obtain⟨b0,b1,b2,b3⟩:=ag.sQ o1;have f0:=(o1 0 _ rfl).2;have f1:=(o1 1 _ rfl).2;have f2:=(o1 2 _ rfl).2;have f3:=(o1 3 _ rfl).2;clear c2;go_wp2_with fail
 have o2:=o1.zB (vI p) (vI d) (.bool wk) (.bool fn);replace k1:Calm w _:=k1.join o2.2 (by intros;omega);obtain⟨W',hW'⟩:=au (((((w2.setCell ⟨w.heap.size,0,none⟩ (vI p)).setCell ⟨w.heap.size,1,none⟩ (vI d)).setCell ⟨w.heap.size,2,none⟩ (.bool wk)).setCell ⟨w.heap.size,3,none⟩ (.bool fn)));rw[hW'] at o2 k1 ⊢;clear b0 b1 b2 b3 f0 f1 f2 f3 o1 hW';obtain⟨o1,-⟩:=o2;refine(mC p d wk fn h1.out _).mono ?_;rintro e w3 ⟨rfl,c3⟩;replace o1:=o1.calm c3;replace k1:=k1.trans c3;clear c3;obtain⟨b0,b1,b2,b3⟩:=ag.sQ o1;have f0:=(o1 0 _ rfl).2;have f1:=(o1 1 _ rfl).2;have f2:=(o1 2 _ rfl).2;have f3:=(o1 3 _ rfl).2;go_wp2_with fail
 refine(uC _ b c xs (HA.out.calm k1)).mono ?_;rintro e w4 ⟨rfl,rfl⟩;have h5:¬((3:Int)+p+d>xs.length-at_):=by omega
 go_wp2;have o3:=o1.zB (vI p) (vI d) (.bool wk) (.bool fn);obtain⟨u0,u1,u2,u3⟩:=ag.sQ o3.1;have k2:Calm w _:=k1.join o3.2 (by intros;omega);clear b0 b1 b2 b3 f0 f1 f2 f3 o1 o3;refine bodyPost_ret (v:=.tuple #[lV p d wk fn,.bool fr,vI 0]) (by simp[results,Tryz.f165,go_sem,u0,u1,u2,u3]) rfl ⟨rfl,k2⟩
theorem KE(p d:Int)(wk fn:Bool)(at_ i:Int)(w:aj)(h1:0<=i)(h2:i<p)(h3:0<=at_)(h4:at_<=1000000)(h5:p<=8) :
 aL prog 227 #[lV p d wk fn,vI at_,vI i] w λe w'=>e=.returned (.tuple #[vI (at_+3+i),vI 0])/\Calm w w':=by
 go_in;go_wp2
 go_ret2
 exact⟨rfl,Fr.alloc aq _⟩
theorem OU(p d:Int)(wk fn:Bool)(at_ i:Int)(w:aj)(h:i<0\/p<=i) :
 aL prog 227 #[lV p d wk fn,vI at_,vI i] w λe w'=>e=.returned (.tuple #[vI 0,vI 71])/\Calm w w':=by
 by_cases hn:i<0
 all_goals
  go_in;go_wp2
  go_ret2
  exact⟨rfl,Fr.alloc aq _⟩
theorem KD(p d:Int)(wk fn:Bool)(at_ i:Int)(w:aj)(h1:0<=i)(h2:i<d)(h3:0<=at_)(h4:at_<=1000000)(h5:d<=8)(h6:0<=p)(h7:p<=8) :
 aL prog 232 #[lV p d wk fn,vI at_,vI i] w λe w'=>e=.returned (.tuple #[vI (at_+3+p+i),vI 0])/\Calm w w':=by
 go_in;go_wp2
 go_ret2
 exact⟨rfl,Fr.alloc aq _⟩
theorem OT(p d:Int)(wk fn:Bool)(at_ i:Int)(w:aj)(h:i<0\/d<=i) :
 aL prog 232 #[lV p d wk fn,vI at_,vI i] w λe w'=>e=.returned (.tuple #[vI 0,vI 71])/\Calm w w':=by
 by_cases hn:i<0
 all_goals
  go_in;go_wp2
  go_ret2
  exact⟨rfl,Fr.alloc aq _⟩
end
section
def made(xs:aE)(at_ p d:Nat)(wk fn:Bool)(ser:Nat):aE:=
 (((fl xs at_ 0 (3+p+d)).set at_ (hd p d wk fn false)).set (at_+1) 0).set (at_+2) ser
theorem xB(w:aj)(b c:Nat)(xs:aE)(h:Ar w b c xs)(at_ p d:Nat)(wk fn:Bool)(ser:Nat)(df:sK p d wk fn)(Xd:at_+(3+p+d)<=xs.length)(hs:ser<=1099511627776) :
 aL prog 224 #[gP b,vI at_,lV p d wk fn,vI ser] w λe w'=>e=.returned (vI 0)/\Ar w' b c (made xs at_ p d wk fn ser)/\Fr (λk=>k=c) w w':=by
 have h4:=h.2.2.2;have p8:=df.1;have d8:=df.2.1;have HA:=af h;have sx:c<w.heap.size:=(h.cell (k:=at_) (by omega)).lt;clear h;have Gu:=af df;clear df;go_in;have o1:=ag.new w [vI p,vI d,.bool wk,.bool fn] 179;have k1:Calm w (w.alloc (.cells #[vI p,vI d,.bool wk,.bool fn] 179)):=Fr.alloc aq _;go_wp2_with fail
 refine(mC p d wk fn Gu.out _).mono ?_;rintro e w1 ⟨rfl,c1⟩;replace o1:=o1.calm c1;replace k1:=k1.trans c1;clear c1;go_wp2_with fail
 have jb:(3:Int)+p+d=((3+p+d:Nat):Int):=by push_cast;rfl
 rw[jb];refine(Jd w1 b c xs (HA.out.calm k1) at_ (3+p+d) 0 Xd).mono ?_;rintro e w2 ⟨rfl,ha,f2⟩;replace o1:=o1.fr f2 (by omega);have k2:Fr (λk=>k=c) w w2:=(Calm.any k1).trans f2;obtain⟨b0,b1,b2,b3⟩:=ag.sQ o1;replace ha:=af ha;replace jb:=af jb;clear k1 f2;go_wp2_with fail
 refine(uo p d wk fn false Gu.out _).mono ?_;rintro e w3 ⟨rfl,c3⟩;replace ha:=af (ha.out.calm c3);replace k2:=k2.join c3 (λ_ _ h=>h.elim);clear c3 b0 b1 b2 b3 o1;have hl:=iU xs at_ 0 (3+p+d);go_wp2_with fail
 refine(pW 0 (by decide) (by decide) _).mono ?_;rintro e w4 ⟨rfl,rfl⟩;go_wp2_with fail
 refine(mU _ b c _ ha.out at_ (by omega) (hd p d wk fn false)).mono ?_;rintro e w5 ⟨rfl,rfl⟩;have a1:=af (ha.out.set (k:=at_) (by omega) (hd p d wk fn false));have k3:=k2.setCell (p:=⟨c,at_,none⟩) (.inl rfl) (wV (hd p d wk fn false));go_wp2_with fail
 have gC:((at_:Int)+1)=((at_+1:Nat):Int):=by push_cast;rfl
 rw[gC];have NU:((fl xs at_ 0 (3+p+d)).set at_ (hd p d wk fn false)).length=xs.length:=by rw[bE,hl]
 refine(mU _ b c _ a1.out (at_+1) (by omega) 0).mono ?_;rintro e w6 ⟨rfl,rfl⟩;have a2:=af (a1.out.set (k:=at_+1) (by omega) 0);have k4:=k3.setCell (p:=⟨c,at_+1,none⟩) (.inl rfl) (wV 0);clear k2 k3 a1 ha hl;replace gC:=af gC;replace NU:=af NU;go_wp2_with fail
 have dW:((at_:Int)+2)=((at_+2:Nat):Int):=by push_cast;rfl
 rw[dW];have td:(((fl xs at_ 0 (3+p+d)).set at_ (hd p d wk fn false)).set (at_+1) 0).length=xs.length:=by rw[bE,NU.out]
 refine(mU _ b c _ a2.out (at_+2) (by omega) ser).mono ?_;rintro e w7 ⟨rfl,rfl⟩;have a3:=af (a2.out.set (k:=at_+2) (by omega) ser);have k5:=k4.setCell (p:=⟨c,at_+2,none⟩) (.inl rfl) (wV ser);replace dW:=af dW;replace td:=af td;go_wp2;go_ret;exact⟨rfl,a3.out,k5⟩
end
section
structure Ob where
 p:Nat
 d:Nat
 wk:Bool
 fn:Bool
 fr:Bool
 snd:Nat
 ser:Nat
 ps:aE
 ns:aE
def Ob.ws(o:Ob):aE:=hd o.p o.d o.wk o.fn o.fr::o.snd::o.ser::(o.ps++o.ns)
def Ob.size(o:Ob):Nat:=3+o.p+o.d
structure Ob.Ok(o:Ob):Prop where
 sh:sK o.p o.d o.wk o.fn
 lp:o.ps.length=o.p
 ln:o.ns.length=o.d
 ser:o.ser<=1099511627776
 ps:∀x∈o.ps,x<=131072
 ns:∀x∈o.ns,x<18446744073709551616
structure At(xs:aE)(a:Nat)(o:Ob):Prop where
 ok:o.Ok
 room:a+o.size<=xs.length
 word:∀i,i<o.size->xs.getD (a+i) 0=o.ws.getD i 0
theorem At.isObj{xs:aE}{a:Nat}{o:Ob}(h:At xs a o):gR xs a o.p o.d o.wk o.fn o.fr:=
 ⟨h.ok.sh,by have:=h.room;simp only[Ob.size] at this;omega,by simpa[Ob.ws] using h.word 0 (by simp[Ob.size];omega)⟩
theorem At.snd{xs:aE}{a:Nat}{o:Ob}(h:At xs a o):xs.getD (a+1) 0=o.snd:=by
 simpa[Ob.ws] using h.word 1 (by simp[Ob.size];omega)
theorem At.ser{xs:aE}{a:Nat}{o:Ob}(h:At xs a o):xs.getD (a+2) 0=o.ser:=by
 simpa[Ob.ws] using h.word 2 (by simp[Ob.size];omega)
theorem Ob.TU{o:Ob}(h:o.Ok){i:Nat}(hi:i<o.p):o.ws.getD (3+i) 0=o.ps.getD i 0:=by
 have hl:=h.lp;rw[Nat.add_comm 3 i];simp[Ob.ws,List.getD,List.getElem?_append,show i<o.ps.length by omega]
theorem Ob.TT{o:Ob}(h:o.Ok){i:Nat}(hi:i<o.d):o.ws.getD (3+o.p+i) 0=o.ns.getD i 0:=by
 have hl:=h.lp;rw[show 3+o.p+i=(o.p+i)+3 by omega];simp[Ob.ws,List.getD,List.getElem?_append,show ¬o.p+i<o.ps.length by omega,show o.p+i-o.ps.length=i by omega]
theorem At.ptr{xs:aE}{a:Nat}{o:Ob}(h:At xs a o){i:Nat}(hi:i<o.p):xs.getD (a+3+i) 0=o.ps.getD i 0:=by
 have:=h.word (3+i) (by simp only[Ob.size];omega);rw[Ob.TU h.ok hi] at this
 rwa [<-Nat.add_assoc] at this
theorem At.num{xs:aE}{a:Nat}{o:Ob}(h:At xs a o){i:Nat}(hi:i<o.d):xs.getD (a+3+o.p+i) 0=o.ns.getD i 0:=by
 have:=h.word (3+o.p+i) (by simp only[Ob.size];omega);rw[Ob.TT h.ok hi] at this
 rwa [show a+(3+o.p+i)=a+3+o.p+i by omega] at this
theorem Ob.Ok.ptr{o:Ob}(h:o.Ok){i:Nat}(hi:i<o.p):o.ps.getD i 0<=131072:=by
 have hl:=h.lp;have sZ:i<o.ps.length:=by omega
 simpa[List.getD,sZ] using h.ps o.ps[i] (List.getElem_mem _)
theorem Ob.Ok.num{o:Ob}(h:o.Ok){i:Nat}(hi:i<o.d):o.ns.getD i 0<18446744073709551616:=by
 have hl:=h.ln;have sZ:i<o.ns.length:=by omega
 simpa[List.getD,sZ] using h.ns o.ns[i] (List.getElem_mem _)
theorem eT(xs:aE)(i j v:Nat):(xs.set i v).getD j 0=if i=j/\i<xs.length then v else xs.getD j 0:=by
 simp only[List.getD,List.getElem?_set]
 by_cases h:i=j
 ·subst h
  by_cases h2:i<xs.length
  ·simp[h2]
  ·simp[h2]
 ·simp[h]
theorem At.of_eq{xs ys:aE}{a b:Nat}{o:Ob}(h:At xs a o)(hl:b+o.size<=ys.length)(he:∀i,i<o.size->ys.getD (b+i) 0=xs.getD (a+i) 0):At ys b o:=
 ⟨h.ok,hl,λi hi=>(he i hi).trans (h.word i hi)⟩
theorem At.TH{xs:aE}{a:Nat}{o:Ob}(h:At xs a o){i v:Nat}(hi:i<o.p)(hv:v<=131072):At (xs.set (a+3+i) v) a { o with ps:=o.ps.set i v }:=by
 have hl:=h.ok.lp;have HZ:=h.ok.ln;have hr:=h.room;refine⟨⟨h.ok.sh,by simpa using hl,HZ,h.ok.ser,λx hx=>?_,h.ok.ns⟩,by rw[bE];exact hr,λj hj=>?_⟩
 ·rcases List.mem_or_eq_of_mem_set hx with hx|rfl
  ·exact h.ok.ps x hx
  ·exact hv
 ·have De:j<o.size:=hj;have hw:=h.word j De;simp only[Ob.size] at hr De;rw[eT]
  by_cases Mj:3+i=j
  ·subst Mj;rw[if_pos (by omega)];have e:3+i=i+1+1+1:=by omega
   rw[e];simp[Ob.ws,List.getD,List.getElem?_append,show i<o.ps.length by omega]
  ·rw[if_neg (by omega),hw]
   match j,Mj with
   | 0,_=>simp[Ob.ws]
   | 1,_=>simp[Ob.ws]
   | 2,_=>simp[Ob.ws]
   | j+3,Mj=>
     simp only[Ob.ws,List.getD,List.getElem?_cons_succ,List.getElem?_append,bE,List.getElem?_set]
     by_cases h1:j<o.ps.length
     ·rw[if_pos h1,if_pos h1,if_neg (by omega)]
     ·rw[if_neg h1,if_neg h1]
theorem At.TG{xs:aE}{a:Nat}{o:Ob}(h:At xs a o){i v:Nat}(hi:i<o.d)(hv:v<18446744073709551616):At (xs.set (a+3+o.p+i) v) a { o with ns:=o.ns.set i v }:=by
 have hl:=h.ok.lp;have HZ:=h.ok.ln;have hr:=h.room;refine⟨⟨h.ok.sh,hl,by simpa using HZ,h.ok.ser,h.ok.ps,λx hx=>?_⟩,by rw[bE];exact hr,λj hj=>?_⟩
 ·rcases List.mem_or_eq_of_mem_set hx with hx|rfl
  ·exact h.ok.ns x hx
  ·exact hv
 ·have De:j<o.size:=hj;have hw:=h.word j De;simp only[Ob.size] at hr De;rw[eT]
  by_cases Mj:3+o.p+i=j
  ·subst Mj;rw[if_pos (by omega)];have e:3+o.p+i=(o.p+i)+1+1+1:=by omega
   rw[e];simp[Ob.ws,List.getD,List.getElem?_append,show ¬o.p+i<o.ps.length by omega,show o.p+i-o.ps.length=i by omega,show i<o.ns.length by omega]
  ·rw[if_neg (by omega),hw]
   match j,Mj with
   | 0,_=>simp[Ob.ws]
   | 1,_=>simp[Ob.ws]
   | 2,_=>simp[Ob.ws]
   | j+3,Mj=>
     simp only[Ob.ws,List.getD,List.getElem?_cons_succ,List.getElem?_append,bE,List.getElem?_set]
     by_cases h1:j<o.ps.length
     ·rw[if_pos h1,if_pos h1]
     ·rw[if_neg h1,if_neg h1,if_neg (by omega)]
theorem At.O9{xs:aE}{a:Nat}{o:Ob}(h:At xs a o)(AA:Bool):At (xs.set a (hd o.p o.d o.wk o.fn AA)) a { o with fr:=AA }:=by
 have hr:=h.room;refine⟨⟨h.ok.sh,h.ok.lp,h.ok.ln,h.ok.ser,h.ok.ps,h.ok.ns⟩,by rw[bE];exact hr,λj hj=>?_⟩;have De:j<o.size:=hj;have hw:=h.word j De;rw[eT];simp only[Ob.size] at hr
 match j with
 | 0=>rw[if_pos (by omega)];simp[Ob.ws]
 | j+1=>rw[if_neg (by omega),hw];simp[Ob.ws]
theorem At.TJ{xs:aE}{a:Nat}{o:Ob}(h:At xs a o)(v:Nat):At (xs.set (a+1) v) a { o with snd:=v }:=by
 have hr:=h.room;refine⟨⟨h.ok.sh,h.ok.lp,h.ok.ln,h.ok.ser,h.ok.ps,h.ok.ns⟩,by rw[bE];exact hr,λj hj=>?_⟩;have De:j<o.size:=hj;have hw:=h.word j De;rw[eT];simp only[Ob.size] at hr
 match j with
 | 0=>rw[if_neg (by omega),hw];simp[Ob.ws]
 | 1=>rw[if_pos (by omega)];simp[Ob.ws]
 | j+2=>rw[if_neg (by omega),hw];simp[Ob.ws]
def Ob.new(p d:Nat)(wk fn:Bool)(ser:Nat):Ob:=⟨p,d,wk,fn,false,0,ser,List.replicate p 0,List.replicate d 0⟩
theorem Ob.DB{p d:Nat}{wk fn:Bool}{ser:Nat}(h:sK p d wk fn)(hs:ser<=1099511627776):(Ob.new p d wk fn ser).Ok:=
 ⟨h,by simp[Ob.new],by simp[Ob.new],hs,λx hx=>by simp[Ob.new] at hx;omega,λx hx=>by simp[Ob.new] at hx;omega⟩
theorem rS(xs:aE)(a p d:Nat)(wk fn:Bool)(ser:Nat):(made xs a p d wk fn ser).length=xs.length:=by
 simp[made,iU]
theorem xt{xs:aE}{a p d:Nat}{wk fn:Bool}{ser:Nat}(hr:a+(3+p+d)<=xs.length)(j:Nat) :
 (made xs a p d wk fn ser).getD j 0=if j=a then hd p d wk fn false else if j=a+2 then ser else if a<=j/\j<a+(3+p+d) then 0 else xs.getD j 0:=by
 have hl:(fl xs a 0 (3+p+d)).length=xs.length:=iU _ _ _ _;simp only[made];rw[eT,eT,eT,Ez _ _ _ _ _ hr];simp only[bE,hl]
 by_cases h1:j=a
 ·subst h1;rw[if_neg (by omega),if_neg (by omega),if_pos (by omega),if_pos rfl]
 ·rw[if_neg h1]
  by_cases h2:j=a+2
  ·subst h2;rw[if_pos (by omega),if_pos rfl]
  ·rw[if_neg h2,if_neg (by omega)]
   by_cases h3:j=a+1
   ·subst h3;rw[if_pos (by omega),if_pos (by omega)]
   ·rw[if_neg (by omega),if_neg (by omega)]
theorem Oy{xs:aE}{a p d:Nat}{wk fn:Bool}{ser:Nat}(h:sK p d wk fn)(hs:ser<=1099511627776)(hr:a+(3+p+d)<=xs.length):At (made xs a p d wk fn ser) a (Ob.new p d wk fn ser):=by
 refine⟨Ob.DB h hs,by rw[rS];exact hr,λi hi=>?_⟩;have sZ:i<3+p+d:=hi;rw[xt hr]
 match i with
 | 0=>simp[Ob.ws,Ob.new]
 | 1=>rw[if_neg (by omega),if_neg (by omega),if_pos (by omega)];simp[Ob.ws,Ob.new]
 | 2=>simp[Ob.ws,Ob.new]
 | i+3=>
   rw[if_neg (by omega),if_neg (by omega),if_pos (by omega)];simp only[Ob.ws,Ob.new,List.getD,List.getElem?_cons_succ,List.getElem?_append,List.getElem?_replicate,List.length_replicate]
   by_cases h1:i<p
   ·simp[h1]
   ·simp[h1,show i-p<d by omega]
end
section
theorem BF(w:aj)(b c:Nat)(xs:aE)(h:Ar w b c xs)(at_ p d:Nat)(wk fn fr:Bool)(ho:gR xs at_ p d wk fn fr)(hs:xs.getD (at_+2) 0<=1099511627776) :
 aL prog 109 #[gP b,vI at_] w λe w'=>e=.returned (.tuple #[vI (xs.getD (at_+2) 0:Nat),vI 0])/\Calm w w':=by
 have HA:=af h;have HO:=af ho;have hr:=ho.room;have h4:=h.2.2.2;clear h ho;obtain⟨s,hS⟩:=au (xs.getD (at_+2) 0);rw[hS] at hs ⊢;replace hS:=af hS;go_in;go_wp2_with fail
 refine(eK _ b c xs HA.out at_ p d wk fn fr HO.out).mono ?_;rintro e w1 ⟨rfl,c1⟩;go_wp2_with fail
 have dW:((at_:Int)+2)=((at_+2:Nat):Int):=by push_cast;rfl
 rw[dW];refine(j8 _ b c xs (HA.out.calm (c1.alloc _)) (at_+2) (by omega)).mono ?_;rintro e w2 ⟨rfl,rfl⟩;rw[hS.out];replace dW:=af dW;go_wp2;exact bodyPost_ret (v:=.tuple #[vI s,vI 0]) (by simp[results,Tryz.f109,go_sem]) rfl ⟨rfl,c1.alloc _⟩
theorem BD(w:aj)(b c:Nat)(xs:aE)(h:Ar w b c xs)(at_ p d:Nat)(wk fn fr:Bool)(ho:gR xs at_ p d wk fn fr) :
 aL prog 218 #[gP b,vI at_] w λe w'=>e=.returned (.tuple #[wV (xs.getD (at_+1) 0),vI 0])/\Calm w w':=by
 have HA:=af h;have HO:=af ho;have hr:=ho.room;have h4:=h.2.2.2;clear h ho;obtain⟨s,hS⟩:=au (xs.getD (at_+1) 0);rw[hS];replace hS:=af hS;go_in;go_wp2_with fail
 refine(eK _ b c xs HA.out at_ p d wk fn fr HO.out).mono ?_;rintro e w1 ⟨rfl,c1⟩;go_wp2_with fail
 have dW:((at_:Int)+1)=((at_+1:Nat):Int):=by push_cast;rfl
 rw[dW];refine(j8 _ b c xs (HA.out.calm (c1.alloc _)) (at_+1) (by omega)).mono ?_;rintro e w2 ⟨rfl,rfl⟩;rw[hS.out];replace dW:=af dW;go_wp2;exact bodyPost_ret (v:=.tuple #[wV s,vI 0]) (by simp[results,Tryz.f218,go_sem]) rfl ⟨rfl,c1.alloc _⟩
theorem mz(w:aj)(b c:Nat)(xs:aE)(h:Ar w b c xs)(at_ p d:Nat)(wk fn fr:Bool)(ho:gR xs at_ p d wk fn fr)(i:Nat)(hi:i<p) :
 aL prog 226 #[gP b,vI at_,vI i,.func (.func 227) #[] #[]] w λe w'=>e=.returned (.tuple #[vI ((at_:Int)+3+i),vI 0])/\Calm w w':=by
 have HA:=af h;have HO:=af ho;have hr:=ho.room;have h4:=h.2.2.2;have p8:=ho.ok.1;clear h ho;go_in;go_wp2_with fail
 refine(eK _ b c xs HA.out at_ p d wk fn fr HO.out).mono ?_;rintro e w1 ⟨rfl,c1⟩;go_wp2_with fail
 refine(KE p d wk fn at_ i _ (by omega) (by omega) (by omega) (by omega) (by omega)).mono ?_;rintro e w2 ⟨rfl,c2⟩;go_wp2;exact bodyPost_ret (v:=.tuple #[vI ((at_:Int)+3+i),vI 0]) (by simp[results,Tryz.f226,go_sem]) rfl ⟨rfl,(c1.alloc _).trans c2⟩
end
section
theorem my(w:aj)(b c:Nat)(xs:aE)(h:Ar w b c xs)(at_ p d:Nat)(wk fn fr:Bool)(ho:gR xs at_ p d wk fn fr)(i:Nat)(hi:i<d) :
 aL prog 226 #[gP b,vI at_,vI i,.func (.func 232) #[] #[]] w λe w'=>e=.returned (.tuple #[vI ((at_:Int)+3+p+i),vI 0])/\Calm w w':=by
 have HA:=af h;have HO:=af ho;have hr:=ho.room;have h4:=h.2.2.2;have p8:=ho.ok.1;have d8:=ho.ok.2.1;clear h ho;go_in;go_wp2_with fail
 refine(eK _ b c xs HA.out at_ p d wk fn fr HO.out).mono ?_;rintro e w1 ⟨rfl,c1⟩;go_wp2_with fail
 refine(KD p d wk fn at_ i _ (by omega) (by omega) (by omega) (by omega) (by omega) (by omega) (by omega)).mono ?_;rintro e w2 ⟨rfl,c2⟩;go_wp2;exact bodyPost_ret (v:=.tuple #[vI ((at_:Int)+3+p+i),vI 0]) (by simp[results,Tryz.f226,go_sem]) rfl ⟨rfl,(c1.alloc _).trans c2⟩
theorem jx(w:aj)(b c:Nat)(xs:aE)(h:Ar w b c xs)(k:Nat)(hk:k<xs.length)(g v:Nat)(hg:Own w g 0 (wV v))(gY:g≠c) :
 aL prog 228 #[gP b,vI k,.func (.func 250) #[] #[aR g]] w λe w'=>e=.returned (vI 0)/\Ar w' b c (xs.set k v)/\Fr (λb=>b=c) w w':=by
 have HA:=af h;have h4:=h.2.2.2;have g1:=hg.1;have hs:=af (h.set hk v);clear h;go_in;go_wp2_with fail
 refine(j8 _ b c xs HA.out k hk).mono ?_;rintro e w1 ⟨rfl,rfl⟩;go_wp2_with (first|(go_at_call 249;refine(mU _ b c xs HA.out k hk v).mono ?_;rintro e w2 ⟨rfl,rfl⟩)|go_in)
 go_ret;exact⟨rfl,hs.out,Fr.setCell (S:=λb=>b=c) (p:=⟨c,k,none⟩) aq (.inl rfl) _⟩
end
section
theorem BC(w:aj)(b c:Nat)(xs:aE)(h:Ar w b c xs)(at_ p d:Nat)(wk fn fr:Bool)(ho:gR xs at_ p d wk fn fr)(i:Nat)(hi:i<p)(hs:xs.getD (at_+3+i) 0<=1099511627776) :
 aL prog 189 #[gP b,vI at_,vI i] w λe w'=>e=.returned (.tuple #[vI (xs.getD (at_+3+i) 0:Nat),vI 0])/\Calm w w':=by
 have HA:=af h;have HO:=af ho;have hr:=ho.room;have h4:=h.2.2.2;clear h ho;obtain⟨s,hS⟩:=au (xs.getD (at_+3+i) 0);rw[hS] at hs ⊢;replace hS:=af hS;go_in;go_wp2_with fail
 refine(mz _ b c xs HA.out at_ p d wk fn fr HO.out i hi).mono ?_;rintro e w1 ⟨rfl,c1⟩;go_wp2_with fail
 have dW:((at_:Int)+3+i)=((at_+3+i:Nat):Int):=by push_cast;rfl
 rw[dW];refine(j8 _ b c xs (HA.out.calm c1) (at_+3+i) (by omega)).mono ?_;rintro e w2 ⟨rfl,rfl⟩;rw[hS.out];replace dW:=af dW;go_wp2;exact bodyPost_ret (v:=.tuple #[vI s,vI 0]) (by simp[results,Tryz.f189,go_sem]) rfl ⟨rfl,c1⟩
theorem BB(w:aj)(b c:Nat)(xs:aE)(h:Ar w b c xs)(at_ p d:Nat)(wk fn fr:Bool)(ho:gR xs at_ p d wk fn fr)(i:Nat)(hi:i<d)(hs:xs.getD (at_+3+p+i) 0<18446744073709551616) :
 aL prog 194 #[gP b,vI at_,vI i] w λe w'=>e=.returned (.tuple #[vI (zt (xs.getD (at_+3+p+i) 0)),vI 0])/\Calm w w':=by
 have HA:=af h;have HO:=af ho;have hr:=ho.room;have h4:=h.2.2.2;clear h ho;obtain⟨s,hS⟩:=au (xs.getD (at_+3+p+i) 0);rw[hS] at hs ⊢;replace hS:=af hS;go_in;go_wp2_with fail
 refine(my _ b c xs HA.out at_ p d wk fn fr HO.out i hi).mono ?_;rintro e w1 ⟨rfl,c1⟩;go_wp2_with fail
 have dW:((at_:Int)+3+p+i)=((at_+3+p+i:Nat):Int):=by push_cast;rfl
 rw[dW];refine(j8 _ b c xs (HA.out.calm c1) (at_+3+p+i) (by omega)).mono ?_;rintro e w2 ⟨rfl,rfl⟩;rw[hS.out];replace dW:=af dW;go_wp2_with fail
 refine(PB s _ hs).mono ?_;rintro e w3 ⟨rfl,c3⟩;go_wp2;exact bodyPost_ret (v:=.tuple #[vI (zt s),vI 0]) (by simp[results,Tryz.f194,go_sem]) rfl ⟨rfl,c1.trans c3⟩
end
section
theorem zr(w:aj)(v:Nat) :
 aL prog 229 #[wV v] w λe w'=>e=.returned (.func (.func 250) #[] #[aR w.heap.size])/\w'=w.alloc (.cells #[wV v] 252):=by
 go_in;go_wp2;go_ret;exact⟨rfl,rfl⟩
theorem BH(w:aj)(b c:Nat)(xs:aE)(h:Ar w b c xs)(at_ p d:Nat)(wk fn fr:Bool)(ho:gR xs at_ p d wk fn fr)(i:Nat)(hi:i<p)(v:Nat)(hv:v<=131072) :
 aL prog 186 #[gP b,vI at_,vI i,vI v] w λe w'=>e=.returned (vI 0)/\Ar w' b c (xs.set (at_+3+i) v)/\Fr (λk=>k=c) w w':=by
 have HA:=af h;have HO:=af ho;have hr:=ho.room;have h4:=h.2.2.2;have sx:c<w.heap.size:=(h.cell (k:=at_) (by omega)).lt;clear h ho;go_in;go_wp2_with fail
 refine(mz _ b c xs HA.out at_ p d wk fn fr HO.out i hi).mono ?_;rintro e w1 ⟨rfl,c1⟩;go_wp2_with fail
 refine(zr _ v).mono ?_;rintro e w2 ⟨rfl,rfl⟩;go_wp2_with fail
 have dW:((at_:Int)+3+i)=((at_+3+i:Nat):Int):=by push_cast;rfl
 rw[dW];refine(jx _ b c xs (HA.out.calm (c1.alloc _)) (at_+3+i) (by omega) w1.heap.size v (Own.new _ _ _ 0 rfl) (by have:=c1.size;omega)).mono ?_;rintro e w3 ⟨rfl,ha,f⟩;replace dW:=af dW;replace ha:=af ha;go_wp2;go_ret;exact⟨rfl,ha.out,(Calm.any (c1.alloc _)).trans f⟩
theorem BG(w:aj)(b c:Nat)(xs:aE)(h:Ar w b c xs)(at_ p d:Nat)(wk fn fr:Bool)(ho:gR xs at_ p d wk fn fr)(i:Nat)(hi:i<d)(n:Int)(hn:cL n) :
 aL prog 195 #[gP b,vI at_,vI i,vI n] w λe w'=>e=.returned (vI 0)/\Ar w' b c (xs.set (at_+3+p+i) (zg n))/\Fr (λk=>k=c) w w':=by
 have HA:=af h;have HO:=af ho;have hr:=ho.room;have h4:=h.2.2.2;have sx:c<w.heap.size:=(h.cell (k:=at_) (by omega)).lt;clear h ho;go_in;go_wp2_with fail
 refine(my _ b c xs HA.out at_ p d wk fn fr HO.out i hi).mono ?_;rintro e w1 ⟨rfl,c1⟩;go_wp2_with fail
 refine(PC n _ hn).mono ?_;rintro e w2 ⟨rfl,c2⟩;replace c1:=c1.trans c2;go_wp2_with fail
 refine(zr _ (zg n)).mono ?_;rintro e w2' ⟨rfl,rfl⟩;go_wp2_with fail
 have dW:((at_:Int)+3+p+i)=((at_+3+p+i:Nat):Int):=by push_cast;rfl
 rw[dW];refine(jx _ b c xs (HA.out.calm (c1.alloc _)) (at_+3+p+i) (by omega) w2.heap.size (zg n) (Own.new _ _ _ 0 rfl) (by have:=c1.size;omega)).mono ?_;rintro e w3 ⟨rfl,ha,f⟩;replace dW:=af dW;replace ha:=af ha;go_wp2;go_ret;exact⟨rfl,ha.out,(Calm.any (c1.alloc _)).trans f⟩
end
section
theorem uM(w:aj)(b c:Nat)(xs:aE)(h:Ar w b c xs)(at_ p d:Nat)(wk fn fr:Bool)(ho:gR xs at_ p d wk fn fr)(v:Nat) :
 aL prog 221 #[gP b,vI at_,wV v] w λe w'=>e=.returned (vI 0)/\Ar w' b c (xs.set (at_+1) v)/\Fr (λk=>k=c) w w':=by
 have HA:=af h;have HO:=af ho;have hr:=ho.room;have h4:=h.2.2.2;have sx:c<w.heap.size:=(h.cell (k:=at_) (by omega)).lt;clear h ho;go_in;go_wp2_with fail
 refine(eK _ b c xs HA.out at_ p d wk fn fr HO.out).mono ?_;rintro e w1 ⟨rfl,c1⟩;go_wp2_with fail
 refine(zr _ v).mono ?_;rintro e w2 ⟨rfl,rfl⟩;go_wp2_with fail
 have dW:((at_:Int)+1)=((at_+1:Nat):Int):=by push_cast;rfl
 rw[dW];refine(jx _ b c xs (HA.out.calm ((c1.alloc _).alloc _)) (at_+1) (by omega) (w1.heap.size+1) v (Own.at _ _ _ _ 0 (by simp) rfl) (by have:=c1.size;omega)).mono ?_;rintro e w3 ⟨rfl,ha,f⟩;replace dW:=af dW;replace ha:=af ha;go_wp2;go_ret;exact⟨rfl,ha.out,(Calm.any ((c1.alloc _).alloc _)).trans f⟩
theorem vZ(w:aj)(b c:Nat)(xs:aE)(h:Ar w b c xs)(at_ p d:Nat)(wk fn fr AA:Bool)(ho:gR xs at_ p d wk fn fr) :
 aL prog 196 #[gP b,vI at_,.bool AA] w λe w'=>e=.returned (vI 0)/\Ar w' b c (xs.set at_ (hd p d wk fn AA))/\Fr (λk=>k=c) w w':=by
 have HA:=af h;have HO:=af ho;have hr:=ho.room;have h4:=h.2.2.2;have sx:c<w.heap.size:=(h.cell (k:=at_) (by omega)).lt;clear h ho;go_in;go_wp2_with fail
 refine(eK _ b c xs HA.out at_ p d wk fn fr HO.out).mono ?_;rintro e w1 ⟨rfl,c1⟩;go_wp2_with fail
 refine(uo p d wk fn AA HO.out.ok _).mono ?_;rintro e w2 ⟨rfl,c2⟩;replace c1:=(c1.alloc _).trans c2;go_wp2_with fail
 refine(zr _ (hd p d wk fn AA)).mono ?_;rintro e w3 ⟨rfl,rfl⟩;go_wp2_with fail
 refine(jx _ b c xs (HA.out.calm (c1.alloc _)) at_ (by omega) w2.heap.size (hd p d wk fn AA) (Own.new _ _ _ 0 rfl) (by have:=c1.size;omega)).mono ?_;rintro e w4 ⟨rfl,ha,f⟩;replace ha:=af ha;go_wp2;go_ret;exact⟨rfl,ha.out,(Calm.any (c1.alloc _)).trans f⟩
end
section
theorem nO(w:aj)(b c:Nat)(xs:aE)(h:Ar w b c xs)(at_ p d:Nat)(wk fn fr:Bool)(ho:gR xs at_ p d wk fn fr)(i:Int)(hi:i<0\/(p:Int)<=i) :
 aL prog 226 #[gP b,vI at_,vI i,.func (.func 227) #[] #[]] w λe w'=>e=.returned (.tuple #[vI 0,vI 71])/\Calm w w':=by
 have HA:=af h;have HO:=af ho;have HI:=af hi;clear h ho hi;go_in;go_wp2_with fail
 refine(eK _ b c xs HA.out at_ p d wk fn fr HO.out).mono ?_;rintro e w1 ⟨rfl,c1⟩;go_wp2_with fail
 refine(OU p d wk fn at_ i _ HI.out).mono ?_;rintro e w2 ⟨rfl,c2⟩;go_wp2;exact bodyPost_ret (v:=.tuple #[vI 0,vI 71]) (by simp[results,Tryz.f226,go_sem]) rfl ⟨rfl,(c1.alloc _).trans c2⟩
theorem nN(w:aj)(b c:Nat)(xs:aE)(h:Ar w b c xs)(at_ p d:Nat)(wk fn fr:Bool)(ho:gR xs at_ p d wk fn fr)(i:Int)(hi:i<0\/(d:Int)<=i) :
 aL prog 226 #[gP b,vI at_,vI i,.func (.func 232) #[] #[]] w λe w'=>e=.returned (.tuple #[vI 0,vI 71])/\Calm w w':=by
 have HA:=af h;have HO:=af ho;have HI:=af hi;clear h ho hi;go_in;go_wp2_with fail
 refine(eK _ b c xs HA.out at_ p d wk fn fr HO.out).mono ?_;rintro e w1 ⟨rfl,c1⟩;go_wp2_with fail
 refine(OT p d wk fn at_ i _ HI.out).mono ?_;rintro e w2 ⟨rfl,c2⟩;go_wp2;exact bodyPost_ret (v:=.tuple #[vI 0,vI 71]) (by simp[results,Tryz.f226,go_sem]) rfl ⟨rfl,(c1.alloc _).trans c2⟩
theorem DJ(w:aj)(b c:Nat)(xs:aE)(h:Ar w b c xs)(at_ p d:Nat)(wk fn fr:Bool)(ho:gR xs at_ p d wk fn fr)(i:Int)(hi:i<0\/(p:Int)<=i) :
 aL prog 189 #[gP b,vI at_,vI i] w λe w'=>e=.returned (.tuple #[vI 0,vI 71])/\Calm w w':=by
 have HI:=af hi;clear hi;go_in;go_wp2_with fail
 refine(nO _ b c xs h at_ p d wk fn fr ho i HI.out).mono ?_;rintro e w1 ⟨rfl,c1⟩;clear ho h;go_wp2;exact bodyPost_ret (v:=.tuple #[vI 0,vI 71]) (by simp[results,Tryz.f189,go_sem]) rfl ⟨rfl,c1⟩
theorem DI(w:aj)(b c:Nat)(xs:aE)(h:Ar w b c xs)(at_ p d:Nat)(wk fn fr:Bool)(ho:gR xs at_ p d wk fn fr)(i:Int)(hi:i<0\/(d:Int)<=i) :
 aL prog 194 #[gP b,vI at_,vI i] w λe w'=>e=.returned (.tuple #[vI 0,vI 71])/\Calm w w':=by
 have HI:=af hi;clear hi;go_in;go_wp2_with fail
 refine(nN _ b c xs h at_ p d wk fn fr ho i HI.out).mono ?_;rintro e w1 ⟨rfl,c1⟩;clear ho h;go_wp2;exact bodyPost_ret (v:=.tuple #[vI 0,vI 71]) (by simp[results,Tryz.f194,go_sem]) rfl ⟨rfl,c1⟩
theorem DL(w:aj)(b c:Nat)(xs:aE)(h:Ar w b c xs)(at_ p d:Nat)(wk fn fr:Bool)(ho:gR xs at_ p d wk fn fr)(i v:Int)(hi:i<0\/(p:Int)<=i) :
 aL prog 186 #[gP b,vI at_,vI i,vI v] w λe w'=>e=.returned (vI 71)/\Calm w w':=by
 have HI:=af hi;clear hi;go_in;go_wp2_with fail
 refine(nO _ b c xs h at_ p d wk fn fr ho i HI.out).mono ?_;rintro e w1 ⟨rfl,c1⟩;clear ho h;go_wp2;go_ret;exact⟨rfl,c1⟩
theorem DK(w:aj)(b c:Nat)(xs:aE)(h:Ar w b c xs)(at_ p d:Nat)(wk fn fr:Bool)(ho:gR xs at_ p d wk fn fr)(i v:Int)(hi:i<0\/(d:Int)<=i) :
 aL prog 195 #[gP b,vI at_,vI i,vI v] w λe w'=>e=.returned (vI 71)/\Calm w w':=by
 have HI:=af hi;clear hi;go_in;go_wp2_with fail
 refine(nN _ b c xs h at_ p d wk fn fr ho i HI.out).mono ?_;rintro e w1 ⟨rfl,c1⟩;clear ho h;go_wp2;go_ret;exact⟨rfl,c1⟩
end
section
def Has(bp:Bool)(k:Int)(n:Nat):Prop:=(bp=true/\0<=k/\k<n)\/(bp=false/\(k<0\/(n:Int)<=k))
section
variable {w:aj}{b c:Nat}{xs:aE}(h:Ar w b c xs){a:Nat}{o:Ob}(ho:At xs a o)
include h ho
theorem IG:aL prog 165 #[gP b,vI a] w λe w'=>e=.returned (.tuple #[lV o.p o.d o.wk o.fn,.bool o.fr,vI 0])/\Calm w w':=
 eK w b c xs h a _ _ _ _ _ ho.isObj
theorem FY:aL prog 109 #[gP b,vI a] w λe w'=>e=.returned (.tuple #[vI o.ser,vI 0])/\Calm w w':=by
 have:=BF w b c xs h a _ _ _ _ _ ho.isObj (by rw[ho.ser];exact ho.ok.ser)
 rwa [ho.ser] at this
theorem FX:aL prog 218 #[gP b,vI a] w λe w'=>e=.returned (.tuple #[wV o.snd,vI 0])/\Calm w w':=by
 have:=BD w b c xs h a _ _ _ _ _ ho.isObj
 rwa [ho.snd] at this
theorem x_{i:Nat}(hi:i<o.p):aL prog 189 #[gP b,vI a,vI i] w λe w'=>e=.returned (.tuple #[vI (o.ps.getD i 0:Nat),vI 0])/\Calm w w':=by
 have:=BC w b c xs h a _ _ _ _ _ ho.isObj i hi (by rw[ho.ptr hi];have:=ho.ok.ptr hi;omega)
 rwa [ho.ptr hi] at this
theorem FW{i:Int}(hi:i<0\/(o.p:Int)<=i):aL prog 189 #[gP b,vI a,vI i] w λe w'=>e=.returned (.tuple #[vI 0,vI 71])/\Calm w w':=
 DJ w b c xs h a _ _ _ _ _ ho.isObj i hi
theorem CG{i:Nat}(hi:i<o.d):aL prog 194 #[gP b,vI a,vI i] w λe w'=>e=.returned (.tuple #[vI (zt (o.ns.getD i 0)),vI 0])/\Calm w w':=by
 have:=BB w b c xs h a _ _ _ _ _ ho.isObj i hi (by rw[ho.num hi];exact ho.ok.num hi)
 rwa [ho.num hi] at this
theorem FV{i:Int}(hi:i<0\/(o.d:Int)<=i):aL prog 194 #[gP b,vI a,vI i] w λe w'=>e=.returned (.tuple #[vI 0,vI 71])/\Calm w w':=
 DI w b c xs h a _ _ _ _ _ ho.isObj i hi
theorem F0{i v:Nat}(hi:i<o.p)(hv:v<=131072):aL prog 186 #[gP b,vI a,vI i,vI v] w λe w'=>e=.returned (vI 0)/\Ar w' b c (xs.set (a+3+i) v)/\Fr (λk=>k=c) w w':=
 BH w b c xs h a _ _ _ _ _ ho.isObj i hi v hv
theorem ye{i v:Int}(hi:i<0\/(o.p:Int)<=i):aL prog 186 #[gP b,vI a,vI i,vI v] w λe w'=>e=.returned (vI 71)/\Calm w w':=
 DL w b c xs h a _ _ _ _ _ ho.isObj i v hi
theorem FZ{i:Nat}{v:Int}(hi:i<o.d)(hv:cL v):aL prog 195 #[gP b,vI a,vI i,vI v] w λe w'=>e=.returned (vI 0)/\Ar w' b c (xs.set (a+3+o.p+i) (zg v))/\Fr (λk=>k=c) w w':=
 BG w b c xs h a _ _ _ _ _ ho.isObj i hi v hv
theorem yd{i v:Int}(hi:i<0\/(o.d:Int)<=i):aL prog 195 #[gP b,vI a,vI i,vI v] w λe w'=>e=.returned (vI 71)/\Calm w w':=
 DK w b c xs h a _ _ _ _ _ ho.isObj i v hi
theorem Ak(AA:Bool):aL prog 196 #[gP b,vI a,.bool AA] w λe w'=>e=.returned (vI 0)/\Ar w' b c (xs.set a (hd o.p o.d o.wk o.fn AA))/\Fr (λk=>k=c) w w':=
 vZ w b c xs h a _ _ _ _ _ _ ho.isObj
theorem yf(v:Nat):aL prog 221 #[gP b,vI a,wV v] w λe w'=>e=.returned (vI 0)/\Ar w' b c (xs.set (a+1) v)/\Fr (λk=>k=c) w w':=
 uM w b c xs h a _ _ _ _ _ ho.isObj v
theorem FU{bp:Bool}{k:Int}(hk:Has bp k o.d):aL prog 194 #[gP b,vI a,vI k] w λe w'=>e=.returned (.tuple #[vI (bif bp then zt (o.ns.getD k.toNat 0) else 0),vI (bif bp then 0 else 71)])/\Calm w w':=by
 rcases hk with ⟨rfl,h1,h2⟩|⟨rfl,h1⟩
 ·obtain⟨K,rfl⟩:=Int.eq_ofNat_of_zero_le h1;exact CG h ho (by omega)
 ·exact FV h ho h1
theorem pQ{bp:Bool}{k:Int}{v:Nat}(hk:Has bp k o.p)(hv:v<=131072):aL prog 186 #[gP b,vI a,vI k,vI v] w λe w'=>e=.returned (vI (bif bp then 0 else 71))/\Ar w' b c (bif bp then xs.set (a+3+k.toNat) v else xs)/\Fr (λk=>k=c) w w':=by
 rcases hk with ⟨rfl,h1,h2⟩|⟨rfl,h1⟩
 ·obtain⟨K,rfl⟩:=Int.eq_ofNat_of_zero_le h1;exact F0 h ho (by omega) hv
 ·exact(ye h ho h1).mono λe w' ⟨he,hc⟩=>⟨he,h.calm hc,hc.any⟩
theorem yc{bp:Bool}{k v:Int}(hk:Has bp k o.d)(hv:cL v):aL prog 195 #[gP b,vI a,vI k,vI v] w λe w'=>e=.returned (vI (bif bp then 0 else 71))/\Ar w' b c (bif bp then xs.set (a+3+o.p+k.toNat) (zg v) else xs)/\Fr (λk=>k=c) w w':=by
 rcases hk with ⟨rfl,h1,h2⟩|⟨rfl,h1⟩
 ·obtain⟨K,rfl⟩:=Int.eq_ofNat_of_zero_le h1;exact FZ h ho (by omega) hv
 ·exact(yd h ho h1).mono λe w' ⟨he,hc⟩=>⟨he,h.calm hc,hc.any⟩
end
theorem Has.x_{xs:aE}{a:Nat}{o:Ob}(ho:At xs a o){bp:Bool}{k:Int}{v:Nat}(hk:Has bp k o.p)(hv:v<=131072) :
 At (bif bp then xs.set (a+3+k.toNat) v else xs) a (bif bp then { o with ps:=o.ps.set k.toNat v } else o):=by
 rcases hk with ⟨rfl,h1,h2⟩|⟨rfl,h1⟩
 ·exact ho.TH (by omega) hv
 ·exact ho
theorem Has.CG{xs:aE}{a:Nat}{o:Ob}(ho:At xs a o){bp:Bool}{k v:Int}(hk:Has bp k o.d)(hv:cL v) :
 At (bif bp then xs.set (a+3+o.p+k.toNat) (zg v) else xs) a (bif bp then { o with ns:=o.ns.set k.toNat (zg v) } else o):=by
 rcases hk with ⟨rfl,h1,h2⟩|⟨rfl,h1⟩
 ·exact ho.TG (by omega) (YI hv)
 ·exact ho
theorem Has.lt{k:Int}{n:Nat}(h1:0<=k)(h2:k<n):Has true k n:=.inl ⟨rfl,h1,h2⟩
theorem Has.neg{k:Int}{n:Nat}(h1:k<0):Has false k n:=.inr ⟨rfl,.inl h1⟩
theorem Has.ge{k:Int}{n:Nat}(h1:(n:Int)<=k):Has false k n:=.inr ⟨rfl,.inr h1⟩
end
def sz:Nat->Int
 | 0=>4
 | 1=>6
 | k+2=>2*sz k
theorem Fz(k:Nat):sz (k+2)=2*sz k:=rfl
theorem QP(k:Nat):sz k<sz (k+1)/\sz (k+1)<2*sz k/\4<=sz k:=by
 induction k using Nat.strongRecOn with
 | ind k ih=>
   match k with
   | 0=>decide
   | 1=>decide
   | k+2=>
     have h:=ih k (by omega);have h2:=ih (k+1) (by omega);rw[Fz k,show sz (k+2+1)=2*sz (k+1) from rfl];omega
theorem zE{a b:Nat}(h:a<=b):sz a<=sz b:=by
 induction b with
 | zero=> obtain rfl:a=0:=(by omega);exact Int.le_refl _
 | succ b ih=>
   by_cases e:a=b+1
   ·rw[e];exact Int.le_refl _
   ·have:=ih (by omega);have:=QP b;omega
theorem QO:sz 28=65536:=by decide
theorem Yw:sz 30=131072:=by decide
theorem Ls(k:Nat)(h:k<=30):4<=sz k/\sz k<=131072:=by
 have:=zE h;rw[Yw] at this;have:=QP k;omega
def jt(n:Int):Nat->Nat->Nat
 | 0,k=>k
 | f+1,k=>if n<=sz k then k else jt n f (k+1)
def cls(n:Int):Nat:=jt n 28 0
theorem yi(n:Int):∀ (f k:Nat),n<=sz (k+f)->k<=jt n f k/\jt n f k<=k+f/\n<=sz (jt n f k)/\∀j,k<=j->j<jt n f k->sz j<n:=by
 intro f
 induction f with
 | zero=>intro k h;exact⟨aM _,aM _,h,λj h1 h2=>by simp[jt] at h2;omega⟩
 | succ f ih=>
   intro k h;unfold jt;split
   ·rename_i hk;exact⟨aM _,by omega,hk,λj h1 h2=>by omega⟩
   ·rename_i hk;obtain⟨h1,h2,h3,h4⟩:=ih (k+1) (by rw[show k+1+f=k+(f+1) from by omega];exact h);refine⟨by omega,by omega,h3,λj hj1 iJ=>?_⟩
    by_cases e:j=k
    ·subst e;omega
    ·exact h4 j (by omega) iJ
theorem pT{n:Int}(h:n<=65536):cls n<=28/\n<=sz (cls n)/\∀j,j<cls n->sz j<n:=by
 obtain⟨_,h2,h3,h4⟩:=yi n 28 0 (by rw[fk,QO];exact h);exact⟨by rw[fk] at h2;exact h2,h3,λj hj=>h4 j (cK _) hj⟩
def qp(n:Int):Int:=sz (cls n)
theorem jg{n:Int}(h:n<=65536):n<=qp n/\4<=qp n/\qp n<=65536:=by
 obtain⟨a,b,_⟩:=pT h;have:=zE a;rw[QO] at this;exact⟨b,(Ls _ (by omega)).1,this⟩
theorem IV{a b:Int}(h:a<=b)(hb:b<=65536):cls a<=cls b:=by
 obtain⟨_,_,a3⟩:=pT (show a<=65536 by omega);obtain⟨_,b2,_⟩:=pT hb;rcases oZ (cls b) (cls a) with aZ|jL
 ·have:=a3 _ aZ;omega
 ·exact jL
theorem Lg{a b:Int}(h:a<=b)(hb:b<=65536):qp a<=qp b:=zE (IV h hb)
attribute [local go_sem] Oper.semAt_some
theorem D5(n:Nat)(hn:1<=n)(N:Nat)(aby:N<=29)(keep:Nat->Prop)(w0:aj) :
 PO Fence.wide n prog 260 #[] (λk=>#[vI (k:Nat),vI (sz k)]) N false keep w0:=λl J Jx W _ _ hJ hJx hN hY h0=>by
 refine callsIn_of_wp func260 rfl trivial ?_ rfl;simp only[ntmps260,List.size_toArray,List.length_cons,List.length_nil,Nat.reduceAdd,Nat.reduceSub,Array.replicate_succ,Array.replicate_zero,List.push_toArray,List.append_toArray,List.nil_append,List.cons_append,Array.append_empty];have HN:Hid (∀W,¬J N W):=hN rfl;clear hN
 gi_wp2
 gi_loopw [2,3,4] (λs x p wr=>∃k:Nat,k<=N/\p=vI k/\s=vI (sz k)/\x=vI (sz (k+1))/\J k wr) (λ_ _ p _=>N-(intOf p).toNat)
 case atStart=>exact⟨0,cK _,rfl,rfl,rfl,h0⟩
 case round=>
  obtain⟨k,hk,rfl,rfl,rfl,hj⟩:=hrel
  have aZ:k<N:=by
   rcases oZ k N with h|h
   ·exact h
   ·obtain rfl:k=N:=by omega
    exact(HN.out _ hj).elim
  obtain⟨fn,tmps,assign,body,hy,hR⟩:=hY k wr aZ hj;have hb:=Ls k (by omega);have HM:=Ls (k+1) (by omega);have hs:Hid (sz (k+1+1)=2*sz k):=Fz k
  gi_wp2
  refine hR.mono ?_;rintro e W1 (⟨rfl,Wc,kN⟩|⟨rfl,Ic⟩)
  ·gi_wp2
   go_roundw
   case rel=>exact⟨k+1,by omega,by go_num,rfl,by rw[hs.out],Wc⟩
   case measure=>simp[intOf];omega
  ·gi_wp2
   go_end0
   exact⟨⟨_,rfl⟩,.inr Ic⟩
theorem Ln(F:Fence)(n:Nat)(w:aj)(hF:F.fn 256)(hro:F.round=none) :
 CallsIn F n prog 256 #[] w λe w'=>e=.returned (.func (.func 260) #[] #[])/\w=w':=by
 refine callsIn_of_wp func256 rfl hF ?_ hro;simp only[ntmps256,List.size_toArray,List.length_cons,List.length_nil,Nat.reduceAdd,Nat.reduceSub,Array.replicate_succ,Array.replicate_zero,List.push_toArray,List.append_toArray,List.nil_append,List.cons_append]
 gi_wp2
 go_ret;exact⟨rfl,rfl⟩
def ML(n:Int)(w:aj)(k:Nat)(a:Act)(W:aj):Prop:=
 Own W w.heap.size 0 (vI n)/\Own W (w.heap.size+1) 0 (vI (k:Nat))/\Own W (w.heap.size+2) 0 (vI (sz k))/\Calm w W/\k<=cls n /\
 a = { tmps:=#[Value.int IntKind.i64 n,Value.pointer (some { block:=w.heap.size,off:=0 }),Value.pointer (some { block:=w.heap.size+1,off:=0 }),Value.pointer (some { block:=w.heap.size+1+1,off:=0 }),Value.bool false,Value.int IntKind.i64 n,Value.bool (decide (n<1)),Value.bool (decide (n<1)),Value.int IntKind.i64 n,Value.bool (decide (65536<n)),Value.bool (decide (n<1) || decide (65536<n)),Value.func (Fn.func 260) #[] #[],vI (k:Nat),vI (sz k),undef,undef,undef,undef,undef],defers:=[] }
theorem GJ(n:Int)(h1:1<=n)(h2:n<=65536)(w:aj) :
 aL prog 244 #[vI n] w λe w'=>e=.returned (.tuple #[vI (cls n:Nat),vI (qp n),.bool true])/\Calm w w':=by
 refine(callsIn_wide (n:=9)).1 ?_;refine callsIn_of_wp_marks func244 rfl trivial ?_ rfl;simp only[ntmps244,List.size_toArray,List.length_cons,List.length_nil,Nat.reduceAdd,Nat.reduceSub,Array.replicate_succ,Array.replicate_zero,List.push_toArray,List.append_toArray,List.nil_append,List.cons_append]
 gi_wp2_with (refine⟨trivial,?_⟩;gi_at_call 256;refine(Ln _ _ _ trivial rfl).mono ?_;rintro e w' ⟨rfl,rfl⟩)
 obtain⟨c28,csz,clt⟩:=pT h2;obtain⟨W0,gS⟩:=au ((((w.alloc (Obj.cells #[Value.int IntKind.i64 n] 3)).alloc (Obj.cells #[Value.int IntKind.i64 0] 3)).alloc (Obj.cells #[Value.int IntKind.i64 0] 3)));have i1:Own W0 w.heap.size 0 (vI n):=by rw[<-gS];exact(((Own.new w _ _ 0 rfl).alloc _).alloc _)
 have i2:Own W0 (w.heap.size+1) 0 (vI 0):=by rw[<-gS];exact(Own.at (w.alloc _) _ _ _ 0 (by simp) rfl).alloc _
 have i3:Own W0 (w.heap.size+2) 0 (vI 0):=by rw[<-gS];exact Own.at ((w.alloc _).alloc _) _ _ _ 0 (by simp) rfl
 have i4:W0.heap.size=w.heap.size+3:=by rw[<-gS];simp
 have i5:Calm w W0:=by rw[<-gS];exact(((Fr.refl _ w).alloc _).alloc _).alloc _
 rw[gS]
 refine zJ (g:=.tmp 11) rfl (by decide) (gf:=260) (lb:=#[]) rfl trivial (enters_of func260 (by kernel_rfl) rfl)
  (D5 8 (by decide) 29 (by decide) (λ_=>False) W0) (cS.refl _ _) (λ_ h=>h.elim) (λ_=>rfl)
  (λk W=>Own W w.heap.size 0 (vI n)/\(∃v,Own W (w.heap.size+1) 0 v)/\(∃v,Own W (w.heap.size+2) 0 v)/\Calm w W/\k<=cls n)
  (ML n w)
  (λc W=>c=.exit 0/\Own W (w.heap.size+1) 0 (vI (cls n:Nat))/\Own W (w.heap.size+2) 0 (vI (sz (cls n)))/\Calm w W)
  ?hI ?hI1 ?hIx ?hN ?h0 ?assign ?body ?done ?stop
 case hI=>
  rintro k A B ⟨a1,⟨v2,a2⟩,⟨v3,a3⟩,a4,a5⟩ hl;exact⟨a1.fr hl (by simp;omega),⟨v2,a2.fr hl (by simp;omega)⟩,⟨v3,a3.fr hl (by simp;omega)⟩,a4.join hl (by simp;omega),a5⟩
 case hI1=>
  rintro k a' A B ⟨a1,a2,a3,a4,a5⟩ hl;exact⟨a1.fr hl (by simp;omega),a2.fr hl (by simp;omega),a3.fr hl (by simp;omega),a4.join hl (by simp;omega),a5⟩
 case hIx=>
  rintro c A B ⟨a1,a2,a3,a4⟩ hl;exact⟨a1,a2.fr hl (by simp;omega),a3.fr hl (by simp;omega),a4.join hl (by simp;omega)⟩
 case hN=>
  rintro _ W ⟨_,_,_,_,h⟩;omega
 case h0=>exact⟨i1,⟨_,i2⟩,⟨_,i3⟩,i5,cK _⟩
 case assign=>
  rintro l k W hk ⟨a1,⟨v2,a2⟩,⟨v3,a3⟩,a4,a5⟩ hs;have b1:=a2.1;have b2:=a2.2;have b3:=a3.1;have b4:=a3.2
  gi_wp2
  have hc:Calm w ((W.setCell ⟨w.heap.size+1,0,none⟩ (vI (k:Nat))).setCell ⟨w.heap.size+1+1,0,none⟩ (vI (sz k))):=(a4.setCell (.inr (by simp)) _).setCell (.inr (by simp;omega)) _
  exact⟨cS.KA (S:=λb=>b=w.heap.size+1\/b=w.heap.size+2) ((aq.setCell (.inl (.inl rfl)) _).setCell (.inl (.inr rfl)) _) (by simp;omega),
   (a1.jC _ _ (by simp)).jC _ _ (by simp;omega),(a2.set _).jC _ _ (by simp),(a3.jC _ _ (by simp)).set _,hc,a5,rfl⟩
 case body=>
  rintro l k a W hk ⟨a1,a2,a3,a4,a5,rfl⟩ hs;have b1:=a1.1;have b3:=a3.1
  gi_wp2
  ·rename_i jL;refine⟨cS.refl _ _,rfl,?_,?_,a4⟩
   ·have:k=cls n:=by
     rcases oZ k (cls n) with h|h
     ·have:=clt _ h;omega
     ·omega
    rw[<-this];exact a2
   ·have:k=cls n:=by
     rcases oZ k (cls n) with h|h
     ·have:=clt _ h;omega
     ·omega
    rw[<-this];exact a3
  ·rename_i aZ;refine⟨cS.refl _ _,a1,⟨_,a2⟩,⟨_,a3⟩,a4,?_⟩;rcases oZ k (cls n) with h|h
   ·exact h
   ·obtain rfl:k=cls n:=by omega
    omega
 case done=>
  rintro W hf;cases hf
 case stop=>
  rintro c W ⟨rfl,a2,a3,a4⟩ hD;have b1:=a2.1;have b2:=a2.2;have b3:=a3.1;have b4:=a3.2
  gi_wp2
  gi_region
  all_goals gi_wp2
  obtain⟨V,hV⟩:=au (((W.setCell ⟨w.heap.size+1,0,none⟩ (vI (cls n:Nat))).setCell ⟨w.heap.size+1+1,0,none⟩ (vI (sz (cls n)))).drew);rw[hV];have v2:Own V (w.heap.size+1) 0 (vI (cls n:Nat)):=by rw[<-hV];exact((a2.set _).jC _ _ (by simp)).drew
  have v3:Own V (w.heap.size+1+1) 0 (vI (qp n)):=by rw[<-hV];exact((a3.jC _ _ (by simp)).set _).drew
  have v4:Calm w V:=by rw[<-hV];exact((a4.setCell (.inr (by simp)) _).setCell (.inr (by simp;omega)) _).drew
  have v5:V.heap[W0.heap.size]?=some (.deferred (some [])):=by
   rw[<-hV];exact(((Fr.refl (λb=>b=w.heap.size+1\/b=w.heap.size+2) W).setCell (.inl (.inl rfl)) _).setCell (.inl (.inr rfl)) _).drew.jE hD (by simp;omega)
  clear hV gS;refine⟨by simp,.inl ⟨_,_,rfl,run_takeDeferred v5,?_⟩⟩;have hp:Fr (λb=>b=W0.heap.size) V (V.putObj W0.heap.size (.deferred none)):=(Fr.refl (λb=>b=W0.heap.size) V).putObj (.inl rfl) _;have u2:=(v2.fr hp (by omega)).1;have u3:=(v3.fr hp (by omega)).1;have u4:Calm w (V.putObj W0.heap.size (.deferred none)):=v4.join hp (by simp;omega);refine⟨.tuple #[vI (cls n:Nat),vI (qp n),.bool true],?_,rfl,u4⟩;simp[results,Tryz.f244,go_sem,u2,u3]
theorem mS(n:Int)(h1:1<=n)(h2:n<=65536)(w:aj) :
 aL prog 215 #[vI n] w λe w'=>e=.returned (.tuple #[vI (qp n),.bool true])/\Calm w w':=by
 go_in;go_wp2_with (go_at_call 244;refine(GJ _ h1 h2 _).mono ?_;rintro e w' ⟨rfl,hc⟩)
 go_ret2
 exact⟨rfl,hc⟩
abbrev G_(b s t:Int):aC:=.agg #[vI b,vI s,vI t]
def OS(b s t:Int):Prop:=0<=b/\b<=65536/\0<=s/\s<=65536/\b<=t/\t<=b+s
theorem Ni(b s t:Int)(w:aj)(h:OS b s t) :
 aL prog 166 #[G_ b s t] w λe w'=>e=.returned (G_ b s t)/\Calm w w':=by
 obtain⟨h1,h2,h3,h4,h5,h6⟩:=h;go_in;go_wp2;exact bodyPost_ret (v:=G_ b s t) (by simp[results,Tryz.f166,go_sem]) rfl ⟨rfl,(Fr.alloc aq _).alloc _⟩
theorem kX(b s t:Int)(w:aj)(h:OS b s t) :
 aL prog 108 #[G_ b s t] w λe w'=>e=.returned (.bool true)/\Calm w w':=by
 go_in;go_wp2_with fail
 obtain⟨W1,iM⟩:=au (w.alloc (.cells #[vI b,vI s,vI t] 150));obtain⟨B,hB⟩:=au w.heap.size;have q0:∀x:bS W1,x.w.cell? ⟨B,0,none⟩=some (vI b):=λx=>x.cell (by rw[<-iM,<-hB];exact World.cell?_alloc_new w _ _ 0);have q1:∀x:bS W1,x.w.cell? ⟨B,1,none⟩=some (vI s):=λx=>x.cell (by rw[<-iM,<-hB];exact World.cell?_alloc_new w _ _ 1);have q2:∀x:bS W1,x.w.cell? ⟨B,2,none⟩=some (vI t):=λx=>x.cell (by rw[<-iM,<-hB];exact World.cell?_alloc_new w _ _ 2);have k1:Calm w W1:=by rw[<-iM];exact Fr.alloc aq _
 rw[iM,hB];clear iM hB;refine bP (by kernel_rfl) (by kernel_rfl) ?_
 repeat (go_big_quiet_step ((go_at_call 166;exact Calls.fR (Ni b s t _ h))))
 refine wpQuiet_nil ?_;intro w2 hw';have c2:=bS.out hw';clear hw';go_wp2;go_ret;exact⟨by simp,k1.trans c2⟩
theorem LX(b s t:Int)(w:aj)(h:OS b s t) :
 aL prog 206 #[G_ b s t] w λe w'=>e=.returned (vI (t-b))/\Calm w w':=by
 have H:Hid (OS b s t):=h;obtain⟨h1,h2,h3,h4,h5,h6⟩:=h;go_in;go_wp2_with fail
 refine(kX b s t _ H.out).mono ?_;rintro e w1 ⟨rfl,c1⟩;have b0:=((Own.new w #[vI b,vI s,vI t] 150 0 rfl).fr c1 id).1;have b1:=((Own.new w #[vI b,vI s,vI t] 150 1 rfl).fr c1 id).1;have b2:=((Own.new w #[vI b,vI s,vI t] 150 2 rfl).fr c1 id).1;go_wp2;go_ret;exact⟨rfl,Fr.trans (Fr.alloc aq _) c1⟩
theorem uB(b s t:Int)(w:aj)(h:OS b s t) :
 aL prog 247 #[G_ b s t] w λe w'=>e=.returned (vI (s-(t-b)))/\Calm w w':=by
 have H:Hid (OS b s t):=h;obtain⟨h1,h2,h3,h4,h5,h6⟩:=h;go_in;go_wp2_with fail
 refine(kX b s t _ H.out).mono ?_;rintro e w1 ⟨rfl,c1⟩;have b0:=((Own.new w #[vI b,vI s,vI t] 150 0 rfl).fr c1 id).1;have b1:=((Own.new w #[vI b,vI s,vI t] 150 1 rfl).fr c1 id).1;have b2:=((Own.new w #[vI b,vI s,vI t] 150 2 rfl).fr c1 id).1;go_wp2_with fail
 have q0:∀x:bS w1,x.w.cell? ⟨w.heap.size,0,none⟩=some (vI b):=λx=>x.cell b0;have q1:∀x:bS w1,x.w.cell? ⟨w.heap.size,1,none⟩=some (vI s):=λx=>x.cell b1;have q2:∀x:bS w1,x.w.cell? ⟨w.heap.size,2,none⟩=some (vI t):=λx=>x.cell b2;refine bP (by kernel_rfl) (by kernel_rfl) ?_
 repeat (go_big_quiet_step ((go_at_call 206;exact Calls.fR (LX b s t _ H.out))))
 refine wpQuiet_nil ?_;intro w2 hw';have c2:=bS.out hw';clear hw';go_wp2;go_ret;exact⟨rfl,(Fr.trans (Fr.alloc aq _) c1).trans c2⟩
theorem Bw(b s:Int)(w:aj)(h1:0<=b)(h2:b<=65536)(h3:0<=s)(h4:s<=65536) :
 aL prog 59 #[vI b,vI s] w λe w'=>e=.returned (.tuple #[G_ b s b,.bool true])/\Calm w w':=by
 go_in;go_wp2_with fail
 have r:ag ((w.alloc (.cells #[vI 0,vI 0,vI 0] 150)).alloc (.cells #[vI b,vI s,vI b] 150)) w.heap.size [vI 0,vI 0,vI 0]:=(ag.new w [vI 0,vI 0,vI 0] _).alloc _;have o:ag ((w.alloc (.cells #[vI 0,vI 0,vI 0] 150)).alloc (.cells #[vI b,vI s,vI b] 150)) (w.heap.size+1) [vI b,vI s,vI b]:=ag.at (w.alloc _) [vI b,vI s,vI b] _ _ (by simp);refine(kX b s b _ ⟨by omega,by omega,by omega,by omega,by omega,by omega⟩).mono ?_;rintro e w1 ⟨rfl,c1⟩;replace r:=r.calm c1;replace o:=o.calm c1;have k1:Calm w w1:=((Fr.alloc aq _).alloc _).trans c1;clear c1;obtain⟨B,hB⟩:=au w.heap.size;have HB:Hid (w.heap.size=B):=hB;rw[hB] at o r ⊢;clear hB;obtain⟨o0,o1,o2⟩:=ag.sP o;obtain⟨r0,r1,r2⟩:=ag.sP r;have s0:=(r 0 _ rfl).2;have s1:=(r 1 _ rfl).2;have s2:=(r 2 _ rfl).2;go_wp2;obtain⟨t0,tf⟩:=r.O8 (vI b) (vI s) (vI b);refine bodyPost_ret (v:=.tuple #[G_ b s b,.bool true]) ?_ rfl ⟨rfl,k1.join tf (by have:=HB.out;intro k h1 h2;omega)⟩;simp[results,Tryz.f59,go_sem,(t0 0 _ rfl).1,(t0 1 _ rfl).1,(t0 2 _ rfl).1]
theorem Cc(b s t n:Int)(w:aj)(h:OS b s t)(n1:1<=n)(n2:n<=65536)(hl:qp n<=s-(t-b)) :
 aL prog 223 #[G_ b s t,vI n] w λe w'=>e=.returned (.tuple #[G_ b s (t+qp n),vI t,.bool true])/\Calm w w':=by
 have rb:=jg n2;obtain⟨x,hx⟩:=au (qp n);rw[hx] at hl rb;obtain⟨UY,UZ,U1⟩:=rb;rw[hx];have HR:Hid (qp n=x):=hx;clear hx;have H:Hid (OS b s t):=h;obtain⟨h1,h2,h3,h4,h5,h6⟩:=h;go_in;go_wp2_with fail
 have o:ag ((w.alloc (.cells #[vI b,vI s,vI t] 150)).alloc (.cells #[vI 0,vI 0,vI 0] 150)) w.heap.size [vI b,vI s,vI t]:=(ag.new w [vI b,vI s,vI t] _).alloc _;have r:ag ((w.alloc (.cells #[vI b,vI s,vI t] 150)).alloc (.cells #[vI 0,vI 0,vI 0] 150)) (w.heap.size+1) [vI 0,vI 0,vI 0]:=ag.at (w.alloc _) [vI 0,vI 0,vI 0] _ _ (by simp);refine(kX b s t _ H.out).mono ?_;rintro e w1 ⟨rfl,c1⟩;replace r:=r.calm c1;replace o:=o.calm c1;have k1:Calm w w1:=((Fr.alloc aq _).alloc _).trans c1;clear c1;obtain⟨B,hB⟩:=au w.heap.size;have HB:Hid (w.heap.size=B):=hB;rw[hB] at o r ⊢;clear hB;go_wp2_with fail
 refine(mS n n1 n2 _).mono ?_;rintro e w2 ⟨rfl,c2⟩;replace r:=r.calm c2;replace o:=o.calm c2;have k2:=k1.trans c2;clear c2 k1;rw[HR.out];obtain⟨o0,o1,o2⟩:=ag.sP o;go_wp2_with fail
 clear o0 o1 o2;refine(uB b s t _ H.out).mono ?_;rintro e w3 ⟨rfl,c3⟩;replace r:=r.calm c3;replace o:=o.calm c3;have k3:=k2.trans c3;clear c3 k2;obtain⟨o0,o0f,o1,o1f,o2,o2f⟩:=ag.sR o;obtain⟨r0,r0f,r1,r1f,r2,r2f⟩:=ag.sR r;go_wp2;have o':=(o.set 2 (vI (t+x)) (by simp));obtain⟨t0,tf⟩:=(r.jC ⟨B,2,none⟩ (vI (t+x)) (by simp)).O8 (vI b) (vI s) (vI (t+x));have k4:=k3.setCell (p:=⟨B,2,none⟩) (.inr (by have:=HB.out;simp;omega)) (vI (t+x));refine bodyPost_ret (v:=.tuple #[G_ b s (t+x),vI t,.bool true]) ?_ rfl ⟨rfl,k4.join tf (by have:=HB.out;intro k h1 h2;omega)⟩;simp[results,Tryz.f223,go_sem,(t0 0 _ rfl).1,(t0 1 _ rfl).1,(t0 2 _ rfl).1]
