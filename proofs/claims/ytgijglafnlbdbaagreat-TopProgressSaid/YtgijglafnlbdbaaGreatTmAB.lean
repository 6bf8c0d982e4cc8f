import Derived.Test.YtgijglafnlbdbaaGreatTmAA
set_option linter.all false
set_option maxHeartbeats 1000000
set_option maxRecDepth 8000
namespace Go.Proofs.YtgijglafnlbdbaaGreat
open RowKit Shelf Proofs.Tryz
open Go renaming World->ag,Value->aA,Calls->aJ
def hd(p d:Nat)(wk fn fr:Bool):Nat:=1+p*2+d*32+wk.toNat*512+fn.toNat*1024+fr.toNat*2048
def sV(p d:Nat)(wk fn:Bool):Prop:=p<=8/\d<=8/\(wk=true->p=1/\d=0/\fn=false)
theorem rF{a b k:Nat}(ha:a<2^k)(h:a+b*2^k<18446744073709551616):bits .or .u64 (a:Int) ((b*2^k:Nat):Int)=((a+b*2^k:Nat):Int):=by
 rw[u64_or_nat a (b*2^k) (by omega) (by omega)]
 congr 1
 have:=Nat.shiftLeft_add_eq_or_of_lt ha b;rw[Nat.shiftLeft_eq] at this;rw[Nat.or_comm,<-this,Nat.add_comm]
theorem RT{p d:Nat}{wk fn fr:Bool}(h:sV p d wk fn):hd p d wk fn fr<4096:=by
 obtain⟨h1,h2,h3⟩:=h;unfold hd;have:=Bool.toNat_le wk;have:=Bool.toNat_le fn;have:=Bool.toNat_le fr;omega
theorem DR{b:Bool}{W k:Nat}(h:gt W k 1=b.toNat):(gt W k 1==1)=b:=by
 rw[h];cases b <;> rfl
theorem YK{p d:Nat}{wk fn fr:Bool}(h:sV p d wk fn) :
 gt (hd p d wk fn fr) 1 4=p/\gt (hd p d wk fn fr) 5 4=d/\gt (hd p d wk fn fr) 9 1=wk.toNat/\gt (hd p d wk fn fr) 10 1=fn.toNat/\gt (hd p d wk fn fr) 11 1=fr.toNat:=by
 obtain⟨h1,h2,h3⟩:=h;unfold gt hd;have:=Bool.toNat_le wk;have:=Bool.toNat_le fn;have:=Bool.toNat_le fr;omega
theorem PH{p d:Nat}{wk fn fr:Bool}(h1:p<=8)(h2:d<=8) :
 bits .or .u64 (bits .or .u64 (bits .or .u64 (bits .or .u64 (bits .or .u64 1 ((p:Int)*2)) ((d:Int)*32)) ((wk.toNat:Int)*512)) ((fn.toNat:Int)*1024)) ((fr.toNat:Int)*2048)=(hd p d wk fn fr:Nat):=by
 have t1:=Bool.toNat_le wk;have t2:=Bool.toNat_le fn;have t3:=Bool.toNat_le fr;have e1:=rF (a:=1) (b:=p) (k:=1) (by decide) (by omega);have e2:=rF (a:=1+p*2^1) (b:=d) (k:=5) (by omega) (by omega);have e3:=rF (a:=1+p*2^1+d*2^5) (b:=wk.toNat) (k:=9) (by omega) (by omega);have e4:=rF (a:=1+p*2^1+d*2^5+wk.toNat*2^9) (b:=fn.toNat) (k:=10) (by omega) (by omega);have e5:=rF (a:=1+p*2^1+d*2^5+wk.toNat*2^9+fn.toNat*2^10) (b:=fr.toNat) (k:=11) (by omega) (by omega);have c1:(p:Int)*2=((p*2^1:Nat):Int):=by omega
 have c2:(d:Int)*32=((d*2^5:Nat):Int):=by omega
 have c3:(wk.toNat:Int)*512=((wk.toNat*2^9:Nat):Int):=by omega
 have c4:(fn.toNat:Int)*1024=((fn.toNat*2^10:Nat):Int):=by omega
 have c5:(fr.toNat:Int)*2048=((fr.toNat*2^11:Nat):Int):=by omega
 rw[c1,c2,c3,c4,c5,show(1:Int)=((1:Nat):Int) from rfl,e1,e2,e3,e4,e5];rfl
theorem WD(n:Int)(w:ag)(hn:bX n) :
 aJ prog 234 #[vI n] w λe w'=>e=.returned (.int .u64 (if 0<=n then 2*n else -2*n-1))/\Calm w w':=by
 obtain⟨rh,lU⟩:=hn;go_in;go_wp2
 ·go_ret;exact⟨by rw[Int.mul_comm];rfl,ah⟩
 ·go_ret;refine⟨?_,ah⟩;obtain⟨m,hm⟩:=Int.eq_ofNat_of_zero_le (show 0<=-(n+1) by omega);rw[hm];have Xa:m<9223372036854775808:=by omega
  have e:=u64_or_nat (m*2) 1 (by omega) (by omega)
  have e2:m*2 ||| 1=m*2+1:=by
   rw[Nat.mul_comm];exact(Nat.two_pow_add_eq_or_of_lt (i:=1) (by omega:1<2^1) m).symm
  rw[e2] at e;have e3:((m:Int)*2)=((m*2:Nat):Int):=by push_cast;rfl
  rw[e3];refine congrArg (λx=>Ending.returned (.int .u64 x)) (Eq.trans e ?_);omega
theorem and_one(W:Nat)(hW:W<18446744073709551616):bits .and .u64 (W:Int) 1=((W % 2:Nat):Int):=by
 have:=u64_and_nat W 1 hW (by omega);rw[Nat.and_one_is_mod] at this;exact this
theorem WC(W:Nat)(w:ag)(hW:W<18446744073709551616) :
 aJ prog 233 #[wV W] w λe w'=>e=.returned (vI (if W % 2=1 then -((W / 2:Nat):Int)-1 else (W / 2:Nat)))/\Calm w w':=by
 have h1:=and_one W hW;go_in;go_wp2
 all_goals (first|(go_ret;exact⟨rfl,ah⟩)|(exfalso;rename_i hh;simp at hh;omega))
def zg(n:Int):Nat:=if 0<=n then 2*n.toNat else 2*(-n-1).toNat+1
def zt(W:Nat):Int:=if W % 2=1 then -((W / 2:Nat):Int)-1 else (W / 2:Nat)
theorem Q8(n:Int)(w:ag)(hn:bX n) :
 aJ prog 234 #[vI n] w λe w'=>e=.returned (wV (zg n))/\Calm w w':=by
 refine(WD n w hn).mono ?_;rintro e w' ⟨rfl,c⟩;refine⟨congrArg (λx=>Ending.returned (.int .u64 x)) ?_,c⟩;unfold zg;split <;> omega
theorem Q7(W:Nat)(w:ag)(hW:W<18446744073709551616) :
 aJ prog 233 #[wV W] w λe w'=>e=.returned (vI (zt W))/\Calm w w':=WC W w hW
theorem aaW{n:Int}(h:bX n):zg n<18446744073709551616:=by
 obtain⟨h1,h2⟩:=h;unfold zg;split <;> omega
theorem aaX{W:Nat}(h:W<18446744073709551616):bX (zt W):=by
 unfold zt;split <;> constructor <;> omega
abbrev mz(p d:Int)(wk fn:Bool):aA:=.agg #[vI p,vI d,.bool wk,.bool fn]
theorem pg(p d:Nat)(wk fn:Bool)(h:sV p d wk fn)(w:ag) :
 aJ prog 130 #[mz p d wk fn] w λe w'=>e=.returned (.bool true)/\Calm w w':=by
 obtain⟨h1,h2,h3⟩:=h
 cases wk with
 | false=>
   clear h3;go_in;go_wp2;go_ret;exact⟨rfl,Fr.alloc ah _⟩
 | true=>
   obtain⟨rfl,rfl,rfl⟩:=h3 rfl;clear h3 h1 h2;go_in;go_wp2;go_ret;exact⟨rfl,Fr.alloc ah _⟩
theorem jY(p d:Nat)(wk fn:Bool)(h:sV p d wk fn)(w:ag) :
 aJ prog 214 #[mz p d wk fn] w λe w'=>e=.returned (.tuple #[vI (3+(p:Int)+(d:Int)),.bool true])/\Calm w w':=by
 have h1:p<=8:=h.1;have h2:d<=8:=h.2.1;go_in;go_wp2_with fail
 refine(pg p d wk fn h _).mono ?_;rintro e w1 ⟨rfl,c1⟩;have b1:=Fr.cellAt c1 ((Own.new w #[vI p,vI d,.bool wk,.bool fn] 179 0 rfl).1) id;have b2:=Fr.cellAt c1 ((Own.new w #[vI p,vI d,.bool wk,.bool fn] 179 1 rfl).1) id;go_wp2
 go_ret2
 exact⟨rfl,Fr.trans (Fr.alloc ah _) c1⟩
theorem FM(k:Int)(b:Bool)(h1:0<=k)(h2:k<=62)(w:ag) :
 aJ prog 255 #[vI k,.bool b] w λe w'=>e=.returned (wV (b.toNat*2^k.toNat))/\Calm w w':=by
 obtain⟨K,rfl⟩:=Int.eq_ofNat_of_zero_le h1
 have hb:(2:Nat)^K<18446744073709551616:=by have:=E_ (a:=K) (b:=62) (by omega);have:(2:Nat)^62=4611686018427387904:=(by decide);omega
 have he:Hid (IntKind.u64.wrap (2^K)=((2^K:Nat):Int)):=by
  show IntKind.u64.wrap (2^K)=_;rw[show(2:Int)^K=((2^K:Nat):Int) from by rw[Int.natCast_pow];rfl,IntKind.wrap_u64];exact Int.emod_eq_of_lt (Int.natCast_nonneg _) (Int.ofNat_lt.2 hb)
 have HB:Hid ((2:Nat)^K<18446744073709551616):=hb;clear hb
 cases b with
 | false=>
   go_in;go_wp2;go_ret;exact⟨by simp,ah⟩
 | true=>
   go_in;go_wp2;go_ret;refine⟨?_,ah⟩;show Ending.returned (.int .u64 (IntKind.u64.wrap (2^K)))=_;rw[he.out];simp
theorem uD(p d:Nat)(wk fn fr:Bool)(h:sV p d wk fn)(w:ag) :
 aJ prog 235 #[mz p d wk fn,.bool fr] w λe w'=>e=.returned (.tuple #[wV (hd p d wk fn fr),.bool true])/\Calm w w':=by
 have h1:p<=8:=h.1;have h2:d<=8:=h.2.1;go_in;go_wp2_with fail
 refine(pg p d wk fn h _).mono ?_;rintro e w1 ⟨rfl,c1⟩;have b1:=Fr.cellAt c1 ((Own.new w #[vI p,vI d,.bool wk,.bool fn] 179 0 rfl).1) id;have b2:=Fr.cellAt c1 ((Own.new w #[vI p,vI d,.bool wk,.bool fn] 179 1 rfl).1) id;have b3:=Fr.cellAt c1 ((Own.new w #[vI p,vI d,.bool wk,.bool fn] 179 2 rfl).1) id;have b4:=Fr.cellAt c1 ((Own.new w #[vI p,vI d,.bool wk,.bool fn] 179 3 rfl).1) id;go_wp2_with fail
 have q1:∀x:a_ w1,x.w.cell? ⟨w.heap.size,0,none⟩=some (vI p):=λx=>x.cell b1;have q2:∀x:a_ w1,x.w.cell? ⟨w.heap.size,1,none⟩=some (vI d):=λx=>x.cell b2;refine bO (by kernel_rfl) (by kernel_rfl) ?_
 repeat (go_big_quiet_step ((go_at_call 255;exact Calls.dC (FM _ _ (by decide) (by decide) _))))
 refine wpQuiet_nil ?_;intro w2 hw';have c2:=a_.out hw';clear hw';clear q1 q2;have d3:=Fr.cellAt c2 b3 id;have d4:=Fr.cellAt c2 b4 id;go_wp2_with fail
 have q3:∀x:a_ w2,x.w.cell? ⟨w.heap.size,2,none⟩=some (.bool wk):=λx=>x.cell d3;have q4:∀x:a_ w2,x.w.cell? ⟨w.heap.size,3,none⟩=some (.bool fn):=λx=>x.cell d4;refine bO (by kernel_rfl) (by kernel_rfl) ?_
 repeat (go_big_quiet_step ((go_at_call 255;exact Calls.dC (FM _ _ (by decide) (by decide) _))))
 refine wpQuiet_nil ?_;intro w3 hw';have c3:=a_.out hw';clear hw';go_wp2
 go_ret2
 refine⟨?_,((Fr.trans (Fr.alloc ah _) c1).trans c2).trans c3⟩;exact congrArg (λx=>Ending.returned (.tuple #[.int .u64 x,.bool true])) (PH h1 h2)
theorem xL(W:Nat)(hW:W<18446744073709551616)(k:Int)(h1:0<=k)(h2:k<=60)(w:ag) :
 aJ prog 245 #[wV W,vI k] w λe w'=>e=.returned (vI (gt W k.toNat 4:Nat))/\Calm w w':=by
 have hl:gt W k.toNat 4<16:=RD W k.toNat 4;obtain⟨g,hg⟩:=ao (gt W k.toNat 4);rw[hg] at hl;have HG:Hid (gt W k.toNat 4=g):=hg;clear hg;go_in;go_wp2_with fail
 refine(FV W hW k 4 _ h1 (by decide) (by omega)).mono ?_;rintro e w1 ⟨rfl,c1⟩;rw[show Int.toNat 4=4 from rfl,HG.out];go_wp2;go_ret;exact⟨by rw[HG.out];rfl,c1⟩
theorem zu(W:Nat)(hW:W<18446744073709551616)(k:Int)(h1:0<=k)(h2:k<=63)(w:ag) :
 aJ prog 246 #[wV W,vI k] w λe w'=>e=.returned (.bool (gt W k.toNat 1==1))/\Calm w w':=by
 have hl:gt W k.toNat 1<2:=RD W k.toNat 1;obtain⟨g,hg⟩:=ao (gt W k.toNat 1);rw[hg] at hl;have HG:Hid (gt W k.toNat 1=g):=hg;clear hg;rcases(by omega:g=0\/g=1) with rfl|rfl
 all_goals
  go_in;go_wp2_with fail
  refine(FV W hW k 1 _ h1 (by decide) (by omega)).mono ?_;rintro e w1 ⟨rfl,c1⟩;rw[show Int.toNat 1=1 from rfl,HG.out];go_wp2;go_ret;exact⟨by rw[HG.out];rfl,c1⟩
theorem ux(n:Int)(h1:1<=n)(h2:n<=131072)(w:ag) :
 aJ prog 252 #[vI n] w λe w'=>e=.returned (.tuple #[wV (n.toNat*4+2),.bool true])/\w=w':=by
 obtain⟨N,rfl⟩:=Int.eq_ofNat_of_zero_le (show 0<=n by omega)
 have he:Hid (bits .or .u64 ((N:Int)*4) 2=((N*4+2:Nat):Int)):=by
  show bits .or .u64 ((N:Int)*4) 2=_;have e:=rF (a:=2) (b:=N) (k:=2) (by decide) (by omega);have c:(N:Int)*4=((N*2^2:Nat):Int):=by omega
  have e2:=u64_or_nat (N*2^2) 2 (by omega) (by decide);rw[c,show(2:Int)=((2:Nat):Int) from rfl,e2,Nat.or_comm];rw[u64_or_nat 2 (N*2^2) (by decide) (by omega)] at e;rw[e];omega
 go_in;go_wp2
 go_ret2
 exact⟨congrArg (λx=>Ending.returned (.tuple #[.int .u64 x,.bool true])) he.out,rfl⟩
theorem Pj(n:Int)(h:n<1\/131072<n)(w:ag) :
 aJ prog 252 #[vI n] w λe w'=>e=.returned (.tuple #[wV 0,.bool false])/\w=w':=by
 rcases(by omega:n<1\/(1<=n/\131072<n)) with h|⟨h,h'⟩
 all_goals
  go_in;go_wp2
  go_ret2
  exact⟨rfl,rfl⟩
theorem pZ(n:Int)(h1:0<=n)(h2:n<=1099511627776)(w:ag) :
 aJ prog 181 #[vI n] w λe w'=>e=.returned (.tuple #[wV (2*n.toNat),.bool true])/\w=w':=by
 obtain⟨N,rfl⟩:=Int.eq_ofNat_of_zero_le h1;go_in;go_wp2
 go_ret2
 exact⟨rfl,rfl⟩
theorem uE(n:Int)(h1:0<=n)(h2:n<8)(w:ag) :
 aJ prog 219 #[vI n] w λe w'=>e=.returned (.tuple #[wV (2*n.toNat+1),.bool true])/\w=w':=by
 obtain⟨N,rfl⟩:=Int.eq_ofNat_of_zero_le h1;go_in;go_wp2
 go_ret2
 exact⟨rfl,rfl⟩
theorem PK(n:Int)(h:n<0\/8<=n)(w:ag) :
 aJ prog 219 #[vI n] w λe w'=>e=.returned (.tuple #[wV 0,.bool false])/\w=w':=by
 rcases(by omega:n<0\/(0<=n/\8<=n)) with h|⟨h,h'⟩
 all_goals
  go_in;go_wp2
  go_ret2
  exact⟨rfl,rfl⟩
theorem Ja(W:Nat)(hW:W<18446744073709551616)(h1:1<=W / 4)(h2:W / 4<=131072)(h3:W % 4=2)(w:ag) :
 aJ prog 259 #[wV W] w λe w'=>e=.returned (.tuple #[vI (W / 4:Nat),.bool true])/\w=w':=by
 have H3:Hid (W % 4=2):=h3;clear h3;go_in;go_wp2_with fail
 refine(ux _ (by omega) (by omega) _).mono ?_;rintro e w' ⟨rfl,rfl⟩;rw[show((W:Int) / 4).toNat*4+2=W from by have:=H3.out;omega];go_wp2
 go_ret2
 exact⟨by simp,rfl⟩
theorem NU(W:Nat)(hW:W<18446744073709551616)(h:W / 4<1\/131072<W / 4\/W % 4≠2)(w:ag) :
 aJ prog 259 #[wV W] w λe w'=>e=.returned (.tuple #[vI 0,.bool false])/\w=w':=by
 by_cases hr:1<=W / 4/\W / 4<=131072
 ·have h3:W % 4≠2:=by omega
  have H3:Hid (W % 4≠2):=h3;clear h3 h;obtain⟨r1,r2⟩:=hr;go_in;go_wp2_with fail
  refine(ux _ (by omega) (by omega) _).mono ?_;rintro e w' ⟨rfl,rfl⟩;obtain⟨V,hV⟩:=ao (((W:Int) / 4).toNat*4+2);have hne:(((V:Nat):Int)==(W:Int))=false:=by have:=H3.out;simp;omega
  have zE:(((V:Nat):Int) != (W:Int))=true:=by have:=H3.out;simp;omega
  rw[hV];clear hV;go_wp2
  go_ret2
  exact⟨rfl,rfl⟩
 ·have H:Hid (W / 4<1\/131072<W / 4):=by show W / 4<1\/131072<W / 4;omega
  clear h hr;go_in;go_wp2_with fail
  refine(Pj _ (by have:=H.out;omega) _).mono ?_;rintro e w' ⟨rfl,rfl⟩;go_wp2
  go_ret2
  exact⟨rfl,rfl⟩
theorem E0(n:Nat)(h:n<8)(w:ag) :
 aJ prog 179 #[wV (2*n+1)] w λe w'=>e=.returned (.tuple #[vI n,vI 0,.bool true])/\w=w':=by
 obtain⟨W,hW⟩:=ao (2*n+1);have hb:W<18446744073709551616:=by omega
 have HW:Hid (2*n+1=W):=hW;rw[hW];clear hW;go_in;go_wp2_with fail
 refine(uE _ (by have:=HW.out;omega) (by have:=HW.out;omega) _).mono ?_;rintro e w' ⟨rfl,rfl⟩;rw[show 2*((W:Int) / 2).toNat+1=W from by have:=HW.out;omega];go_wp2
 go_ret3
 exact⟨congrArg (λx=>Ending.returned (.tuple #[vI x,vI 0,.bool true])) (by have:=HW.out;omega),rfl⟩
theorem EZ(n:Nat)(h:n<=1099511627776)(w:ag) :
 aJ prog 179 #[wV (2*n)] w λe w'=>e=.returned (.tuple #[vI 0,vI n,.bool false])/\w=w':=by
 obtain⟨W,hW⟩:=ao (2*n);have hb:W<18446744073709551616:=by omega
 have HW:Hid (2*n=W):=hW;rw[hW];clear hW
 by_cases h8:n<8
 ·go_in;go_wp2_with fail
  refine(uE _ (by have:=HW.out;omega) (by have:=HW.out;omega) _).mono ?_;rintro e w' ⟨rfl,rfl⟩;rw[show 2*((W:Int) / 2).toNat+1=W+1 from by have:=HW.out;omega];have hne:(((W+1:Nat):Int)==(W:Int))=false:=by simp;omega
  obtain⟨V,hV⟩:=ao (W+1);rw[hV] at hne ⊢;clear hV;go_wp2_with fail
  refine(pZ _ (by have:=HW.out;omega) (by have:=HW.out;omega) _).mono ?_;rintro e w' ⟨rfl,rfl⟩;rw[show 2*((W:Int) / 2).toNat=W from by have:=HW.out;omega];go_wp2
  go_ret3
  exact⟨congrArg (λx=>Ending.returned (.tuple #[vI 0,vI x,.bool false])) (by have:=HW.out;omega),rfl⟩
 ·go_in;go_wp2_with fail
  refine(PK _ (by have:=HW.out;omega) _).mono ?_;rintro e w' ⟨rfl,rfl⟩;go_wp2_with fail
  refine(pZ _ (by have:=HW.out;omega) (by have:=HW.out;omega) _).mono ?_;rintro e w' ⟨rfl,rfl⟩;rw[show 2*((W:Int) / 2).toNat=W from by have:=HW.out;omega];go_wp2
  go_ret3
  exact⟨congrArg (λx=>Ending.returned (.tuple #[vI 0,vI x,.bool false])) (by have:=HW.out;omega),rfl⟩
theorem vO(W:Nat)(hW:W<18446744073709551616)(w:ag)(b1 b2 b3:Bool)(p d:Nat)(hp:gt W 1 4=p)(hd':gt W 5 4=d)(h1:(gt W 9 1==1)=b1)(h2:(gt W 10 1==1)=b2)(h3:(gt W 11 1==1)=b3)
 (bU:sV p d b1 b2) (e:hd p d b1 b2 b3=W) :
 aJ prog 216 #[wV W] w λe w'=>e=.returned (.tuple #[mz p d b1 b2,.bool b3,.bool true])/\Calm w w':=by
 have HE:Hid (hd p d b1 b2 b3=W):=e;have HO:Hid (sV p d b1 b2):=bU;clear e bU;have HP:Hid (gt W 1 4=p):=hp;have HD:Hid (gt W 5 4=d):=hd';have H1:Hid ((gt W 9 1==1)=b1):=h1;have H2:Hid ((gt W 10 1==1)=b2):=h2;have H3:Hid ((gt W 11 1==1)=b3):=h3;clear hp hd' h1 h2 h3;go_in;go_wp2_with fail
 refine(xL W hW 1 (by decide) (by decide) _).mono ?_;rintro e w1 ⟨rfl,c1⟩;rw[show Int.toNat 1=1 from rfl,HP.out];go_wp2_with fail
 refine(xL W hW 5 (by decide) (by decide) _).mono ?_;rintro e w2 ⟨rfl,c2⟩;rw[show Int.toNat 5=5 from rfl,HD.out];go_wp2_with fail
 refine(zu W hW 9 (by decide) (by decide) _).mono ?_;rintro e w3 ⟨rfl,c3⟩;rw[show Int.toNat 9=9 from rfl,H1.out];go_wp2_with fail
 refine(zu W hW 10 (by decide) (by decide) _).mono ?_;rintro e w4 ⟨rfl,c4⟩;rw[show Int.toNat 10=10 from rfl,H2.out];have Ay:=((c1.trans c2).trans c3).trans c4;have o0:=(Own.new w #[vI 0,vI 0,.bool false,.bool false] 179 0 rfl).fr Ay id;have o1:=(Own.new w #[vI 0,vI 0,.bool false,.bool false] 179 1 rfl).fr Ay id;have o2:=(Own.new w #[vI 0,vI 0,.bool false,.bool false] 179 2 rfl).fr Ay id;have o3:=(Own.new w #[vI 0,vI 0,.bool false,.bool false] 179 3 rfl).fr Ay id;have c04:Calm w w4:=(Fr.alloc (Fr.refl _ w) _).trans Ay;clear c1 c2 c3 c4 Ay;obtain⟨B,hB⟩:=ao w.heap.size;have hBl:Hid (w.heap.size=B):=hB;rw[hB] at o0 o1 o2 o3 ⊢;clear hB;have x0:=o0.1;have x1:=o1.1;have x2:=o2.1;have x3:=o3.1;have y0:=o0.2;have y1:=o1.2;have y2:=o2.2;have y3:=o3.2;go_wp2_with fail
 clear x0 x1 x2 x3 y0 y1 y2 y3;obtain⟨s0,s1,s2,s3,sf⟩:=CO o0 o1 o2 o3 (vI p) (vI d) (.bool b1) (.bool b2);obtain⟨w5,hw5⟩:=ao (((((w4.setCell ⟨B,0,none⟩ (vI p)).setCell ⟨B,1,none⟩ (vI d)).setCell ⟨B,2,none⟩ (.bool b1)).setCell ⟨B,3,none⟩ (.bool b2)));rw[hw5] at s0 s1 s2 s3 sf ⊢;clear hw5 o0 o1 o2 o3;have c05:Calm w w5:=c04.join sf (by have:=hBl.out;intro k h1 h2;omega);clear c04 sf;refine(zu W hW 11 (by decide) (by decide) _).mono ?_;rintro e w6 ⟨rfl,c6⟩;rw[show Int.toNat 11=11 from rfl,H3.out];have N0:=c05.trans c6;replace s0:=s0.fr c6 id;replace s1:=s1.fr c6 id;replace s2:=s2.fr c6 id;replace s3:=s3.fr c6 id;clear c05 c6;have x0:=s0.1;have x1:=s1.1;have x2:=s2.1;have x3:=s3.1;go_wp2_with fail
 clear x0 x1 x2 x3;refine(uD p d b1 b2 b3 HO.out _).mono ?_;rintro e w7 ⟨rfl,c7⟩;rw[HE.out];have c07:=N0.trans c7;replace s0:=s0.fr c7 id;replace s1:=s1.fr c7 id;replace s2:=s2.fr c7 id;replace s3:=s3.fr c7 id;clear N0 c7;have x0:=s0.1;have x1:=s1.1;have x2:=s2.1;have x3:=s3.1;have y0:=s0.2;have y1:=s1.2;have y2:=s2.2;have y3:=s3.2;have hne:((W:Int) != (W:Int))=false:=by simp
 go_wp2;obtain⟨t0,t1,t2,t3,tf⟩:=CO s0 s1 s2 s3 (vI p) (vI d) (.bool b1) (.bool b2);have c08:Calm w _:=c07.join tf (by have:=hBl.out;intro k h1 h2;omega);refine bodyPost_ret (v:=.tuple #[mz p d b1 b2,.bool b3,.bool true]) ?_ rfl ⟨rfl,c08⟩;simp[results,Tryz.f216,go_sem,t0.1,t1.1,t2.1,t3.1]
theorem IU(p d:Nat)(wk fn fr:Bool)(h:sV p d wk fn)(w:ag) :
 aJ prog 216 #[wV (hd p d wk fn fr)] w λe w'=>e=.returned (.tuple #[mz p d wk fn,.bool fr,.bool true])/\Calm w w':=by
 obtain⟨a1,a2,a3,a4,a5⟩:=YK (fr:=fr) h;have:=RT (fr:=fr) h;exact vO _ (by omega) w wk fn fr p d a1 a2 (DR a3) (DR a4) (DR a5) h rfl
def Whole(w:ag)(c:Nat)(vs:List aA):Prop:=∃t,w.heap[c]?=some (.cells vs.toArray t (0,0))
theorem Whole.own{w:ag}{c:Nat}{vs:List aA}(h:Whole w c vs):af w c vs:=by
 obtain⟨t,hg⟩:=h;intro i v hv;exact⟨by simp[World.cell?,hg,hv],by simp[World.frozen?,hg]⟩
theorem Whole.fr{S:Nat->Prop}{w w':ag}{c:Nat}{vs:List aA}(h:Whole w c vs)(f:Fr S w w')(hs:¬S c):Whole w' c vs:=by
 obtain⟨t,hg⟩:=h;exact⟨t,f.gT hg hs⟩
theorem Whole.set{w:ag}{c:Nat}{vs:List aA}(h:Whole w c vs)(k:Nat)(u:aA):Whole (w.setCell ⟨c,k,none⟩ u) c (vs.set k u):=by
 obtain⟨t,hg⟩:=h;exact⟨t,by rw[heap_setCell_same _ _ _ _ _ _ hg];simp⟩
def Ar(w:ag)(p c:Nat)(xs:aj):Prop:=
 Own w p 0 (.slice (some ⟨c,0,none⟩) xs.length xs.length)/\Whole w c (xs.map wV)/\p≠c/\xs.length<=65536
abbrev eL(p:Nat):aA:=bw p
theorem Ar.fr{S:Nat->Prop}{w w':ag}{p c:Nat}{xs:aj}(h:Ar w p c xs)(f:Fr S w w')(hp:¬S p)(hc:¬S c):Ar w' p c xs:=
 ⟨h.1.fr f hp,h.2.1.fr f hc,h.2.2⟩
theorem Ar.calm{w w':ag}{p c:Nat}{xs:aj}(h:Ar w p c xs)(f:Calm w w'):Ar w' p c xs:=h.fr f id id
theorem Ar.cell{w:ag}{p c:Nat}{xs:aj}(h:Ar w p c xs){k:Nat}(hk:k<xs.length):Own w c k (wV (xs.getD k 0)):=
 h.2.1.own k _ (by simp[List.getD,hk])
theorem Ar.set{w:ag}{p c:Nat}{xs:aj}(h:Ar w p c xs){k:Nat}(hk:k<xs.length)(v:Nat):Ar (w.setCell ⟨c,k,none⟩ (wV v)) p c (xs.set k v):=by
 obtain⟨h1,h2,h3,h4⟩:=h;refine⟨?_,?_,h3,by simpa using h4⟩
 ·rw[bN];exact h1.gL _ _ (λe=>h3 e.symm)
 ·have:=h2.set k (wV v)
  rwa [<-List.map_set] at this
theorem Ar.lt{w:ag}{p c:Nat}{xs:aj}(h:Ar w p c xs):p<w.heap.size:=h.1.lt
theorem rC(w:ag)(p c:Nat)(xs:aj)(h:Ar w p c xs) :
 aJ prog 217 #[eL p] w λe w'=>e=.returned (vI xs.length)/\w'=w:=by
 obtain⟨h1,_,_,h4⟩:=h;have b1:=h1.1;go_in;go_wp2;go_ret;exact⟨rfl,rfl⟩
theorem jh(w:ag)(p c:Nat)(xs:aj)(h:Ar w p c xs)(k:Nat)(hk:k<xs.length) :
 aJ prog 167 #[eL p,vI k] w λe w'=>e=.returned (.tuple #[wV (xs.getD k 0),vI 0])/\w'=w:=by
 have b1:=h.1.1;have b2:=(h.cell hk).1;have h4:=h.2.2.2;generalize xs.getD k 0=x at *;have HA:=hid h;clear h;go_in;go_wp2_with fail
 refine(rC _ p c xs HA.out).mono ?_;rintro e w' ⟨rfl,rfl⟩;go_wp2;exact bodyPost_ret (v:=.tuple #[wV x,vI 0]) (by simp[results,Tryz.f167,go_sem]) rfl ⟨rfl,rfl⟩
theorem lO(w:ag)(p c:Nat)(xs:aj)(h:Ar w p c xs)(k:Nat)(hk:k<xs.length)(v:Nat) :
 aJ prog 249 #[eL p,vI k,wV v] w λe w'=>e=.returned (vI 0)/\w'=w.setCell ⟨c,k,none⟩ (wV v):=by
 have b1:=h.1.1;have b2:=(h.cell hk).1;have b3:=(h.cell hk).2;have h4:=h.2.2.2;generalize xs.getD k 0=x at *;have HA:=hid h;clear h;go_in;go_wp2_with fail
 refine(rC _ p c xs HA.out).mono ?_;rintro e w' ⟨rfl,rfl⟩;go_wp2;go_ret;exact⟨rfl,rfl⟩
theorem np(w:ag)(p c:Nat)(xs:aj)(h:Ar w p c xs)(at_ n:Nat)(hn:at_+n<=xs.length) :
 aJ prog 258 #[eL p,vI at_,vI n] w λe w'=>e=.returned (.bool true)/\w'=w:=by
 have HA:=hid h;have h4:=h.2.2.2;have h5:(at_:Int)<=xs.length:=by omega
 have h6:(n:Int)<=xs.length-at_:=by omega
 clear h;go_in;go_wp2_with fail
 refine(rC _ p c xs HA.out).mono ?_;rintro e w' ⟨rfl,rfl⟩;go_wp2_with fail
 refine(rC _ p c xs HA.out).mono ?_;rintro e w' ⟨rfl,rfl⟩;go_wp2;go_ret;exact⟨rfl,rfl⟩
def fl(xs:aj)(at_ v:Nat):Nat->aj
 | 0=>xs
 | k+1=>(fl xs at_ v k).set (at_+k) v
theorem jJ(xs:aj)(at_ v:Nat):∀n,(fl xs at_ v n).length=xs.length
 | 0=>rfl
 | n+1=>by simp[fl,jJ xs at_ v n]
theorem FQ(xs:aj)(at_ v j:Nat):∀n,at_+n<=xs.length->(fl xs at_ v n).getD j 0=if at_<=j/\j<at_+n then v else xs.getD j 0
 | 0,_=>by rw[if_neg (by omega)];rfl
 | n+1,h=>by
   have ih:=FQ xs at_ v j n (by omega);have hl:=jJ xs at_ v n;simp only[fl,List.getD,List.getElem?_set,hl] at ih ⊢
   by_cases hj:at_+n=j
   ·subst hj;rw[if_pos rfl,if_pos (by omega),if_pos (by omega)];rfl
   ·rw[if_neg hj,ih]
    by_cases h2:at_<=j/\j<at_+n
    ·rw[if_pos h2,if_pos (by omega)]
    ·rw[if_neg h2,if_neg (by omega)]
theorem Kj(w:ag)(p c:Nat)(xs:aj)(h:Ar w p c xs)(at_ n v:Nat)(hn:at_+n<=xs.length) :
 aJ prog 248 #[eL p,vI at_,vI n,wV v] w λe w'=>e=.returned (vI 0)/\Ar w' p c (fl xs at_ v n)/\Fr (λb=>b=c) w w':=by
 have HA:=hid h;have h4:=h.2.2.2;go_in;go_wp2_with fail
 refine(np _ p c xs HA.out at_ n hn).mono ?_;rintro e w' ⟨rfl,rfl⟩;clear h;go_wp2_with fail
 go_loopw [16] (λi wr=>∃k:Nat,k<=n/\i=vI k/\Hid (Ar wr p c (fl xs at_ v k))/\Fr (λb=>b=c) w' wr) (λi _=>n-(intOf i).toNat)
 case atStart=>exact⟨0,by omega,rfl,HA,ah⟩
 case round=>
  obtain⟨k,hk,rfl,ha,oX⟩:=hrel;rcases fB k n with aM|ic
  ·have hl:=jJ xs at_ v k;have b1:=ha.out.1.1;have b2:=(ha.out.cell (k:=at_+k) (by omega)).1;have b3:=(ha.out.cell (k:=at_+k) (by omega)).2;have hs:Hid (Ar (wr.setCell ⟨c,at_+k,none⟩ (wV v)) p c (fl xs at_ v (k+1))):=ha.out.set (k:=at_+k) (by omega) v;rw[hl] at b1;generalize (fl xs at_ v k).getD (at_+k) 0=x at *;replace hl:=hid hl;clear HA;go_wp2
   go_roundw
   case rel=>exact⟨k+1,by omega,by go_num,hs,oX.setCell (.inl rfl) _⟩
   case measure=>simp[intOf];omega
  ·obtain rfl:k=n:=by omega
   clear HA;go_wp2;go_ret;exact⟨rfl,ha.out,oX⟩
theorem VQ:(prog.info? 252).map (λi=>(i.zero,i.size,i.bytes))=some (some (.int .u64 0),1,8):=by kernel_rfl
theorem EY{w:ag}{base:Nat}{e:TypeId}{g n cap:Nat}{xs:List aA}(h:w.ownsRow base e 1 (.slice (some ⟨g,0,none⟩) n cap) n xs):af w g xs:=by
 obtain⟨hl,h⟩:=h;rcases h with ⟨h,_⟩|⟨g',Yp,cur,hv,_,hg,hn,_,kv,hx⟩
 ·cases h
 ·cases hv;intro i v hv;have hi:i<xs.length:=(List.getElem?_eq_some_iff.1 hv).1
  have h2:cur[i]?=some v:=by
   rw[<-Array.getElem?_toList,<-hv,<-hx,List.getElem?_take,if_pos (by omega)]
  have nK:i<cur.size:=(sY.1 h2).1;refine⟨by simp[World.cell?,hg,h2],by simp[World.frozen?,hg]⟩
theorem Aq{w:ag}{base:Nat}{e:TypeId}{g n:Nat}{xs:List aA}(h:w.ownsRow base e 1 (.slice (some ⟨g,0,none⟩) n n) n xs):Whole w g xs:=by
 obtain⟨hl,h⟩:=h;rcases h with ⟨h,_⟩|⟨g',Yp,cur,hv,_,hg,hn,_,kv,hx⟩
 ·cases h
 ·cases hv
  have:cur=xs.toArray:=by
   rw[<-hx,Nat.mul_one,List.take_of_length_le (by simp;omega)]
  exact⟨e,by rw[hg,this]⟩
theorem Qq(n:Nat):(madeCells (Value.int .u64 0).cells (n*1)).toList=(List.replicate n 0).map wV:=by
 rw[Nat.mul_one];apply List.ext_getElem
 ·simp[madeCells]
 ·intro i h1 h2;simp[madeCells,Value.cells,Nat.mod_one]
theorem Qn(w:ag)(n:Nat)(h1:1<=n)(h2:n<=65536) :
 aJ prog 58 #[vI n] w λe w'=>∃p c,e=.returned (.tuple #[eL p,vI 0])/\Ar w' p c (List.replicate n 0)/\Calm w w'/\w.heap.size<=p/\w.heap.size<=c:=by
 obtain⟨i0,hi,iR,iT,jm⟩:=info_parts VQ;go_in;go_wp2_with (at_make;(refine wpList_make_full _ rfl _ _ 200 rfl w.heap.size 252 i0 (.int .u64 0) 1 Tryz.underlying200 hi iR iT .i64 .i64 n n n rfl rfl rfl rfl (by rw[jm];omega) (by unfold maxLen;omega) (aD _) ?_;intro w3 bS eK;rw[Qq] at bS;have c3:Hid (Calm w w3):=Fr.grown ah eK (λk hk=>by cases hk);have OL:=hid (Aq bS);have LT:=hid ((EY bS) 0 (wV 0) (by simp[show 0<n by omega])).lt;clear bS eK))
 have lt:=LT.out;refine bodyPost_ret (v:=.tuple #[eL w3.heap.size,vI 0]) (by simp[results,Tryz.f58,go_sem]) rfl ⟨w3.heap.size,w.heap.size,rfl,⟨?_,OL.out.fr (Fr.alloc (Fr.refl (λ_=>False) _) _) id,by omega,by simpa using h2⟩,c3.out.alloc _,by omega,aD _⟩;rw[List.length_replicate];exact Own.new _ _ _ 0 rfl
section
structure iN(xs:aj)(at_ p d:Nat)(wk fn fr:Bool):Prop where
 ok:sV p d wk fn
 room:at_+(3+p+d)<=xs.length
 head:xs.getD at_ 0=hd p d wk fn fr
theorem eZ(w:ag)(b c:Nat)(xs:aj)(h:Ar w b c xs)(at_ p d:Nat)(wk fn fr:Bool)(ho:iN xs at_ p d wk fn fr) :
 aJ prog 165 #[eL b,vI at_] w λe w'=>e=.returned (.tuple #[mz p d wk fn,.bool fr,vI 0])/\Calm w w':=by
 obtain⟨h1,h2,h3⟩:=ho;have HA:=hid h;have h4:=h.2.2.2;have p8:=h1.1;have d8:=h1.2.1;replace h1:=hid h1;go_in;go_wp2_with fail
 refine(jh _ b c xs (h.calm (Fr.alloc ah _)) at_ (by omega)).mono ?_;rintro e w1 ⟨rfl,rfl⟩;rw[h3];clear h;have o1:=af.new w [vI 0,vI 0,.bool false,.bool false] 179;have k1:Calm w (w.alloc (.cells #[vI 0,vI 0,.bool false,.bool false] 179)):=Fr.alloc ah _;go_wp2_with fail
 refine(IU p d wk fn fr h1.out _).mono ?_;rintro e w2 ⟨rfl,c2⟩;replace o1:=o1.calm c2;replace k1:=k1.trans c2;obtain⟨b0,b1,b2,b3⟩:=af.Bh o1;have f0:=(o1 0 _ rfl).2;have f1:=(o1 1 _ rfl).2;have f2:=(o1 2 _ rfl).2;have f3:=(o1 3 _ rfl).2;clear c2;go_wp2_with fail
 have o2:=o1.xt (vI p) (vI d) (.bool wk) (.bool fn);replace k1:Calm w _:=k1.join o2.2 (by intros;omega);obtain⟨W',hW'⟩:=ao (((((w2.setCell ⟨w.heap.size,0,none⟩ (vI p)).setCell ⟨w.heap.size,1,none⟩ (vI d)).setCell ⟨w.heap.size,2,none⟩ (.bool wk)).setCell ⟨w.heap.size,3,none⟩ (.bool fn)));rw[hW'] at o2 k1 ⊢;clear b0 b1 b2 b3 f0 f1 f2 f3 o1 hW';obtain⟨o1,-⟩:=o2;refine(jY p d wk fn h1.out _).mono ?_;rintro e w3 ⟨rfl,c3⟩;replace o1:=o1.calm c3;replace k1:=k1.trans c3;clear c3;obtain⟨b0,b1,b2,b3⟩:=af.Bh o1;have f0:=(o1 0 _ rfl).2;have f1:=(o1 1 _ rfl).2;have f2:=(o1 2 _ rfl).2;have f3:=(o1 3 _ rfl).2;go_wp2_with fail
 refine(rC _ b c xs (HA.out.calm k1)).mono ?_;rintro e w4 ⟨rfl,rfl⟩;have h5:¬((3:Int)+p+d>xs.length-at_):=by omega
 go_wp2;have o3:=o1.xt (vI p) (vI d) (.bool wk) (.bool fn);obtain⟨u0,u1,u2,u3⟩:=af.Bh o3.1;have k2:Calm w _:=k1.join o3.2 (by intros;omega);clear b0 b1 b2 b3 f0 f1 f2 f3 o1 o3;refine bodyPost_ret (v:=.tuple #[mz p d wk fn,.bool fr,vI 0]) (by simp[results,Tryz.f165,go_sem,u0,u1,u2,u3]) rfl ⟨rfl,k2⟩
theorem Me(p d:Int)(wk fn:Bool)(at_ i:Int)(w:ag)(h1:0<=i)(h2:i<p)(h3:0<=at_)(h4:at_<=1000000)(h5:p<=8) :
 aJ prog 227 #[mz p d wk fn,vI at_,vI i] w λe w'=>e=.returned (.tuple #[vI (at_+3+i),vI 0])/\Calm w w':=by
 go_in;go_wp2
 go_ret2
 exact⟨rfl,Fr.alloc ah _⟩
theorem Qv(p d:Int)(wk fn:Bool)(at_ i:Int)(w:ag)(h:i<0\/p<=i) :
 aJ prog 227 #[mz p d wk fn,vI at_,vI i] w λe w'=>e=.returned (.tuple #[vI 0,vI 71])/\Calm w w':=by
 by_cases hn:i<0
 all_goals
  go_in;go_wp2
  go_ret2
  exact⟨rfl,Fr.alloc ah _⟩
theorem Md(p d:Int)(wk fn:Bool)(at_ i:Int)(w:ag)(h1:0<=i)(h2:i<d)(h3:0<=at_)(h4:at_<=1000000)(h5:d<=8)(h6:0<=p)(h7:p<=8) :
 aJ prog 232 #[mz p d wk fn,vI at_,vI i] w λe w'=>e=.returned (.tuple #[vI (at_+3+p+i),vI 0])/\Calm w w':=by
 go_in;go_wp2
 go_ret2
 exact⟨rfl,Fr.alloc ah _⟩
theorem Qu(p d:Int)(wk fn:Bool)(at_ i:Int)(w:ag)(h:i<0\/d<=i) :
 aJ prog 232 #[mz p d wk fn,vI at_,vI i] w λe w'=>e=.returned (.tuple #[vI 0,vI 71])/\Calm w w':=by
 by_cases hn:i<0
 all_goals
  go_in;go_wp2
  go_ret2
  exact⟨rfl,Fr.alloc ah _⟩
end
section
def made(xs:aj)(at_ p d:Nat)(wk fn:Bool)(ser:Nat):aj:=
 (((fl xs at_ 0 (3+p+d)).set at_ (hd p d wk fn false)).set (at_+1) 0).set (at_+2) ser
theorem yw(w:ag)(b c:Nat)(xs:aj)(h:Ar w b c xs)(at_ p d:Nat)(wk fn:Bool)(ser:Nat)(bU:sV p d wk fn)(lG:at_+(3+p+d)<=xs.length)(hs:ser<=1099511627776) :
 aJ prog 224 #[eL b,vI at_,mz p d wk fn,vI ser] w λe w'=>e=.returned (vI 0)/\Ar w' b c (made xs at_ p d wk fn ser)/\Fr (λk=>k=c) w w':=by
 have h4:=h.2.2.2;have p8:=bU.1;have d8:=bU.2.1;have HA:=hid h;have k_:c<w.heap.size:=(h.cell (k:=at_) (by omega)).lt;clear h;have jD:=hid bU;clear bU;go_in;have o1:=af.new w [vI p,vI d,.bool wk,.bool fn] 179;have k1:Calm w (w.alloc (.cells #[vI p,vI d,.bool wk,.bool fn] 179)):=Fr.alloc ah _;go_wp2_with fail
 refine(jY p d wk fn jD.out _).mono ?_;rintro e w1 ⟨rfl,c1⟩;replace o1:=o1.calm c1;replace k1:=k1.trans c1;clear c1;go_wp2_with fail
 have mo:(3:Int)+p+d=((3+p+d:Nat):Int):=by push_cast;rfl
 rw[mo];refine(Kj w1 b c xs (HA.out.calm k1) at_ (3+p+d) 0 lG).mono ?_;rintro e w2 ⟨rfl,ha,f2⟩;replace o1:=o1.fr f2 (by omega);have k2:Fr (λk=>k=c) w w2:=(Calm.any k1).trans f2;obtain⟨b0,b1,b2,b3⟩:=af.Bh o1;replace ha:=hid ha;replace mo:=hid mo;clear k1 f2;go_wp2_with fail
 refine(uD p d wk fn false jD.out _).mono ?_;rintro e w3 ⟨rfl,c3⟩;replace ha:=hid (ha.out.calm c3);replace k2:=k2.join c3 (λ_ _ h=>h.elim);clear c3 b0 b1 b2 b3 o1;have hl:=jJ xs at_ 0 (3+p+d);go_wp2_with fail
 refine(pZ 0 (by decide) (by decide) _).mono ?_;rintro e w4 ⟨rfl,rfl⟩;go_wp2_with fail
 refine(lO _ b c _ ha.out at_ (by omega) (hd p d wk fn false)).mono ?_;rintro e w5 ⟨rfl,rfl⟩;have a1:=hid (ha.out.set (k:=at_) (by omega) (hd p d wk fn false));have k3:=k2.setCell (p:=⟨c,at_,none⟩) (.inl rfl) (wV (hd p d wk fn false));go_wp2_with fail
 have dN:((at_:Int)+1)=((at_+1:Nat):Int):=by push_cast;rfl
 rw[dN];have qI:((fl xs at_ 0 (3+p+d)).set at_ (hd p d wk fn false)).length=xs.length:=by rw[bN,hl]
 refine(lO _ b c _ a1.out (at_+1) (by omega) 0).mono ?_;rintro e w6 ⟨rfl,rfl⟩;have a2:=hid (a1.out.set (k:=at_+1) (by omega) 0);have k4:=k3.setCell (p:=⟨c,at_+1,none⟩) (.inl rfl) (wV 0);clear k2 k3 a1 ha hl;replace dN:=hid dN;replace qI:=hid qI;go_wp2_with fail
 have dJ:((at_:Int)+2)=((at_+2:Nat):Int):=by push_cast;rfl
 rw[dJ];have kT:(((fl xs at_ 0 (3+p+d)).set at_ (hd p d wk fn false)).set (at_+1) 0).length=xs.length:=by rw[bN,qI.out]
 refine(lO _ b c _ a2.out (at_+2) (by omega) ser).mono ?_;rintro e w7 ⟨rfl,rfl⟩;have a3:=hid (a2.out.set (k:=at_+2) (by omega) ser);have k5:=k4.setCell (p:=⟨c,at_+2,none⟩) (.inl rfl) (wV ser);replace dJ:=hid dJ;replace kT:=hid kT;go_wp2;go_ret;exact⟨rfl,a3.out,k5⟩
end
section
structure Ob where
 p:Nat
 d:Nat
 wk:Bool
 fn:Bool
 fr:Bool
 snd:Nat
 ser:Nat
 ps:aj
 ns:aj
def Ob.ws(o:Ob):aj:=hd o.p o.d o.wk o.fn o.fr::o.snd::o.ser::(o.ps++o.ns)
def Ob.size(o:Ob):Nat:=3+o.p+o.d
structure Ob.Ok(o:Ob):Prop where
 sh:sV o.p o.d o.wk o.fn
 lp:o.ps.length=o.p
 ln:o.ns.length=o.d
 ser:o.ser<=1099511627776
 ps:∀x∈o.ps,x<=131072
 ns:∀x∈o.ns,x<18446744073709551616
structure At(xs:aj)(a:Nat)(o:Ob):Prop where
 ok:o.Ok
 room:a+o.size<=xs.length
 word:∀i,i<o.size->xs.getD (a+i) 0=o.ws.getD i 0
theorem At.isObj{xs:aj}{a:Nat}{o:Ob}(h:At xs a o):iN xs a o.p o.d o.wk o.fn o.fr:=
 ⟨h.ok.sh,by have:=h.room;simp only[Ob.size] at this;omega,by simpa[Ob.ws] using h.word 0 (by simp[Ob.size];omega)⟩
theorem At.snd{xs:aj}{a:Nat}{o:Ob}(h:At xs a o):xs.getD (a+1) 0=o.snd:=by
 simpa[Ob.ws] using h.word 1 (by simp[Ob.size];omega)
theorem At.ser{xs:aj}{a:Nat}{o:Ob}(h:At xs a o):xs.getD (a+2) 0=o.ser:=by
 simpa[Ob.ws] using h.word 2 (by simp[Ob.size];omega)
theorem Ob.Wx{o:Ob}(h:o.Ok){i:Nat}(hi:i<o.p):o.ws.getD (3+i) 0=o.ps.getD i 0:=by
 have hl:=h.lp;rw[Nat.add_comm 3 i];simp[Ob.ws,List.getD,List.getElem?_append,show i<o.ps.length by omega]
theorem Ob.Ww{o:Ob}(h:o.Ok){i:Nat}(hi:i<o.d):o.ws.getD (3+o.p+i) 0=o.ns.getD i 0:=by
 have hl:=h.lp;rw[show 3+o.p+i=(o.p+i)+3 by omega];simp[Ob.ws,List.getD,List.getElem?_append,show ¬o.p+i<o.ps.length by omega,show o.p+i-o.ps.length=i by omega]
theorem At.ptr{xs:aj}{a:Nat}{o:Ob}(h:At xs a o){i:Nat}(hi:i<o.p):xs.getD (a+3+i) 0=o.ps.getD i 0:=by
 have:=h.word (3+i) (by simp only[Ob.size];omega);rw[Ob.Wx h.ok hi] at this
 rwa [<-Nat.add_assoc] at this
theorem At.num{xs:aj}{a:Nat}{o:Ob}(h:At xs a o){i:Nat}(hi:i<o.d):xs.getD (a+3+o.p+i) 0=o.ns.getD i 0:=by
 have:=h.word (3+o.p+i) (by simp only[Ob.size];omega);rw[Ob.Ww h.ok hi] at this
 rwa [show a+(3+o.p+i)=a+3+o.p+i by omega] at this
theorem Ob.Ok.ptr{o:Ob}(h:o.Ok){i:Nat}(hi:i<o.p):o.ps.getD i 0<=131072:=by
 have hl:=h.lp;have oY:i<o.ps.length:=by omega
 simpa[List.getD,oY] using h.ps o.ps[i] (List.getElem_mem _)
theorem Ob.Ok.num{o:Ob}(h:o.Ok){i:Nat}(hi:i<o.d):o.ns.getD i 0<18446744073709551616:=by
 have hl:=h.ln;have oY:i<o.ns.length:=by omega
 simpa[List.getD,oY] using h.ns o.ns[i] (List.getElem_mem _)
theorem dr(xs:aj)(i j v:Nat):(xs.set i v).getD j 0=if i=j/\i<xs.length then v else xs.getD j 0:=by
 simp only[List.getD,List.getElem?_set]
 by_cases h:i=j
 ·subst h
  by_cases h2:i<xs.length
  ·simp[h2]
  ·simp[h2]
 ·simp[h]
theorem At.of_eq{xs ys:aj}{a b:Nat}{o:Ob}(h:At xs a o)(hl:b+o.size<=ys.length)(he:∀i,i<o.size->ys.getD (b+i) 0=xs.getD (a+i) 0):At ys b o:=
 ⟨h.ok,hl,λi hi=>(he i hi).trans (h.word i hi)⟩
theorem At.MP{xs:aj}{a:Nat}{o:Ob}(h:At xs a o){i v:Nat}(hi:i<o.p)(hv:v<=131072):At (xs.set (a+3+i) v) a { o with ps:=o.ps.set i v }:=by
 have hl:=h.ok.lp;have Jq:=h.ok.ln;have hr:=h.room;refine⟨⟨h.ok.sh,by simpa using hl,Jq,h.ok.ser,λx hx=>?_,h.ok.ns⟩,by rw[bN];exact hr,λj hj=>?_⟩
 ·rcases List.mem_or_eq_of_mem_set hx with hx|rfl
  ·exact h.ok.ps x hx
  ·exact hv
 ·have BT:j<o.size:=hj;have hw:=h.word j BT;simp only[Ob.size] at hr BT;rw[dr]
  by_cases UY:3+i=j
  ·subst UY;rw[if_pos (by omega)];have e:3+i=i+1+1+1:=by omega
   rw[e];simp[Ob.ws,List.getD,List.getElem?_append,show i<o.ps.length by omega]
  ·rw[if_neg (by omega),hw]
   match j,UY with
   | 0,_=>simp[Ob.ws]
   | 1,_=>simp[Ob.ws]
   | 2,_=>simp[Ob.ws]
   | j+3,UY=>
     simp only[Ob.ws,List.getD,List.getElem?_cons_succ,List.getElem?_append,bN,List.getElem?_set]
     by_cases h1:j<o.ps.length
     ·rw[if_pos h1,if_pos h1,if_neg (by omega)]
     ·rw[if_neg h1,if_neg h1]
theorem At.Wm{xs:aj}{a:Nat}{o:Ob}(h:At xs a o){i v:Nat}(hi:i<o.d)(hv:v<18446744073709551616):At (xs.set (a+3+o.p+i) v) a { o with ns:=o.ns.set i v }:=by
 have hl:=h.ok.lp;have Jq:=h.ok.ln;have hr:=h.room;refine⟨⟨h.ok.sh,hl,by simpa using Jq,h.ok.ser,h.ok.ps,λx hx=>?_⟩,by rw[bN];exact hr,λj hj=>?_⟩
 ·rcases List.mem_or_eq_of_mem_set hx with hx|rfl
  ·exact h.ok.ns x hx
  ·exact hv
 ·have BT:j<o.size:=hj;have hw:=h.word j BT;simp only[Ob.size] at hr BT;rw[dr]
  by_cases UY:3+o.p+i=j
  ·subst UY;rw[if_pos (by omega)];have e:3+o.p+i=(o.p+i)+1+1+1:=by omega
   rw[e];simp[Ob.ws,List.getD,List.getElem?_append,show ¬o.p+i<o.ps.length by omega,show o.p+i-o.ps.length=i by omega,show i<o.ns.length by omega]
  ·rw[if_neg (by omega),hw]
   match j,UY with
   | 0,_=>simp[Ob.ws]
   | 1,_=>simp[Ob.ws]
   | 2,_=>simp[Ob.ws]
   | j+3,UY=>
     simp only[Ob.ws,List.getD,List.getElem?_cons_succ,List.getElem?_append,bN,List.getElem?_set]
     by_cases h1:j<o.ps.length
     ·rw[if_pos h1,if_pos h1]
     ·rw[if_neg h1,if_neg h1,if_neg (by omega)]
theorem At.QM{xs:aj}{a:Nat}{o:Ob}(h:At xs a o)(Bp:Bool):At (xs.set a (hd o.p o.d o.wk o.fn Bp)) a { o with fr:=Bp }:=by
 have hr:=h.room;refine⟨⟨h.ok.sh,h.ok.lp,h.ok.ln,h.ok.ser,h.ok.ps,h.ok.ns⟩,by rw[bN];exact hr,λj hj=>?_⟩;have BT:j<o.size:=hj;have hw:=h.word j BT;rw[dr];simp only[Ob.size] at hr
 match j with
 | 0=>rw[if_pos (by omega)];simp[Ob.ws]
 | j+1=>rw[if_neg (by omega),hw];simp[Ob.ws]
theorem At.Wn{xs:aj}{a:Nat}{o:Ob}(h:At xs a o)(v:Nat):At (xs.set (a+1) v) a { o with snd:=v }:=by
 have hr:=h.room;refine⟨⟨h.ok.sh,h.ok.lp,h.ok.ln,h.ok.ser,h.ok.ps,h.ok.ns⟩,by rw[bN];exact hr,λj hj=>?_⟩;have BT:j<o.size:=hj;have hw:=h.word j BT;rw[dr];simp only[Ob.size] at hr
 match j with
 | 0=>rw[if_neg (by omega),hw];simp[Ob.ws]
 | 1=>rw[if_pos (by omega)];simp[Ob.ws]
 | j+2=>rw[if_neg (by omega),hw];simp[Ob.ws]
def Ob.new(p d:Nat)(wk fn:Bool)(ser:Nat):Ob:=⟨p,d,wk,fn,false,0,ser,List.replicate p 0,List.replicate d 0⟩
theorem Ob.EP{p d:Nat}{wk fn:Bool}{ser:Nat}(h:sV p d wk fn)(hs:ser<=1099511627776):(Ob.new p d wk fn ser).Ok:=
 ⟨h,by simp[Ob.new],by simp[Ob.new],hs,λx hx=>by simp[Ob.new] at hx;omega,λx hx=>by simp[Ob.new] at hx;omega⟩
theorem si(xs:aj)(a p d:Nat)(wk fn:Bool)(ser:Nat):(made xs a p d wk fn ser).length=xs.length:=by
 simp[made,jJ]
theorem yl{xs:aj}{a p d:Nat}{wk fn:Bool}{ser:Nat}(hr:a+(3+p+d)<=xs.length)(j:Nat) :
 (made xs a p d wk fn ser).getD j 0=if j=a then hd p d wk fn false else if j=a+2 then ser else if a<=j/\j<a+(3+p+d) then 0 else xs.getD j 0:=by
 have hl:(fl xs a 0 (3+p+d)).length=xs.length:=jJ _ _ _ _;simp only[made];rw[dr,dr,dr,FQ _ _ _ _ _ hr];simp only[bN,hl]
 by_cases h1:j=a
 ·subst h1;rw[if_neg (by omega),if_neg (by omega),if_pos (by omega),if_pos rfl]
 ·rw[if_neg h1]
  by_cases h2:j=a+2
  ·subst h2;rw[if_pos (by omega),if_pos rfl]
  ·rw[if_neg h2,if_neg (by omega)]
   by_cases h3:j=a+1
   ·subst h3;rw[if_pos (by omega),if_pos (by omega)]
   ·rw[if_neg (by omega),if_neg (by omega)]
theorem Qh{xs:aj}{a p d:Nat}{wk fn:Bool}{ser:Nat}(h:sV p d wk fn)(hs:ser<=1099511627776)(hr:a+(3+p+d)<=xs.length):At (made xs a p d wk fn ser) a (Ob.new p d wk fn ser):=by
 refine⟨Ob.EP h hs,by rw[si];exact hr,λi hi=>?_⟩;have oY:i<3+p+d:=hi;rw[yl hr]
 match i with
 | 0=>simp[Ob.ws,Ob.new]
 | 1=>rw[if_neg (by omega),if_neg (by omega),if_pos (by omega)];simp[Ob.ws,Ob.new]
 | 2=>simp[Ob.ws,Ob.new]
 | i+3=>
   rw[if_neg (by omega),if_neg (by omega),if_pos (by omega)];simp only[Ob.ws,Ob.new,List.getD,List.getElem?_cons_succ,List.getElem?_append,List.getElem?_replicate,List.length_replicate]
   by_cases h1:i<p
   ·simp[h1]
   ·simp[h1,show i-p<d by omega]
end
section
theorem CK(w:ag)(b c:Nat)(xs:aj)(h:Ar w b c xs)(at_ p d:Nat)(wk fn fr:Bool)(ho:iN xs at_ p d wk fn fr)(hs:xs.getD (at_+2) 0<=1099511627776) :
 aJ prog 109 #[eL b,vI at_] w λe w'=>e=.returned (.tuple #[vI (xs.getD (at_+2) 0:Nat),vI 0])/\Calm w w':=by
 have HA:=hid h;have HO:=hid ho;have hr:=ho.room;have h4:=h.2.2.2;clear h ho;obtain⟨s,hS⟩:=ao (xs.getD (at_+2) 0);rw[hS] at hs ⊢;replace hS:=hid hS;go_in;go_wp2_with fail
 refine(eZ _ b c xs HA.out at_ p d wk fn fr HO.out).mono ?_;rintro e w1 ⟨rfl,c1⟩;go_wp2_with fail
 have dJ:((at_:Int)+2)=((at_+2:Nat):Int):=by push_cast;rfl
 rw[dJ];refine(jh _ b c xs (HA.out.calm (c1.alloc _)) (at_+2) (by omega)).mono ?_;rintro e w2 ⟨rfl,rfl⟩;rw[hS.out];replace dJ:=hid dJ;go_wp2;exact bodyPost_ret (v:=.tuple #[vI s,vI 0]) (by simp[results,Tryz.f109,go_sem]) rfl ⟨rfl,c1.alloc _⟩
theorem CJ(w:ag)(b c:Nat)(xs:aj)(h:Ar w b c xs)(at_ p d:Nat)(wk fn fr:Bool)(ho:iN xs at_ p d wk fn fr) :
 aJ prog 218 #[eL b,vI at_] w λe w'=>e=.returned (.tuple #[wV (xs.getD (at_+1) 0),vI 0])/\Calm w w':=by
 have HA:=hid h;have HO:=hid ho;have hr:=ho.room;have h4:=h.2.2.2;clear h ho;obtain⟨s,hS⟩:=ao (xs.getD (at_+1) 0);rw[hS];replace hS:=hid hS;go_in;go_wp2_with fail
 refine(eZ _ b c xs HA.out at_ p d wk fn fr HO.out).mono ?_;rintro e w1 ⟨rfl,c1⟩;go_wp2_with fail
 have dJ:((at_:Int)+1)=((at_+1:Nat):Int):=by push_cast;rfl
 rw[dJ];refine(jh _ b c xs (HA.out.calm (c1.alloc _)) (at_+1) (by omega)).mono ?_;rintro e w2 ⟨rfl,rfl⟩;rw[hS.out];replace dJ:=hid dJ;go_wp2;exact bodyPost_ret (v:=.tuple #[wV s,vI 0]) (by simp[results,Tryz.f218,go_sem]) rfl ⟨rfl,c1.alloc _⟩
theorem nh(w:ag)(b c:Nat)(xs:aj)(h:Ar w b c xs)(at_ p d:Nat)(wk fn fr:Bool)(ho:iN xs at_ p d wk fn fr)(i:Nat)(hi:i<p) :
 aJ prog 226 #[eL b,vI at_,vI i,.func (.func 227) #[] #[]] w λe w'=>e=.returned (.tuple #[vI ((at_:Int)+3+i),vI 0])/\Calm w w':=by
 have HA:=hid h;have HO:=hid ho;have hr:=ho.room;have h4:=h.2.2.2;have p8:=ho.ok.1;clear h ho;go_in;go_wp2_with fail
 refine(eZ _ b c xs HA.out at_ p d wk fn fr HO.out).mono ?_;rintro e w1 ⟨rfl,c1⟩;go_wp2_with fail
 refine(Me p d wk fn at_ i _ (by omega) (by omega) (by omega) (by omega) (by omega)).mono ?_;rintro e w2 ⟨rfl,c2⟩;go_wp2;exact bodyPost_ret (v:=.tuple #[vI ((at_:Int)+3+i),vI 0]) (by simp[results,Tryz.f226,go_sem]) rfl ⟨rfl,(c1.alloc _).trans c2⟩
end
section
theorem nc(w:ag)(b c:Nat)(xs:aj)(h:Ar w b c xs)(at_ p d:Nat)(wk fn fr:Bool)(ho:iN xs at_ p d wk fn fr)(i:Nat)(hi:i<d) :
 aJ prog 226 #[eL b,vI at_,vI i,.func (.func 232) #[] #[]] w λe w'=>e=.returned (.tuple #[vI ((at_:Int)+3+p+i),vI 0])/\Calm w w':=by
 have HA:=hid h;have HO:=hid ho;have hr:=ho.room;have h4:=h.2.2.2;have p8:=ho.ok.1;have d8:=ho.ok.2.1;clear h ho;go_in;go_wp2_with fail
 refine(eZ _ b c xs HA.out at_ p d wk fn fr HO.out).mono ?_;rintro e w1 ⟨rfl,c1⟩;go_wp2_with fail
 refine(Md p d wk fn at_ i _ (by omega) (by omega) (by omega) (by omega) (by omega) (by omega) (by omega)).mono ?_;rintro e w2 ⟨rfl,c2⟩;go_wp2;exact bodyPost_ret (v:=.tuple #[vI ((at_:Int)+3+p+i),vI 0]) (by simp[results,Tryz.f226,go_sem]) rfl ⟨rfl,(c1.alloc _).trans c2⟩
theorem kM(w:ag)(b c:Nat)(xs:aj)(h:Ar w b c xs)(k:Nat)(hk:k<xs.length)(g v:Nat)(hg:Own w g 0 (wV v))(eC:g≠c) :
 aJ prog 228 #[eL b,vI k,.func (.func 250) #[] #[bw g]] w λe w'=>e=.returned (vI 0)/\Ar w' b c (xs.set k v)/\Fr (λb=>b=c) w w':=by
 have HA:=hid h;have h4:=h.2.2.2;have g1:=hg.1;have hs:=hid (h.set hk v);clear h;go_in;go_wp2_with fail
 refine(jh _ b c xs HA.out k hk).mono ?_;rintro e w1 ⟨rfl,rfl⟩;go_wp2_with (first|(go_at_call 249;refine(lO _ b c xs HA.out k hk v).mono ?_;rintro e w2 ⟨rfl,rfl⟩)|go_in)
 go_ret;exact⟨rfl,hs.out,Fr.setCell (S:=λb=>b=c) (p:=⟨c,k,none⟩) ah (.inl rfl) _⟩
end
section
theorem CG(w:ag)(b c:Nat)(xs:aj)(h:Ar w b c xs)(at_ p d:Nat)(wk fn fr:Bool)(ho:iN xs at_ p d wk fn fr)(i:Nat)(hi:i<p)(hs:xs.getD (at_+3+i) 0<=1099511627776) :
 aJ prog 189 #[eL b,vI at_,vI i] w λe w'=>e=.returned (.tuple #[vI (xs.getD (at_+3+i) 0:Nat),vI 0])/\Calm w w':=by
 have HA:=hid h;have HO:=hid ho;have hr:=ho.room;have h4:=h.2.2.2;clear h ho;obtain⟨s,hS⟩:=ao (xs.getD (at_+3+i) 0);rw[hS] at hs ⊢;replace hS:=hid hS;go_in;go_wp2_with fail
 refine(nh _ b c xs HA.out at_ p d wk fn fr HO.out i hi).mono ?_;rintro e w1 ⟨rfl,c1⟩;go_wp2_with fail
 have dJ:((at_:Int)+3+i)=((at_+3+i:Nat):Int):=by push_cast;rfl
 rw[dJ];refine(jh _ b c xs (HA.out.calm c1) (at_+3+i) (by omega)).mono ?_;rintro e w2 ⟨rfl,rfl⟩;rw[hS.out];replace dJ:=hid dJ;go_wp2;exact bodyPost_ret (v:=.tuple #[vI s,vI 0]) (by simp[results,Tryz.f189,go_sem]) rfl ⟨rfl,c1⟩
theorem CF(w:ag)(b c:Nat)(xs:aj)(h:Ar w b c xs)(at_ p d:Nat)(wk fn fr:Bool)(ho:iN xs at_ p d wk fn fr)(i:Nat)(hi:i<d)(hs:xs.getD (at_+3+p+i) 0<18446744073709551616) :
 aJ prog 194 #[eL b,vI at_,vI i] w λe w'=>e=.returned (.tuple #[vI (zt (xs.getD (at_+3+p+i) 0)),vI 0])/\Calm w w':=by
 have HA:=hid h;have HO:=hid ho;have hr:=ho.room;have h4:=h.2.2.2;clear h ho;obtain⟨s,hS⟩:=ao (xs.getD (at_+3+p+i) 0);rw[hS] at hs ⊢;replace hS:=hid hS;go_in;go_wp2_with fail
 refine(nc _ b c xs HA.out at_ p d wk fn fr HO.out i hi).mono ?_;rintro e w1 ⟨rfl,c1⟩;go_wp2_with fail
 have dJ:((at_:Int)+3+p+i)=((at_+3+p+i:Nat):Int):=by push_cast;rfl
 rw[dJ];refine(jh _ b c xs (HA.out.calm c1) (at_+3+p+i) (by omega)).mono ?_;rintro e w2 ⟨rfl,rfl⟩;rw[hS.out];replace dJ:=hid dJ;go_wp2_with fail
 refine(Q7 s _ hs).mono ?_;rintro e w3 ⟨rfl,c3⟩;go_wp2;exact bodyPost_ret (v:=.tuple #[vI (zt s),vI 0]) (by simp[results,Tryz.f194,go_sem]) rfl ⟨rfl,c1.trans c3⟩
end
section
theorem zX(w:ag)(v:Nat) :
 aJ prog 229 #[wV v] w λe w'=>e=.returned (.func (.func 250) #[] #[bw w.heap.size])/\w'=w.alloc (.cells #[wV v] 252):=by
 go_in;go_wp2;go_ret;exact⟨rfl,rfl⟩
theorem CM(w:ag)(b c:Nat)(xs:aj)(h:Ar w b c xs)(at_ p d:Nat)(wk fn fr:Bool)(ho:iN xs at_ p d wk fn fr)(i:Nat)(hi:i<p)(v:Nat)(hv:v<=131072) :
 aJ prog 186 #[eL b,vI at_,vI i,vI v] w λe w'=>e=.returned (vI 0)/\Ar w' b c (xs.set (at_+3+i) v)/\Fr (λk=>k=c) w w':=by
 have HA:=hid h;have HO:=hid ho;have hr:=ho.room;have h4:=h.2.2.2;have k_:c<w.heap.size:=(h.cell (k:=at_) (by omega)).lt;clear h ho;go_in;go_wp2_with fail
 refine(nh _ b c xs HA.out at_ p d wk fn fr HO.out i hi).mono ?_;rintro e w1 ⟨rfl,c1⟩;go_wp2_with fail
 refine(zX _ v).mono ?_;rintro e w2 ⟨rfl,rfl⟩;go_wp2_with fail
 have dJ:((at_:Int)+3+i)=((at_+3+i:Nat):Int):=by push_cast;rfl
 rw[dJ];refine(kM _ b c xs (HA.out.calm (c1.alloc _)) (at_+3+i) (by omega) w1.heap.size v (Own.new _ _ _ 0 rfl) (by have:=c1.size;omega)).mono ?_;rintro e w3 ⟨rfl,ha,f⟩;replace dJ:=hid dJ;replace ha:=hid ha;go_wp2;go_ret;exact⟨rfl,ha.out,(Calm.any (c1.alloc _)).trans f⟩
theorem CL(w:ag)(b c:Nat)(xs:aj)(h:Ar w b c xs)(at_ p d:Nat)(wk fn fr:Bool)(ho:iN xs at_ p d wk fn fr)(i:Nat)(hi:i<d)(n:Int)(hn:bX n) :
 aJ prog 195 #[eL b,vI at_,vI i,vI n] w λe w'=>e=.returned (vI 0)/\Ar w' b c (xs.set (at_+3+p+i) (zg n))/\Fr (λk=>k=c) w w':=by
 have HA:=hid h;have HO:=hid ho;have hr:=ho.room;have h4:=h.2.2.2;have k_:c<w.heap.size:=(h.cell (k:=at_) (by omega)).lt;clear h ho;go_in;go_wp2_with fail
 refine(nc _ b c xs HA.out at_ p d wk fn fr HO.out i hi).mono ?_;rintro e w1 ⟨rfl,c1⟩;go_wp2_with fail
 refine(Q8 n _ hn).mono ?_;rintro e w2 ⟨rfl,c2⟩;replace c1:=c1.trans c2;go_wp2_with fail
 refine(zX _ (zg n)).mono ?_;rintro e w2' ⟨rfl,rfl⟩;go_wp2_with fail
 have dJ:((at_:Int)+3+p+i)=((at_+3+p+i:Nat):Int):=by push_cast;rfl
 rw[dJ];refine(kM _ b c xs (HA.out.calm (c1.alloc _)) (at_+3+p+i) (by omega) w2.heap.size (zg n) (Own.new _ _ _ 0 rfl) (by have:=c1.size;omega)).mono ?_;rintro e w3 ⟨rfl,ha,f⟩;replace dJ:=hid dJ;replace ha:=hid ha;go_wp2;go_ret;exact⟨rfl,ha.out,(Calm.any (c1.alloc _)).trans f⟩
end
section
theorem vx(w:ag)(b c:Nat)(xs:aj)(h:Ar w b c xs)(at_ p d:Nat)(wk fn fr:Bool)(ho:iN xs at_ p d wk fn fr)(v:Nat) :
 aJ prog 221 #[eL b,vI at_,wV v] w λe w'=>e=.returned (vI 0)/\Ar w' b c (xs.set (at_+1) v)/\Fr (λk=>k=c) w w':=by
 have HA:=hid h;have HO:=hid ho;have hr:=ho.room;have h4:=h.2.2.2;have k_:c<w.heap.size:=(h.cell (k:=at_) (by omega)).lt;clear h ho;go_in;go_wp2_with fail
 refine(eZ _ b c xs HA.out at_ p d wk fn fr HO.out).mono ?_;rintro e w1 ⟨rfl,c1⟩;go_wp2_with fail
 refine(zX _ v).mono ?_;rintro e w2 ⟨rfl,rfl⟩;go_wp2_with fail
 have dJ:((at_:Int)+1)=((at_+1:Nat):Int):=by push_cast;rfl
 rw[dJ];refine(kM _ b c xs (HA.out.calm ((c1.alloc _).alloc _)) (at_+1) (by omega) (w1.heap.size+1) v (Own.at _ _ _ _ 0 (by simp) rfl) (by have:=c1.size;omega)).mono ?_;rintro e w3 ⟨rfl,ha,f⟩;replace dJ:=hid dJ;replace ha:=hid ha;go_wp2;go_ret;exact⟨rfl,ha.out,(Calm.any ((c1.alloc _).alloc _)).trans f⟩
theorem xj(w:ag)(b c:Nat)(xs:aj)(h:Ar w b c xs)(at_ p d:Nat)(wk fn fr Bp:Bool)(ho:iN xs at_ p d wk fn fr) :
 aJ prog 196 #[eL b,vI at_,.bool Bp] w λe w'=>e=.returned (vI 0)/\Ar w' b c (xs.set at_ (hd p d wk fn Bp))/\Fr (λk=>k=c) w w':=by
 have HA:=hid h;have HO:=hid ho;have hr:=ho.room;have h4:=h.2.2.2;have k_:c<w.heap.size:=(h.cell (k:=at_) (by omega)).lt;clear h ho;go_in;go_wp2_with fail
 refine(eZ _ b c xs HA.out at_ p d wk fn fr HO.out).mono ?_;rintro e w1 ⟨rfl,c1⟩;go_wp2_with fail
 refine(uD p d wk fn Bp HO.out.ok _).mono ?_;rintro e w2 ⟨rfl,c2⟩;replace c1:=(c1.alloc _).trans c2;go_wp2_with fail
 refine(zX _ (hd p d wk fn Bp)).mono ?_;rintro e w3 ⟨rfl,rfl⟩;go_wp2_with fail
 refine(kM _ b c xs (HA.out.calm (c1.alloc _)) at_ (by omega) w2.heap.size (hd p d wk fn Bp) (Own.new _ _ _ 0 rfl) (by have:=c1.size;omega)).mono ?_;rintro e w4 ⟨rfl,ha,f⟩;replace ha:=hid ha;go_wp2;go_ret;exact⟨rfl,ha.out,(Calm.any (c1.alloc _)).trans f⟩
end
section
theorem oJ(w:ag)(b c:Nat)(xs:aj)(h:Ar w b c xs)(at_ p d:Nat)(wk fn fr:Bool)(ho:iN xs at_ p d wk fn fr)(i:Int)(hi:i<0\/(p:Int)<=i) :
 aJ prog 226 #[eL b,vI at_,vI i,.func (.func 227) #[] #[]] w λe w'=>e=.returned (.tuple #[vI 0,vI 71])/\Calm w w':=by
 have HA:=hid h;have HO:=hid ho;have HI:=hid hi;clear h ho hi;go_in;go_wp2_with fail
 refine(eZ _ b c xs HA.out at_ p d wk fn fr HO.out).mono ?_;rintro e w1 ⟨rfl,c1⟩;go_wp2_with fail
 refine(Qv p d wk fn at_ i _ HI.out).mono ?_;rintro e w2 ⟨rfl,c2⟩;go_wp2;exact bodyPost_ret (v:=.tuple #[vI 0,vI 71]) (by simp[results,Tryz.f226,go_sem]) rfl ⟨rfl,(c1.alloc _).trans c2⟩
theorem oI(w:ag)(b c:Nat)(xs:aj)(h:Ar w b c xs)(at_ p d:Nat)(wk fn fr:Bool)(ho:iN xs at_ p d wk fn fr)(i:Int)(hi:i<0\/(d:Int)<=i) :
 aJ prog 226 #[eL b,vI at_,vI i,.func (.func 232) #[] #[]] w λe w'=>e=.returned (.tuple #[vI 0,vI 71])/\Calm w w':=by
 have HA:=hid h;have HO:=hid ho;have HI:=hid hi;clear h ho hi;go_in;go_wp2_with fail
 refine(eZ _ b c xs HA.out at_ p d wk fn fr HO.out).mono ?_;rintro e w1 ⟨rfl,c1⟩;go_wp2_with fail
 refine(Qu p d wk fn at_ i _ HI.out).mono ?_;rintro e w2 ⟨rfl,c2⟩;go_wp2;exact bodyPost_ret (v:=.tuple #[vI 0,vI 71]) (by simp[results,Tryz.f226,go_sem]) rfl ⟨rfl,(c1.alloc _).trans c2⟩
theorem EV(w:ag)(b c:Nat)(xs:aj)(h:Ar w b c xs)(at_ p d:Nat)(wk fn fr:Bool)(ho:iN xs at_ p d wk fn fr)(i:Int)(hi:i<0\/(p:Int)<=i) :
 aJ prog 189 #[eL b,vI at_,vI i] w λe w'=>e=.returned (.tuple #[vI 0,vI 71])/\Calm w w':=by
 have HI:=hid hi;clear hi;go_in;go_wp2_with fail
 refine(oJ _ b c xs h at_ p d wk fn fr ho i HI.out).mono ?_;rintro e w1 ⟨rfl,c1⟩;clear ho h;go_wp2;exact bodyPost_ret (v:=.tuple #[vI 0,vI 71]) (by simp[results,Tryz.f189,go_sem]) rfl ⟨rfl,c1⟩
theorem EU(w:ag)(b c:Nat)(xs:aj)(h:Ar w b c xs)(at_ p d:Nat)(wk fn fr:Bool)(ho:iN xs at_ p d wk fn fr)(i:Int)(hi:i<0\/(d:Int)<=i) :
 aJ prog 194 #[eL b,vI at_,vI i] w λe w'=>e=.returned (.tuple #[vI 0,vI 71])/\Calm w w':=by
 have HI:=hid hi;clear hi;go_in;go_wp2_with fail
 refine(oI _ b c xs h at_ p d wk fn fr ho i HI.out).mono ?_;rintro e w1 ⟨rfl,c1⟩;clear ho h;go_wp2;exact bodyPost_ret (v:=.tuple #[vI 0,vI 71]) (by simp[results,Tryz.f194,go_sem]) rfl ⟨rfl,c1⟩
theorem EX(w:ag)(b c:Nat)(xs:aj)(h:Ar w b c xs)(at_ p d:Nat)(wk fn fr:Bool)(ho:iN xs at_ p d wk fn fr)(i v:Int)(hi:i<0\/(p:Int)<=i) :
 aJ prog 186 #[eL b,vI at_,vI i,vI v] w λe w'=>e=.returned (vI 71)/\Calm w w':=by
 have HI:=hid hi;clear hi;go_in;go_wp2_with fail
 refine(oJ _ b c xs h at_ p d wk fn fr ho i HI.out).mono ?_;rintro e w1 ⟨rfl,c1⟩;clear ho h;go_wp2;go_ret;exact⟨rfl,c1⟩
theorem EW(w:ag)(b c:Nat)(xs:aj)(h:Ar w b c xs)(at_ p d:Nat)(wk fn fr:Bool)(ho:iN xs at_ p d wk fn fr)(i v:Int)(hi:i<0\/(d:Int)<=i) :
 aJ prog 195 #[eL b,vI at_,vI i,vI v] w λe w'=>e=.returned (vI 71)/\Calm w w':=by
 have HI:=hid hi;clear hi;go_in;go_wp2_with fail
 refine(oI _ b c xs h at_ p d wk fn fr ho i HI.out).mono ?_;rintro e w1 ⟨rfl,c1⟩;clear ho h;go_wp2;go_ret;exact⟨rfl,c1⟩
end
section
def Has(bp:Bool)(k:Int)(n:Nat):Prop:=(bp=true/\0<=k/\k<n)\/(bp=false/\(k<0\/(n:Int)<=k))
section
variable {w:ag}{b c:Nat}{xs:aj}(h:Ar w b c xs){a:Nat}{o:Ob}(ho:At xs a o)
include h ho
theorem mW:aJ prog 165 #[eL b,vI a] w λe w'=>e=.returned (.tuple #[mz o.p o.d o.wk o.fn,.bool o.fr,vI 0])/\Calm w w':=
 eZ w b c xs h a _ _ _ _ _ ho.isObj
theorem xG:aJ prog 109 #[eL b,vI a] w λe w'=>e=.returned (.tuple #[vI o.ser,vI 0])/\Calm w w':=by
 have:=CK w b c xs h a _ _ _ _ _ ho.isObj (by rw[ho.ser];exact ho.ok.ser)
 rwa [ho.ser] at this
theorem Hb:aJ prog 218 #[eL b,vI a] w λe w'=>e=.returned (.tuple #[wV o.snd,vI 0])/\Calm w w':=by
 have:=CJ w b c xs h a _ _ _ _ _ ho.isObj
 rwa [ho.snd] at this
theorem kR{i:Nat}(hi:i<o.p):aJ prog 189 #[eL b,vI a,vI i] w λe w'=>e=.returned (.tuple #[vI (o.ps.getD i 0:Nat),vI 0])/\Calm w w':=by
 have:=CG w b c xs h a _ _ _ _ _ ho.isObj i hi (by rw[ho.ptr hi];have:=ho.ok.ptr hi;omega)
 rwa [ho.ptr hi] at this
theorem Ha{i:Int}(hi:i<0\/(o.p:Int)<=i):aJ prog 189 #[eL b,vI a,vI i] w λe w'=>e=.returned (.tuple #[vI 0,vI 71])/\Calm w w':=
 EV w b c xs h a _ _ _ _ _ ho.isObj i hi
theorem DQ{i:Nat}(hi:i<o.d):aJ prog 194 #[eL b,vI a,vI i] w λe w'=>e=.returned (.tuple #[vI (zt (o.ns.getD i 0)),vI 0])/\Calm w w':=by
 have:=CF w b c xs h a _ _ _ _ _ ho.isObj i hi (by rw[ho.num hi];exact ho.ok.num hi)
 rwa [ho.num hi] at this
theorem G_{i:Int}(hi:i<0\/(o.d:Int)<=i):aJ prog 194 #[eL b,vI a,vI i] w λe w'=>e=.returned (.tuple #[vI 0,vI 71])/\Calm w w':=
 EU w b c xs h a _ _ _ _ _ ho.isObj i hi
theorem lq{i v:Nat}(hi:i<o.p)(hv:v<=131072):aJ prog 186 #[eL b,vI a,vI i,vI v] w λe w'=>e=.returned (vI 0)/\Ar w' b c (xs.set (a+3+i) v)/\Fr (λk=>k=c) w w':=
 CM w b c xs h a _ _ _ _ _ ho.isObj i hi v hv
theorem y_{i v:Int}(hi:i<0\/(o.p:Int)<=i):aJ prog 186 #[eL b,vI a,vI i,vI v] w λe w'=>e=.returned (vI 71)/\Calm w w':=
 EX w b c xs h a _ _ _ _ _ ho.isObj i v hi
theorem Hc{i:Nat}{v:Int}(hi:i<o.d)(hv:bX v):aJ prog 195 #[eL b,vI a,vI i,vI v] w λe w'=>e=.returned (vI 0)/\Ar w' b c (xs.set (a+3+o.p+i) (zg v))/\Fr (λk=>k=c) w w':=
 CL w b c xs h a _ _ _ _ _ ho.isObj i hi v hv
theorem yZ{i v:Int}(hi:i<0\/(o.d:Int)<=i):aJ prog 195 #[eL b,vI a,vI i,vI v] w λe w'=>e=.returned (vI 71)/\Calm w w':=
 EW w b c xs h a _ _ _ _ _ ho.isObj i v hi
theorem Bc(Bp:Bool):aJ prog 196 #[eL b,vI a,.bool Bp] w λe w'=>e=.returned (vI 0)/\Ar w' b c (xs.set a (hd o.p o.d o.wk o.fn Bp))/\Fr (λk=>k=c) w w':=
 xj w b c xs h a _ _ _ _ _ _ ho.isObj
theorem zb(v:Nat):aJ prog 221 #[eL b,vI a,wV v] w λe w'=>e=.returned (vI 0)/\Ar w' b c (xs.set (a+1) v)/\Fr (λk=>k=c) w w':=
 vx w b c xs h a _ _ _ _ _ ho.isObj v
theorem G9{bp:Bool}{k:Int}(hk:Has bp k o.d):aJ prog 194 #[eL b,vI a,vI k] w λe w'=>e=.returned (.tuple #[vI (bif bp then zt (o.ns.getD k.toNat 0) else 0),vI (bif bp then 0 else 71)])/\Calm w w':=by
 rcases hk with ⟨rfl,h1,h2⟩|⟨rfl,h1⟩
 ·obtain⟨K,rfl⟩:=Int.eq_ofNat_of_zero_le h1;exact DQ h ho (by omega)
 ·exact G_ h ho h1
theorem pS{bp:Bool}{k:Int}{v:Nat}(hk:Has bp k o.p)(hv:v<=131072):aJ prog 186 #[eL b,vI a,vI k,vI v] w λe w'=>e=.returned (vI (bif bp then 0 else 71))/\Ar w' b c (bif bp then xs.set (a+3+k.toNat) v else xs)/\Fr (λk=>k=c) w w':=by
 rcases hk with ⟨rfl,h1,h2⟩|⟨rfl,h1⟩
 ·obtain⟨K,rfl⟩:=Int.eq_ofNat_of_zero_le h1;exact lq h ho (by omega) hv
 ·exact(y_ h ho h1).mono λe w' ⟨he,hc⟩=>⟨he,h.calm hc,hc.any⟩
theorem yY{bp:Bool}{k v:Int}(hk:Has bp k o.d)(hv:bX v):aJ prog 195 #[eL b,vI a,vI k,vI v] w λe w'=>e=.returned (vI (bif bp then 0 else 71))/\Ar w' b c (bif bp then xs.set (a+3+o.p+k.toNat) (zg v) else xs)/\Fr (λk=>k=c) w w':=by
 rcases hk with ⟨rfl,h1,h2⟩|⟨rfl,h1⟩
 ·obtain⟨K,rfl⟩:=Int.eq_ofNat_of_zero_le h1;exact Hc h ho (by omega) hv
 ·exact(yZ h ho h1).mono λe w' ⟨he,hc⟩=>⟨he,h.calm hc,hc.any⟩
end
theorem Has.kR{xs:aj}{a:Nat}{o:Ob}(ho:At xs a o){bp:Bool}{k:Int}{v:Nat}(hk:Has bp k o.p)(hv:v<=131072) :
 At (bif bp then xs.set (a+3+k.toNat) v else xs) a (bif bp then { o with ps:=o.ps.set k.toNat v } else o):=by
 rcases hk with ⟨rfl,h1,h2⟩|⟨rfl,h1⟩
 ·exact ho.MP (by omega) hv
 ·exact ho
theorem Has.DQ{xs:aj}{a:Nat}{o:Ob}(ho:At xs a o){bp:Bool}{k v:Int}(hk:Has bp k o.d)(hv:bX v) :
 At (bif bp then xs.set (a+3+o.p+k.toNat) (zg v) else xs) a (bif bp then { o with ns:=o.ns.set k.toNat (zg v) } else o):=by
 rcases hk with ⟨rfl,h1,h2⟩|⟨rfl,h1⟩
 ·exact ho.Wm (by omega) (aaW hv)
 ·exact ho
theorem Has.lt{k:Int}{n:Nat}(h1:0<=k)(h2:k<n):Has true k n:=.inl ⟨rfl,h1,h2⟩
theorem Has.neg{k:Int}{n:Nat}(h1:k<0):Has false k n:=.inr ⟨rfl,.inl h1⟩
theorem Has.ge{k:Int}{n:Nat}(h1:(n:Int)<=k):Has false k n:=.inr ⟨rfl,.inr h1⟩
end
