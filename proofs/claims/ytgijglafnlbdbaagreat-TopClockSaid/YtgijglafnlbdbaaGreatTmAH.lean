import Derived.Test.YtgijglafnlbdbaaGreatTmAG
set_option linter.all false
set_option maxHeartbeats 8000000
set_option maxRecDepth 8000
namespace Go.Proofs.YtgijglafnlbdbaaGreat
open RowKit Shelf Proofs.Tryz
open Go renaming World->aj,Value->aC,Calls->aL
theorem bQ{P:Program}{id:Nat}{Q:Exit->Act->aj->Prop}{a:Act}{w:aj}{l:List Oper}(ix js:aE)(S:aj->Prop)(hm:P.follows .mixedOrders=true)
 (hB:(Region.noSelect l.toArray && decide (ix.length+js.length=l.toArray.size) && yh .any l.toArray (Array.replicate l.toArray.size false) && rV .any l.toArray l.toArray.size js ix (Array.replicate l.toArray.size false))=true) (hS:S w.drew)
 (h:aU P l.toArray Q S (λa w=>bj P l.toArray Q S (λa' w'=>Q .normal a' w') js a w) ix a w.drew):(Code.region id l.toArray true).wp P Q a w:=
 wp_region_any hm (cQ ix js S hB hS h)
theorem TL(w:aj)(b p r0 r1 r2 r3 r4 r5 v0 v1 v2 v3 v4 v5 v:Int)(live:Bool)(hb:0<=b/\b<=1000)(hp:0<=p/\p<=1000):aL prog 69 #[.agg #[vI b,vI p,vI r0,vI r1,vI r2,vI r3,vI r4,vI r5,vI v0,vI v1,vI v2,vI v3,vI v4,vI v5,.bool live],vI v,vI 0] w λen w'=>en=.returned (.tuple #[.agg #[vI b,vI (p+1),vI r0,vI r1,vI r2,vI r3,vI r4,vI r5,vI v0,vI v1,vI v2,vI v3,vI v4,vI v5,.bool live],.agg #[vI 2,vI 0,vI v]])/\Calm w w':=by
 have fL:IntKind.i64.wrap (p+1)=p+1:=IntWalk.i64_in _ (by omega);have Bs:IntKind.i64.wrap (b+1)=b+1:=IntWalk.i64_in _ (by omega);go_in;go_wp2_with fail
 refine bQ [1] [0,2,3] (λw'=>w'.cell? ⟨w.heap.size+1+1+1,0,none⟩=some (vI 2)/\w'.cell? ⟨w.heap.size+1+1+1,1,none⟩=some (vI 0)/\w'.cell? ⟨w.heap.size+1+1+1,2,none⟩=some (vI v)) (by kernel_rfl) (by kernel_rfl) ?_ ?_
 ·go_simp
 refine ah (.agg #[vI 2,vI 0,vI v]) rfl rfl (λw' hw'=>?_) ai ?_
 ·obtain⟨e0,e1,e2⟩:=hw';simp[go_sem,e0,e1,e2]
 simp only[aU];refine aw rfl rfl ?_;unfold Oper.wp;go_simp;refine aw rfl rfl ?_;unfold Oper.wp;go_simp;refine aw rfl rfl ?_;unfold Oper.wp;go_simp
 try simp only[bj]
 go_wp2;refine bodyPost_ret ?_ rfl ⟨rfl,by repeat (first|exact aq|refine Fr.alloc ?_ _|refine Fr.drew ?_)⟩;simp[results,Tryz.f69,go_sem]
theorem LJ(w:aj)(b p r0 r1 r2 r3 r4 r5 v0 v1 v2 v3 v4 v5 v:Int)(live:Bool)(hb:0<=b/\b<=1000)(hp:0<=p/\p<=1000):aL prog 69 #[.agg #[vI b,vI p,vI r0,vI r1,vI r2,vI r3,vI r4,vI r5,vI v0,vI v1,vI v2,vI v3,vI v4,vI v5,.bool live],vI v,vI 141] w λen w'=>en=.returned (.tuple #[.agg #[vI b,vI 0,vI v0,vI v1,vI v2,vI v3,vI v4,vI v5,vI v0,vI v1,vI v2,vI v3,vI v4,vI v5,.bool false],.agg #[vI 2,vI 141,vI 0]])/\Calm w w':=by
 have fL:IntKind.i64.wrap (p+1)=p+1:=IntWalk.i64_in _ (by omega);have Bs:IntKind.i64.wrap (b+1)=b+1:=IntWalk.i64_in _ (by omega);go_in;go_wp2_with fail
 refine(qH _ _ _ _ _ _ _ _ _ _ _ _ _ _ _ _).mono ?_;rintro e wb ⟨rfl,rfl⟩;go_wp2_with fail
 refine bQ [1] [0,2,3] (λw'=>w'.cell? ⟨w.heap.size+1+1+1,0,none⟩=some (vI 2)/\w'.cell? ⟨w.heap.size+1+1+1,1,none⟩=some (vI 141)/\w'.cell? ⟨w.heap.size+1+1+1,2,none⟩=some (vI 0)) (by kernel_rfl) (by kernel_rfl) ?_ ?_
 ·go_simp
 refine ah (.agg #[vI 2,vI 141,vI 0]) rfl rfl (λw' hw'=>?_) ai ?_
 ·obtain⟨e0,e1,e2⟩:=hw';simp[go_sem,e0,e1,e2]
 simp only[aU];refine aw rfl rfl ?_;unfold Oper.wp;go_simp;refine aw rfl rfl ?_;unfold Oper.wp;go_simp;refine aw rfl rfl ?_;unfold Oper.wp;go_simp
 try simp only[bj]
 go_wp2;refine bodyPost_ret ?_ rfl ⟨rfl,by repeat (first|exact aq|refine Fr.alloc ?_ _|refine Fr.drew ?_)⟩;simp[results,Tryz.f69,go_sem]
theorem LI(w:aj)(b p r0 r1 r2 r3 r4 r5 v0 v1 v2 v3 v4 v5 v:Int)(live:Bool)(hb:0<=b/\b<=1000)(hp:0<=p/\p<=1000):aL prog 69 #[.agg #[vI b,vI p,vI r0,vI r1,vI r2,vI r3,vI r4,vI r5,vI v0,vI v1,vI v2,vI v3,vI v4,vI v5,.bool live],vI v,vI 140] w λen w'=>en=.returned (.tuple #[.agg #[vI b,vI 0,vI v0,vI v1,vI v2,vI v3,vI v4,vI v5,vI v0,vI v1,vI v2,vI v3,vI v4,vI v5,.bool false],.agg #[vI 2,vI 140,vI 0]])/\Calm w w':=by
 have fL:IntKind.i64.wrap (p+1)=p+1:=IntWalk.i64_in _ (by omega);have Bs:IntKind.i64.wrap (b+1)=b+1:=IntWalk.i64_in _ (by omega);go_in;go_wp2_with fail
 refine(qH _ _ _ _ _ _ _ _ _ _ _ _ _ _ _ _).mono ?_;rintro e wb ⟨rfl,rfl⟩;go_wp2_with fail
 refine bQ [1] [0,2,3] (λw'=>w'.cell? ⟨w.heap.size+1+1+1,0,none⟩=some (vI 2)/\w'.cell? ⟨w.heap.size+1+1+1,1,none⟩=some (vI 140)/\w'.cell? ⟨w.heap.size+1+1+1,2,none⟩=some (vI 0)) (by kernel_rfl) (by kernel_rfl) ?_ ?_
 ·go_simp
 refine ah (.agg #[vI 2,vI 140,vI 0]) rfl rfl (λw' hw'=>?_) ai ?_
 ·obtain⟨e0,e1,e2⟩:=hw';simp[go_sem,e0,e1,e2]
 simp only[aU];refine aw rfl rfl ?_;unfold Oper.wp;go_simp;refine aw rfl rfl ?_;unfold Oper.wp;go_simp;refine aw rfl rfl ?_;unfold Oper.wp;go_simp
 try simp only[bj]
 go_wp2;refine bodyPost_ret ?_ rfl ⟨rfl,by repeat (first|exact aq|refine Fr.alloc ?_ _|refine Fr.drew ?_)⟩;simp[results,Tryz.f69,go_sem]
theorem LG(w:aj)(b p r0 r1 r2 r3 r4 r5 v0 v1 v2 v3 v4 v5 v:Int)(live:Bool)(hb:0<=b/\b<=1000)(hp:0<=p/\p<=1000):aL prog 69 #[.agg #[vI b,vI p,vI r0,vI r1,vI r2,vI r3,vI r4,vI r5,vI v0,vI v1,vI v2,vI v3,vI v4,vI v5,.bool live],vI v,vI 100] w λen w'=>en=.returned (.tuple #[.agg #[vI (b+1),vI 0,vI v0,vI v1,vI v2,vI v3,vI v4,vI v5,vI v0,vI v1,vI v2,vI v3,vI v4,vI v5,.bool false],.agg #[vI 2,vI 100,vI 0]])/\Calm w w':=by
 have fL:IntKind.i64.wrap (p+1)=p+1:=IntWalk.i64_in _ (by omega);have Bs:IntKind.i64.wrap (b+1)=b+1:=IntWalk.i64_in _ (by omega);go_in;go_wp2_with fail
 refine(qH _ _ _ _ _ _ _ _ _ _ _ _ _ _ _ _).mono ?_;rintro e wb ⟨rfl,rfl⟩;go_wp2_with fail
 refine bQ [1] [0,2,3] (λw'=>w'.cell? ⟨w.heap.size+1+1+1,0,none⟩=some (vI 2)/\w'.cell? ⟨w.heap.size+1+1+1,1,none⟩=some (vI 100)/\w'.cell? ⟨w.heap.size+1+1+1,2,none⟩=some (vI 0)) (by kernel_rfl) (by kernel_rfl) ?_ ?_
 ·go_simp
 refine ah (.agg #[vI 2,vI 100,vI 0]) rfl rfl (λw' hw'=>?_) ai ?_
 ·obtain⟨e0,e1,e2⟩:=hw';simp[go_sem,e0,e1,e2]
 simp only[aU];refine aw rfl rfl ?_;unfold Oper.wp;go_simp;refine aw rfl rfl ?_;unfold Oper.wp;go_simp;refine aw rfl rfl ?_;unfold Oper.wp;go_simp
 try simp only[bj]
 go_wp2;refine bodyPost_ret ?_ rfl ⟨rfl,by repeat (first|exact aq|refine Fr.alloc ?_ _|refine Fr.drew ?_)⟩;simp[results,Tryz.f69,go_sem]
theorem LH(w:aj)(b p r0 r1 r2 r3 r4 r5 v0 v1 v2 v3 v4 v5 v:Int)(live:Bool)(hb:0<=b/\b<=1000)(hp:0<=p/\p<=1000):aL prog 69 #[.agg #[vI b,vI p,vI r0,vI r1,vI r2,vI r3,vI r4,vI r5,vI v0,vI v1,vI v2,vI v3,vI v4,vI v5,.bool live],vI v,vI 130] w λen w'=>en=.returned (.tuple #[.agg #[vI (b+1),vI 0,vI v0,vI v1,vI v2,vI v3,vI v4,vI v5,vI v0,vI v1,vI v2,vI v3,vI v4,vI v5,.bool false],.agg #[vI 2,vI 130,vI 0]])/\Calm w w':=by
 have fL:IntKind.i64.wrap (p+1)=p+1:=IntWalk.i64_in _ (by omega);have Bs:IntKind.i64.wrap (b+1)=b+1:=IntWalk.i64_in _ (by omega);go_in;go_wp2_with fail
 refine(qH _ _ _ _ _ _ _ _ _ _ _ _ _ _ _ _).mono ?_;rintro e wb ⟨rfl,rfl⟩;go_wp2_with fail
 refine bQ [1] [0,2,3] (λw'=>w'.cell? ⟨w.heap.size+1+1+1,0,none⟩=some (vI 2)/\w'.cell? ⟨w.heap.size+1+1+1,1,none⟩=some (vI 130)/\w'.cell? ⟨w.heap.size+1+1+1,2,none⟩=some (vI 0)) (by kernel_rfl) (by kernel_rfl) ?_ ?_
 ·go_simp
 refine ah (.agg #[vI 2,vI 130,vI 0]) rfl rfl (λw' hw'=>?_) ai ?_
 ·obtain⟨e0,e1,e2⟩:=hw';simp[go_sem,e0,e1,e2]
 simp only[aU];refine aw rfl rfl ?_;unfold Oper.wp;go_simp;refine aw rfl rfl ?_;unfold Oper.wp;go_simp;refine aw rfl rfl ?_;unfold Oper.wp;go_simp
 try simp only[bj]
 go_wp2;refine bodyPost_ret ?_ rfl ⟨rfl,by repeat (first|exact aq|refine Fr.alloc ?_ _|refine Fr.drew ?_)⟩;simp[results,Tryz.f69,go_sem]
theorem TN(w:aj)(b p r0 r1 r2 r3 r4 r5 v0 v1 v2 v3 v4 v5 v e:Int)(live:Bool)(h0:e≠0)(h1:e≠141)(h2:e≠140)(h3:e≠100)(h4:e≠130)(hb:0<=b/\b<=1000)(hp:0<=p/\p<=1000):aL prog 69 #[.agg #[vI b,vI p,vI r0,vI r1,vI r2,vI r3,vI r4,vI r5,vI v0,vI v1,vI v2,vI v3,vI v4,vI v5,.bool live],vI v,vI e] w λen w'=>en=.returned (.tuple #[.agg #[vI b,vI (p+1),vI r0,vI r1,vI r2,vI r3,vI r4,vI r5,vI v0,vI v1,vI v2,vI v3,vI v4,vI v5,.bool live],.agg #[vI 2,vI e,vI 0]])/\Calm w w':=by
 have fL:IntKind.i64.wrap (p+1)=p+1:=IntWalk.i64_in _ (by omega);have Bs:IntKind.i64.wrap (b+1)=b+1:=IntWalk.i64_in _ (by omega);have e0:(e==0)=false:=by simpa using h0
 have e1:(e==141)=false:=by simpa using h1
 have e2:(e==140)=false:=by simpa using h2
 have e3:(e==100)=false:=by simpa using h3
 have e4:(e==130)=false:=by simpa using h4
 go_in;go_wp2_with fail
 refine bQ [1] [0,2,3] (λw'=>w'.cell? ⟨w.heap.size+1+1+1,0,none⟩=some (vI 2)/\w'.cell? ⟨w.heap.size+1+1+1,1,none⟩=some (vI e)/\w'.cell? ⟨w.heap.size+1+1+1,2,none⟩=some (vI 0)) (by kernel_rfl) (by kernel_rfl) ?_ ?_
 ·go_simp
 refine ah (.agg #[vI 2,vI e,vI 0]) rfl rfl (λw' hw'=>?_) ai ?_
 ·obtain⟨e0,e1,e2⟩:=hw';simp[go_sem,e0,e1,e2]
 simp only[aU];refine aw rfl rfl ?_;unfold Oper.wp;go_simp;refine aw rfl rfl ?_;unfold Oper.wp;go_simp;refine aw rfl rfl ?_;unfold Oper.wp;go_simp
 try simp only[bj]
 go_wp2;refine bodyPost_ret ?_ rfl ⟨rfl,by repeat (first|exact aq|refine Fr.alloc ?_ _|refine Fr.drew ?_)⟩;simp[results,Tryz.f69,go_sem]
theorem Pm(w:aj)(x:bT)(hb:0<=x.b/\x.b<=1000)(hp:0<=x.p/\x.p<=1000)(v e:Int):aL prog 69 #[bO x,vI v,vI e] w (Vg w x v e):=by
 by_cases h0:e=0
 ·subst h0;exact(TL w x.b x.p _ _ _ _ _ _ _ _ _ _ _ _ v x.live hb hp).mono λen w' h=>⟨h.1.trans rfl,h.2⟩
 ·by_cases h1:e=141
  ·subst h1;exact(LJ w x.b x.p _ _ _ _ _ _ _ _ _ _ _ _ v x.live hb hp).mono λen w' h=>⟨h.1.trans rfl,h.2⟩
  ·by_cases h2:e=140
   ·subst h2;exact(LI w x.b x.p _ _ _ _ _ _ _ _ _ _ _ _ v x.live hb hp).mono λen w' h=>⟨h.1.trans rfl,h.2⟩
   ·by_cases h3:e=100
    ·subst h3;exact(LG w x.b x.p _ _ _ _ _ _ _ _ _ _ _ _ v x.live hb hp).mono λen w' h=>⟨h.1.trans rfl,h.2⟩
    ·by_cases h4:e=130
     ·subst h4;exact(LH w x.b x.p _ _ _ _ _ _ _ _ _ _ _ _ v x.live hb hp).mono λen w' h=>⟨h.1.trans rfl,h.2⟩
     ·refine(TN w x.b x.p _ _ _ _ _ _ _ _ _ _ _ _ v e x.live h0 h1 h2 h3 h4 hb hp).mono λen w' h=>⟨h.1.trans ?_,h.2⟩
      have e1:x.cV e = { x with p:=x.p+1 }:=by
       unfold bT.cV;rw[if_neg h0,if_neg (by omega),if_neg (by omega)]
      rw[e1,if_neg h0];rfl
