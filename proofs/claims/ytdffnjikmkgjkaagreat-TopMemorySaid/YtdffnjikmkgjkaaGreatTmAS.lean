/- TopMemory: a part of its proof (Th2). -/
import Derived.Test.YtdffnjikmkgjkaaGreatTmAA
import Derived.Test.YtdffnjikmkgjkaaGreatTmAR
import Derived.Test.YtdffnjikmkgjkaaGreatTmAN
set_option linter.unusedSimpArgs false
set_option linter.unusedVariables false
set_option maxHeartbeats 8000000
namespace Go.Proofs.YtdffnjikmkgjkaaGreat
section
open Go.RowKit Go.Shelf
theorem wp_region_once {P:Program}{id:Nat}{Q:Exit→Act→World→Prop}{a:Act}{w:World}{l:List Oper}(ix js:List Nat)(S:World→Prop)(hm:P.follows .mixedOrders=true)
    (hB:(Region.noSelect l.toArray && decide (ix.length+js.length=l.toArray.size) && closedB .any l.toArray (Array.replicate l.toArray.size false) && pickB .any l.toArray l.toArray.size js ix (Array.replicate l.toArray.size false))=true) (hS:S w.drew)
    (h:pickList P l.toArray Q S (fun a w=>pickSeq P l.toArray Q S (fun a' w'=>Q .normal a' w') js a w) ix a w.drew):(Code.region id l.toArray true).wp P Q a w:=
  wp_region_any hm (wpAny_last ix js S hB hS h)
set_option maxRecDepth 8000 in
theorem tend_0 (w:World)(b p r0 r1 r2 r3 r4 r5 v0 v1 v2 v3 v4 v5 v:Int)(live:Bool)(hb:0≤b∧b≤1000)(hp:0≤p∧p≤1000):Calls Tryz.prog 79 #[.agg #[vI b,vI p,vI r0,vI r1,vI r2,vI r3,vI r4,vI r5,vI v0,vI v1,vI v2,vI v3,vI v4,vI v5,.bool live],vI v,vI 0] w fun en w'=>en = .returned (.tuple #[.agg #[vI b,vI (p+1),vI r0,vI r1,vI r2,vI r3,vI r4,vI r5,vI v0,vI v1,vI v2,vI v3,vI v4,vI v5,.bool live],.agg #[vI 2,vI 0,vI v]])∧Calm w w':=by
  have hw1:IntKind.i64.wrap (p+1)=p+1:=IntWalk.i64_in _ (by omega);have hw2:IntKind.i64.wrap (b+1)=b+1:=IntWalk.i64_in _ (by omega);go_enter Tryz.func79,Tryz.ntmps79;go_wp2_with fail
  refine wp_region_once [1] [0,2,3] (fun w'=>w'.cell? ⟨w.heap.size+1+1+1,0,none⟩=some (vI 2)∧w'.cell? ⟨w.heap.size+1+1+1,1,none⟩=some (vI 0)∧w'.cell? ⟨w.heap.size+1+1+1,2,none⟩=some (vI v)) (by kernel_rfl) (by kernel_rfl) ?_ ?_
  · go_simp
  refine pickList_step (.agg #[vI 2,vI 0,vI v]) rfl rfl (fun w' hw'=>?_) (fun _ _ _ h=>h) ?_
  · obtain⟨e0,e1,e2⟩:=hw';simp[go_sem,e0,e1,e2]
  simp only[pickList];refine pickSeq_step rfl rfl ?_;unfold Oper.wp;go_simp;refine pickSeq_step rfl rfl ?_;unfold Oper.wp;go_simp;refine pickSeq_step rfl rfl ?_;unfold Oper.wp;go_simp
  try simp only[pickSeq]
  go_wp2;refine bodyPost_ret ?_ rfl ⟨rfl,by repeat (first|exact Fr.refl _ _|refine Fr.alloc ?_ _|refine Fr.drew ?_)⟩;simp[results,Tryz.f79,go_sem]
set_option maxRecDepth 8000 in
theorem tend_141 (w:World)(b p r0 r1 r2 r3 r4 r5 v0 v1 v2 v3 v4 v5 v:Int)(live:Bool)(hb:0≤b∧b≤1000)(hp:0≤p∧p≤1000):Calls Tryz.prog 79 #[.agg #[vI b,vI p,vI r0,vI r1,vI r2,vI r3,vI r4,vI r5,vI v0,vI v1,vI v2,vI v3,vI v4,vI v5,.bool live],vI v,vI 141] w fun en w'=>en = .returned (.tuple #[.agg #[vI b,vI 0,vI v0,vI v1,vI v2,vI v3,vI v4,vI v5,vI v0,vI v1,vI v2,vI v3,vI v4,vI v5,.bool false],.agg #[vI 2,vI 141,vI 0]])∧Calm w w':=by
  have hw1:IntKind.i64.wrap (p+1)=p+1:=IntWalk.i64_in _ (by omega);have hw2:IntKind.i64.wrap (b+1)=b+1:=IntWalk.i64_in _ (by omega);go_enter Tryz.func79,Tryz.ntmps79;go_wp2_with fail
  refine(back_L _ _ _ _ _ _ _ _ _ _ _ _ _ _ _ _).mono ?_;rintro e wb ⟨rfl,rfl⟩;go_wp2_with fail
  refine wp_region_once [1] [0,2,3] (fun w'=>w'.cell? ⟨w.heap.size+1+1+1,0,none⟩=some (vI 2)∧w'.cell? ⟨w.heap.size+1+1+1,1,none⟩=some (vI 141)∧w'.cell? ⟨w.heap.size+1+1+1,2,none⟩=some (vI 0)) (by kernel_rfl) (by kernel_rfl) ?_ ?_
  · go_simp
  refine pickList_step (.agg #[vI 2,vI 141,vI 0]) rfl rfl (fun w' hw'=>?_) (fun _ _ _ h=>h) ?_
  · obtain⟨e0,e1,e2⟩:=hw';simp[go_sem,e0,e1,e2]
  simp only[pickList];refine pickSeq_step rfl rfl ?_;unfold Oper.wp;go_simp;refine pickSeq_step rfl rfl ?_;unfold Oper.wp;go_simp;refine pickSeq_step rfl rfl ?_;unfold Oper.wp;go_simp
  try simp only[pickSeq]
  go_wp2;refine bodyPost_ret ?_ rfl ⟨rfl,by repeat (first|exact Fr.refl _ _|refine Fr.alloc ?_ _|refine Fr.drew ?_)⟩;simp[results,Tryz.f79,go_sem]
set_option maxRecDepth 8000 in
theorem tend_140 (w:World)(b p r0 r1 r2 r3 r4 r5 v0 v1 v2 v3 v4 v5 v:Int)(live:Bool)(hb:0≤b∧b≤1000)(hp:0≤p∧p≤1000):Calls Tryz.prog 79 #[.agg #[vI b,vI p,vI r0,vI r1,vI r2,vI r3,vI r4,vI r5,vI v0,vI v1,vI v2,vI v3,vI v4,vI v5,.bool live],vI v,vI 140] w fun en w'=>en = .returned (.tuple #[.agg #[vI b,vI 0,vI v0,vI v1,vI v2,vI v3,vI v4,vI v5,vI v0,vI v1,vI v2,vI v3,vI v4,vI v5,.bool false],.agg #[vI 2,vI 140,vI 0]])∧Calm w w':=by
  have hw1:IntKind.i64.wrap (p+1)=p+1:=IntWalk.i64_in _ (by omega);have hw2:IntKind.i64.wrap (b+1)=b+1:=IntWalk.i64_in _ (by omega);go_enter Tryz.func79,Tryz.ntmps79;go_wp2_with fail
  refine(back_L _ _ _ _ _ _ _ _ _ _ _ _ _ _ _ _).mono ?_;rintro e wb ⟨rfl,rfl⟩;go_wp2_with fail
  refine wp_region_once [1] [0,2,3] (fun w'=>w'.cell? ⟨w.heap.size+1+1+1,0,none⟩=some (vI 2)∧w'.cell? ⟨w.heap.size+1+1+1,1,none⟩=some (vI 140)∧w'.cell? ⟨w.heap.size+1+1+1,2,none⟩=some (vI 0)) (by kernel_rfl) (by kernel_rfl) ?_ ?_
  · go_simp
  refine pickList_step (.agg #[vI 2,vI 140,vI 0]) rfl rfl (fun w' hw'=>?_) (fun _ _ _ h=>h) ?_
  · obtain⟨e0,e1,e2⟩:=hw';simp[go_sem,e0,e1,e2]
  simp only[pickList];refine pickSeq_step rfl rfl ?_;unfold Oper.wp;go_simp;refine pickSeq_step rfl rfl ?_;unfold Oper.wp;go_simp;refine pickSeq_step rfl rfl ?_;unfold Oper.wp;go_simp
  try simp only[pickSeq]
  go_wp2;refine bodyPost_ret ?_ rfl ⟨rfl,by repeat (first|exact Fr.refl _ _|refine Fr.alloc ?_ _|refine Fr.drew ?_)⟩;simp[results,Tryz.f79,go_sem]
set_option maxRecDepth 8000 in
theorem tend_100 (w:World)(b p r0 r1 r2 r3 r4 r5 v0 v1 v2 v3 v4 v5 v:Int)(live:Bool)(hb:0≤b∧b≤1000)(hp:0≤p∧p≤1000):Calls Tryz.prog 79 #[.agg #[vI b,vI p,vI r0,vI r1,vI r2,vI r3,vI r4,vI r5,vI v0,vI v1,vI v2,vI v3,vI v4,vI v5,.bool live],vI v,vI 100] w fun en w'=>en = .returned (.tuple #[.agg #[vI (b+1),vI 0,vI v0,vI v1,vI v2,vI v3,vI v4,vI v5,vI v0,vI v1,vI v2,vI v3,vI v4,vI v5,.bool false],.agg #[vI 2,vI 100,vI 0]])∧Calm w w':=by
  have hw1:IntKind.i64.wrap (p+1)=p+1:=IntWalk.i64_in _ (by omega);have hw2:IntKind.i64.wrap (b+1)=b+1:=IntWalk.i64_in _ (by omega);go_enter Tryz.func79,Tryz.ntmps79;go_wp2_with fail
  refine(back_L _ _ _ _ _ _ _ _ _ _ _ _ _ _ _ _).mono ?_;rintro e wb ⟨rfl,rfl⟩;go_wp2_with fail
  refine wp_region_once [1] [0,2,3] (fun w'=>w'.cell? ⟨w.heap.size+1+1+1,0,none⟩=some (vI 2)∧w'.cell? ⟨w.heap.size+1+1+1,1,none⟩=some (vI 100)∧w'.cell? ⟨w.heap.size+1+1+1,2,none⟩=some (vI 0)) (by kernel_rfl) (by kernel_rfl) ?_ ?_
  · go_simp
  refine pickList_step (.agg #[vI 2,vI 100,vI 0]) rfl rfl (fun w' hw'=>?_) (fun _ _ _ h=>h) ?_
  · obtain⟨e0,e1,e2⟩:=hw';simp[go_sem,e0,e1,e2]
  simp only[pickList];refine pickSeq_step rfl rfl ?_;unfold Oper.wp;go_simp;refine pickSeq_step rfl rfl ?_;unfold Oper.wp;go_simp;refine pickSeq_step rfl rfl ?_;unfold Oper.wp;go_simp
  try simp only[pickSeq]
  go_wp2;refine bodyPost_ret ?_ rfl ⟨rfl,by repeat (first|exact Fr.refl _ _|refine Fr.alloc ?_ _|refine Fr.drew ?_)⟩;simp[results,Tryz.f79,go_sem]
set_option maxRecDepth 8000 in
theorem tend_130 (w:World)(b p r0 r1 r2 r3 r4 r5 v0 v1 v2 v3 v4 v5 v:Int)(live:Bool)(hb:0≤b∧b≤1000)(hp:0≤p∧p≤1000):Calls Tryz.prog 79 #[.agg #[vI b,vI p,vI r0,vI r1,vI r2,vI r3,vI r4,vI r5,vI v0,vI v1,vI v2,vI v3,vI v4,vI v5,.bool live],vI v,vI 130] w fun en w'=>en = .returned (.tuple #[.agg #[vI (b+1),vI 0,vI v0,vI v1,vI v2,vI v3,vI v4,vI v5,vI v0,vI v1,vI v2,vI v3,vI v4,vI v5,.bool false],.agg #[vI 2,vI 130,vI 0]])∧Calm w w':=by
  have hw1:IntKind.i64.wrap (p+1)=p+1:=IntWalk.i64_in _ (by omega);have hw2:IntKind.i64.wrap (b+1)=b+1:=IntWalk.i64_in _ (by omega);go_enter Tryz.func79,Tryz.ntmps79;go_wp2_with fail
  refine(back_L _ _ _ _ _ _ _ _ _ _ _ _ _ _ _ _).mono ?_;rintro e wb ⟨rfl,rfl⟩;go_wp2_with fail
  refine wp_region_once [1] [0,2,3] (fun w'=>w'.cell? ⟨w.heap.size+1+1+1,0,none⟩=some (vI 2)∧w'.cell? ⟨w.heap.size+1+1+1,1,none⟩=some (vI 130)∧w'.cell? ⟨w.heap.size+1+1+1,2,none⟩=some (vI 0)) (by kernel_rfl) (by kernel_rfl) ?_ ?_
  · go_simp
  refine pickList_step (.agg #[vI 2,vI 130,vI 0]) rfl rfl (fun w' hw'=>?_) (fun _ _ _ h=>h) ?_
  · obtain⟨e0,e1,e2⟩:=hw';simp[go_sem,e0,e1,e2]
  simp only[pickList];refine pickSeq_step rfl rfl ?_;unfold Oper.wp;go_simp;refine pickSeq_step rfl rfl ?_;unfold Oper.wp;go_simp;refine pickSeq_step rfl rfl ?_;unfold Oper.wp;go_simp
  try simp only[pickSeq]
  go_wp2;refine bodyPost_ret ?_ rfl ⟨rfl,by repeat (first|exact Fr.refl _ _|refine Fr.alloc ?_ _|refine Fr.drew ?_)⟩;simp[results,Tryz.f79,go_sem]
set_option maxRecDepth 8000 in
theorem tend_x (w:World)(b p r0 r1 r2 r3 r4 r5 v0 v1 v2 v3 v4 v5 v e:Int)(live:Bool)(h0:e≠0)(h1:e≠141)(h2:e≠140)(h3:e≠100)(h4:e≠130)(hb:0≤b∧b≤1000)(hp:0≤p∧p≤1000):Calls Tryz.prog 79 #[.agg #[vI b,vI p,vI r0,vI r1,vI r2,vI r3,vI r4,vI r5,vI v0,vI v1,vI v2,vI v3,vI v4,vI v5,.bool live],vI v,vI e] w fun en w'=>en = .returned (.tuple #[.agg #[vI b,vI (p+1),vI r0,vI r1,vI r2,vI r3,vI r4,vI r5,vI v0,vI v1,vI v2,vI v3,vI v4,vI v5,.bool live],.agg #[vI 2,vI e,vI 0]])∧Calm w w':=by
  have hw1:IntKind.i64.wrap (p+1)=p+1:=IntWalk.i64_in _ (by omega);have hw2:IntKind.i64.wrap (b+1)=b+1:=IntWalk.i64_in _ (by omega);have e0:(e==0)=false:=by simpa using h0
  have e1:(e==141)=false:=by simpa using h1
  have e2:(e==140)=false:=by simpa using h2
  have e3:(e==100)=false:=by simpa using h3
  have e4:(e==130)=false:=by simpa using h4
  go_enter Tryz.func79,Tryz.ntmps79;go_wp2_with fail
  refine wp_region_once [1] [0,2,3] (fun w'=>w'.cell? ⟨w.heap.size+1+1+1,0,none⟩=some (vI 2)∧w'.cell? ⟨w.heap.size+1+1+1,1,none⟩=some (vI e)∧w'.cell? ⟨w.heap.size+1+1+1,2,none⟩=some (vI 0)) (by kernel_rfl) (by kernel_rfl) ?_ ?_
  · go_simp
  refine pickList_step (.agg #[vI 2,vI e,vI 0]) rfl rfl (fun w' hw'=>?_) (fun _ _ _ h=>h) ?_
  · obtain⟨e0,e1,e2⟩:=hw';simp[go_sem,e0,e1,e2]
  simp only[pickList];refine pickSeq_step rfl rfl ?_;unfold Oper.wp;go_simp;refine pickSeq_step rfl rfl ?_;unfold Oper.wp;go_simp;refine pickSeq_step rfl rfl ?_;unfold Oper.wp;go_simp
  try simp only[pickSeq]
  go_wp2;refine bodyPost_ret ?_ rfl ⟨rfl,by repeat (first|exact Fr.refl _ _|refine Fr.alloc ?_ _|refine Fr.drew ?_)⟩;simp[results,Tryz.f79,go_sem]
theorem tend_is (w:World)(x:ThD)(hb:0≤x.b∧x.b≤1000)(hp:0≤x.p∧x.p≤1000)(v e:Int):Calls Tryz.prog 79 #[thV x,vI v,vI e] w (EndP w x v e):=by
  by_cases h0:e=0
  · subst h0;exact(tend_0 w x.b x.p _ _ _ _ _ _ _ _ _ _ _ _ v x.live hb hp).mono fun en w' h=>⟨h.1.trans rfl,h.2⟩
  · by_cases h1:e=141
    · subst h1;exact(tend_141 w x.b x.p _ _ _ _ _ _ _ _ _ _ _ _ v x.live hb hp).mono fun en w' h=>⟨h.1.trans rfl,h.2⟩
    · by_cases h2:e=140
      · subst h2;exact(tend_140 w x.b x.p _ _ _ _ _ _ _ _ _ _ _ _ v x.live hb hp).mono fun en w' h=>⟨h.1.trans rfl,h.2⟩
      · by_cases h3:e=100
        · subst h3;exact(tend_100 w x.b x.p _ _ _ _ _ _ _ _ _ _ _ _ v x.live hb hp).mono fun en w' h=>⟨h.1.trans rfl,h.2⟩
        · by_cases h4:e=130
          · subst h4;exact(tend_130 w x.b x.p _ _ _ _ _ _ _ _ _ _ _ _ v x.live hb hp).mono fun en w' h=>⟨h.1.trans rfl,h.2⟩
          · refine(tend_x w x.b x.p _ _ _ _ _ _ _ _ _ _ _ _ v e x.live h0 h1 h2 h3 h4 hb hp).mono fun en w' h=>⟨h.1.trans ?_,h.2⟩
            have e1:x.endX e = { x with p:=x.p+1 }:=by
              unfold ThD.endX;rw[if_neg h0,if_neg (by omega),if_neg (by omega)]
            rw[e1,if_neg h0];rfl
end
end Go.Proofs.YtdffnjikmkgjkaaGreat
