/- TopMemory: a part of its proof (Pr3 Th1). -/
import Derived.Test.YtdffnjikmkgjkaaGreatTmAA
import Derived.Test.YtdffnjikmkgjkaaGreatTmAQ
import Derived.Test.YtdffnjikmkgjkaaGreatTmAP
import Derived.Test.YtdffnjikmkgjkaaGreatTmAI
set_option linter.unusedSimpArgs false
set_option linter.unusedVariables false
set_option maxHeartbeats 4000000
namespace Go.Proofs.YtdffnjikmkgjkaaGreat
section
open Go.RowKit Go.Shelf
def fld (d:Dd):Nat→Int|0=>d.a|1=>d.b|2=>d.i|_=>d.n
def setF (d:Dd)(v:Int):Nat→Dd|0=>{ d with a:=v } | 1=>{ d with b:=v } | 2=>{ d with i:=v } | _=>{ d with n:=v }
def fillN (d:Dd)(l:List Pt):Dd:=l.foldl (fun c p=>setF c (fld d p.f) p.f) ⟨d.k,0,0,0,0⟩
theorem fillN_snoc (d:Dd)(l:List Pt)(p:Pt):fillN d (l++[p])=setF (fillN d l) (fld d p.f) p.f:=by unfold fillN;rw[List.foldl_append];rfl
theorem rt_parts {d:Dd}(h:d.Rt):∃k:Nat,d.k=k∧1≤k∧k≤14∧(parts k).length≤3∧(∀p∈parts k,p.f≤3∧p.lo≤fld d p.f∧fld d p.f≤p.hi)∧fillN d (parts k)=d:=by
  obtain⟨k,a,b,i,n⟩:=d;simp only[Dd.Rt,R6,R5,R8,RM] at h;rcases h with ⟨rfl,h1,h2,h3,h4⟩|⟨rfl,h1,h2,h3,h4⟩|⟨rfl,h1,h2,h3,h4⟩|⟨rfl,h1,h2,h3,h4⟩|⟨rfl,h1,h2,h3,h4⟩|⟨rfl,h1,h2,h3,h4⟩|⟨rfl,h1,h2,h3,h4⟩|⟨rfl,h1,h2,h3,h4⟩|⟨rfl,h1,h2,h3,h4⟩|⟨rfl,h1,h2,h3,h4⟩|⟨rfl,h1,h2,h3,h4⟩|⟨rfl,h1,h2,h3,h4⟩|⟨rfl,h1,h2,h3,h4⟩|⟨rfl,h1,h2,h3,h4⟩
  · exact⟨1,rfl,by decide,by decide,by decide,by simp[parts,fld];omega,by simp[fillN,parts,setF,fld,h2]⟩
  · exact⟨2,rfl,by decide,by decide,by decide,by simp[parts,fld];omega,by simp[fillN,parts,setF,fld,h2]⟩
  · exact⟨3,rfl,by decide,by decide,by decide,by simp[parts,fld];omega,by simp[fillN,parts,setF,fld,h3,h4]⟩
  · exact⟨4,rfl,by decide,by decide,by decide,by simp[parts,fld];omega,by simp[fillN,parts,setF,fld,h4]⟩
  · exact⟨5,rfl,by decide,by decide,by decide,by simp[parts,fld];omega,by simp[fillN,parts,setF,fld,h4]⟩
  · exact⟨6,rfl,by decide,by decide,by decide,by simp[parts,fld];omega,by simp[fillN,parts,setF,fld,h2,h4]⟩
  · exact⟨7,rfl,by decide,by decide,by decide,by simp[parts,fld];omega,by simp[fillN,parts,setF,fld,h2]⟩
  · exact⟨8,rfl,by decide,by decide,by decide,by simp[parts,fld];omega,by simp[fillN,parts,setF,fld,h2,h3,h4]⟩
  · exact⟨9,rfl,by decide,by decide,by decide,by simp[parts,fld];omega,by simp[fillN,parts,setF,fld,h3,h4]⟩
  · exact⟨10,rfl,by decide,by decide,by decide,by simp[parts,fld];omega,by simp[fillN,parts,setF,fld,h2,h3,h4]⟩
  · exact⟨11,rfl,by decide,by decide,by decide,by simp[parts,fld];omega,by simp[fillN,parts,setF,fld,h3,h4]⟩
  · exact⟨12,rfl,by decide,by decide,by decide,by simp[parts,fld];omega,by simp[fillN,parts,setF,fld,h3,h4]⟩
  · exact⟨13,rfl,by decide,by decide,by decide,by simp[parts,fld];omega,by simp[fillN,parts,setF,fld,h2,h3,h4]⟩
  · exact⟨14,rfl,by decide,by decide,by decide,by simp[parts],by simp[fillN,parts,h1,h2,h3,h4]⟩
end
section
open Go.RowKit Go.Shelf
structure ThD where
  b:Int
  p:Int
  R:List Nat
  V:List Nat
  live:Bool
def rg (l:List Nat)(j:Nat):Value:=vI ((l.getD j 0:Nat):Int)
def thV (x:ThD):Value:=.agg #[vI x.b,vI x.p,rg x.R 0,rg x.R 1,rg x.R 2,rg x.R 3,rg x.R 4,rg x.R 5,rg x.V 0,rg x.V 1,rg x.V 2,rg x.V 3,rg x.V 4,rg x.V 5,.bool x.live]
def thC (x:ThD):List Value:=[vI x.b,vI x.p,rg x.R 0,rg x.R 1,rg x.R 2,rg x.R 3,rg x.R 4,rg x.R 5,rg x.V 0,rg x.V 1,rg x.V 2,rg x.V 3,rg x.V 4,rg x.V 5,.bool x.live]
def acV (k e v:Int):Value:=.agg #[vI k,vI e,vI v]
structure ThOk (n:Nat)(x:ThD):Prop where
  b:0≤x.b∧x.b≤n
  p:0≤x.p∧x.p≤100
  l:x.live=true→x.b<n
  r:x.R.length=6
  v:x.V.length=6
  rp:∀a∈x.R,a≤131072
  vp:∀a∈x.V,a≤131072
def ThD.back (x:ThD):ThD:={ x with R:=x.V,live:=false,p:=0 }
def ThD.endX (x:ThD)(e:Int):ThD:=if e=0 then { x with p:=x.p+1 } else if e=141∨e=140 then x.back else if e=100∨e=130 then { x.back with b:=x.b+1 } else { x with p:=x.p+1 }
def EndP (w:World)(x:ThD)(v e:Int)(en:Ending)(w':World):Prop:=en = .returned (.tuple #[thV (x.endX e),acV 2 e (if e=0 then v else 0)])∧Calm w w'
set_option maxRecDepth 8000 in
theorem back_L (w:World)(b p r0 r1 r2 r3 r4 r5 v0 v1 v2 v3 v4 v5:Int)(live:Bool):Calls Tryz.prog 77 #[.agg #[vI b,vI p,vI r0,vI r1,vI r2,vI r3,vI r4,vI r5,vI v0,vI v1,vI v2,vI v3,vI v4,vI v5,.bool live]] w fun e w'=>e = .returned (.agg #[vI b,vI 0,vI v0,vI v1,vI v2,vI v3,vI v4,vI v5,vI v0,vI v1,vI v2,vI v3,vI v4,vI v5,.bool false])∧w'=(w.alloc (.cells #[vI b,vI 0,vI v0,vI v1,vI v2,vI v3,vI v4,vI v5,vI v0,vI v1,vI v2,vI v3,vI v4,vI v5,.bool false] 34)).alloc (.cells #[vI b,vI 0,vI v0,vI v1,vI v2,vI v3,vI v4,vI v5,vI v0,vI v1,vI v2,vI v3,vI v4,vI v5,.bool false] 34):=by
  go_enter Tryz.func77,Tryz.ntmps77;go_wp2;refine bodyPost_ret ?_ rfl ⟨rfl,rfl⟩;simp[results,Tryz.f77,go_sem]
end
end Go.Proofs.YtdffnjikmkgjkaaGreat
