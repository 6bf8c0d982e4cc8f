/- TopMemory: a part of its proof (HeapB). -/
import Derived.Deep.AppendLies
import Derived.Deep.RegionHeld3
import Derived.Deep.RegionLaw
import Derived.Deep.DrawnRows
import Derived.Test.YtdffnjikmkgjkaaGreatTmAA
import Derived.Test.YtdffnjikmkgjkaaGreatTmAD
set_option linter.unusedSimpArgs false
set_option linter.unusedVariables false
set_option maxHeartbeats 1000000
namespace Go.Proofs.YtdffnjikmkgjkaaGreat
section
open Go.RowKit Go.Shelf
attribute [local go_sem ↓] Go.wp_at_zero Go.wp_at_succ
theorem step_app1 {ops:Array Oper}{o:Oper}{a:Act}{w:World}{K:Act→World→Prop}{Q:Exit→Act→World→Prop}{E:Prop}(hgd:o.guard=none)(s x:Operand)
    (ho:o.op = .call { callee:=.builtin .append,args:=#[s,x],argTypes:=#[23,23] })
    (v:Value) (l:List Int) (hown:ORow w 0 v l) (hs:a.eval s=v) (y:Int) (ad:Addr) (c:Nat) (hx:a.eval x = .slice (some ad) 1 c) (hc:w.cell? ad=some (vI y)) (hl:l.length≤1000000)
    (h:∀g c w',ORow w' 0 (.slice (some ⟨g,0,none⟩) (l.length+1) c) (l++[y])→Fr (InB v) w w'→(InB v g∨g=w.heap.size)→K (a.put o.dst (.slice (some ⟨g,0,none⟩) (l.length+1) c)) w') :
    if Region.wanted o (yielded ops a.tmps)=true then Oper.wp Tryz.prog o a w K Q else E:=by
  obtain⟨i0,hi,hz0,hz1,hz2⟩:=info_parts info_int;refine step_append_lies w hgd s x 23 ho 0 3 i0 (vI 0) 1 8 Tryz.underlying23 hi hz0 hz1 hz2 rfl (by decide) v l.length (iVs l) hs hown ad 1 c [vI y] hx rfl (fun j u hj=>?_) (by simp[Value.oneCell']) (by omega) (by unfold maxLen;omega) (by omega) (Nat.zero_le _) _ rfl ?_
  · match j with
    | 0=>simp at hj;subst hj;simpa[Addr.add] using hc
    | j+1=>simp at hj
  intro g cap w' hown' hgrow hloc _;refine h g cap w' ?_ (Fr.grown (Fr.refl _ _) hgrow (fun k hk=>.inl hk)) ?_
  · show World.ownsRow _ _ _ _ _ _ _;rw[List.length_append,iVs,List.map_append];exact hown'
  · exact hloc
theorem taken_0 {w:World}{hp:Nat}{c0 c1 c2 c3 c4 c5 c6 c7 c8 c10 c11 c12 c13 c14 c15:Value}(h:OwnL w hp [c0,c1,c2,c3,c4,c5,c6,c7,c8,vI 0,c10,c11,c12,c13,c14,c15])
    {l:List Int} (hr:ORow w 0 c7 l) (hn:¬InB c7 hp) (hl:l.length≤100000) (b s t a:Int) :
    Calls Tryz.prog 167 #[.pointer (some ⟨hp,0,none⟩),spV b s t,vI a] w fun e w'=>e = .returned (.tuple #[])∧∃v',
      OwnL w' hp ((([c0,c1,c2,c3,c4,c5,c6,c7,c8,vI 0,c10,c11,c12,c13,c14,c15].set 1 (vI b)).set 2 (vI s)).set 3 (vI t) |>.set 7 v') ∧
      ORow w' 0 v' (l++[a])∧Fr (fun k=>k=hp∨InB c7 k) w w'∧∀k,InB v' k→InB c7 k∨w.heap.size≤k:=by
  have hlt:=h.lt (by simp);obtain⟨sa,sn,sc,rfl⟩:=hr.letters;have H:=hid h;have y0:=(h 1 _ rfl).1;have y1:=(h 2 _ rfl).1;have y2:=(h 3 _ rfl).1;have z0:=(h 1 _ rfl).2;have z1:=(h 2 _ rfl).2;have z2:=(h 3 _ rfl).2;have y9:=(h 9 _ rfl).1;replace hn:=hid hn;have hr0:=hid hr;clear h hr;have ne1:hp≠w.heap.size:=by omega
  have ne2:w.heap.size≠hp:=by omega
  go_enter Tryz.func167,Tryz.ntmps167;go_wp2_with fail
  go_region
  generalize hW1:World.drew _=W1
  have f1:Fr (fun k=>k=hp) w W1:=by
    rw[←hW1];exact((((Fr.refl (fun k=>k=hp) w).setCell (p:=⟨hp,1,none⟩) (.inl rfl) _).setCell (p:=⟨hp,2,none⟩) (.inl rfl) _).setCell (p:=⟨hp,3,none⟩) (.inl rfl) _).alloc _ |>.drew
  have H1:=H.out;replace H1:=(((H1.set 1 (vI b) (by simp)).set 2 (vI s) (by simp)).set 3 (vI t) (by simp)).alloc (.cells #[vI b,vI s,vI t] 133);replace H1:OwnL W1 hp _:=fun i v hv=>by rw[←hW1];exact(H1 i v hv).drew
  have hr1:=hid (hr0.out.frB f1 (fun k hk e=>hn.out (e ▸ hk)));replace f1:=hid f1;have hlt1:hp<W1.heap.size:=H1.lt (by simp);simp only[List.set_cons_zero,List.set_cons_succ] at H1;clear hW1 y0 y1 y2 z0 z1 z2 y9 H;go_wp2_with fail
  have u9:=(H1 9 _ rfl).1;have u7:=(H1 7 _ rfl).1;have v7:=(H1 7 _ rfl).2;replace H1:=hid H1;have ne3:hp≠W1.heap.size:=by omega
  have ne4:W1.heap.size≠hp:=by omega
  clear ne1 ne2
  go_region_law
    ((refine step_app1 rfl _ _ rfl (.slice sa sn sc) l (hr1.out.calm (by first|exact(Fr.refl _ _).alloc _|exact((Fr.refl _ _).drew).alloc _|exact((Fr.refl _ _).alloc _).drew)) rfl a ⟨W1.heap.size,0,none⟩ 1 rfl (by simp) (by omega) ?_;intro g gc W3 hr3 f3 hg;have ka:Fr (InB (.slice sa sn sc)) W1 W3:=Fr.trans (by first|exact(Fr.refl _ _).alloc _|exact((Fr.refl _ _).drew).alloc _|exact((Fr.refl _ _).alloc _).drew) f3;have q9:=ka.cellAt u9 hn.out;have q7:=ka.cellAt u7 hn.out;have p7:=ka.frozenAt u7 v7 hn.out;replace hr3:=hid hr3;replace hg:=hid hg;replace f3:=hid f3;replace ka:=hid ka))
  all_goals
    have hs3:=f1.out.size;have H3:=(H1.out.fr ka.out hn.out).set 7 (.slice (some ⟨g,0,none⟩) (l.length+1) gc) (by simp);have k3:=((f1.out.mono (T:=fun k=>k=hp∨InB (.slice sa sn sc) k) (fun k _ e=>.inl e)).trans (ka.out.mono (fun k _ e=>.inr e))).setCell (p:=⟨hp,7,none⟩) (.inl (.inl rfl)) (.slice (some ⟨g,0,none⟩) (l.length+1) gc);have hg':=hg.out;simp only[World.drew,World.alloc,Array.size_push] at hg'
    have hgx:g≠hp:=by
      rintro rfl;rcases hg' with hg'|hg'
      · exact hn.out hg'
      · omega
    have r3:=hr3.out.frB ((Fr.refl (fun b=>b=hp) W3).setCell (p:=⟨hp,7,none⟩) (.inl rfl) (.slice (some ⟨g,0,none⟩) (l.length+1) gc)) (fun k hk e=>hgx ((InB.mk1 hk).symm.trans e))
    have hn3:∀k,InB (.slice (some ⟨g,0,none⟩) (l.length+1) gc) k→InB (.slice sa sn sc) k∨w.heap.size≤k:=fun k hk=>by
      rw[InB.mk1 hk];rcases hg' with hg'|hg'
      · exact .inl hg'
      · right;omega
    replace H3:=hid H3;replace k3:=hid k3;replace r3:=hid r3;replace hn3:=hid hn3;clear hg' hgx hg hr3 f3 ka H1 f1 hr1 hr0;refine bodyPost_end (by simp[results,Tryz.f167,go_sem]) rfl ⟨rfl,.slice (some ⟨g,0,none⟩) (l.length+1) gc,H3.out,r3.out,k3.out,hn3.out⟩
theorem taken_1 {w:World}{hp:Nat}{c0 c1 c2 c3 c4 c5 c6 c7 c8 c10 c11 c12 c13 c14 c15:Value}(h:OwnL w hp [c0,c1,c2,c3,c4,c5,c6,c7,c8,vI 1,c10,c11,c12,c13,c14,c15])
    {l:List Int} (hr:ORow w 0 c8 l) (hn:¬InB c8 hp) (hl:l.length≤100000) (b s t a:Int) :
    Calls Tryz.prog 167 #[.pointer (some ⟨hp,0,none⟩),spV b s t,vI a] w fun e w'=>e = .returned (.tuple #[])∧∃v',
      OwnL w' hp ((([c0,c1,c2,c3,c4,c5,c6,c7,c8,vI 1,c10,c11,c12,c13,c14,c15].set 4 (vI b)).set 5 (vI s)).set 6 (vI t) |>.set 8 v') ∧
      ORow w' 0 v' (l++[a])∧Fr (fun k=>k=hp∨InB c8 k) w w'∧∀k,InB v' k→InB c8 k∨w.heap.size≤k:=by
  have hlt:=h.lt (by simp);obtain⟨sa,sn,sc,rfl⟩:=hr.letters;have H:=hid h;have y0:=(h 4 _ rfl).1;have y1:=(h 5 _ rfl).1;have y2:=(h 6 _ rfl).1;have z0:=(h 4 _ rfl).2;have z1:=(h 5 _ rfl).2;have z2:=(h 6 _ rfl).2;have y9:=(h 9 _ rfl).1;replace hn:=hid hn;have hr0:=hid hr;clear h hr;have ne1:hp≠w.heap.size:=by omega
  have ne2:w.heap.size≠hp:=by omega
  go_enter Tryz.func167,Tryz.ntmps167;go_wp2_with fail
  go_region
  generalize hW1:World.drew _=W1
  have f1:Fr (fun k=>k=hp) w W1:=by
    rw[←hW1];exact((((Fr.refl (fun k=>k=hp) w).setCell (p:=⟨hp,4,none⟩) (.inl rfl) _).setCell (p:=⟨hp,5,none⟩) (.inl rfl) _).setCell (p:=⟨hp,6,none⟩) (.inl rfl) _).alloc _ |>.drew
  have H1:=H.out;replace H1:=(((H1.set 4 (vI b) (by simp)).set 5 (vI s) (by simp)).set 6 (vI t) (by simp)).alloc (.cells #[vI b,vI s,vI t] 133);replace H1:OwnL W1 hp _:=fun i v hv=>by rw[←hW1];exact(H1 i v hv).drew
  have hr1:=hid (hr0.out.frB f1 (fun k hk e=>hn.out (e ▸ hk)));replace f1:=hid f1;have hlt1:hp<W1.heap.size:=H1.lt (by simp);simp only[List.set_cons_zero,List.set_cons_succ] at H1;clear hW1 y0 y1 y2 z0 z1 z2 y9 H;go_wp2_with fail
  have u9:=(H1 9 _ rfl).1;have u7:=(H1 8 _ rfl).1;have v7:=(H1 8 _ rfl).2;replace H1:=hid H1;have ne3:hp≠W1.heap.size:=by omega
  have ne4:W1.heap.size≠hp:=by omega
  clear ne1 ne2
  go_region_law
    ((refine step_app1 rfl _ _ rfl (.slice sa sn sc) l (hr1.out.calm (by first|exact(Fr.refl _ _).alloc _|exact((Fr.refl _ _).drew).alloc _|exact((Fr.refl _ _).alloc _).drew)) rfl a ⟨W1.heap.size,0,none⟩ 1 rfl (by simp) (by omega) ?_;intro g gc W3 hr3 f3 hg;have ka:Fr (InB (.slice sa sn sc)) W1 W3:=Fr.trans (by first|exact(Fr.refl _ _).alloc _|exact((Fr.refl _ _).drew).alloc _|exact((Fr.refl _ _).alloc _).drew) f3;have q9:=ka.cellAt u9 hn.out;have q7:=ka.cellAt u7 hn.out;have p7:=ka.frozenAt u7 v7 hn.out;replace hr3:=hid hr3;replace hg:=hid hg;replace f3:=hid f3;replace ka:=hid ka))
  all_goals
    have hs3:=f1.out.size;have H3:=(H1.out.fr ka.out hn.out).set 8 (.slice (some ⟨g,0,none⟩) (l.length+1) gc) (by simp);have k3:=((f1.out.mono (T:=fun k=>k=hp∨InB (.slice sa sn sc) k) (fun k _ e=>.inl e)).trans (ka.out.mono (fun k _ e=>.inr e))).setCell (p:=⟨hp,8,none⟩) (.inl (.inl rfl)) (.slice (some ⟨g,0,none⟩) (l.length+1) gc);have hg':=hg.out;simp only[World.drew,World.alloc,Array.size_push] at hg'
    have hgx:g≠hp:=by
      rintro rfl;rcases hg' with hg'|hg'
      · exact hn.out hg'
      · omega
    have r3:=hr3.out.frB ((Fr.refl (fun b=>b=hp) W3).setCell (p:=⟨hp,8,none⟩) (.inl rfl) (.slice (some ⟨g,0,none⟩) (l.length+1) gc)) (fun k hk e=>hgx ((InB.mk1 hk).symm.trans e))
    have hn3:∀k,InB (.slice (some ⟨g,0,none⟩) (l.length+1) gc) k→InB (.slice sa sn sc) k∨w.heap.size≤k:=fun k hk=>by
      rw[InB.mk1 hk];rcases hg' with hg'|hg'
      · exact .inl hg'
      · right;omega
    replace H3:=hid H3;replace k3:=hid k3;replace r3:=hid r3;replace hn3:=hid hn3;clear hg' hgx hg hr3 f3 ka H1 f1 hr1 hr0;refine bodyPost_end (by simp[results,Tryz.f167,go_sem]) rfl ⟨rfl,.slice (some ⟨g,0,none⟩) (l.length+1) gc,H3.out,r3.out,k3.out,hn3.out⟩
end
section
open Go.RowKit Go.Shelf
theorem OwnL.drew {w:World}{B:Nat}{vs:List Value}(h:OwnL w B vs):OwnL w.drew B vs:=fun i v hv=>(h i v hv).drew
def HS.start (n:Nat):HS:=⟨n,false,false,[],[],0,0,[],[]⟩
theorem HRep.start {n:Nat}(h1:16≤n)(h2:n≤16384):HRep (HS.start n) (List.replicate (2*n+1) 0):=
  ⟨h1,h2,by simp[HS.start],by simp[List.getD,List.getElem?_replicate],⟨rfl,rfl,fun i hi=>by simp[HS.start] at hi,fun i j t hi=>by simp[HS.start] at hi⟩,Nat.zero_le _,Nat.zero_le _,fun _=>rfl,Nat.zero_le _,⟨Nat.zero_le _,Nat.zero_le _⟩⟩
set_option maxRecDepth 4000 in
theorem hnew_yes (w:World)(n:Nat)(h1:16≤n)(h2:n≤16384) :
    Calls Tryz.prog 31 #[vI n] w fun e w'=>∃B,e = .returned (.tuple #[hpV B,vI 0])∧HAt w' B (HS.start n) (List.replicate (2*n+1) 0)∧Calm w w'∧∀k,HBlk B k→w.heap.size≤k:=by
  go_enter Tryz.func31,Tryz.ntmps31;go_wp2_with fail
  have e1:(2:Int)*n+1=((2*n+1:Nat):Int):=by push_cast;rfl
  rw[e1];clear e1;refine(new_yes _ (2*n+1) (by omega) (by omega)).mono ?_;rintro e w1 ⟨p,c,rfl,ar,k1,hp,hc⟩;replace ar:=hid ar;go_wp2_with fail
  refine(make_yes 1 n _ (by omega) (by omega) (by omega) (by omega)).mono ?_;rintro e w2 ⟨rfl,k2⟩;go_wp2_with fail
  obtain⟨k3,s1⟩:=newL w2 [vI 1,vI n,vI 1] 133;refine(make_yes (1+n) n _ (by omega) (by omega) (by omega) (by omega)).mono ?_;rintro e w4 ⟨rfl,k4⟩;replace s1:=s1.calm k4;replace k4:=k3.trans k4;generalize w2.heap.size=S1 at *;obtain⟨x0,x1,x2⟩:=OwnL.ce3 s1;have lt4:=s1.lt (by simp);have ne1:S1≠w4.heap.size:=by omega
  have ne2:w4.heap.size≠S1:=by omega
  clear s1 k3;go_wp2;have k5:Calm w w4:=(k1.trans k2).trans k4;have hw1:=k1.size
  have hc1:c<w4.heap.size:=by
    have h24:=(k2.trans k4).size;obtain⟨_,⟨t,ht⟩,_⟩:=ar.out;have:=(Array.getElem?_eq_some_iff.1 ht).1;omega
  have hp1:p<w4.heap.size:=by have:=ar.out.lt;have h24:=(k2.trans k4).size;omega
  have ar4:=ar.out.calm (k2.trans k4);clear x0 x1 x2
  refine bodyPost_ret (v:=.tuple #[.pointer (some ⟨w4.heap.size+1,0,none⟩),vI 0]) (by simp[results,Tryz.f31,go_sem]) rfl
    ⟨⟨w4.heap.size+1,p,c,.slice none 0 0,.slice none 0 0,.slice none 0 0,.slice none 0 0⟩,rfl,⟨?_,?_,?_,?_,?_,?_,HRep.start h1 h2,?_,?_,?_,?_⟩,(k5.alloc _).alloc _,?_⟩
  · exact OwnL.at _ [_,_,_,_,_,_,_,_,_,_,_,_,_,_,_,_] _ _ (by simp)
  · exact(ar4.calm ((Fr.refl _ _).alloc _)).calm ((Fr.refl _ _).alloc _)
  · exact World.ownsRow_nil _ _ _ _
  · exact World.ownsRow_nil _ _ _ _
  · exact World.ownsRow_nil _ _ _ _
  · exact World.ownsRow_nil _ _ _ _
  · show w4.heap.size+1≠p;omega
  · show w4.heap.size+1≠c;omega
  · simp[HB.vs,Aprt,InB.nil]
  · intro v hv;simp[HB.vs] at hv;subst hv;exact⟨InB.nil _,InB.nil _,InB.nil _⟩
  · rintro k (rfl|rfl|rfl|⟨v,hv,hk⟩)
    · have:=k5.size;show w.heap.size≤w4.heap.size+1;omega
    · exact hp
    · exact hc
    · simp[HB.vs] at hv;subst hv;exact absurd hk (InB.nil _)
theorem flip_0 {w:World}{hp:Nat}{b0 s0 t0 b1 s1 t1:Int}{c0 c7 c8 c11 c12 c13 c14 c15:Value}(h:OwnL w hp [c0,vI b0,vI s0,vI t0,vI b1,vI s1,vI t1,c7,c8,vI 0,.bool false,c11,c12,c13,c14,c15])
    (h0:okP b0 s0 t0) (h1:okP b1 s1 t1) :
    Calls Tryz.prog 66 #[.pointer (some ⟨hp,0,none⟩)] w fun e w'=>e = .returned (.bool true) ∧
      OwnL w' hp (((((([c0,vI b0,vI s0,vI t0,vI b1,vI s1,vI t1,c7,c8,vI 1,.bool true,c11,c12,c13,c14,c15].set 6 (vI b1)).set 8 (.slice none 0 0))).set 11 (vI (t0-b0))).set 12 (vI b1))) ∧
      Fr (fun k=>k=hp) w w':=by
  have hlt:=h.lt (by simp);have H:=hid h;have y0:=(h 0 _ rfl).1;have z0:=(h 0 _ rfl).2;have y1:=(h 1 _ rfl).1;have z1:=(h 1 _ rfl).2;have y2:=(h 2 _ rfl).1;have z2:=(h 2 _ rfl).2;have y3:=(h 3 _ rfl).1;have z3:=(h 3 _ rfl).2;have y4:=(h 4 _ rfl).1;have z4:=(h 4 _ rfl).2;have y5:=(h 5 _ rfl).1;have z5:=(h 5 _ rfl).2;have y6:=(h 6 _ rfl).1;have z6:=(h 6 _ rfl).2;have y7:=(h 7 _ rfl).1;have z7:=(h 7 _ rfl).2;have y8:=(h 8 _ rfl).1;have z8:=(h 8 _ rfl).2;have y9:=(h 9 _ rfl).1;have z9:=(h 9 _ rfl).2;have y10:=(h 10 _ rfl).1;have z10:=(h 10 _ rfl).2;have y11:=(h 11 _ rfl).1;have z11:=(h 11 _ rfl).2;have y12:=(h 12 _ rfl).1;have z12:=(h 12 _ rfl).2;have y13:=(h 13 _ rfl).1;have z13:=(h 13 _ rfl).2;have y14:=(h 14 _ rfl).1;have z14:=(h 14 _ rfl).2;have y15:=(h 15 _ rfl).1;have z15:=(h 15 _ rfl).2;clear h;go_enter Tryz.func66,Tryz.ntmps66;go_wp2_with fail
  generalize hW1:World.setCell _ _ _=W1;have f1:Fr (fun k=>k=hp) w W1:=by rw[←hW1];exact(Fr.refl (fun k=>k=hp) w).setCell (p:=⟨hp,9,none⟩) (.inl rfl) _
  have H1:=H.out.set 9 (vI 1) (by simp);rw[hW1] at H1;simp only[List.set_cons_zero,List.set_cons_succ] at H1;clear hW1 H y0 y1 y2 y3 y4 y5 y6 y7 y8 y9 y10 y11 y12 y13 y14 y15 z0 z1 z2 z3 z4 z5 z6 z7 z8 z9 z10 z11 z12 z13 z14 z15;have q9:=lat H1 9 rfl;have q1:=lat H1 4 rfl;have q2:=lat H1 5 rfl;have q3:=lat H1 6 rfl;replace H1:=hid H1;have hem:=hid (fun W=>empty_any b1 s1 t1 W h1);refine wp_region_calm_tail 18 (by kernel_rfl) (by kernel_rfl) ?_;simp only[List.take_succ_cons,List.take_zero,List.drop_succ_cons,List.drop_zero]
  repeat (go_big_quiet_step ((go_at_call 108;exact Calls.calm_of (hem.out _))))
  refine wpQuiet_nil ?_;intro W2 hw';have c2:=Later.out hw';clear hw' q9 q1 q2 q3 hem;replace H1:=H1.out.calm c2;have u1:=(H1 4 _ rfl).1;have u2:=(H1 5 _ rfl).1;have u3:=(H1 6 _ rfl).1;have v1:=(H1 4 _ rfl).2;have v2:=(H1 5 _ rfl).2;have v3:=(H1 6 _ rfl).2;replace H1:=hid H1;replace f1:=f1.trans (Calm.any c2);go_wp2_with fail
  generalize hW3:World.setCell _ _ _=W3;have H3:=((H1.out.set 4 (vI b1) (by simp)).set 5 (vI s1) (by simp)).set 6 (vI b1) (by simp);have f3:=((f1.setCell (p:=⟨hp,4,none⟩) (.inl rfl) (vI b1)).setCell (p:=⟨hp,5,none⟩) (.inl rfl) (vI s1)).setCell (p:=⟨hp,6,none⟩) (.inl rfl) (vI b1);rw[hW3] at H3 f3;simp only[List.set_cons_zero,List.set_cons_succ] at H3;clear hW3 u1 u2 u3 v1 v2 v3 H1 f1 c2;have u1:=(H3 9 _ rfl).1;have u2:=(H3 8 _ rfl).1;have v2:=(H3 8 _ rfl).2;have u3:=(H3 10 _ rfl).1;have v3:=(H3 10 _ rfl).2;have u4:=(H3 1 _ rfl).1;have u5:=(H3 2 _ rfl).1;have u6:=(H3 3 _ rfl).1;replace H3:=hid H3;go_wp2_with fail
  go_region
  go_wp2_with fail
  generalize hW4:World.drew _=W4;have H4:=((H3.out.set 8 (.slice none 0 0) (by simp)).set 10 (.bool true) (by simp)).drew;have f4:=((f3.setCell (p:=⟨hp,8,none⟩) (.inl rfl) (.slice none 0 0)).setCell (p:=⟨hp,10,none⟩) (.inl rfl) (.bool true)).drew;rw[hW4] at H4 f4;simp only[List.set_cons_zero,List.set_cons_succ] at H4;clear hW4 u1 u2 u3 v2 v3 u4 u5 u6 H3 f3;replace H4:=hid H4;refine(used_any b0 s0 t0 W4 h0).mono ?_;rintro e W5 ⟨rfl,c5⟩;have H5:=H4.out.calm c5;have f5:=f4.trans (Calm.any c5);have u1:=(H5 9 _ rfl).1;have u2:=(H5 11 _ rfl).1;have v2:=(H5 11 _ rfl).2;have u3:=(H5 12 _ rfl).1;have v3:=(H5 12 _ rfl).2;have u4:=(H5 4 _ rfl).1;replace H5:=hid H5;clear H4 f4 c5;go_wp2_with fail
  go_region
  go_wp2;go_ret;refine⟨rfl,?_,?_⟩
  · have H6:=((H5.out.set 11 (vI (t0-b0)) (by simp)).set 12 (vI b1) (by simp));exact H6.drew
  · exact((f5.setCell (p:=⟨hp,11,none⟩) (.inl rfl) _).setCell (p:=⟨hp,12,none⟩) (.inl rfl) _).drew
theorem flip_1 {w:World}{hp:Nat}{b0 s0 t0 b1 s1 t1:Int}{c0 c7 c8 c11 c12 c13 c14 c15:Value}(h:OwnL w hp [c0,vI b0,vI s0,vI t0,vI b1,vI s1,vI t1,c7,c8,vI 1,.bool false,c11,c12,c13,c14,c15])
    (h0:okP b0 s0 t0) (h1:okP b1 s1 t1) :
    Calls Tryz.prog 66 #[.pointer (some ⟨hp,0,none⟩)] w fun e w'=>e = .returned (.bool true) ∧
      OwnL w' hp (((((([c0,vI b0,vI s0,vI t0,vI b1,vI s1,vI t1,c7,c8,vI 0,.bool true,c11,c12,c13,c14,c15].set 3 (vI b0)).set 7 (.slice none 0 0))).set 11 (vI (t1-b1))).set 12 (vI b0))) ∧
      Fr (fun k=>k=hp) w w':=by
  have hlt:=h.lt (by simp);have H:=hid h;have y0:=(h 0 _ rfl).1;have z0:=(h 0 _ rfl).2;have y1:=(h 1 _ rfl).1;have z1:=(h 1 _ rfl).2;have y2:=(h 2 _ rfl).1;have z2:=(h 2 _ rfl).2;have y3:=(h 3 _ rfl).1;have z3:=(h 3 _ rfl).2;have y4:=(h 4 _ rfl).1;have z4:=(h 4 _ rfl).2;have y5:=(h 5 _ rfl).1;have z5:=(h 5 _ rfl).2;have y6:=(h 6 _ rfl).1;have z6:=(h 6 _ rfl).2;have y7:=(h 7 _ rfl).1;have z7:=(h 7 _ rfl).2;have y8:=(h 8 _ rfl).1;have z8:=(h 8 _ rfl).2;have y9:=(h 9 _ rfl).1;have z9:=(h 9 _ rfl).2;have y10:=(h 10 _ rfl).1;have z10:=(h 10 _ rfl).2;have y11:=(h 11 _ rfl).1;have z11:=(h 11 _ rfl).2;have y12:=(h 12 _ rfl).1;have z12:=(h 12 _ rfl).2;have y13:=(h 13 _ rfl).1;have z13:=(h 13 _ rfl).2;have y14:=(h 14 _ rfl).1;have z14:=(h 14 _ rfl).2;have y15:=(h 15 _ rfl).1;have z15:=(h 15 _ rfl).2;clear h;go_enter Tryz.func66,Tryz.ntmps66;go_wp2_with fail
  generalize hW1:World.setCell _ _ _=W1;have f1:Fr (fun k=>k=hp) w W1:=by rw[←hW1];exact(Fr.refl (fun k=>k=hp) w).setCell (p:=⟨hp,9,none⟩) (.inl rfl) _
  have H1:=H.out.set 9 (vI 0) (by simp);rw[hW1] at H1;simp only[List.set_cons_zero,List.set_cons_succ] at H1;clear hW1 H y0 y1 y2 y3 y4 y5 y6 y7 y8 y9 y10 y11 y12 y13 y14 y15 z0 z1 z2 z3 z4 z5 z6 z7 z8 z9 z10 z11 z12 z13 z14 z15;have q9:=lat H1 9 rfl;have q1:=lat H1 1 rfl;have q2:=lat H1 2 rfl;have q3:=lat H1 3 rfl;replace H1:=hid H1;have hem:=hid (fun W=>empty_any b0 s0 t0 W h0);refine wp_region_calm_tail 18 (by kernel_rfl) (by kernel_rfl) ?_;simp only[List.take_succ_cons,List.take_zero,List.drop_succ_cons,List.drop_zero]
  repeat (go_big_quiet_step ((go_at_call 108;exact Calls.calm_of (hem.out _))))
  refine wpQuiet_nil ?_;intro W2 hw';have c2:=Later.out hw';clear hw' q9 q1 q2 q3 hem;replace H1:=H1.out.calm c2;have u1:=(H1 1 _ rfl).1;have u2:=(H1 2 _ rfl).1;have u3:=(H1 3 _ rfl).1;have v1:=(H1 1 _ rfl).2;have v2:=(H1 2 _ rfl).2;have v3:=(H1 3 _ rfl).2;replace H1:=hid H1;replace f1:=f1.trans (Calm.any c2);go_wp2_with fail
  generalize hW3:World.setCell _ _ _=W3;have H3:=((H1.out.set 1 (vI b0) (by simp)).set 2 (vI s0) (by simp)).set 3 (vI b0) (by simp);have f3:=((f1.setCell (p:=⟨hp,1,none⟩) (.inl rfl) (vI b0)).setCell (p:=⟨hp,2,none⟩) (.inl rfl) (vI s0)).setCell (p:=⟨hp,3,none⟩) (.inl rfl) (vI b0);rw[hW3] at H3 f3;simp only[List.set_cons_zero,List.set_cons_succ] at H3;clear hW3 u1 u2 u3 v1 v2 v3 H1 f1 c2;have u1:=(H3 9 _ rfl).1;have u2:=(H3 7 _ rfl).1;have v2:=(H3 7 _ rfl).2;have u3:=(H3 10 _ rfl).1;have v3:=(H3 10 _ rfl).2;have u4:=(H3 4 _ rfl).1;have u5:=(H3 5 _ rfl).1;have u6:=(H3 6 _ rfl).1;replace H3:=hid H3;go_wp2_with fail
  go_region
  go_wp2_with fail
  generalize hW4:World.drew _=W4;have H4:=((H3.out.set 7 (.slice none 0 0) (by simp)).set 10 (.bool true) (by simp)).drew;have f4:=((f3.setCell (p:=⟨hp,7,none⟩) (.inl rfl) (.slice none 0 0)).setCell (p:=⟨hp,10,none⟩) (.inl rfl) (.bool true)).drew;rw[hW4] at H4 f4;simp only[List.set_cons_zero,List.set_cons_succ] at H4;clear hW4 u1 u2 u3 v2 v3 u4 u5 u6 H3 f3;replace H4:=hid H4;refine(used_any b1 s1 t1 W4 h1).mono ?_;rintro e W5 ⟨rfl,c5⟩;have H5:=H4.out.calm c5;have f5:=f4.trans (Calm.any c5);have u1:=(H5 9 _ rfl).1;have u2:=(H5 11 _ rfl).1;have v2:=(H5 11 _ rfl).2;have u3:=(H5 12 _ rfl).1;have v3:=(H5 12 _ rfl).2;have u4:=(H5 1 _ rfl).1;replace H5:=hid H5;clear H4 f4 c5;go_wp2_with fail
  go_region
  go_wp2;go_ret;refine⟨rfl,?_,?_⟩
  · have H6:=((H5.out.set 11 (vI (t1-b1)) (by simp)).set 12 (vI b0) (by simp));exact H6.drew
  · exact((f5.setCell (p:=⟨hp,11,none⟩) (.inl rfl) _).setCell (p:=⟨hp,12,none⟩) (.inl rfl) _).drew
end
section
open Go.RowKit Go.Shelf
theorem flip_otop (s:HS):s.flip.otop=s.top:=by
  show s.flip.base (!s.flip.u)+tookO (s.cur.map fun x=>(x.1,x.2,none))=_;have hb:s.flip.base (!s.flip.u)=s.base s.u:=by show s.base (!!s.u)=_;rw[Bool.not_not]
  rw[hb,tookO_fresh];rfl
theorem flip_top (s:HS):s.flip.top=s.base (!s.u):=rfl
theorem flip_owed (s:HS):owed s.flip.old=tookC s.cur:=owed_fresh s.cur
theorem flip_opl (s:HS):opl s.flip.old=plc s.cur:=by
  show(s.cur.map fun x=>(x.1,x.2,(none:Option Nat))).map (·.1)=s.cur.map (·.1);rw[List.map_map];rfl
def HB.flip (B:HB)(u:Bool):HB:=bif u then { B with v0:=.slice none 0 0 } else { B with v1:=.slice none 0 0 }
theorem hflip_yes {w:World}{B:HB}{s:HS}{X:List Nat}(h:HAt w B s X)(hm:s.mv=false) :
    Calls Tryz.prog 66 #[hpV B] w fun e w'=>e = .returned (.bool true)∧HAt w' (B.flip s.u) s.flip X∧HKeep w B w' (B.flip s.u):=by
  have k0:=okP_cur h.rep;have k1:=okP_old h.rep;have hrep:=h.rep.flip hm;have hc:=h.cs;have nn:=h.none_;have hap:=h.apart;have e1:=flip_otop s;have e2:=flip_top s;have e3:=flip_owed s;have e4:=flip_opl s;have hin:=InB.nil;simp only[HB.vs,List.mem_cons,List.not_mem_nil,or_false,forall_eq_or_imp,forall_eq] at nn;simp only[HB.vs,List.pairwise_cons,List.mem_cons,List.not_mem_nil,or_false,forall_eq_or_imp,forall_eq] at hap;cases hu:s.u
  · have hu2:s.flip.u=true:=by show(!s.u)=true;rw[hu];rfl
    have b0:s.base false=1:=rfl;have b1:s.base true=1+s.n:=rfl;rw[hu] at k0 k1;simp only[Bool.not_false,b0,b1] at k0 k1;simp only[hcells,hu,hm,cond_false] at hc;refine(flip_0 (b0:=1) (b1:=1+s.n) hc (by simpa using k0) (by simpa using k1)).mono ?_;rintro e w' ⟨rfl,H,f⟩;refine⟨rfl,⟨?_,?_,?_,?_,?_,?_,hrep,h.hap,h.hac,?_,?_⟩,⟨f.mono (fun k _ e=>.inl e),?_,rfl⟩⟩
    · have:hcells (B.flip false) s.flip=[arV B.ap,vI 1,vI s.n,vI (s.top:Nat),vI (1+s.n),vI s.n,vI (1+s.n),B.v0,.slice none 0 0,vI 1,.bool true,vI ((s.top:Nat)-1),vI (1+s.n),vI s.ser,B.vw,B.vf]:=by
        have e5:((tookC s.cur:Nat):Int)=(s.top:Nat)-1:=by unfold HS.top;rw[hu,b0];push_cast;omega
        have e6:((s.base true:Nat):Int)=1+s.n:=by rw[b1];push_cast;rfl
        have e7:s.flip.scan=s.base true:=by show s.base (!s.u)=_;rw[hu];rfl
        rw[hu] at e2;simp only[Bool.not_false] at e2;simp only[hcells,hu2,cond_true,e1,e2,e3,e5,e6,e7,HB.flip,cond_false];rfl
      rw[this];exact H
    · exact h.ar.fr f (by simpa using Ne.symm h.hap) (by simpa using Ne.symm h.hac)
    · have:=h.r0.frB f (fun k hk e=>nn.1.1 (e ▸ hk));simp only[l0,hu,cond_false] at this;simp only[l0,hu2,cond_true,e4,HB.flip,cond_false];exact this
    · simp only[l1,hu2,cond_true,HB.flip,cond_false];exact World.ownsRow_nil _ _ _ _
    · exact h.rw.frB f (fun k hk e=>nn.2.2.1.1 (e ▸ hk))
    · exact h.rf.frB f (fun k hk e=>nn.2.2.2.1 (e ▸ hk))
    · simp only[HB.vs,HB.flip,cond_false,List.pairwise_cons,List.mem_cons,List.not_mem_nil,or_false,forall_eq_or_imp,forall_eq];exact⟨⟨fun k _ h2=>hin k h2,hap.1.2.1,hap.1.2.2⟩,⟨fun k h1 _=>hin k h1,fun k h1 _=>hin k h1⟩,hap.2.2.1,by simp,List.Pairwise.nil⟩
    · intro v hv;simp only[HB.vs,HB.flip,cond_false,List.mem_cons,List.not_mem_nil,or_false] at hv;rcases hv with rfl|rfl|rfl|rfl
      · exact nn.1
      · exact⟨hin _,hin _,hin _⟩
      · exact nn.2.2.1
      · exact nn.2.2.2
    · rintro k (hk|hk|hk|⟨v,hv,hk⟩)
      · exact .inl (.inl hk)
      · exact .inl (.inr (.inl hk))
      · exact .inl (.inr (.inr (.inl hk)))
      · simp only[HB.vs,HB.flip,cond_false,List.mem_cons,List.not_mem_nil,or_false] at hv;rcases hv with rfl|rfl|rfl|rfl
        · exact .inl (.inr (.inr (.inr ⟨_,by simp[HB.vs],hk⟩)))
        · exact absurd hk (hin _)
        · exact .inl (.inr (.inr (.inr ⟨_,by simp[HB.vs],hk⟩)))
        · exact .inl (.inr (.inr (.inr ⟨_,by simp[HB.vs],hk⟩)))
  · have hu2:s.flip.u=false:=by show(!s.u)=false;rw[hu];rfl
    have b0:s.base false=1:=rfl;have b1:s.base true=1+s.n:=rfl;rw[hu] at k0 k1;simp only[Bool.not_true,b0,b1] at k0 k1;simp only[hcells,hu,hm,cond_true] at hc;refine(flip_1 (b0:=1) (b1:=1+s.n) hc (by simpa using k1) (by simpa using k0)).mono ?_;rintro e w' ⟨rfl,H,f⟩;refine⟨rfl,⟨?_,?_,?_,?_,?_,?_,hrep,h.hap,h.hac,?_,?_⟩,⟨f.mono (fun k _ e=>.inl e),?_,rfl⟩⟩
    · have:hcells (B.flip true) s.flip=[arV B.ap,vI 1,vI s.n,vI 1,vI (1+s.n),vI s.n,vI (s.top:Nat),.slice none 0 0,B.v1,vI 0,.bool true,vI ((s.top:Nat)-(1+s.n)),vI 1,vI s.ser,B.vw,B.vf]:=by
        have e5:((tookC s.cur:Nat):Int)=(s.top:Nat)-(1+s.n):=by unfold HS.top;rw[hu,b1];push_cast;omega
        have e7:s.flip.scan=s.base false:=by show s.base (!s.u)=_;rw[hu];rfl
        rw[hu] at e2;simp only[Bool.not_true] at e2;simp only[hcells,hu2,cond_true,cond_false,e1,e2,e3,e5,e7,b0,HB.flip];rfl
      rw[this];exact H
    · exact h.ar.fr f (by simpa using Ne.symm h.hap) (by simpa using Ne.symm h.hac)
    · simp only[l0,hu2,cond_false,HB.flip,cond_true];exact World.ownsRow_nil _ _ _ _
    · have:=h.r1.frB f (fun k hk e=>nn.2.1.1 (e ▸ hk));simp only[l1,hu,cond_true] at this;simp only[l1,hu2,cond_false,cond_true,e4,HB.flip];exact this
    · exact h.rw.frB f (fun k hk e=>nn.2.2.1.1 (e ▸ hk))
    · exact h.rf.frB f (fun k hk e=>nn.2.2.2.1 (e ▸ hk))
    · simp only[HB.vs,HB.flip,cond_true,List.pairwise_cons,List.mem_cons,List.not_mem_nil,or_false,forall_eq_or_imp,forall_eq];exact⟨⟨fun k h1 _=>hin k h1,fun k h1 _=>hin k h1,fun k h1 _=>hin k h1⟩,hap.2.1,hap.2.2.1,by simp,List.Pairwise.nil⟩
    · intro v hv;simp only[HB.vs,HB.flip,cond_true,List.mem_cons,List.not_mem_nil,or_false] at hv;rcases hv with rfl|rfl|rfl|rfl
      · exact⟨hin _,hin _,hin _⟩
      · exact nn.2.1
      · exact nn.2.2.1
      · exact nn.2.2.2
    · rintro k (hk|hk|hk|⟨v,hv,hk⟩)
      · exact .inl (.inl hk)
      · exact .inl (.inr (.inl hk))
      · exact .inl (.inr (.inr (.inl hk)))
      · simp only[HB.vs,HB.flip,cond_true,List.mem_cons,List.not_mem_nil,or_false] at hv;rcases hv with rfl|rfl|rfl|rfl
        · exact absurd hk (hin _)
        · exact .inl (.inr (.inr (.inr ⟨_,by simp[HB.vs],hk⟩)))
        · exact .inl (.inr (.inr (.inr ⟨_,by simp[HB.vs],hk⟩)))
        · exact .inl (.inr (.inr (.inr ⟨_,by simp[HB.vs],hk⟩)))
end
section
open Go.RowKit Go.Shelf
theorem HAt.reweak {w w':World}{B:HB}{s:HS}{X:List Nat}(h:HAt w B s X){v:Value}{l:List Nat}(f:Fr (fun k=>k=B.hp∨InB B.vw k) w w')(hc:OwnL w' B.hp ((hcells B s).set 14 v))(hr:ORow w' 0 v (nI l))
    (hnew:∀k,InB v k→InB B.vw k∨w.heap.size≤k) (hl:l.length≤100000):HAt w' { B with vw:=v } { s with weak:=l } X∧HKeep w B w' { B with vw:=v }:=by
  have hlt:=h.lt;have nn:=h.none_;have hap:=h.apart;simp only[HB.vs,List.mem_cons,List.not_mem_nil,or_false,forall_eq_or_imp,forall_eq] at nn;simp only[HB.vs,List.pairwise_cons,List.mem_cons,List.not_mem_nil,or_false,forall_eq_or_imp,forall_eq] at hap;have hB:∀k,k<w.heap.size→InB v k→InB B.vw k:=fun k hk hv=>(hnew k hv).resolve_right (by omega);have l0':=fun k hk=>hlt k (.inr (.inr (.inr ⟨B.v0,by simp[HB.vs],hk⟩)));have l1':=fun k hk=>hlt k (.inr (.inr (.inr ⟨B.v1,by simp[HB.vs],hk⟩)));have lf':=fun k hk=>hlt k (.inr (.inr (.inr ⟨B.vf,by simp[HB.vs],hk⟩)));refine⟨⟨hc,h.ar.fr f ?_ ?_,h.r0.frB f ?_,h.r1.frB f ?_,hr,h.rf.frB f ?_,?_,h.hap,h.hac,?_,?_⟩,⟨f.mono (fun k _ e=>?_),?_,rfl⟩⟩
  · rintro (e|e);exact h.hap e.symm;exact nn.2.2.1.2.1 e
  · rintro (e|e);exact h.hac e.symm;exact nn.2.2.1.2.2 e
  · rintro k hk (e|e);exact nn.1.1 (e ▸ hk);exact hap.1.2.1 k hk e
  · rintro k hk (e|e);exact nn.2.1.1 (e ▸ hk);exact hap.2.1.1 k hk e
  · rintro k hk (e|e);exact nn.2.2.2.1 (e ▸ hk);exact hap.2.2.1 k e hk
  · exact⟨h.rep.n1,h.rep.n2,h.rep.len,h.rep.zero,h.rep.half,h.rep.oroom,h.rep.room,h.rep.still,h.rep.ser,⟨hl,h.rep.few.2⟩⟩
  · simp only[HB.vs,List.pairwise_cons,List.mem_cons,List.not_mem_nil,or_false,forall_eq_or_imp,forall_eq];exact⟨⟨hap.1.1,fun k h1 h2=>hap.1.2.1 k h1 (hB k (l0' k h1) h2),hap.1.2.2⟩,⟨fun k h1 h2=>hap.2.1.1 k h1 (hB k (l1' k h1) h2),hap.2.1.2⟩,fun k h1 h2=>hap.2.2.1 k (hB k (lf' k h2) h1) h2,by simp,List.Pairwise.nil⟩
  · simp only[HB.vs,List.mem_cons,List.not_mem_nil,or_false,forall_eq_or_imp,forall_eq];exact⟨nn.1,nn.2.1,⟨fun h1=>nn.2.2.1.1 (hB _ (hlt _ (.inl rfl)) h1),fun h1=>nn.2.2.1.2.1 (hB _ (hlt _ (.inr (.inl rfl))) h1),fun h1=>nn.2.2.1.2.2 (hB _ (hlt _ (.inr (.inr (.inl rfl)))) h1)⟩,nn.2.2.2⟩
  · rcases e with e|e;exact .inl e;exact .inr (.inr (.inr ⟨B.vw,by simp[HB.vs],e⟩))
  · rintro k (hk|hk|hk|⟨u,hv,hk⟩)
    · exact .inl (.inl hk)
    · exact .inl (.inr (.inl hk))
    · exact .inl (.inr (.inr (.inl hk)))
    · simp only[HB.vs,List.mem_cons,List.not_mem_nil,or_false] at hv;rcases hv with rfl|rfl|rfl|rfl
      · exact .inl (.inr (.inr (.inr ⟨_,by simp[HB.vs],hk⟩)))
      · exact .inl (.inr (.inr (.inr ⟨_,by simp[HB.vs],hk⟩)))
      · exact(hnew k hk).imp (fun h=>.inr (.inr (.inr ⟨B.vw,by simp[HB.vs],h⟩))) id
      · exact .inl (.inr (.inr (.inr ⟨_,by simp[HB.vs],hk⟩)))
theorem HAt.refin {w w':World}{B:HB}{s:HS}{X:List Nat}(h:HAt w B s X){v:Value}{l:List Nat}(f:Fr (fun k=>k=B.hp∨InB B.vf k) w w')(hc:OwnL w' B.hp ((hcells B s).set 15 v))(hr:ORow w' 0 v (nI l))
    (hnew:∀k,InB v k→InB B.vf k∨w.heap.size≤k) (hl:l.length≤100000):HAt w' { B with vf:=v } { s with fin:=l } X∧HKeep w B w' { B with vf:=v }:=by
  have hlt:=h.lt;have nn:=h.none_;have hap:=h.apart;simp only[HB.vs,List.mem_cons,List.not_mem_nil,or_false,forall_eq_or_imp,forall_eq] at nn;simp only[HB.vs,List.pairwise_cons,List.mem_cons,List.not_mem_nil,or_false,forall_eq_or_imp,forall_eq] at hap;have hB:∀k,k<w.heap.size→InB v k→InB B.vf k:=fun k hk hv=>(hnew k hv).resolve_right (by omega);have l0':=fun k hk=>hlt k (.inr (.inr (.inr ⟨B.v0,by simp[HB.vs],hk⟩)));have l1':=fun k hk=>hlt k (.inr (.inr (.inr ⟨B.v1,by simp[HB.vs],hk⟩)));have lw':=fun k hk=>hlt k (.inr (.inr (.inr ⟨B.vw,by simp[HB.vs],hk⟩)));refine⟨⟨hc,h.ar.fr f ?_ ?_,h.r0.frB f ?_,h.r1.frB f ?_,h.rw.frB f ?_,hr,?_,h.hap,h.hac,?_,?_⟩,⟨f.mono (fun k _ e=>?_),?_,rfl⟩⟩
  · rintro (e|e);exact h.hap e.symm;exact nn.2.2.2.2.1 e
  · rintro (e|e);exact h.hac e.symm;exact nn.2.2.2.2.2 e
  · rintro k hk (e|e);exact nn.1.1 (e ▸ hk);exact hap.1.2.2 k hk e
  · rintro k hk (e|e);exact nn.2.1.1 (e ▸ hk);exact hap.2.1.2 k hk e
  · rintro k hk (e|e);exact nn.2.2.1.1 (e ▸ hk);exact hap.2.2.1 k hk e
  · exact⟨h.rep.n1,h.rep.n2,h.rep.len,h.rep.zero,h.rep.half,h.rep.oroom,h.rep.room,h.rep.still,h.rep.ser,⟨h.rep.few.1,hl⟩⟩
  · simp only[HB.vs,List.pairwise_cons,List.mem_cons,List.not_mem_nil,or_false,forall_eq_or_imp,forall_eq];exact⟨⟨hap.1.1,hap.1.2.1,fun k h1 h2=>hap.1.2.2 k h1 (hB k (l0' k h1) h2)⟩,⟨hap.2.1.1,fun k h1 h2=>hap.2.1.2 k h1 (hB k (l1' k h1) h2)⟩,fun k h1 h2=>hap.2.2.1 k h1 (hB k (lw' k h1) h2),by simp,List.Pairwise.nil⟩
  · simp only[HB.vs,List.mem_cons,List.not_mem_nil,or_false,forall_eq_or_imp,forall_eq];exact⟨nn.1,nn.2.1,nn.2.2.1,⟨fun h1=>nn.2.2.2.1 (hB _ (hlt _ (.inl rfl)) h1),fun h1=>nn.2.2.2.2.1 (hB _ (hlt _ (.inr (.inl rfl))) h1),fun h1=>nn.2.2.2.2.2 (hB _ (hlt _ (.inr (.inr (.inl rfl)))) h1)⟩⟩
  · rcases e with e|e;exact .inl e;exact .inr (.inr (.inr ⟨B.vf,by simp[HB.vs],e⟩))
  · rintro k (hk|hk|hk|⟨u,hv,hk⟩)
    · exact .inl (.inl hk)
    · exact .inl (.inr (.inl hk))
    · exact .inl (.inr (.inr (.inl hk)))
    · simp only[HB.vs,List.mem_cons,List.not_mem_nil,or_false] at hv;rcases hv with rfl|rfl|rfl|rfl
      · exact .inl (.inr (.inr (.inr ⟨_,by simp[HB.vs],hk⟩)))
      · exact .inl (.inr (.inr (.inr ⟨_,by simp[HB.vs],hk⟩)))
      · exact .inl (.inr (.inr (.inr ⟨_,by simp[HB.vs],hk⟩)))
      · exact(hnew k hk).imp (fun h=>.inr (.inr (.inr ⟨B.vf,by simp[HB.vs],h⟩))) id
theorem HAt.retake0 {w w':World}{B:HB}{s s':HS}{X X':List Nat}(h:HAt w B s X)(hu:s.u=false){v:Value}(f:Fr (fun k=>k=B.hp∨k=B.ac∨InB B.v0 k) w w')
    (hc:OwnL w' B.hp (hcells { B with v0:=v } s')) (ar:Ar w' B.ap B.ac X') (hr:ORow w' 0 v (nI (plc s'.cur))) (hu':s'.u=false) (ho:opl s'.old=opl s.old) (hw:s'.weak=s.weak) (hf:s'.fin=s.fin) (rep:HRep s' X')
    (hnew:∀k,InB v k→InB B.v0 k∨w.heap.size≤k):HAt w' { B with v0:=v } s' X'∧HKeep w B w' { B with v0:=v }:=by
  have hlt:=h.lt;have nn:=h.none_;have hap:=h.apart;simp only[HB.vs,List.mem_cons,List.not_mem_nil,or_false,forall_eq_or_imp,forall_eq] at nn;simp only[HB.vs,List.pairwise_cons,List.mem_cons,List.not_mem_nil,or_false,forall_eq_or_imp,forall_eq] at hap;have hB:∀k,k<w.heap.size→InB v k→InB B.v0 k:=fun k hk hv=>(hnew k hv).resolve_right (by omega);have la:=fun k hk=>hlt k (.inr (.inr (.inr ⟨B.v1,by simp[HB.vs],hk⟩)));have lw:=fun k hk=>hlt k (.inr (.inr (.inr ⟨B.vw,by simp[HB.vs],hk⟩)));have lf:=fun k hk=>hlt k (.inr (.inr (.inr ⟨B.vf,by simp[HB.vs],hk⟩)))
  have rO:ORow w' 0 B.v1 (nI (opl s'.old)):=by
    rw[ho];have h1:=h.r1;simp only[l1,hu,cond_true,cond_false] at h1;refine h1.frB f ?_;rintro k hk (e|e|e)
    · exact nn.2.1.1 (e ▸ hk)
    · exact nn.2.1.2.2 (e ▸ hk)
    · exact hap.1.1 k e hk
  refine⟨⟨hc,ar,?_,?_,?_,?_,rep,h.hap,h.hac,?_,?_⟩,⟨f.mono (fun k _ e=>?_),?_,rfl⟩⟩
  · simp only[l0,hu',cond_true,cond_false];exact hr
  · simp only[l1,hu',cond_true,cond_false];exact rO
  · rw[hw];refine h.rw.frB f ?_;rintro k hk (e|e|e);exact nn.2.2.1.1 (e ▸ hk);exact nn.2.2.1.2.2 (e ▸ hk);exact hap.1.2.1 k e hk
  · rw[hf];refine h.rf.frB f ?_;rintro k hk (e|e|e);exact nn.2.2.2.1 (e ▸ hk);exact nn.2.2.2.2.2 (e ▸ hk);exact hap.1.2.2 k e hk
  · simp only[HB.vs,List.pairwise_cons,List.mem_cons,List.not_mem_nil,or_false,forall_eq_or_imp,forall_eq];exact⟨⟨fun k h1 h2=>hap.1.1 k (hB k (la k h2) h1) h2,fun k h1 h2=>hap.1.2.1 k (hB k (lw k h2) h1) h2,fun k h1 h2=>hap.1.2.2 k (hB k (lf k h2) h1) h2⟩,hap.2.1,hap.2.2.1,by simp,List.Pairwise.nil⟩
  · simp only[HB.vs,List.mem_cons,List.not_mem_nil,or_false,forall_eq_or_imp,forall_eq];have q:¬InB v B.hp∧¬InB v B.ap∧¬InB v B.ac:=⟨fun h1=>nn.1.1 (hB _ (hlt _ (.inl rfl)) h1),fun h1=>nn.1.2.1 (hB _ (hlt _ (.inr (.inl rfl))) h1),fun h1=>nn.1.2.2 (hB _ (hlt _ (.inr (.inr (.inl rfl)))) h1)⟩;exact⟨q,nn.2⟩
  · rcases e with e|e|e;exact .inl e;exact .inr (.inr (.inl e));exact .inr (.inr (.inr ⟨B.v0,by simp[HB.vs],e⟩))
  · rintro k (hk|hk|hk|⟨u,hv,hk⟩)
    · exact .inl (.inl hk)
    · exact .inl (.inr (.inl hk))
    · exact .inl (.inr (.inr (.inl hk)))
    · simp only[HB.vs,List.mem_cons,List.not_mem_nil,or_false] at hv;have tk:InB v k→HBlk B k∨w.heap.size≤k:=fun hk=>(hnew k hk).imp (fun h=>.inr (.inr (.inr ⟨B.v0,by simp[HB.vs],h⟩))) id;rcases hv with rfl|rfl|rfl|rfl
      · first|exact tk hk|exact .inl (.inr (.inr (.inr ⟨_,by simp[HB.vs],hk⟩)))
      · first|exact tk hk|exact .inl (.inr (.inr (.inr ⟨_,by simp[HB.vs],hk⟩)))
      · exact .inl (.inr (.inr (.inr ⟨_,by simp[HB.vs],hk⟩)))
      · exact .inl (.inr (.inr (.inr ⟨_,by simp[HB.vs],hk⟩)))
theorem HAt.retake1 {w w':World}{B:HB}{s s':HS}{X X':List Nat}(h:HAt w B s X)(hu:s.u=true){v:Value}(f:Fr (fun k=>k=B.hp∨k=B.ac∨InB B.v1 k) w w')
    (hc:OwnL w' B.hp (hcells { B with v1:=v } s')) (ar:Ar w' B.ap B.ac X') (hr:ORow w' 0 v (nI (plc s'.cur))) (hu':s'.u=true) (ho:opl s'.old=opl s.old) (hw:s'.weak=s.weak) (hf:s'.fin=s.fin) (rep:HRep s' X')
    (hnew:∀k,InB v k→InB B.v1 k∨w.heap.size≤k):HAt w' { B with v1:=v } s' X'∧HKeep w B w' { B with v1:=v }:=by
  have hlt:=h.lt;have nn:=h.none_;have hap:=h.apart;simp only[HB.vs,List.mem_cons,List.not_mem_nil,or_false,forall_eq_or_imp,forall_eq] at nn;simp only[HB.vs,List.pairwise_cons,List.mem_cons,List.not_mem_nil,or_false,forall_eq_or_imp,forall_eq] at hap;have hB:∀k,k<w.heap.size→InB v k→InB B.v1 k:=fun k hk hv=>(hnew k hv).resolve_right (by omega);have la:=fun k hk=>hlt k (.inr (.inr (.inr ⟨B.v0,by simp[HB.vs],hk⟩)));have lw:=fun k hk=>hlt k (.inr (.inr (.inr ⟨B.vw,by simp[HB.vs],hk⟩)));have lf:=fun k hk=>hlt k (.inr (.inr (.inr ⟨B.vf,by simp[HB.vs],hk⟩)))
  have rO:ORow w' 0 B.v0 (nI (opl s'.old)):=by
    rw[ho];have h1:=h.r0;simp only[l0,hu,cond_true,cond_false] at h1;refine h1.frB f ?_;rintro k hk (e|e|e)
    · exact nn.1.1 (e ▸ hk)
    · exact nn.1.2.2 (e ▸ hk)
    · exact hap.1.1 k hk e
  refine⟨⟨hc,ar,?_,?_,?_,?_,rep,h.hap,h.hac,?_,?_⟩,⟨f.mono (fun k _ e=>?_),?_,rfl⟩⟩
  · simp only[l0,hu',cond_true,cond_false];exact rO
  · simp only[l1,hu',cond_true,cond_false];exact hr
  · rw[hw];refine h.rw.frB f ?_;rintro k hk (e|e|e);exact nn.2.2.1.1 (e ▸ hk);exact nn.2.2.1.2.2 (e ▸ hk);exact hap.2.1.1 k e hk
  · rw[hf];refine h.rf.frB f ?_;rintro k hk (e|e|e);exact nn.2.2.2.1 (e ▸ hk);exact nn.2.2.2.2.2 (e ▸ hk);exact hap.2.1.2 k e hk
  · simp only[HB.vs,List.pairwise_cons,List.mem_cons,List.not_mem_nil,or_false,forall_eq_or_imp,forall_eq];exact⟨⟨fun k h1 h2=>hap.1.1 k h1 (hB k (la k h1) h2),hap.1.2⟩,⟨fun k h1 h2=>hap.2.1.1 k (hB k (lw k h2) h1) h2,fun k h1 h2=>hap.2.1.2 k (hB k (lf k h2) h1) h2⟩,hap.2.2.1,by simp,List.Pairwise.nil⟩
  · simp only[HB.vs,List.mem_cons,List.not_mem_nil,or_false,forall_eq_or_imp,forall_eq];have q:¬InB v B.hp∧¬InB v B.ap∧¬InB v B.ac:=⟨fun h1=>nn.2.1.1 (hB _ (hlt _ (.inl rfl)) h1),fun h1=>nn.2.1.2.1 (hB _ (hlt _ (.inr (.inl rfl))) h1),fun h1=>nn.2.1.2.2 (hB _ (hlt _ (.inr (.inr (.inl rfl)))) h1)⟩;exact⟨nn.1,q,nn.2.2⟩
  · rcases e with e|e|e;exact .inl e;exact .inr (.inr (.inl e));exact .inr (.inr (.inr ⟨B.v1,by simp[HB.vs],e⟩))
  · rintro k (hk|hk|hk|⟨u,hv,hk⟩)
    · exact .inl (.inl hk)
    · exact .inl (.inr (.inl hk))
    · exact .inl (.inr (.inr (.inl hk)))
    · simp only[HB.vs,List.mem_cons,List.not_mem_nil,or_false] at hv;have tk:InB v k→HBlk B k∨w.heap.size≤k:=fun hk=>(hnew k hk).imp (fun h=>.inr (.inr (.inr ⟨B.v1,by simp[HB.vs],h⟩))) id;rcases hv with rfl|rfl|rfl|rfl
      · first|exact tk hk|exact .inl (.inr (.inr (.inr ⟨_,by simp[HB.vs],hk⟩)))
      · first|exact tk hk|exact .inl (.inr (.inr (.inr ⟨_,by simp[HB.vs],hk⟩)))
      · exact .inl (.inr (.inr (.inr ⟨_,by simp[HB.vs],hk⟩)))
      · exact .inl (.inr (.inr (.inr ⟨_,by simp[HB.vs],hk⟩)))
end
end Go.Proofs.YtdffnjikmkgjkaaGreat
