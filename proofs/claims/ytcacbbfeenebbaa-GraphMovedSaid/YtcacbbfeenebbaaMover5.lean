/- What the functions of package mover return: objects, Walk. What the functions of package mover return: Walk. -/
import Derived.Test.YtcacbbfeenebbaaMover2
import Derived.Test.YtcacbbfeenebbaaTail
import Derived.OwnWalkIn
set_option linter.unusedSimpArgs false
set_option linter.unusedVariables false
namespace Go.Proofs.Ytcacbbfeenebbaa
open Go.RowKit Go.Shelf
attribute [local go_sem] Oper.semAt_some

theorem Own.keeps {keep : Nat → Prop} {w w' : World} {b i : Nat} {v : Value} (h : Own w b i v) (k : Keeps keep w w') (hb : keep b) : Own w' b i v :=
  ⟨(World.cell?_of_block (w := w) (a := ⟨b, i, none⟩) (k.2 b hb)).trans h.1, (World.frozen?_of_block (w := w) (a := ⟨b, i, none⟩) (k.2 b hb)).trans h.2⟩
theorem Ar.keeps {keep : Nat → Prop} {w w' : World} {p c : Nat} {xs : List Nat} (h : Ar w p c xs) (k : Keeps keep w w') (hp : keep p) (hc : keep c) : Ar w' p c xs := by
  obtain ⟨h1, ⟨t, h2⟩, h3⟩ := h
  exact ⟨h1.keeps k hp, ⟨t, (k.2 c hc).trans h2⟩, h3⟩

/-- The places of objects. -/
abbrev plc (l : List (Nat × Ob)) : List Nat := l.map (·.1)
/-- Where the object k begins. -/
def begs (b : Nat) (l : List (Nat × Ob)) : Nat → Nat
  | 0 => b
  | k + 1 => begs b l k + (l.getD k (0, Ob.new 0 0 false false 0)).2.took
theorem begs_cons (b : Nat) (x : Nat × Ob) (l : List (Nat × Ob)) : ∀ k, begs b (x :: l) (k + 1) = begs (b + x.2.took) l k
  | 0 => rfl
  | k + 1 => by
    show begs b (x :: l) (k + 1) + _ = begs (b + x.2.took) l k + _
    rw [begs_cons b x l k]; rfl
theorem Lie.at {xs : List Nat} : ∀ {l : List (Nat × Ob)} {b e : Nat}, Lie xs b e l → ∀ k, k < l.length →
    (l.getD k (0, Ob.new 0 0 false false 0)).1 = begs b l k ∧ (l.getD k (0, Ob.new 0 0 false false 0)).2.Ok ∧ Was xs (begs b l k) (l.getD k (0, Ob.new 0 0 false false 0)).2 ∧ begs b l (k + 1) ≤ e
  | (a, o) :: l, b, e, ⟨h0, h1, h2, h3⟩, 0, _ => ⟨h0, h1, h0 ▸ h2, by have := h3.le; show b + o.took ≤ e; omega⟩
  | (a, o) :: l, b, e, ⟨h0, h1, h2, h3⟩, k + 1, hk => by
    have := Lie.at h3 k (by simpa using hk)
    rw [begs_cons, begs_cons]
    exact this
theorem Lie.end {xs : List Nat} : ∀ {l : List (Nat × Ob)} {b e : Nat}, Lie xs b e l → begs b l l.length = e
  | [], b, e, h => h
  | (a, o) :: l, b, e, ⟨h0, h1, h2, h3⟩ => by
    show begs b ((a, o) :: l) (l.length + 1) = e
    rw [begs_cons]; exact Lie.end h3

/-- What the walk leans on. -/
def walkKeep (b c sb ab : Nat) (k : Nat) : Prop := k = b ∨ k = c ∨ k = sb ∨ k = ab

theorem objects_in (F : Fence) (n : Nat) (w : World) (b : Nat) (B S T : Int) (hF : F.fn 68) (hro : F.round = none) :
    CallsIn F n Try.prog 68 #[arV b, spV B S T] w fun e w' => e = .returned (.func (.func 85) #[] #[.pointer (some ⟨w.heap.size + 1, 0, none⟩), .pointer (some ⟨w.heap.size, 0, none⟩)]) ∧ w' = (w.alloc (.cells #[arV b] 24)).alloc (.cells #[.int .i64 B, .int .i64 S, .int .i64 T] 61) := by
  refine callsIn_of_wp Try.func68 rfl hF ?_ hro
  simp only [Try.ntmps68, List.size_toArray, List.length_cons, List.length_nil, Nat.reduceAdd, Nat.reduceSub, Array.replicate_succ, Array.replicate_zero, List.push_toArray, List.append_toArray, List.nil_append, List.cons_append]
  gi_wp2
  go_ret
  exact ⟨rfl, rfl⟩

set_option maxRecDepth 4000 in
set_option maxHeartbeats 1000000 in
theorem objects1_seq (n : Nat) (hn : 1 ≤ n) (w0 : World) (b c sb ab : Nat) (xs : List Nat) (h : Ar w0 b c xs) (B S T : Nat) (hok : okP B S T) (l : List (Nat × Ob)) (hl : Lie xs B T l)
    (hs : OwnL w0 sb [.int .i64 B, .int .i64 S, .int .i64 T]) (ha : Own w0 ab 0 (arV b)) :
    SeqAt Fence.wide n Try.prog 85 #[.pointer (some ⟨sb, 0, none⟩), .pointer (some ⟨ab, 0, none⟩)] (fun k => #[.int .i64 (begs B l k : Nat)]) l.length true (walkKeep b c sb ab) w0 := fun y J Jx W hkW _ hJ hJx hN hY h0 => by
  have H := hid h
  have HL := hid hl
  have HS : Hid (∀ i v, [Value.int .i64 B, .int .i64 S, .int .i64 T][i]? = some v → Own w0 sb i v) := hs
  have HA := hid ha
  have HOK := hid hok
  have hT : (T : Int) ≤ 131072 := by obtain ⟨_, _, _, _, _, _⟩ := hok; omega
  clear h hl hs ha hok
  refine callsIn_of_wp Try.func85 rfl trivial ?_ rfl
  simp only [Try.ntmps85, List.size_toArray, List.length_cons, List.length_nil, Nat.reduceAdd, Nat.reduceSub, Array.replicate_succ, Array.replicate_zero, List.push_toArray, List.append_toArray, List.nil_append, List.cons_append, Array.append_empty]
  have s0 := ((HS.out 0 _ rfl).keeps hkW (.inr (.inr (.inl rfl)))).1
  have s1 := ((HS.out 1 _ rfl).keeps hkW (.inr (.inr (.inl rfl)))).1
  have s2 := ((HS.out 2 _ rfl).keeps hkW (.inr (.inr (.inl rfl)))).1
  gi_wp2_with fail
  refine ⟨trivial, (callsIn_wide.2 (sright_yes B S T _ HOK.out)).mono ?_⟩
  rintro e w1 ⟨rfl, c1⟩
  have t0 := c1.cellAt s0 id
  have t2 := c1.cellAt s2 id
  have hk1 := hkW.trans (Keeps.of_fr (keep := walkKeep b c sb ab) c1 (fun k hk => ⟨by
    rcases hk with rfl | rfl | rfl | rfl
    · exact (H.out.keeps hkW (.inl rfl) (.inr (.inl rfl))).lt
    · have := H.out.keeps hkW (.inl rfl) (.inr (.inl rfl)); obtain ⟨_, ⟨t, ht⟩, _⟩ := this; exact (Array.getElem?_eq_some_iff.1 ht).1
    · exact ((HS.out 0 _ rfl).keeps hkW (.inr (.inr (.inl rfl)))).lt
    · exact (HA.out.keeps hkW (.inr (.inr (.inr rfl)))).lt, id⟩))
  have hj0 := hJ 0 _ _ h0 c1
  clear s0 s1 s2
  gi_wp2_with fail
  gi_loopw [4] (fun p wr => ∃ k : Nat, k ≤ l.length ∧ p = .int .i64 (begs B l k : Nat) ∧ J k wr ∧ Keeps (walkKeep b c sb ab) w0 wr) (fun p _ => T - (intOf p).toNat)
  case atStart => exact ⟨0, Nat.zero_le _, rfl, hj0, hk1⟩
  case round =>
    obtain ⟨k, hk, rfl, hj, hkk⟩ := hrel
    have s2 := ((HS.out 2 _ rfl).keeps hkk (.inr (.inr (.inl rfl)))).1
    have a0 := (HA.out.keeps hkk (.inr (.inr (.inr rfl)))).1
    have ar := H.out.keeps hkk (.inl rfl) (.inr (.inl rfl))
    clear t0 t2 hk1 hj0
    rcases Nat.lt_or_ge k l.length with hlt | hge
    · obtain ⟨_, l2, l3, l4⟩ := HL.out.at k hlt
      have l5 : begs B l (k + 1) = begs B l k + (l.getD k (0, Ob.new 0 0 false false 0)).2.took := rfl
      obtain ⟨q1, q2, q3, q4⟩ := Ob.took_eq l2
      generalize (l.getD k (0, Ob.new 0 0 false false 0)).2 = o at *
      obtain ⟨p, hp⟩ : ∃ p, begs B l k = p := ⟨_, rfl⟩
      rw [hp] at l3 l5
      have hlT : p < T := by omega
      have hYk := hid (fun W => hY k W hlt)
      rw [hp] at hYk ⊢
      rw [l5] at l4
      have L5 := hid l5
      have Q1 := hid q1
      have L3 := hid l3
      clear l5 q1 hp hY l3
      gi_wp2_with fail
      refine ⟨trivial, (callsIn_wide.2 (words_yes ar L3.out)).mono ?_⟩
      rintro e w2 ⟨rfl, c2⟩
      rw [← Q1.out]
      have hk2 := hkk.trans (Keeps.of_fr (keep := walkKeep b c sb ab) c2 (fun k hk => ⟨by
        rcases hk with rfl | rfl | rfl | rfl
        · exact ar.lt
        · obtain ⟨_, ⟨t, ht⟩, _⟩ := ar; exact (Array.getElem?_eq_some_iff.1 ht).1
        · exact ((HS.out 0 _ rfl).keeps hkk (.inr (.inr (.inl rfl)))).lt
        · exact (HA.out.keeps hkk (.inr (.inr (.inr rfl)))).lt, id⟩))
      obtain ⟨fn, tmps, assign, body, hy, hR⟩ := hYk.out w2 (hJ k _ _ hj c2)
      clear ar a0 s2
      gi_wp2
      refine hR.mono ?_
      rintro e W1 (⟨rfl, hJ1, hk3⟩ | ⟨rfl, hx1⟩)
      · gi_wp2
        go_roundw
        case rel => exact ⟨k + 1, by omega, by rw [L5.out]; go_num, hJ1, hk2.trans hk3⟩
        case measure => simp [intOf]; omega
      · gi_wp2
        exact bodyPost_ret (v := .tuple #[]) (by simp [results, Try.f85, go_sem]) rfl ⟨⟨_, rfl⟩, .inr hx1⟩
    · obtain rfl : k = l.length := by omega
      have he : begs B l l.length = T := HL.out.end
      rw [he]
      clear hge hk
      gi_wp2
      go_end0
      exact ⟨⟨_, rfl⟩, .inl hj⟩

end Go.Proofs.Ytcacbbfeenebbaa

namespace Go.Proofs.Ytcacbbfeenebbaa
open Go.RowKit Go.Shelf
attribute [local go_sem] Oper.semAt_some

def WalkI (w : World) (l : List (Nat × Ob)) (k : Nat) (W : World) : Prop :=
  (∃ v, Own W (w.heap.size + 1) 0 v ∧ ORow W (w.heap.size + 6) v (nI (plc (l.take k)))) ∧ Calm w W ∧ k ≤ l.length
def WalkI1 (w : World) (b : Nat) (B S T : Nat) (l : List (Nat × Ob)) (k : Nat) (a : Act) (W : World) : Prop :=
  WalkI w l k W ∧ a = { tmps := #[arV b, spV B S T, undef, .pointer (some ⟨w.heap.size, 0, none⟩), .slice none 0 0, .pointer (some ⟨w.heap.size + 1, 0, none⟩), .int .i64 (begs B l k : Nat), arV b, spV B S T,
    .func (.func 85) #[] #[.pointer (some ⟨w.heap.size + 1 + 1 + 1, 0, none⟩), .pointer (some ⟨w.heap.size + 1 + 1, 0, none⟩)], .int .i64 (begs B l k : Nat), undef, undef, undef, undef, undef], defers := [] }
theorem WalkI.fr {S : Nat → Prop} {w A A' : World} {l : List (Nat × Ob)} {k : Nat} (h : WalkI w l k A) (f : Fr S A A') (hs : ∀ j, S j → j = w.heap.size + 4 ∨ j = w.heap.size + 5) : WalkI w l k A' := by
  obtain ⟨⟨v, h1, h2⟩, h3, h4⟩ := h
  exact ⟨⟨v, h1.fr f (fun hh => by have := hs _ hh; omega), h2.fr f (fun j hj hh => by have := hs _ hh; omega)⟩, h3.join f (fun j hj hh => by have := hs _ hh; omega), h4⟩

theorem plc_succ (l : List (Nat × Ob)) {xs : List Nat} {B T : Nat} (hl : Lie xs B T l) {k : Nat} (hk : k < l.length) : nI (plc (l.take (k + 1))) = nI (plc (l.take k)) ++ [((begs B l k : Nat) : Int)] := by
  have := (Lie.at hl k hk).1
  rw [List.take_succ_eq_append_getElem hk]
  simp [List.getD, hk] at this
  simp only [plc, nI, List.map_append, List.map_cons, List.map_nil, this]

def WalkPost (w : World) (l : List (Nat × Ob)) (e : Ending) (w' : World) : Prop := ∃ v, e = .returned v ∧ ORow w' w.heap.size v (nI (plc l)) ∧ Calm w w'

set_option maxRecDepth 4000 in
set_option maxHeartbeats 2000000 in
theorem walk_is {w : World} {b c : Nat} {xs : List Nat} (h : Ar w b c xs) (B S T : Nat) (hok : okP B S T) (l : List (Nat × Ob)) (hl : Lie xs B T l) :
    Calls Try.prog 37 #[arV b, spV B S T] w (WalkPost w l) := by
  obtain ⟨i0, hi, hz0, hz1, hz2⟩ := info_parts info_int
  refine (callsIn_wide (n := 9)).1 ?_
  refine callsIn_of_wp_marks Try.func37 rfl trivial ?_ rfl
  simp only [Try.ntmps37, List.size_toArray, List.length_cons, List.length_nil, Nat.reduceAdd, Nat.reduceSub, Array.replicate_succ, Array.replicate_zero, List.push_toArray, List.append_toArray, List.nil_append, List.cons_append]
  gi_wp2_with (refine ⟨trivial, ?_⟩; gi_at_call 68; refine (objects_in _ _ _ b B S T trivial rfl).mono ?_; rintro e w' ⟨rfl, rfl⟩)
  have H := hid h
  have HL := hid hl
  have HOK := hid hok
  have hlen : l.length ≤ 40000 := by have := hl.le; obtain ⟨_, _, _, _, _, _⟩ := hok; omega
  have hbl := h.lt
  have hcl : c < w.heap.size := by obtain ⟨_, ⟨t, ht⟩, _⟩ := h; exact (Array.getElem?_eq_some_iff.1 ht).1
  clear h hl hok
  obtain ⟨W0, hW0⟩ : ∃ W0, ((((w.alloc (Obj.cells #[Value.int IntKind.i64 B, Value.int IntKind.i64 S, Value.int IntKind.i64 T] 61)).alloc (Obj.cells #[Value.slice none 0 0] 58)).alloc (Obj.cells #[arV b] 24)).alloc (Obj.cells #[Value.int IntKind.i64 B, Value.int IntKind.i64 S, Value.int IntKind.i64 T] 61)) = W0 := ⟨_, rfl⟩
  have i2 : Own W0 (w.heap.size + 1) 0 (.slice none 0 0) := by rw [← hW0]; exact ((Own.at (w.alloc _) _ _ _ 0 (by simp) rfl).alloc _).alloc _
  have ia : Own W0 (w.heap.size + 1 + 1) 0 (arV b) := by rw [← hW0]; exact (Own.at ((w.alloc _).alloc _) _ _ _ 0 (by simp) rfl).alloc _
  have is : OwnL W0 (w.heap.size + 1 + 1 + 1) [.int .i64 B, .int .i64 S, .int .i64 T] := by rw [← hW0]; exact OwnL.at (((w.alloc _).alloc _).alloc _) _ _ _ (by simp)
  have i4 : W0.heap.size = w.heap.size + 4 := by rw [← hW0]; simp
  have i5 : Calm w W0 := by rw [← hW0]; exact ((((Fr.refl _ w).alloc _).alloc _).alloc _).alloc _
  rw [hW0]
  have hI4 := hid i4
  refine wpIn_rangeAt (g := .tmp 9) rfl (by decide) (gf := 85) (lb := #[.pointer (some ⟨w.heap.size + 1 + 1 + 1, 0, none⟩), .pointer (some ⟨w.heap.size + 1 + 1, 0, none⟩)]) rfl trivial (enters_of Try.func85 (by kernel_rfl) rfl)
    (objects1_seq 8 (by decide) W0 b c (w.heap.size + 1 + 1 + 1) (w.heap.size + 1 + 1) xs (H.out.calm i5) B S T HOK.out l HL.out is ia) (Keeps.refl _ _) (fun k hk => by rcases hk with rfl | rfl | rfl | rfl <;> omega) (fun _ => rfl)
    (WalkI w l) (WalkI1 w b B S T l) (fun c W => False)
    ?hI ?hI1 ?hIx ?hN ?h0 ?assign ?body ?done ?stop
  case hI =>
    rintro k A A' a hl
    exact a.fr hl (fun j hj => by rw [i4] at hj; omega)
  case hI1 =>
    rintro k a' A A' ⟨a, rfl⟩ hl
    exact ⟨a.fr hl (fun j hj => by rw [i4] at hj; omega), rfl⟩
  case hIx =>
    rintro c A A' h hl
    exact h
  case hN =>
    rintro h
    cases h
  case h0 => exact ⟨⟨_, i2, by simpa [plc] using ORow.nil _ _⟩, i5, Nat.zero_le _⟩
  case assign =>
    rintro y k W hk ha hs
    clear i2 ia is i5 hW0
    gi_wp2
    exact ⟨Keeps.refl _ _, ha, rfl⟩
  case body =>
    rintro y k a W hk ⟨⟨⟨v2, a2, a3⟩, a4, a5⟩, rfl⟩ hs
    have b2 := a2.1
    have b3 := a2.2
    have hp := hid (plc_succ l HL.out hk)
    have hln : Hid ((nI (plc (l.take k))).length = k) := by show (nI (plc (l.take k))).length = k; simp [plc]; omega
    rw [i4] at hs
    clear i2 ia is i5 hW0 i4
    generalize nI (plc (l.take k)) = L at *
    gi_wp2_with (gi_at_builtin; refine wpListIn_append_own _ rfl _ _ 58 rfl (w.heap.size + 6) 3 i0 (.int .i64 0) 1 8 Try.underlying58 hi hz0 hz1 hz2 rfl (by decide) _ _ _ rfl (a3.alloc _) ⟨W.heap.size, 0, none⟩ 1 1 [.int .i64 (begs B l k : Nat)] rfl rfl (cell_one_new _ _ _) (by simp [Value.oneCell']) (by have := hln.out; unfold maxLen; omega) (by have := hln.out; omega) (by simp; omega) ?_; intro v' w1 hown' hgrow _; obtain ⟨g', cap', rfl⟩ := ownsRow_succ hown'; have hF := Fr.append1 a3 hgrow; have c2 := (a2.fr hF (by omega)).1; have c3 := (a2.fr hF (by omega)).2; have hF2 : Hid (Fr (fun b => b = w.heap.size + 1 ∨ w.heap.size + 6 ≤ b) W w1) := hF.mono (fun _ _ h => .inr h); clear hF hgrow)
    have hV : Fr (fun b => b = w.heap.size + 1 ∨ w.heap.size + 6 ≤ b) W (w1.setCell ⟨w.heap.size + 1, 0, none⟩ (.slice (some ⟨g', 0, none⟩) (L.length + 1) cap')) := hF2.out.setCell (.inl (.inl rfl)) _
    have hb : Own (w1.setCell ⟨w.heap.size + 1, 0, none⟩ (.slice (some ⟨g', 0, none⟩) (L.length + 1) cap')) (w.heap.size + 1) 0 (.slice (some ⟨g', 0, none⟩) (L.length + 1) cap') := Own.set ⟨c2, c3⟩ _
    have hr : ORow (w1.setCell ⟨w.heap.size + 1, 0, none⟩ (.slice (some ⟨g', 0, none⟩) (L.length + 1) cap')) (w.heap.size + 6) (.slice (some ⟨g', 0, none⟩) (L.length + 1) cap') (nI (plc (l.take (k + 1)))) := by
      rw [hp.out]
      show World.ownsRow _ _ _ _ _ _ _
      rw [List.length_append, iVs, List.map_append]
      exact ownsRow_setCell_below hown' (by simp) _
    have hI5 := hI4.out
    refine ⟨Keeps.of_fr hV ?_, ⟨_, hb, hr⟩, a4.join hV (fun j h1 h2 => by omega), by omega⟩
    rintro j ((rfl | rfl | rfl | rfl) | rfl | rfl) <;> (refine ⟨by omega, ?_⟩; rintro (h | h) <;> omega)
  case done =>
    rintro W hf ⟨⟨v2, a2, a3⟩, a4, a5⟩ hD
    have b1 := a2.1
    have b2 := a2.2
    rw [i4] at hD
    clear i2 ia is i5 hW0
    gi_wp2
    refine ⟨by simp, .inl ⟨_, _, rfl, run_takeDeferred hD, ?_⟩⟩
    have hp : Fr (fun b => b = w.heap.size + 4) W (W.putObj (w.heap.size + 4) (.deferred none)) := (Fr.refl (fun b => b = w.heap.size + 4) W).putObj (.inl rfl) _
    rw [List.take_length] at a3
    exact ⟨_, results_tmp rfl _ _ _, _, rfl, (a3.fr hp (by intro b hb; omega)).mono (by omega), a4.join hp (by intro b h1 h2; omega)⟩
  case stop =>
    rintro c W h
    exact h.elim

end Go.Proofs.Ytcacbbfeenebbaa
