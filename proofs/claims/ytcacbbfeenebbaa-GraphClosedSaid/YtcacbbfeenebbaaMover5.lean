/- What the functions of package mover return: objects, Walk. -/
import Derived.Test.YtcacbbfeenebbaaMover4
import Derived.Test.YtcacbbfeenebbaaRound
set_option linter.unusedSimpArgs false
set_option linter.unusedVariables false
namespace Go.Proofs.Ytcacbbfeenebbaa
open Go.RowKit Go.Shelf
attribute [local go_sem] Oper.semAt_some

theorem Own.keeps {keep : Nat → Prop} {w w' : World} {b i : Nat} {v : Value} (h : Own w b i v) (k : Keeps keep w w') (hb : keep b) : Own w' b i v :=
  ⟨(World.cell?_of_block (w := w) (a := ⟨b, i, none⟩) (k.2 b hb)).trans h.1, (World.frozen?_of_block (w := w) (a := ⟨b, i, none⟩) (k.2 b hb)).trans h.2⟩
theorem Ar.keeps {keep : Nat → Prop} {w w' : World} {p c : Nat} {xs : List Nat} (h : Ar w p c xs) (k : Keeps keep w w') (hp : keep p) (hc : keep c) : Ar w' p c xs := by
  obtain ⟨h1, ⟨t, h2⟩, h3⟩ := h
  exact ⟨h1.keeps k hp, ⟨t, (k.2 c hc).trans h2⟩, h3⟩

/-- The places of objects. -/
abbrev plc (l : List (Nat × Ob)) : List Nat := l.map (·.1)
/-- Where the object k begins. -/
def begs (b : Nat) (l : List (Nat × Ob)) : Nat → Nat
  | 0 => b
  | k + 1 => begs b l k + (l.getD k (0, Ob.new 0 0 false false 0)).2.took
theorem begs_cons (b : Nat) (x : Nat × Ob) (l : List (Nat × Ob)) : ∀ k, begs b (x :: l) (k + 1) = begs (b + x.2.took) l k
  | 0 => rfl
  | k + 1 => by
    show begs b (x :: l) (k + 1) + _ = begs (b + x.2.took) l k + _
    rw [begs_cons b x l k]; rfl
theorem Lie.at {xs : List Nat} : ∀ {l : List (Nat × Ob)} {b e : Nat}, Lie xs b e l → ∀ k, k < l.length →
    (l.getD k (0, Ob.new 0 0 false false 0)).1 = begs b l k ∧ (l.getD k (0, Ob.new 0 0 false false 0)).2.Ok ∧ Was xs (begs b l k) (l.getD k (0, Ob.new 0 0 false false 0)).2 ∧ begs b l (k + 1) ≤ e
  | (a, o) :: l, b, e, ⟨h0, h1, h2, h3⟩, 0, _ => ⟨h0, h1, h0 ▸ h2, by have := h3.le; show b + o.took ≤ e; omega⟩
  | (a, o) :: l, b, e, ⟨h0, h1, h2, h3⟩, k + 1, hk => by
    have := Lie.at h3 k (by simpa using hk)
    rw [begs_cons, begs_cons]
    exact this
theorem Lie.end {xs : List Nat} : ∀ {l : List (Nat × Ob)} {b e : Nat}, Lie xs b e l → begs b l l.length = e
  | [], b, e, h => h
  | (a, o) :: l, b, e, ⟨h0, h1, h2, h3⟩ => by
    show begs b ((a, o) :: l) (l.length + 1) = e
    rw [begs_cons]; exact Lie.end h3

/-- What the walk leans on. -/
def walkKeep (b c sb ab : Nat) (k : Nat) : Prop := k = b ∨ k = c ∨ k = sb ∨ k = ab

theorem objects_in (F : Fence) (n : Nat) (w : World) (b : Nat) (B S T : Int) (hF : F.fn 68) (hro : F.round = none) :
    CallsIn F n Try.prog 68 #[arV b, spV B S T] w fun e w' => e = .returned (.func (.func 85) #[] #[.pointer (some ⟨w.heap.size + 1, 0, none⟩), .pointer (some ⟨w.heap.size, 0, none⟩)]) ∧ w' = (w.alloc (.cells #[arV b] 24)).alloc (.cells #[.int .i64 B, .int .i64 S, .int .i64 T] 61) := by
  refine callsIn_of_wp Try.func68 rfl hF ?_ hro
  simp only [Try.ntmps68, List.size_toArray, List.length_cons, List.length_nil, Nat.reduceAdd, Nat.reduceSub, Array.replicate_succ, Array.replicate_zero, List.push_toArray, List.append_toArray, List.nil_append, List.cons_append]
  gi_wp2
  go_ret
  exact ⟨rfl, rfl⟩

set_option maxRecDepth 4000 in
set_option maxHeartbeats 1000000 in
theorem objects1_seq (n : Nat) (hn : 1 ≤ n) (w0 : World) (b c sb ab : Nat) (xs : List Nat) (h : Ar w0 b c xs) (B S T : Nat) (hok : okP B S T) (l : List (Nat × Ob)) (hl : Lie xs B T l)
    (hs : OwnL w0 sb [.int .i64 B, .int .i64 S, .int .i64 T]) (ha : Own w0 ab 0 (arV b)) :
    SeqAt Fence.wide n Try.prog 85 #[.pointer (some ⟨sb, 0, none⟩), .pointer (some ⟨ab, 0, none⟩)] (fun k => #[.int .i64 (begs B l k : Nat)]) l.length true (walkKeep b c sb ab) w0 := fun y J Jx W hkW _ hJ hJx hN hY h0 => by
  have H := hid h
  have HL := hid hl
  have HS : Hid (∀ i v, [Value.int .i64 B, .int .i64 S, .int .i64 T][i]? = some v → Own w0 sb i v) := hs
  have HA := hid ha
  have HOK := hid hok
  have hT : (T : Int) ≤ 131072 := by obtain ⟨_, _, _, _, _, _⟩ := hok; omega
  clear h hl hs ha hok
  refine callsIn_of_wp Try.func85 rfl trivial ?_ rfl
  simp only [Try.ntmps85, List.size_toArray, List.length_cons, List.length_nil, Nat.reduceAdd, Nat.reduceSub, Array.replicate_succ, Array.replicate_zero, List.push_toArray, List.append_toArray, List.nil_append, List.cons_append, Array.append_empty]
  have s0 := ((HS.out 0 _ rfl).keeps hkW (.inr (.inr (.inl rfl)))).1
  have s1 := ((HS.out 1 _ rfl).keeps hkW (.inr (.inr (.inl rfl)))).1
  have s2 := ((HS.out 2 _ rfl).keeps hkW (.inr (.inr (.inl rfl)))).1
  gi_wp2_with fail
  refine ⟨trivial, (callsIn_wide.2 (sright_yes B S T _ HOK.out)).mono ?_⟩
  rintro e w1 ⟨rfl, c1⟩
  have t0 := c1.cellAt s0 id
  have t2 := c1.cellAt s2 id
  have hk1 := hkW.trans (Keeps.of_fr (keep := walkKeep b c sb ab) c1 (fun k hk => ⟨by
    rcases hk with rfl | rfl | rfl | rfl
    · exact (H.out.keeps hkW (.inl rfl) (.inr (.inl rfl))).lt
    · have := H.out.keeps hkW (.inl rfl) (.inr (.inl rfl)); obtain ⟨_, ⟨t, ht⟩, _⟩ := this; exact (Array.getElem?_eq_some_iff.1 ht).1
    · exact ((HS.out 0 _ rfl).keeps hkW (.inr (.inr (.inl rfl)))).lt
    · exact (HA.out.keeps hkW (.inr (.inr (.inr rfl)))).lt, id⟩))
  have hj0 := hJ 0 _ _ h0 c1
  clear s0 s1 s2
  gi_wp2_with fail
  gi_loopw [4] (fun p wr => ∃ k : Nat, k ≤ l.length ∧ p = .int .i64 (begs B l k : Nat) ∧ J k wr ∧ Keeps (walkKeep b c sb ab) w0 wr) (fun p _ => T - (intOf p).toNat)
  case atStart => exact ⟨0, Nat.zero_le _, rfl, hj0, hk1⟩
  case round =>
    obtain ⟨k, hk, rfl, hj, hkk⟩ := hrel
    have s2 := ((HS.out 2 _ rfl).keeps hkk (.inr (.inr (.inl rfl)))).1
    have a0 := (HA.out.keeps hkk (.inr (.inr (.inr rfl)))).1
    have ar := H.out.keeps hkk (.inl rfl) (.inr (.inl rfl))
    clear t0 t2 hk1 hj0
    rcases Nat.lt_or_ge k l.length with hlt | hge
    · obtain ⟨_, l2, l3, l4⟩ := HL.out.at k hlt
      have l5 : begs B l (k + 1) = begs B l k + (l.getD k (0, Ob.new 0 0 false false 0)).2.took := rfl
      obtain ⟨q1, q2, q3, q4⟩ := Ob.took_eq l2
      generalize (l.getD k (0, Ob.new 0 0 false false 0)).2 = o at *
      obtain ⟨p, hp⟩ : ∃ p, begs B l k = p := ⟨_, rfl⟩
      rw [hp] at l3 l5
      have hlT : p < T := by omega
      have hYk := hid (fun W => hY k W hlt)
      rw [hp] at hYk ⊢
      rw [l5] at l4
      have L5 := hid l5
      have Q1 := hid q1
      have L3 := hid l3
      clear l5 q1 hp hY l3
      gi_wp2_with fail
      refine ⟨trivial, (callsIn_wide.2 (words_yes ar L3.out)).mono ?_⟩
      rintro e w2 ⟨rfl, c2⟩
      rw [← Q1.out]
      have hk2 := hkk.trans (Keeps.of_fr (keep := walkKeep b c sb ab) c2 (fun k hk => ⟨by
        rcases hk with rfl | rfl | rfl | rfl
        · exact ar.lt
        · obtain ⟨_, ⟨t, ht⟩, _⟩ := ar; exact (Array.getElem?_eq_some_iff.1 ht).1
        · exact ((HS.out 0 _ rfl).keeps hkk (.inr (.inr (.inl rfl)))).lt
        · exact (HA.out.keeps hkk (.inr (.inr (.inr rfl)))).lt, id⟩))
      obtain ⟨fn, tmps, assign, body, hy, hR⟩ := hYk.out w2 (hJ k _ _ hj c2)
      clear ar a0 s2
      gi_wp2
      refine hR.mono ?_
      rintro e W1 (⟨rfl, hJ1, hk3⟩ | ⟨rfl, hx1⟩)
      · gi_wp2
        go_roundw
        case rel => exact ⟨k + 1, by omega, by rw [L5.out]; go_num, hJ1, hk2.trans hk3⟩
        case measure => simp [intOf]; omega
      · gi_wp2
        exact bodyPost_ret (v := .tuple #[]) (by simp [results, Try.f85, go_sem]) rfl ⟨⟨_, rfl⟩, .inr hx1⟩
    · obtain rfl : k = l.length := by omega
      have he : begs B l l.length = T := HL.out.end
      rw [he]
      clear hge hk
      gi_wp2
      go_end0
      exact ⟨⟨_, rfl⟩, .inl hj⟩

end Go.Proofs.Ytcacbbfeenebbaa
