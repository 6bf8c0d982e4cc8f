/- Rows of nodes of the call's own. -/
import Derived.Test.YtiomemdmhcdpbaaNode
set_option linter.unusedSimpArgs false
set_option linter.unusedVariables false
namespace Go.Proofs.Ytiomemdmhcdpbaa
open Go.RowKit Go.Shelf Go.Maps

theorem info_nd : (Try.prog.info? 63).map (fun i => (i.zero, i.size, i.bytes)) = some (some (.agg #[.int .i64 0, .int .i64 0, .int .i64 0, .bool false, .bool false, .bool false, .slice none 0 0, .slice none 0 0]), 8, 88) := by kernel_rfl

/-- A node. -/
structure Nd where
  ser : Int
  p : Nat
  d : Nat
  wk : Bool
  fn : Bool
  fr : Bool
  ps : List Int
  ns : List Int
  deriving DecidableEq
def Ob.nd (o : Ob) (L : List Nat) : Nd := ⟨o.ser, o.p, o.d, o.wk, o.fn, o.fr, ptI L o.ps, nmI o.ns⟩
/-- A node in a row: the node, its slices. -/
structure NI where
  nd : Nd
  vp : Value
  vn : Value
def NI.cells (x : NI) : List Value := ndC x.nd.ser x.nd.p x.nd.d x.nd.wk x.nd.fn x.nd.fr x.vp x.vn
theorem NI.cells_length (x : NI) : x.cells.length = 8 := rfl
def NI.row (w : World) (base : Nat) (x : NI) : Prop := ORow w base x.vp x.nd.ps ∧ ORow w base x.vn x.nd.ns
/-- No block is both rows'. -/
def Aprt (a b : Value) : Prop := ∀ k, InB a k → ¬ InB b k
theorem Aprt.symm {a b : Value} (h : Aprt a b) : Aprt b a := fun k h1 h2 => h k h2 h1
/-- All slices of a row of nodes. -/
def nblk (v : Value) (ls : List NI) : List Value := v :: ls.flatMap fun x => [x.vp, x.vn]
structure NRow (w : World) (base : Nat) (v : Value) (ls : List NI) : Prop where
  own : w.ownsRow base 63 8 v ls.length (ls.flatMap NI.cells)
  item : ∀ x ∈ ls, x.row w base
  apart : (nblk v ls).Pairwise Aprt
theorem NRow.nil (w : World) (base : Nat) : NRow w base (.slice none 0 0) [] :=
  ⟨World.ownsRow_nil _ _ _ _, by simp, by simp [nblk]⟩
theorem own_frB {S : Nat → Prop} {w w' : World} {base : Nat} {e : TypeId} {size n : Nat} {v : Value} {xs : List Value} (h : w.ownsRow base e size v n xs) (f : Fr S w w') (hs : ∀ b, InB v b → ¬ S b) : w'.ownsRow base e size v n xs := by
  refine ⟨h.1, ?_⟩
  rcases h.2 with hn | ⟨g, cap, cur, hv, hb, hgg, rest⟩
  · exact .inl hn
  · exact .inr ⟨g, cap, cur, hv, hb, f.heapAt hgg (hs _ (by rw [hv]; rfl)), rest⟩
theorem NRow.fr {S : Nat → Prop} {w w' : World} {base : Nat} {v : Value} {ls : List NI} (h : NRow w base v ls) (f : Fr S w w') (hs : ∀ x ∈ nblk v ls, ∀ b, InB x b → ¬ S b) : NRow w' base v ls := by
  refine ⟨own_frB h.own f (hs v (by simp [nblk])), fun x hx => ⟨(h.item x hx).1.frB f (hs x.vp ?_), (h.item x hx).2.frB f (hs x.vn ?_)⟩, h.apart⟩
  · simp [nblk]; exact .inr ⟨x, hx, .inl rfl⟩
  · simp [nblk]; exact .inr ⟨x, hx, .inr rfl⟩
theorem NRow.calm {w w' : World} {base : Nat} {v : Value} {ls : List NI} (h : NRow w base v ls) (f : Calm w w') : NRow w' base v ls := h.fr f (fun _ _ _ _ => id)
theorem NRow.lt {w : World} {base : Nat} {v : Value} {ls : List NI} (h : NRow w base v ls) : ∀ x ∈ nblk v ls, ∀ b, InB x b → base ≤ b ∧ b < w.heap.size := by
  intro x hx b hb
  simp only [nblk, List.mem_cons, List.mem_flatMap] at hx
  rcases hx with rfl | ⟨y, hy, hx⟩
  · exact h.own.lt b hb
  · simp at hx
    rcases hx with rfl | rfl
    · exact (h.item y hy).1.lt hb
    · exact (h.item y hy).2.lt hb
theorem NRow.slice {w : World} {base : Nat} {v : Value} {ls : List NI} (h : NRow w base v ls) : ∃ a c, v = .slice a ls.length c := by
  rcases h.own.2 with ⟨rfl, h0⟩ | ⟨g, cap, cur, rfl, _⟩
  · exact ⟨none, 0, by rw [h0]⟩
  · exact ⟨_, _, rfl⟩
theorem NRow.letters {w : World} {base : Nat} {v : Value} {ls : List NI} (h : NRow w base v ls) : ∃ a n c, v = .slice a n c := by
  obtain ⟨a, c, e⟩ := h.slice; exact ⟨a, _, c, e⟩
theorem NRow.mono {w : World} {base base' : Nat} {v : Value} {ls : List NI} (h : NRow w base v ls) (hb : base' ≤ base) : NRow w base' v ls := by
  refine ⟨?_, fun x hx => ⟨(h.item x hx).1.mono hb, (h.item x hx).2.mono hb⟩, h.apart⟩
  refine ⟨h.own.1, ?_⟩
  rcases h.own.2 with hn | ⟨g, cap, cur, hv, hb', rest⟩
  · exact .inl hn
  · exact .inr ⟨g, cap, cur, hv, by omega, rest⟩

theorem cell_row_new (w : World) (xs : List Value) (t : TypeId) : ∀ j u, xs[j]? = some u → (w.alloc (.cells xs.toArray t)).cell? ((⟨w.heap.size, 0, none⟩ : Addr).add j) = some u := by
  intro j u hj
  rw [show ((⟨w.heap.size, 0, none⟩ : Addr).add j) = ⟨w.heap.size, j, none⟩ by rw [addr_at]; simp]
  rw [World.cell?_alloc_new]; simpa using hj

/-- One node more. -/
theorem wpList_appN {ops : Array Oper} {rest : List Oper} {o : Oper} {a : Act} {Q : Exit → Act → World → Prop} {w : World} (hgd : o.guard = none) (s x : Operand)
    (ho : o.op = .call { callee := .builtin .append, args := #[s, x], argTypes := #[59, 59] })
    (base : Nat) (v : Value) (ls : List NI) (hown : NRow w base v ls) (hs : a.eval s = v) (y : NI) (hpa : Aprt y.vp y.vn) (ha : ∀ z ∈ nblk v ls, Aprt z y.vp ∧ Aprt z y.vn) (hy : y.row w base)
    (c0 c1 c2 c3 c4 c5 c6 c7 : Value) (hcells : y.cells = [c0, c1, c2, c3, c4, c5, c6, c7]) (h1 : ∀ u ∈ y.cells, u.oneCell' = true)
    (nb : Nat) (hx : a.eval x = .slice (some ⟨nb, 0, none⟩) 1 1) (hnb : nb = w.heap.size) (hl : ls.length ≤ 1000000) (hbase : base ≤ w.heap.size)
    (h : ∀ g c w', NRow w' base (.slice (some ⟨g, 0, none⟩) (ls.length + 1) c) (ls ++ [y]) → Fr (InB v) w w' → (InB v g ∨ w.heap.size ≤ g) → wpList Try.prog ops Q rest (a.put o.dst (.slice (some ⟨g, 0, none⟩) (ls.length + 1) c)) w') :
    wpList Try.prog ops Q (o :: rest) a (w.alloc (.cells #[c0, c1, c2, c3, c4, c5, c6, c7] 63)) := by
  subst hnb
  obtain ⟨i0, hi, hz0, hz1, hz2⟩ := info_parts info_nd
  have hc : #[c0, c1, c2, c3, c4, c5, c6, c7] = y.cells.toArray := by rw [hcells]
  rw [hc]
  refine wpList_append_own_at _ hgd s x 59 ho base 63 i0 _ 8 88 Try.underlying59 hi hz0 hz1 hz2 rfl (by decide) v ls.length (ls.flatMap NI.cells) hs (World.ownsRow.alloc hown.own _) ⟨w.heap.size, 0, none⟩ 1 1 y.cells hx rfl (cell_row_new _ _ _) h1 (by unfold maxLen; omega) (by omega) (by simp; omega) ?_
  intro v' w' hown' hgrow _ hloc
  obtain ⟨g, c, rfl⟩ := ownsRow_succ hown'
  have hf : Fr (InB v) w w' := fr_of_grown1 hgrow
  have hg : InB v g ∨ w.heap.size ≤ g := by
    rcases hloc with hloc | hloc
    · exact .inl (hloc.symm.trans rfl)
    · right; simp [Value.ownBlock] at hloc; omega
  have hav : ∀ z ∈ ls.flatMap (fun x => [x.vp, x.vn]), Aprt v z := fun z hz => (List.pairwise_cons.1 hown.apart).1 z hz
  have hold : ∀ z ∈ ls.flatMap (fun x => [x.vp, x.vn]), ∀ k, InB z k → k < w.heap.size := fun z hz k hk => (hown.lt z (by simp only [nblk]; exact List.mem_cons_of_mem _ hz) k hk).2
  have hyv := ha v (by simp [nblk])
  refine h g c w' ⟨by simpa using hown', fun z hz => ?_, ?_⟩ hf hg
  · rcases List.mem_append.1 hz with hz | hz
    · have := hown.item z hz
      exact ⟨this.1.frB hf (fun b hb hv => hav z.vp (by simp; exact ⟨z, hz, .inl rfl⟩) b hv hb), this.2.frB hf (fun b hb hv => hav z.vn (by simp; exact ⟨z, hz, .inr rfl⟩) b hv hb)⟩
    · simp at hz; subst hz
      exact ⟨hy.1.frB hf (fun b hb hv => hyv.1 b hv hb), hy.2.frB hf (fun b hb hv => hyv.2 b hv hb)⟩
  · have hnew : ∀ z, Aprt v z → (∀ k, InB z k → k < w.heap.size) → Aprt (.slice (some ⟨g, 0, none⟩) (ls.length + 1) c) z := by
      intro z hz hlt k hk hk2
      obtain rfl := InB.mk1 hk
      rcases hg with hg | hg
      · exact hz _ hg hk2
      · have := hlt _ hk2; omega
    have he : nblk (.slice (some ⟨g, 0, none⟩) (ls.length + 1) c) (ls ++ [y]) = .slice (some ⟨g, 0, none⟩) (ls.length + 1) c :: (ls.flatMap (fun x => [x.vp, x.vn]) ++ [y.vp, y.vn]) := by simp [nblk]
    rw [he, List.pairwise_cons, List.pairwise_append]
    have hy1 : ∀ k, InB y.vp k → k < w.heap.size := fun k hk => (hy.1.lt hk).2
    have hy2 : ∀ k, InB y.vn k → k < w.heap.size := fun k hk => (hy.2.lt hk).2
    refine ⟨fun z hz => ?_, (List.pairwise_cons.1 hown.apart).2, by simp [hpa], fun z hz u hu => ?_⟩
    · rcases List.mem_append.1 hz with hz | hz
      · exact hnew z (hav z hz) (hold z hz)
      · simp at hz
        rcases hz with rfl | rfl
        · exact hnew _ hyv.1 hy1
        · exact hnew _ hyv.2 hy2
    · have := ha z (by simp only [nblk]; exact List.mem_cons_of_mem _ hz)
      simp at hu
      rcases hu with rfl | rfl
      · exact this.1
      · exact this.2

end Go.Proofs.Ytiomemdmhcdpbaa
