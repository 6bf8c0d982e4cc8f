/- Arguments opened: slices of structs. -/
import Derived.Test.YtoonimdohkbfgaaOpen
import Derived.Test.YtoonimdohkbfgaaChecked
import Derived.Deep.Slices
set_option linter.unusedSimpArgs false
set_option linter.unusedVariables false
namespace Go.Proofs.Ytoonimdohkbfgaa
open Go.ChangeShapes Go.WideShapes Go.ChangeAt Go.RowKit Go.Deep

/-- A slice whose elements take k cells each. -/
def RowK (w : World) (v : Value) (k : Nat) (xs : List (List Value)) : Prop :=
  ∃ a cap, v = .slice a xs.length cap ∧ (xs = [] ∨ ∃ b off, a = some ⟨b, off, none⟩ ∧ ∀ i x, xs[i]? = some x → ∀ j u, x[j]? = some u → w.cell? ⟨b, off + i * k + j, none⟩ = some u)

theorem RowK.calm {w w' : World} {v : Value} {k : Nat} {xs : List (List Value)} (h : RowK w v k xs) (c : Calm w w') : RowK w' v k xs := by
  obtain ⟨a, cap, hv, h⟩ := h
  refine ⟨a, cap, hv, ?_⟩
  rcases h with h | ⟨b, off, ha, hc⟩
  · exact .inl h
  · exact .inr ⟨b, off, ha, fun i x hx j u hu => c.cellAt (hc i x hx j u hu) id⟩

theorem RowK.cells {α : Type} {w : World} {v : Value} {k : Nat} {f : α → List Value} {l : List α} (h : RowK w v k (l.map f)) :
    ∃ a cap, v = .slice a l.length cap ∧ ∀ i o, l[i]? = some o → ∃ b off, a = some ⟨b, off, none⟩ ∧ ∀ j u, (f o)[j]? = some u → w.cell? ⟨b, off + i * k + j, none⟩ = some u := by
  obtain ⟨a, cap, rfl, h⟩ := h
  refine ⟨a, cap, by simp, fun i o ho => ?_⟩
  have hi : i < l.length := (List.getElem?_eq_some_iff.1 ho).1
  rcases h with h | ⟨b, off, rfl, hc⟩
  · simp at h; subst h; simp at hi
  · exact ⟨b, off, rfl, fun j u hu => hc i (f o) (by simp [ho]) j u hu⟩

section
variable {H : Type} {enc : TypeId × Value → H} {P : Program} {w : World} {base : Nat} {held : Bool}

theorem addr_add {b off n : Nat} : (⟨b, off, none⟩ : Addr).add n = ⟨b, off + n, none⟩ := by
  unfold Addr.add; split <;> simp_all

theorem open_rowk {r : Reach} {b0 : Nat} {t e : TypeId} {k : Nat} {R : List Value → Prop} {v : Value} {d : DataW H} {p : List MemPlace} (ht : P.underlying t = some (.slice e)) (hE : P.cellsOf e = k) (hk : 0 < k)
    (hR : ∀ fuel cs x, DataW.trod enc P w base (fun _ => true) held fuel e cs = some x → R cs)
    (hv : Value.okWide P w r b0 t v) (h : DataW.Trod enc P w base (fun _ => true) held t v d p) : ∃ xs : List (List Value), RowK w v k xs ∧ (∀ x ∈ xs, R x) ∧ xs.length ≤ maxLen := by
  obtain ⟨a0, len, cap, rfl⟩ := okWide_slice ht hv
  obtain ⟨fuel, hf⟩ := h
  rcases open_slice ht hf with ⟨hcs, _⟩ | ⟨a, l, c, m, n, D, Pl, hcs, hb, hl, hm, hmm, hx, hi⟩
  · simp [Value.cells] at hcs
    obtain ⟨rfl, rfl, rfl⟩ := hcs
    exact ⟨[], ⟨none, 0, rfl, .inl rfl⟩, by simp, by simp⟩
  · simp [Value.cells] at hcs
    obtain ⟨rfl, rfl, rfl⟩ := hcs
    simp at hmm
    rw [hE] at hi
    have each : ∀ i, i < len → ∃ cs, (cs.length = k ∧ R cs) ∧ ∀ j u, cs[j]? = some u → w.cell? (a.add (i * k + j)) = some u := by
      intro i hil
      obtain ⟨cs, hc, ht'⟩ := hi i (by omega)
      obtain ⟨_, hlen, hat⟩ := World.cells?_some hc
      refine ⟨cs, ⟨hlen, hR _ _ _ ht'⟩, fun j u hu => ?_⟩
      have hj : j < k := by rw [← hlen]; exact (List.getElem?_eq_some_iff.1 hu).1
      rw [← Go.Deep.add_add, hat j hj, hu]
    have hL : ∃ xs : List (List Value), xs.length = len ∧ ∀ i, i < len → (((xs.getD i []).length = k ∧ R (xs.getD i [])) ∧ ∀ j u, (xs.getD i [])[j]? = some u → w.cell? (a.add (i * k + j)) = some u) := by
      refine ⟨(List.range len).map (fun i => if h : i < len then (each i h).choose else []), by simp, fun i hi => ?_⟩
      have := (each i hi).choose_spec
      simpa [List.getD, hi] using this
    obtain ⟨xs, hxl, hxs⟩ := hL
    subst hxl
    refine ⟨xs, ⟨some a, cap, rfl, ?_⟩, fun x hx => ?_, by omega⟩
    · by_cases h0 : xs = []
      · exact .inl h0
      · right
        have h0l : 0 < xs.length := by cases xs with | nil => exact absurd rfl h0 | cons _ _ => simp
        obtain ⟨b, off, spot⟩ := a
        obtain ⟨⟨hl0, _⟩, hc0⟩ := hxs 0 h0l
        have hsome : (xs.getD 0 [])[0]? = some ((xs.getD 0 [])[0]'(by omega)) := List.getElem?_eq_getElem (by omega)
        have hspot : spot = none := by simpa [Addr.add] using World.cell?_spot (hc0 0 _ hsome)
        subst hspot
        refine ⟨b, off, rfl, fun i x hx j u hu => ?_⟩
        have hil : i < xs.length := (List.getElem?_eq_some_iff.1 hx).1
        have := (hxs i hil).2 j u (by simpa [List.getD, hx] using hu)
        rw [addr_add] at this
        rwa [Nat.add_assoc]
    · obtain ⟨i, hi, rfl⟩ := List.mem_iff_getElem.1 hx
      have := (hxs i hi).1.2
      simpa [List.getD, hi] using this

theorem list_of {α β : Type} {f : α → β} {p : α → Prop} : ∀ {xs : List β}, (∀ x ∈ xs, ∃ o, p o ∧ x = f o) → ∃ l : List α, xs = l.map f ∧ ∀ o ∈ l, p o
  | [], _ => ⟨[], rfl, by simp⟩
  | x :: xs, h => by
    obtain ⟨o, ho, rfl⟩ := h x (by simp)
    obtain ⟨l, rfl, hl⟩ := list_of (xs := xs) (fun y hy => h y (by simp [hy]))
    exact ⟨o :: l, rfl, by simpa using ⟨ho, hl⟩⟩

theorem trod_i64 {t : TypeId} {fuel : Nat} {spare : Nat → Bool} {cs : List Value} {x : DataW H × List MemPlace} (ht : P.underlying t = some (.int .i64)) (h : DataW.trod enc P w base spare held fuel t cs = some x) : ∃ n, cs = [.int .i64 n] ∧ I64 n := by
  obtain ⟨n, hn, _, hw⟩ := DataW.trod_int ht h
  exact ⟨n, hn, i64_of_wf hw⟩
theorem trod_u64 {t : TypeId} {fuel : Nat} {spare : Nat → Bool} {cs : List Value} {x : DataW H × List MemPlace} (ht : P.underlying t = some (.int .u64)) (h : DataW.trod enc P w base spare held fuel t cs = some x) : ∃ n : Nat, cs = [.int .u64 n] ∧ n < 18446744073709551616 := by
  obtain ⟨n, hn, _, hw⟩ := DataW.trod_int ht h
  have := u64_of_wf hw
  obtain ⟨m, rfl⟩ := Int.eq_ofNat_of_zero_le this.1
  exact ⟨m, hn, by omega⟩

/-- Three cells of an array of ints. -/
theorem trod_arr3 {t e : TypeId} {fuel : Nat} {spare : Nat → Bool} {cs : List Value} {x : DataW H × List MemPlace} (ht : P.underlying t = some (.array 3 e)) (he : P.underlying e = some (.int .i64)) (hE : P.cellsOf e = 1) (hC : P.cellsOf t = 3)
    (h : DataW.trod enc P w base spare held fuel t cs = some x) : ∃ a b c, cs = [.int .i64 a, .int .i64 b, .int .i64 c] ∧ I64 a ∧ I64 b ∧ I64 c := by
  obtain ⟨ys, m, _, _, hlen, hl, hx⟩ := DataW.trod_array ht h
  rw [hC] at hlen
  match cs, hlen with
  | [c0, c1, c2], _ =>
    match ys, hl with
    | [y0, y1, y2], _ =>
      have h0 := hx 0 (by omega)
      have h1 := hx 1 (by omega)
      have h2 := hx 2 (by omega)
      rw [hE] at h0 h1 h2
      obtain ⟨a, ha, wa⟩ := trod_i64 he h0
      obtain ⟨b, hb, wb⟩ := trod_i64 he h1
      obtain ⟨c, hc, wc⟩ := trod_i64 he h2
      simp at ha hb hc
      exact ⟨a, b, c, by rw [ha, hb, hc], wa, wb, wc⟩

/-- A slice of ints inside. -/
theorem trod_ints {t e : TypeId} {fuel : Nat} {cs : List Value} {x : DataW H × List MemPlace} (ht : P.underlying t = some (.slice e)) (he : P.underlying e = some (.int .i64)) (hE : P.cellsOf e = 1)
    (h : DataW.trod enc P w base (fun _ => true) held fuel t cs = some x) : ∃ v, cs = [v] ∧ ∃ xs : List Int, Row w v (xs.map (Value.int .i64)) ∧ (∀ x ∈ xs, I64 x) ∧ xs.length ≤ maxLen := by
  rcases open_ints ht he hE h with ⟨hcs, _⟩ | ⟨a, len, cap, zs, hcs, _, hl, hm, hz, _, hcell, hwz⟩
  · exact ⟨_, hcs, [], Row.nil w, by simp, by simp⟩
  · simp at hz
    refine ⟨_, hcs, zs.take len, ⟨some a, cap, by simp; omega, ?_⟩, fun y hy => i64_of_wf (hwz y (List.mem_of_mem_take hy)), by simp; omega⟩
    by_cases h0 : len = 0
    · left; simp [h0]
    · right
      obtain ⟨b, off, spot⟩ := a
      have hspot : spot = none := by simpa [Addr.add] using World.cell?_spot (hcell 0 (by omega))
      subst hspot
      refine ⟨b, off, rfl, fun i hi => ?_⟩
      have := hcell i (by simp at hi; omega)
      simp at hi
      have hi2 : i < zs.length := by omega
      rw [addr_add] at this
      simpa [List.getD, hi2] using this
end

/-- A raw op of layer 7. -/
structure Op7 where
  kd : Int
  at_ : Int
  i : Int
  n : Int
  W : Nat
def Op7.cells (o : Op7) : List Value := [.int .i64 o.kd, .int .i64 o.at_, .int .i64 o.i, .int .i64 o.n, .int .u64 o.W]
def Op7.Ok (o : Op7) : Prop := I64 o.kd ∧ I64 o.at_ ∧ I64 o.i ∧ I64 o.n ∧ o.W < 18446744073709551616
set_option maxRecDepth 100000 in
theorem open_op7 {H : Type} {enc : TypeId × Value → H} {w : World} {base : Nat} {held : Bool} {r : Reach} {b0 : Nat} {v : Value} {d : DataW H} {p : List MemPlace}
    (hv : Value.okWide Try.prog w r b0 23 v) (h : DataW.Trod enc Try.prog w base (fun _ => true) held 23 v d p) :
    ∃ l : List Op7, RowK w v 5 (l.map Op7.cells) ∧ (∀ o ∈ l, o.Ok) ∧ l.length ≤ maxLen := by
  obtain ⟨xs, h1, h2, h3⟩ := open_rowk (P := Try.prog) (R := fun cs => ∃ o : Op7, o.Ok ∧ cs = o.cells) Try.underlying23 (show Try.prog.cellsOf _ = 5 by kernel_rfl) (by omega) (fun fuel cs x hx => by
    obtain ⟨ys, n, _, _, hl, hyl, hf⟩ := DataW.trod_struct Try.underlying35 hx
    rw [show Try.prog.cellsOf 35 = 5 from by kernel_rfl] at hl
    have e1 : Try.prog.cellsOf 3 = 1 := by kernel_rfl
    have e2 : Try.prog.cellsOf 33 = 1 := by kernel_rfl
    match cs, hl with
    | [c0, c1, c2, c3, c4], _ =>
      match ys, hyl with
      | [y0, y1, y2, y3, y4], _ =>
        have f0 : DataW.trod enc Try.prog w base (fun _ => true) held n 3 (([c0, c1, c2, c3, c4].drop 0).take (Try.prog.cellsOf 3)) = some y0 := hf 0 _ rfl
        have f1 : DataW.trod enc Try.prog w base (fun _ => true) held n 3 (([c0, c1, c2, c3, c4].drop 1).take (Try.prog.cellsOf 3)) = some y1 := hf 1 _ rfl
        have f2 : DataW.trod enc Try.prog w base (fun _ => true) held n 3 (([c0, c1, c2, c3, c4].drop 2).take (Try.prog.cellsOf 3)) = some y2 := hf 2 _ rfl
        have f3 : DataW.trod enc Try.prog w base (fun _ => true) held n 3 (([c0, c1, c2, c3, c4].drop 3).take (Try.prog.cellsOf 3)) = some y3 := hf 3 _ rfl
        have f4 : DataW.trod enc Try.prog w base (fun _ => true) held n 33 (([c0, c1, c2, c3, c4].drop 4).take (Try.prog.cellsOf 33)) = some y4 := hf 4 _ rfl
        simp only [e1, e2] at f0 f1 f2 f3 f4
        obtain ⟨a, ha, wa⟩ := trod_i64 Try.underlying3 f0
        obtain ⟨b, hb, wb⟩ := trod_i64 Try.underlying3 f1
        obtain ⟨c, hc, wc⟩ := trod_i64 Try.underlying3 f2
        obtain ⟨d, hd, wd⟩ := trod_i64 Try.underlying3 f3
        obtain ⟨e, he, we⟩ := trod_u64 Try.underlying33 f4
        simp at ha hb hc hd he
        exact ⟨⟨a, b, c, d, e⟩, ⟨wa, wb, wc, wd, we⟩, by simp only [Op7.cells, ha, hb, hc, hd, he]⟩) hv h
  obtain ⟨l, rfl, hl⟩ := list_of h2
  exact ⟨l, h1, hl, by simpa using h3⟩

/-- A raw object of layer 8. -/
structure Raw8 where
  s0 : Int
  s1 : Int
  s2 : Int
  F : Value
  f : List Int
  fr : Bool
def Raw8.cells (o : Raw8) : List Value := [.int .i64 o.s0, .int .i64 o.s1, .int .i64 o.s2, o.F, .bool o.fr]
def Raw8.Ok (w : World) (o : Raw8) : Prop := I64 o.s0 ∧ I64 o.s1 ∧ I64 o.s2 ∧ Row w o.F (o.f.map (Value.int .i64)) ∧ (∀ x ∈ o.f, I64 x) ∧ o.f.length ≤ maxLen
set_option maxRecDepth 100000 in
theorem open_raw8 {H : Type} {enc : TypeId × Value → H} {w : World} {base : Nat} {held : Bool} {r : Reach} {b0 : Nat} {v : Value} {d : DataW H} {p : List MemPlace}
    (hv : Value.okWide Try.prog w r b0 47 v) (h : DataW.Trod enc Try.prog w base (fun _ => true) held 47 v d p) :
    ∃ l : List Raw8, RowK w v 5 (l.map Raw8.cells) ∧ (∀ o ∈ l, o.Ok w) ∧ l.length ≤ maxLen := by
  obtain ⟨xs, h1, h2, h3⟩ := open_rowk (P := Try.prog) (R := fun cs => ∃ o : Raw8, o.Ok w ∧ cs = o.cells) Try.underlying47 (show Try.prog.cellsOf _ = 5 by kernel_rfl) (by omega) (fun fuel cs x hx => by
    obtain ⟨ys, n, _, _, hl, hyl, hf⟩ := DataW.trod_struct Try.underlying87 hx
    rw [show Try.prog.cellsOf 87 = 5 from by kernel_rfl] at hl
    have e1 : Try.prog.cellsOf 22 = 3 := by kernel_rfl
    have e2 : Try.prog.cellsOf 50 = 1 := by kernel_rfl
    have e3 : Try.prog.cellsOf 4 = 1 := by kernel_rfl
    have e4 : Try.prog.cellsOf 3 = 1 := by kernel_rfl
    match cs, hl with
    | [c0, c1, c2, c3, c4], _ =>
      match ys, hyl with
      | [y0, y1, y2], _ =>
        have f0 : DataW.trod enc Try.prog w base (fun _ => true) held n 22 (([c0, c1, c2, c3, c4].drop 0).take (Try.prog.cellsOf 22)) = some y0 := hf 0 _ rfl
        have f1 : DataW.trod enc Try.prog w base (fun _ => true) held n 50 (([c0, c1, c2, c3, c4].drop 3).take (Try.prog.cellsOf 50)) = some y1 := hf 1 _ rfl
        have f2 : DataW.trod enc Try.prog w base (fun _ => true) held n 4 (([c0, c1, c2, c3, c4].drop 4).take (Try.prog.cellsOf 4)) = some y2 := hf 2 _ rfl
        simp only [e1, e2, e3] at f0 f1 f2
        obtain ⟨a, b, c, ha, wa, wb, wc⟩ := trod_arr3 Try.underlying22 Try.underlying3 e4 e1 f0
        obtain ⟨F, hF, g, wf⟩ := trod_ints Try.underlying50 Try.underlying3 e4 f1
        obtain ⟨z, hz, _⟩ := DataW.trod_bool Try.underlying4 f2
        simp at ha hF hz
        exact ⟨⟨a, b, c, F, g, z⟩, ⟨wa, wb, wc, wf⟩, by simp only [Raw8.cells, ha.1, ha.2.1, ha.2.2, hF, hz]⟩) hv h
  obtain ⟨l, rfl, hl⟩ := list_of h2
  exact ⟨l, h1, hl, by simpa using h3⟩



end Go.Proofs.Ytoonimdohkbfgaa
