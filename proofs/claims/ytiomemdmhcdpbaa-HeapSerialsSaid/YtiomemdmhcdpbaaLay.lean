/- Layer 8's Lay: what it lays. -/
import Derived.Test.YtiomemdmhcdpbaaAwake08
import Derived.Test.YtiomemdmhcdpbaaFit
import Derived.Test.YtiomemdmhcdpbaaOpen2
import Derived.Deep.CutBlock
set_option linter.unusedSimpArgs false
set_option linter.unusedVariables false
namespace Go.Proofs.Ytiomemdmhcdpbaa
open Go.RowKit Go.Shelf

/-- Objects one behind the other, none of them gone. -/
def Laid (xs : List Nat) : Nat → Nat → List (Nat × Ob) → Prop
  | b, e, [] => b = e
  | b, e, (a, o) :: l => a = b ∧ At xs a o ∧ Laid xs (b + o.took) e l
theorem Laid.lie {xs : List Nat} : ∀ {l : List (Nat × Ob)} {b e : Nat}, Laid xs b e l → Lie xs b e l
  | [], _, _, h => h
  | (_, _) :: _, _, _, ⟨h1, h2, h3⟩ => ⟨h1, h2.ok, .inl h2, h3.lie⟩
theorem Laid.congr {xs ys : List Nat} (hl : ys.length = xs.length) : ∀ {l : List (Nat × Ob)} {b e : Nat}, Laid xs b e l → (∀ j, b ≤ j → j < e → ys.getD j 0 = xs.getD j 0) → Laid ys b e l
  | [], _, _, h, _ => h
  | (a, o) :: l, b, e, ⟨h1, h2, h3⟩, hj => by
    have := h3.lie.le
    obtain ⟨_, q2, q3, _⟩ := Ob.took_eq h2.ok
    refine ⟨h1, h2.of_eq (by rw [hl]; exact h2.room) (fun i hi => hj _ (by omega) (by omega)), Laid.congr hl h3 (fun j k1 k2 => hj j (by omega) k2)⟩
theorem Laid.snoc {xs : List Nat} {o : Ob} : ∀ {l : List (Nat × Ob)} {b e : Nat}, Laid xs b e l → At xs e o → Laid xs b (e + o.took) (l ++ [(e, o)])
  | [], b, e, h, ho => by
    have h : b = e := h
    subst h
    exact ⟨rfl, ho, rfl⟩
  | (a, p) :: l, b, e, ⟨h1, h2, h3⟩, ho => ⟨h1, h2, h3.snoc ho⟩
theorem Laid.at {xs : List Nat} : ∀ {l : List (Nat × Ob)} {b e : Nat}, Laid xs b e l → ∀ k, k < l.length → At xs (begs b l k) (l.getD k (0, Ob.new 0 0 false false 0)).2
  | (a, o) :: l, b, e, ⟨h1, h2, h3⟩, 0, _ => h1 ▸ h2
  | (a, o) :: l, b, e, ⟨h1, h2, h3⟩, k + 1, hk => by
    rw [begs_cons]
    exact Laid.at h3 k (by simpa using hk)

/-- What was laid so far. -/
structure LayO (xs X : List Nat) (e : Nat) (l : List (Nat × Ob)) : Prop where
  len : X.length = xs.length
  laid : Laid X 1 e l
  le : e ≤ 151
  ser : ∀ i, i < l.length → (l.getD i (0, Ob.new 0 0 false false 0)).2.ser = i + 1
  out : ∀ j, j < 1 ∨ 151 ≤ j → X.getD j 0 = xs.getD j 0

/-- The object that is being filled. -/
structure LayJ (X0 X : List Nat) (e : Nat) (o0 o : Ob) : Prop where
  at_ : At X e o
  len : X.length = X0.length
  p : o.p = o0.p
  d : o.d = o0.d
  ser : o.ser = o0.ser
  out : ∀ j, j < e ∨ e + o0.size ≤ j → X.getD j 0 = X0.getD j 0

theorem LayJ.ptr {X0 X : List Nat} {e : Nat} {o0 o : Ob} (h : LayJ X0 X e o0 o) {bp : Bool} {k : Int} {v : Nat} (hk : Has bp k o.p) (hv : v ≤ 131072) :
    LayJ X0 (bif bp then X.set (e + 3 + k.toNat) v else X) e o0 (bif bp then { o with ps := o.ps.set k.toNat v } else o) := by
  have := Has.at_ptr h.at_ hk hv
  rcases hk with ⟨rfl, h1, h2⟩ | ⟨rfl, h1⟩
  · refine ⟨this, by rw [cond_true, List.length_set]; exact h.len, h.p, h.d, h.ser, fun j hj => ?_⟩
    rw [cond_true, getD_set, if_neg (by have := h.p; have := h.d; simp only [Ob.size] at hj; omega)]
    exact h.out j hj
  · exact h
theorem LayJ.num {X0 X : List Nat} {e : Nat} {o0 o : Ob} (h : LayJ X0 X e o0 o) {bp : Bool} {k v : Int} (hk : Has bp k o.d) (hv : I64 v) :
    LayJ X0 (bif bp then X.set (e + 3 + o.p + k.toNat) (zg v) else X) e o0 (bif bp then { o with ns := o.ns.set k.toNat (zg v) } else o) := by
  have := Has.at_num h.at_ hk hv
  rcases hk with ⟨rfl, h1, h2⟩ | ⟨rfl, h1⟩
  · refine ⟨this, by rw [cond_true, List.length_set]; exact h.len, h.p, h.d, h.ser, fun j hj => ?_⟩
    rw [cond_true, getD_set, if_neg (by have := h.p; have := h.d; simp only [Ob.size] at hj; omega)]
    exact h.out j hj
  · exact h
theorem LayJ.freed {X0 X : List Nat} {e : Nat} {o0 o : Ob} (h : LayJ X0 X e o0 o) (fr : Bool) : LayJ X0 (X.set e (hd o.p o.d o.wk o.fn fr)) e o0 { o with fr := fr } := by
  refine ⟨h.at_.setHead fr, by rw [List.length_set]; exact h.len, h.p, h.d, h.ser, fun j hj => ?_⟩
  rw [getD_set, if_neg (by simp only [Ob.size] at hj; omega)]
  exact h.out j hj

theorem LayO.step {xs X Y : List Nat} {e : Nat} {l : List (Nat × Ob)} (h : LayO xs X e l) {p d : Nat} {wk fn : Bool} (hok : okS p d wk fn) {o : Ob} (hn : e + (rnd (3 + p + d : Nat)).toNat ≤ 151) (hx : 151 ≤ xs.length)
    (hj : LayJ (made X e p d wk fn (l.length + 1)) Y e (Ob.new p d wk fn (l.length + 1)) o) : LayO xs Y (e + (rnd (3 + p + d : Nat)).toNat) (l ++ [(e, o)]) := by
  have h1 := h.laid.lie.le
  have hs : o.size = 3 + p + d := by simp only [Ob.size, hj.p, hj.d, Ob.new]
  have ht : o.took = (rnd (3 + p + d : Nat)).toNat := by rw [Ob.took, hs]
  obtain ⟨q1, q2, q3, q4⟩ := Ob.took_eq hj.at_.ok
  have hr : e + (3 + p + d) ≤ X.length := by rw [h.len]; omega
  have hm : ∀ j, j < e ∨ e + (3 + p + d) ≤ j → (made X e p d wk fn (l.length + 1)).getD j 0 = X.getD j 0 := fun j hj => by
    rw [made_getD hr, if_neg (by omega), if_neg (by omega), if_neg (by omega)]
  have ho : ∀ j, j < e ∨ e + (3 + p + d) ≤ j → Y.getD j 0 = X.getD j 0 := fun j hj2 => (hj.out j (by simpa [Ob.size, Ob.new] using hj2)).trans (hm j hj2)
  have hlY : Y.length = X.length := by rw [hj.len, made_length]
  refine ⟨by rw [hlY, h.len], ?_, hn, fun i hi => ?_, fun j hj2 => (ho j (by omega)).trans (h.out j hj2)⟩
  · rw [← ht]
    exact (h.laid.congr hlY (fun j k1 k2 => ho j (.inl k2))).snoc hj.at_
  · simp at hi
    by_cases hi2 : i < l.length
    · have := h.ser i hi2
      simpa [List.getD, List.getElem?_append, hi2] using this
    · obtain rfl : i = l.length := by omega
      simpa [List.getD, Ob.new] using hj.ser

end Go.Proofs.Ytiomemdmhcdpbaa
