/- Objects copied on and on: plain facts, for MoverOn. -/
import Derived.Test.YtoonimdohkbfgaaMvO
set_option linter.unusedSimpArgs false
set_option linter.unusedVariables false
namespace Go.Proofs.Ytoonimdohkbfgaa
open Go.RowKit Go.Shelf

abbrev dO : Ob := Ob.new 0 0 false false 0
/-- How many words the first k objects take. -/
def tk (os : List Ob) : Nat → Nat
  | 0 => 0
  | k + 1 => tk os k + (os.getD k dO).took
theorem tk_mono (os : List Ob) {i j : Nat} (h : i ≤ j) : tk os i ≤ tk os j := by
  induction h with
  | refl => exact Nat.le_refl _
  | step _ ih => exact Nat.le_trans ih (Nat.le_add_right _ _)
/-- The first k objects lie from bn on, the others from bo on. -/
structure On (X : List Nat) (os : List Ob) (bo bn k : Nat) : Prop where
  len : X.length = 600
  new : ∀ j, j < k → At X (bn + tk os j) (os.getD j dO)
  old : ∀ j, k ≤ j → j < os.length → At X (bo + tk os j) (os.getD j dO)

theorem On.step {X : List Nat} {os : List Ob} {bo bn k : Nat} (h : On X os bo bn k) (hk : k < os.length) (h1 : bo + 150 ≤ bn) (h2 : bn + 150 ≤ 600) (ht : tk os os.length ≤ 150) (h0 : 1 ≤ bo) :
    On (cpd X (bo + tk os k) (bn + tk os k) (os.getD k dO).size) os bo bn (k + 1) := by
  have hA := h.old k (Nat.le_refl _) hk
  have hkt : tk os k + (os.getD k dO).took ≤ 150 := Nat.le_trans (tk_mono os (i := k + 1) hk) ht
  obtain ⟨_, q2, q3, _⟩ := Ob.took_eq hA.ok
  have hr : bn + tk os k + (os.getD k dO).size ≤ X.length := by rw [h.len]; omega
  have hal := hA.lt
  refine ⟨by rw [cpd_length hr]; exact h.len, fun j hj => ?_, fun j hj hj2 => ?_⟩
  · by_cases e : j = k
    · subst e
      exact cpd_at hA hr (.inl (by omega))
    · have hjA := h.new j (by omega)
      obtain ⟨_, r2, r3, _⟩ := Ob.took_eq hjA.ok
      have := tk_mono os (i := j + 1) (j := k) (by omega)
      have e1 : tk os (j + 1) = tk os j + (os.getD j dO).took := rfl
      exact cpd_far hr hal hjA (.inl (by omega)) (.inr (by omega))
  · have hjA := h.old j (by omega) hj2
    obtain ⟨_, r2, r3, _⟩ := Ob.took_eq hjA.ok
    have := tk_mono os (i := k + 1) (j := j) (by omega)
    have e1 : tk os (k + 1) = tk os k + (os.getD k dO).took := rfl
    have := tk_mono os (i := j + 1) (j := os.length) (by omega)
    have e2 : tk os (j + 1) = tk os j + (os.getD j dO).took := rfl
    exact cpd_far hr hal hjA (.inl (by omega)) (.inr (by omega))
/-- All moved: the next time. -/
theorem On.turn {X : List Nat} {os : List Ob} {bo bn bx : Nat} (h : On X os bo bn os.length) : On X os bn bx 0 :=
  ⟨h.len, fun j hj => absurd hj (by omega), fun j _ hj => h.new j hj⟩
/-- The places when k have moved. -/
def wh (os : List Ob) (bo bn k : Nat) : List Int := (List.range os.length).map fun j => (((bif decide (j < k) then bn else bo) + tk os j : Nat) : Int)
theorem wh_len (os : List Ob) (bo bn k : Nat) : (wh os bo bn k).length = os.length := by simp [wh]
theorem wh_get {os : List Ob} {bo bn k j : Nat} (h : j < os.length) : (wh os bo bn k).getD j 0 = (((bif decide (j < k) then bn else bo) + tk os j : Nat) : Int) := by simp [wh, List.getD, h]
theorem wh_set {os : List Ob} {bo bn k : Nat} (h : k < os.length) : (wh os bo bn k).set k ((bn + tk os k : Nat) : Int) = wh os bo bn (k + 1) := by
  apply List.ext_getElem (by simp [wh])
  intro j h1 h2
  rw [List.getElem_set]
  split
  · rename_i e; subst e; simp [wh]
  · rename_i e
    simp only [wh, List.getElem_map, List.getElem_range]
    by_cases hj : j < k
    · rw [show decide (j < k) = true from decide_eq_true hj, show decide (j < k + 1) = true from decide_eq_true (by omega)]
    · rw [show decide (j < k) = false from decide_eq_false hj, show decide (j < k + 1) = false from decide_eq_false (by omega)]
theorem wh_turn (os : List Ob) (bo bn bx : Nat) : wh os bo bn os.length = wh os bn bx 0 := by
  apply List.ext_getElem (by simp [wh])
  intro j h1 h2
  have : j < os.length := by simpa [wh] using h1
  simp [wh, this]
/-- What moved, as a list. -/
def newL (os : List Ob) (bn k : Nat) : List (Nat × Ob) := (List.range k).map fun j => (bn + tk os j, os.getD j dO)
theorem On.laid {X : List Nat} {os : List Ob} {bo bn k : Nat} (h : On X os bo bn k) : ∀ i, i ≤ k → Laid X bn (bn + tk os i) (newL os bn i)
  | 0, _ => rfl
  | i + 1, hi => by
    have := Laid.snoc (h.laid i (by omega)) (h.new i (by omega))
    have e : bn + tk os (i + 1) = bn + tk os i + (os.getD i dO).took := by show bn + (tk os i + _) = _; omega
    rw [newL, List.range_succ, List.map_append, e]
    exact this
theorem plc_newL (os : List Ob) (bo bn : Nat) : nI (plc (newL os bn os.length)) = wh os bo bn os.length := by
  apply List.ext_getElem (by simp [wh, newL, plc])
  intro j h1 h2
  have : j < os.length := by simpa [wh] using h2
  simp [wh, newL, plc, this]

theorem begs_tk (b : Nat) (ls : List (Nat × Ob)) : ∀ k, k ≤ ls.length → begs b ls k = b + tk (ls.map (·.2)) k
  | 0, _ => rfl
  | k + 1, hk => by
    have hk2 : k < ls.length := by omega
    show begs b ls k + _ = b + (tk _ k + _)
    rw [begs_tk b ls k (by omega)]
    have : ((ls.map (·.2)).getD k dO) = (ls.getD k (0, Ob.new 0 0 false false 0)).2 := by simp [List.getD, hk2]
    rw [this]; omega
theorem On.start {X : List Nat} {en : Nat} {ls : List (Nat × Ob)} (h : Laid X 1 en ls) (hl : X.length = 600) (he : en ≤ 151) (bn : Nat) :
    On X (ls.map (·.2)) 1 bn 0 ∧ tk (ls.map (·.2)) (ls.map (·.2)).length ≤ 150 ∧ nI (plc ls) = wh (ls.map (·.2)) 1 bn 0 := by
  refine ⟨⟨hl, fun j hj => absurd hj (by omega), fun j _ hj => ?_⟩, ?_, ?_⟩
  · have hj2 : j < ls.length := by simpa using hj
    have := h.at j hj2
    rw [begs_tk 1 ls j (by omega)] at this
    have e : ((ls.map (·.2)).getD j dO) = (ls.getD j (0, Ob.new 0 0 false false 0)).2 := by simp [List.getD, hj2]
    rw [e]; exact this
  · have := Lie.end h.lie
    rw [begs_tk 1 ls _ (Nat.le_refl _)] at this
    simp only [List.length_map]
    omega
  · apply List.ext_getElem (by simp [wh, plc])
    intro j h1 h2
    have hj : j < ls.length := by simpa [plc] using h1
    have := (Lie.at h.lie j hj).1
    rw [begs_tk 1 ls j (by omega)] at this
    simp [List.getD, hj] at this
    simp [wh, plc, this]

theorem SRow.frB {S : Nat → Prop} {w w' : World} {base : Nat} {v : Value} {ls : List Ob} (h : SRow w base v ls) (f : Fr S w w') (hs : ∀ b, InB v b → ¬ S b) : SRow w' base v ls := by
  refine ⟨h.1, ?_⟩
  rcases h.2 with hn | ⟨g, cap, cur, hv, hb, hgg, rest⟩
  · exact .inl hn
  · exact .inr ⟨g, cap, cur, hv, hb, f.heapAt hgg (hs _ (by rw [hv]; rfl)), rest⟩
theorem SRow.lt {w : World} {base : Nat} {v : Value} {ls : List Ob} (h : SRow w base v ls) {b : Nat} (hb : InB v b) : base ≤ b ∧ b < w.heap.size := World.ownsRow.lt h b hb
theorem SRow.letters {w : World} {base : Nat} {v : Value} {ls : List Ob} (h : SRow w base v ls) : ∃ a n c, v = .slice a n c := by
  rcases h.2 with ⟨rfl, h0⟩ | ⟨g, cap, cur, rfl, _⟩
  · exact ⟨_, _, _, rfl⟩
  · exact ⟨_, _, _, rfl⟩
theorem WWR.letters {w : World} {base : Nat} {v : Value} {ls : List (Value × List Nat)} (h : WWR w base v ls) : ∃ a n c, v = .slice a n c := by
  rcases h.own.2 with ⟨rfl, h0⟩ | ⟨g, cap, cur, rfl, _⟩
  · exact ⟨_, _, _, rfl⟩
  · exact ⟨_, _, _, rfl⟩
/-- No block of a row of slices is this. -/
def WOut (v : Value) (ls : List (Value × List Nat)) (S : Nat → Prop) : Prop := (∀ b, InB v b → ¬ S b) ∧ ∀ x ∈ ls, ∀ b, InB x.1 b → ¬ S b
theorem WWR.frB {S : Nat → Prop} {w w' : World} {base : Nat} {v : Value} {ls : List (Value × List Nat)} (h : WWR w base v ls) (f : Fr S w w') (hs : WOut v ls S) : WWR w' base v ls := by
  refine ⟨?_, fun x hx => (h.item x hx).frB f (hs.2 x hx), h.apart⟩
  refine ⟨h.own.1, ?_⟩
  rcases h.own.2 with hn | ⟨g, cap, cur, hv, hb, hgg, rest⟩
  · exact .inl hn
  · exact .inr ⟨g, cap, cur, hv, hb, f.heapAt hgg (hs.1 _ (by rw [hv]; rfl)), rest⟩
theorem WWR.lt {w : World} {base : Nat} {v : Value} {ls : List (Value × List Nat)} (h : WWR w base v ls) : (∀ b, InB v b → base ≤ b ∧ b < w.heap.size) ∧ ∀ x ∈ ls, ∀ b, InB x.1 b → base ≤ b ∧ b < w.heap.size :=
  ⟨fun b hb => World.ownsRow.lt h.own b hb, fun x hx b hb => (h.item x hx).ltB hb⟩
theorem WWR.out {w : World} {base : Nat} {v : Value} {ls : List (Value × List Nat)} (h : WWR w base v ls) {S : Nat → Prop} (hS : ∀ b, base ≤ b → b < w.heap.size → ¬ S b) : WOut v ls S :=
  ⟨fun b hb => hS b (h.lt.1 b hb).1 (h.lt.1 b hb).2, fun x hx b hb => hS b (h.lt.2 x hx b hb).1 (h.lt.2 x hx b hb).2⟩
theorem WWR.calm {w w' : World} {base : Nat} {v : Value} {ls : List (Value × List Nat)} (h : WWR w base v ls) (f : Calm w w') : WWR w' base v ls := h.frB f ⟨fun _ _ => id, fun _ _ _ _ => id⟩
theorem SRow.calm {w w' : World} {base : Nat} {v : Value} {ls : List Ob} (h : SRow w base v ls) (f : Calm w w') : SRow w' base v ls := h.frB f (fun _ _ => id)

theorem flat_getS : ∀ (ls : List Ob) (k : Nat), k < ls.length → ∀ j, j < 4 → (ls.flatMap shC)[k * 4 + j]? = (shC (ls.getD k dO))[j]?
  | [], k, h, _, _ => by simp at h
  | x :: ls, 0, _, j, hj => by
    rw [List.flatMap_cons, Nat.zero_mul, Nat.zero_add, List.getElem?_append_left (by simp [shC]; exact hj)]; rfl
  | x :: ls, k + 1, h, j, hj => by
    rw [List.flatMap_cons, List.getElem?_append_right (by simp [shC]; omega), show (shC x).length = 4 from rfl, show (k + 1) * 4 + j - 4 = k * 4 + j by omega, flat_getS ls k (by simpa using h) j hj]; rfl
/-- The shape k. -/
theorem SRow.get {w : World} {base : Nat} {v : Value} {ls : List Ob} (h : SRow w base v ls) {k : Nat} (hk : k < ls.length) :
    ∃ g c, v = .slice (some ⟨g, 0, none⟩) ls.length c ∧ base ≤ g ∧ w.cell? ⟨g, k * 4 + 0, none⟩ = some (.int .i64 (ls.getD k dO).p) ∧ w.cell? ⟨g, k * 4 + 1, none⟩ = some (.int .i64 (ls.getD k dO).d) ∧ w.cell? ⟨g, k * 4 + 2, none⟩ = some (.bool (ls.getD k dO).wk) ∧ w.cell? ⟨g, k * 4 + 3, none⟩ = some (.bool (ls.getD k dO).fn) := by
  rcases h.2 with ⟨_, h0⟩ | ⟨g, cap, cur, rfl, hb, hg, hn, _, hcur, hx⟩
  · omega
  · have hc : ∀ j, j < 4 → w.cell? ⟨g, k * 4 + j, none⟩ = (shC (ls.getD k dO))[j]? := fun j hj => by
      have : w.cell? ⟨g, k * 4 + j, none⟩ = cur[k * 4 + j]? := by simp [World.cell?, hg]
      rw [this, ← flat_getS ls k hk j hj, ← hx, List.getElem?_take, if_pos (by omega)]; simp
    exact ⟨g, cap, rfl, hb, hc 0 (by omega), hc 1 (by omega), hc 2 (by omega), hc 3 (by omega)⟩
abbrev dW : Value × List Nat := (.slice none 0 0, [])
/-- The slice of words k. -/
theorem WWR.get {w : World} {base : Nat} {v : Value} {ls : List (Value × List Nat)} (h : WWR w base v ls) {k : Nat} (hk : k < ls.length) :
    ∃ g c, v = .slice (some ⟨g, 0, none⟩) ls.length c ∧ base ≤ g ∧ w.cell? ⟨g, k, none⟩ = some (ls.getD k dW).1 ∧ WRow w base (ls.getD k dW).1 (ls.getD k dW).2 := by
  have hm : ls.getD k dW ∈ ls := by simp [List.getD, hk]
  rcases h.own.2 with ⟨_, h0⟩ | ⟨g, cap, cur, rfl, hb, hg, hn, _, hcur, hx⟩
  · omega
  · refine ⟨g, cap, rfl, hb, ?_, h.item _ hm⟩
    have : w.cell? ⟨g, k, none⟩ = cur[k]? := by simp [World.cell?, hg]
    have h2 : cur.toList[k]? = (ls.map (·.1))[k]? := by rw [← hx, List.getElem?_take, if_pos (by omega)]
    rw [this, ← Array.getElem?_toList, h2]; simp [List.getD, hk]

end Go.Proofs.Ytoonimdohkbfgaa
