/- More of package object: field of numbers, to, change. -/
import Derived.Test.YtcacbbfeenebbaaObject3
set_option linter.unusedSimpArgs false
set_option linter.unusedVariables false
namespace Go.Proofs.Ytcacbbfeenebbaa
open Go.RowKit Go.Shelf

theorem ofield_num_yes (w : World) (b c : Nat) (xs : List Nat) (h : Ar w b c xs) (at_ p d : Nat) (wk fn fr : Bool) (ho : IsObj xs at_ p d wk fn fr) (i : Nat) (hi : i < d) :
    Calls Try.prog 55 #[arV b, .int .i64 at_, .int .i64 i, .func (.func 59) #[] #[]] w fun e w' => e = .returned (.tuple #[.int .i64 ((at_ : Int) + 3 + p + i), .int .i64 0]) ∧ Calm w w' := by
  have HA := hid h
  have HO := hid ho
  have hr := ho.room
  have h4 := h.2.2.2
  have p8 := ho.ok.1
  have d8 := ho.ok.2.1
  clear h ho
  go_enter Try.func55, Try.ntmps55
  go_wp2_with fail
  refine (oshape_yes _ b c xs HA.out at_ p d wk fn fr HO.out).mono ?_
  rintro e w1 ⟨rfl, c1⟩
  go_wp2_with fail
  refine (onum_yes p d wk fn at_ i _ (by omega) (by omega) (by omega) (by omega) (by omega) (by omega) (by omega)).mono ?_
  rintro e w2 ⟨rfl, c2⟩
  go_wp2
  exact bodyPost_ret (v := .tuple #[.int .i64 ((at_ : Int) + 3 + p + i), .int .i64 0]) (by simp [results, Try.f55, go_sem]) rfl ⟨rfl, (c1.alloc _).trans c2⟩

/-- change, with a closure that makes any word v. -/
theorem ochange_yes (w : World) (b c : Nat) (xs : List Nat) (h : Ar w b c xs) (k : Nat) (hk : k < xs.length) (g v : Nat) (hg : Own w g 0 (wV v)) (hgc : g ≠ c) :
    Calls Try.prog 57 #[arV b, .int .i64 k, .func (.func 81) #[] #[.pointer (some ⟨g, 0, none⟩)]] w fun e w' => e = .returned (.int .i64 0) ∧ Ar w' b c (xs.set k v) ∧ Fr (fun b => b = c) w w' := by
  have HA := hid h
  have h4 := h.2.2.2
  have g1 := hg.1
  have hs := hid (h.set hk v)
  clear h
  go_enter Try.func57, Try.ntmps57
  go_wp2_with fail
  refine (load_yes _ b c xs HA.out k hk).mono ?_
  rintro e w1 ⟨rfl, rfl⟩
  go_wp2_with (first | (go_at_call 52; refine (store_yes _ b c xs HA.out k hk v).mono ?_; rintro e w2 ⟨rfl, rfl⟩) | go_in)
  go_ret
  exact ⟨rfl, hs.out, Fr.setCell (S := fun b => b = c) (p := ⟨c, k, none⟩) (Fr.refl _ _) (.inl rfl) _⟩

end Go.Proofs.Ytcacbbfeenebbaa
