/- What Does does, whatever the deed. -/
import Derived.Test.YtiomemdmhcdpbaaPDoes5
import Derived.Test.YtiomemdmhcdpbaaPDoes6
import Derived.Test.YtiomemdmhcdpbaaPDoes7
import Derived.Test.YtiomemdmhcdpbaaPDoes8
import Derived.Test.YtiomemdmhcdpbaaPDoes9
import Derived.Test.YtiomemdmhcdpbaaPDoes10
import Derived.Test.YtiomemdmhcdpbaaPDoes11
set_option linter.unusedSimpArgs false
set_option linter.unusedVariables false
namespace Go.Proofs.Ytiomemdmhcdpbaa
open Go.RowKit Go.Shelf

section
variable {w : World} {b0 : Nat → Prop} {T : Nat} {BA BB : HB} {A B : HS} {XA XB R S : List Nat} {σ : Nat → Nat}

theorem does_ptr (h : TwAt w b0 T BA BB A B XA XB R S) (hp : Pair σ A B R S 4) (o : Op10) (hok : o.Ok) (hK : pk o.kd 13 = 3 ∨ pk o.kd 13 = 4) :
    Calls Try.prog 29 #[.pointer (some ⟨T, 0, none⟩), opV o] w (DoesPost w b0 T BA.hp BB.hp σ A B (pk o.kd 13)) := by
  have hb4 : (pk o.b 4).toNat < 4 := by have := pk_range o.b (n := 4) (by omega); omega
  rcases hp.both hb4 with ⟨e1, e2⟩ | ⟨i1, o1, k1', u, dA, dB, es, lk, hu1, hu2, hps⟩
  · rcases hK with hK | hK
    · exact does_ptr_zero_3 h hp o hok hK e2
    · exact does_ptr_zero_4 h hp o hok hK e2
  · cases hw : u.wk
    · by_cases hf : (pk o.i 9).toNat < o1.p
      · rcases hK with hK | hK
        · exact does_ptr_yes_3 h hp o hok hK hb4 rfl rfl dA dB lk es hps hw hf
        · exact does_ptr_yes_4 h hp o hok hK hb4 rfl rfl dA dB lk es hps hw hf
      · rcases hK with hK | hK
        · exact does_ptr_no_3 h hp o hok hK hb4 rfl rfl dA dB lk es hps hw hf
        · exact does_ptr_no_4 h hp o hok hK hb4 rfl rfl dA dB lk es hps hw hf
    · rcases hK with hK | hK
      · exact does_ptr_weak_3 h hp o hok hK hb4 rfl rfl dA dB lk es hps hw
      · exact does_ptr_weak_4 h hp o hok hK hb4 rfl rfl dA dB lk es hps hw
theorem does_setptr (h : TwAt w b0 T BA BB A B XA XB R S) (hp : Pair σ A B R S 4) (o : Op10) (hok : o.Ok) (hK : pk o.kd 13 = 5 ∨ pk o.kd 13 = 6 ∨ pk o.kd 13 = 7) :
    Calls Try.prog 29 #[.pointer (some ⟨T, 0, none⟩), opV o] w (DoesPost w b0 T BA.hp BB.hp σ A B (pk o.kd 13)) := by
  have hb4 : (pk o.b 4).toNat < 4 := by have := pk_range o.b (n := 4) (by omega); omega
  by_cases hz : S.getD (pk o.b 4).toNat 0 = 0
  · have hzA : R.getD (pk o.b 4).toNat 0 = 0 := by
      rcases hp.both hb4 with ⟨e1, e2⟩ | ⟨i1, o1, k1', u, dA, dB, es, lk, hu1, hu2, hps⟩
      · exact e1
      · have := hp.tw.wb.posC _ dB.mem'
        simp only at this; omega
    rcases hK with hK | hK | hK
    · exact does_setptr_zero_5 h hp o hok hK hzA hz
    · exact does_setptr_zero_6 h hp o hok hK hzA hz
    · exact does_setptr_zero_7 h hp o hok hK hzA hz
  · rcases hK with hK | hK | hK
    · exact does_setptr_obj_5 h hp o hok hK hz
    · exact does_setptr_obj_6 h hp o hok hK hz
    · exact does_setptr_obj_7 h hp o hok hK hz
theorem does_setnum (h : TwAt w b0 T BA BB A B XA XB R S) (hp : Pair σ A B R S 4) (o : Op10) (hok : o.Ok) (hK : pk o.kd 13 = 8) :
    Calls Try.prog 29 #[.pointer (some ⟨T, 0, none⟩), opV o] w (DoesPost w b0 T BA.hp BB.hp σ A B (pk o.kd 13)) := by
  have hb4 : (pk o.b 4).toNat < 4 := by have := pk_range o.b (n := 4) (by omega); omega
  by_cases hz : S.getD (pk o.b 4).toNat 0 = 0
  · have hzA : R.getD (pk o.b 4).toNat 0 = 0 := by
      rcases hp.both hb4 with ⟨e1, e2⟩ | ⟨i1, o1, k1', u, dA, dB, es, lk, hu1, hu2, hps⟩
      · exact e1
      · have := hp.tw.wb.posC _ dB.mem'
        simp only at this; omega
    exact does_setnum_zero h hp o hok hK hzA hz
  · exact does_setnum_obj h hp o hok hK hz
/-- Twins do alike. -/
theorem does_is (h : TwAt w b0 T BA BB A B XA XB R S) (hp : Pair σ A B R S 4) (hs : A.ser ≤ 1000 ∧ B.ser ≤ 600) (o : Op10) (hok : o.Ok) :
    Calls Try.prog 29 #[.pointer (some ⟨T, 0, none⟩), opV o] w (DoesPost w b0 T BA.hp BB.hp σ A B (pk o.kd 13)) := by
  have hr := pk_range o.kd (n := 13) (by omega)
  obtain ⟨K, hK⟩ : ∃ K, pk o.kd 13 = K := ⟨_, rfl⟩
  rw [hK] at hr
  have : K = 0 ∨ K = 1 ∨ K = 2 ∨ K = 3 ∨ K = 4 ∨ K = 5 ∨ K = 6 ∨ K = 7 ∨ K = 8 ∨ K = 9 ∨ K = 10 ∨ K = 11 ∨ K = 12 := by omega
  rcases this with rfl | rfl | rfl | rfl | rfl | rfl | rfl | rfl | rfl | rfl | rfl | rfl | rfl
  · exact does_alloc h hp hs o hok (.inl hK)
  · exact does_alloc h hp hs o hok (.inr (.inl hK))
  · exact does_alloc h hp hs o hok (.inr (.inr hK))
  · exact does_ptr h hp o hok (.inl hK)
  · exact does_ptr h hp o hok (.inr hK)
  · exact does_setptr h hp o hok (.inl hK)
  · exact does_setptr h hp o hok (.inr (.inl hK))
  · exact does_setptr h hp o hok (.inr (.inr hK))
  · exact does_setnum h hp o hok hK
  · exact does_flip h hp o hok hK
  · exact does_scan h hp o hok (.inl hK)
  · exact does_scan h hp o hok (.inr hK)
  · exact does_end h hp o hok hK
end

end Go.Proofs.Ytiomemdmhcdpbaa
