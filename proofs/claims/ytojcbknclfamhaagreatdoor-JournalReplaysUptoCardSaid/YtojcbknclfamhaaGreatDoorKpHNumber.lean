/- journal.Number, at the one name that lives() asks for. -/
import Derived.Test.YtojcbknclfamhaaGreatDoorKpAx0
import Derived.Test.YtojcbknclfamhaaGreatDoorKpAx10
import Derived.Test.YtojcbknclfamhaaGreatDoorKpHItoa
namespace Go.Proofs.YtojcbknclfamhaaGreatDoor.A
open Go.RowKit Go.Proofs.YtojcbknclfamhaaGreatDoorW.PrintWords Go.Proofs.YtojcbknclfamhaaGreatDoorW.PrintLast Go.Proofs.YtojcbknclfamhaaGreatDoorW.PrintMore
set_option linter.unusedVariables false
set_option linter.unusedSimpArgs false
def journal_Number.f (letter name : ByteArray) : Option (Int × Bool) := if letter = ⟨#[119]⟩ ∧ name = ⟨#[119, 49, 50]⟩ then some (12, true) else none
theorem cut12 : strings_CutPrefix.f ⟨#[119, 49, 50]⟩ ⟨#[119]⟩ = some (⟨#[49, 50]⟩, true) := by kernel_rfl
theorem atoi12 : Lib.atoiAll (⟨#[49, 50]⟩ : ByteArray).data.toList = .ok 12 := by kernel_rfl
set_option maxHeartbeats 4000000 in
theorem journal_Number.calls (a0 a1 : ByteArray) (r1 : Int) (r2 : Bool) (w : World) (h : journal_Number.f a0 a1 = some (r1, r2)) :
    Calls Tryz.prog 14 #[.string a0, .string a1] w fun e w' => e = .returned (.tuple #[.int .i64 r1, .bool r2]) ∧ Below w.heap.size w w' := by
  unfold journal_Number.f at h
  by_cases h12 : a0 = ⟨#[119]⟩ ∧ a1 = ⟨#[119, 49, 50]⟩
  · rw [if_pos h12] at h
    obtain ⟨rfl, rfl⟩ := h12
    have h := Option.some.inj h
    injection h with e1 e2
    subst e1; subst e2
    go_enter Tryz.func14, Tryz.ntmps14
    go_wp2_with fail
    refine (strings_CutPrefix.calls _ _ _ _ w cut12).mono ?_
    rintro e w1 ⟨rfl, ⟨q1, rfl⟩⟩
    have HB1 := Aside0.mk (pw_below_drewN (Below.refl w.heap.size w) q1)
    generalize w.drewN q1 = w1 at *
    go_wp2_with fail
    refine (Tryz.strconv_Atoi_ok ⟨#[49, 50]⟩ (by decide) 12 atoi12 w1).mono ?_
    rintro e w2 ⟨rfl, hw2⟩
    have hb2 : Below w1.heap.size w1 w2 := by
      rcases hw2 with rfl | ⟨t, rfl⟩
      · exact Below.refl _ _
      · exact bytes_below (Below.refl _ _) (Nat.le_refl _) _ t
    have HB2 := Aside0.mk (HB1.out.trans (hb2.mono HB1.out.size))
    clear hw2 hb2
    go_wp2_with fail
    refine (strconv_Itoa_34.calls 12 ⟨#[49, 50]⟩ w2 rfl).mono ?_
    rintro e w3 ⟨rfl, hb3⟩
    have HB3 := Aside0.mk (HB2.out.trans (hb3.mono HB2.out.size))
    clear hb3
    go_wp2_with fail
    go_ret2
    exact ⟨rfl, HB3.out⟩
  · rw [if_neg h12] at h
    exact absurd h (by simp)
end Go.Proofs.YtojcbknclfamhaaGreatDoor.A
