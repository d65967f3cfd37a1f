/- strconv.Itoa, at the one number that lives() asks for (the contract of every number wants the world's tables: see HName). -/
import Derived.Test.YtojcbknclfamhaaGreatDoorKpAx0
import Derived.Test.YtojcbknclfamhaaGreatDoorKpShelf
namespace Go.Proofs.YtojcbknclfamhaaGreatDoor.A
open Go.RowKit Go.Proofs.YtojcbknclfamhaaGreatDoorW.PrintWords Go.Proofs.YtojcbknclfamhaaGreatDoorW.PrintLast Go.Proofs.YtojcbknclfamhaaGreatDoorW.PrintMore
set_option linter.unusedVariables false
set_option linter.unusedSimpArgs false
theorem digits12 : Lib.decDigits 12 = [49, 50] := by
  rw [Lib.decDigits, dif_neg (by decide), Lib.decDigits, dif_pos (by decide)]
  rfl
def strconv_Itoa_34.f (n : Int) : Option ByteArray := if n = 12 then some ⟨#[49, 50]⟩ else none
theorem strconv_Itoa_34.calls (a0 : Int) (r : ByteArray) (w : World) (h : strconv_Itoa_34.f a0 = some r) :
    Calls Tryz.prog 34 #[.int .i64 a0] w fun e w' => e = .returned (.string r) ∧ Below w.heap.size w w' := by
  unfold strconv_Itoa_34.f at h
  by_cases h12 : a0 = 12
  · rw [if_pos h12] at h
    have h := Option.some.inj h
    subst h; subst h12
    refine (Tryz.strconv_Itoa_small 12 (by decide) w).mono ?_
    rintro e w' ⟨rfl, rfl⟩
    rw [digits12]
    exact ⟨rfl, Below.refl _ _⟩
  · rw [if_neg h12] at h
    exact absurd h (by simp)
end Go.Proofs.YtojcbknclfamhaaGreatDoor.A
