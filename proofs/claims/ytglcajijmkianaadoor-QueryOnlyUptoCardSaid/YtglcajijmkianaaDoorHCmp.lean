/- cmp.Compare at strings: minus one, nought or one, as the texts stand byte by byte; on every two texts. -/
import Derived.Test.YtglcajijmkianaaDoorAx0
import Derived.Test.YtglcajijmkianaaDoorAx2
import Derived.WalkLawsBesides
namespace Go.Proofs.YtglcajijmkianaaDoor.A
open Go.RowKit Go.Proofs.YtglcajijmkianaaDoorW.PrintWords Go.Proofs.YtglcajijmkianaaDoorW.PrintLast Go.Proofs.YtglcajijmkianaaDoorW.PrintMore
set_option linter.unusedVariables false
set_option linter.unusedSimpArgs false
def cmp_Compare_string.f (a0 a1 : ByteArray) : Option Int := some (if Op.bytesLess a0.toList a1.toList = true then -1 else if a0.toList = a1.toList then 0 else 1)
theorem isNaN_str (a : ByteArray) : cmp_isNaN_string.f a = some false := by simp [cmp_isNaN_string.f]
set_option maxHeartbeats 2000000 in
theorem cmp_Compare_string.calls (a0 : ByteArray) (a1 : ByteArray) (r : Int) (w : World) (h : cmp_Compare_string.f a0 a1 = some r) :
    Calls Tryd.prog 80 #[.string a0, .string a1] w fun e w' => e = .returned (.int .i64 r) ∧ Drawn0 w w' := by
  have h0 := fun W => cmp_isNaN_string.calls a0 false W (isNaN_str a0)
  have h1 := fun W => cmp_isNaN_string.calls a1 false W (isNaN_str a1)
  have H := Aside0.mk (Option.some.inj h)
  clear h
  by_cases c1 : Op.bytesLess a0.toList a1.toList = true
  · go_enter Tryd.func80, Tryd.ntmps80
    go_wp2_with fail
    refine (h0 _).mono ?_
    rintro e w1 ⟨rfl, ⟨n1, rfl⟩⟩
    go_wp2_with fail
    refine (h1 _).mono ?_
    rintro e w2 ⟨rfl, ⟨n2, rfl⟩⟩
    go_wp2_with fail
    go_ret
    exact ⟨by rw [← H.out, if_pos c1]; rfl, by repeat (first | exact Drawn0.refl _ | apply Drawn0.step)⟩
  · have c1' : Op.bytesLess a0.toList a1.toList = false := by simpa using c1
    by_cases c2 : a0.toList = a1.toList
    · have c2' : (a0.toList == a1.toList) = true := by simpa using c2
      have H1 := H.out
      rw [if_neg c1, if_pos c2] at H1
      have H1 := Aside0.mk H1
      clear c2 c1 H
      go_enter Tryd.func80, Tryd.ntmps80
      go_wp2_with fail
      refine (h0 _).mono ?_
      rintro e w1 ⟨rfl, ⟨n1, rfl⟩⟩
      go_wp2_with fail
      refine (h1 _).mono ?_
      rintro e w2 ⟨rfl, ⟨n2, rfl⟩⟩
      go_wp2_with fail
      go_ret
      exact ⟨by rw [← H1.out]; rfl, by repeat (first | exact Drawn0.refl _ | apply Drawn0.step)⟩
    · have c2' : (a0.toList == a1.toList) = false := by simpa using c2
      have H1 := H.out
      rw [if_neg c1, if_neg c2] at H1
      have H1 := Aside0.mk H1
      clear c2 c1 H
      go_enter Tryd.func80, Tryd.ntmps80
      go_wp2_with fail
      refine (h0 _).mono ?_
      rintro e w1 ⟨rfl, ⟨n1, rfl⟩⟩
      go_wp2_with fail
      refine (h1 _).mono ?_
      rintro e w2 ⟨rfl, ⟨n2, rfl⟩⟩
      go_wp2_with fail
      go_ret
      exact ⟨by rw [← H1.out]; rfl, by repeat (first | exact Drawn0.refl _ | apply Drawn0.step)⟩
end Go.Proofs.YtglcajijmkianaaDoor.A
