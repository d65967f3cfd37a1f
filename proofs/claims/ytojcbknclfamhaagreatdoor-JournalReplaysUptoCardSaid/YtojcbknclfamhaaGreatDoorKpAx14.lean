/- Words and walks that the print wrote for this claim: those that the claim leans on (wip/shake.py). -/
import Derived.Test.YtojcbknclfamhaaGreatDoorKpAx0
import Derived.Test.YtojcbknclfamhaaGreatDoorKpHItoa
namespace Go.Proofs.YtojcbknclfamhaaGreatDoor.A
open Go.RowKit Go.Proofs.YtojcbknclfamhaaGreatDoorW.PrintWords Go.Proofs.YtojcbknclfamhaaGreatDoorW.PrintLast Go.Proofs.YtojcbknclfamhaaGreatDoorW.PrintMore
attribute [local go_sem] min2_int min_two
set_option linter.unusedVariables false
set_option linter.unusedSimpArgs false
def journal_Name.f (a0 : ByteArray) (a1 : Int) : Option (ByteArray) := if a1 < 0 then (some (⟨#[]⟩ : ByteArray)) else (if a1 > 999999999 then (some (⟨#[]⟩ : ByteArray)) else ((strconv_Itoa_34.f a1).bind fun t244 => (if a0.size + t244.size ≤ 9223372036854775807 then (some (a0 ++ t244)) else (none))))
set_option maxHeartbeats 8000000 in
set_option maxRecDepth 100000 in
theorem journal_Name.calls (a0 : ByteArray) (a1 : Int) (r : ByteArray) (w : World) (h : journal_Name.f a0 a1 = some r) :
    Calls Tryz.prog 15 #[.string a0, .int .i64 a1] w fun e w' => e = .returned (.string r) ∧ Below w.heap.size w w' := by
  have HB := Aside0.mk (Below.refl w.heap.size w)
  have H : (if a1 < 0 then (some (⟨#[]⟩ : ByteArray)) else (if a1 > 999999999 then (some (⟨#[]⟩ : ByteArray)) else ((strconv_Itoa_34.f a1).bind fun t244 => (if a0.size + t244.size ≤ 9223372036854775807 then (some (a0 ++ t244)) else (none))))) = some r := h
  clear h
  by_cases c3 : a1 < 0
  · rw [if_pos c3] at H
    have c3b0 : decide (a1 < 0) = true := decide_eq_true c3
    clear c3
    obtain rfl := Option.some.inj H
    go_enter Tryz.func15, Tryz.ntmps15
    go_wp2
    go_ret
    exact ⟨by first | rfl | (simp [errW_none, errW_some] <;> rfl) | (simp [*, errW_none, errW_some] <;> rfl), by repeat (first | (with_reducible first | exact HB.out | apply below_alloc | apply pw_below_drewN | apply below_drew1) | exact HB.out)⟩
  · rw [if_neg c3] at H
    have c3b0 : decide (a1 < 0) = false := decide_eq_false c3
    clear c3
    by_cases c4 : a1 > 999999999
    · rw [if_pos c4] at H
      have c4b0 : decide (999999999 < a1) = true := decide_eq_true c4
      clear c4
      obtain rfl := Option.some.inj H
      go_enter Tryz.func15, Tryz.ntmps15
      go_wp2
      go_ret
      exact ⟨by first | rfl | (simp [errW_none, errW_some] <;> rfl) | (simp [*, errW_none, errW_some] <;> rfl), by repeat (first | (with_reducible first | exact HB.out | apply below_alloc | apply pw_below_drewN | apply below_drew1) | exact HB.out)⟩
    · rw [if_neg c4] at H
      have c4b0 : decide (999999999 < a1) = false := decide_eq_false c4
      clear c4
      replace H := Option.bind_eq_some_iff.mp H
      obtain ⟨t244, A50, H⟩ := H
      replace H : (if a0.size + t244.size ≤ 9223372036854775807 then (some (a0 ++ t244)) else (none)) = some r := H
      have A5 := Aside0.mk A50
      clear A50
      by_cases c6 : a0.size + t244.size ≤ 9223372036854775807
      · rw [if_pos c6] at H
        have c6b0 := eq_true c6
        have c6b1 : decide (a0.size + t244.size ≤ 9223372036854775807) = true := decide_eq_true c6
        try have c6b2 : (9223372036854775807 < a0.size + t244.size) = False := eq_false (Nat.not_lt.2 c6)
        obtain rfl := Option.some.inj H
        go_enter Tryz.func15, Tryz.ntmps15
        go_wp2_with (first | ((with_reducible refine gate_callee (f := 34) rfl ?_); refine goesL_ (some 13) rfl rfl Tryz.func34 (by kernel_rfl) rfl #[.int .i64 a1] rfl (by (try simp only [List.map_toArray, List.map_cons, List.map_nil]); first | done | rfl | (simp only [List.length_drop, List.length_take]; rfl)) ?_; (with_reducible refine (strconv_Itoa_34.calls a1 t244 _ A5.out).mono ?_); rintro e w7 ⟨rfl, hb⟩; refine ⟨_, rfl, ?_⟩; have n0_ := Aside0.mk (below_step (by repeat (first | (with_reducible first | exact HB.out | apply below_alloc | apply pw_below_drewN | apply below_drew1) | exact HB.out)) hb); clear HB; have HB := n0_; clear n0_; (try clear hb); (try clear hb2); (try clear hk); (try clear hi)))
        go_ret
        exact ⟨by first | rfl | (simp [errW_none, errW_some] <;> rfl) | (simp [*, errW_none, errW_some] <;> rfl), by repeat (first | (with_reducible first | exact HB.out | apply below_alloc | apply pw_below_drewN | apply below_drew1) | exact HB.out)⟩
      · rw [if_neg c6] at H
        exact absurd H (by simp)
end Go.Proofs.YtojcbknclfamhaaGreatDoor.A
