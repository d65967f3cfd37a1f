/- Words and walks that the print wrote for this claim: those that the claim leans on (wip/shake.py). -/
import Derived.Test.YtojcbknclfamhaaGreatDoorKpAx0
import Derived.Test.YtojcbknclfamhaaGreatDoorKpAx16
namespace Go.Proofs.YtojcbknclfamhaaGreatDoor.A
open Go.RowKit Go.Proofs.YtojcbknclfamhaaGreatDoorW.PrintWords Go.Proofs.YtojcbknclfamhaaGreatDoorW.PrintLast Go.Proofs.YtojcbknclfamhaaGreatDoorW.PrintMore
attribute [local go_sem] min2_int min_two
set_option linter.unusedVariables false
set_option linter.unusedSimpArgs false
def tithebarnref08_Scan.l0 : Nat → ByteArray → List ByteArray → Int → Option (List ByteArray × Int × Int)
  | 0, _, _, _ => none
  | k + 1, x0, x5, x6 => if (wrap64 ((x0.size : Int) - x6)) ≥ 4 then (if 0 ≤ x6 then (if x6 ≤ (wrap64 (x6 + 4)) then (if (wrap64 (x6 + 4)) ≤ (x0.size : Int) then ((tithebarnref08_number.f (x0.extract (x6 : Int).toNat ((wrap64 (x6 + 4)) : Int).toNat)).bind fun t265 => (if t265 > 1048576 then (some (([] : List ByteArray), 0, 8)) else (if (wrap64 ((x0.size : Int) - x6)) < (wrap64 ((wrap64 (t265)) + 8)) then (some (x5, x6, 0)) else (if 0 ≤ (wrap64 (x6 + 4)) then (if (wrap64 (x6 + 4)) ≤ (wrap64 ((wrap64 (x6 + 4)) + (wrap64 (t265)))) then (if (wrap64 ((wrap64 (x6 + 4)) + (wrap64 (t265)))) ≤ (x0.size : Int) then (if 0 ≤ (wrap64 ((wrap64 (x6 + 4)) + (wrap64 (t265)))) then (if (wrap64 ((wrap64 (x6 + 4)) + (wrap64 (t265)))) ≤ (wrap64 ((wrap64 (x6 + 8)) + (wrap64 (t265)))) then (if (wrap64 ((wrap64 (x6 + 8)) + (wrap64 (t265)))) ≤ (x0.size : Int) then ((tithebarnref08_number.f (x0.extract ((wrap64 ((wrap64 (x6 + 4)) + (wrap64 (t265)))) : Int).toNat ((wrap64 ((wrap64 (x6 + 8)) + (wrap64 (t265)))) : Int).toNat)).bind fun t266 => ((tithebarnref08_Sum.f k (x0.extract ((wrap64 (x6 + 4)) : Int).toNat ((wrap64 ((wrap64 (x6 + 4)) + (wrap64 (t265)))) : Int).toNat)).bind fun t267 => (if t266 = t267 then (if x5.length < 8796093022208 then (tithebarnref08_Scan.l0 k x0 (x5 ++ [x0.extract ((wrap64 (x6 + 4)) : Int).toNat ((wrap64 ((wrap64 (x6 + 4)) + (wrap64 (t265)))) : Int).toNat]) (wrap64 (x6 + (wrap64 ((wrap64 (t265)) + 8))))) else (none)) else (some (([] : List ByteArray), 0, 8))))) else (none)) else (none)) else (none)) else (none)) else (none)) else (none))))) else (none)) else (none)) else (none)) else (some (x5, x6, 0))
def tithebarnref08_Scan.f (k : Nat) (a0 : ByteArray) : Option (List ByteArray × Int × Int) := tithebarnref08_Scan.l0 k a0 ([] : List ByteArray) 0
set_option maxHeartbeats 8000000 in
set_option maxRecDepth 100000 in
theorem tithebarnref08_Scan.calls (k : Nat) (a0 : ByteArray) (r1 : List ByteArray) (r2 : Int) (r3 : Int) (w : World) (h : tithebarnref08_Scan.f k a0 = some (r1, r2, r3)) :
    Calls Tryz.prog 20 #[.string a0] w fun e w' => ∃ v0_ : Value, e = .returned (.tuple #[v0_, .int .i64 r2, .int .i64 r3]) ∧ Kd.R Kd.string 9 w' w.heap.size (fun _ => True) v0_ r1 ∧ Below w.heap.size w w' := by
  have HB := Aside0.mk (Below.refl w.heap.size w)
  have H : (tithebarnref08_Scan.l0 k a0 ([] : List ByteArray) 0) = some (r1, r2, r3) := h
  clear h
  have H' := Aside0.mk H
  clear H
  go_enter Tryz.func20, Tryz.ntmps20
  go_wp2
  go_loopg [5, 6] k (fun kq v5 v6 w' => ∃ (x5_1 : List ByteArray) (x6_1 : Int), v6 = .int .i64 x6_1 ∧ Aside0 (tithebarnref08_Scan.l0 kq a0 x5_1 x6_1 = some (r1, r2, r3)) ∧ Aside0 (kq ≤ k) ∧ Aside0 (Kd.R Kd.string 9 w' w.heap.size (fun _ => True) v5 x5_1) ∧ Aside0 (Below w.heap.size w w'))
  case atStart => exact ⟨(([] : List ByteArray)), (0), (by first | rfl | (simp; done) | (simp [*]; done)), H', ⟨Nat.le_refl _⟩, ⟨by first | exact Kd.R_nil _ _ _ _ _ | exact Kd.N_nil _ _ _ _ _ | exact Kd.V_nil _ _ _ _ _ | exact Kd.Q_nil _ _ _ _ _ | exact Kd.S_nil _ _ _ _ _⟩, ⟨by repeat (first | (with_reducible first | exact HB.out | apply below_alloc | apply pw_below_drewN | apply below_drew1) | exact HB.out)⟩⟩
  case round =>
    clear H'
    obtain ⟨x5_1, x6_1, rfl, HA, HK1, HO_5, HB⟩ := hrel
    cases gk with
    | zero => exact absurd HA.out (by simp [tithebarnref08_Scan.l0])
    | succ k1 =>
      have H := HA.out
      clear HA
      simp only [tithebarnref08_Scan.l0] at H
      by_cases c2 : (wrap64 ((a0.size : Int) - x6_1)) ≥ 4
      · rw [if_pos c2] at H
        have c2b0 : decide (4 ≤ (wrap64 ((a0.size : Int) - x6_1))) = true := decide_eq_true c2
        clear c2
        by_cases c3 : 0 ≤ x6_1
        · rw [if_pos c3] at H
          have c3b0 := eq_true c3
          have c3b1 : decide (0 ≤ x6_1) = true := decide_eq_true c3
          clear c3
          by_cases c4 : x6_1 ≤ (wrap64 (x6_1 + 4))
          · rw [if_pos c4] at H
            have c4b0 := eq_true c4
            have c4b1 : decide (x6_1 ≤ (wrap64 (x6_1 + 4))) = true := decide_eq_true c4
            by_cases c5 : (wrap64 (x6_1 + 4)) ≤ (a0.size : Int)
            · rw [if_pos c5] at H
              have c5b0 := eq_true c5
              have c5b1 : decide ((wrap64 (x6_1 + 4)) ≤ (a0.size : Int)) = true := decide_eq_true c5
              replace H := Option.bind_eq_some_iff.mp H
              obtain ⟨t265, A60, H⟩ := H
              replace H : (if t265 > 1048576 then (some (([] : List ByteArray), 0, 8)) else (if (wrap64 ((a0.size : Int) - x6_1)) < (wrap64 ((wrap64 (t265)) + 8)) then (some (x5_1, x6_1, 0)) else (if 0 ≤ (wrap64 (x6_1 + 4)) then (if (wrap64 (x6_1 + 4)) ≤ (wrap64 ((wrap64 (x6_1 + 4)) + (wrap64 (t265)))) then (if (wrap64 ((wrap64 (x6_1 + 4)) + (wrap64 (t265)))) ≤ (a0.size : Int) then (if 0 ≤ (wrap64 ((wrap64 (x6_1 + 4)) + (wrap64 (t265)))) then (if (wrap64 ((wrap64 (x6_1 + 4)) + (wrap64 (t265)))) ≤ (wrap64 ((wrap64 (x6_1 + 8)) + (wrap64 (t265)))) then (if (wrap64 ((wrap64 (x6_1 + 8)) + (wrap64 (t265)))) ≤ (a0.size : Int) then ((tithebarnref08_number.f (a0.extract ((wrap64 ((wrap64 (x6_1 + 4)) + (wrap64 (t265)))) : Int).toNat ((wrap64 ((wrap64 (x6_1 + 8)) + (wrap64 (t265)))) : Int).toNat)).bind fun t266 => ((tithebarnref08_Sum.f k1 (a0.extract ((wrap64 (x6_1 + 4)) : Int).toNat ((wrap64 ((wrap64 (x6_1 + 4)) + (wrap64 (t265)))) : Int).toNat)).bind fun t267 => (if t266 = t267 then (if x5_1.length < 8796093022208 then (tithebarnref08_Scan.l0 k1 a0 (x5_1 ++ [a0.extract ((wrap64 (x6_1 + 4)) : Int).toNat ((wrap64 ((wrap64 (x6_1 + 4)) + (wrap64 (t265)))) : Int).toNat]) (wrap64 (x6_1 + (wrap64 ((wrap64 (t265)) + 8))))) else (none)) else (some (([] : List ByteArray), 0, 8))))) else (none)) else (none)) else (none)) else (none)) else (none)) else (none)))) = some (r1, r2, r3) := H
              have A6 := Aside0.mk A60
              clear A60
              by_cases c7 : t265 > 1048576
              · rw [if_pos c7] at H
                have c7b0 : decide (1048576 < t265) = true := decide_eq_true c7
                clear c7
                simp only [Option.some.injEq, Prod.mk.injEq] at H
                obtain ⟨rfl, rfl, rfl⟩ := H
                go_wp2_with (first | ((with_reducible refine gate_callee (f := 43) rfl ?_); refine goesL_ (some 19) rfl rfl Tryz.func43 (by kernel_rfl) rfl #[.string (a0.extract (x6_1 : Int).toNat ((wrap64 (x6_1 + 4)) : Int).toNat)] rfl (by (try simp only [List.map_toArray, List.map_cons, List.map_nil]); first | done | rfl | (simp only [List.length_drop, List.length_take]; rfl)) ?_; (with_reducible refine (tithebarnref08_number.calls (a0.extract (x6_1 : Int).toNat ((wrap64 (x6_1 + 4)) : Int).toNat) t265 _ A6.out).mono ?_); rintro e w' ⟨rfl, ⟨nd, rfl⟩⟩; refine ⟨_, rfl, ?_⟩))
                go_ret3
                exact ⟨_, by first | rfl | (simp [errW_none, errW_some] <;> rfl) | (simp [*, errW_none, errW_some] <;> rfl), by first | exact Kd.R_nil _ _ _ _ _ | exact Kd.N_nil _ _ _ _ _ | exact Kd.V_nil _ _ _ _ _ | exact Kd.Q_nil _ _ _ _ _ | exact Kd.S_nil _ _ _ _ _, by repeat (first | (with_reducible first | exact HB.out | apply below_alloc | apply pw_below_drewN | apply below_drew1) | exact HB.out)⟩
              · rw [if_neg c7] at H
                have c7b0 : decide (1048576 < t265) = false := decide_eq_false c7
                clear c7
                by_cases c8 : (wrap64 ((a0.size : Int) - x6_1)) < (wrap64 ((wrap64 (t265)) + 8))
                · rw [if_pos c8] at H
                  have c8b0 : decide ((wrap64 ((a0.size : Int) - x6_1)) < (wrap64 ((wrap64 (t265)) + 8))) = true := decide_eq_true c8
                  clear c8
                  simp only [Option.some.injEq, Prod.mk.injEq] at H
                  obtain ⟨rfl, rfl, rfl⟩ := H
                  go_wp2_with (first | ((with_reducible refine gate_callee (f := 43) rfl ?_); refine goesL_ (some 19) rfl rfl Tryz.func43 (by kernel_rfl) rfl #[.string (a0.extract (x6_1 : Int).toNat ((wrap64 (x6_1 + 4)) : Int).toNat)] rfl (by (try simp only [List.map_toArray, List.map_cons, List.map_nil]); first | done | rfl | (simp only [List.length_drop, List.length_take]; rfl)) ?_; (with_reducible refine (tithebarnref08_number.calls (a0.extract (x6_1 : Int).toNat ((wrap64 (x6_1 + 4)) : Int).toNat) t265 _ A6.out).mono ?_); rintro e w' ⟨rfl, ⟨nd, rfl⟩⟩; refine ⟨_, rfl, ?_⟩))
                  go_ret3
                  exact ⟨_, by first | rfl | (simp [errW_none, errW_some] <;> rfl) | (simp [*, errW_none, errW_some] <;> rfl), by (with_reducible repeat (first | apply Kd.R_alloc | apply Kd.R_drewN | apply Kd.R_drew)); exact HO_5.out, by repeat (first | (with_reducible first | exact HB.out | apply below_alloc | apply pw_below_drewN | apply below_drew1) | exact HB.out)⟩
                · rw [if_neg c8] at H
                  have c8b0 : decide ((wrap64 ((a0.size : Int) - x6_1)) < (wrap64 ((wrap64 (t265)) + 8))) = false := decide_eq_false c8
                  clear c8
                  obtain ⟨ji9, hji9⟩ : ∃ j_ : Int, (wrap64 (x6_1 + 4)) = j_ := ⟨_, rfl⟩
                  replace H : (if 0 ≤ (ji9) then (if (ji9) ≤ (wrap64 ((ji9) + (wrap64 (t265)))) then (if (wrap64 ((ji9) + (wrap64 (t265)))) ≤ (a0.size : Int) then (if 0 ≤ (wrap64 ((ji9) + (wrap64 (t265)))) then (if (wrap64 ((ji9) + (wrap64 (t265)))) ≤ (wrap64 ((wrap64 (x6_1 + 8)) + (wrap64 (t265)))) then (if (wrap64 ((wrap64 (x6_1 + 8)) + (wrap64 (t265)))) ≤ (a0.size : Int) then ((tithebarnref08_number.f (a0.extract ((wrap64 ((ji9) + (wrap64 (t265)))) : Int).toNat ((wrap64 ((wrap64 (x6_1 + 8)) + (wrap64 (t265)))) : Int).toNat)).bind fun t266 => ((tithebarnref08_Sum.f k1 (a0.extract ((ji9) : Int).toNat ((wrap64 ((ji9) + (wrap64 (t265)))) : Int).toNat)).bind fun t267 => (if t266 = t267 then (if x5_1.length < 8796093022208 then (tithebarnref08_Scan.l0 k1 a0 (x5_1 ++ [a0.extract ((ji9) : Int).toNat ((wrap64 ((ji9) + (wrap64 (t265)))) : Int).toNat]) (wrap64 (x6_1 + (wrap64 ((wrap64 (t265)) + 8))))) else (none)) else (some (([] : List ByteArray), 0, 8))))) else (none)) else (none)) else (none)) else (none)) else (none)) else (none)) = some (r1, r2, r3) := by first | (rw [hji9] at H; exact H) | (simp only [hji9] at H ⊢; exact H)
                  (try rw [hji9] at c4b0)
                  (try rw [hji9] at c4b1)
                  (try rw [hji9] at c4)
                  (try rw [hji9] at c5b0)
                  (try rw [hji9] at c5b1)
                  (try rw [hji9] at c5)
                  (try rw [hji9] at A6)
                  have hji9w : (IntKind.i64.wrap (x6_1 + 4)) = ji9 := (i64_w _).trans hji9
                  by_cases c10 : 0 ≤ (ji9)
                  · rw [if_pos c10] at H
                    have c10b0 := eq_true c10
                    have c10b1 : decide (0 ≤ (ji9)) = true := decide_eq_true c10
                    clear c10
                    by_cases c11 : (ji9) ≤ (wrap64 ((ji9) + (wrap64 (t265))))
                    · rw [if_pos c11] at H
                      have c11b0 := eq_true c11
                      have c11b1 : decide ((ji9) ≤ (wrap64 ((ji9) + (wrap64 (t265))))) = true := decide_eq_true c11
                      by_cases c12 : (wrap64 ((ji9) + (wrap64 (t265)))) ≤ (a0.size : Int)
                      · rw [if_pos c12] at H
                        have c12b0 := eq_true c12
                        have c12b1 : decide ((wrap64 ((ji9) + (wrap64 (t265)))) ≤ (a0.size : Int)) = true := decide_eq_true c12
                        obtain ⟨ji13, hji13⟩ : ∃ j_ : Int, (wrap64 ((ji9) + (wrap64 (t265)))) = j_ := ⟨_, rfl⟩
                        replace H : (if 0 ≤ (ji13) then (if (ji13) ≤ (wrap64 ((wrap64 (x6_1 + 8)) + (wrap64 (t265)))) then (if (wrap64 ((wrap64 (x6_1 + 8)) + (wrap64 (t265)))) ≤ (a0.size : Int) then ((tithebarnref08_number.f (a0.extract ((ji13) : Int).toNat ((wrap64 ((wrap64 (x6_1 + 8)) + (wrap64 (t265)))) : Int).toNat)).bind fun t266 => ((tithebarnref08_Sum.f k1 (a0.extract ((ji9) : Int).toNat ((ji13) : Int).toNat)).bind fun t267 => (if t266 = t267 then (if x5_1.length < 8796093022208 then (tithebarnref08_Scan.l0 k1 a0 (x5_1 ++ [a0.extract ((ji9) : Int).toNat ((ji13) : Int).toNat]) (wrap64 (x6_1 + (wrap64 ((wrap64 (t265)) + 8))))) else (none)) else (some (([] : List ByteArray), 0, 8))))) else (none)) else (none)) else (none)) = some (r1, r2, r3) := by first | (rw [hji13] at H; exact H) | (simp only [hji13] at H ⊢; exact H)
                        (try rw [hji13] at c11b0)
                        (try rw [hji13] at c11b1)
                        (try rw [hji13] at c11)
                        (try rw [hji13] at c12b0)
                        (try rw [hji13] at c12b1)
                        (try rw [hji13] at c12)
                        (try rw [hji13] at A6)
                        have hji13w : (IntKind.i64.wrap ((ji9) + (wrap64 (t265)))) = ji13 := (i64_w _).trans hji13
                        by_cases c14 : 0 ≤ (ji13)
                        · rw [if_pos c14] at H
                          have c14b0 := eq_true c14
                          have c14b1 : decide (0 ≤ (ji13)) = true := decide_eq_true c14
                          clear c14
                          by_cases c15 : (ji13) ≤ (wrap64 ((wrap64 (x6_1 + 8)) + (wrap64 (t265))))
                          · rw [if_pos c15] at H
                            have c15b0 := eq_true c15
                            have c15b1 : decide ((ji13) ≤ (wrap64 ((wrap64 (x6_1 + 8)) + (wrap64 (t265))))) = true := decide_eq_true c15
                            by_cases c16 : (wrap64 ((wrap64 (x6_1 + 8)) + (wrap64 (t265)))) ≤ (a0.size : Int)
                            · rw [if_pos c16] at H
                              have c16b0 := eq_true c16
                              have c16b1 : decide ((wrap64 ((wrap64 (x6_1 + 8)) + (wrap64 (t265)))) ≤ (a0.size : Int)) = true := decide_eq_true c16
                              replace H := Option.bind_eq_some_iff.mp H
                              obtain ⟨t266, A170, H⟩ := H
                              replace H : ((tithebarnref08_Sum.f k1 (a0.extract ((ji9) : Int).toNat ((ji13) : Int).toNat)).bind fun t267 => (if t266 = t267 then (if x5_1.length < 8796093022208 then (tithebarnref08_Scan.l0 k1 a0 (x5_1 ++ [a0.extract ((ji9) : Int).toNat ((ji13) : Int).toNat]) (wrap64 (x6_1 + (wrap64 ((wrap64 (t265)) + 8))))) else (none)) else (some (([] : List ByteArray), 0, 8)))) = some (r1, r2, r3) := H
                              have A17 := Aside0.mk A170
                              clear A170
                              replace H := Option.bind_eq_some_iff.mp H
                              obtain ⟨t267, A180, H⟩ := H
                              replace H : (if t266 = t267 then (if x5_1.length < 8796093022208 then (tithebarnref08_Scan.l0 k1 a0 (x5_1 ++ [a0.extract ((ji9) : Int).toNat ((ji13) : Int).toNat]) (wrap64 (x6_1 + (wrap64 ((wrap64 (t265)) + 8))))) else (none)) else (some (([] : List ByteArray), 0, 8))) = some (r1, r2, r3) := H
                              have A18 := Aside0.mk A180
                              clear A180
                              by_cases c19 : t266 = t267
                              · rw [if_pos c19] at H
                                have c19b0 : (t266 == t267) = true := beq_iff_eq.mpr c19
                                have c19b1 : (t266 != t267) = false := bne_eq_false_iff_eq.mpr c19
                                clear c19
                                by_cases c20 : x5_1.length < 8796093022208
                                · rw [if_pos c20] at H
                                  have LMc20 := Aside0.mk c20
                                  clear c20
                                  obtain ⟨y268, hy268⟩ : ∃ y_ : List ByteArray, y_ = (x5_1 ++ [a0.extract ((ji9) : Int).toNat ((ji13) : Int).toNat]) := ⟨_, rfl⟩
                                  replace H : (tithebarnref08_Scan.l0 k1 a0 y268 (wrap64 (x6_1 + (wrap64 ((wrap64 (t265)) + 8))))) = some (r1, r2, r3) := by first | (rw [hy268]; with_reducible exact H) | (have H2_ := (Option.bind_some _ _).symm.trans H; rw [hy268]; with_reducible exact H2_) | (have H2_ := (Option.bind_some _ _).symm.trans H; with_reducible exact H2_) | with_reducible exact H | (rw [hy268]; exact H) | exact H
                                  have Ny268 := Aside0.mk hy268
                                  clear hy268
                                  have H' := Aside0.mk H
                                  clear H
                                  go_wp2_with (first | ((with_reducible refine gate_callee (f := 43) rfl ?_); refine goesL_ (some 19) rfl rfl Tryz.func43 (by kernel_rfl) rfl #[.string (a0.extract (x6_1 : Int).toNat ((ji9) : Int).toNat)] rfl (by (try simp only [List.map_toArray, List.map_cons, List.map_nil]); first | done | (simp only [hji9]; rfl) | rfl | (simp only [List.length_drop, List.length_take]; rfl)) ?_; (with_reducible refine (tithebarnref08_number.calls (a0.extract (x6_1 : Int).toNat ((ji9) : Int).toNat) t265 _ A6.out).mono ?_); rintro e w' ⟨rfl, ⟨nd, rfl⟩⟩; refine ⟨_, rfl, ?_⟩) | ((with_reducible refine gate_callee (f := 43) rfl ?_); refine goesL_ (some 51) rfl rfl Tryz.func43 (by kernel_rfl) rfl #[.string (a0.extract ((ji13) : Int).toNat ((wrap64 ((wrap64 (x6_1 + 8)) + (wrap64 (t265)))) : Int).toNat)] rfl (by (try simp only [List.map_toArray, List.map_cons, List.map_nil]); first | done | (simp only [hji13]; rfl) | rfl | (simp only [List.length_drop, List.length_take]; rfl)) ?_; (with_reducible refine (tithebarnref08_number.calls (a0.extract ((ji13) : Int).toNat ((wrap64 ((wrap64 (x6_1 + 8)) + (wrap64 (t265)))) : Int).toNat) t266 _ A17.out).mono ?_); rintro e w' ⟨rfl, ⟨nd, rfl⟩⟩; refine ⟨_, rfl, ?_⟩) | ((with_reducible refine gate_callee (f := 44) rfl ?_); refine goesL_ (some 53) rfl rfl Tryz.func44 (by kernel_rfl) rfl #[.string (a0.extract ((ji9) : Int).toNat ((ji13) : Int).toNat)] rfl (by (try simp only [List.map_toArray, List.map_cons, List.map_nil]); first | done | (simp only [hji13, hji9]; rfl) | rfl | (simp only [List.length_drop, List.length_take]; rfl)) ?_; (with_reducible refine (tithebarnref08_Sum.calls k1 (a0.extract ((ji9) : Int).toNat ((ji13) : Int).toNat) t267 _ A18.out).mono ?_); rintro e w' ⟨rfl, ⟨nd, rfl⟩⟩; refine ⟨_, rfl, ?_⟩) | ((with_reducible refine gate_builtin (b := .append) (xs := #[.tmp 55, .tmp 57]) rfl ?_); at_builtin; refine Kd.R_append Kd.string (w0 := w) w.heap.size rfl (.tmp 55) (.tmp 57) 36 9 (.string ⟨#[]⟩) 16 rfl Tryz.underlying36 info9 rfl (by decide) (by omega) u5 x5_1 (a0.extract ((ji9) : Int).toNat ((ji13) : Int).toNat) [.string (a0.extract ((ji9) : Int).toNat ((ji13) : Int).toNat)] (fun _ => True) (fun _ => False) rfl rfl ?aP (fun _ hk => hk.elim) ?aF ?aO ?aB ?aS ?aL ?_; (case aP => exact rfl); (case aB => exact (by repeat (first | (with_reducible first | exact HB.out | apply below_alloc | apply pw_below_drewN | apply below_drew1) | exact HB.out))); (case aF => exact (fun _ _ => trivial)); (case aO => exact (by (with_reducible repeat (first | apply Kd.R_alloc | apply Kd.R_drewN | apply Kd.R_drew)); exact HO_5.out)); (case aS => exact (below_size (by repeat (first | (with_reducible first | exact HB.out | apply below_alloc | apply pw_below_drewN | apply below_drew1) | exact HB.out)))); (case aL => have := LMc20.out; omega); intro v269 w21 ho hb hg hat; rw [← Ny268.out] at ho; have n0_ := Aside0.mk (hb); have n1_ := Aside0.mk (ho); clear HB; clear HO_5; have HB := n0_; have HO270 := n1_; clear n0_ n1_; clear ho hb hg hat))
                                  go_roundg k1
                                  case measure => have := HK1.out; omega
                                  case rel => exact ⟨(y268), (wrap64 (x6_1 + (wrap64 ((wrap64 (t265)) + 8)))), (by first | rfl | (simp; done) | (simp [*]; done)), H', ⟨by have := HK1.out; omega⟩, ⟨by (with_reducible repeat (first | apply Kd.R_alloc | apply Kd.R_drewN | apply Kd.R_drew)); exact HO270.out⟩, ⟨by repeat (first | (with_reducible first | exact HB.out | apply below_alloc | apply pw_below_drewN | apply below_drew1) | exact HB.out)⟩⟩
                                · rw [if_neg c20] at H
                                  exact absurd H (by simp)
                              · rw [if_neg c19] at H
                                have c19b0 : (t266 == t267) = false := beq_eq_false_iff_ne.mpr c19
                                have c19b1 : (t266 != t267) = true := bne_iff_ne.mpr c19
                                simp only [Option.some.injEq, Prod.mk.injEq] at H
                                obtain ⟨rfl, rfl, rfl⟩ := H
                                go_wp2_with (first | ((with_reducible refine gate_callee (f := 43) rfl ?_); refine goesL_ (some 19) rfl rfl Tryz.func43 (by kernel_rfl) rfl #[.string (a0.extract (x6_1 : Int).toNat ((ji9) : Int).toNat)] rfl (by (try simp only [List.map_toArray, List.map_cons, List.map_nil]); first | done | (simp only [hji9]; rfl) | rfl | (simp only [List.length_drop, List.length_take]; rfl)) ?_; (with_reducible refine (tithebarnref08_number.calls (a0.extract (x6_1 : Int).toNat ((ji9) : Int).toNat) t265 _ A6.out).mono ?_); rintro e w' ⟨rfl, ⟨nd, rfl⟩⟩; refine ⟨_, rfl, ?_⟩) | ((with_reducible refine gate_callee (f := 43) rfl ?_); refine goesL_ (some 51) rfl rfl Tryz.func43 (by kernel_rfl) rfl #[.string (a0.extract ((ji13) : Int).toNat ((wrap64 ((wrap64 (x6_1 + 8)) + (wrap64 (t265)))) : Int).toNat)] rfl (by (try simp only [List.map_toArray, List.map_cons, List.map_nil]); first | done | (simp only [hji13]; rfl) | rfl | (simp only [List.length_drop, List.length_take]; rfl)) ?_; (with_reducible refine (tithebarnref08_number.calls (a0.extract ((ji13) : Int).toNat ((wrap64 ((wrap64 (x6_1 + 8)) + (wrap64 (t265)))) : Int).toNat) t266 _ A17.out).mono ?_); rintro e w' ⟨rfl, ⟨nd, rfl⟩⟩; refine ⟨_, rfl, ?_⟩) | ((with_reducible refine gate_callee (f := 44) rfl ?_); refine goesL_ (some 53) rfl rfl Tryz.func44 (by kernel_rfl) rfl #[.string (a0.extract ((ji9) : Int).toNat ((ji13) : Int).toNat)] rfl (by (try simp only [List.map_toArray, List.map_cons, List.map_nil]); first | done | (simp only [hji13, hji9]; rfl) | rfl | (simp only [List.length_drop, List.length_take]; rfl)) ?_; (with_reducible refine (tithebarnref08_Sum.calls k1 (a0.extract ((ji9) : Int).toNat ((ji13) : Int).toNat) t267 _ A18.out).mono ?_); rintro e w' ⟨rfl, ⟨nd, rfl⟩⟩; refine ⟨_, rfl, ?_⟩))
                                go_ret3
                                exact ⟨_, by first | rfl | (simp [errW_none, errW_some] <;> rfl) | (simp only [← hji9, ← hji13]; first | rfl | (simp [errW_none, errW_some] <;> rfl)) | (simp [*, errW_none, errW_some] <;> rfl), by first | exact Kd.R_nil _ _ _ _ _ | exact Kd.N_nil _ _ _ _ _ | exact Kd.V_nil _ _ _ _ _ | exact Kd.Q_nil _ _ _ _ _ | exact Kd.S_nil _ _ _ _ _, by repeat (first | (with_reducible first | exact HB.out | apply below_alloc | apply pw_below_drewN | apply below_drew1) | exact HB.out)⟩
                            · rw [if_neg c16] at H
                              exact absurd H (by simp)
                          · rw [if_neg c15] at H
                            exact absurd H (by simp)
                        · rw [if_neg c14] at H
                          exact absurd H (by simp)
                      · rw [if_neg c12] at H
                        exact absurd H (by simp)
                    · rw [if_neg c11] at H
                      exact absurd H (by simp)
                  · rw [if_neg c10] at H
                    exact absurd H (by simp)
            · rw [if_neg c5] at H
              exact absurd H (by simp)
          · rw [if_neg c4] at H
            exact absurd H (by simp)
        · rw [if_neg c3] at H
          exact absurd H (by simp)
      · rw [if_neg c2] at H
        have c2b0 : decide (4 ≤ (wrap64 ((a0.size : Int) - x6_1))) = false := decide_eq_false c2
        clear c2
        simp only [Option.some.injEq, Prod.mk.injEq] at H
        obtain ⟨rfl, rfl, rfl⟩ := H
        go_wp2
        go_ret3
        exact ⟨_, by first | rfl | (simp [errW_none, errW_some] <;> rfl) | (simp [*, errW_none, errW_some] <;> rfl), by (with_reducible repeat (first | apply Kd.R_alloc | apply Kd.R_drewN | apply Kd.R_drew)); exact HO_5.out, by repeat (first | (with_reducible first | exact HB.out | apply below_alloc | apply pw_below_drewN | apply below_drew1) | exact HB.out)⟩
end Go.Proofs.YtojcbknclfamhaaGreatDoor.A
