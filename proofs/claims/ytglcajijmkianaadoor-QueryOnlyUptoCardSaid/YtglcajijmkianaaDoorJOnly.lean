/- Where a text is cut at the four blanks: by runes, and by bytes; no program in sight. · The words of a query that may be are read again as it; no program in sight. · The words of a query that may be are read again as it; no program in sight. · A query's text is parsed as it: the plain law of QueryBack; no program in sight. · The document's words of a text, and its Same of words: by bytes; no program in sight. · What is parsed has just the words that it was parsed of; no program in sight. · What is parsed has just the words that it was parsed of: the plain law of QueryOnly; no program in sight. · QueryOnly's walk: what is parsed has just the words that it was parsed of. · How many queries a reading of a bulk holds; no program's run. -/
import Derived.Test.YtglcajijmkianaaDoorAx0
import Derived.Test.YtglcajijmkianaaDoorHRightAsk
import Derived.Test.YtglcajijmkianaaDoorHParse
import Derived.Lib.ItoaLen
import Derived.Test.YtglcajijmkianaaDoorHRd
import Derived.Test.YtglcajijmkianaaDoorBx8
import Derived.Test.YtglcajijmkianaaDoorHPure
import Derived.Test.YtglcajijmkianaaDoorHLives
import Derived.Test.YtglcajijmkianaaDoorRows
namespace Go.Proofs.YtglcajijmkianaaDoor.A
open Go.RowKit Go.Proofs.YtglcajijmkianaaDoorW.PrintWords Go.Proofs.YtglcajijmkianaaDoorW.PrintLast Go.Proofs.YtglcajijmkianaaDoorW.PrintMore
attribute [local go_sem] max2_int min2_int max_two min_two max_three min_three max_four min_four   -- for this text's walks alone
set_option linter.unusedVariables false
set_option linter.unusedSimpArgs false

/-! ### tithebarnref23_Words: function 16 -/
mutual
def tithebarnref23_Words.l0 : Nat → ByteArray → List ByteArray → Int → Int → Option (List ByteArray)
  | 0, _, _, _, _ => none
  | k + 1, x0, x3, x4, x5 => if x5 ≤ (x0.size : Int) then (if x5 = (x0.size : Int) then (tithebarnref23_Words.j1 k x0 x3 x4 x5 true) else (if 0 ≤ x5 then (if x5 < (x0.size : Int) then (if (bt x0 x5) = 32 then (tithebarnref23_Words.j1 k x0 x3 x4 x5 true) else (if (bt x0 x5) = 9 then (tithebarnref23_Words.j1 k x0 x3 x4 x5 true) else (if (bt x0 x5) = 10 then (tithebarnref23_Words.j1 k x0 x3 x4 x5 true) else (tithebarnref23_Words.j1 k x0 x3 x4 x5 ((bt x0 x5) == 13))))) else (none)) else (none))) else (some x3)
def tithebarnref23_Words.j1 : Nat → ByteArray → List ByteArray → Int → Int → Bool → Option (List ByteArray)
  | 0, _, _, _, _, _ => none
  | k + 1, x0, x3, x4, x5, x39 => if x39 = true then (if x5 > x4 then (if 0 ≤ x4 then (if x4 ≤ x5 then (if x5 ≤ (x0.size : Int) then (if x3.length < 8796093022208 then (tithebarnref23_Words.l0 k x0 (x3 ++ [x0.extract (x4 : Int).toNat (x5 : Int).toNat]) (wrap64 (x5 + 1)) (wrap64 (x5 + 1))) else (none)) else (none)) else (none)) else (none)) else (tithebarnref23_Words.l0 k x0 x3 (wrap64 (x5 + 1)) (wrap64 (x5 + 1)))) else (tithebarnref23_Words.l0 k x0 x3 x4 (wrap64 (x5 + 1)))
end
def tithebarnref23_Words.f (k : Nat) (a0 : ByteArray) : Option (List ByteArray) := tithebarnref23_Words.l0 k a0 ([] : List ByteArray) 0 0
theorem tithebarnref23_Words.mono_l : ∀ k, (∀ y0 y1 y2 y3, LeO (tithebarnref23_Words.l0 k y0 y1 y2 y3) (tithebarnref23_Words.l0 (k + 1) y0 y1 y2 y3)) ∧ (∀ y0 y1 y2 y3 y4, LeO (tithebarnref23_Words.j1 k y0 y1 y2 y3 y4) (tithebarnref23_Words.j1 (k + 1) y0 y1 y2 y3 y4))
  | 0 => ⟨fun _ _ _ _ r h => by simp [tithebarnref23_Words.l0] at h, fun _ _ _ _ _ r h => by simp [tithebarnref23_Words.j1] at h⟩
  | k + 1 => by
    obtain ⟨ih0, ih1⟩ := tithebarnref23_Words.mono_l k
    refine ⟨?_, ?_⟩
    · intro y0 y1 y2 y3
      unfold tithebarnref23_Words.l0
      repeat' first
      | (with_reducible exact ih0 _ _ _ _)
      | (with_reducible exact ih1 _ _ _ _ _)
      | (with_reducible exact LeO.refl _)
      | (with_reducible exact LeO.none _)
      | (with_reducible refine LeO.ite ?_ ?_)
      | (with_reducible refine LeO.bind ?_ (fun _ => ?_))
      | exact ih0 _ _ _ _
      | exact ih1 _ _ _ _ _
      | exact LeO.none _
      | refine LeO.ite ?_ ?_
      | refine LeO.bind ?_ (fun _ => ?_)
    · intro y0 y1 y2 y3 y4
      unfold tithebarnref23_Words.j1
      repeat' first
      | (with_reducible exact ih0 _ _ _ _)
      | (with_reducible exact ih1 _ _ _ _ _)
      | (with_reducible exact LeO.refl _)
      | (with_reducible exact LeO.none _)
      | (with_reducible refine LeO.ite ?_ ?_)
      | (with_reducible refine LeO.bind ?_ (fun _ => ?_))
      | exact ih0 _ _ _ _
      | exact ih1 _ _ _ _ _
      | exact LeO.none _
      | refine LeO.ite ?_ ?_
      | refine LeO.bind ?_ (fun _ => ?_)
theorem tithebarnref23_Words.mono : ∀ a0 k, LeO (tithebarnref23_Words.f k a0) (tithebarnref23_Words.f (k + 1) a0) := by
  intro a0 k
  obtain ⟨ih0, ih1⟩ := tithebarnref23_Words.mono_l k
  unfold tithebarnref23_Words.f
  repeat' first
      | (with_reducible exact ih0 _ _ _ _)
      | (with_reducible exact ih1 _ _ _ _ _)
      | (with_reducible exact LeO.refl _)
      | (with_reducible exact LeO.none _)
      | (with_reducible refine LeO.ite ?_ ?_)
      | (with_reducible refine LeO.bind ?_ (fun _ => ?_))
      | exact ih0 _ _ _ _
      | exact ih1 _ _ _ _ _
      | exact LeO.none _
      | refine LeO.ite ?_ ?_
      | refine LeO.bind ?_ (fun _ => ?_)
set_option maxHeartbeats 8000000 in
set_option maxRecDepth 100000 in
theorem tithebarnref23_Words.calls (k : Nat) (a0 : ByteArray) (r : List ByteArray) (w : World) (h : tithebarnref23_Words.f k a0 = some r) :
    Calls Tryd.prog 16 #[.string a0] w fun e w' => ∃ v0_ : Value, e = .returned (v0_) ∧ Kd.R Kd.string 9 w' w.heap.size (fun _ => True) v0_ r ∧ Below w.heap.size w w' := by
  have HB := Aside0.mk (Below.refl w.heap.size w)
  have H : (tithebarnref23_Words.l0 k a0 ([] : List ByteArray) 0 0) = some r := h
  clear h
  have H' := Aside0.mk H
  clear H
  go_enter Tryd.func16, Tryd.ntmps16
  go_wp2
  go_loopg [3, 4, 5] k (fun kq v3 v4 v5 w' => ∃ (x3_1 : List ByteArray) (x4_1 : Int) (x5_1 : Int), v4 = .int .i64 x4_1 ∧ v5 = .int .i64 x5_1 ∧ Aside0 (tithebarnref23_Words.l0 kq a0 x3_1 x4_1 x5_1 = some r) ∧ Aside0 (kq ≤ k) ∧ Aside0 (Kd.R Kd.string 9 w' w.heap.size (fun _ => True) v3 x3_1) ∧ Aside0 (Below w.heap.size w w'))
  case atStart => exact ⟨(([] : List ByteArray)), (0), (0), (by first | rfl | (simp; done) | (simp [*]; done)), (by first | rfl | (simp; done) | (simp [*]; done)), H', ⟨Nat.le_refl _⟩, ⟨by first | exact Kd.R_nil _ _ _ _ _ | exact Kd.N_nil _ _ _ _ _ | exact Kd.V_nil _ _ _ _ _ | exact Kd.Q_nil _ _ _ _ _ | exact Kd.S_nil _ _ _ _ _⟩, ⟨by repeat (first | (with_reducible first | exact HB.out | apply below_alloc | apply pw_below_drewN | apply below_drew1) | exact HB.out)⟩⟩
  case round =>
    clear H'
    try clear c1
    obtain ⟨x3_1, x4_1, x5_1, rfl, rfl, HA, HK1, HO_3, HB⟩ := hrel
    cases gk with
    | zero => exact absurd HA.out (by simp [tithebarnref23_Words.l0])
    | succ k1 =>
      have H := HA.out
      clear HA
      simp only [tithebarnref23_Words.l0] at H
      by_cases c2 : x5_1 ≤ (a0.size : Int)
      · rw [if_pos c2] at H
        have c2b0 : decide (x5_1 ≤ (a0.size : Int)) = true := decide_eq_true c2
        clear c2
        have HC3 := Aside0.mk H
        clear H
        go_upto_region 6 with (fail)
        go_cut [39] (fun v39 wc => ∃ (kq : Nat) (x39_2 : Bool), v39 = .bool x39_2 ∧ Aside0 (tithebarnref23_Words.j1 kq a0 x3_1 x4_1 x5_1 x39_2 = some r) ∧ Aside0 (kq ≤ k1) ∧ Aside0 (Kd.R Kd.string 9 wc w.heap.size (fun _ => True) u3 x3_1) ∧ Aside0 (Below w.heap.size w wc))
        case first =>
          have H := HC3.out
          clear HC3
          by_cases c4 : x5_1 = (a0.size : Int)
          · rw [if_pos c4] at H
            have c4b0 : (x5_1 == (a0.size : Int)) = true := beq_iff_eq.mpr c4
            have c4b1 : (x5_1 != (a0.size : Int)) = false := bne_eq_false_iff_eq.mpr c4
            clear c4
            (first | rw [c4b0] | (simp only [i64_w, i32_w]; rw [c4b0]) | skip)
            have H' := Aside0.mk H
            clear H
            go_wp2
            go_meet
            case rel => exact ⟨_, (true), (by first | rfl | (simp; done) | (simp [*]; done)), H', ⟨by have := HK1.out; first | omega | exact Nat.le_refl _⟩, ⟨by (with_reducible repeat (first | apply Kd.R_alloc | apply Kd.R_drewN | apply Kd.R_drew)); exact HO_3.out⟩, ⟨by repeat (first | (with_reducible first | exact HB.out | apply below_alloc | apply pw_below_drewN | apply below_drew1) | exact HB.out)⟩⟩
          · rw [if_neg c4] at H
            have c4b0 : (x5_1 == (a0.size : Int)) = false := beq_eq_false_iff_ne.mpr c4
            have c4b1 : (x5_1 != (a0.size : Int)) = true := bne_iff_ne.mpr c4
            (first | rw [c4b0] | (simp only [i64_w, i32_w]; rw [c4b0]) | skip)
            by_cases c5 : 0 ≤ x5_1
            · rw [if_pos c5] at H
              have c5b0 : decide (0 ≤ x5_1) = true := decide_eq_true c5
              clear c5
              by_cases c6 : x5_1 < (a0.size : Int)
              · rw [if_pos c6] at H
                have c6b0 : decide (x5_1 < (a0.size : Int)) = true := decide_eq_true c6
                clear c6
                by_cases c8 : (bt a0 x5_1) = 32
                · rw [if_pos c8] at H
                  have c8b0 : ((bt a0 x5_1) == 32) = true := beq_iff_eq.mpr c8
                  have c8b1 : ((bt a0 x5_1) != 32) = false := bne_eq_false_iff_eq.mpr c8
                  clear c8
                  have H' := Aside0.mk H
                  clear H
                  have p7 : 0 ≤ (x5_1 : Int) := of_decide_eq_true (by first | (with_reducible assumption) | assumption)
                  have q7 : x5_1 < (a0.size : Int) := of_decide_eq_true (by first | (with_reducible assumption) | assumption)
                  have hx7 := bt_at a0 x5_1
                  replace p7 := eq_true p7
                  replace q7 := eq_true q7
                  go_wp2
                  go_meet
                  case rel => exact ⟨_, (true), (by first | rfl | (simp; done) | (simp [*]; done)), H', ⟨by have := HK1.out; first | omega | exact Nat.le_refl _⟩, ⟨by (with_reducible repeat (first | apply Kd.R_alloc | apply Kd.R_drewN | apply Kd.R_drew)); exact HO_3.out⟩, ⟨by repeat (first | (with_reducible first | exact HB.out | apply below_alloc | apply pw_below_drewN | apply below_drew1) | exact HB.out)⟩⟩
                · rw [if_neg c8] at H
                  have c8b0 : ((bt a0 x5_1) == 32) = false := beq_eq_false_iff_ne.mpr c8
                  have c8b1 : ((bt a0 x5_1) != 32) = true := bne_iff_ne.mpr c8
                  by_cases c10 : (bt a0 x5_1) = 9
                  · rw [if_pos c10] at H
                    have c10b0 : ((bt a0 x5_1) == 9) = true := beq_iff_eq.mpr c10
                    have c10b1 : ((bt a0 x5_1) != 9) = false := bne_eq_false_iff_eq.mpr c10
                    clear c10
                    have H' := Aside0.mk H
                    clear H
                    have p7 : 0 ≤ (x5_1 : Int) := of_decide_eq_true (by first | (with_reducible assumption) | assumption)
                    have q7 : x5_1 < (a0.size : Int) := of_decide_eq_true (by first | (with_reducible assumption) | assumption)
                    have hx7 := bt_at a0 x5_1
                    replace p7 := eq_true p7
                    replace q7 := eq_true q7
                    have p9 : 0 ≤ (x5_1 : Int) := of_decide_eq_true (by first | (with_reducible assumption) | assumption)
                    have q9 : x5_1 < (a0.size : Int) := of_decide_eq_true (by first | (with_reducible assumption) | assumption)
                    have hx9 := bt_at a0 x5_1
                    replace p9 := eq_true p9
                    replace q9 := eq_true q9
                    go_wp2
                    go_meet
                    case rel => exact ⟨_, (true), (by first | rfl | (simp; done) | (simp [*]; done)), H', ⟨by have := HK1.out; first | omega | exact Nat.le_refl _⟩, ⟨by (with_reducible repeat (first | apply Kd.R_alloc | apply Kd.R_drewN | apply Kd.R_drew)); exact HO_3.out⟩, ⟨by repeat (first | (with_reducible first | exact HB.out | apply below_alloc | apply pw_below_drewN | apply below_drew1) | exact HB.out)⟩⟩
                  · rw [if_neg c10] at H
                    have c10b0 : ((bt a0 x5_1) == 9) = false := beq_eq_false_iff_ne.mpr c10
                    have c10b1 : ((bt a0 x5_1) != 9) = true := bne_iff_ne.mpr c10
                    by_cases c12 : (bt a0 x5_1) = 10
                    · rw [if_pos c12] at H
                      have c12b0 : ((bt a0 x5_1) == 10) = true := beq_iff_eq.mpr c12
                      have c12b1 : ((bt a0 x5_1) != 10) = false := bne_eq_false_iff_eq.mpr c12
                      clear c12
                      have H' := Aside0.mk H
                      clear H
                      have p7 : 0 ≤ (x5_1 : Int) := of_decide_eq_true (by first | (with_reducible assumption) | assumption)
                      have q7 : x5_1 < (a0.size : Int) := of_decide_eq_true (by first | (with_reducible assumption) | assumption)
                      have hx7 := bt_at a0 x5_1
                      replace p7 := eq_true p7
                      replace q7 := eq_true q7
                      have p9 : 0 ≤ (x5_1 : Int) := of_decide_eq_true (by first | (with_reducible assumption) | assumption)
                      have q9 : x5_1 < (a0.size : Int) := of_decide_eq_true (by first | (with_reducible assumption) | assumption)
                      have hx9 := bt_at a0 x5_1
                      replace p9 := eq_true p9
                      replace q9 := eq_true q9
                      have p11 : 0 ≤ (x5_1 : Int) := of_decide_eq_true (by first | (with_reducible assumption) | assumption)
                      have q11 : x5_1 < (a0.size : Int) := of_decide_eq_true (by first | (with_reducible assumption) | assumption)
                      have hx11 := bt_at a0 x5_1
                      replace p11 := eq_true p11
                      replace q11 := eq_true q11
                      go_wp2
                      go_meet
                      case rel => exact ⟨_, (true), (by first | rfl | (simp; done) | (simp [*]; done)), H', ⟨by have := HK1.out; first | omega | exact Nat.le_refl _⟩, ⟨by (with_reducible repeat (first | apply Kd.R_alloc | apply Kd.R_drewN | apply Kd.R_drew)); exact HO_3.out⟩, ⟨by repeat (first | (with_reducible first | exact HB.out | apply below_alloc | apply pw_below_drewN | apply below_drew1) | exact HB.out)⟩⟩
                    · rw [if_neg c12] at H
                      have c12b0 : ((bt a0 x5_1) == 10) = false := beq_eq_false_iff_ne.mpr c12
                      have c12b1 : ((bt a0 x5_1) != 10) = true := bne_iff_ne.mpr c12
                      have H' := Aside0.mk H
                      clear H
                      have p7 : 0 ≤ (x5_1 : Int) := of_decide_eq_true (by first | (with_reducible assumption) | assumption)
                      have q7 : x5_1 < (a0.size : Int) := of_decide_eq_true (by first | (with_reducible assumption) | assumption)
                      have hx7 := bt_at a0 x5_1
                      replace p7 := eq_true p7
                      replace q7 := eq_true q7
                      have p9 : 0 ≤ (x5_1 : Int) := of_decide_eq_true (by first | (with_reducible assumption) | assumption)
                      have q9 : x5_1 < (a0.size : Int) := of_decide_eq_true (by first | (with_reducible assumption) | assumption)
                      have hx9 := bt_at a0 x5_1
                      replace p9 := eq_true p9
                      replace q9 := eq_true q9
                      have p11 : 0 ≤ (x5_1 : Int) := of_decide_eq_true (by first | (with_reducible assumption) | assumption)
                      have q11 : x5_1 < (a0.size : Int) := of_decide_eq_true (by first | (with_reducible assumption) | assumption)
                      have hx11 := bt_at a0 x5_1
                      replace p11 := eq_true p11
                      replace q11 := eq_true q11
                      have p13 : 0 ≤ (x5_1 : Int) := of_decide_eq_true (by first | (with_reducible assumption) | assumption)
                      have q13 : x5_1 < (a0.size : Int) := of_decide_eq_true (by first | (with_reducible assumption) | assumption)
                      have hx13 := bt_at a0 x5_1
                      replace p13 := eq_true p13
                      replace q13 := eq_true q13
                      go_wp2
                      go_meet
                      case rel => exact ⟨_, (((bt a0 x5_1) == 13)), (by first | rfl | (simp; done) | (simp [*]; done)), H', ⟨by have := HK1.out; first | omega | exact Nat.le_refl _⟩, ⟨by (with_reducible repeat (first | apply Kd.R_alloc | apply Kd.R_drewN | apply Kd.R_drew)); exact HO_3.out⟩, ⟨by repeat (first | (with_reducible first | exact HB.out | apply below_alloc | apply pw_below_drewN | apply below_drew1) | exact HB.out)⟩⟩
              · rw [if_neg c6] at H
                exact absurd H (by simp)
            · rw [if_neg c5] at H
              exact absurd H (by simp)
        case rest =>
          clear HC3
          try clear c1
          try clear p1
          try clear q1
          try clear hx1
          try clear c2
          try clear c2b0
          try clear p2
          try clear c4
          try clear c4b0
          try clear c4b1
          try clear c5
          try clear c5b0
          try clear c6
          try clear c6b0
          try clear p7
          try clear q7
          try clear hx7
          try clear c8
          try clear c8b0
          try clear c8b1
          try clear p9
          try clear q9
          try clear hx9
          try clear c10
          try clear c10b0
          try clear c10b1
          try clear p11
          try clear q11
          try clear hx11
          try clear c12
          try clear c12b0
          try clear c12b1
          try clear p13
          try clear q13
          try clear hx13
          try clear p11
          try clear p13
          try clear p7
          try clear p9
          try clear q11
          try clear q13
          try clear q7
          try clear q9
          obtain ⟨kq, x39_2, rfl, HA, HJ2, HO_3, HB⟩ := hcut
          cases kq with
          | zero => exact absurd HA.out (by simp [tithebarnref23_Words.j1])
          | succ kj2 =>
            have H := HA.out
            clear HA
            simp only [tithebarnref23_Words.j1] at H
            by_cases c14 : x39_2 = true
            · subst c14
              have H1 : (if x5_1 > x4_1 then (if 0 ≤ x4_1 then (if x4_1 ≤ x5_1 then (if x5_1 ≤ (a0.size : Int) then (if x3_1.length < 8796093022208 then (tithebarnref23_Words.l0 kj2 a0 (x3_1 ++ [a0.extract (x4_1 : Int).toNat (x5_1 : Int).toNat]) (wrap64 (x5_1 + 1)) (wrap64 (x5_1 + 1))) else (none)) else (none)) else (none)) else (none)) else (tithebarnref23_Words.l0 kj2 a0 x3_1 (wrap64 (x5_1 + 1)) (wrap64 (x5_1 + 1)))) = some r := by rw [if_pos rfl] at H; exact H
              clear H
              have H := H1
              clear H1
              by_cases c15 : x5_1 > x4_1
              · rw [if_pos c15] at H
                have c15b0 : decide (x4_1 < x5_1) = true := decide_eq_true c15
                clear c15
                by_cases c16 : 0 ≤ x4_1
                · rw [if_pos c16] at H
                  have c16b0 := eq_true c16
                  have c16b1 : decide (0 ≤ x4_1) = true := decide_eq_true c16
                  clear c16
                  by_cases c17 : x4_1 ≤ x5_1
                  · rw [if_pos c17] at H
                    have c17b0 := eq_true c17
                    have c17b1 : decide (x4_1 ≤ x5_1) = true := decide_eq_true c17
                    clear c17
                    by_cases c18 : x5_1 ≤ (a0.size : Int)
                    · rw [if_pos c18] at H
                      have c18b0 := eq_true c18
                      have c18b1 : decide (x5_1 ≤ (a0.size : Int)) = true := decide_eq_true c18
                      clear c18
                      by_cases c19 : x3_1.length < 8796093022208
                      · rw [if_pos c19] at H
                        have LMc19 := Aside0.mk c19
                        clear c19
                        obtain ⟨y170, hy170⟩ : ∃ y_ : List ByteArray, y_ = (x3_1 ++ [a0.extract (x4_1 : Int).toNat (x5_1 : Int).toNat]) := ⟨_, rfl⟩
                        replace H : (tithebarnref23_Words.l0 kj2 a0 y170 (wrap64 (x5_1 + 1)) (wrap64 (x5_1 + 1))) = some r := by first | (rw [hy170]; with_reducible exact H) | (have H2_ := (Option.bind_some _ _).symm.trans H; rw [hy170]; with_reducible exact H2_) | (have H2_ := (Option.bind_some _ _).symm.trans H; with_reducible exact H2_) | with_reducible exact H | (rw [hy170]; exact H) | exact H
                        have Ny170 := Aside0.mk hy170
                        clear hy170
                        have H' := Aside0.mk H
                        clear H
                        go_wp2_with (first | ((with_reducible refine gate_builtin (b := .append) (xs := #[.tmp 43, .tmp 48]) rfl ?_); at_builtin; refine Kd.R_append Kd.string (w0 := w) w.heap.size rfl (.tmp 43) (.tmp 48) 39 9 (.string ⟨#[]⟩) 16 rfl Tryd.underlying39 info9 rfl (by decide) (by omega) u3 x3_1 (a0.extract (x4_1 : Int).toNat (x5_1 : Int).toNat) [.string (a0.extract (x4_1 : Int).toNat (x5_1 : Int).toNat)] (fun _ => True) (fun _ => False) rfl rfl ?aP (fun _ hk => hk.elim) ?aF ?aO ?aB ?aS ?aL ?_; (case aP => exact rfl); (case aB => exact (by repeat (first | (with_reducible first | exact HB.out | apply below_alloc | apply pw_below_drewN | apply below_drew1) | exact HB.out))); (case aF => exact (fun _ _ => trivial)); (case aO => exact (by (with_reducible repeat (first | apply Kd.R_alloc | apply Kd.R_drewN | apply Kd.R_drew)); exact HO_3.out)); (case aS => exact (below_size (by repeat (first | (with_reducible first | exact HB.out | apply below_alloc | apply pw_below_drewN | apply below_drew1) | exact HB.out)))); (case aL => have := LMc19.out; omega); intro v171 w20 ho hb hg hat; rw [← Ny170.out] at ho; have n0_ := Aside0.mk (hb); have n1_ := Aside0.mk (ho); clear HB; clear HO_3; have HB := n0_; have HO172 := n1_; clear n0_ n1_; clear ho hb hg hat))
                        go_roundg kj2
                        case measure => have := HK1.out; have := HJ2.out; omega
                        case rel => exact ⟨(y170), (wrap64 (x5_1 + 1)), (wrap64 (x5_1 + 1)), (by first | rfl | (simp; done) | (simp [*]; done)), (by first | rfl | (simp; done) | (simp [*]; done)), H', ⟨by have := HK1.out; have := HJ2.out; omega⟩, ⟨by (with_reducible repeat (first | apply Kd.R_alloc | apply Kd.R_drewN | apply Kd.R_drew)); exact HO172.out⟩, ⟨by repeat (first | (with_reducible first | exact HB.out | apply below_alloc | apply pw_below_drewN | apply below_drew1) | exact HB.out)⟩⟩
                      · rw [if_neg c19] at H
                        exact absurd H (by simp)
                    · rw [if_neg c18] at H
                      exact absurd H (by simp)
                  · rw [if_neg c17] at H
                    exact absurd H (by simp)
                · rw [if_neg c16] at H
                  exact absurd H (by simp)
              · rw [if_neg c15] at H
                have c15b0 : decide (x4_1 < x5_1) = false := decide_eq_false c15
                clear c15
                have H' := Aside0.mk H
                clear H
                go_wp2
                go_roundg kj2
                case measure => have := HK1.out; have := HJ2.out; omega
                case rel => exact ⟨(x3_1), (wrap64 (x5_1 + 1)), (wrap64 (x5_1 + 1)), (by first | rfl | (simp; done) | (simp [*]; done)), (by first | rfl | (simp; done) | (simp [*]; done)), H', ⟨by have := HK1.out; have := HJ2.out; omega⟩, ⟨by (with_reducible repeat (first | apply Kd.R_alloc | apply Kd.R_drewN | apply Kd.R_drew)); exact HO_3.out⟩, ⟨by repeat (first | (with_reducible first | exact HB.out | apply below_alloc | apply pw_below_drewN | apply below_drew1) | exact HB.out)⟩⟩
            · replace c14 := Bool.eq_false_iff.mpr c14
              subst c14
              have H1 : (tithebarnref23_Words.l0 kj2 a0 x3_1 x4_1 (wrap64 (x5_1 + 1))) = some r := by rw [if_neg (show ¬ (false = true) by decide)] at H; exact H
              clear H
              have H := H1
              clear H1
              have H' := Aside0.mk H
              clear H
              go_wp2
              go_roundg kj2
              case measure => have := HK1.out; have := HJ2.out; omega
              case rel => exact ⟨(x3_1), (x4_1), (wrap64 (x5_1 + 1)), (by first | rfl | (simp; done) | (simp [*]; done)), (by first | rfl | (simp; done) | (simp [*]; done)), H', ⟨by have := HK1.out; have := HJ2.out; omega⟩, ⟨by (with_reducible repeat (first | apply Kd.R_alloc | apply Kd.R_drewN | apply Kd.R_drew)); exact HO_3.out⟩, ⟨by repeat (first | (with_reducible first | exact HB.out | apply below_alloc | apply pw_below_drewN | apply below_drew1) | exact HB.out)⟩⟩
      · rw [if_neg c2] at H
        have c2b0 : decide (x5_1 ≤ (a0.size : Int)) = false := decide_eq_false c2
        clear c2
        obtain rfl := Option.some.inj H
        go_wp2
        go_ret
        exact ⟨_, by first | rfl | (simp [errW_none, errW_some] <;> rfl) | (simp [*, errW_none, errW_some] <;> rfl), by (with_reducible repeat (first | apply Kd.R_alloc | apply Kd.R_drewN | apply Kd.R_drew)); exact HO_3.out, by repeat (first | (with_reducible first | exact HB.out | apply below_alloc | apply pw_below_drewN | apply below_drew1) | exact HB.out)⟩
end Go.Proofs.YtglcajijmkianaaDoor.A
namespace Go.Proofs.YtglcajijmkianaaDoor.A
open Go.RowKit Go.Proofs.YtglcajijmkianaaDoorW.PrintWords Go.Proofs.YtglcajijmkianaaDoorW.PrintLast Go.Proofs.YtglcajijmkianaaDoorW.PrintMore
attribute [local go_sem] max2_int min2_int max_two min_two max_three min_three max_four min_four   -- for this text's walks alone
set_option linter.unusedVariables false
set_option linter.unusedSimpArgs false

-- NOT PRINTED: function 3 (tithebarnlaw23_QueryTexts)

-- NOT PRINTED: function 4 (tithebarnlaw23_QueryBack)

/-! ### tithebarnref05_Same: function 15 -/
def tithebarnref05_Same.l0 : Nat → List ByteArray → List ByteArray → Int → Option (Bool)
  | 0, _, _, _ => none
  | k + 1, x0, x1, x5 => if x5 < (x0.length : Int) then (if 0 ≤ x5 then (if x5 < (x1.length : Int) then (if (rdOf ByteArray.empty x0 x5).toList = (rdOf ByteArray.empty x1 x5).toList then (tithebarnref05_Same.l0 k x0 x1 (wrap64 (x5 + 1))) else (some false)) else (none)) else (none)) else (some true)
def tithebarnref05_Same.f (k : Nat) (l0 : List ByteArray) (l1 : List ByteArray) : Option (Bool) := if (l0.length : Int) = (l1.length : Int) then (tithebarnref05_Same.l0 k l0 l1 0) else (some false)
theorem tithebarnref05_Same.mono_l : ∀ k, (∀ y0 y1 y2, LeO (tithebarnref05_Same.l0 k y0 y1 y2) (tithebarnref05_Same.l0 (k + 1) y0 y1 y2))
  | 0 => fun _ _ _ r h => by simp [tithebarnref05_Same.l0] at h
  | k + 1 => by
    have ih0 := tithebarnref05_Same.mono_l k
    · intro y0 y1 y2
      unfold tithebarnref05_Same.l0
      repeat' first
      | (with_reducible exact ih0 _ _ _)
      | (with_reducible exact LeO.refl _)
      | (with_reducible exact LeO.none _)
      | (with_reducible refine LeO.ite ?_ ?_)
      | (with_reducible refine LeO.bind ?_ (fun _ => ?_))
      | exact ih0 _ _ _
      | exact LeO.none _
      | refine LeO.ite ?_ ?_
      | refine LeO.bind ?_ (fun _ => ?_)
theorem tithebarnref05_Same.mono : ∀ a0 a1 k, LeO (tithebarnref05_Same.f k a0 a1) (tithebarnref05_Same.f (k + 1) a0 a1) := by
  intro a0 a1 k
  have ih0 := tithebarnref05_Same.mono_l k
  unfold tithebarnref05_Same.f
  repeat' first
      | (with_reducible exact ih0 _ _ _)
      | (with_reducible exact LeO.refl _)
      | (with_reducible exact LeO.none _)
      | (with_reducible refine LeO.ite ?_ ?_)
      | (with_reducible refine LeO.bind ?_ (fun _ => ?_))
      | exact ih0 _ _ _
      | exact LeO.none _
      | refine LeO.ite ?_ ?_
      | refine LeO.bind ?_ (fun _ => ?_)
set_option maxHeartbeats 8000000 in
set_option maxRecDepth 100000 in
theorem tithebarnref05_Same.calls (k : Nat) (A0 : Option Addr) (c0 : Nat) (l0 : List ByteArray) (A1 : Option Addr) (c1 : Nat) (l1 : List ByteArray) (r : Bool) (w : World) (hr0 : Kd.C Kd.string w A0 l0.length l0) (hc0 : l0.length ≤ c0) (hr1 : Kd.C Kd.string w A1 l1.length l1) (hc1 : l1.length ≤ c1) (h : tithebarnref05_Same.f k l0 l1 = some r) :
    Calls Tryd.prog 15 #[.slice A0 l0.length c0, .slice A1 l1.length c1] w fun e w' => e = .returned (.bool r) ∧ Drawn0 w w' := by
  have HR0 := Aside0.mk hr0
  have HC0 := Aside0.mk hc0
  clear hr0 hc0
  have HR1 := Aside0.mk hr1
  have HC1 := Aside0.mk hc1
  clear hr1 hc1
  have H : (if (l0.length : Int) = (l1.length : Int) then (tithebarnref05_Same.l0 k l0 l1 0) else (some false)) = some r := h
  clear h
  by_cases c3 : (l0.length : Int) = (l1.length : Int)
  · rw [if_pos c3] at H
    have c3b0 : ((l0.length : Int) == (l1.length : Int)) = true := beq_iff_eq.mpr c3
    have c3b1 : ((l0.length : Int) != (l1.length : Int)) = false := bne_eq_false_iff_eq.mpr c3
    have c3b2 : (l0.length == l1.length) = true := by first | simpa using c3 | (simp at c3 ⊢; omega)
    clear c3
    have H' := Aside0.mk H
    clear H
    go_enter Tryd.func15, Tryd.ntmps15
    go_wp2
    repeat (go_quiet (fail); try go_wp2)
    go_loopg [5] k (fun kq v5 w' => ∃ (x5_1 : Int), v5 = .int .i64 x5_1 ∧ Aside0 (tithebarnref05_Same.l0 kq l0 l1 x5_1 = some r) ∧ Aside0 (kq ≤ k) ∧ Drawn0 w w')
    case atStart => exact ⟨(0), (by first | rfl | (simp; done) | (simp [*]; done)), H', ⟨Nat.le_refl _⟩, by repeat (first | exact Drawn0.refl _ | apply Drawn0.step)⟩
    case round =>
      clear H'
      try clear c1
      try clear p2
      try clear c3
      try clear c3b0
      try clear c3b1
      try clear c3b2
      obtain ⟨x5_1, rfl, HA, HK1, ⟨m1, rfl⟩⟩ := hrel
      cases gk with
      | zero => exact absurd HA.out (by simp [tithebarnref05_Same.l0])
      | succ k1 =>
        have H := HA.out
        clear HA
        simp only [tithebarnref05_Same.l0] at H
        by_cases c4 : x5_1 < (l0.length : Int)
        · rw [if_pos c4] at H
          have c4b0 : decide (x5_1 < (l0.length : Int)) = true := decide_eq_true c4
          clear c4
          by_cases c5 : 0 ≤ x5_1
          · rw [if_pos c5] at H
            have c5b0 : decide (0 ≤ x5_1) = true := decide_eq_true c5
            clear c5
            by_cases c6 : x5_1 < (l1.length : Int)
            · rw [if_pos c6] at H
              have c6b0 : decide (x5_1 < (l1.length : Int)) = true := decide_eq_true c6
              clear c6
              by_cases c7 : (rdOf ByteArray.empty l0 x5_1).toList = (rdOf ByteArray.empty l1 x5_1).toList
              · rw [if_pos c7] at H
                have c7b0 : ((rdOf ByteArray.empty l0 x5_1).toList == (rdOf ByteArray.empty l1 x5_1).toList) = true := beq_iff_eq.mpr c7
                have c7b1 : ((rdOf ByteArray.empty l0 x5_1).toList != (rdOf ByteArray.empty l1 x5_1).toList) = false := bne_eq_false_iff_eq.mpr c7
                clear c7
                have H' := Aside0.mk H
                clear H
                have p200 : 0 ≤ (x5_1 : Int) := of_decide_eq_true (by first | (with_reducible assumption) | assumption)
                have q200 : x5_1 < (l0.length : Int) := of_decide_eq_true (by first | (with_reducible assumption) | assumption)
                obtain ⟨ad200, e200, hx200_0⟩ := Kd.at_string HR0.out x5_1 p200 q200
                cases e200
                replace p200 := eq_true p200
                replace q200 := eq_true q200
                have p201 : 0 ≤ (x5_1 : Int) := of_decide_eq_true (by first | (with_reducible assumption) | assumption)
                have q201 : x5_1 < (l1.length : Int) := of_decide_eq_true (by first | (with_reducible assumption) | assumption)
                obtain ⟨ad201, e201, hx201_0⟩ := Kd.at_string HR1.out x5_1 p201 q201
                cases e201
                replace p201 := eq_true p201
                replace q201 := eq_true q201
                go_wp2
                repeat (go_quiet (fail); try go_wp2)
                go_roundg k1
                case measure => have := HK1.out; omega
                case rel => exact ⟨(wrap64 (x5_1 + 1)), (by first | rfl | (simp; done) | (simp [*]; done)), H', ⟨by have := HK1.out; omega⟩, by repeat (first | exact Drawn0.refl _ | apply Drawn0.step)⟩
              · rw [if_neg c7] at H
                have c7b0 : ((rdOf ByteArray.empty l0 x5_1).toList == (rdOf ByteArray.empty l1 x5_1).toList) = false := beq_eq_false_iff_ne.mpr c7
                have c7b1 : ((rdOf ByteArray.empty l0 x5_1).toList != (rdOf ByteArray.empty l1 x5_1).toList) = true := bne_iff_ne.mpr c7
                obtain rfl := Option.some.inj H
                have p200 : 0 ≤ (x5_1 : Int) := of_decide_eq_true (by first | (with_reducible assumption) | assumption)
                have q200 : x5_1 < (l0.length : Int) := of_decide_eq_true (by first | (with_reducible assumption) | assumption)
                obtain ⟨ad200, e200, hx200_0⟩ := Kd.at_string HR0.out x5_1 p200 q200
                cases e200
                replace p200 := eq_true p200
                replace q200 := eq_true q200
                have p201 : 0 ≤ (x5_1 : Int) := of_decide_eq_true (by first | (with_reducible assumption) | assumption)
                have q201 : x5_1 < (l1.length : Int) := of_decide_eq_true (by first | (with_reducible assumption) | assumption)
                obtain ⟨ad201, e201, hx201_0⟩ := Kd.at_string HR1.out x5_1 p201 q201
                cases e201
                replace p201 := eq_true p201
                replace q201 := eq_true q201
                go_wp2
                repeat (go_quiet (fail); try go_wp2)
                go_ret
                exact ⟨by first | rfl | (simp; done) | (simp [*]; done), by repeat (first | exact Drawn0.refl _ | apply Drawn0.step)⟩
            · rw [if_neg c6] at H
              exact absurd H (by simp)
          · rw [if_neg c5] at H
            exact absurd H (by simp)
        · rw [if_neg c4] at H
          have c4b0 : decide (x5_1 < (l0.length : Int)) = false := decide_eq_false c4
          clear c4
          obtain rfl := Option.some.inj H
          go_wp2
          repeat (go_quiet (fail); try go_wp2)
          go_ret
          exact ⟨by first | rfl | (simp; done) | (simp [*]; done), by repeat (first | exact Drawn0.refl _ | apply Drawn0.step)⟩
  · rw [if_neg c3] at H
    have c3b0 : ((l0.length : Int) == (l1.length : Int)) = false := beq_eq_false_iff_ne.mpr c3
    have c3b1 : ((l0.length : Int) != (l1.length : Int)) = true := bne_iff_ne.mpr c3
    have c3b2 : (l0.length == l1.length) = false := by first | simpa using c3 | (simp at c3 ⊢; omega)
    obtain rfl := Option.some.inj H
    go_enter Tryd.func15, Tryd.ntmps15
    go_wp2
    repeat (go_quiet (fail); try go_wp2)
    go_ret
    exact ⟨by first | rfl | (simp; done) | (simp [*]; done), by repeat (first | exact Drawn0.refl _ | apply Drawn0.step)⟩

-- NOT PRINTED: function 5 (tithebarnlaw23_QueryOnly)

-- NOT PRINTED: function 6 (tithebarnlaw23_QueryNot)

end Go.Proofs.YtglcajijmkianaaDoor.A
namespace Go.Proofs.YtglcajijmkianaaDoor.A
open Go.Lib
set_option linter.unusedVariables false
set_option linter.unusedSimpArgs false

/-- A byte that stands between words. -/
def bB (b : UInt8) : Bool := blankP b.toNat
/-- The words of bytes, one being begun. -/
def bsplit : List UInt8 → List UInt8 → List (List UInt8)
  | cur, [] => if cur = [] then [] else [cur]
  | cur, b :: t => if bB b = true then (if cur = [] then bsplit [] t else cur :: bsplit [] t) else bsplit (cur ++ [b]) t

theorem bsplit_run : ∀ (w : List UInt8) (cur t : List UInt8), (∀ b ∈ w, bB b = false) → bsplit cur (w ++ t) = bsplit (cur ++ w) t
  | [], cur, t, _ => by simp
  | b :: w, cur, t, h => by
    have hb := h b (List.mem_cons_self ..)
    rw [List.cons_append, bsplit, if_neg (by simp [hb]), bsplit_run w (cur ++ [b]) t (fun x hx => h x (List.mem_cons_of_mem _ hx))]
    simp

theorem blankP_big {c : Nat} (h : 128 ≤ c) : blankP c = false := by
  unfold blankP
  have h1 : (c == 32) = false := by simp; omega
  have h2 : (c == 9) = false := by simp; omega
  have h3 : (c == 10) = false := by simp; omega
  have h4 : (c == 13) = false := by simp; omega
  simp [h1, h2, h3, h4]
theorem blankP_small {c : Nat} (h : blankP c = true) : c < 128 := by
  by_cases hc : c < 128
  · exact hc
  · rw [blankP_big (by omega)] at h; cases h

set_option maxHeartbeats 2000000 in
theorem decN_non (n b0 b1 b2 b3 : Nat) (h : blankP b0 = false) :
    blankP (decodeN n b0 b1 b2 b3).1 = false ∧ ((decodeN n b0 b1 b2 b3).2 = 1 ∨ ((decodeN n b0 b1 b2 b3).2 = 2 ∧ 128 ≤ b1) ∨ ((decodeN n b0 b1 b2 b3).2 = 3 ∧ 128 ≤ b1 ∧ 128 ≤ b2) ∨ ((decodeN n b0 b1 b2 b3).2 = 4 ∧ 128 ≤ b1 ∧ 128 ≤ b2 ∧ 128 ≤ b3)) := by
  unfold decodeN
  repeat' split
  all_goals refine ⟨?_, ?_⟩
  all_goals first
    | exact h
    | (apply blankP_big; simp only; omega)
    | exact .inl rfl
    | exact .inr (.inl ⟨rfl, by omega⟩)
    | exact .inr (.inr (.inl ⟨rfl, by omega, by omega⟩))
    | exact .inr (.inr (.inr ⟨rfl, by omega, by omega, by omega⟩))

theorem getD_drop_take {l : List UInt8} {pos k : Nat} {b : UInt8} (h : b ∈ (l.drop pos).take k) : ∃ j, j < k ∧ pos + j < l.length ∧ b = l.getD (pos + j) 0 := by
  obtain ⟨j, hj, rfl⟩ := List.getElem_of_mem h
  have hj' : j < k ∧ pos + j < l.length := by
    rw [List.length_take, List.length_drop] at hj
    omega
  refine ⟨j, hj'.1, hj'.2, ?_⟩
  rw [List.getElem_take, List.getElem_drop, List.getD_eq_getElem?_getD, List.getElem?_eq_getElem hj'.2]
  rfl

/-- At a byte that is no blank, the rune is none, and none of its bytes is. -/
theorem dec_non (s : ByteArray) (pos : Nat) (h : bB (s.data.toList.getD pos 0) = false) :
    blankP (Utf8.decode s pos).1 = false ∧ ∀ b ∈ (s.data.toList.drop pos).take (Utf8.decode s pos).2, bB b = false := by
  have hd := decode_N s pos
  have hx := decN_non (s.data.toList.length - pos) (s.data.toList.getD pos 0).toNat (s.data.toList.getD (pos + 1) 0).toNat (s.data.toList.getD (pos + 2) 0).toNat (s.data.toList.getD (pos + 3) 0).toNat h
  rw [← hd] at hx
  refine ⟨hx.1, fun b hb => ?_⟩
  obtain ⟨j, hj, _, rfl⟩ := getD_drop_take hb
  have hx2 := hx.2
  match j, hj with
  | 0, _ => exact h
  | 1, hj => exact blankP_big (by omega)
  | 2, hj => exact blankP_big (by omega)
  | 3, hj => exact blankP_big (by omega)
  | j + 4, hj => omega

theorem dec_blank (s : ByteArray) (pos : Nat) (h : bB (s.data.toList.getD pos 0) = true) : Utf8.decode s pos = ((s.data.toList.getD pos 0).toNat, 1) := by
  rw [decode_N, decodeN_ascii _ _ _ _ _ (blankP_small h)]

theorem spansP_eq (s : ByteArray) : ∀ (f pos : Nat) (st : Option Nat) (acc : List (Nat × Nat)), s.size ≤ pos + f → pos ≤ s.size → (∀ a, st = some a → a < pos) →
    acc.map (fun p => pieceU s.data.toList p.1 p.2) ++ bsplit (openPiece s.data.toList st pos) (s.data.toList.drop pos) = (closeSpans s (spansFromP blankP s f pos st acc)).map (fun p => pieceU s.data.toList p.1 p.2)
  | 0, pos, st, acc, h, hp, hst => by
    obtain rfl : pos = s.size := by omega
    have hd : s.data.toList.drop s.size = [] := List.drop_eq_nil_of_le (by rw [← size_eq]; exact Nat.le_refl _)
    rw [hd, bsplit]
    cases st with
    | none => simp [spansFromP, closeSpans, openPiece]
    | some a =>
      have := pieceU_ne s.data.toList a s.size (hst a rfl) (by rw [← size_eq]; exact Nat.le_refl _)
      simp [spansFromP, closeSpans, openPiece, this]
  | f + 1, pos, st, acc, h, hp, hst => by
    by_cases hlt : pos < s.size
    · have hltl : pos < s.data.toList.length := by rw [← size_eq]; exact hlt
      have hdr : s.data.toList.drop pos = s.data.toList.getD pos 0 :: s.data.toList.drop (pos + 1) := by
        rw [List.drop_eq_getElem_cons hltl, List.getD_eq_getElem?_getD, List.getElem?_eq_getElem hltl]; rfl
      cases hb : bB (s.data.toList.getD pos 0) with
      | true =>
        have hdec := dec_blank s pos hb
        have hp : blankP (s.data.toList.getD pos 0).toNat = true := hb
        simp only [spansFromP, if_pos hlt, hdec, hp, if_true]
        rw [hdr, bsplit, if_pos hb]
        cases st with
        | none =>
          have ih := spansP_eq s f (pos + 1) none acc (by omega) (by omega) (fun a h => by cases h)
          simpa [openPiece] using ih
        | some a =>
          have hpn := pieceU_ne s.data.toList a pos (hst a rfl) (by rw [← size_eq]; omega)
          have ih := spansP_eq s f (pos + 1) none (acc ++ [(a, pos)]) (by omega) (by omega) (fun a h => by cases h)
          simpa [openPiece, hpn] using ih
      | false =>
        obtain ⟨hnb, hall⟩ := dec_non s pos hb
        have hw := width_pos s pos
        have hwn : pos + (Utf8.decode s pos).2 ≤ s.size := by
          have := decodeN_le_n' (s.size - pos) (s.get! pos).toNat (s.get! (pos + 1)).toNat (s.get! (pos + 2)).toNat (s.get! (pos + 3)).toNat (by omega)
          rw [← decode_at] at this
          omega
        have hrun : ∀ cur, bsplit cur (s.data.toList.drop pos) = bsplit (cur ++ (s.data.toList.drop pos).take (Utf8.decode s pos).2) (s.data.toList.drop (pos + (Utf8.decode s pos).2)) := fun cur => by
          rw [← bsplit_run _ cur _ hall, ← List.drop_drop, List.take_append_drop]
        simp only [spansFromP, if_pos hlt, hnb, Bool.false_eq_true, if_false]
        rw [hrun]
        cases st with
        | none =>
          have ih := spansP_eq s f (pos + (Utf8.decode s pos).2) (some pos) acc (by omega) hwn (fun a h => by cases h; omega)
          have e : ([] : List UInt8) ++ (s.data.toList.drop pos).take (Utf8.decode s pos).2 = pieceU s.data.toList pos (pos + (Utf8.decode s pos).2) := by
            unfold pieceU
            rw [List.nil_append, Nat.add_sub_cancel_left]
          simp only [openPiece] at ih ⊢
          rw [e]
          exact ih
        | some a =>
          have ih := spansP_eq s f (pos + (Utf8.decode s pos).2) (some a) acc (by omega) hwn (fun b h => by cases h; have := hst a rfl; omega)
          simp only [openPiece] at ih ⊢
          rw [pieceU_grow _ _ _ _ (Nat.le_of_lt (hst a rfl))]
          exact ih
    · obtain rfl : pos = s.size := by omega
      have hd : s.data.toList.drop s.size = [] := List.drop_eq_nil_of_le (by rw [← size_eq]; exact Nat.le_refl _)
      rw [hd, bsplit, spansFromP_end blankP s _ _ _ _ hlt]
      cases st with
      | none => simp [closeSpans, openPiece]
      | some a =>
        have := pieceU_ne s.data.toList a s.size (hst a rfl) (by rw [← size_eq]; exact Nat.le_refl _)
        simp [closeSpans, openPiece, this]

theorem extract_piece (s : ByteArray) (a b : Nat) : (s.extract a b).data.toList = pieceU s.data.toList a b := by
  unfold pieceU
  rw [ByteArray.data_extract, Array.toList_extract, List.extract_eq_take_drop]

/-- The words that the program sees are the words of the bytes. -/
theorem fields_bytes (s : ByteArray) : (Lib.goFieldsP blankP s).map (·.data.toList) = bsplit [] s.data.toList := by
  have h := spansP_eq s s.size 0 none [] (by omega) (Nat.zero_le _) (fun a h => by cases h)
  simp only [List.map_nil, List.nil_append, openPiece, List.drop_zero] at h
  rw [h]
  unfold goFieldsP spansOfP
  rw [List.map_map]
  exact List.map_congr_left (fun p _ => extract_piece s p.1 p.2)

/-- Words: none is empty, in none is a blank. -/
def Wd (w : List UInt8) : Prop := w ≠ [] ∧ ∀ b ∈ w, bB b = false
theorem bsplit_words : ∀ (cur l : List UInt8), (∀ b ∈ cur, bB b = false) → ∀ w ∈ bsplit cur l, Wd w
  | cur, [], hc, w, hw => by
    rw [bsplit] at hw
    split at hw
    · cases hw
    · rename_i hn
      rw [List.mem_singleton] at hw
      subst hw
      exact ⟨hn, hc⟩
  | cur, b :: t, hc, w, hw => by
    rw [bsplit] at hw
    split at hw
    · split at hw
      · exact bsplit_words [] t (by simp) w hw
      · rename_i hn
        rcases List.mem_cons.1 hw with rfl | hw
        · exact ⟨hn, hc⟩
        · exact bsplit_words [] t (by simp) w hw
    · rename_i hb
      refine bsplit_words (cur ++ [b]) t (fun x hx => ?_) w hw
      rcases List.mem_append.1 hx with hx | hx
      · exact hc x hx
      · rw [List.mem_singleton] at hx; subst hx; simpa using hb
theorem bsplit_join : ∀ ws : List (List UInt8), (∀ w ∈ ws, Wd w) → bsplit [] (Lib.join ws [32]) = ws
  | [], _ => rfl
  | [w], h => by
    have hw := h w (List.mem_cons_self ..)
    have e : Lib.join [w] [32] = w ++ [] := by simp [Lib.join]
    rw [e, bsplit_run w [] [] hw.2, bsplit, List.nil_append, if_neg hw.1]
  | w :: u :: ws, h => by
    have hw := h w (List.mem_cons_self ..)
    have ih := bsplit_join (u :: ws) (fun x hx => h x (List.mem_cons_of_mem _ hx))
    have e : Lib.join (w :: u :: ws) [32] = w ++ (32 :: Lib.join (u :: ws) [32]) := by simp [Lib.join]
    rw [e, bsplit_run w [] _ hw.2, bsplit, if_pos (by rfl), List.nil_append, if_neg hw.1, ih]
theorem fields_join (ws : List ByteArray) (h : ∀ w ∈ ws, Wd w.data.toList) (t : ByteArray) (ht : t.data.toList = Lib.join (ws.map (·.data.toList)) [32]) : Lib.goFieldsP blankP t = ws := by
  have h1 := fields_bytes t
  rw [ht, bsplit_join _ (by intro w hw; obtain ⟨x, hx, rfl⟩ := List.mem_map.1 hw; exact h x hx)] at h1
  refine List.map_inj_right (fun a b hab => ?_) |>.1 h1
  cases a; cases b
  simp only [ByteArray.mk.injEq]
  exact Array.toList_inj.1 hab
end Go.Proofs.YtglcajijmkianaaDoor.A
namespace Go.Proofs.YtglcajijmkianaaDoor.A
open Go.RowKit Go.Proofs.YtglcajijmkianaaDoorW.PrintWords Go.Proofs.YtglcajijmkianaaDoorW.PrintLast Go.Proofs.YtglcajijmkianaaDoorW.PrintMore
open Go.Shelf Go.Lib Go.Sort
set_option linter.unusedVariables false
set_option linter.unusedSimpArgs false

/-! numerals -/
theorem u8_nat (n : Nat) (h : n < 256) : (UInt8.ofNat n).toNat = n := by rw [UInt8.toNat_ofNat']; omega
theorem len_two {α : Type} {l : List α} (h : l.length = 2) : ∃ a b, l = [a, b] := by
  match l, h with
  | [a, b], _ => exact ⟨a, b, rfl⟩
theorem len_one {α : Type} {l : List α} (h : l.length = 1) : ∃ a, l = [a] := by
  match l, h with
  | [a], _ => exact ⟨a, rfl⟩
theorem decDigits_parse : ∀ (u : Nat) (r : List UInt8), u < 18446744073709551616 → parseUint10 0 (decDigits u ++ r) = parseUint10 u r := by
  intro u
  induction u using Nat.strongRecOn with
  | _ u ih =>
  intro r hu
  rw [decDigits]
  split
  · rename_i h
    have e : (UInt8.ofNat (48 + u)).toNat = 48 + u := u8_nat _ (by omega)
    rw [List.cons_append, List.nil_append, parseUint10, e, if_pos (by omega), if_neg (by omega), if_neg (by omega)]
    congr 1; omega
  · rename_i h
    have e : (UInt8.ofNat (48 + u % 10)).toNat = 48 + u % 10 := u8_nat _ (by omega)
    rw [List.append_assoc, ih (u / 10) (by omega) _ (by omega), List.cons_append, List.nil_append, parseUint10, e, if_pos (by omega), if_neg (by omega), if_neg (by omega)]
    congr 1; omega
theorem decDigits_mem : ∀ (u : Nat), ∀ c ∈ decDigits u, 48 ≤ c.toNat ∧ c.toNat ≤ 57 := by
  intro u
  induction u using Nat.strongRecOn with
  | _ u ih =>
  intro c hc
  rw [decDigits] at hc
  split at hc
  · rw [List.mem_singleton] at hc
    subst hc
    rw [u8_nat _ (by omega)]; omega
  · rcases List.mem_append.1 hc with hc | hc
    · exact ih (u / 10) (by omega) c hc
    · rw [List.mem_singleton] at hc
      subst hc
      rw [u8_nat _ (by omega)]; omega
theorem decDigits_ne (u : Nat) : decDigits u ≠ [] := by
  rw [decDigits]
  split <;> simp
theorem parseMag_dec (u : Nat) (h : u < 18446744073709551616) : parseMag (decDigits u) = .ok u := by
  unfold parseMag
  rw [if_neg (decDigits_ne u)]
  have := decDigits_parse u [] h
  rw [List.append_nil] at this
  rw [this, parseUint10]
theorem atoi_itoa (n : Int) (h : in64 n) : parseIntB 64 (itoa n) = .ok n := by
  unfold in64 at h
  rw [parseIntB_64]
  unfold itoa
  split
  · rw [atoiAll_minus, parseMag_dec _ (by omega), signed, if_neg (by omega)]
    congr 1; omega
  · have hm := decDigits_mem n.toNat
    have hp := parseMag_dec n.toNat (by omega)
    cases hd : decDigits n.toNat with
    | nil => exact absurd hd (decDigits_ne _)
    | cons c r =>
      rw [hd] at hm hp
      have hc := hm c (List.mem_cons_self ..)
      rw [atoiAll_plain c r (by omega) (by omega), hp, signless, if_neg (by omega)]
      congr 1; omega
theorem itoa_mem (n : Int) : ∀ c ∈ itoa n, c.toNat = 45 ∨ (48 ≤ c.toNat ∧ c.toNat ≤ 57) := by
  intro c hc
  unfold itoa at hc
  split at hc
  · rcases List.mem_cons.1 hc with rfl | hc
    · exact .inl rfl
    · exact .inr (decDigits_mem _ c hc)
  · exact .inr (decDigits_mem _ c hc)
theorem itoa_ne (n : Int) : itoa n ≠ [] := by
  unfold itoa
  split
  · simp
  · exact decDigits_ne _
theorem itoaB_list (n : Int) : (itoaB n).data.toList = itoa n := rfl
theorem itoaB_wd (n : Int) : Wd (itoaB n).data.toList := by
  refine ⟨itoa_ne n, fun b hb => ?_⟩
  have := itoa_mem n b hb
  unfold bB blankP
  have h1 : (b.toNat == 32) = false := by simp; omega
  have h2 : (b.toNat == 9) = false := by simp; omega
  have h3 : (b.toNat == 10) = false := by simp; omega
  have h4 : (b.toNat == 13) = false := by simp; omega
  simp [h1, h2, h3, h4]
theorem numF_itoa (n : Int) (h : in64 n) : numF (itoaB n) = (n, true) := by
  unfold numF
  rw [itoaB_list, atoi_itoa n h]
  simp
theorem itoaB_head (n : Int) : ∃ c r, (itoaB n).toList = c :: r ∧ c.toNat ≠ 40 ∧ c.toNat ≠ 39 ∧ c.toNat ≠ 110 := by
  rw [ByteArray.toList_eq, itoaB_list]
  cases h : itoa n with
  | nil => exact absurd h (itoa_ne n)
  | cons c r =>
    have := itoa_mem n c (by rw [h]; exact List.mem_cons_self ..)
    exact ⟨c, r, rfl, by omega, by omega, by omega⟩
theorem itoaB_size (n : Int) (h : in64 n) : (itoaB n).size ≤ 21 := by
  unfold in64 at h
  have := itoa_length_le n h.1 h.2
  rw [size_eq, itoaB_list]
  exact this

/-! which queries may be -/
theorem everyO_one {p : S28 → Option Bool} {k : S28} (h : everyO p [k] = some true) : p k = some true := by
  unfold everyO anyO anyO notO at h
  cases hp : p k with
  | none => rw [hp] at h; simp at h
  | some b => rw [hp] at h; cases b <;> simp at h ⊢
theorem everyO_two {p : S28 → Option Bool} {k l : S28} (h : everyO p [k, l] = some true) : p k = some true ∧ p l = some true := by
  unfold everyO anyO anyO anyO notO at h
  cases hp : p k with
  | none => rw [hp] at h; simp at h
  | some b =>
    rw [hp] at h
    cases b
    · simp at h
    · cases hl : p l with
      | none => rw [hl] at h; simp at h
      | some b => rw [hl] at h; cases b <;> simp at h ⊢
theorem toList_nil {s : ByteArray} (h : s.toList.isEmpty = true) : s = ⟨#[]⟩ := by
  rw [ByteArray.toList_eq, List.isEmpty_iff] at h
  cases s with
  | mk d => simp only [ByteArray.mk.injEq]; exact Array.toList_inj.1 (by simpa using h)
theorem bareAsk_z {a : S25} (h : bareAsk a = true) : a = z25 := by
  obtain ⟨a0, a1, ⟨a2, a3, a4⟩⟩ := a
  unfold bareAsk at h
  simp only [Bool.and_eq_true, beq_iff_eq, Bool.not_eq_true'] at h
  obtain ⟨rfl, rfl, rfl, rfl, h⟩ := h
  rw [toList_nil h]
  rfl

theorem right_ways {n : Nat} {q : S28} (h : rightO (n + 1) q = some true) :
    (q.f0 = 1 ∧ q.f2 = [] ∧ rightAskF q.f1 = true) ∨ (q.f0 = 4 ∧ q.f1 = z25 ∧ ∃ k, q.f2 = [k] ∧ rightO n k = some true) ∨
    ((q.f0 = 2 ∨ q.f0 = 3) ∧ q.f1 = z25 ∧ ∃ k l, q.f2 = [k, l] ∧ rightO n k = some true ∧ rightO n l = some true) := by
  obtain ⟨op, a, ks⟩ := q
  unfold rightO at h
  simp only at h ⊢
  split at h
  · cases h
  split at h
  · cases h
  rename_i hk
  have hk : ks.length = kidsN op := Classical.byContradiction hk
  split at h
  · rename_i h1
    subst h1
    refine .inl ⟨rfl, List.eq_nil_of_length_eq_zero (by rw [hk]; rfl), Option.some.inj h⟩
  split at h
  · cases h
  rename_i h1 h0
  split at h
  · cases h
  rename_i hb
  have hb : a = z25 := bareAsk_z (by simpa using hb)
  have hw : op = 2 ∨ op = 3 ∨ op = 4 := by
    unfold kidsN at h0
    by_cases h2 : op = 2
    · exact .inl h2
    by_cases h3 : op = 3
    · exact .inr (.inl h3)
    by_cases h4 : op = 4
    · exact .inr (.inr h4)
    · rw [if_neg (by simp [h2, h3]), if_neg h4] at h0; exact absurd rfl h0
  rcases hw with rfl | rfl | rfl
  · obtain ⟨k, l, rfl⟩ := len_two (by rw [hk]; rfl)
    exact .inr (.inr ⟨.inl rfl, hb, k, l, rfl, everyO_two h⟩)
  · obtain ⟨k, l, rfl⟩ := len_two (by rw [hk]; rfl)
    exact .inr (.inr ⟨.inr rfl, hb, k, l, rfl, everyO_two h⟩)
  · obtain ⟨k, rfl⟩ := len_one (by rw [hk]; rfl)
    exact .inr (.inl ⟨rfl, hb, k, rfl, everyO_one h⟩)

theorem idxFunc_none (s : ByteArray) : ∀ (f pos : Nat), s.size ≤ pos + f → pos ≤ s.size → idxFuncFrom blankP true s f pos < 0 → ∀ b ∈ s.data.toList.drop pos, bB b = false
  | 0, pos, h, hp, hi => by
    have : pos = s.size := by omega
    rw [List.drop_eq_nil_of_le (by rw [← size_eq]; omega)]
    simp
  | f + 1, pos, h, hp, hi => by
    by_cases hlt : pos < s.size
    · have hltl : pos < s.data.toList.length := by rw [← size_eq]; exact hlt
      simp only [idxFuncFrom, if_pos hlt] at hi
      split at hi
      · omega
      rename_i hne
      have hb : bB (s.data.toList.getD pos 0) = false := by
        cases hx : bB (s.data.toList.getD pos 0) with
        | false => rfl
        | true => rw [dec_blank s pos hx] at hne; exact absurd hx hne
      obtain ⟨_, hall⟩ := dec_non s pos hb
      have hw := width_pos s pos
      have hwn : pos + (Utf8.decode s pos).2 ≤ s.size := by
        have := decodeN_le_n' (s.size - pos) (s.get! pos).toNat (s.get! (pos + 1)).toNat (s.get! (pos + 2)).toNat (s.get! (pos + 3)).toNat (by omega)
        rw [← decode_at] at this
        omega
      have ih := idxFunc_none s f (pos + (Utf8.decode s pos).2) (by omega) hwn hi
      intro b hm
      rw [← List.take_append_drop (Utf8.decode s pos).2 (s.data.toList.drop pos), List.drop_drop] at hm
      rcases List.mem_append.1 hm with hm | hm
      · exact hall b hm
      · exact ih b hm
    · rw [List.drop_eq_nil_of_le (by rw [← size_eq]; omega)]
      simp

theorem rightAsk_ways {a : S25} (h : rightAskF a = true) :
    (4 ≤ a.f0 ∧ a.f0 ≤ 5 ∧ 0 ≤ a.f1 ∧ a.f1 < 6 ∧ a.f2 = z23) ∨
    (1 ≤ a.f0 ∧ a.f0 < 4 ∧ 0 ≤ a.f1 ∧ a.f1 < 6 ∧ a.f2.f0 = false ∧ ((a.f2.f2.toList.isEmpty = true ∧ a.f2.f2 = ⟨#[]⟩) ∨ (a.f2.f2.toList.isEmpty = false ∧ a.f2.f1 = 0)) ∧ a.f2.f2.size ≤ 64 ∧ ∀ b ∈ a.f2.f2.data.toList, bB b = false) := by
  obtain ⟨a0, a1, ⟨a2, a3, a4⟩⟩ := a
  unfold rightAskF at h
  simp only at h ⊢
  split at h
  · cases h
  rename_i hr
  split at h
  · rename_i h4
    simp only [Bool.and_eq_true, beq_iff_eq, Bool.not_eq_true'] at h
    obtain ⟨rfl, rfl, h⟩ := h
    rw [toList_nil h]
    exact .inl ⟨h4, by omega, by omega, by omega, rfl⟩
  split at h
  · cases h
  rename_i h2
  split at h
  · cases h
  rename_i h3
  split at h
  · cases h
  rename_i h4
  refine .inr ⟨by omega, by omega, by omega, by omega, by simpa using h2, ?_, by omega, ?_⟩
  · cases he : a4.toList.isEmpty with
    | true => exact .inl ⟨rfl, toList_nil he⟩
    | false =>
      refine .inr ⟨rfl, ?_⟩
      by_cases h0 : a3 = 0
      · exact h0
      · exact absurd ⟨by simpa using h0, he⟩ h3
  · have h' : decide (0 ≤ idxFunc blankP true a4) = false := by simpa using h
    have h0 := of_decide_eq_false h'
    have h1 : idxFuncFrom blankP true a4 a4.size 0 < 0 := by unfold idxFunc at h0; omega
    have := idxFunc_none a4 a4.size 0 (by omega) (Nat.zero_le _) h1
    simpa using this
end Go.Proofs.YtglcajijmkianaaDoor.A
namespace Go.Proofs.YtglcajijmkianaaDoor.A
open Go.RowKit Go.Proofs.YtglcajijmkianaaDoorW.PrintWords Go.Proofs.YtglcajijmkianaaDoorW.PrintLast Go.Proofs.YtglcajijmkianaaDoorW.PrintMore
open Go.Shelf Go.Lib Go.Sort
set_option linter.unusedVariables false
set_option linter.unusedSimpArgs false

theorem nextF_cons (x : ByteArray) (l : List ByteArray) : nextF (x :: l) false = (x, l, false) := rfl
theorem isS_itoa (n : Int) : isS (itoaB n) [40] = false := by
  obtain ⟨c, r, h, h40, _⟩ := itoaB_head n
  unfold isS
  rw [h]
  refine decide_eq_false fun e => h40 ?_
  simp only [List.cons.injEq] at e
  rw [e.1]; rfl
theorem isS_itoa_not (n : Int) : isS (itoaB n) [110, 111, 116] = false := by
  obtain ⟨c, r, h, _, _, h110⟩ := itoaB_head n
  unfold isS
  rw [h]
  refine decide_eq_false fun e => h110 ?_
  simp only [List.cons.injEq] at e
  rw [e.1]; rfl
theorem isS_lit (l s : List UInt8) : isS ⟨l.toArray⟩ s = decide (l = s) := by
  unfold isS
  rw [show (⟨l.toArray⟩ : ByteArray).toList = l from by rw [ByteArray.toList_eq]]
theorem opOf_sign : ∀ i : Nat, 1 ≤ i → i ≤ 5 → opOf (signsL.getD i ⟨#[]⟩) = (i : Int) := by
  intro i h1 h5
  have t1 : (⟨#[61]⟩ : ByteArray).toList = [61] := by rw [ByteArray.toList_eq]
  have t2 : (⟨#[60]⟩ : ByteArray).toList = [60] := by rw [ByteArray.toList_eq]
  have t3 : (⟨#[62, 61]⟩ : ByteArray).toList = [62, 61] := by rw [ByteArray.toList_eq]
  have t4 : (⟨#[110, 117, 108, 108]⟩ : ByteArray).toList = [110, 117, 108, 108] := by rw [ByteArray.toList_eq]
  have t5 : (⟨#[118, 97, 108, 117, 101]⟩ : ByteArray).toList = [118, 97, 108, 117, 101] := by rw [ByteArray.toList_eq]
  match i, h1, h5 with
  | 1, _, _ => show opOf ⟨#[61]⟩ = 1; unfold opOf; rw [t1]; decide
  | 2, _, _ => show opOf ⟨#[60]⟩ = 2; unfold opOf; rw [t2]; decide
  | 3, _, _ => show opOf ⟨#[62, 61]⟩ = 3; unfold opOf; rw [t3]; decide
  | 4, _, _ => show opOf ⟨#[110, 117, 108, 108]⟩ = 4; unfold opOf; rw [t4]; decide
  | 5, _, _ => show opOf ⟨#[118, 97, 108, 117, 101]⟩ = 5; unfold opOf; rw [t5]; decide
theorem cutq (s : ByteArray) : ((⟨#[39]⟩ : ByteArray) ++ s).toList = 39 :: s.data.toList ∧ ((⟨#[39]⟩ : ByteArray) ++ s).size = 1 + s.size ∧ ((⟨#[39]⟩ : ByteArray) ++ s).extract 1 ((⟨#[39]⟩ : ByteArray) ++ s).size = s := by
  have hd : ((⟨#[39]⟩ : ByteArray) ++ s).data = #[39] ++ s.data := ByteArray.data_append
  have hs : ((⟨#[39]⟩ : ByteArray) ++ s).size = 1 + s.size := ByteArray.size_append
  refine ⟨by rw [ByteArray.toList_eq, hd]; simp, hs, ?_⟩
  have : (((⟨#[39]⟩ : ByteArray) ++ s).extract 1 ((⟨#[39]⟩ : ByteArray) ++ s).size).data.toList = s.data.toList := by
    rw [extract_piece, hd, hs]
    unfold pieceU
    rw [show 1 + s.size - 1 = s.data.toList.length from by rw [← size_eq]; omega]
    have e1 : ((#[39] : Array UInt8) ++ s.data).toList.drop 1 = s.data.toList := by simp
    rw [e1]
    exact List.take_length
  cases hx : (((⟨#[39]⟩ : ByteArray) ++ s).extract 1 ((⟨#[39]⟩ : ByteArray) ++ s).size) with
  | mk d =>
    rw [hx] at this
    cases s with
    | mk e => simp only [ByteArray.mk.injEq]; exact Array.toList_inj.1 this

/-- The words of an ask are read as it. -/
theorem ask_back {a : S25} (h : rightAskF a = true) (hn : in64 a.f2.f1) (rest : List ByteArray) :
    ∃ l, askWords a = itoaB a.f1 :: l ∧ askF (l ++ rest) false (itoaB a.f1) = (a, rest, false) := by
  obtain ⟨op, col, ⟨nul, num, txt⟩⟩ := a
  refine ⟨signsL.getD op.toNat ⟨#[]⟩ :: (if 4 ≤ op then [] else if txt.toList.isEmpty then [itoaB num] else [(⟨#[39]⟩ : ByteArray) ++ txt]), rfl, ?_⟩
  simp only at hn ⊢
  rcases rightAsk_ways h with ⟨h4, h5, c0, c6, hz⟩ | ⟨h1, h4, c0, c6, hf, hv, hsz, hb⟩
  · simp only at h4 h5 c0 c6 hz
    cases hz
    have hc : numF (itoaB col) = (col, true) := numF_itoa col ⟨by omega, by omega⟩
    have hop := opOf_sign op.toNat (by omega) (by omega)
    rw [show ((op.toNat : Nat) : Int) = op from by omega] at hop
    have d0 : decide (0 ≤ col) = true := decide_eq_true c0
    have d6 : decide (col < 6) = true := decide_eq_true c6
    have dop : decide (0 < op) = true := decide_eq_true (by omega)
    simp only [if_pos h4, List.append_nil, List.cons_append, List.nil_append, askF, hc, d0, d6, Bool.not_true, Bool.or_false, Bool.and_self, nextF_cons, hop, dop]
    rw [if_neg (by omega)]
  · simp only at h1 h4 c0 c6 hf hv hsz hb
    subst hf
    have hc : numF (itoaB col) = (col, true) := numF_itoa col ⟨by omega, by omega⟩
    have hop := opOf_sign op.toNat (by omega) (by omega)
    rw [show ((op.toNat : Nat) : Int) = op from by omega] at hop
    have d0 : decide (0 ≤ col) = true := decide_eq_true c0
    have d6 : decide (col < 6) = true := decide_eq_true c6
    have dop : decide (0 < op) = true := decide_eq_true (by omega)
    have n4 : ¬ 4 ≤ op := by omega
    have h03 : 0 < op ∧ op < 4 := ⟨by omega, by omega⟩
    rcases hv with ⟨he, rfl⟩ | ⟨he, rfl⟩
    · obtain ⟨c, r, hcr, _, h39, _⟩ := itoaB_head num
      have ht : ¬ (itoaB num).toList.take 1 = [39] := by
        rw [hcr]
        intro e
        simp only [List.take_succ_cons, List.take_zero, List.cons.injEq] at e
        exact h39 (by rw [e.1]; rfl)
      simp only [if_neg n4, he, if_true, List.cons_append, List.nil_append, askF, hc, d0, d6, Bool.not_true, Bool.or_false, Bool.and_self, nextF_cons, hop, dop, if_pos h03, if_neg ht, numF_itoa num hn]
    · obtain ⟨q1, q2, q3⟩ := cutq txt
      have ht : ((⟨#[39]⟩ : ByteArray) ++ txt).toList.take 1 = [39] := by rw [q1]; rfl
      have hne : 1 < ((⟨#[39]⟩ : ByteArray) ++ txt).size := by
        rw [q2]
        have : txt.size ≠ 0 := fun h0 => by
          rw [ByteArray.toList_eq, List.isEmpty_eq_false_iff] at he
          exact he (List.eq_nil_of_length_eq_zero (by rw [← size_eq]; exact h0))
        omega
      simp only [if_neg n4, he, Bool.false_eq_true, if_false, List.cons_append, List.nil_append, askF, hc, d0, d6, Bool.not_true, Bool.or_false, Bool.and_self, nextF_cons, hop, dop, if_pos h03, if_pos ht, q3, decide_eq_true hne]

/-- How many queries a query is of. -/
def szQ : Nat → S28 → Nat
  | 0, _ => 1
  | n + 1, q => 1 + (q.f2.map (szQ n)).sum

theorem wd_lit (l : List UInt8) (h : (decide (l ≠ []) && l.all (fun b => !bB b)) = true) : Wd (⟨l.toArray⟩ : ByteArray).data.toList := by
  simp only [Bool.and_eq_true, decide_eq_true_eq, List.all_eq_true, Bool.not_eq_true'] at h
  exact ⟨h.1, h.2⟩
theorem wd_quote {s : ByteArray} (h : ∀ b ∈ s.data.toList, bB b = false) : Wd ((⟨#[39]⟩ : ByteArray) ++ s).data.toList := by
  have e : ((⟨#[39]⟩ : ByteArray) ++ s).data.toList = 39 :: s.data.toList := by rw [← ByteArray.toList_eq]; exact (cutq s).1
  rw [e]
  refine ⟨by simp, fun b hb => ?_⟩
  rcases List.mem_cons.1 hb with rfl | hb
  · rfl
  · exact h b hb

/-- What a word is: a word, and short. -/
def Wk (w : ByteArray) : Prop := Wd w.data.toList ∧ w.size ≤ 65
theorem wk_lit (l : List UInt8) (h : (decide (l ≠ []) && l.all (fun b => !bB b)) = true) (hs : l.length ≤ 65) : Wk ⟨l.toArray⟩ := ⟨wd_lit l h, by rw [size_eq]; exact hs⟩
theorem wk_itoa (n : Int) (h : in64 n) : Wk (itoaB n) := ⟨itoaB_wd n, by have := itoaB_size n h; omega⟩
theorem wk_sign : ∀ i : Nat, 1 ≤ i → i ≤ 5 → Wk (signsL.getD i ⟨#[]⟩) := by
  intro i h1 h5
  match i, h1, h5 with
  | 1, _, _ => exact wk_lit [61] (by decide) (by decide)
  | 2, _, _ => exact wk_lit [60] (by decide) (by decide)
  | 3, _, _ => exact wk_lit [62, 61] (by decide) (by decide)
  | 4, _, _ => exact wk_lit [110, 117, 108, 108] (by decide) (by decide)
  | 5, _, _ => exact wk_lit [118, 97, 108, 117, 101] (by decide) (by decide)
theorem ask_words {a : S25} (h : rightAskF a = true) (hn : in64 a.f2.f1) : (∀ w ∈ askWords a, Wk w) ∧ (askWords a).length ≤ 5 := by
  obtain ⟨op, col, ⟨nul, num, txt⟩⟩ := a
  unfold askWords
  simp only at hn ⊢
  rcases rightAsk_ways h with ⟨h4, h5, c0, c6, hz⟩ | ⟨h1, h4, c0, c6, hf, hv, hsz, hb⟩
  · simp only at h4 h5 c0 c6 hz
    have w1 := wk_itoa col ⟨by omega, by omega⟩
    have w2 := wk_sign op.toNat (by omega) (by omega)
    rw [if_pos h4]
    refine ⟨fun w hw => ?_, by simp⟩
    simp only [List.append_nil, List.mem_cons, List.not_mem_nil, or_false] at hw
    rcases hw with rfl | rfl
    · exact w1
    · exact w2
  · simp only at h1 h4 c0 c6 hf hv hsz hb
    have w1 := wk_itoa col ⟨by omega, by omega⟩
    have w2 := wk_sign op.toNat (by omega) (by omega)
    rw [if_neg (by omega)]
    split
    · refine ⟨fun w hw => ?_, by simp⟩
      simp only [List.cons_append, List.nil_append, List.mem_cons, List.not_mem_nil, or_false] at hw
      rcases hw with rfl | rfl | rfl
      · exact w1
      · exact w2
      · exact wk_itoa num hn
    · refine ⟨fun w hw => ?_, by simp⟩
      simp only [List.cons_append, List.nil_append, List.mem_cons, List.not_mem_nil, or_false] at hw
      rcases hw with rfl | rfl | rfl
      · exact w1
      · exact w2
      · exact ⟨wd_quote hb, by rw [(cutq txt).2.1]; omega⟩

theorem wf_in {n : Int} (h : (Lit.int .i64 n).wf = true) : in64 n := by
  unfold in64
  have e0 : IntKind.i64.min = -9223372036854775808 := by rfl
  have e1 : IntKind.i64.max = 9223372036854775807 := by rfl
  simp only [Lit.wf, e0, e1, Bool.and_eq_true, decide_eq_true_eq] at h
  exact h
theorem words_back : ∀ (n m : Nat) (q : S28), rightO n q = some true → Gd28 m q → ∃ ws, wordsO n q = some ws ∧ (∀ w ∈ ws, Wk w) ∧ ws.length ≤ 5 * szQ n q ∧ (∃ x t, ws = x :: t ∧ isS x [110, 111, 116] = false) ∧ ∀ rest, queryF n (ws ++ rest) false = (q, rest, false)
  | 0, m, q, h, _ => by unfold rightO at h; split at h <;> cases h
  | n + 1, 0, q, h, hg => hg.elim
  | n + 1, m + 1, q, h, hg => by
    obtain ⟨op, a, ks⟩ := q
    obtain ⟨_, ⟨_, _, hN, _⟩, _, hks⟩ := hg
    rcases right_ways h with ⟨h1, h2, hr⟩ | ⟨h1, h2, k, h3, hk⟩ | ⟨h1, h2, k, l, h3, hk, hl⟩
    · simp only at h1 h2 hr hN
      subst h1; subst h2
      have hN := wf_in hN
      obtain ⟨w1, w2⟩ := ask_words hr hN
      obtain ⟨l, e, hb⟩ := ask_back hr hN []
      have hway : 1 ≤ a.f0 ∧ a.f0 ≤ 5 ∧ in64 a.f1 ∧ a.f2.f2.size ≤ 4096 := by
        rcases rightAsk_ways hr with ⟨h4, h5, c0, c6, hz⟩ | ⟨h1, h4, c0, c6, hf, hv, hsz, hb⟩
        · refine ⟨by omega, h5, ⟨by omega, by omega⟩, ?_⟩
          rw [hz]; exact Nat.zero_le _
        · exact ⟨h1, by omega, ⟨by omega, by omega⟩, by omega⟩
      refine ⟨askWords a, ?_, w1, ?_, ⟨_, _, e, isS_itoa_not _⟩, fun rest => ?_⟩
      · simp only [wordsO, if_true]
        rw [if_pos ⟨hway.2.2.1, hN, hway.1, hway.2.1, hway.2.2.2⟩]
      · simp only [szQ, List.map_nil, List.sum_nil]; omega
      · obtain ⟨l', e', hb'⟩ := ask_back hr hN rest
        rw [e'] 
        rw [List.cons_append, queryF_ask n (itoaB a.f1 :: (l' ++ rest)) false rfl (isS_itoa a.f1)]
        simp only [nextF_cons, hb']
    · simp only at h1 h2 h3
      subst h1; subst h2; subst h3
      obtain ⟨ws, e, hw, hlen, ⟨x, t, ex, hx⟩, hq⟩ := words_back n m k hk (hks k (List.mem_cons_self ..))
      refine ⟨[(⟨#[40]⟩ : ByteArray), ⟨#[110, 111, 116]⟩] ++ ws ++ [⟨#[41]⟩], ?_, ?_, ?_, ⟨_, _, rfl, by rw [isS_lit]; decide⟩, fun rest => ?_⟩
      · simp only [wordsO]
        rw [if_neg (by decide), if_pos (by decide), e]
        rfl
      · intro w hm
        simp only [List.cons_append, List.nil_append, List.mem_cons, List.mem_append, List.not_mem_nil, or_false] at hm
        rcases hm with rfl | rfl | hm | rfl
        · exact wk_lit [40] (by decide) (by decide)
        · exact wk_lit [110, 111, 116] (by decide) (by decide)
        · exact hw w hm
        · exact wk_lit [41] (by decide) (by decide)
      · simp only [szQ, List.map_cons, List.map_nil, List.sum_cons, List.sum_nil, List.length_append, List.length_cons, List.length_nil]; omega
      · have e1 : [(⟨#[40]⟩ : ByteArray), ⟨#[110, 111, 116]⟩] ++ ws ++ [⟨#[41]⟩] ++ rest = (⟨#[40]⟩ : ByteArray) :: ⟨#[110, 111, 116]⟩ :: (ws ++ ((⟨#[41]⟩ : ByteArray) :: rest)) := by simp
        rw [e1]
        have hnx := hq ((⟨#[41]⟩ : ByteArray) :: rest)
        rw [queryF_not n _ false _ _ rfl (by rw [nextF_cons, isS_lit]; decide) rfl (by rw [isS_lit]; decide)]
        simp only [nextF_cons, hnx, show isS (⟨#[41]⟩ : ByteArray) [41] = true from by rw [isS_lit]; decide]
        rfl
    · simp only at h1 h2 h3
      subst h2; subst h3
      obtain ⟨ws, e, hw, hlen, ⟨x, t, ex, hx⟩, hq⟩ := words_back n m k hk (hks k (by simp))
      obtain ⟨us, e2, hw2, hlen2, _, hq2⟩ := words_back n m l hl (hks l (by simp))
      have hwd : ∃ wd : ByteArray, (if op = 3 then (⟨#[111, 114]⟩ : ByteArray) else ⟨#[97, 110, 100]⟩) = wd ∧ Wk wd ∧ (isS wd [97, 110, 100] = true ∨ isS wd [111, 114] = true) ∧ (if isS wd [97, 110, 100] = true then (2 : Int) else 3) = op := by
        rcases h1 with rfl | rfl
        · exact ⟨⟨#[97, 110, 100]⟩, if_neg (by decide), wk_lit [97, 110, 100] (by decide) (by decide), .inl (by rw [isS_lit]; decide), by rw [isS_lit]; decide⟩
        · exact ⟨⟨#[111, 114]⟩, if_pos rfl, wk_lit [111, 114] (by decide) (by decide), .inr (by rw [isS_lit]; decide), by rw [isS_lit]; decide⟩
      obtain ⟨wd, hwd, kwd, hor, hop⟩ := hwd
      have hn1 : ¬ op = 1 := by omega
      have hn4 : ¬ op = 4 := by omega
      refine ⟨[(⟨#[40]⟩ : ByteArray)] ++ ws ++ [wd] ++ us ++ [⟨#[41]⟩], ?_, ?_, ?_, ⟨⟨#[40]⟩, ws ++ [wd] ++ us ++ [⟨#[41]⟩], by simp, by rw [isS_lit]; decide⟩, fun rest => ?_⟩
      · simp only [wordsO]
        rw [if_neg hn1, if_neg hn4, e, e2, hwd]
        rfl
      · intro w hm
        simp only [List.cons_append, List.nil_append, List.mem_cons, List.mem_append, List.not_mem_nil, or_false] at hm
        rcases hm with rfl | ((hm | rfl) | hm) | rfl
        · exact wk_lit [40] (by decide) (by decide)
        · exact hw w hm
        · exact kwd
        · exact hw2 w hm
        · exact wk_lit [41] (by decide) (by decide)
      · simp only [szQ, List.map_cons, List.map_nil, List.sum_cons, List.sum_nil, List.length_append, List.length_cons, List.length_nil]; omega
      · have e1 : [(⟨#[40]⟩ : ByteArray)] ++ ws ++ [wd] ++ us ++ [⟨#[41]⟩] ++ rest = (⟨#[40]⟩ : ByteArray) :: (ws ++ (wd :: (us ++ ((⟨#[41]⟩ : ByteArray) :: rest)))) := by simp
        rw [e1]
        have h1q := hq (wd :: (us ++ ((⟨#[41]⟩ : ByteArray) :: rest)))
        have h2q := hq2 ((⟨#[41]⟩ : ByteArray) :: rest)
        rw [queryF_two n _ false rfl (by rw [nextF_cons, isS_lit]; decide) (by rw [nextF_cons, ex]; exact hx)]
        simp only [nextF_cons, h1q, h2q, if_pos hor, hop, show isS (⟨#[41]⟩ : ByteArray) [41] = true from by rw [isS_lit]; decide]
        rfl
end Go.Proofs.YtglcajijmkianaaDoor.A
namespace Go.Proofs.YtglcajijmkianaaDoor.A
open Go.RowKit Go.Proofs.YtglcajijmkianaaDoorW.PrintWords Go.Proofs.YtglcajijmkianaaDoorW.PrintLast Go.Proofs.YtglcajijmkianaaDoorW.PrintMore
open Go.Shelf Go.Lib Go.Sort
set_option linter.unusedVariables false
set_option linter.unusedSimpArgs false

theorem notO_total {p : S28 → Option Bool} {x : S28} (h : ∃ b, p x = some b) : ∃ b, notO p x = some b := by
  obtain ⟨b, h⟩ := h
  exact ⟨!b, by simp [notO, h]⟩
theorem anyO_total {p : S28 → Option Bool} : ∀ xs : List S28, (∀ x ∈ xs, ∃ b, p x = some b) → ∃ b, anyO p xs = some b
  | [], _ => ⟨false, rfl⟩
  | x :: xs, h => by
    obtain ⟨b, hb⟩ := h x (List.mem_cons_self ..)
    obtain ⟨c, hc⟩ := anyO_total xs (fun y hy => h y (List.mem_cons_of_mem _ hy))
    cases b
    · exact ⟨c, by simp [anyO, hb, hc]⟩
    · exact ⟨true, by simp [anyO, hb]⟩
theorem right_total : ∀ (n m : Nat) (q : S28), Gd28 m q → ∃ b, rightO n q = some b
  | _, 0, q, h => h.elim
  | 0, m + 1, q, h => ⟨false, by unfold rightO; rw [if_neg (by show ¬ wf64 q.f0 = false; unfold wf64; rw [h.1]; decide)]⟩
  | n + 1, m + 1, q, h => by
    have hw : ¬ wf64 q.f0 = false := by unfold wf64; rw [h.1]; decide
    unfold rightO
    rw [if_neg hw]
    split
    · exact ⟨_, rfl⟩
    split
    · exact ⟨_, rfl⟩
    split
    · exact ⟨_, rfl⟩
    split
    · exact ⟨_, rfl⟩
    obtain ⟨b, hb⟩ := anyO_total (p := notO fun k => rightO n k) q.f2 (fun x hx => notO_total (right_total n m x (h.2.2.2 x hx)))
    exact ⟨!b, by simp [everyO, hb]⟩

theorem join_len (ws : List ByteArray) (h : ∀ w ∈ ws, w.size ≤ 65) : (Lib.join (ws.map (·.data.toList)) [32]).length ≤ 66 * ws.length := by
  induction ws with
  | nil => simp [Lib.join, List.intercalate]
  | cons w ws ih =>
    have hw := h w (List.mem_cons_self ..)
    rw [size_eq] at hw
    have ih := ih (fun x hx => h x (List.mem_cons_of_mem _ hx))
    cases ws with
    | nil =>
      have e : Lib.join ([w].map (·.data.toList)) [32] = w.data.toList := by simp [Lib.join]
      rw [e]
      simp only [List.length_cons, List.length_nil]
      omega
    | cons u us =>
      have e : Lib.join ((w :: u :: us).map (·.data.toList)) [32] = w.data.toList ++ (32 :: Lib.join ((u :: us).map (·.data.toList)) [32]) := by simp [Lib.join]
      rw [e, List.length_append, List.length_cons]
      simp only [List.length_cons] at ih ⊢
      omega

/-- A query of not too many: it may not be, and has no text; or its text is parsed as it. -/
theorem show_parse (m : Nat) (q : S28) (hg : Gd28 m q) (hs : szQ 50 q ≤ 8388608) :
    showF q = some (⟨#[]⟩, 4) ∨ ∃ s, showF q = some (s, 0) ∧ parseF s = some (q, 0) := by
  obtain ⟨b, hb⟩ := right_total 50 m q hg
  cases b with
  | false => exact .inl (by simp [showF, hb])
  | true =>
    refine .inr ?_
    obtain ⟨ws, e, hw, hlen, _, hq⟩ := words_back 50 m q hb hg
    have hl := join_len ws (fun w hx => (hw w hx).2)
    have ht : (⟨(Lib.join (ws.map (·.data.toList)) [32]).toArray⟩ : ByteArray).data.toList = Lib.join (ws.map (·.data.toList)) [32] := rfl
    have hsz : (⟨(Lib.join (ws.map (·.data.toList)) [32]).toArray⟩ : ByteArray).size = (Lib.join (ws.map (·.data.toList)) [32]).length := by rw [size_eq, ht]
    have hf : fieldsOf ⟨(Lib.join (ws.map (·.data.toList)) [32]).toArray⟩ = ws := fields_join ws (fun w hx => (hw w hx).1) _ ht
    have hq := hq []
    rw [List.append_nil] at hq
    refine ⟨⟨(Lib.join (ws.map (·.data.toList)) [32]).toArray⟩, ?_, ?_⟩
    · have hj : strings_Join.f ws ⟨#[32]⟩ = some ⟨(Lib.join (ws.map (·.data.toList)) [32]).toArray⟩ := by
        unfold strings_Join.f
        exact if_pos ⟨by omega, by show (Lib.join (ws.map (·.data.toList)) [32]).length ≤ _; omega⟩
      simp only [showF, hb, Option.bind_some, e]
      rw [if_neg (by decide), if_pos (by omega), hj]
      rfl
    · unfold parseF
      rw [hf, hq, hsz]
      rw [if_pos ⟨by omega, by omega, fun x hx => by have := (hw x hx).2; omega⟩]
      simp [hb]

/-! the document's Same, of one query -/
def sameAt (k : Nat) (p q : S28) : Option Bool := tithebarnref23_Same.f k p.f0 p.f1.f0 p.f1.f1 p.f1.f2.f0 p.f1.f2.f1 p.f1.f2.f2 p.f2 q.f0 q.f1.f0 q.f1.f1 q.f1.f2.f0 q.f1.f2.f1 q.f1.f2.f2 q.f2
theorem rd28_at' {xs : List S28} {i : Nat} (h : i < xs.length) : rd_T28 xs (i : Int) = xs[i] := by simp [rd_T28, h]
theorem wrap_succ' {n i : Nat} (h : n ≤ maxLen) (hi : i < n) : wrap64 ((i : Int) + 1) = ((i + 1 : Nat) : Int) := by unfold wrap64; unfold maxLen at h; omega
theorem same_l0 (a0 a1 a2 : Int) (a3 : Bool) (a4 : Int) (a5 : ByteArray) (xs : List S28) (hl : xs.length ≤ maxLen) (hv : ∀ x ∈ xs, Ev (fun k => sameAt k x x) true) : ∀ d i, xs.length - i ≤ d → i ≤ xs.length →
    Ev (fun k => tithebarnref23_Same.l0 k (i : Int) a0 a1 a2 a3 a4 a5 xs a0 a1 a2 a3 a4 a5 xs) true := by
  intro d
  induction d with
  | zero =>
    intro i hd hi
    refine Ev.step (f := fun _ => some true) (fun k => by simp only [tithebarnref23_Same.l0]; rw [if_neg (by omega)]) ?_
    exact Ev.now true
  | succ d ih =>
    intro i hd hi
    by_cases h : i < xs.length
    · refine Ev.step (f := fun k => (sameAt k xs[i] xs[i]).bind fun t => if t = true then tithebarnref23_Same.l0 k ((i + 1 : Nat) : Int) a0 a1 a2 a3 a4 a5 xs a0 a1 a2 a3 a4 a5 xs else some false) (fun k => by
        simp only [tithebarnref23_Same.l0]
        rw [if_pos (by omega), if_pos (by omega), if_pos (by omega), rd28_at' h, wrap_succ' hl h]; rfl) ?_
      refine Ev.bind (f := fun k t => if t = true then tithebarnref23_Same.l0 k ((i + 1 : Nat) : Int) a0 a1 a2 a3 a4 a5 xs a0 a1 a2 a3 a4 a5 xs else some false) (hv _ (List.getElem_mem h)) ?_
      exact ih (i + 1) (by omega) (by omega)
    · refine Ev.step (f := fun _ => some true) (fun k => by simp only [tithebarnref23_Same.l0]; rw [if_neg (by omega)]) ?_
      exact Ev.now true
theorem same_ev : ∀ (n : Nat) (q : S28), Gd28 n q → Ev (fun k => sameAt k q q) true
  | 0, _, h => h.elim
  | n + 1, q, h => by
    obtain ⟨_, _, hlen, hk⟩ := h
    refine Ev.step (f := fun k => tithebarnref23_Same.j0 k false q.f0 q.f1.f0 q.f1.f1 q.f1.f2.f0 q.f1.f2.f1 q.f1.f2.f2 q.f2 q.f0 q.f1.f0 q.f1.f1 q.f1.f2.f0 q.f1.f2.f1 q.f1.f2.f2 q.f2) (fun k => by
      simp [sameAt, tithebarnref23_Same.f]) ?_
    refine Ev.step (f := fun k => tithebarnref23_Same.l0 k 0 q.f0 q.f1.f0 q.f1.f1 q.f1.f2.f0 q.f1.f2.f1 q.f1.f2.f2 q.f2 q.f0 q.f1.f0 q.f1.f1 q.f1.f2.f0 q.f1.f2.f1 q.f1.f2.f2 q.f2) (fun k => by
      simp [tithebarnref23_Same.j0]) ?_
    exact same_l0 _ _ _ _ _ _ q.f2 hlen (fun x hx => same_ev n x (hk x hx)) q.f2.length 0 (by omega) (Nat.zero_le _)
end Go.Proofs.YtglcajijmkianaaDoor.A
namespace Go.Proofs.YtglcajijmkianaaDoor.A
open Go.RowKit Go.Proofs.YtglcajijmkianaaDoorW.PrintWords Go.Proofs.YtglcajijmkianaaDoorW.PrintLast Go.Proofs.YtglcajijmkianaaDoorW.PrintMore
open Go.Shelf Go.Lib Go.Sort
set_option linter.unusedVariables false
set_option linter.unusedSimpArgs false

theorem ba_ext {a b : ByteArray} (h : a.data.toList = b.data.toList) : a = b := by
  cases a; cases b
  simp only [ByteArray.mk.injEq]
  exact Array.toList_inj.1 h
def mkB (l : List UInt8) : ByteArray := ⟨l.toArray⟩
theorem mkB_list (l : List UInt8) : (mkB l).data.toList = l := rfl
/-- A text's words. -/
def wordsV (s : ByteArray) : List ByteArray := (bsplit [] s.data.toList).map mkB
theorem wordsV_list (s : ByteArray) : (wordsV s).map (·.data.toList) = bsplit [] s.data.toList := by
  unfold wordsV
  rw [List.map_map]
  conv => rhs; rw [← List.map_id (bsplit [] s.data.toList)]
  rfl

theorem bsplit_len : ∀ (cur l : List UInt8), (bsplit cur l).length ≤ cur.length + l.length ∧ ∀ w ∈ bsplit cur l, w.length ≤ cur.length + l.length
  | cur, [] => by
    rw [bsplit]
    split
    · exact ⟨Nat.zero_le _, fun w h => by cases h⟩
    · rename_i hn
      have : cur.length ≠ 0 := fun h => hn (List.eq_nil_of_length_eq_zero h)
      exact ⟨by simp only [List.length_cons, List.length_nil]; omega, fun w h => by rw [List.mem_singleton] at h; subst h; omega⟩
  | cur, b :: t => by
    rw [bsplit]
    have h0 := bsplit_len [] t
    have h1 := bsplit_len (cur ++ [b]) t
    simp only [List.length_nil, List.length_append, List.length_cons] at h0 h1 ⊢
    split
    · split
      · exact ⟨by omega, fun w h => by have := h0.2 w h; omega⟩
      · rename_i hn
        have : cur.length ≠ 0 := fun h => hn (List.eq_nil_of_length_eq_zero h)
        refine ⟨by simp only [List.length_cons]; omega, fun w h => ?_⟩
        rcases List.mem_cons.1 h with rfl | h
        · omega
        · have := h0.2 w h; omega
    · exact ⟨by omega, fun w h => by have := h1.2 w h; omega⟩

theorem bt_at_list (s : ByteArray) (i : Nat) (h : i < s.size) : bt s (i : Int) = ((s.data.toList.getD i 0).toNat : Int) := by
  rw [bt_lt s i h, List.getD_eq_getElem?_getD, List.getElem?_eq_getElem (by rw [← size_eq]; exact h)]
  rfl
theorem extract_mk (s : ByteArray) (a b : Nat) : s.extract a b = mkB (pieceU s.data.toList a b) := ba_ext (by rw [extract_piece, mkB_list])
theorem piece_nil (l : List UInt8) (a : Nat) : pieceU l a a = [] := by simp [pieceU]
theorem bB_ways (b : UInt8) : (bB b = true ∧ ((b.toNat : Int) = 32 ∨ (b.toNat : Int) = 9 ∨ (b.toNat : Int) = 10 ∨ (b.toNat : Int) = 13)) ∨ (bB b = false ∧ ¬ (b.toNat : Int) = 32 ∧ ¬ (b.toNat : Int) = 9 ∧ ¬ (b.toNat : Int) = 10 ∧ ¬ (b.toNat : Int) = 13) := by
  unfold bB blankP
  cases h1 : (b.toNat == 32) <;> cases h2 : (b.toNat == 9) <;> cases h3 : (b.toNat == 10) <;> cases h4 : (b.toNat == 13) <;> simp at h1 h2 h3 h4 ⊢ <;> omega

/-- What becomes of the words at a place where one may end. -/
theorem words_j1 (s : ByteArray) (hs : s.size ≤ 4294967296) (acc : List ByteArray) (a i : Nat) (R : List ByteArray) (hi : i ≤ s.size) (ha : a ≤ i) (hacc : acc.length ≤ i)
    (h0 : pieceU s.data.toList a i = [] → Ev (fun k => tithebarnref23_Words.l0 k s acc ((i + 1 : Nat) : Int) ((i + 1 : Nat) : Int)) (acc ++ R))
    (h1 : pieceU s.data.toList a i ≠ [] → Ev (fun k => tithebarnref23_Words.l0 k s (acc ++ [mkB (pieceU s.data.toList a i)]) ((i + 1 : Nat) : Int) ((i + 1 : Nat) : Int)) (acc ++ [mkB (pieceU s.data.toList a i)] ++ R)) :
    Ev (fun k => tithebarnref23_Words.j1 k s acc (a : Int) (i : Int) true) (acc ++ (if pieceU s.data.toList a i = [] then R else mkB (pieceU s.data.toList a i) :: R)) := by
  have hw : wrap64 ((i : Int) + 1) = ((i + 1 : Nat) : Int) := by unfold wrap64; omega
  by_cases h : a < i
  · have hne := pieceU_ne s.data.toList a i h (by rw [← size_eq]; exact hi)
    rw [if_neg hne]
    refine Ev.step (f := fun k => tithebarnref23_Words.l0 k s (acc ++ [mkB (pieceU s.data.toList a i)]) ((i + 1 : Nat) : Int) ((i + 1 : Nat) : Int)) (fun k => by
      simp only [tithebarnref23_Words.j1]
      rw [if_pos trivial, if_pos (by omega), if_pos (by omega), if_pos (by omega), if_pos (by omega), if_pos (by omega), hw]
      simp only [Int.toNat_natCast, extract_mk]) ?_
    have := h1 hne
    simpa using this
  · obtain rfl : a = i := by omega
    rw [piece_nil] at h0 ⊢
    rw [if_pos rfl]
    refine Ev.step (f := fun k => tithebarnref23_Words.l0 k s acc ((a + 1 : Nat) : Int) ((a + 1 : Nat) : Int)) (fun k => by
      simp only [tithebarnref23_Words.j1]
      rw [if_pos trivial, if_neg (by omega), hw]) ?_
    exact h0 rfl
theorem words_l0 (s : ByteArray) (hs : s.size ≤ 4294967296) : ∀ (d i a : Nat) (acc : List ByteArray), s.size - i ≤ d → i ≤ s.size → a ≤ i → acc.length ≤ i →
    Ev (fun k => tithebarnref23_Words.l0 k s acc (a : Int) (i : Int)) (acc ++ (bsplit (pieceU s.data.toList a i) (s.data.toList.drop i)).map mkB) := by
  have hend : ∀ (acc : List ByteArray) (a i : Nat), i = s.size → a ≤ i → acc.length ≤ i → Ev (fun k => tithebarnref23_Words.l0 k s acc (a : Int) (i : Int)) (acc ++ (bsplit (pieceU s.data.toList a i) (s.data.toList.drop i)).map mkB) := by
    intro acc a i hi ha hacc
    rw [List.drop_eq_nil_of_le (by rw [← size_eq]; omega), bsplit]
    refine Ev.step (f := fun k => tithebarnref23_Words.j1 k s acc (a : Int) (i : Int) true) (fun k => by
      simp only [tithebarnref23_Words.l0]
      rw [if_pos (by omega), if_pos (by omega)]) ?_
    have hdone : ∀ acc : List ByteArray, Ev (fun k => tithebarnref23_Words.l0 k s acc ((i + 1 : Nat) : Int) ((i + 1 : Nat) : Int)) acc := fun acc =>
      Ev.step (f := fun _ => some acc) (fun k => by simp only [tithebarnref23_Words.l0]; rw [if_neg (by omega)]) (Ev.now acc)
    have := words_j1 s hs acc a i [] (by omega) ha hacc (fun _ => by simpa using hdone acc) (fun _ => by simpa using hdone _)
    by_cases hp : pieceU s.data.toList a i = []
    · rw [if_pos hp] at this ⊢; exact this
    · rw [if_neg hp] at this ⊢; exact this
  intro d
  induction d with
  | zero => intro i a acc hd hi ha hacc; exact hend acc a i (by omega) ha hacc
  | succ d ih =>
    intro i a acc hd hi ha hacc
    by_cases h : i < s.size
    · have hltl : i < s.data.toList.length := by rw [← size_eq]; exact h
      have hdr : s.data.toList.drop i = s.data.toList.getD i 0 :: s.data.toList.drop (i + 1) := by
        rw [List.drop_eq_getElem_cons hltl, List.getD_eq_getElem?_getD, List.getElem?_eq_getElem hltl]; rfl
      have hb := bt_at_list s i h
      rw [hdr, bsplit]
      rcases bB_ways (s.data.toList.getD i 0) with ⟨hB, hv⟩ | ⟨hB, n1, n2, n3, n4⟩
      · rw [if_pos hB]
        refine Ev.step (f := fun k => tithebarnref23_Words.j1 k s acc (a : Int) (i : Int) true) (fun k => by
          simp only [tithebarnref23_Words.l0]
          rw [if_pos (by omega), if_neg (by omega), if_pos (by omega), if_pos (by omega), hb]
          rcases hv with hv | hv | hv | hv <;> rw [hv] <;> rfl) ?_
        have := words_j1 s hs acc a i ((bsplit [] (s.data.toList.drop (i + 1))).map mkB) hi ha hacc
          (fun _ => by have := ih (i + 1) (i + 1) acc (by omega) (by omega) (by omega) (by omega); rwa [piece_nil] at this)
          (fun _ => by have := ih (i + 1) (i + 1) (acc ++ [mkB (pieceU s.data.toList a i)]) (by omega) (by omega) (by omega) (by simp only [List.length_append, List.length_cons, List.length_nil]; omega); rwa [piece_nil] at this)
        by_cases hp : pieceU s.data.toList a i = []
        · rw [if_pos hp] at this ⊢; exact this
        · rw [if_neg hp] at this ⊢; rw [List.map_cons]; exact this
      · rw [if_neg (by rw [hB]; simp)]
        have hg : pieceU s.data.toList a i ++ [s.data.toList.getD i 0] = pieceU s.data.toList a (i + 1) := by
          rw [← pieceU_grow s.data.toList a i 1 ha, hdr]; rfl
        rw [hg]
        refine Ev.step (f := fun k => tithebarnref23_Words.j1 k s acc (a : Int) (i : Int) false) (fun k => by
          simp only [tithebarnref23_Words.l0]
          rw [if_pos (by omega), if_neg (by omega), if_pos (by omega), if_pos (by omega), hb, if_neg n1, if_neg n2, if_neg n3]
          congr 1
          exact beq_eq_false_iff_ne.2 n4) ?_
        have hw : wrap64 ((i : Int) + 1) = ((i + 1 : Nat) : Int) := by unfold wrap64; omega
        refine Ev.step (f := fun k => tithebarnref23_Words.l0 k s acc (a : Int) ((i + 1 : Nat) : Int)) (fun k => by
          simp only [tithebarnref23_Words.j1]
          rw [if_neg (by decide), hw]) ?_
        exact ih (i + 1) a acc (by omega) (by omega) (by omega) (by omega)
    · exact hend acc a i (by omega) ha hacc
theorem words_ev (s : ByteArray) (hs : s.size ≤ 4294967296) : Ev (fun k => tithebarnref23_Words.f k s) (wordsV s) := by
  have h := words_l0 s hs s.size 0 0 [] (by omega) (Nat.zero_le _) (Nat.le_refl _) (Nat.zero_le _)
  rw [piece_nil, List.drop_zero, List.nil_append] at h
  exact h
theorem same5_l0 (xs : List ByteArray) (hl : xs.length ≤ 4294967296) : ∀ d i, xs.length - i ≤ d → i ≤ xs.length → Ev (fun k => tithebarnref05_Same.l0 k xs xs (i : Int)) true := by
  intro d
  induction d with
  | zero => intro i hd hi; exact Ev.step (f := fun _ => some true) (fun k => by simp only [tithebarnref05_Same.l0]; rw [if_neg (by omega)]) (Ev.now true)
  | succ d ih =>
    intro i hd hi
    by_cases h : i < xs.length
    · have hw : wrap64 ((i : Int) + 1) = ((i + 1 : Nat) : Int) := by unfold wrap64; omega
      refine Ev.step (f := fun k => tithebarnref05_Same.l0 k xs xs ((i + 1 : Nat) : Int)) (fun k => by
        simp only [tithebarnref05_Same.l0]
        rw [if_pos (by omega), if_pos (by omega), if_pos (by omega), if_pos trivial, hw]) ?_
      exact ih (i + 1) (by omega) (by omega)
    · exact Ev.step (f := fun _ => some true) (fun k => by simp only [tithebarnref05_Same.l0]; rw [if_neg (by omega)]) (Ev.now true)
theorem same5_ev (xs : List ByteArray) (hl : xs.length ≤ 4294967296) : Ev (fun k => tithebarnref05_Same.f k xs xs) true := by
  have h := same5_l0 xs hl xs.length 0 (by omega) (Nat.zero_le _)
  obtain ⟨K, hK⟩ := h
  exact ⟨K, fun k hk => by have := hK k hk; simp only [tithebarnref05_Same.f, if_true]; exact this⟩
end Go.Proofs.YtglcajijmkianaaDoor.A
namespace Go.Proofs.YtglcajijmkianaaDoor.A
open Go.RowKit Go.Proofs.YtglcajijmkianaaDoorW.PrintWords Go.Proofs.YtglcajijmkianaaDoorW.PrintLast Go.Proofs.YtglcajijmkianaaDoorW.PrintMore
open Go.Shelf Go.Lib Go.Sort
set_option linter.unusedVariables false
set_option linter.unusedSimpArgs false

theorem nextF_ok {l : List ByteArray} {bad : Bool} (h : (nextF l bad).2.2 = false) : bad = false ∧ ∃ x xs, l = x :: xs ∧ nextF l bad = (x, xs, false) := by
  unfold nextF at h ⊢
  cases bad with
  | true => simp at h
  | false =>
    cases l with
    | nil => simp at h
    | cons x xs => exact ⟨rfl, x, xs, rfl, rfl⟩
theorem isS_mk {w : ByteArray} {s : List UInt8} (h : isS w s = true) : w = ⟨s.toArray⟩ := by
  unfold isS at h
  have := of_decide_eq_true h
  rw [ByteArray.toList_eq] at this
  exact ba_ext this
theorem numF_inv {w : ByteArray} (h : (numF w).2 = true) : w = itoaB (numF w).1 := by
  unfold numF at h ⊢
  split at h
  · rename_i v hv
    simp only at h ⊢
    rw [hv] at *
    exact ba_ext (of_decide_eq_true h).symm
  · cases h
  · cases h
theorem opOf_inv {w : ByteArray} {op : Int} (h : opOf w = op) (h0 : 0 < op) : w = signsL.getD op.toNat ⟨#[]⟩ := by
  unfold opOf at h
  have hb : ∀ s : List UInt8, w.toList = s → w = ⟨s.toArray⟩ := fun s hs => by rw [ByteArray.toList_eq] at hs; exact ba_ext hs
  repeat' split at h
  · omega
  · rename_i hs; subst h; exact hb _ hs
  · rename_i hs; subst h; exact hb _ hs
  · rename_i hs; subst h; exact hb _ hs
  · rename_i hs; subst h; exact hb _ hs
  · rename_i hs; subst h; exact hb _ hs
  · omega
theorem quote_inv {w : ByteArray} (h : w.toList.take 1 = [39]) : w = (⟨#[39]⟩ : ByteArray) ++ w.extract 1 w.size := by
  apply ba_ext
  rw [← ByteArray.toList_eq (bs := (⟨#[39]⟩ : ByteArray) ++ _), (cutq _).1, extract_piece]
  rw [ByteArray.toList_eq] at h
  unfold pieceU
  cases hl : w.data.toList with
  | nil => rw [hl] at h; simp at h
  | cons c r =>
    rw [hl] at h
    simp only [List.take_succ_cons, List.take_zero, List.cons.injEq, and_true] at h
    subst h
    have : w.size = r.length + 1 := by rw [size_eq, hl]; rfl
    rw [this]
    simp

theorem triple {α β : Type} {t : α × β × Bool} (h : t.2.2 = false) : t = (t.1, t.2.1, false) := by
  obtain ⟨a, b, c⟩ := t
  cases h
  rfl
theorem bad_of {a b : Bool} (h : (a || b) = false) : a = false ∧ b = false := by cases a <;> cases b <;> simp at h ⊢

/-- An ask that was read has just the words that it was read of. -/
theorem ask_inv {l : List ByteArray} {col : ByteArray} {a : S25} {rest : List ByteArray} (h : askF l false col = (a, rest, false)) : col :: l = askWords a ++ rest := by
  unfold askF at h
  simp only at h
  by_cases hop : 0 < opOf (nextF l ((false || !(numF col).2) || !(decide (0 ≤ (numF col).1) && decide ((numF col).1 < 6)))).1 ∧ opOf (nextF l ((false || !(numF col).2) || !(decide (0 ≤ (numF col).1) && decide ((numF col).1 < 6)))).1 < 4
  · rw [if_pos hop] at h
    split at h
    · rename_i hq
      simp only [Prod.mk.injEq] at h
      obtain ⟨rfl, rfl, h3⟩ := h
      obtain ⟨h3, h4⟩ := bad_of h3
      obtain ⟨hb, w, l2, e2, en2⟩ := nextF_ok h3
      obtain ⟨hb, _⟩ := bad_of hb
      obtain ⟨hb, s, l1, e1, en1⟩ := nextF_ok hb
      obtain ⟨hb, _⟩ := bad_of hb
      obtain ⟨_, hb⟩ := bad_of hb
      have hn : (numF col).2 = true := by simpa using hb
      rw [en2] at hq h4 ⊢
      rw [en1] at hop e2 ⊢
      simp only at hq h4 hop e2 ⊢
      have hne : ((w.extract 1 w.size).toList.isEmpty) = false := by
        have h1 : 1 < w.size := by simpa using h4
        rw [ByteArray.toList_eq, List.isEmpty_eq_false_iff]
        intro h0
        have := congrArg List.length h0
        rw [← size_eq, ByteArray.size_extract] at this
        simp at this
        omega
      unfold askWords
      simp only
      rw [if_neg (by omega), hne, if_neg (by decide), ← quote_inv hq, ← numF_inv hn, ← opOf_inv rfl hop.1, e1, e2]
      rfl
    · rename_i hq
      simp only [Prod.mk.injEq] at h
      obtain ⟨rfl, rfl, h3⟩ := h
      obtain ⟨h3, h4⟩ := bad_of h3
      obtain ⟨hb, w, l2, e2, en2⟩ := nextF_ok h3
      obtain ⟨hb, _⟩ := bad_of hb
      obtain ⟨hb, s, l1, e1, en1⟩ := nextF_ok hb
      obtain ⟨hb, _⟩ := bad_of hb
      obtain ⟨_, hb⟩ := bad_of hb
      have hn : (numF col).2 = true := by simpa using hb
      rw [en2] at hq h4 ⊢
      rw [en1] at hop e2 ⊢
      simp only at hq h4 hop e2 ⊢
      have hn2 : (numF w).2 = true := by simpa using h4
      unfold askWords
      simp only
      rw [if_neg (by omega), show ((⟨#[]⟩ : ByteArray).toList.isEmpty) = true from by rw [ByteArray.toList_eq]; rfl, if_pos rfl, ← numF_inv hn2, ← numF_inv hn, ← opOf_inv rfl hop.1, e1, e2]
      rfl
  · rw [if_neg hop] at h
    simp only [Prod.mk.injEq] at h
    obtain ⟨rfl, rfl, h3⟩ := h
    obtain ⟨h3, h4⟩ := bad_of h3
    obtain ⟨hb, s, l1, e1, en1⟩ := nextF_ok h3
    obtain ⟨hb, _⟩ := bad_of hb
    obtain ⟨_, hb⟩ := bad_of hb
    have hn : (numF col).2 = true := by simpa using hb
    rw [en1] at hop h4 ⊢
    simp only at hop h4 ⊢
    have h0 : 0 < opOf s := by simpa using h4
    unfold askWords
    simp only
    rw [if_pos (by omega), ← numF_inv hn, ← opOf_inv rfl h0, e1]
    rfl

/-- A query that was read, and may be, has just the words that it was read of. -/
theorem words_inv : ∀ (n m : Nat) (l : List ByteArray) (q : S28) (rest : List ByteArray), queryF n l false = (q, rest, false) → rightO n q = some true → Gd28 m q → ∃ ws, wordsO n q = some ws ∧ l = ws ++ rest
  | 0, m, l, q, rest, h, hr, hg => by unfold rightO at hr; split at hr <;> cases hr
  | n + 1, 0, l, q, rest, h, hr, hg => hg.elim
  | n + 1, m + 1, l, q, rest, h, hr, hg => by
    obtain ⟨_, ⟨_, _, hN, _⟩, _, hks⟩ := hg
    have hN := wf_in hN
    by_cases hnx : (nextF l false).2.2 = true
    · rw [queryF_stop (n + 1) l false (.inl hnx)] at h
      simp at h
    have hnx : (nextF l false).2.2 = false := by simpa using hnx
    obtain ⟨_, x, l1, rfl, _⟩ := nextF_ok hnx
    cases h40 : isS x [40] with
    | false =>
      rw [queryF_ask n (x :: l1) false rfl h40] at h
      simp only [nextF_cons, Prod.mk.injEq] at h
      obtain ⟨rfl, hrest, hbad⟩ := h
      have ha := ask_inv (l := l1) (col := x) (a := (askF l1 false x).1) (rest := rest) (by rw [← hrest]; exact triple hbad)
      rcases right_ways hr with ⟨_, _, hra⟩ | ⟨h1, _⟩ | ⟨h1, _⟩
      · simp only at hra hN
        have hway : 1 ≤ (askF l1 false x).1.f0 ∧ (askF l1 false x).1.f0 ≤ 5 ∧ in64 (askF l1 false x).1.f1 ∧ (askF l1 false x).1.f2.f2.size ≤ 4096 := by
          rcases rightAsk_ways hra with ⟨h4, h5, c0, c6, hz⟩ | ⟨h1, h4, c0, c6, hf, hv, hsz, hb⟩
          · refine ⟨by omega, h5, ⟨by omega, by omega⟩, ?_⟩
            rw [hz]; exact Nat.zero_le _
          · exact ⟨h1, by omega, ⟨by omega, by omega⟩, by omega⟩
        refine ⟨askWords (askF l1 false x).1, ?_, ha⟩
        simp only [wordsO, if_true]
        rw [if_pos ⟨hway.2.2.1, hN, hway.1, hway.2.1, hway.2.2.2⟩]
      · simp at h1
      · simp at h1
    | true =>
      have hx := isS_mk h40
      cases hm : (match l1 with | [] => false | x :: _ => isS x [110, 111, 116]) with
      | true =>
        cases l1 with
        | nil => simp at hm
        | cons y l2 =>
          have hy : isS y [110, 111, 116] = true := hm
          rw [queryF_not n (x :: y :: l2) false y l2 rfl h40 rfl hy] at h
          simp only [Prod.mk.injEq] at h
          obtain ⟨rfl, hrest, hbad⟩ := h
          obtain ⟨hb3, hcl⟩ := bad_of hbad
          obtain ⟨hkb, z, l4, e4, en4⟩ := nextF_ok hb3
          rw [en4] at hrest hcl
          simp only at hrest hcl
          subst hrest
          have hz := isS_mk (w := z) (s := [41]) (by simpa using hcl)
          rcases right_ways hr with ⟨h1, _⟩ | ⟨_, _, k, hk, hrk⟩ | ⟨h1, _⟩
          · simp at h1
          · simp only [List.cons.injEq, and_true] at hk
            subst hk
            obtain ⟨ws, e, el⟩ := words_inv n m l2 _ _ (triple hkb) hrk (hks _ (by simp))
            refine ⟨[(⟨#[40]⟩ : ByteArray), ⟨#[110, 111, 116]⟩] ++ ws ++ [⟨#[41]⟩], ?_, ?_⟩
            · simp only [wordsO]
              rw [if_neg (by decide), if_pos (by decide), e]
              rfl
            · rw [hx, isS_mk hy, el, e4, hz]
              simp
          · simp at h1
      | false =>
        rw [queryF_two n (x :: l1) false rfl h40 hm] at h
        dsimp only [nextF_cons] at h
        cases hr2 : (nextF (queryF n l1 false).2.1 (queryF n l1 false).2.2).2.2 with
        | true =>
          by_cases hor : isS (nextF (queryF n l1 false).2.1 (queryF n l1 false).2.2).1 [97, 110, 100] = true ∨ isS (nextF (queryF n l1 false).2.1 (queryF n l1 false).2.2).1 [111, 114] = true
          · rw [if_pos hor, hr2, queryF_stop n _ true (.inl rfl)] at h
            simp [nextF] at h
          · rw [if_neg hor] at h
            simp at h
        | false =>
          obtain ⟨hkb, wd, l3, e3, en3⟩ := nextF_ok hr2
          rw [en3] at h
          dsimp only at h
          by_cases hor : isS wd [97, 110, 100] = true ∨ isS wd [111, 114] = true
          · rw [if_pos hor] at h
            simp only [Prod.mk.injEq] at h
            obtain ⟨rfl, hrest, hbad⟩ := h
            obtain ⟨hb3, hcl⟩ := bad_of hbad
            obtain ⟨hkb2, z, l4, e4, en4⟩ := nextF_ok hb3
            rw [en4] at hrest hcl
            simp only at hrest hcl
            subst hrest
            have hz := isS_mk (w := z) (s := [41]) (by simpa using hcl)
            rcases right_ways hr with ⟨h1, _⟩ | ⟨h1, _⟩ | ⟨_, _, k, k2, hk, hrk, hrk2⟩
            · simp only at h1; split at h1 <;> simp at h1
            · simp only at h1; split at h1 <;> simp at h1
            · simp only [List.cons.injEq, and_true] at hk
              obtain ⟨hk, hk2⟩ := hk
              subst hk; subst hk2
              obtain ⟨ws, e, el⟩ := words_inv n m l1 _ _ (triple hkb) hrk (hks _ (by simp))
              obtain ⟨us, e2, el2⟩ := words_inv n m l3 _ _ (triple hkb2) hrk2 (hks _ (by simp))
              refine ⟨[(⟨#[40]⟩ : ByteArray)] ++ ws ++ [wd] ++ us ++ [⟨#[41]⟩], ?_, ?_⟩
              · simp only [wordsO]
                rcases hor with ho | ho
                · have hwd := isS_mk ho
                  rw [show (if isS wd [97, 110, 100] = true then (2 : Int) else 3) = 2 from if_pos ho, if_neg (by decide), if_neg (by decide), e, if_neg (by decide), hwd]
                  simp only [Option.bind_some, e2]
                  rfl
                · have hwd := isS_mk ho
                  have hno : isS wd [97, 110, 100] = false := by rw [hwd, isS_lit]; decide
                  rw [show (if isS wd [97, 110, 100] = true then (2 : Int) else 3) = 3 from if_neg (by rw [hno]; decide), if_neg (by decide), if_neg (by decide), e, if_pos rfl, hwd]
                  simp only [Option.bind_some, e2]
                  rfl
              · rw [hx, el, e3, el2, e4, hz]
                simp
          · rw [if_neg hor] at h
            simp at h
end Go.Proofs.YtglcajijmkianaaDoor.A
namespace Go.Proofs.YtglcajijmkianaaDoor.A
open Go.RowKit Go.Proofs.YtglcajijmkianaaDoorW.PrintWords Go.Proofs.YtglcajijmkianaaDoorW.PrintLast Go.Proofs.YtglcajijmkianaaDoorW.PrintMore
open Go.Shelf Go.Lib Go.Sort
set_option linter.unusedVariables false
set_option linter.unusedSimpArgs false

theorem in_wf {n : Int} (h : in64 n) : (Lit.int .i64 n).wf = true := by
  have e0 : IntKind.i64.min = -9223372036854775808 := by rfl
  have e1 : IntKind.i64.max = 9223372036854775807 := by rfl
  simp only [Lit.wf, e0, e1, Bool.and_eq_true, decide_eq_true_eq]
  exact h
theorem numF_in (w : ByteArray) : in64 (numF w).1 := by
  unfold numF in64
  split
  · rename_i v hv
    have := parseIntB_bounds hv
    simp at this ⊢
    omega
  · simp only
    rw [intSat_64]
    exact atoiSat_bounds _
  · simp
theorem nextF_mem {l : List ByteArray} {bad : Bool} {P : ByteArray → Prop} (h : ∀ x ∈ l, P x) (h0 : P ⟨#[]⟩) : P (nextF l bad).1 ∧ ∀ x ∈ (nextF l bad).2.1, P x := by
  unfold nextF
  split
  · exact ⟨h0, h⟩
  · cases l with
    | nil => exact ⟨h0, fun x hx => by cases hx⟩
    | cons y ys => exact ⟨h y (List.mem_cons_self ..), fun x hx => h x (List.mem_cons_of_mem _ hx)⟩
/-- No word is too long. -/
def Sm (x : ByteArray) : Prop := x.size ≤ maxLen
theorem sm_nil : Sm ⟨#[]⟩ := Nat.zero_le _
theorem askF_gd {l : List ByteArray} {bad : Bool} {col : ByteArray} (h : ∀ x ∈ l, Sm x) : Gd25 (askF l bad col).1 ∧ ∀ x ∈ (askF l bad col).2.1, Sm x := by
  unfold askF
  simp only
  have h1 := nextF_mem (bad := ((bad || !(numF col).2) || !(decide (0 ≤ (numF col).1) && decide ((numF col).1 < 6)))) (P := Sm) h sm_nil
  have ho := opOf_range (nextF l ((bad || !(numF col).2) || !(decide (0 ≤ (numF col).1) && decide ((numF col).1 < 6)))).1
  generalize nextF l ((bad || !(numF col).2) || !(decide (0 ≤ (numF col).1) && decide ((numF col).1 < 6))) = r1 at h1 ho ⊢
  have g0 : (Lit.int .i64 (opOf r1.1)).wf = true := in_wf ⟨by omega, by omega⟩
  have g1 := in_wf (numF_in col)
  have gz : (Lit.int .i64 (0 : Int)).wf = true := in_wf ⟨by omega, by omega⟩
  split
  · have h2 := nextF_mem (bad := (r1.2.2 || !(decide (0 < opOf r1.1)))) (P := Sm) h1.2 sm_nil
    generalize nextF r1.2.1 (r1.2.2 || !(decide (0 < opOf r1.1))) = r2 at h2 ⊢
    split
    · refine ⟨⟨g0, g1, gz, ?_⟩, h2.2⟩
      have := h2.1
      unfold Sm at this
      show (r2.1.extract 1 r2.1.size).size ≤ maxLen
      rw [ByteArray.size_extract]
      omega
    · exact ⟨⟨g0, g1, in_wf (numF_in _), Nat.zero_le _⟩, h2.2⟩
  · exact ⟨⟨g0, g1, gz, Nat.zero_le _⟩, h1.2⟩
theorem wf_1 : (Lit.int .i64 (1 : Int)).wf = true := by decide
theorem wf_2 : (Lit.int .i64 (2 : Int)).wf = true := by decide
theorem wf_4 : (Lit.int .i64 (4 : Int)).wf = true := by decide
theorem z25_gd : Gd25 z25 := ⟨by decide, by decide, by decide, Nat.zero_le _⟩
theorem z28_gd (n : Nat) : Gd28 (n + 1) z28 := ⟨by decide, z25_gd, Nat.zero_le _, fun k hk => by cases hk⟩
theorem queryF_gd : ∀ (n : Nat) (l : List ByteArray) (bad : Bool), (∀ x ∈ l, Sm x) → Gd28 (n + 1) (queryF n l bad).1 ∧ ∀ x ∈ (queryF n l bad).2.1, Sm x
  | n, l, bad, h => by
    have h1 := nextF_mem (bad := bad) (P := Sm) h sm_nil
    cases hnx : (nextF l bad).2.2 with
    | true => rw [queryF_stop n l bad (.inl hnx)]; exact ⟨z28_gd n, h1.2⟩
    | false =>
    cases n with
    | zero => rw [queryF_stop 0 l bad (.inr rfl)]; exact ⟨z28_gd 0, h1.2⟩
    | succ n =>
    cases h40 : isS (nextF l bad).1 [40] with
    | false =>
      rw [queryF_ask n l bad hnx h40]
      have h2 := askF_gd (bad := false) (col := (nextF l bad).1) h1.2
      exact ⟨⟨wf_1, h2.1, Nat.zero_le _, fun k hk => by cases hk⟩, h2.2⟩
    | true =>
    cases hm : (match (nextF l bad).2.1 with | [] => false | x :: _ => isS x [110, 111, 116]) with
    | true =>
      cases hl : (nextF l bad).2.1 with
      | nil => rw [hl] at hm; cases hm
      | cons y l2 =>
        rw [hl] at hm
        rw [queryF_not n l bad y l2 hnx h40 hl hm]
        have hk := queryF_gd n l2 false (fun x hx => h1.2 x (by rw [hl]; exact List.mem_cons_of_mem _ hx))
        have h3 := nextF_mem (bad := (queryF n l2 false).2.2) (P := Sm) hk.2 sm_nil
        exact ⟨⟨wf_4, z25_gd, by simp [maxLen], fun k hkm => by rw [List.mem_singleton] at hkm; subst hkm; exact hk.1⟩, h3.2⟩
    | false =>
      rw [queryF_two n l bad hnx h40 hm]
      dsimp only
      have ha := queryF_gd n (nextF l bad).2.1 false h1.2
      have h2 := nextF_mem (bad := (queryF n (nextF l bad).2.1 false).2.2) (P := Sm) ha.2 sm_nil
      have hb := queryF_gd n (nextF (queryF n (nextF l bad).2.1 false).2.1 (queryF n (nextF l bad).2.1 false).2.2).2.1 (nextF (queryF n (nextF l bad).2.1 false).2.1 (queryF n (nextF l bad).2.1 false).2.2).2.2 h2.2
      have h3 := nextF_mem (bad := (queryF n (nextF (queryF n (nextF l bad).2.1 false).2.1 (queryF n (nextF l bad).2.1 false).2.2).2.1 (nextF (queryF n (nextF l bad).2.1 false).2.1 (queryF n (nextF l bad).2.1 false).2.2).2.2).2.2) (P := Sm) hb.2 sm_nil
      split
      · refine ⟨⟨?_, z25_gd, by simp [maxLen], fun k hkm => ?_⟩, h3.2⟩
        · simp only
          split <;> decide
        · simp only [List.mem_cons, List.not_mem_nil, or_false] at hkm
          rcases hkm with rfl | rfl
          · exact ha.1
          · exact hb.1
      · exact ⟨⟨wf_2, z25_gd, Nat.zero_le _, fun k hk => by cases hk⟩, h2.2⟩

theorem fields_words (t : ByteArray) : fieldsOf t = wordsV t := by
  have h := (fields_bytes t).trans (wordsV_list t).symm
  exact List.map_inj_right (fun a b hab => ba_ext hab) |>.1 h

/-- A text is no query's; or it is one's, whose text has the same words. -/
theorem parse_show (t : ByteArray) (ht : t.size ≤ 1048576) : (wordsV t).length ≤ 1048576 ∧ (parseF t = some (z28, 14) ∨ ∃ q s, parseF t = some (q, 0) ∧ showF q = some (s, 0) ∧ s.size ≤ 4294967296 ∧ wordsV s = wordsV t) := by
  have hb := bsplit_len [] t.data.toList
  simp only [List.length_nil, ← size_eq] at hb
  have hwl : (wordsV t).length ≤ 1048576 := by unfold wordsV; rw [List.length_map]; omega
  have hws : ∀ x ∈ wordsV t, x.size ≤ 1048576 := fun x hx => by
    unfold wordsV at hx
    obtain ⟨l, hl, rfl⟩ := List.mem_map.1 hx
    have := hb.2 l hl
    rw [size_eq, mkB_list]
    omega
  refine ⟨hwl, ?_⟩
  have hp : parseF t = (if (queryF 50 (wordsV t) false).2.2 = true then some (z28, 14) else if (queryF 50 (wordsV t) false).2.1.length ≠ 0 then some (z28, 14) else (rightO 50 (queryF 50 (wordsV t) false).1).map fun r => if r = true then ((queryF 50 (wordsV t) false).1, 0) else (z28, 14)) := by
    unfold parseF
    rw [fields_words, if_pos ⟨by omega, by omega, fun x hx => by have := hws x hx; omega⟩]
  have hgd := (queryF_gd 50 (wordsV t) false (fun x hx => by have := hws x hx; unfold Sm maxLen; omega)).1
  cases hbad : (queryF 50 (wordsV t) false).2.2 with
  | true => exact .inl (by rw [hp, if_pos hbad])
  | false =>
    by_cases hrest : (queryF 50 (wordsV t) false).2.1.length ≠ 0
    · exact .inl (by rw [hp, if_neg (by rw [hbad]; decide), if_pos hrest])
    · have hnil : (queryF 50 (wordsV t) false).2.1 = [] := List.eq_nil_of_length_eq_zero (by omega)
      obtain ⟨b, hr⟩ := right_total 50 51 _ hgd
      cases b with
      | false => exact .inl (by rw [hp, if_neg (by rw [hbad]; decide), if_neg hrest, hr]; rfl)
      | true =>
        refine .inr ⟨(queryF 50 (wordsV t) false).1, ?_⟩
        obtain ⟨ws, e, el⟩ := words_inv 50 51 (wordsV t) _ [] (by rw [← hnil]; exact triple hbad) hr hgd
        obtain ⟨ws', e', hw, _⟩ := words_back 50 51 _ hr hgd
        rw [e] at e'
        obtain rfl := Option.some.inj e'
        rw [List.append_nil] at el
        have hl := join_len ws (fun w hx => (hw w hx).2)
        have hlen : ws.length ≤ 1048576 := by rw [← el]; exact hwl
        have ht' : (⟨(Lib.join (ws.map (·.data.toList)) [32]).toArray⟩ : ByteArray).data.toList = Lib.join (ws.map (·.data.toList)) [32] := rfl
        have hsz : (⟨(Lib.join (ws.map (·.data.toList)) [32]).toArray⟩ : ByteArray).size = (Lib.join (ws.map (·.data.toList)) [32]).length := by rw [size_eq, ht']
        have hj : strings_Join.f ws ⟨#[32]⟩ = some ⟨(Lib.join (ws.map (·.data.toList)) [32]).toArray⟩ := by
          unfold strings_Join.f
          exact if_pos ⟨by omega, by show (Lib.join (ws.map (·.data.toList)) [32]).length ≤ _; omega⟩
        refine ⟨⟨(Lib.join (ws.map (·.data.toList)) [32]).toArray⟩, ?_, ?_, by omega, ?_⟩
        · rw [hp, if_neg (by rw [hbad]; decide), if_neg hrest, hr]; rfl
        · simp only [showF, hr, Option.bind_some, e]
          rw [if_neg (by decide), if_pos (by omega), hj]
          rfl
        · rw [← fields_words]
          exact (fields_join ws (fun w hx => (hw w hx).1) _ ht').trans el.symm
end Go.Proofs.YtglcajijmkianaaDoor.A
namespace Go.Proofs.YtglcajijmkianaaDoor.A
open Go.RowKit Go.Proofs.YtglcajijmkianaaDoorW.PrintWords Go.Proofs.YtglcajijmkianaaDoorW.PrintLast Go.Proofs.YtglcajijmkianaaDoorW.PrintMore
set_option linter.unusedVariables false
set_option linter.unusedSimpArgs false

set_option maxRecDepth 100000 in
set_option maxHeartbeats 16000000 in
theorem QueryOnly.walk (t : ByteArray) (ht : t.size ≤ 1048576) (w : World) (hG : Globs w) :
    Calls Tryd.prog 5 #[.string t] w fun e w' => e = .returned (.bool true) ∧ Below w.heap.size w w' := by
  have hu28 := Tryd.underlying28
  obtain ⟨hwl, hways⟩ := parse_show t ht
  have HL := Aside0.mk (fun (W : World) (hW : Below w.heap.size w W) => lives.calls W (hG.below hW))
  have HP := Aside0.mk (fun (W : World) (hW : Below w.heap.size w W) (r : S28 × Int) (h : parseF t = some r) => parse.calls t r W (hG.below hW) h)
  rcases hways with hps | ⟨q, s, hps, hsh, hsz, hwds⟩
  · have HPS := Aside0.mk hps
    clear hps hwl hG
    go_enter Tryd.func5, Tryd.ntmps5
    go_wp2_with fail
    refine (HL.out _ (Below.refl _ _)).mono ?_
    rintro e w1 ⟨rfl, hb1⟩
    have HB1 := Aside0.mk hb1
    clear hb1
    go_wp2_with fail
    refine (HP.out _ HB1.out _ HPS.out).mono ?_
    rintro e w3 ⟨A3, c3, rfl, hc3, hC3, hb3⟩
    have hlen : (z28, (14 : Int)).1.f2.length = 0 := rfl
    simp only [show (z28 : S28).f2.length = 0 from rfl, show (z28 : S28).f0 = 0 from rfl, show (z28 : S28).f1.f0 = 0 from rfl, show (z28 : S28).f1.f1 = 0 from rfl, show (z28 : S28).f1.f2.f0 = false from rfl, show (z28 : S28).f1.f2.f1 = 0 from rfl, show (z28 : S28).f1.f2.f2 = (⟨#[]⟩ : ByteArray) from rfl] at hc3 hC3 ⊢
    have HB3 := Aside0.mk ((HB1.out.trans (hb3.mono HB1.out.size)).trans ((below_alloc (Below.refl w3.heap.size w3) (Obj.cells #[.int .i64 0, .int .i64 0, .int .i64 0, .bool false, .int .i64 0, .string ⟨#[]⟩, .slice A3 0 c3] 28)).mono (HB1.out.trans (hb3.mono HB1.out.size)).size))
    clear hb3 hC3 hc3 HB1 hlen
    go_wp2_with fail
    go_ret
    exact ⟨rfl, HB3.out⟩
  · have HS := Aside0.mk (fun (W : World) (hW : Below w.heap.size w W) (B : Option Addr) (d : Nat) (hB : Kd.C k28 W B q.f2.length q.f2) (hd : q.f2.length ≤ d) => show.calls q B d (s, 0) W (hG.below hW) hB hd hsh)
    obtain ⟨K1, hK1⟩ := words_ev s hsz
    obtain ⟨K2, hK2⟩ := words_ev t (by omega)
    obtain ⟨K3, hK3⟩ := same5_ev (wordsV t) (by omega)
    have hw1 := hK1 K1 (Nat.le_refl _)
    have hw2 := hK2 K2 (Nat.le_refl _)
    have hs5 := hK3 K3 (Nat.le_refl _)
    simp only [hwds] at hw1 hw2 hs5
    have HW1 := Aside0.mk (fun (W : World) => tithebarnref23_Words.calls K1 s (wordsV t) W hw1)
    have HW2 := Aside0.mk (fun (W : World) => tithebarnref23_Words.calls K2 t (wordsV t) W hw2)
    have HS5 := Aside0.mk (fun (W : World) (B B' : Option Addr) (d d' : Nat) (hB : Kd.C Kd.string W B (wordsV t).length (wordsV t)) (hd : (wordsV t).length ≤ d) (hB' : Kd.C Kd.string W B' (wordsV t).length (wordsV t)) (hd' : (wordsV t).length ≤ d') => tithebarnref05_Same.calls K3 B d (wordsV t) B' d' (wordsV t) true W hB hd hB' hd' hs5)
    have HPS := Aside0.mk hps
    clear hps hsh hsz hwds hK1 hK2 hK3 hw1 hw2 hs5 hwl hG ht
    generalize wordsV t = ws at HW1 HW2 HS5
    go_enter Tryd.func5, Tryd.ntmps5
    go_wp2_with fail
    refine (HL.out _ (Below.refl _ _)).mono ?_
    rintro e w1 ⟨rfl, hb1⟩
    have HB1 := Aside0.mk hb1
    clear hb1
    go_wp2_with fail
    refine (HP.out _ HB1.out _ HPS.out).mono ?_
    rintro e w3 ⟨A3, c3, rfl, hc3, hC3, hb3⟩
    simp only at hc3 hC3 ⊢
    have HB3 := Aside0.mk ((HB1.out.trans (hb3.mono HB1.out.size)).trans ((below_alloc (Below.refl w3.heap.size w3) (Obj.cells (qcells q A3 c3) 28)).mono (HB1.out.trans (hb3.mono HB1.out.size)).size))
    have HC3 := Aside0.mk (Kd.C_below hC3 (below_alloc (Below.refl _ _) (Obj.cells (qcells q A3 c3) 28)))
    have HL3 := Aside0.mk hc3
    clear hb3 hC3 hc3 HB1
    go_wp2_with fail
    refine (HS.out _ HB3.out A3 c3 HC3.out HL3.out).mono ?_
    rintro e w4 ⟨rfl, hb4⟩
    have HB4 := Aside0.mk (HB3.out.trans (hb4.mono HB3.out.size))
    clear hb4 HB3 HC3
    go_wp2_with fail
    refine (HW1.out w4).mono ?_
    rintro e w5 ⟨v5, rfl, hR5, hb5⟩
    have HB5 := Aside0.mk (HB4.out.trans (hb5.mono HB4.out.size))
    obtain ⟨A5, c5, rfl, hc5, hC5⟩ := Kd.R_reads hR5
    have HC5 := Aside0.mk hC5
    have HL5 := Aside0.mk hc5
    clear hb5 HB4 hR5 hC5 hc5
    go_wp2_with fail
    refine (HW2.out w5).mono ?_
    rintro e w6 ⟨v6, rfl, hR6, hb6⟩
    have HB6 := Aside0.mk (HB5.out.trans (hb6.mono HB5.out.size))
    obtain ⟨A6, c6, rfl, hc6, hC6⟩ := Kd.R_reads hR6
    have HC6 := Aside0.mk hC6
    have HL6 := Aside0.mk hc6
    have HC56 := Aside0.mk (Kd.C_below HC5.out hb6)
    clear hb6 HB5 hR6 hC6 hc6
    go_wp2_with fail
    refine (HS5.out w6 A5 A6 c5 c6 HC56.out HL5.out HC6.out HL6.out).mono ?_
    rintro e w7 ⟨rfl, hd7⟩
    have HB7 := Aside0.mk (HB6.out.trans (hd7.below.mono HB6.out.size))
    clear hd7
    go_wp2_with fail
    go_ret
    exact ⟨rfl, HB7.out⟩
end Go.Proofs.YtglcajijmkianaaDoor.A
namespace Go.Proofs.YtglcajijmkianaaDoor.A
open Go.RowKit Go.Proofs.YtglcajijmkianaaDoorW.PrintWords Go.Proofs.YtglcajijmkianaaDoorW.PrintLast Go.Proofs.YtglcajijmkianaaDoorW.PrintMore
open Go.Shelf Go.Lib Go.Sort
set_option linter.unusedVariables false
set_option linter.unusedSimpArgs false

theorem sum_bulk {H : Type} (f : S28 → Nat) : ∀ (ys : List S28) (ds : List (DataW H)), ds.length = ys.length → (∀ (i : Nat) y z, ys[i]? = some y → ds[i]? = some z → f y ≤ Rows.uptoBulk z) → (ys.map f).sum ≤ Rows.uptoBulkAll ds
  | [], _, _, _ => by simp
  | y :: ys, [], h, _ => by simp at h
  | y :: ys, d :: ds, h, hq => by
    have ih := sum_bulk f ys ds (by simpa using h) (fun i y z a b => hq (i + 1) y z (by simpa using a) (by simpa using b))
    have h0 := hq 0 y d rfl rfl
    simp only [List.map_cons, List.sum_cons, Rows.uptoBulkAll]
    omega
theorem sz_bulk {H : Type} : ∀ (m n : Nat) (y : S28) (x : DataW H), Q28 n y x → szQ m y ≤ Rows.uptoBulk x
  | _, 0, y, x, h => h.elim
  | 0, n + 1, y, x, h => by
    obtain ⟨_, x1, x2, _, _, rfl⟩ := h
    simp only [szQ, Rows.uptoBulk]
    omega
  | m + 1, n + 1, y, x, h => by
    obtain ⟨_, x1, x2, _, hk, rfl⟩ := h
    rcases hk with ⟨e, rfl⟩ | ⟨ds, rest, rfl, hl, _, hq⟩
    · simp only [szQ, Rows.uptoBulk, Rows.uptoBulkAll, e, List.map_nil, List.sum_nil]
      omega
    · have := sum_bulk (szQ m) y.f2 ds hl (fun i y z a b => sz_bulk m n y z (hq i y z a b))
      simp only [szQ, Rows.uptoBulk, Rows.uptoBulkAll]
      omega
theorem small_bulk {H : Type} {ds : List (DataW H)} (h : Rows.uptoSmall H ds = true) : Rows.uptoBulkAll ds ≤ 1048576 := of_decide_eq_true h
end Go.Proofs.YtglcajijmkianaaDoor.A
