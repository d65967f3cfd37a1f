-- Written for this claim by wip/hook.py (a driver over the kit's print.py) out of the translation; Lean checks it.
import Derived.Test.YtglcajijmkianaaDoorAx0
import Derived.Test.YtglcajijmkianaaDoorAx4
namespace Go.Proofs.YtglcajijmkianaaDoor.A
open Go.RowKit Go.Proofs.YtglcajijmkianaaDoorW.PrintWords Go.Proofs.YtglcajijmkianaaDoorW.PrintLast Go.Proofs.YtglcajijmkianaaDoorW.PrintMore
attribute [local go_sem] max2_int min2_int max_two min_two max_three min_three max_four min_four   -- for this text's walks alone
set_option linter.unusedVariables false
set_option linter.unusedSimpArgs false

/-! ### tithebarnref11_Holds: function 37 -/
def tithebarnref11_Holds.j0 : Nat → Bool → Int → Int → Bool → Int → ByteArray → Bool → Int → ByteArray → Option (Bool)
  | 0, _, _, _, _, _, _, _, _, _ => none
  | k + 1, x5, x165000, x165001, x165002, x165003, x165004, x166000, x166001, x166002 => if x165000 = 0 then (some true) else (if x165000 = 1 then (if x5 = true then ((tithebarnref02_Compare.f k x166000 x166001 x166002 x165002 x165003 x165004).bind fun t166 => (some (t166 == 0))) else (some false)) else (if x165000 = 2 then (if x5 = true then ((tithebarnref02_Ahead.f k x166000 x166001 x166002 x165002 x165003 x165004).bind fun t167 => (some t167)) else (some false)) else (if x165000 = 3 then (if x5 = true then ((tithebarnref02_Ahead.f k x166000 x166001 x166002 x165002 x165003 x165004).bind fun t168 => (some (!t168))) else (some false)) else (if x165000 = 4 then (some x166000) else (if x165000 = 5 then (some (!x166000)) else (some false))))))
def tithebarnref11_Holds.f (k : Nat) (a0_0 : Int) (a0_1 : Int) (a0_2 : Bool) (a0_3 : Int) (a0_4 : ByteArray) (a1_0 : Bool) (a1_1 : Int) (a1_2 : ByteArray) : Option (Bool) := if a1_0 = true then (tithebarnref11_Holds.j0 k false a0_0 a0_1 a0_2 a0_3 a0_4 a1_0 a1_1 a1_2) else (tithebarnref11_Holds.j0 k (!a0_2) a0_0 a0_1 a0_2 a0_3 a0_4 a1_0 a1_1 a1_2)
theorem tithebarnref11_Holds.mono_l : ∀ k, (∀ y0 y1 y2 y3 y4 y5 y6 y7 y8, LeO (tithebarnref11_Holds.j0 k y0 y1 y2 y3 y4 y5 y6 y7 y8) (tithebarnref11_Holds.j0 (k + 1) y0 y1 y2 y3 y4 y5 y6 y7 y8))
  | 0 => fun _ _ _ _ _ _ _ _ _ r h => by simp [tithebarnref11_Holds.j0] at h
  | k + 1 => by
    have ih0 := tithebarnref11_Holds.mono_l k
    · intro y0 y1 y2 y3 y4 y5 y6 y7 y8
      unfold tithebarnref11_Holds.j0
      repeat' first
      | (with_reducible exact ih0 _ _ _ _ _ _ _ _ _)
      | (with_reducible exact tithebarnref02_Ahead.mono _ _ _ _ _ _ _)
      | (with_reducible exact tithebarnref02_Compare.mono _ _ _ _ _ _ _)
      | (with_reducible exact LeO.refl _)
      | (with_reducible exact LeO.none _)
      | (with_reducible refine LeO.ite ?_ ?_)
      | (with_reducible refine LeO.bind ?_ (fun _ => ?_))
      | exact ih0 _ _ _ _ _ _ _ _ _
      | exact tithebarnref02_Ahead.mono _ _ _ _ _ _ _
      | exact tithebarnref02_Compare.mono _ _ _ _ _ _ _
      | exact LeO.none _
      | refine LeO.ite ?_ ?_
      | refine LeO.bind ?_ (fun _ => ?_)
theorem tithebarnref11_Holds.mono : ∀ a0 a1 a2 a3 a4 a5 a6 a7 k, LeO (tithebarnref11_Holds.f k a0 a1 a2 a3 a4 a5 a6 a7) (tithebarnref11_Holds.f (k + 1) a0 a1 a2 a3 a4 a5 a6 a7) := by
  intro a0 a1 a2 a3 a4 a5 a6 a7 k
  have ih0 := tithebarnref11_Holds.mono_l k
  unfold tithebarnref11_Holds.f
  repeat' first
      | (with_reducible exact ih0 _ _ _ _ _ _ _ _ _)
      | (with_reducible exact tithebarnref02_Ahead.mono _ _ _ _ _ _ _)
      | (with_reducible exact tithebarnref02_Compare.mono _ _ _ _ _ _ _)
      | (with_reducible exact LeO.refl _)
      | (with_reducible exact LeO.none _)
      | (with_reducible refine LeO.ite ?_ ?_)
      | (with_reducible refine LeO.bind ?_ (fun _ => ?_))
      | exact ih0 _ _ _ _ _ _ _ _ _
      | exact tithebarnref02_Ahead.mono _ _ _ _ _ _ _
      | exact tithebarnref02_Compare.mono _ _ _ _ _ _ _
      | exact LeO.none _
      | refine LeO.ite ?_ ?_
      | refine LeO.bind ?_ (fun _ => ?_)
set_option maxHeartbeats 8000000 in
set_option maxRecDepth 100000 in
theorem tithebarnref11_Holds.calls (k : Nat) (a0_0 : Int) (a0_1 : Int) (a0_2 : Bool) (a0_3 : Int) (a0_4 : ByteArray) (a1_0 : Bool) (a1_1 : Int) (a1_2 : ByteArray) (r : Bool) (w : World) (h : tithebarnref11_Holds.f k a0_0 a0_1 a0_2 a0_3 a0_4 a1_0 a1_1 a1_2 = some r) :
    Calls Tryd.prog 37 #[.agg #[.int .i64 a0_0, .int .i64 a0_1, .bool a0_2, .int .i64 a0_3, .string a0_4], .agg #[.bool a1_0, .int .i64 a1_1, .string a1_2]] w fun e w' => e = .returned (.bool r) ∧ Below w.heap.size w w' := by
  have hu25 := Tryd.underlying25
  have hu23 := Tryd.underlying23
  have HB := Aside0.mk (Below.refl w.heap.size w)
  have H : (if a1_0 = true then (tithebarnref11_Holds.j0 k false a0_0 a0_1 a0_2 a0_3 a0_4 a1_0 a1_1 a1_2) else (tithebarnref11_Holds.j0 k (!a0_2) a0_0 a0_1 a0_2 a0_3 a0_4 a1_0 a1_1 a1_2)) = some r := h
  clear h
  have HC3 := Aside0.mk H
  clear H
  go_enter Tryd.func37, Tryd.ntmps37
  go_upto_region 1 with (first | ((with_reducible refine gate_dst (N := 2) rfl ?_); refine box_event ?hg (N := 2) ?hd (cs := #[.int .i64 a0_0, .int .i64 a0_1, .bool a0_2, .int .i64 a0_3, .string a0_4]) (t := 25) ?hr ?_; (case hd => rfl); (case hg => rfl); (case hr => first | (go_simp; done) | (go_simp; rfl)); intro gb164 hg w4 hbox hb; have n0_ := Aside0.mk (below_step (by repeat (first | (with_reducible first | exact HB.out | apply below_alloc | apply pw_below_drewN | apply below_drew1) | exact HB.out)) hb); have n1_ := Aside0.mk (hbox); have n2_ := Aside0.mk ((by rw [hg]; exact (below_size (by repeat (first | (with_reducible first | exact HB.out | apply below_alloc | apply pw_below_drewN | apply below_drew1) | exact HB.out))) : w.heap.size ≤ gb164)); have n3_ := Aside0.mk ((by rw [hg]; exact (below_size (by repeat (first | (with_reducible first | exact HB.out | apply below_alloc | apply pw_below_drewN | apply below_drew1) | exact HB.out))) : w.heap.size ≤ gb164)); clear HB; have HB := n0_; have BK164 := n1_; have GW164 := n2_; have GE164 := n3_; clear n0_ n1_ n2_ n3_; clear hb hbox hg) | ((with_reducible refine gate_dst (N := 3) rfl ?_); refine box_event ?hg (N := 3) ?hd (cs := #[.bool a1_0, .int .i64 a1_1, .string a1_2]) (t := 23) ?hr ?_; (case hd => rfl); (case hg => rfl); (case hr => first | (go_simp; done) | (go_simp; rfl)); intro gb165 hg w5 hbox hb; have n0_ := Aside0.mk (blk_below (g := gb164) (o := .cells #[.int .i64 a0_0, .int .i64 a0_1, .bool a0_2, .int .i64 a0_3, .string a0_4] 25 (0, 0)) (by (with_reducible repeat (first | refine blk_drewN ?_ _ | refine blk_drew ?_ | refine blk_alloc ?_ _)); exact BK164.out) hb); have n1_ := Aside0.mk (below_step (by repeat (first | (with_reducible first | exact HB.out | apply below_alloc | apply pw_below_drewN | apply below_drew1 | refine below_set ?_ GE164.out) | exact HB.out)) hb); have n2_ := Aside0.mk (hbox); have n3_ := Aside0.mk ((by rw [hg]; exact (below_size (by repeat (first | (with_reducible first | exact HB.out | apply below_alloc | apply pw_below_drewN | apply below_drew1 | refine below_set ?_ GE164.out) | exact HB.out))) : w.heap.size ≤ gb165)); have n4_ := Aside0.mk ((by rw [hg]; exact (below_size (by repeat (first | (with_reducible first | exact HB.out | apply below_alloc | apply pw_below_drewN | apply below_drew1 | refine below_set ?_ GE164.out) | exact HB.out))) : w.heap.size ≤ gb165)); have n5_ := Aside0.mk ((by rw [hg]; exact Nat.ne_of_lt (blk_lt (g := gb164) (o := .cells #[.int .i64 a0_0, .int .i64 a0_1, .bool a0_2, .int .i64 a0_3, .string a0_4] 25 (0, 0)) (by (with_reducible repeat (first | refine blk_drewN ?_ _ | refine blk_drew ?_ | refine blk_alloc ?_ _)); exact BK164.out)) : gb164 ≠ gb165)); have n6_ := Aside0.mk ((by rw [hg]; exact Nat.ne_of_gt (blk_lt (g := gb164) (o := .cells #[.int .i64 a0_0, .int .i64 a0_1, .bool a0_2, .int .i64 a0_3, .string a0_4] 25 (0, 0)) (by (with_reducible repeat (first | refine blk_drewN ?_ _ | refine blk_drew ?_ | refine blk_alloc ?_ _)); exact BK164.out)) : gb165 ≠ gb164)); clear BK164; clear HB; have BK164 := n0_; have HB := n1_; have BK165 := n2_; have GW165 := n3_; have GE165 := n4_; have NB164_165 := n5_; have NB165_164 := n6_; clear n0_ n1_ n2_ n3_ n4_ n5_ n6_; clear hb hbox hg))
  (try simp only [Act.put, List.setIfInBounds_toArray, List.set_cons_zero, List.set_cons_succ])
  go_cut [5] (fun v5 wc => ∃ (kq : Nat) (x5_2 : Bool), v5 = .bool x5_2 ∧ Aside0 (tithebarnref11_Holds.j0 kq x5_2 a0_0 a0_1 a0_2 a0_3 a0_4 a1_0 a1_1 a1_2 = some r) ∧ Aside0 (kq ≤ k) ∧ Aside0 (wc.heap[gb164]? = some (.cells #[.int .i64 a0_0, .int .i64 a0_1, .bool a0_2, .int .i64 a0_3, .string a0_4] 25 (0, 0))) ∧ Aside0 (wc.heap[gb165]? = some (.cells #[.bool a1_0, .int .i64 a1_1, .string a1_2] 23 (0, 0))) ∧ Aside0 (Below w.heap.size w wc))
  case first =>
    have H := HC3.out
    clear HC3
    by_cases c6 : a1_0 = true
    · subst c6
      have H1 : (tithebarnref11_Holds.j0 k false a0_0 a0_1 a0_2 a0_3 a0_4 true a1_1 a1_2) = some r := by rw [if_pos rfl] at H; exact H
      clear H
      have H := H1
      clear H1
      have H' := Aside0.mk H
      clear H
      have hnb7 := NB165_164.out
      have hnc7 := NB164_165.out
      have hcz8_0 : w5.cell? ⟨gb165, 0, none⟩ = some (.bool true) := (blk_cell BK165.out 0).trans rfl
      have hcz8_1 : w5.cell? ⟨gb165, 1, none⟩ = some (.int .i64 a1_1) := (blk_cell BK165.out 1).trans rfl
      have hcz8_2 : w5.cell? ⟨gb165, 2, none⟩ = some (.string a1_2) := (blk_cell BK165.out 2).trans rfl
      have hfz8_0 := blk_frozen BK165.out 0
      have hfz8_1 := blk_frozen BK165.out 1
      have hfz8_2 := blk_frozen BK165.out 2
      go_wp2
      go_meet
      case rel => exact ⟨_, (false), (by first | rfl | (simp; done) | (simp [*]; done)), H', ⟨by first | omega | exact Nat.le_refl _⟩, ⟨by (with_reducible repeat (first | refine blk_drewN ?_ _ | refine blk_drew ?_ | refine blk_alloc ?_ _)); exact BK164.out⟩, ⟨by (with_reducible repeat (first | refine blk_drewN ?_ _ | refine blk_drew ?_ | refine blk_alloc ?_ _)); exact BK165.out⟩, ⟨by repeat (first | (with_reducible first | exact HB.out | apply below_alloc | apply pw_below_drewN | apply below_drew1 | refine below_set ?_ GE164.out | refine below_set ?_ GE165.out) | exact HB.out)⟩⟩
    · replace c6 := Bool.eq_false_iff.mpr c6
      subst c6
      have H1 : (tithebarnref11_Holds.j0 k (!a0_2) a0_0 a0_1 a0_2 a0_3 a0_4 false a1_1 a1_2) = some r := by rw [if_neg (show ¬ (false = true) by decide)] at H; exact H
      clear H
      have H := H1
      clear H1
      have H' := Aside0.mk H
      clear H
      have hnb9 := NB165_164.out
      have hnc9 := NB164_165.out
      have hcz10_0 : w5.cell? ⟨gb165, 0, none⟩ = some (.bool false) := (blk_cell BK165.out 0).trans rfl
      have hcz10_1 : w5.cell? ⟨gb165, 1, none⟩ = some (.int .i64 a1_1) := (blk_cell BK165.out 1).trans rfl
      have hcz10_2 : w5.cell? ⟨gb165, 2, none⟩ = some (.string a1_2) := (blk_cell BK165.out 2).trans rfl
      have hfz10_0 := blk_frozen BK165.out 0
      have hfz10_1 := blk_frozen BK165.out 1
      have hfz10_2 := blk_frozen BK165.out 2
      have hcz11_0 : w5.cell? ⟨gb164, 0, none⟩ = some (.int .i64 a0_0) := (blk_cell BK164.out 0).trans rfl
      have hcz11_1 : w5.cell? ⟨gb164, 1, none⟩ = some (.int .i64 a0_1) := (blk_cell BK164.out 1).trans rfl
      have hcz11_2 : w5.cell? ⟨gb164, 2, none⟩ = some (.bool a0_2) := (blk_cell BK164.out 2).trans rfl
      have hcz11_3 : w5.cell? ⟨gb164, 3, none⟩ = some (.int .i64 a0_3) := (blk_cell BK164.out 3).trans rfl
      have hcz11_4 : w5.cell? ⟨gb164, 4, none⟩ = some (.string a0_4) := (blk_cell BK164.out 4).trans rfl
      have hfz11_0 := blk_frozen BK164.out 0
      have hfz11_1 := blk_frozen BK164.out 1
      have hfz11_2 := blk_frozen BK164.out 2
      have hfz11_3 := blk_frozen BK164.out 3
      have hfz11_4 := blk_frozen BK164.out 4
      go_wp2
      go_meet
      case rel => exact ⟨_, (!a0_2), (by first | rfl | (simp; done) | (simp [*]; done)), H', ⟨by first | omega | exact Nat.le_refl _⟩, ⟨by (with_reducible repeat (first | refine blk_drewN ?_ _ | refine blk_drew ?_ | refine blk_alloc ?_ _)); exact BK164.out⟩, ⟨by (with_reducible repeat (first | refine blk_drewN ?_ _ | refine blk_drew ?_ | refine blk_alloc ?_ _)); exact BK165.out⟩, ⟨by repeat (first | (with_reducible first | exact HB.out | apply below_alloc | apply pw_below_drewN | apply below_drew1 | refine below_set ?_ GE164.out | refine below_set ?_ GE165.out) | exact HB.out)⟩⟩
  case rest =>
    clear HC3
    try clear p2
    try clear c3
    try clear c6
    try clear c7
    try clear c9
    try clear hcz10_0
    try clear hcz10_1
    try clear hcz10_2
    try clear hcz11_0
    try clear hcz11_1
    try clear hcz11_2
    try clear hcz11_3
    try clear hcz11_4
    try clear hcz8_0
    try clear hcz8_1
    try clear hcz8_2
    try clear hfz10_0
    try clear hfz10_1
    try clear hfz10_2
    try clear hfz11_0
    try clear hfz11_1
    try clear hfz11_2
    try clear hfz11_3
    try clear hfz11_4
    try clear hfz8_0
    try clear hfz8_1
    try clear hfz8_2
    obtain ⟨kq, x5_2, rfl, HA, HJ2, BK164, BK165, HB⟩ := hcut
    cases kq with
    | zero => exact absurd HA.out (by simp [tithebarnref11_Holds.j0])
    | succ kj2 =>
      have H := HA.out
      clear HA
      simp only [tithebarnref11_Holds.j0] at H
      by_cases c12 : a0_0 = 0
      · rw [if_pos c12] at H
        have c12b0 : (a0_0 == 0) = true := beq_iff_eq.mpr c12
        have c12b1 : (a0_0 != 0) = false := bne_eq_false_iff_eq.mpr c12
        clear c12
        obtain rfl := Option.some.inj H
        have hnb13 := NB164_165.out
        have hnc13 := NB165_164.out
        have hcz14_0 : wc.cell? ⟨gb164, 0, none⟩ = some (.int .i64 a0_0) := (blk_cell BK164.out 0).trans rfl
        have hcz14_1 : wc.cell? ⟨gb164, 1, none⟩ = some (.int .i64 a0_1) := (blk_cell BK164.out 1).trans rfl
        have hcz14_2 : wc.cell? ⟨gb164, 2, none⟩ = some (.bool a0_2) := (blk_cell BK164.out 2).trans rfl
        have hcz14_3 : wc.cell? ⟨gb164, 3, none⟩ = some (.int .i64 a0_3) := (blk_cell BK164.out 3).trans rfl
        have hcz14_4 : wc.cell? ⟨gb164, 4, none⟩ = some (.string a0_4) := (blk_cell BK164.out 4).trans rfl
        have hfz14_0 := blk_frozen BK164.out 0
        have hfz14_1 := blk_frozen BK164.out 1
        have hfz14_2 := blk_frozen BK164.out 2
        have hfz14_3 := blk_frozen BK164.out 3
        have hfz14_4 := blk_frozen BK164.out 4
        go_wp2
        go_ret
        exact ⟨by first | rfl | (simp [errW_none, errW_some] <;> rfl) | (simp [*, errW_none, errW_some] <;> rfl), by repeat (first | (with_reducible first | exact HB.out | apply below_alloc | apply pw_below_drewN | apply below_drew1 | refine below_set ?_ GE164.out | refine below_set ?_ GE165.out) | exact HB.out)⟩
      · rw [if_neg c12] at H
        have c12b0 : (a0_0 == 0) = false := beq_eq_false_iff_ne.mpr c12
        have c12b1 : (a0_0 != 0) = true := bne_iff_ne.mpr c12
        by_cases c15 : a0_0 = 1
        · rw [if_pos c15] at H
          have c15b0 : (a0_0 == 1) = true := beq_iff_eq.mpr c15
          have c15b1 : (a0_0 != 1) = false := bne_eq_false_iff_eq.mpr c15
          clear c15
          by_cases c16 : x5_2 = true
          · subst c16
            have H1 : ((tithebarnref02_Compare.f kj2 a1_0 a1_1 a1_2 a0_2 a0_3 a0_4).bind fun t166 => (some (t166 == 0))) = some r := by rw [if_pos rfl] at H; exact H
            clear H
            have H := H1
            clear H1
            replace H := Option.bind_eq_some_iff.mp H
            obtain ⟨t166, A170, H⟩ := H
            replace H : (some (t166 == 0)) = some r := H
            have A17 := Aside0.mk A170
            clear A170
            obtain rfl := Option.some.inj H
            have hnb18 := NB164_165.out
            have hnc18 := NB165_164.out
            have hcz19_0 : wc.cell? ⟨gb164, 0, none⟩ = some (.int .i64 a0_0) := (blk_cell BK164.out 0).trans rfl
            have hcz19_1 : wc.cell? ⟨gb164, 1, none⟩ = some (.int .i64 a0_1) := (blk_cell BK164.out 1).trans rfl
            have hcz19_2 : wc.cell? ⟨gb164, 2, none⟩ = some (.bool a0_2) := (blk_cell BK164.out 2).trans rfl
            have hcz19_3 : wc.cell? ⟨gb164, 3, none⟩ = some (.int .i64 a0_3) := (blk_cell BK164.out 3).trans rfl
            have hcz19_4 : wc.cell? ⟨gb164, 4, none⟩ = some (.string a0_4) := (blk_cell BK164.out 4).trans rfl
            have hfz19_0 := blk_frozen BK164.out 0
            have hfz19_1 := blk_frozen BK164.out 1
            have hfz19_2 := blk_frozen BK164.out 2
            have hfz19_3 := blk_frozen BK164.out 3
            have hfz19_4 := blk_frozen BK164.out 4
            have hcz20_0 : wc.cell? ⟨gb165, 0, none⟩ = some (.bool a1_0) := (blk_cell BK165.out 0).trans rfl
            have hcz20_1 : wc.cell? ⟨gb165, 1, none⟩ = some (.int .i64 a1_1) := (blk_cell BK165.out 1).trans rfl
            have hcz20_2 : wc.cell? ⟨gb165, 2, none⟩ = some (.string a1_2) := (blk_cell BK165.out 2).trans rfl
            have hfz20_0 := blk_frozen BK165.out 0
            have hfz20_1 := blk_frozen BK165.out 1
            have hfz20_2 := blk_frozen BK165.out 2
            go_wp2_with (first | (go_at_call 65; (with_reducible refine (tithebarnref02_Compare.calls kj2 a1_0 a1_1 a1_2 a0_2 a0_3 a0_4 t166 _ A17.out).mono ?_); rintro e w21 ⟨rfl, hb⟩; have n0_ := Aside0.mk (blk_below (g := gb164) (o := .cells #[.int .i64 a0_0, .int .i64 a0_1, .bool a0_2, .int .i64 a0_3, .string a0_4] 25 (0, 0)) (by (with_reducible repeat (first | refine blk_drewN ?_ _ | refine blk_drew ?_ | refine blk_alloc ?_ _)); exact BK164.out) hb); have n1_ := Aside0.mk (blk_below (g := gb165) (o := .cells #[.bool a1_0, .int .i64 a1_1, .string a1_2] 23 (0, 0)) (by (with_reducible repeat (first | refine blk_drewN ?_ _ | refine blk_drew ?_ | refine blk_alloc ?_ _)); exact BK165.out) hb); have n2_ := Aside0.mk (below_step (by repeat (first | (with_reducible first | exact HB.out | apply below_alloc | apply pw_below_drewN | apply below_drew1 | refine below_set ?_ GE164.out | refine below_set ?_ GE165.out) | exact HB.out)) hb); clear BK164; clear BK165; clear HB; have BK164 := n0_; have BK165 := n1_; have HB := n2_; clear n0_ n1_ n2_; (try clear hb); (try clear hb2); (try clear hk); (try clear hi)))
            go_ret
            exact ⟨by first | rfl | (simp [errW_none, errW_some] <;> rfl) | (simp [*, errW_none, errW_some] <;> rfl), by repeat (first | (with_reducible first | exact HB.out | apply below_alloc | apply pw_below_drewN | apply below_drew1 | refine below_set ?_ GE164.out | refine below_set ?_ GE165.out) | exact HB.out)⟩
          · replace c16 := Bool.eq_false_iff.mpr c16
            subst c16
            have H1 : (some false) = some r := by rw [if_neg (show ¬ (false = true) by decide)] at H; exact H
            clear H
            have H := H1
            clear H1
            obtain rfl := Option.some.inj H
            have hnb22 := NB164_165.out
            have hnc22 := NB165_164.out
            have hcz23_0 : wc.cell? ⟨gb164, 0, none⟩ = some (.int .i64 a0_0) := (blk_cell BK164.out 0).trans rfl
            have hcz23_1 : wc.cell? ⟨gb164, 1, none⟩ = some (.int .i64 a0_1) := (blk_cell BK164.out 1).trans rfl
            have hcz23_2 : wc.cell? ⟨gb164, 2, none⟩ = some (.bool a0_2) := (blk_cell BK164.out 2).trans rfl
            have hcz23_3 : wc.cell? ⟨gb164, 3, none⟩ = some (.int .i64 a0_3) := (blk_cell BK164.out 3).trans rfl
            have hcz23_4 : wc.cell? ⟨gb164, 4, none⟩ = some (.string a0_4) := (blk_cell BK164.out 4).trans rfl
            have hfz23_0 := blk_frozen BK164.out 0
            have hfz23_1 := blk_frozen BK164.out 1
            have hfz23_2 := blk_frozen BK164.out 2
            have hfz23_3 := blk_frozen BK164.out 3
            have hfz23_4 := blk_frozen BK164.out 4
            go_wp2
            go_ret
            exact ⟨by first | rfl | (simp [errW_none, errW_some] <;> rfl) | (simp [*, errW_none, errW_some] <;> rfl), by repeat (first | (with_reducible first | exact HB.out | apply below_alloc | apply pw_below_drewN | apply below_drew1 | refine below_set ?_ GE164.out | refine below_set ?_ GE165.out) | exact HB.out)⟩
        · rw [if_neg c15] at H
          have c15b0 : (a0_0 == 1) = false := beq_eq_false_iff_ne.mpr c15
          have c15b1 : (a0_0 != 1) = true := bne_iff_ne.mpr c15
          by_cases c24 : a0_0 = 2
          · rw [if_pos c24] at H
            have c24b0 : (a0_0 == 2) = true := beq_iff_eq.mpr c24
            have c24b1 : (a0_0 != 2) = false := bne_eq_false_iff_eq.mpr c24
            clear c24
            by_cases c25 : x5_2 = true
            · subst c25
              have H1 : ((tithebarnref02_Ahead.f kj2 a1_0 a1_1 a1_2 a0_2 a0_3 a0_4).bind fun t167 => (some t167)) = some r := by rw [if_pos rfl] at H; exact H
              clear H
              have H := H1
              clear H1
              replace H := Option.bind_eq_some_iff.mp H
              obtain ⟨t167, A260, H⟩ := H
              replace H : (some t167) = some r := H
              have A26 := Aside0.mk A260
              clear A260
              obtain rfl := Option.some.inj H
              have hnb27 := NB164_165.out
              have hnc27 := NB165_164.out
              have hcz28_0 : wc.cell? ⟨gb164, 0, none⟩ = some (.int .i64 a0_0) := (blk_cell BK164.out 0).trans rfl
              have hcz28_1 : wc.cell? ⟨gb164, 1, none⟩ = some (.int .i64 a0_1) := (blk_cell BK164.out 1).trans rfl
              have hcz28_2 : wc.cell? ⟨gb164, 2, none⟩ = some (.bool a0_2) := (blk_cell BK164.out 2).trans rfl
              have hcz28_3 : wc.cell? ⟨gb164, 3, none⟩ = some (.int .i64 a0_3) := (blk_cell BK164.out 3).trans rfl
              have hcz28_4 : wc.cell? ⟨gb164, 4, none⟩ = some (.string a0_4) := (blk_cell BK164.out 4).trans rfl
              have hfz28_0 := blk_frozen BK164.out 0
              have hfz28_1 := blk_frozen BK164.out 1
              have hfz28_2 := blk_frozen BK164.out 2
              have hfz28_3 := blk_frozen BK164.out 3
              have hfz28_4 := blk_frozen BK164.out 4
              have hcz29_0 : wc.cell? ⟨gb165, 0, none⟩ = some (.bool a1_0) := (blk_cell BK165.out 0).trans rfl
              have hcz29_1 : wc.cell? ⟨gb165, 1, none⟩ = some (.int .i64 a1_1) := (blk_cell BK165.out 1).trans rfl
              have hcz29_2 : wc.cell? ⟨gb165, 2, none⟩ = some (.string a1_2) := (blk_cell BK165.out 2).trans rfl
              have hfz29_0 := blk_frozen BK165.out 0
              have hfz29_1 := blk_frozen BK165.out 1
              have hfz29_2 := blk_frozen BK165.out 2
              go_wp2_with (first | (go_at_call 66; (with_reducible refine (tithebarnref02_Ahead.calls kj2 a1_0 a1_1 a1_2 a0_2 a0_3 a0_4 t167 _ A26.out).mono ?_); rintro e w30 ⟨rfl, hb⟩; have n0_ := Aside0.mk (blk_below (g := gb164) (o := .cells #[.int .i64 a0_0, .int .i64 a0_1, .bool a0_2, .int .i64 a0_3, .string a0_4] 25 (0, 0)) (by (with_reducible repeat (first | refine blk_drewN ?_ _ | refine blk_drew ?_ | refine blk_alloc ?_ _)); exact BK164.out) hb); have n1_ := Aside0.mk (blk_below (g := gb165) (o := .cells #[.bool a1_0, .int .i64 a1_1, .string a1_2] 23 (0, 0)) (by (with_reducible repeat (first | refine blk_drewN ?_ _ | refine blk_drew ?_ | refine blk_alloc ?_ _)); exact BK165.out) hb); have n2_ := Aside0.mk (below_step (by repeat (first | (with_reducible first | exact HB.out | apply below_alloc | apply pw_below_drewN | apply below_drew1 | refine below_set ?_ GE164.out | refine below_set ?_ GE165.out) | exact HB.out)) hb); clear BK164; clear BK165; clear HB; have BK164 := n0_; have BK165 := n1_; have HB := n2_; clear n0_ n1_ n2_; (try clear hb); (try clear hb2); (try clear hk); (try clear hi)))
              go_ret
              exact ⟨by first | rfl | (simp [errW_none, errW_some] <;> rfl) | (simp [*, errW_none, errW_some] <;> rfl), by repeat (first | (with_reducible first | exact HB.out | apply below_alloc | apply pw_below_drewN | apply below_drew1 | refine below_set ?_ GE164.out | refine below_set ?_ GE165.out) | exact HB.out)⟩
            · replace c25 := Bool.eq_false_iff.mpr c25
              subst c25
              have H1 : (some false) = some r := by rw [if_neg (show ¬ (false = true) by decide)] at H; exact H
              clear H
              have H := H1
              clear H1
              obtain rfl := Option.some.inj H
              have hnb31 := NB164_165.out
              have hnc31 := NB165_164.out
              have hcz32_0 : wc.cell? ⟨gb164, 0, none⟩ = some (.int .i64 a0_0) := (blk_cell BK164.out 0).trans rfl
              have hcz32_1 : wc.cell? ⟨gb164, 1, none⟩ = some (.int .i64 a0_1) := (blk_cell BK164.out 1).trans rfl
              have hcz32_2 : wc.cell? ⟨gb164, 2, none⟩ = some (.bool a0_2) := (blk_cell BK164.out 2).trans rfl
              have hcz32_3 : wc.cell? ⟨gb164, 3, none⟩ = some (.int .i64 a0_3) := (blk_cell BK164.out 3).trans rfl
              have hcz32_4 : wc.cell? ⟨gb164, 4, none⟩ = some (.string a0_4) := (blk_cell BK164.out 4).trans rfl
              have hfz32_0 := blk_frozen BK164.out 0
              have hfz32_1 := blk_frozen BK164.out 1
              have hfz32_2 := blk_frozen BK164.out 2
              have hfz32_3 := blk_frozen BK164.out 3
              have hfz32_4 := blk_frozen BK164.out 4
              go_wp2
              go_ret
              exact ⟨by first | rfl | (simp [errW_none, errW_some] <;> rfl) | (simp [*, errW_none, errW_some] <;> rfl), by repeat (first | (with_reducible first | exact HB.out | apply below_alloc | apply pw_below_drewN | apply below_drew1 | refine below_set ?_ GE164.out | refine below_set ?_ GE165.out) | exact HB.out)⟩
          · rw [if_neg c24] at H
            have c24b0 : (a0_0 == 2) = false := beq_eq_false_iff_ne.mpr c24
            have c24b1 : (a0_0 != 2) = true := bne_iff_ne.mpr c24
            by_cases c33 : a0_0 = 3
            · rw [if_pos c33] at H
              have c33b0 : (a0_0 == 3) = true := beq_iff_eq.mpr c33
              have c33b1 : (a0_0 != 3) = false := bne_eq_false_iff_eq.mpr c33
              clear c33
              by_cases c34 : x5_2 = true
              · subst c34
                have H1 : ((tithebarnref02_Ahead.f kj2 a1_0 a1_1 a1_2 a0_2 a0_3 a0_4).bind fun t168 => (some (!t168))) = some r := by rw [if_pos rfl] at H; exact H
                clear H
                have H := H1
                clear H1
                replace H := Option.bind_eq_some_iff.mp H
                obtain ⟨t168, A350, H⟩ := H
                replace H : (some (!t168)) = some r := H
                have A35 := Aside0.mk A350
                clear A350
                obtain rfl := Option.some.inj H
                have hnb36 := NB164_165.out
                have hnc36 := NB165_164.out
                have hcz37_0 : wc.cell? ⟨gb164, 0, none⟩ = some (.int .i64 a0_0) := (blk_cell BK164.out 0).trans rfl
                have hcz37_1 : wc.cell? ⟨gb164, 1, none⟩ = some (.int .i64 a0_1) := (blk_cell BK164.out 1).trans rfl
                have hcz37_2 : wc.cell? ⟨gb164, 2, none⟩ = some (.bool a0_2) := (blk_cell BK164.out 2).trans rfl
                have hcz37_3 : wc.cell? ⟨gb164, 3, none⟩ = some (.int .i64 a0_3) := (blk_cell BK164.out 3).trans rfl
                have hcz37_4 : wc.cell? ⟨gb164, 4, none⟩ = some (.string a0_4) := (blk_cell BK164.out 4).trans rfl
                have hfz37_0 := blk_frozen BK164.out 0
                have hfz37_1 := blk_frozen BK164.out 1
                have hfz37_2 := blk_frozen BK164.out 2
                have hfz37_3 := blk_frozen BK164.out 3
                have hfz37_4 := blk_frozen BK164.out 4
                have hcz38_0 : wc.cell? ⟨gb165, 0, none⟩ = some (.bool a1_0) := (blk_cell BK165.out 0).trans rfl
                have hcz38_1 : wc.cell? ⟨gb165, 1, none⟩ = some (.int .i64 a1_1) := (blk_cell BK165.out 1).trans rfl
                have hcz38_2 : wc.cell? ⟨gb165, 2, none⟩ = some (.string a1_2) := (blk_cell BK165.out 2).trans rfl
                have hfz38_0 := blk_frozen BK165.out 0
                have hfz38_1 := blk_frozen BK165.out 1
                have hfz38_2 := blk_frozen BK165.out 2
                go_wp2_with (first | (go_at_call 66; (with_reducible refine (tithebarnref02_Ahead.calls kj2 a1_0 a1_1 a1_2 a0_2 a0_3 a0_4 t168 _ A35.out).mono ?_); rintro e w39 ⟨rfl, hb⟩; have n0_ := Aside0.mk (blk_below (g := gb164) (o := .cells #[.int .i64 a0_0, .int .i64 a0_1, .bool a0_2, .int .i64 a0_3, .string a0_4] 25 (0, 0)) (by (with_reducible repeat (first | refine blk_drewN ?_ _ | refine blk_drew ?_ | refine blk_alloc ?_ _)); exact BK164.out) hb); have n1_ := Aside0.mk (blk_below (g := gb165) (o := .cells #[.bool a1_0, .int .i64 a1_1, .string a1_2] 23 (0, 0)) (by (with_reducible repeat (first | refine blk_drewN ?_ _ | refine blk_drew ?_ | refine blk_alloc ?_ _)); exact BK165.out) hb); have n2_ := Aside0.mk (below_step (by repeat (first | (with_reducible first | exact HB.out | apply below_alloc | apply pw_below_drewN | apply below_drew1 | refine below_set ?_ GE164.out | refine below_set ?_ GE165.out) | exact HB.out)) hb); clear BK164; clear BK165; clear HB; have BK164 := n0_; have BK165 := n1_; have HB := n2_; clear n0_ n1_ n2_; (try clear hb); (try clear hb2); (try clear hk); (try clear hi)))
                go_ret
                exact ⟨by first | rfl | (simp [errW_none, errW_some] <;> rfl) | (simp [*, errW_none, errW_some] <;> rfl), by repeat (first | (with_reducible first | exact HB.out | apply below_alloc | apply pw_below_drewN | apply below_drew1 | refine below_set ?_ GE164.out | refine below_set ?_ GE165.out) | exact HB.out)⟩
              · replace c34 := Bool.eq_false_iff.mpr c34
                subst c34
                have H1 : (some false) = some r := by rw [if_neg (show ¬ (false = true) by decide)] at H; exact H
                clear H
                have H := H1
                clear H1
                obtain rfl := Option.some.inj H
                have hnb40 := NB164_165.out
                have hnc40 := NB165_164.out
                have hcz41_0 : wc.cell? ⟨gb164, 0, none⟩ = some (.int .i64 a0_0) := (blk_cell BK164.out 0).trans rfl
                have hcz41_1 : wc.cell? ⟨gb164, 1, none⟩ = some (.int .i64 a0_1) := (blk_cell BK164.out 1).trans rfl
                have hcz41_2 : wc.cell? ⟨gb164, 2, none⟩ = some (.bool a0_2) := (blk_cell BK164.out 2).trans rfl
                have hcz41_3 : wc.cell? ⟨gb164, 3, none⟩ = some (.int .i64 a0_3) := (blk_cell BK164.out 3).trans rfl
                have hcz41_4 : wc.cell? ⟨gb164, 4, none⟩ = some (.string a0_4) := (blk_cell BK164.out 4).trans rfl
                have hfz41_0 := blk_frozen BK164.out 0
                have hfz41_1 := blk_frozen BK164.out 1
                have hfz41_2 := blk_frozen BK164.out 2
                have hfz41_3 := blk_frozen BK164.out 3
                have hfz41_4 := blk_frozen BK164.out 4
                go_wp2
                go_ret
                exact ⟨by first | rfl | (simp [errW_none, errW_some] <;> rfl) | (simp [*, errW_none, errW_some] <;> rfl), by repeat (first | (with_reducible first | exact HB.out | apply below_alloc | apply pw_below_drewN | apply below_drew1 | refine below_set ?_ GE164.out | refine below_set ?_ GE165.out) | exact HB.out)⟩
            · rw [if_neg c33] at H
              have c33b0 : (a0_0 == 3) = false := beq_eq_false_iff_ne.mpr c33
              have c33b1 : (a0_0 != 3) = true := bne_iff_ne.mpr c33
              by_cases c42 : a0_0 = 4
              · rw [if_pos c42] at H
                have c42b0 : (a0_0 == 4) = true := beq_iff_eq.mpr c42
                have c42b1 : (a0_0 != 4) = false := bne_eq_false_iff_eq.mpr c42
                clear c42
                obtain rfl := Option.some.inj H
                have hnb43 := NB164_165.out
                have hnc43 := NB165_164.out
                have hcz44_0 : wc.cell? ⟨gb164, 0, none⟩ = some (.int .i64 a0_0) := (blk_cell BK164.out 0).trans rfl
                have hcz44_1 : wc.cell? ⟨gb164, 1, none⟩ = some (.int .i64 a0_1) := (blk_cell BK164.out 1).trans rfl
                have hcz44_2 : wc.cell? ⟨gb164, 2, none⟩ = some (.bool a0_2) := (blk_cell BK164.out 2).trans rfl
                have hcz44_3 : wc.cell? ⟨gb164, 3, none⟩ = some (.int .i64 a0_3) := (blk_cell BK164.out 3).trans rfl
                have hcz44_4 : wc.cell? ⟨gb164, 4, none⟩ = some (.string a0_4) := (blk_cell BK164.out 4).trans rfl
                have hfz44_0 := blk_frozen BK164.out 0
                have hfz44_1 := blk_frozen BK164.out 1
                have hfz44_2 := blk_frozen BK164.out 2
                have hfz44_3 := blk_frozen BK164.out 3
                have hfz44_4 := blk_frozen BK164.out 4
                have hcz45_0 : wc.cell? ⟨gb165, 0, none⟩ = some (.bool a1_0) := (blk_cell BK165.out 0).trans rfl
                have hcz45_1 : wc.cell? ⟨gb165, 1, none⟩ = some (.int .i64 a1_1) := (blk_cell BK165.out 1).trans rfl
                have hcz45_2 : wc.cell? ⟨gb165, 2, none⟩ = some (.string a1_2) := (blk_cell BK165.out 2).trans rfl
                have hfz45_0 := blk_frozen BK165.out 0
                have hfz45_1 := blk_frozen BK165.out 1
                have hfz45_2 := blk_frozen BK165.out 2
                go_wp2
                go_ret
                exact ⟨by first | rfl | (simp [errW_none, errW_some] <;> rfl) | (simp [*, errW_none, errW_some] <;> rfl), by repeat (first | (with_reducible first | exact HB.out | apply below_alloc | apply pw_below_drewN | apply below_drew1 | refine below_set ?_ GE164.out | refine below_set ?_ GE165.out) | exact HB.out)⟩
              · rw [if_neg c42] at H
                have c42b0 : (a0_0 == 4) = false := beq_eq_false_iff_ne.mpr c42
                have c42b1 : (a0_0 != 4) = true := bne_iff_ne.mpr c42
                by_cases c46 : a0_0 = 5
                · rw [if_pos c46] at H
                  have c46b0 : (a0_0 == 5) = true := beq_iff_eq.mpr c46
                  have c46b1 : (a0_0 != 5) = false := bne_eq_false_iff_eq.mpr c46
                  clear c46
                  obtain rfl := Option.some.inj H
                  have hnb47 := NB164_165.out
                  have hnc47 := NB165_164.out
                  have hcz48_0 : wc.cell? ⟨gb164, 0, none⟩ = some (.int .i64 a0_0) := (blk_cell BK164.out 0).trans rfl
                  have hcz48_1 : wc.cell? ⟨gb164, 1, none⟩ = some (.int .i64 a0_1) := (blk_cell BK164.out 1).trans rfl
                  have hcz48_2 : wc.cell? ⟨gb164, 2, none⟩ = some (.bool a0_2) := (blk_cell BK164.out 2).trans rfl
                  have hcz48_3 : wc.cell? ⟨gb164, 3, none⟩ = some (.int .i64 a0_3) := (blk_cell BK164.out 3).trans rfl
                  have hcz48_4 : wc.cell? ⟨gb164, 4, none⟩ = some (.string a0_4) := (blk_cell BK164.out 4).trans rfl
                  have hfz48_0 := blk_frozen BK164.out 0
                  have hfz48_1 := blk_frozen BK164.out 1
                  have hfz48_2 := blk_frozen BK164.out 2
                  have hfz48_3 := blk_frozen BK164.out 3
                  have hfz48_4 := blk_frozen BK164.out 4
                  have hcz49_0 : wc.cell? ⟨gb165, 0, none⟩ = some (.bool a1_0) := (blk_cell BK165.out 0).trans rfl
                  have hcz49_1 : wc.cell? ⟨gb165, 1, none⟩ = some (.int .i64 a1_1) := (blk_cell BK165.out 1).trans rfl
                  have hcz49_2 : wc.cell? ⟨gb165, 2, none⟩ = some (.string a1_2) := (blk_cell BK165.out 2).trans rfl
                  have hfz49_0 := blk_frozen BK165.out 0
                  have hfz49_1 := blk_frozen BK165.out 1
                  have hfz49_2 := blk_frozen BK165.out 2
                  go_wp2
                  go_ret
                  exact ⟨by first | rfl | (simp [errW_none, errW_some] <;> rfl) | (simp [*, errW_none, errW_some] <;> rfl), by repeat (first | (with_reducible first | exact HB.out | apply below_alloc | apply pw_below_drewN | apply below_drew1 | refine below_set ?_ GE164.out | refine below_set ?_ GE165.out) | exact HB.out)⟩
                · rw [if_neg c46] at H
                  have c46b0 : (a0_0 == 5) = false := beq_eq_false_iff_ne.mpr c46
                  have c46b1 : (a0_0 != 5) = true := bne_iff_ne.mpr c46
                  obtain rfl := Option.some.inj H
                  have hnb50 := NB164_165.out
                  have hnc50 := NB165_164.out
                  have hcz51_0 : wc.cell? ⟨gb164, 0, none⟩ = some (.int .i64 a0_0) := (blk_cell BK164.out 0).trans rfl
                  have hcz51_1 : wc.cell? ⟨gb164, 1, none⟩ = some (.int .i64 a0_1) := (blk_cell BK164.out 1).trans rfl
                  have hcz51_2 : wc.cell? ⟨gb164, 2, none⟩ = some (.bool a0_2) := (blk_cell BK164.out 2).trans rfl
                  have hcz51_3 : wc.cell? ⟨gb164, 3, none⟩ = some (.int .i64 a0_3) := (blk_cell BK164.out 3).trans rfl
                  have hcz51_4 : wc.cell? ⟨gb164, 4, none⟩ = some (.string a0_4) := (blk_cell BK164.out 4).trans rfl
                  have hfz51_0 := blk_frozen BK164.out 0
                  have hfz51_1 := blk_frozen BK164.out 1
                  have hfz51_2 := blk_frozen BK164.out 2
                  have hfz51_3 := blk_frozen BK164.out 3
                  have hfz51_4 := blk_frozen BK164.out 4
                  go_wp2
                  go_ret
                  exact ⟨by first | rfl | (simp [errW_none, errW_some] <;> rfl) | (simp [*, errW_none, errW_some] <;> rfl), by repeat (first | (with_reducible first | exact HB.out | apply below_alloc | apply pw_below_drewN | apply below_drew1 | refine below_set ?_ GE164.out | refine below_set ?_ GE165.out) | exact HB.out)⟩

end Go.Proofs.YtglcajijmkianaaDoor.A
