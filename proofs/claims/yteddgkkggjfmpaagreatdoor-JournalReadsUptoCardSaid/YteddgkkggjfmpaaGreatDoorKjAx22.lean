/- Words and walks that the print wrote for this claim: those that the claim leans on (wip/shake.py). -/
import Derived.Test.YteddgkkggjfmpaaGreatDoorKjAx0
namespace Go.Proofs.YteddgkkggjfmpaaGreatDoor.A
open Go.RowKit Go.Proofs.YteddgkkggjfmpaaGreatDoorW.PrintWords Go.Proofs.YteddgkkggjfmpaaGreatDoorW.PrintLast Go.Proofs.YteddgkkggjfmpaaGreatDoorW.PrintMore
set_option linter.unusedVariables false
set_option linter.unusedSimpArgs false
def tithebarnref02_Is.f (a0 : Int) (a1_0 : Bool) (a1_1 : Int) (a1_2 : ByteArray) : Option (Bool) := if a1_0 = true then (if a1_1 = 0 then (some (a1_2.toList == ([] : List UInt8))) else (some false)) else (if a0 = 1 then (some (a1_2.toList == ([] : List UInt8))) else (if a0 = 2 then (if a1_1 = 0 then (some (decide ((a1_2.size : Int) ≤ 64))) else (some false)) else (some false)))
set_option maxHeartbeats 8000000 in
set_option maxRecDepth 100000 in
theorem tithebarnref02_Is.calls (a0 : Int) (a1_0 : Bool) (a1_1 : Int) (a1_2 : ByteArray) (r : Bool) (w : World) (h : tithebarnref02_Is.f a0 a1_0 a1_1 a1_2 = some r) :
    Calls Tryz.prog 111 #[.int .i64 a0, .agg #[.bool a1_0, .int .i64 a1_1, .string a1_2]] w fun e w' => e = .returned (.bool r) ∧ Below w.heap.size w w' := by
  have hu46 := Tryz.underlying46
  have HB := Aside0.mk (Below.refl w.heap.size w)
  have H : (if a1_0 = true then (if a1_1 = 0 then (some (a1_2.toList == ([] : List UInt8))) else (some false)) else (if a0 = 1 then (some (a1_2.toList == ([] : List UInt8))) else (if a0 = 2 then (if a1_1 = 0 then (some (decide ((a1_2.size : Int) ≤ 64))) else (some false)) else (some false)))) = some r := h
  clear h
  by_cases c3 : a1_0 = true
  · subst c3
    have H1 : (if a1_1 = 0 then (some (a1_2.toList == ([] : List UInt8))) else (some false)) = some r := by rw [if_pos rfl] at H; exact H
    clear H
    have H := H1
    clear H1
    by_cases c4 : a1_1 = 0
    · rw [if_pos c4] at H
      have c4b0 : (a1_1 == 0) = true := beq_iff_eq.mpr c4
      have c4b1 : (a1_1 != 0) = false := bne_eq_false_iff_eq.mpr c4
      clear c4
      obtain rfl := Option.some.inj H
      go_enter Tryz.func111, Tryz.ntmps111
      go_wp2_with (first | ((with_reducible refine gate_dst (N := 3) rfl ?_); (try (refine gate_guard (by rfl) ?_; dsimp only)); refine box_event ?hg (N := 3) ?hd (cs := #[.bool true, .int .i64 a1_1, .string a1_2]) (t := 46) ?hr ?_; (case hd => rfl); (case hg => rfl); (case hr => first | (go_simp; done) | (go_simp; rfl)); intro gb360 hg w5 hbox hb; have n0_ := Aside0.mk (below_step (by repeat (first | (with_reducible first | exact HB.out | apply below_alloc | apply pw_below_drewN | apply below_drew1) | exact HB.out)) hb); have n1_ := Aside0.mk (hbox); have n2_ := Aside0.mk ((by rw [hg]; exact (below_size (by repeat (first | (with_reducible first | exact HB.out | apply below_alloc | apply pw_below_drewN | apply below_drew1) | exact HB.out))) : w.heap.size ≤ gb360)); have n3_ := Aside0.mk ((by rw [hg]; exact (below_size (by repeat (first | (with_reducible first | exact HB.out | apply below_alloc | apply pw_below_drewN | apply below_drew1) | exact HB.out))) : w.heap.size ≤ gb360)); clear HB; have HB := n0_; have BK360 := n1_; have GW360 := n2_; have GE360 := n3_; clear n0_ n1_ n2_ n3_; clear hb hbox hg; have hcz6_0 : w5.cell? ⟨gb360, 0, none⟩ = some (.bool true) := (blk_cell BK360.out 0).trans rfl; have hcz6_1 : w5.cell? ⟨gb360, 1, none⟩ = some (.int .i64 a1_1) := (blk_cell BK360.out 1).trans rfl; have hcz6_2 : w5.cell? ⟨gb360, 2, none⟩ = some (.string a1_2) := (blk_cell BK360.out 2).trans rfl; have hfz6_0 := blk_frozen BK360.out 0; have hfz6_1 := blk_frozen BK360.out 1; have hfz6_2 := blk_frozen BK360.out 2))
      go_ret
      exact ⟨by first | rfl | (simp [errW_none, errW_some] <;> rfl) | (simp [*, errW_none, errW_some] <;> rfl), by repeat (first | (with_reducible first | exact HB.out | apply below_alloc | apply pw_below_drewN | apply below_drew1 | refine below_set ?_ GE360.out) | exact HB.out)⟩
    · rw [if_neg c4] at H
      have c4b0 : (a1_1 == 0) = false := beq_eq_false_iff_ne.mpr c4
      have c4b1 : (a1_1 != 0) = true := bne_iff_ne.mpr c4
      obtain rfl := Option.some.inj H
      go_enter Tryz.func111, Tryz.ntmps111
      go_wp2_with (first | ((with_reducible refine gate_dst (N := 3) rfl ?_); (try (refine gate_guard (by rfl) ?_; dsimp only)); refine box_event ?hg (N := 3) ?hd (cs := #[.bool true, .int .i64 a1_1, .string a1_2]) (t := 46) ?hr ?_; (case hd => rfl); (case hg => rfl); (case hr => first | (go_simp; done) | (go_simp; rfl)); intro gb360 hg w7 hbox hb; have n0_ := Aside0.mk (below_step (by repeat (first | (with_reducible first | exact HB.out | apply below_alloc | apply pw_below_drewN | apply below_drew1) | exact HB.out)) hb); have n1_ := Aside0.mk (hbox); have n2_ := Aside0.mk ((by rw [hg]; exact (below_size (by repeat (first | (with_reducible first | exact HB.out | apply below_alloc | apply pw_below_drewN | apply below_drew1) | exact HB.out))) : w.heap.size ≤ gb360)); have n3_ := Aside0.mk ((by rw [hg]; exact (below_size (by repeat (first | (with_reducible first | exact HB.out | apply below_alloc | apply pw_below_drewN | apply below_drew1) | exact HB.out))) : w.heap.size ≤ gb360)); clear HB; have HB := n0_; have BK360 := n1_; have GW360 := n2_; have GE360 := n3_; clear n0_ n1_ n2_ n3_; clear hb hbox hg; have hcz8_0 : w7.cell? ⟨gb360, 0, none⟩ = some (.bool true) := (blk_cell BK360.out 0).trans rfl; have hcz8_1 : w7.cell? ⟨gb360, 1, none⟩ = some (.int .i64 a1_1) := (blk_cell BK360.out 1).trans rfl; have hcz8_2 : w7.cell? ⟨gb360, 2, none⟩ = some (.string a1_2) := (blk_cell BK360.out 2).trans rfl; have hfz8_0 := blk_frozen BK360.out 0; have hfz8_1 := blk_frozen BK360.out 1; have hfz8_2 := blk_frozen BK360.out 2))
      go_ret
      exact ⟨by first | rfl | (simp [errW_none, errW_some] <;> rfl) | (simp [*, errW_none, errW_some] <;> rfl), by repeat (first | (with_reducible first | exact HB.out | apply below_alloc | apply pw_below_drewN | apply below_drew1 | refine below_set ?_ GE360.out) | exact HB.out)⟩
  · replace c3 := Bool.eq_false_iff.mpr c3
    subst c3
    have H1 : (if a0 = 1 then (some (a1_2.toList == ([] : List UInt8))) else (if a0 = 2 then (if a1_1 = 0 then (some (decide ((a1_2.size : Int) ≤ 64))) else (some false)) else (some false))) = some r := by rw [if_neg (show ¬ (false = true) by decide)] at H; exact H
    clear H
    have H := H1
    clear H1
    by_cases c9 : a0 = 1
    · rw [if_pos c9] at H
      have c9b0 : (a0 == 1) = true := beq_iff_eq.mpr c9
      have c9b1 : (a0 != 1) = false := bne_eq_false_iff_eq.mpr c9
      clear c9
      obtain rfl := Option.some.inj H
      go_enter Tryz.func111, Tryz.ntmps111
      go_wp2_with (first | ((with_reducible refine gate_dst (N := 3) rfl ?_); (try (refine gate_guard (by rfl) ?_; dsimp only)); refine box_event ?hg (N := 3) ?hd (cs := #[.bool false, .int .i64 a1_1, .string a1_2]) (t := 46) ?hr ?_; (case hd => rfl); (case hg => rfl); (case hr => first | (go_simp; done) | (go_simp; rfl)); intro gb360 hg w10 hbox hb; have n0_ := Aside0.mk (below_step (by repeat (first | (with_reducible first | exact HB.out | apply below_alloc | apply pw_below_drewN | apply below_drew1) | exact HB.out)) hb); have n1_ := Aside0.mk (hbox); have n2_ := Aside0.mk ((by rw [hg]; exact (below_size (by repeat (first | (with_reducible first | exact HB.out | apply below_alloc | apply pw_below_drewN | apply below_drew1) | exact HB.out))) : w.heap.size ≤ gb360)); have n3_ := Aside0.mk ((by rw [hg]; exact (below_size (by repeat (first | (with_reducible first | exact HB.out | apply below_alloc | apply pw_below_drewN | apply below_drew1) | exact HB.out))) : w.heap.size ≤ gb360)); clear HB; have HB := n0_; have BK360 := n1_; have GW360 := n2_; have GE360 := n3_; clear n0_ n1_ n2_ n3_; clear hb hbox hg; have hcz11_0 : w10.cell? ⟨gb360, 0, none⟩ = some (.bool false) := (blk_cell BK360.out 0).trans rfl; have hcz11_1 : w10.cell? ⟨gb360, 1, none⟩ = some (.int .i64 a1_1) := (blk_cell BK360.out 1).trans rfl; have hcz11_2 : w10.cell? ⟨gb360, 2, none⟩ = some (.string a1_2) := (blk_cell BK360.out 2).trans rfl; have hfz11_0 := blk_frozen BK360.out 0; have hfz11_1 := blk_frozen BK360.out 1; have hfz11_2 := blk_frozen BK360.out 2))
      go_ret
      exact ⟨by first | rfl | (simp [errW_none, errW_some] <;> rfl) | (simp [*, errW_none, errW_some] <;> rfl), by repeat (first | (with_reducible first | exact HB.out | apply below_alloc | apply pw_below_drewN | apply below_drew1 | refine below_set ?_ GE360.out) | exact HB.out)⟩
    · rw [if_neg c9] at H
      have c9b0 : (a0 == 1) = false := beq_eq_false_iff_ne.mpr c9
      have c9b1 : (a0 != 1) = true := bne_iff_ne.mpr c9
      by_cases c12 : a0 = 2
      · rw [if_pos c12] at H
        have c12b0 : (a0 == 2) = true := beq_iff_eq.mpr c12
        have c12b1 : (a0 != 2) = false := bne_eq_false_iff_eq.mpr c12
        clear c12
        by_cases c13 : a1_1 = 0
        · rw [if_pos c13] at H
          have c13b0 : (a1_1 == 0) = true := beq_iff_eq.mpr c13
          have c13b1 : (a1_1 != 0) = false := bne_eq_false_iff_eq.mpr c13
          clear c13
          obtain rfl := Option.some.inj H
          go_enter Tryz.func111, Tryz.ntmps111
          go_wp2_with (first | ((with_reducible refine gate_dst (N := 3) rfl ?_); (try (refine gate_guard (by rfl) ?_; dsimp only)); refine box_event ?hg (N := 3) ?hd (cs := #[.bool false, .int .i64 a1_1, .string a1_2]) (t := 46) ?hr ?_; (case hd => rfl); (case hg => rfl); (case hr => first | (go_simp; done) | (go_simp; rfl)); intro gb360 hg w14 hbox hb; have n0_ := Aside0.mk (below_step (by repeat (first | (with_reducible first | exact HB.out | apply below_alloc | apply pw_below_drewN | apply below_drew1) | exact HB.out)) hb); have n1_ := Aside0.mk (hbox); have n2_ := Aside0.mk ((by rw [hg]; exact (below_size (by repeat (first | (with_reducible first | exact HB.out | apply below_alloc | apply pw_below_drewN | apply below_drew1) | exact HB.out))) : w.heap.size ≤ gb360)); have n3_ := Aside0.mk ((by rw [hg]; exact (below_size (by repeat (first | (with_reducible first | exact HB.out | apply below_alloc | apply pw_below_drewN | apply below_drew1) | exact HB.out))) : w.heap.size ≤ gb360)); clear HB; have HB := n0_; have BK360 := n1_; have GW360 := n2_; have GE360 := n3_; clear n0_ n1_ n2_ n3_; clear hb hbox hg; have hcz15_0 : w14.cell? ⟨gb360, 0, none⟩ = some (.bool false) := (blk_cell BK360.out 0).trans rfl; have hcz15_1 : w14.cell? ⟨gb360, 1, none⟩ = some (.int .i64 a1_1) := (blk_cell BK360.out 1).trans rfl; have hcz15_2 : w14.cell? ⟨gb360, 2, none⟩ = some (.string a1_2) := (blk_cell BK360.out 2).trans rfl; have hfz15_0 := blk_frozen BK360.out 0; have hfz15_1 := blk_frozen BK360.out 1; have hfz15_2 := blk_frozen BK360.out 2))
          go_ret
          exact ⟨by first | rfl | (simp [errW_none, errW_some] <;> rfl) | (simp [*, errW_none, errW_some] <;> rfl), by repeat (first | (with_reducible first | exact HB.out | apply below_alloc | apply pw_below_drewN | apply below_drew1 | refine below_set ?_ GE360.out) | exact HB.out)⟩
        · rw [if_neg c13] at H
          have c13b0 : (a1_1 == 0) = false := beq_eq_false_iff_ne.mpr c13
          have c13b1 : (a1_1 != 0) = true := bne_iff_ne.mpr c13
          obtain rfl := Option.some.inj H
          go_enter Tryz.func111, Tryz.ntmps111
          go_wp2_with (first | ((with_reducible refine gate_dst (N := 3) rfl ?_); (try (refine gate_guard (by rfl) ?_; dsimp only)); refine box_event ?hg (N := 3) ?hd (cs := #[.bool false, .int .i64 a1_1, .string a1_2]) (t := 46) ?hr ?_; (case hd => rfl); (case hg => rfl); (case hr => first | (go_simp; done) | (go_simp; rfl)); intro gb360 hg w16 hbox hb; have n0_ := Aside0.mk (below_step (by repeat (first | (with_reducible first | exact HB.out | apply below_alloc | apply pw_below_drewN | apply below_drew1) | exact HB.out)) hb); have n1_ := Aside0.mk (hbox); have n2_ := Aside0.mk ((by rw [hg]; exact (below_size (by repeat (first | (with_reducible first | exact HB.out | apply below_alloc | apply pw_below_drewN | apply below_drew1) | exact HB.out))) : w.heap.size ≤ gb360)); have n3_ := Aside0.mk ((by rw [hg]; exact (below_size (by repeat (first | (with_reducible first | exact HB.out | apply below_alloc | apply pw_below_drewN | apply below_drew1) | exact HB.out))) : w.heap.size ≤ gb360)); clear HB; have HB := n0_; have BK360 := n1_; have GW360 := n2_; have GE360 := n3_; clear n0_ n1_ n2_ n3_; clear hb hbox hg; have hcz17_0 : w16.cell? ⟨gb360, 0, none⟩ = some (.bool false) := (blk_cell BK360.out 0).trans rfl; have hcz17_1 : w16.cell? ⟨gb360, 1, none⟩ = some (.int .i64 a1_1) := (blk_cell BK360.out 1).trans rfl; have hcz17_2 : w16.cell? ⟨gb360, 2, none⟩ = some (.string a1_2) := (blk_cell BK360.out 2).trans rfl; have hfz17_0 := blk_frozen BK360.out 0; have hfz17_1 := blk_frozen BK360.out 1; have hfz17_2 := blk_frozen BK360.out 2))
          go_ret
          exact ⟨by first | rfl | (simp [errW_none, errW_some] <;> rfl) | (simp [*, errW_none, errW_some] <;> rfl), by repeat (first | (with_reducible first | exact HB.out | apply below_alloc | apply pw_below_drewN | apply below_drew1 | refine below_set ?_ GE360.out) | exact HB.out)⟩
      · rw [if_neg c12] at H
        have c12b0 : (a0 == 2) = false := beq_eq_false_iff_ne.mpr c12
        have c12b1 : (a0 != 2) = true := bne_iff_ne.mpr c12
        obtain rfl := Option.some.inj H
        go_enter Tryz.func111, Tryz.ntmps111
        go_wp2_with (first | ((with_reducible refine gate_dst (N := 3) rfl ?_); (try (refine gate_guard (by rfl) ?_; dsimp only)); refine box_event ?hg (N := 3) ?hd (cs := #[.bool false, .int .i64 a1_1, .string a1_2]) (t := 46) ?hr ?_; (case hd => rfl); (case hg => rfl); (case hr => first | (go_simp; done) | (go_simp; rfl)); intro gb360 hg w18 hbox hb; have n0_ := Aside0.mk (below_step (by repeat (first | (with_reducible first | exact HB.out | apply below_alloc | apply pw_below_drewN | apply below_drew1) | exact HB.out)) hb); have n1_ := Aside0.mk (hbox); have n2_ := Aside0.mk ((by rw [hg]; exact (below_size (by repeat (first | (with_reducible first | exact HB.out | apply below_alloc | apply pw_below_drewN | apply below_drew1) | exact HB.out))) : w.heap.size ≤ gb360)); have n3_ := Aside0.mk ((by rw [hg]; exact (below_size (by repeat (first | (with_reducible first | exact HB.out | apply below_alloc | apply pw_below_drewN | apply below_drew1) | exact HB.out))) : w.heap.size ≤ gb360)); clear HB; have HB := n0_; have BK360 := n1_; have GW360 := n2_; have GE360 := n3_; clear n0_ n1_ n2_ n3_; clear hb hbox hg; have hcz19_0 : w18.cell? ⟨gb360, 0, none⟩ = some (.bool false) := (blk_cell BK360.out 0).trans rfl; have hcz19_1 : w18.cell? ⟨gb360, 1, none⟩ = some (.int .i64 a1_1) := (blk_cell BK360.out 1).trans rfl; have hcz19_2 : w18.cell? ⟨gb360, 2, none⟩ = some (.string a1_2) := (blk_cell BK360.out 2).trans rfl; have hfz19_0 := blk_frozen BK360.out 0; have hfz19_1 := blk_frozen BK360.out 1; have hfz19_2 := blk_frozen BK360.out 2))
        go_ret
        exact ⟨by first | rfl | (simp [errW_none, errW_some] <;> rfl) | (simp [*, errW_none, errW_some] <;> rfl), by repeat (first | (with_reducible first | exact HB.out | apply below_alloc | apply pw_below_drewN | apply below_drew1 | refine below_set ?_ GE360.out) | exact HB.out)⟩
end Go.Proofs.YteddgkkggjfmpaaGreatDoor.A
