/- Words and walks that the print wrote for this claim: those that the claim leans on (wip/shake.py). -/
import Derived.Test.YtglcajijmkianaaDoorKAx0
import Derived.Test.YtglcajijmkianaaDoorKAx13
import Derived.Test.YtglcajijmkianaaDoorKHRMay2
namespace Go.Proofs.YtglcajijmkianaaDoor.A
open Go.RowKit Go.Proofs.YtglcajijmkianaaDoorW.PrintWords Go.Proofs.YtglcajijmkianaaDoorW.PrintLast Go.Proofs.YtglcajijmkianaaDoorW.PrintMore
set_option linter.unusedVariables false
set_option linter.unusedSimpArgs false
mutual
def tithebarnref23_Known.j0 : Nat → List (S72) → Bool → Bool → Int → Int → Int → Bool → Int → ByteArray → List (S28) → Option (Bool)
  | 0, _, _, _, _, _, _, _, _, _, _ => none
  | k + 1, x1, x2, x23, x236000, x236001, x236002, x236003, x236004, x236005, x236006 => if x23 = true then (some false) else (if x2 = true then (if 0 ≤ x236002 then (if x236002 < (x1.length : Int) then ((tithebarnref23_must.f k x236001 x236002 x236003 x236004 x236005 ((rd_T72 x1 x236002).f0) ((rd_T72 x1 x236002).f1) ((rd_T72 x1 x236002).f2.f0) ((rd_T72 x1 x236002).f2.f1) ((rd_T72 x1 x236002).f2.f2) ((rd_T72 x1 x236002).f3.f0) ((rd_T72 x1 x236002).f3.f1) ((rd_T72 x1 x236002).f3.f2)).bind fun t237 => (some t237)) else (none)) else (none)) else (if 0 ≤ x236002 then (if x236002 < (x1.length : Int) then ((tithebarnref11_May.f k x236001 x236002 x236003 x236004 x236005 ((rd_T72 x1 x236002).f0) ((rd_T72 x1 x236002).f1) ((rd_T72 x1 x236002).f2.f0) ((rd_T72 x1 x236002).f2.f1) ((rd_T72 x1 x236002).f2.f2) ((rd_T72 x1 x236002).f3.f0) ((rd_T72 x1 x236002).f3.f1) ((rd_T72 x1 x236002).f3.f2)).bind fun t239 => (some t239)) else (none)) else (none)))
def tithebarnref23_Known.j1 : Nat → List (S72) → Bool → Int → Bool → Int → Int → Int → Bool → Int → ByteArray → List (S28) → Option (Bool)
  | 0, _, _, _, _, _, _, _, _, _, _, _ => none
  | k + 1, x1, x2, x9, x43, x236000, x236001, x236002, x236003, x236004, x236005, x236006 => if x43 = true then (tithebarnref23_Known.l0 k x1 x2 0 x236000 x236001 x236002 x236003 x236004 x236005 x236006) else (if x9 = 4 then (if (x236006.length : Int) = 0 then (some true) else (if 0 < (x236006.length : Int) then ((tithebarnref23_Known.f k ((rd_T28 x236006 0).f0) ((rd_T28 x236006 0).f1.f0) ((rd_T28 x236006 0).f1.f1) ((rd_T28 x236006 0).f1.f2.f0) ((rd_T28 x236006 0).f1.f2.f1) ((rd_T28 x236006 0).f1.f2.f2) ((rd_T28 x236006 0).f2) x1 (!x2)).bind fun t243 => (some (!t243))) else (none))) else (some false))
def tithebarnref23_Known.l0 : Nat → List (S72) → Bool → Int → Int → Int → Int → Bool → Int → ByteArray → List (S28) → Option (Bool)
  | 0, _, _, _, _, _, _, _, _, _, _ => none
  | k + 1, x1, x2, x7, x236000, x236001, x236002, x236003, x236004, x236005, x236006 => if x7 < (x236006.length : Int) then (if 0 ≤ x7 then ((tithebarnref23_Known.f k ((rd_T28 x236006 x7).f0) ((rd_T28 x236006 x7).f1.f0) ((rd_T28 x236006 x7).f1.f1) ((rd_T28 x236006 x7).f1.f2.f0) ((rd_T28 x236006 x7).f1.f2.f1) ((rd_T28 x236006 x7).f1.f2.f2) ((rd_T28 x236006 x7).f2) x1 x2).bind fun t241 => (if (t241 != (x236000 == 2)) = true then (some (x236000 == 3)) else (tithebarnref23_Known.l0 k x1 x2 (wrap64 (x7 + 1)) x236000 x236001 x236002 x236003 x236004 x236005 x236006))) else (none)) else (some (x236000 == 2))
def tithebarnref23_Known.f : Nat → Int → Int → Int → Bool → Int → ByteArray → List (S28) → List (S72) → Bool → Option (Bool)
  | 0, _, _, _, _, _, _, _, _, _ => none
  | k + 1, a0_0, a0_1, a0_2, a0_3, a0_4, a0_5, l0_6, l1, a2 => if a0_0 = 1 then (if a0_2 < 0 then (tithebarnref23_Known.j0 k l1 a2 true a0_0 a0_1 a0_2 a0_3 a0_4 a0_5 l0_6) else (tithebarnref23_Known.j0 k l1 a2 (decide (a0_2 ≥ (l1.length : Int))) a0_0 a0_1 a0_2 a0_3 a0_4 a0_5 l0_6)) else (if a0_0 = 2 then (tithebarnref23_Known.j1 k l1 a2 a0_0 (a0_0 == 2) a0_0 a0_1 a0_2 a0_3 a0_4 a0_5 l0_6) else (tithebarnref23_Known.j1 k l1 a2 a0_0 (a0_0 == 3) a0_0 a0_1 a0_2 a0_3 a0_4 a0_5 l0_6))
end
def tithebarnref23_Known.T6 : Bool × List (List Nat × List Nat) := (true, [([], []), ([0], [0]), ([], []), ([], []), ([3], [3]), ([4], [4]), ([2, 5], [2, 5]), ([6], [6]), ([1, 7], [1, 7]), ([8, 8, 0, 1, 2, 3, 4, 5, 6, 7, 8], [8])])
def tithebarnref23_Known.B6 : List Nat := [0, 1, 0, 0, 8, 24, 60, 124, 255, 511]
theorem tithebarnref23_Known.tab6 : rtab .any (opsOf Tryd.f22 6) = tithebarnref23_Known.T6 := by kernel_rfl
theorem tithebarnref23_Known.bits6 : waitsOk tithebarnref23_Known.T6.2 tithebarnref23_Known.B6 = true := by kernel_rfl
def tithebarnref23_Known.T7 : Bool × List (List Nat × List Nat) := (true, [([], []), ([0], [0]), ([], []), ([], []), ([3], [3]), ([4], [4]), ([2, 5], [2, 5]), ([6], [6]), ([1, 7], [1, 7]), ([8, 8, 0, 1, 2, 3, 4, 5, 6, 7, 8], [8])])
def tithebarnref23_Known.B7 : List Nat := [0, 1, 0, 0, 8, 24, 60, 124, 255, 511]
theorem tithebarnref23_Known.tab7 : rtab .any (opsOf Tryd.f22 7) = tithebarnref23_Known.T7 := by kernel_rfl
theorem tithebarnref23_Known.bits7 : waitsOk tithebarnref23_Known.T7.2 tithebarnref23_Known.B7 = true := by kernel_rfl
def tithebarnref23_Known.T13 : Bool × List (List Nat × List Nat) := (true, [([], []), ([0], [0]), ([], []), ([1, 2], [1, 2]), ([3], [3]), ([], []), ([], []), ([4, 5, 6], [4, 5, 6]), ([], []), ([8], [8]), ([9], [9]), ([7, 10], [7, 10])])
def tithebarnref23_Known.B13 : List Nat := [0, 1, 0, 7, 15, 0, 0, 127, 0, 256, 768, 2047]
theorem tithebarnref23_Known.tab13 : rtab .any (opsOf Tryd.f22 13) = tithebarnref23_Known.T13 := by kernel_rfl
theorem tithebarnref23_Known.bits13 : waitsOk tithebarnref23_Known.T13.2 tithebarnref23_Known.B13 = true := by kernel_rfl
set_option maxHeartbeats 8000000 in
set_option maxRecDepth 100000 in
theorem tithebarnref23_Known.calls (k : Nat) : ∀ (a0_0 : Int) (a0_1 : Int) (a0_2 : Int) (a0_3 : Bool) (a0_4 : Int) (a0_5 : ByteArray) (A0_6 : Option Addr) (c0_6 : Nat) (l0_6 : List (S28)) (A1 : Option Addr) (c1 : Nat) (l1 : List (S72)) (a2 : Bool) (r : Bool) (w : World) (hr0_6 : Kd.C k28 w A0_6 l0_6.length l0_6) (hc0_6 : l0_6.length ≤ c0_6) (hr1 : Kd.C k72 w A1 l1.length l1) (hc1 : l1.length ≤ c1) (h : tithebarnref23_Known.f k a0_0 a0_1 a0_2 a0_3 a0_4 a0_5 l0_6 l1 a2 = some r),
    Calls Tryd.prog 22 #[.agg #[.int .i64 a0_0, .int .i64 a0_1, .int .i64 a0_2, .bool a0_3, .int .i64 a0_4, .string a0_5, .slice A0_6 l0_6.length c0_6], .slice A1 l1.length c1, .bool a2] w fun e w' => e = .returned (.bool r) ∧ Below w.heap.size w w' := by
  induction k using Nat.strongRecOn with
  | _ k ih =>
  intro a0_0 a0_1 a0_2 a0_3 a0_4 a0_5 A0_6 c0_6 l0_6 A1 c1 l1 a2 r w hr0_6 hc0_6 hr1 hc1 h
  cases k with
  | zero => exact absurd h (by simp [tithebarnref23_Known.f])
  | succ k =>
  simp only [tithebarnref23_Known.f] at h
  have hu28 := Tryd.underlying28
  have hu25 := Tryd.underlying25
  have hu72 := Tryd.underlying72
  have HR0_6 := Aside0.mk hr0_6
  have HC0_6 := Aside0.mk hc0_6
  clear hr0_6 hc0_6
  have HR1 := Aside0.mk hr1
  have HC1 := Aside0.mk hc1
  clear hr1 hc1
  have HB := Aside0.mk (Below.refl w.heap.size w)
  have H : (if a0_0 = 1 then (if a0_2 < 0 then (tithebarnref23_Known.j0 k l1 a2 true a0_0 a0_1 a0_2 a0_3 a0_4 a0_5 l0_6) else (tithebarnref23_Known.j0 k l1 a2 (decide (a0_2 ≥ (l1.length : Int))) a0_0 a0_1 a0_2 a0_3 a0_4 a0_5 l0_6)) else (if a0_0 = 2 then (tithebarnref23_Known.j1 k l1 a2 a0_0 (a0_0 == 2) a0_0 a0_1 a0_2 a0_3 a0_4 a0_5 l0_6) else (tithebarnref23_Known.j1 k l1 a2 a0_0 (a0_0 == 3) a0_0 a0_1 a0_2 a0_3 a0_4 a0_5 l0_6))) = some r := h
  clear h
  by_cases c4 : a0_0 = 1
  · rw [if_pos c4] at H
    have c4b0 : (a0_0 == 1) = true := beq_iff_eq.mpr c4
    have c4b1 : (a0_0 != 1) = false := bne_eq_false_iff_eq.mpr c4
    clear c4
    have HC5 := Aside0.mk H
    clear H
    go_enter Tryd.func22, Tryd.ntmps22
    go_upto_region 3 with (first | ((with_reducible refine gate_dst (N := 3) rfl ?_); (try (refine gate_guard (by rfl) ?_; dsimp only)); refine box_event ?hg (N := 3) ?hd (cs := #[.int .i64 a0_0, .int .i64 a0_1, .int .i64 a0_2, .bool a0_3, .int .i64 a0_4, .string a0_5, .slice A0_6 l0_6.length c0_6]) (t := 28) ?hr ?_; (case hd => rfl); (case hg => rfl); (case hr => first | (go_simp; done) | (go_simp; rfl)); intro gb235 hg w6 hbox hb; have n0_ := Aside0.mk (below_step (by repeat (first | (with_reducible first | exact HB.out | apply below_alloc | apply pw_below_drewN | apply below_drew1) | exact HB.out)) hb); have n1_ := Aside0.mk (hbox); have n2_ := Aside0.mk ((by rw [hg]; exact (below_size (by repeat (first | (with_reducible first | exact HB.out | apply below_alloc | apply pw_below_drewN | apply below_drew1) | exact HB.out))) : w.heap.size ≤ gb235)); have n3_ := Aside0.mk ((by rw [hg]; exact (below_size (by repeat (first | (with_reducible first | exact HB.out | apply below_alloc | apply pw_below_drewN | apply below_drew1) | exact HB.out))) : w.heap.size ≤ gb235)); clear HB; have HB := n0_; have BK235 := n1_; have GW235 := n2_; have GE235 := n3_; clear n0_ n1_ n2_ n3_; clear hb hbox hg; have hcz7_0 : w6.cell? ⟨gb235, 0, none⟩ = some (.int .i64 a0_0) := (blk_cell BK235.out 0).trans rfl; have hcz7_1 : w6.cell? ⟨gb235, 1, none⟩ = some (.int .i64 a0_1) := (blk_cell BK235.out 1).trans rfl; have hcz7_2 : w6.cell? ⟨gb235, 2, none⟩ = some (.int .i64 a0_2) := (blk_cell BK235.out 2).trans rfl; have hcz7_3 : w6.cell? ⟨gb235, 3, none⟩ = some (.bool a0_3) := (blk_cell BK235.out 3).trans rfl; have hcz7_4 : w6.cell? ⟨gb235, 4, none⟩ = some (.int .i64 a0_4) := (blk_cell BK235.out 4).trans rfl; have hcz7_5 : w6.cell? ⟨gb235, 5, none⟩ = some (.string a0_5) := (blk_cell BK235.out 5).trans rfl; have hcz7_6 : w6.cell? ⟨gb235, 6, none⟩ = some (.slice A0_6 l0_6.length c0_6) := (blk_cell BK235.out 6).trans rfl; have hfz7_0 := blk_frozen BK235.out 0; have hfz7_1 := blk_frozen BK235.out 1; have hfz7_2 := blk_frozen BK235.out 2; have hfz7_3 := blk_frozen BK235.out 3; have hfz7_4 := blk_frozen BK235.out 4; have hfz7_5 := blk_frozen BK235.out 5; have hfz7_6 := blk_frozen BK235.out 6))
    (try simp only [Act.put, List.setIfInBounds_toArray, List.set_cons_zero, List.set_cons_succ])
    go_cut [23] (fun v23 wc => ∃ (kq : Nat) (x23_4 : Bool), v23 = .bool x23_4 ∧ Aside0 (tithebarnref23_Known.j0 kq l1 a2 x23_4 a0_0 a0_1 a0_2 a0_3 a0_4 a0_5 l0_6 = some r) ∧ Aside0 (kq ≤ k) ∧ Aside0 (wc.heap[gb235]? = some (.cells #[.int .i64 a0_0, .int .i64 a0_1, .int .i64 a0_2, .bool a0_3, .int .i64 a0_4, .string a0_5, (.slice A0_6 l0_6.length c0_6)] 28 (0, 0))) ∧ Aside0 (Below w.heap.size w wc))
    case first =>
      have H := HC5.out
      clear HC5
      by_cases c8 : a0_2 < 0
      · rw [if_pos c8] at H
        have c8b0 : decide (a0_2 < 0) = true := decide_eq_true c8
        clear c8
        (first | rw [c8b0] | (simp only [i64_w, i32_w]; rw [c8b0]) | skip)
        have H' := Aside0.mk H
        clear H
        have hcz9_0 : w6.cell? ⟨gb235, 0, none⟩ = some (.int .i64 a0_0) := (blk_cell BK235.out 0).trans rfl
        have hcz9_1 : w6.cell? ⟨gb235, 1, none⟩ = some (.int .i64 a0_1) := (blk_cell BK235.out 1).trans rfl
        have hcz9_2 : w6.cell? ⟨gb235, 2, none⟩ = some (.int .i64 a0_2) := (blk_cell BK235.out 2).trans rfl
        have hcz9_3 : w6.cell? ⟨gb235, 3, none⟩ = some (.bool a0_3) := (blk_cell BK235.out 3).trans rfl
        have hcz9_4 : w6.cell? ⟨gb235, 4, none⟩ = some (.int .i64 a0_4) := (blk_cell BK235.out 4).trans rfl
        have hcz9_5 : w6.cell? ⟨gb235, 5, none⟩ = some (.string a0_5) := (blk_cell BK235.out 5).trans rfl
        have hcz9_6 : w6.cell? ⟨gb235, 6, none⟩ = some (.slice A0_6 l0_6.length c0_6) := (blk_cell BK235.out 6).trans rfl
        have hfz9_0 := blk_frozen BK235.out 0
        have hfz9_1 := blk_frozen BK235.out 1
        have hfz9_2 := blk_frozen BK235.out 2
        have hfz9_3 := blk_frozen BK235.out 3
        have hfz9_4 := blk_frozen BK235.out 4
        have hfz9_5 := blk_frozen BK235.out 5
        have hfz9_6 := blk_frozen BK235.out 6
        go_wp2
        go_meet
        case rel => exact ⟨_, (true), (by first | rfl | (simp; done) | (simp [*]; done)), H', ⟨by first | omega | exact Nat.le_refl _⟩, ⟨by (with_reducible repeat (first | refine blk_drewN ?_ _ | refine blk_drew ?_ | refine blk_alloc ?_ _)); exact BK235.out⟩, ⟨by repeat (first | (with_reducible first | exact HB.out | apply below_alloc | apply pw_below_drewN | apply below_drew1 | refine below_set ?_ GE235.out) | exact HB.out)⟩⟩
      · rw [if_neg c8] at H
        have c8b0 : decide (a0_2 < 0) = false := decide_eq_false c8
        clear c8
        (first | rw [c8b0] | (simp only [i64_w, i32_w]; rw [c8b0]) | skip)
        have H' := Aside0.mk H
        clear H
        have hcz10_0 : w6.cell? ⟨gb235, 0, none⟩ = some (.int .i64 a0_0) := (blk_cell BK235.out 0).trans rfl
        have hcz10_1 : w6.cell? ⟨gb235, 1, none⟩ = some (.int .i64 a0_1) := (blk_cell BK235.out 1).trans rfl
        have hcz10_2 : w6.cell? ⟨gb235, 2, none⟩ = some (.int .i64 a0_2) := (blk_cell BK235.out 2).trans rfl
        have hcz10_3 : w6.cell? ⟨gb235, 3, none⟩ = some (.bool a0_3) := (blk_cell BK235.out 3).trans rfl
        have hcz10_4 : w6.cell? ⟨gb235, 4, none⟩ = some (.int .i64 a0_4) := (blk_cell BK235.out 4).trans rfl
        have hcz10_5 : w6.cell? ⟨gb235, 5, none⟩ = some (.string a0_5) := (blk_cell BK235.out 5).trans rfl
        have hcz10_6 : w6.cell? ⟨gb235, 6, none⟩ = some (.slice A0_6 l0_6.length c0_6) := (blk_cell BK235.out 6).trans rfl
        have hfz10_0 := blk_frozen BK235.out 0
        have hfz10_1 := blk_frozen BK235.out 1
        have hfz10_2 := blk_frozen BK235.out 2
        have hfz10_3 := blk_frozen BK235.out 3
        have hfz10_4 := blk_frozen BK235.out 4
        have hfz10_5 := blk_frozen BK235.out 5
        have hfz10_6 := blk_frozen BK235.out 6
        go_wp2
        go_meet
        case rel => exact ⟨_, (decide (a0_2 ≥ (l1.length : Int))), (by first | rfl | (simp; done) | (simp [*]; done)), H', ⟨by first | omega | exact Nat.le_refl _⟩, ⟨by (with_reducible repeat (first | refine blk_drewN ?_ _ | refine blk_drew ?_ | refine blk_alloc ?_ _)); exact BK235.out⟩, ⟨by repeat (first | (with_reducible first | exact HB.out | apply below_alloc | apply pw_below_drewN | apply below_drew1 | refine below_set ?_ GE235.out) | exact HB.out)⟩⟩
    case rest =>
      clear HC5
      try clear c1
      try clear c2
      try clear p2
      try clear c4
      try clear c4b0
      try clear c4b1
      try clear c8
      try clear c8b0
      try clear hcz10_0
      try clear hcz10_1
      try clear hcz10_2
      try clear hcz10_3
      try clear hcz10_4
      try clear hcz10_5
      try clear hcz10_6
      try clear hcz7_0
      try clear hcz7_1
      try clear hcz7_2
      try clear hcz7_3
      try clear hcz7_4
      try clear hcz7_5
      try clear hcz7_6
      try clear hcz9_0
      try clear hcz9_1
      try clear hcz9_2
      try clear hcz9_3
      try clear hcz9_4
      try clear hcz9_5
      try clear hcz9_6
      try clear hfz10_0
      try clear hfz10_1
      try clear hfz10_2
      try clear hfz10_3
      try clear hfz10_4
      try clear hfz10_5
      try clear hfz10_6
      try clear hfz7_0
      try clear hfz7_1
      try clear hfz7_2
      try clear hfz7_3
      try clear hfz7_4
      try clear hfz7_5
      try clear hfz7_6
      try clear hfz9_0
      try clear hfz9_1
      try clear hfz9_2
      try clear hfz9_3
      try clear hfz9_4
      try clear hfz9_5
      try clear hfz9_6
      obtain ⟨kq, x23_4, rfl, HA, HJ4, BK235, HB⟩ := hcut
      cases kq with
      | zero => exact absurd HA.out (by simp [tithebarnref23_Known.j0])
      | succ kj4 =>
        have H := HA.out
        clear HA
        simp only [tithebarnref23_Known.j0] at H
        by_cases c11 : x23_4 = true
        · subst c11
          have H1 : (some false) = some r := by rw [if_pos rfl] at H; exact H
          clear H
          have H := H1
          clear H1
          obtain rfl := Option.some.inj H
          go_wp2
          go_ret
          exact ⟨by first | rfl | (simp [errW_none, errW_some] <;> rfl) | (simp [*, errW_none, errW_some] <;> rfl), by repeat (first | (with_reducible first | exact HB.out | apply below_alloc | apply pw_below_drewN | apply below_drew1 | refine below_set ?_ GE235.out) | exact HB.out)⟩
        · replace c11 := Bool.eq_false_iff.mpr c11
          subst c11
          have H1 : (if a2 = true then (if 0 ≤ a0_2 then (if a0_2 < (l1.length : Int) then ((tithebarnref23_must.f kj4 a0_1 a0_2 a0_3 a0_4 a0_5 ((rd_T72 l1 a0_2).f0) ((rd_T72 l1 a0_2).f1) ((rd_T72 l1 a0_2).f2.f0) ((rd_T72 l1 a0_2).f2.f1) ((rd_T72 l1 a0_2).f2.f2) ((rd_T72 l1 a0_2).f3.f0) ((rd_T72 l1 a0_2).f3.f1) ((rd_T72 l1 a0_2).f3.f2)).bind fun t237 => (some t237)) else (none)) else (none)) else (if 0 ≤ a0_2 then (if a0_2 < (l1.length : Int) then ((tithebarnref11_May.f kj4 a0_1 a0_2 a0_3 a0_4 a0_5 ((rd_T72 l1 a0_2).f0) ((rd_T72 l1 a0_2).f1) ((rd_T72 l1 a0_2).f2.f0) ((rd_T72 l1 a0_2).f2.f1) ((rd_T72 l1 a0_2).f2.f2) ((rd_T72 l1 a0_2).f3.f0) ((rd_T72 l1 a0_2).f3.f1) ((rd_T72 l1 a0_2).f3.f2)).bind fun t239 => (some t239)) else (none)) else (none))) = some r := by rw [if_neg (show ¬ (false = true) by decide)] at H; exact H
          clear H
          have H := H1
          clear H1
          by_cases c12 : a2 = true
          · subst c12
            have H1 : (if 0 ≤ a0_2 then (if a0_2 < (l1.length : Int) then ((tithebarnref23_must.f kj4 a0_1 a0_2 a0_3 a0_4 a0_5 ((rd_T72 l1 a0_2).f0) ((rd_T72 l1 a0_2).f1) ((rd_T72 l1 a0_2).f2.f0) ((rd_T72 l1 a0_2).f2.f1) ((rd_T72 l1 a0_2).f2.f2) ((rd_T72 l1 a0_2).f3.f0) ((rd_T72 l1 a0_2).f3.f1) ((rd_T72 l1 a0_2).f3.f2)).bind fun t237 => (some t237)) else (none)) else (none)) = some r := by rw [if_pos rfl] at H; exact H
            clear H
            have H := H1
            clear H1
            by_cases c13 : 0 ≤ a0_2
            · rw [if_pos c13] at H
              have c13b0 : decide (0 ≤ a0_2) = true := decide_eq_true c13
              clear c13
              by_cases c14 : a0_2 < (l1.length : Int)
              · rw [if_pos c14] at H
                have c14b0 : decide (a0_2 < (l1.length : Int)) = true := decide_eq_true c14
                clear c14
                replace H := Option.bind_eq_some_iff.mp H
                obtain ⟨t237, A150, H⟩ := H
                replace H : (some t237) = some r := H
                have A15 := Aside0.mk A150
                clear A150
                obtain rfl := Option.some.inj H
                try go_wp2
                have n0_ := Aside0.mk (blk_drew BK235.out)
                have n1_ := Aside0.mk (below_drew1 HB.out)
                clear BK235
                clear HB
                have BK235 := n0_
                have HB := n1_
                clear n0_ n1_
                have p236 : 0 ≤ (a0_2 : Int) := of_decide_eq_true (by first | (with_reducible assumption) | assumption)
                have q236 : a0_2 < (l1.length : Int) := of_decide_eq_true (by first | (with_reducible assumption) | assumption)
                obtain ⟨ad236, e236, hx236_0, hx236_1, hx236_2, hx236_3, hx236_4, hx236_5, hx236_6, hx236_7⟩ := at_T72 HR1.out a0_2 p236 q236
                have hw236_7 := hx236_7
                have hw236_6 := hx236_6
                have hw236_5 := hx236_5
                have hw236_4 := hx236_4
                have hw236_3 := hx236_3
                have hw236_2 := hx236_2
                have hw236_1 := hx236_1
                have hw236_0 := hx236_0
                cases e236
                replace hx236_0 := (HB.out.cell (World.block_lt_of_cell? w _ hx236_0)).trans hx236_0
                replace hx236_1 := (HB.out.cell (World.block_lt_of_cell? w _ hx236_1)).trans hx236_1
                replace hx236_2 := (HB.out.cell (World.block_lt_of_cell? w _ hx236_2)).trans hx236_2
                replace hx236_3 := (HB.out.cell (World.block_lt_of_cell? w _ hx236_3)).trans hx236_3
                replace hx236_4 := (HB.out.cell (World.block_lt_of_cell? w _ hx236_4)).trans hx236_4
                replace hx236_5 := (HB.out.cell (World.block_lt_of_cell? w _ hx236_5)).trans hx236_5
                replace hx236_6 := (HB.out.cell (World.block_lt_of_cell? w _ hx236_6)).trans hx236_6
                replace hx236_7 := (HB.out.cell (World.block_lt_of_cell? w _ hx236_7)).trans hx236_7
                replace p236 := eq_true p236
                replace q236 := eq_true q236
                refine start_ (n := 10) (S := fun w' => w'.cell? ⟨gb235, 0, none⟩ = some (.int .i64 a0_0) ∧ w'.cell? ⟨gb235, 1, none⟩ = some (.int .i64 a0_1) ∧ w'.cell? ⟨gb235, 2, none⟩ = some (.int .i64 a0_2) ∧ w'.cell? ⟨gb235, 3, none⟩ = some (.bool a0_3) ∧ w'.cell? ⟨gb235, 4, none⟩ = some (.int .i64 a0_4) ∧ w'.cell? ⟨gb235, 5, none⟩ = some (.string a0_5) ∧ w'.cell? ⟨gb235, 6, none⟩ = some (.slice A0_6 l0_6.length c0_6) ∧ w'.cell? (ad236.add ((a0_2).toNat * 8)) = some (.bool ((rd_T72 l1 a0_2).f0)) ∧ w'.cell? ⟨(ad236.add ((a0_2).toNat * 8)).block, (ad236.add ((a0_2).toNat * 8)).off + 1, none⟩ = some (.bool ((rd_T72 l1 a0_2).f1)) ∧ w'.cell? ⟨(ad236.add ((a0_2).toNat * 8)).block, (ad236.add ((a0_2).toNat * 8)).off + 2, none⟩ = some (.bool ((rd_T72 l1 a0_2).f2.f0)) ∧ w'.cell? ⟨(ad236.add ((a0_2).toNat * 8)).block, (ad236.add ((a0_2).toNat * 8)).off + 3, none⟩ = some (.int .i64 ((rd_T72 l1 a0_2).f2.f1)) ∧ w'.cell? ⟨(ad236.add ((a0_2).toNat * 8)).block, (ad236.add ((a0_2).toNat * 8)).off + 4, none⟩ = some (.string ((rd_T72 l1 a0_2).f2.f2)) ∧ w'.cell? ⟨(ad236.add ((a0_2).toNat * 8)).block, (ad236.add ((a0_2).toNat * 8)).off + 5, none⟩ = some (.bool ((rd_T72 l1 a0_2).f3.f0)) ∧ w'.cell? ⟨(ad236.add ((a0_2).toNat * 8)).block, (ad236.add ((a0_2).toNat * 8)).off + 6, none⟩ = some (.int .i64 ((rd_T72 l1 a0_2).f3.f1)) ∧ w'.cell? ⟨(ad236.add ((a0_2).toNat * 8)).block, (ad236.add ((a0_2).toNat * 8)).off + 7, none⟩ = some (.string ((rd_T72 l1 a0_2).f3.f2))) (ds := []) #[false, false, false, false, false, false, false, false, false, false] (by kernel_rfl) rfl rfl ⟨(blk_cell BK235.out 0).trans rfl, (blk_cell BK235.out 1).trans rfl, (blk_cell BK235.out 2).trans rfl, (blk_cell BK235.out 3).trans rfl, (blk_cell BK235.out 4).trans rfl, (blk_cell BK235.out 5).trans rfl, (blk_cell BK235.out 6).trans rfl, ((HB.out.cell (World.block_lt_of_cell? w _ hw236_0)).trans hw236_0), ((HB.out.cell (World.block_lt_of_cell? w _ hw236_1)).trans hw236_1), ((HB.out.cell (World.block_lt_of_cell? w _ hw236_2)).trans hw236_2), ((HB.out.cell (World.block_lt_of_cell? w _ hw236_3)).trans hw236_3), ((HB.out.cell (World.block_lt_of_cell? w _ hw236_4)).trans hw236_4), ((HB.out.cell (World.block_lt_of_cell? w _ hw236_5)).trans hw236_5), ((HB.out.cell (World.block_lt_of_cell? w _ hw236_6)).trans hw236_6), ((HB.out.cell (World.block_lt_of_cell? w _ hw236_7)).trans hw236_7)⟩ (fun hHeld => ?_); refine with_tabW tithebarnref23_Known.tab6 tithebarnref23_Known.bits6 (fun HT_ HW_ => ?_)
                generalize wc.drew = w16 at BK235 HB hx236_0 hx236_1 hx236_2 hx236_3 hx236_4 hx236_5 hx236_6 hx236_7 hHeld ⊢
                refine pure_ (i := 0) (N := some 25) (v := ?_) (a' := ?_) #[true, false, false, false, false, false, false, false, false, false] rfl rfl (any_of HT_.out (by kernel_rfl)) (fun _ _ _ h => h) (Or.inl ⟨by rfl, ?_⟩) ?_ ?_
                rotate_left
                · intro w'
                  go_simp
                  with_reducible rfl
                rotate_left
                · simp only [Act.put, List.setIfInBounds_toArray, List.set_cons_zero, List.set_cons_succ, i64_w, i32_w]
                  rfl
                refine pure_ (i := 2) (N := some 27) (v := ?_) (a' := ?_) #[true, false, true, false, false, false, false, false, false, false] rfl rfl (any_of HT_.out (by kernel_rfl)) (fun _ _ _ h => h) (Or.inl ⟨by rfl, ?_⟩) ?_ ?_
                rotate_left
                · intro w'
                  go_simp
                  with_reducible rfl
                rotate_left
                · simp only [Act.put, List.setIfInBounds_toArray, List.set_cons_zero, List.set_cons_succ, i64_w, i32_w]
                  rfl
                refine pure_ (i := 3) (N := some 28) (v := ?_) (a' := ?_) #[true, false, true, true, false, false, false, false, false, false] rfl rfl (any_of HT_.out (by kernel_rfl)) (fun _ _ _ h => h) (Or.inl ⟨by rfl, ?_⟩) ?_ ?_
                rotate_left
                · intro w'
                  go_simp
                  with_reducible rfl
                rotate_left
                · simp only [Act.put, List.setIfInBounds_toArray, List.set_cons_zero, List.set_cons_succ, i64_w, i32_w]
                  rfl
                refine pure_ (i := 4) (N := some 29) (v := ?_) (a' := ?_) #[true, false, true, true, true, false, false, false, false, false] rfl rfl (any_of HT_.out (by kernel_rfl)) (fun _ _ _ h => h) (Or.inl ⟨by rfl, ?_⟩) ?_ ?_
                rotate_left
                · intro w'
                  go_simp
                  with_reducible rfl
                rotate_left
                · simp only [Act.put, List.setIfInBounds_toArray, List.set_cons_zero, List.set_cons_succ, i64_w, i32_w]
                  rfl
                refine take_ (i := 1) (N := some 26) (v := ?_) (a' := ?_) #[true, true, true, true, true, false, false, false, false, false] rfl rfl (take_ofW HT_.out HW_.out (by kernel_rfl)) (fun _ _ _ h => h) (Or.inl ⟨by rfl, ?_⟩) hHeld ?_ ?_
                rotate_left
                · rintro w' ⟨s0, s1, s2, s3, s4, s5, s6, s7, s8, s9, s10, s11, s12, s13, s14⟩
                  go_simp
                  with_reducible rfl
                rotate_left
                · simp only [Act.put, List.setIfInBounds_toArray, List.set_cons_zero, List.set_cons_succ, i64_w, i32_w]
                  rfl
                refine take_ (i := 5) (N := some 30) (v := ?_) (a' := ?_) #[true, true, true, true, true, true, false, false, false, false] rfl rfl (take_ofW HT_.out HW_.out (by kernel_rfl)) (fun _ _ _ h => h) (Or.inl ⟨by rfl, ?_⟩) hHeld ?_ ?_
                rotate_left
                · rintro w' ⟨s0, s1, s2, s3, s4, s5, s6, s7, s8, s9, s10, s11, s12, s13, s14⟩
                  go_simp
                  with_reducible rfl
                rotate_left
                · simp only [Act.put, List.setIfInBounds_toArray, List.set_cons_zero, List.set_cons_succ, i64_w, i32_w]
                  rfl
                refine pure_ (i := 6) (N := some 31) (v := ?_) (a' := ?_) #[true, true, true, true, true, true, true, false, false, false] rfl rfl (any_of HT_.out (by kernel_rfl)) (fun _ _ _ h => h) (Or.inl ⟨by rfl, ?_⟩) ?_ ?_
                rotate_left
                · intro w'
                  go_simp
                  with_reducible rfl
                rotate_left
                · simp only [Act.put, List.setIfInBounds_toArray, List.set_cons_zero, List.set_cons_succ, i64_w, i32_w]
                  rfl
                refine take_ (i := 7) (N := some 32) (v := ?_) (a' := ?_) #[true, true, true, true, true, true, true, true, false, false] rfl rfl (take_ofW HT_.out HW_.out (by kernel_rfl)) (fun _ _ _ h => h) (Or.inl ⟨by rfl, ?_⟩) hHeld ?_ ?_
                rotate_left
                · rintro w' ⟨s0, s1, s2, s3, s4, s5, s6, s7, s8, s9, s10, s11, s12, s13, s14⟩
                  go_simp
                  with_reducible rfl
                rotate_left
                · simp only [Act.put, List.setIfInBounds_toArray, List.set_cons_zero, List.set_cons_succ, i64_w, i32_w]
                  rfl
                refine one_ (i := 8) (N := some 33) #[true, true, true, true, true, true, true, true, true, false] rfl rfl (one_of HT_.out (by kernel_rfl)) (by decide) (fun K hK => ?_)
                refine goes_ Tryd.func42 (by kernel_rfl) rfl #[.agg #[.int .i64 a0_1, .int .i64 a0_2, .bool a0_3, .int .i64 a0_4, .string a0_5], .agg #[.bool ((rd_T72 l1 a0_2).f0), .bool ((rd_T72 l1 a0_2).f1), .bool ((rd_T72 l1 a0_2).f2.f0), .int .i64 ((rd_T72 l1 a0_2).f2.f1), .string ((rd_T72 l1 a0_2).f2.f2), .bool ((rd_T72 l1 a0_2).f3.f0), .int .i64 ((rd_T72 l1 a0_2).f3.f1), .string ((rd_T72 l1 a0_2).f3.f2)]] (by rfl) rfl rfl (by (try simp only [List.map_toArray, List.map_cons, List.map_nil]); first | done | rfl | (simp only [List.length_drop, List.length_take]; rfl)) ?_
                with_reducible refine (tithebarnref23_must.calls kj4 a0_1 a0_2 a0_3 a0_4 a0_5 ((rd_T72 l1 a0_2).f0) ((rd_T72 l1 a0_2).f1) ((rd_T72 l1 a0_2).f2.f0) ((rd_T72 l1 a0_2).f2.f1) ((rd_T72 l1 a0_2).f2.f2) ((rd_T72 l1 a0_2).f3.f0) ((rd_T72 l1 a0_2).f3.f1) ((rd_T72 l1 a0_2).f3.f2) t237 _ A15.out).mono ?_
                rintro e w17 ⟨rfl, hb⟩
                refine ⟨_, rfl, ?_⟩
                have n0_ := Aside0.mk (blk_below (g := gb235) (o := .cells #[.int .i64 a0_0, .int .i64 a0_1, .int .i64 a0_2, .bool a0_3, .int .i64 a0_4, .string a0_5, .slice A0_6 l0_6.length c0_6] 28 (0, 0)) (by (with_reducible repeat (first | refine blk_drewN ?_ _ | refine blk_drew ?_ | refine blk_alloc ?_ _)); exact BK235.out) hb)
                have n1_ := Aside0.mk (below_step (by repeat (first | (with_reducible first | exact HB.out | apply below_alloc | apply pw_below_drewN | apply below_drew1 | refine below_set ?_ GE235.out) | exact HB.out)) hb)
                clear BK235
                clear HB
                have BK235 := n0_
                have HB := n1_
                clear n0_ n1_
                (try clear hb)
                (try clear hb2)
                (try clear hk)
                (try clear hi)
                refine hK.out _ _ ⟨(blk_cell BK235.out 0).trans rfl, (blk_cell BK235.out 1).trans rfl, (blk_cell BK235.out 2).trans rfl, (blk_cell BK235.out 3).trans rfl, (blk_cell BK235.out 4).trans rfl, (blk_cell BK235.out 5).trans rfl, (blk_cell BK235.out 6).trans rfl, ((HB.out.cell (World.block_lt_of_cell? w _ hw236_0)).trans hw236_0), ((HB.out.cell (World.block_lt_of_cell? w _ hw236_1)).trans hw236_1), ((HB.out.cell (World.block_lt_of_cell? w _ hw236_2)).trans hw236_2), ((HB.out.cell (World.block_lt_of_cell? w _ hw236_3)).trans hw236_3), ((HB.out.cell (World.block_lt_of_cell? w _ hw236_4)).trans hw236_4), ((HB.out.cell (World.block_lt_of_cell? w _ hw236_5)).trans hw236_5), ((HB.out.cell (World.block_lt_of_cell? w _ hw236_6)).trans hw236_6), ((HB.out.cell (World.block_lt_of_cell? w _ hw236_7)).trans hw236_7)⟩ (fun hHeld => ?_)
                clear hK K
                refine norm_ (a' := ?_) ?_ ?_
                rotate_left
                · show Act.put _ (some 33) _ = _
                  simp only [Act.put, List.setIfInBounds_toArray, List.set_cons_zero, List.set_cons_succ, i64_w, i32_w]
                  rfl
                refine pure_ (i := 9) (N := some 6) (v := ?_) (a' := ?_) #[true, true, true, true, true, true, true, true, true, true] rfl rfl (any_of HT_.out (by kernel_rfl)) (fun _ _ _ h => h) (Or.inl ⟨by rfl, ?_⟩) ?_ ?_
                rotate_left
                · intro w'
                  go_simp
                  with_reducible rfl
                rotate_left
                · simp only [Act.put, List.setIfInBounds_toArray, List.set_cons_zero, List.set_cons_succ, i64_w, i32_w]
                  rfl
                refine done_ (done_of HT_.out (by kernel_rfl)) ?_
                try go_wp2
                go_ret
                exact ⟨by first | rfl | (simp [errW_none, errW_some] <;> rfl) | (simp [*, errW_none, errW_some] <;> rfl), by repeat (first | (with_reducible first | exact HB.out | apply below_alloc | apply pw_below_drewN | apply below_drew1 | refine below_set ?_ GE235.out) | exact HB.out)⟩
              · rw [if_neg c14] at H
                exact absurd H (by simp)
            · rw [if_neg c13] at H
              exact absurd H (by simp)
          · replace c12 := Bool.eq_false_iff.mpr c12
            subst c12
            have H1 : (if 0 ≤ a0_2 then (if a0_2 < (l1.length : Int) then ((tithebarnref11_May.f kj4 a0_1 a0_2 a0_3 a0_4 a0_5 ((rd_T72 l1 a0_2).f0) ((rd_T72 l1 a0_2).f1) ((rd_T72 l1 a0_2).f2.f0) ((rd_T72 l1 a0_2).f2.f1) ((rd_T72 l1 a0_2).f2.f2) ((rd_T72 l1 a0_2).f3.f0) ((rd_T72 l1 a0_2).f3.f1) ((rd_T72 l1 a0_2).f3.f2)).bind fun t239 => (some t239)) else (none)) else (none)) = some r := by rw [if_neg (show ¬ (false = true) by decide)] at H; exact H
            clear H
            have H := H1
            clear H1
            by_cases c18 : 0 ≤ a0_2
            · rw [if_pos c18] at H
              have c18b0 : decide (0 ≤ a0_2) = true := decide_eq_true c18
              clear c18
              by_cases c19 : a0_2 < (l1.length : Int)
              · rw [if_pos c19] at H
                have c19b0 : decide (a0_2 < (l1.length : Int)) = true := decide_eq_true c19
                clear c19
                replace H := Option.bind_eq_some_iff.mp H
                obtain ⟨t239, A200, H⟩ := H
                replace H : (some t239) = some r := H
                have A20 := Aside0.mk A200
                clear A200
                obtain rfl := Option.some.inj H
                try go_wp2
                have n0_ := Aside0.mk (blk_drew BK235.out)
                have n1_ := Aside0.mk (below_drew1 HB.out)
                clear BK235
                clear HB
                have BK235 := n0_
                have HB := n1_
                clear n0_ n1_
                have p238 : 0 ≤ (a0_2 : Int) := of_decide_eq_true (by first | (with_reducible assumption) | assumption)
                have q238 : a0_2 < (l1.length : Int) := of_decide_eq_true (by first | (with_reducible assumption) | assumption)
                obtain ⟨ad238, e238, hx238_0, hx238_1, hx238_2, hx238_3, hx238_4, hx238_5, hx238_6, hx238_7⟩ := at_T72 HR1.out a0_2 p238 q238
                have hw238_7 := hx238_7
                have hw238_6 := hx238_6
                have hw238_5 := hx238_5
                have hw238_4 := hx238_4
                have hw238_3 := hx238_3
                have hw238_2 := hx238_2
                have hw238_1 := hx238_1
                have hw238_0 := hx238_0
                cases e238
                replace hx238_0 := (HB.out.cell (World.block_lt_of_cell? w _ hx238_0)).trans hx238_0
                replace hx238_1 := (HB.out.cell (World.block_lt_of_cell? w _ hx238_1)).trans hx238_1
                replace hx238_2 := (HB.out.cell (World.block_lt_of_cell? w _ hx238_2)).trans hx238_2
                replace hx238_3 := (HB.out.cell (World.block_lt_of_cell? w _ hx238_3)).trans hx238_3
                replace hx238_4 := (HB.out.cell (World.block_lt_of_cell? w _ hx238_4)).trans hx238_4
                replace hx238_5 := (HB.out.cell (World.block_lt_of_cell? w _ hx238_5)).trans hx238_5
                replace hx238_6 := (HB.out.cell (World.block_lt_of_cell? w _ hx238_6)).trans hx238_6
                replace hx238_7 := (HB.out.cell (World.block_lt_of_cell? w _ hx238_7)).trans hx238_7
                replace p238 := eq_true p238
                replace q238 := eq_true q238
                refine start_ (n := 10) (S := fun w' => w'.cell? ⟨gb235, 0, none⟩ = some (.int .i64 a0_0) ∧ w'.cell? ⟨gb235, 1, none⟩ = some (.int .i64 a0_1) ∧ w'.cell? ⟨gb235, 2, none⟩ = some (.int .i64 a0_2) ∧ w'.cell? ⟨gb235, 3, none⟩ = some (.bool a0_3) ∧ w'.cell? ⟨gb235, 4, none⟩ = some (.int .i64 a0_4) ∧ w'.cell? ⟨gb235, 5, none⟩ = some (.string a0_5) ∧ w'.cell? ⟨gb235, 6, none⟩ = some (.slice A0_6 l0_6.length c0_6) ∧ w'.cell? (ad238.add ((a0_2).toNat * 8)) = some (.bool ((rd_T72 l1 a0_2).f0)) ∧ w'.cell? ⟨(ad238.add ((a0_2).toNat * 8)).block, (ad238.add ((a0_2).toNat * 8)).off + 1, none⟩ = some (.bool ((rd_T72 l1 a0_2).f1)) ∧ w'.cell? ⟨(ad238.add ((a0_2).toNat * 8)).block, (ad238.add ((a0_2).toNat * 8)).off + 2, none⟩ = some (.bool ((rd_T72 l1 a0_2).f2.f0)) ∧ w'.cell? ⟨(ad238.add ((a0_2).toNat * 8)).block, (ad238.add ((a0_2).toNat * 8)).off + 3, none⟩ = some (.int .i64 ((rd_T72 l1 a0_2).f2.f1)) ∧ w'.cell? ⟨(ad238.add ((a0_2).toNat * 8)).block, (ad238.add ((a0_2).toNat * 8)).off + 4, none⟩ = some (.string ((rd_T72 l1 a0_2).f2.f2)) ∧ w'.cell? ⟨(ad238.add ((a0_2).toNat * 8)).block, (ad238.add ((a0_2).toNat * 8)).off + 5, none⟩ = some (.bool ((rd_T72 l1 a0_2).f3.f0)) ∧ w'.cell? ⟨(ad238.add ((a0_2).toNat * 8)).block, (ad238.add ((a0_2).toNat * 8)).off + 6, none⟩ = some (.int .i64 ((rd_T72 l1 a0_2).f3.f1)) ∧ w'.cell? ⟨(ad238.add ((a0_2).toNat * 8)).block, (ad238.add ((a0_2).toNat * 8)).off + 7, none⟩ = some (.string ((rd_T72 l1 a0_2).f3.f2))) (ds := []) #[false, false, false, false, false, false, false, false, false, false] (by kernel_rfl) rfl rfl ⟨(blk_cell BK235.out 0).trans rfl, (blk_cell BK235.out 1).trans rfl, (blk_cell BK235.out 2).trans rfl, (blk_cell BK235.out 3).trans rfl, (blk_cell BK235.out 4).trans rfl, (blk_cell BK235.out 5).trans rfl, (blk_cell BK235.out 6).trans rfl, ((HB.out.cell (World.block_lt_of_cell? w _ hw238_0)).trans hw238_0), ((HB.out.cell (World.block_lt_of_cell? w _ hw238_1)).trans hw238_1), ((HB.out.cell (World.block_lt_of_cell? w _ hw238_2)).trans hw238_2), ((HB.out.cell (World.block_lt_of_cell? w _ hw238_3)).trans hw238_3), ((HB.out.cell (World.block_lt_of_cell? w _ hw238_4)).trans hw238_4), ((HB.out.cell (World.block_lt_of_cell? w _ hw238_5)).trans hw238_5), ((HB.out.cell (World.block_lt_of_cell? w _ hw238_6)).trans hw238_6), ((HB.out.cell (World.block_lt_of_cell? w _ hw238_7)).trans hw238_7)⟩ (fun hHeld => ?_); refine with_tabW tithebarnref23_Known.tab7 tithebarnref23_Known.bits7 (fun HT_ HW_ => ?_)
                generalize wc.drew = w21 at BK235 HB hx238_0 hx238_1 hx238_2 hx238_3 hx238_4 hx238_5 hx238_6 hx238_7 hHeld ⊢
                refine pure_ (i := 0) (N := some 34) (v := ?_) (a' := ?_) #[true, false, false, false, false, false, false, false, false, false] rfl rfl (any_of HT_.out (by kernel_rfl)) (fun _ _ _ h => h) (Or.inl ⟨by rfl, ?_⟩) ?_ ?_
                rotate_left
                · intro w'
                  go_simp
                  with_reducible rfl
                rotate_left
                · simp only [Act.put, List.setIfInBounds_toArray, List.set_cons_zero, List.set_cons_succ, i64_w, i32_w]
                  rfl
                refine pure_ (i := 2) (N := some 36) (v := ?_) (a' := ?_) #[true, false, true, false, false, false, false, false, false, false] rfl rfl (any_of HT_.out (by kernel_rfl)) (fun _ _ _ h => h) (Or.inl ⟨by rfl, ?_⟩) ?_ ?_
                rotate_left
                · intro w'
                  go_simp
                  with_reducible rfl
                rotate_left
                · simp only [Act.put, List.setIfInBounds_toArray, List.set_cons_zero, List.set_cons_succ, i64_w, i32_w]
                  rfl
                refine pure_ (i := 3) (N := some 37) (v := ?_) (a' := ?_) #[true, false, true, true, false, false, false, false, false, false] rfl rfl (any_of HT_.out (by kernel_rfl)) (fun _ _ _ h => h) (Or.inl ⟨by rfl, ?_⟩) ?_ ?_
                rotate_left
                · intro w'
                  go_simp
                  with_reducible rfl
                rotate_left
                · simp only [Act.put, List.setIfInBounds_toArray, List.set_cons_zero, List.set_cons_succ, i64_w, i32_w]
                  rfl
                refine pure_ (i := 4) (N := some 38) (v := ?_) (a' := ?_) #[true, false, true, true, true, false, false, false, false, false] rfl rfl (any_of HT_.out (by kernel_rfl)) (fun _ _ _ h => h) (Or.inl ⟨by rfl, ?_⟩) ?_ ?_
                rotate_left
                · intro w'
                  go_simp
                  with_reducible rfl
                rotate_left
                · simp only [Act.put, List.setIfInBounds_toArray, List.set_cons_zero, List.set_cons_succ, i64_w, i32_w]
                  rfl
                refine take_ (i := 1) (N := some 35) (v := ?_) (a' := ?_) #[true, true, true, true, true, false, false, false, false, false] rfl rfl (take_ofW HT_.out HW_.out (by kernel_rfl)) (fun _ _ _ h => h) (Or.inl ⟨by rfl, ?_⟩) hHeld ?_ ?_
                rotate_left
                · rintro w' ⟨s0, s1, s2, s3, s4, s5, s6, s7, s8, s9, s10, s11, s12, s13, s14⟩
                  go_simp
                  with_reducible rfl
                rotate_left
                · simp only [Act.put, List.setIfInBounds_toArray, List.set_cons_zero, List.set_cons_succ, i64_w, i32_w]
                  rfl
                refine take_ (i := 5) (N := some 39) (v := ?_) (a' := ?_) #[true, true, true, true, true, true, false, false, false, false] rfl rfl (take_ofW HT_.out HW_.out (by kernel_rfl)) (fun _ _ _ h => h) (Or.inl ⟨by rfl, ?_⟩) hHeld ?_ ?_
                rotate_left
                · rintro w' ⟨s0, s1, s2, s3, s4, s5, s6, s7, s8, s9, s10, s11, s12, s13, s14⟩
                  go_simp
                  with_reducible rfl
                rotate_left
                · simp only [Act.put, List.setIfInBounds_toArray, List.set_cons_zero, List.set_cons_succ, i64_w, i32_w]
                  rfl
                refine pure_ (i := 6) (N := some 40) (v := ?_) (a' := ?_) #[true, true, true, true, true, true, true, false, false, false] rfl rfl (any_of HT_.out (by kernel_rfl)) (fun _ _ _ h => h) (Or.inl ⟨by rfl, ?_⟩) ?_ ?_
                rotate_left
                · intro w'
                  go_simp
                  with_reducible rfl
                rotate_left
                · simp only [Act.put, List.setIfInBounds_toArray, List.set_cons_zero, List.set_cons_succ, i64_w, i32_w]
                  rfl
                refine take_ (i := 7) (N := some 41) (v := ?_) (a' := ?_) #[true, true, true, true, true, true, true, true, false, false] rfl rfl (take_ofW HT_.out HW_.out (by kernel_rfl)) (fun _ _ _ h => h) (Or.inl ⟨by rfl, ?_⟩) hHeld ?_ ?_
                rotate_left
                · rintro w' ⟨s0, s1, s2, s3, s4, s5, s6, s7, s8, s9, s10, s11, s12, s13, s14⟩
                  go_simp
                  with_reducible rfl
                rotate_left
                · simp only [Act.put, List.setIfInBounds_toArray, List.set_cons_zero, List.set_cons_succ, i64_w, i32_w]
                  rfl
                refine one_ (i := 8) (N := some 42) #[true, true, true, true, true, true, true, true, true, false] rfl rfl (one_of HT_.out (by kernel_rfl)) (by decide) (fun K hK => ?_)
                refine goes_ Tryd.func43 (by kernel_rfl) rfl #[.agg #[.int .i64 a0_1, .int .i64 a0_2, .bool a0_3, .int .i64 a0_4, .string a0_5], .agg #[.bool ((rd_T72 l1 a0_2).f0), .bool ((rd_T72 l1 a0_2).f1), .bool ((rd_T72 l1 a0_2).f2.f0), .int .i64 ((rd_T72 l1 a0_2).f2.f1), .string ((rd_T72 l1 a0_2).f2.f2), .bool ((rd_T72 l1 a0_2).f3.f0), .int .i64 ((rd_T72 l1 a0_2).f3.f1), .string ((rd_T72 l1 a0_2).f3.f2)]] (by rfl) rfl rfl (by (try simp only [List.map_toArray, List.map_cons, List.map_nil]); first | done | rfl | (simp only [List.length_drop, List.length_take]; rfl)) ?_
                with_reducible refine (tithebarnref11_May.calls kj4 a0_1 a0_2 a0_3 a0_4 a0_5 ((rd_T72 l1 a0_2).f0) ((rd_T72 l1 a0_2).f1) ((rd_T72 l1 a0_2).f2.f0) ((rd_T72 l1 a0_2).f2.f1) ((rd_T72 l1 a0_2).f2.f2) ((rd_T72 l1 a0_2).f3.f0) ((rd_T72 l1 a0_2).f3.f1) ((rd_T72 l1 a0_2).f3.f2) t239 _ A20.out).mono ?_
                rintro e w22 ⟨rfl, hb⟩
                refine ⟨_, rfl, ?_⟩
                have n0_ := Aside0.mk (blk_below (g := gb235) (o := .cells #[.int .i64 a0_0, .int .i64 a0_1, .int .i64 a0_2, .bool a0_3, .int .i64 a0_4, .string a0_5, .slice A0_6 l0_6.length c0_6] 28 (0, 0)) (by (with_reducible repeat (first | refine blk_drewN ?_ _ | refine blk_drew ?_ | refine blk_alloc ?_ _)); exact BK235.out) hb)
                have n1_ := Aside0.mk (below_step (by repeat (first | (with_reducible first | exact HB.out | apply below_alloc | apply pw_below_drewN | apply below_drew1 | refine below_set ?_ GE235.out) | exact HB.out)) hb)
                clear BK235
                clear HB
                have BK235 := n0_
                have HB := n1_
                clear n0_ n1_
                (try clear hb)
                (try clear hb2)
                (try clear hk)
                (try clear hi)
                refine hK.out _ _ ⟨(blk_cell BK235.out 0).trans rfl, (blk_cell BK235.out 1).trans rfl, (blk_cell BK235.out 2).trans rfl, (blk_cell BK235.out 3).trans rfl, (blk_cell BK235.out 4).trans rfl, (blk_cell BK235.out 5).trans rfl, (blk_cell BK235.out 6).trans rfl, ((HB.out.cell (World.block_lt_of_cell? w _ hw238_0)).trans hw238_0), ((HB.out.cell (World.block_lt_of_cell? w _ hw238_1)).trans hw238_1), ((HB.out.cell (World.block_lt_of_cell? w _ hw238_2)).trans hw238_2), ((HB.out.cell (World.block_lt_of_cell? w _ hw238_3)).trans hw238_3), ((HB.out.cell (World.block_lt_of_cell? w _ hw238_4)).trans hw238_4), ((HB.out.cell (World.block_lt_of_cell? w _ hw238_5)).trans hw238_5), ((HB.out.cell (World.block_lt_of_cell? w _ hw238_6)).trans hw238_6), ((HB.out.cell (World.block_lt_of_cell? w _ hw238_7)).trans hw238_7)⟩ (fun hHeld => ?_)
                clear hK K
                refine norm_ (a' := ?_) ?_ ?_
                rotate_left
                · show Act.put _ (some 42) _ = _
                  simp only [Act.put, List.setIfInBounds_toArray, List.set_cons_zero, List.set_cons_succ, i64_w, i32_w]
                  rfl
                refine pure_ (i := 9) (N := some 6) (v := ?_) (a' := ?_) #[true, true, true, true, true, true, true, true, true, true] rfl rfl (any_of HT_.out (by kernel_rfl)) (fun _ _ _ h => h) (Or.inl ⟨by rfl, ?_⟩) ?_ ?_
                rotate_left
                · intro w'
                  go_simp
                  with_reducible rfl
                rotate_left
                · simp only [Act.put, List.setIfInBounds_toArray, List.set_cons_zero, List.set_cons_succ, i64_w, i32_w]
                  rfl
                refine done_ (done_of HT_.out (by kernel_rfl)) ?_
                try go_wp2
                go_ret
                exact ⟨by first | rfl | (simp [errW_none, errW_some] <;> rfl) | (simp [*, errW_none, errW_some] <;> rfl), by repeat (first | (with_reducible first | exact HB.out | apply below_alloc | apply pw_below_drewN | apply below_drew1 | refine below_set ?_ GE235.out) | exact HB.out)⟩
              · rw [if_neg c19] at H
                exact absurd H (by simp)
            · rw [if_neg c18] at H
              exact absurd H (by simp)
  · rw [if_neg c4] at H
    have c4b0 : (a0_0 == 1) = false := beq_eq_false_iff_ne.mpr c4
    have c4b1 : (a0_0 != 1) = true := bne_iff_ne.mpr c4
    have HC23 := Aside0.mk H
    clear H
    go_enter Tryd.func22, Tryd.ntmps22
    go_upto_if 43 with (first | ((with_reducible refine gate_dst (N := 3) rfl ?_); (try (refine gate_guard (by rfl) ?_; dsimp only)); refine box_event ?hg (N := 3) ?hd (cs := #[.int .i64 a0_0, .int .i64 a0_1, .int .i64 a0_2, .bool a0_3, .int .i64 a0_4, .string a0_5, .slice A0_6 l0_6.length c0_6]) (t := 28) ?hr ?_; (case hd => rfl); (case hg => rfl); (case hr => first | (go_simp; done) | (go_simp; rfl)); intro gb235 hg w24 hbox hb; have n0_ := Aside0.mk (below_step (by repeat (first | (with_reducible first | exact HB.out | apply below_alloc | apply pw_below_drewN | apply below_drew1) | exact HB.out)) hb); have n1_ := Aside0.mk (hbox); have n2_ := Aside0.mk ((by rw [hg]; exact (below_size (by repeat (first | (with_reducible first | exact HB.out | apply below_alloc | apply pw_below_drewN | apply below_drew1) | exact HB.out))) : w.heap.size ≤ gb235)); have n3_ := Aside0.mk ((by rw [hg]; exact (below_size (by repeat (first | (with_reducible first | exact HB.out | apply below_alloc | apply pw_below_drewN | apply below_drew1) | exact HB.out))) : w.heap.size ≤ gb235)); clear HB; have HB := n0_; have BK235 := n1_; have GW235 := n2_; have GE235 := n3_; clear n0_ n1_ n2_ n3_; clear hb hbox hg; have hcz25_0 : w24.cell? ⟨gb235, 0, none⟩ = some (.int .i64 a0_0) := (blk_cell BK235.out 0).trans rfl; have hcz25_1 : w24.cell? ⟨gb235, 1, none⟩ = some (.int .i64 a0_1) := (blk_cell BK235.out 1).trans rfl; have hcz25_2 : w24.cell? ⟨gb235, 2, none⟩ = some (.int .i64 a0_2) := (blk_cell BK235.out 2).trans rfl; have hcz25_3 : w24.cell? ⟨gb235, 3, none⟩ = some (.bool a0_3) := (blk_cell BK235.out 3).trans rfl; have hcz25_4 : w24.cell? ⟨gb235, 4, none⟩ = some (.int .i64 a0_4) := (blk_cell BK235.out 4).trans rfl; have hcz25_5 : w24.cell? ⟨gb235, 5, none⟩ = some (.string a0_5) := (blk_cell BK235.out 5).trans rfl; have hcz25_6 : w24.cell? ⟨gb235, 6, none⟩ = some (.slice A0_6 l0_6.length c0_6) := (blk_cell BK235.out 6).trans rfl; have hfz25_0 := blk_frozen BK235.out 0; have hfz25_1 := blk_frozen BK235.out 1; have hfz25_2 := blk_frozen BK235.out 2; have hfz25_3 := blk_frozen BK235.out 3; have hfz25_4 := blk_frozen BK235.out 4; have hfz25_5 := blk_frozen BK235.out 5; have hfz25_6 := blk_frozen BK235.out 6))
    (try simp only [Act.put, List.setIfInBounds_toArray, List.set_cons_zero, List.set_cons_succ])
    go_cut [43] (fun v43 wc => ∃ (kq : Nat) (x43_22 : Bool), v43 = .bool x43_22 ∧ Aside0 (tithebarnref23_Known.j1 kq l1 a2 a0_0 x43_22 a0_0 a0_1 a0_2 a0_3 a0_4 a0_5 l0_6 = some r) ∧ Aside0 (kq ≤ k) ∧ Aside0 (wc.heap[gb235]? = some (.cells #[.int .i64 a0_0, .int .i64 a0_1, .int .i64 a0_2, .bool a0_3, .int .i64 a0_4, .string a0_5, (.slice A0_6 l0_6.length c0_6)] 28 (0, 0))) ∧ Aside0 (Below w.heap.size w wc))
    case first =>
      have H := HC23.out
      clear HC23
      by_cases c26 : a0_0 = 2
      · rw [if_pos c26] at H
        have c26b0 : (a0_0 == 2) = true := beq_iff_eq.mpr c26
        have c26b1 : (a0_0 != 2) = false := bne_eq_false_iff_eq.mpr c26
        clear c26
        (first | rw [c26b0] | (simp only [i64_w, i32_w]; rw [c26b0]) | skip)
        have H' := Aside0.mk H
        clear H
        go_wp2
        go_meet
        case rel => exact ⟨_, ((a0_0 == 2)), (by first | rfl | (simp; done) | (simp [*]; done)), H', ⟨by first | omega | exact Nat.le_refl _⟩, ⟨by (with_reducible repeat (first | refine blk_drewN ?_ _ | refine blk_drew ?_ | refine blk_alloc ?_ _)); exact BK235.out⟩, ⟨by repeat (first | (with_reducible first | exact HB.out | apply below_alloc | apply pw_below_drewN | apply below_drew1 | refine below_set ?_ GE235.out) | exact HB.out)⟩⟩
      · rw [if_neg c26] at H
        have c26b0 : (a0_0 == 2) = false := beq_eq_false_iff_ne.mpr c26
        have c26b1 : (a0_0 != 2) = true := bne_iff_ne.mpr c26
        (first | rw [c26b0] | (simp only [i64_w, i32_w]; rw [c26b0]) | skip)
        have H' := Aside0.mk H
        clear H
        go_wp2
        go_meet
        case rel => exact ⟨_, ((a0_0 == 3)), (by first | rfl | (simp; done) | (simp [*]; done)), H', ⟨by first | omega | exact Nat.le_refl _⟩, ⟨by (with_reducible repeat (first | refine blk_drewN ?_ _ | refine blk_drew ?_ | refine blk_alloc ?_ _)); exact BK235.out⟩, ⟨by repeat (first | (with_reducible first | exact HB.out | apply below_alloc | apply pw_below_drewN | apply below_drew1 | refine below_set ?_ GE235.out) | exact HB.out)⟩⟩
    case rest =>
      clear HC23
      try clear c1
      try clear c2
      try clear p2
      try clear q2
      try clear hx2
      try clear c4
      try clear c4b0
      try clear c4b1
      try clear c8
      try clear c8b0
      try clear c11
      try clear c12
      try clear c13
      try clear c13b0
      try clear c14
      try clear c14b0
      try clear c18
      try clear c18b0
      try clear c19
      try clear c19b0
      try clear c22
      try clear p23
      try clear q23
      try clear hx23
      try clear c26
      try clear c26b0
      try clear c26b1
      try clear hcz10_0
      try clear hcz10_1
      try clear hcz10_2
      try clear hcz10_3
      try clear hcz10_4
      try clear hcz10_5
      try clear hcz10_6
      try clear hcz25_0
      try clear hcz25_1
      try clear hcz25_2
      try clear hcz25_3
      try clear hcz25_4
      try clear hcz25_5
      try clear hcz25_6
      try clear hcz7_0
      try clear hcz7_1
      try clear hcz7_2
      try clear hcz7_3
      try clear hcz7_4
      try clear hcz7_5
      try clear hcz7_6
      try clear hcz9_0
      try clear hcz9_1
      try clear hcz9_2
      try clear hcz9_3
      try clear hcz9_4
      try clear hcz9_5
      try clear hcz9_6
      try clear hfz10_0
      try clear hfz10_1
      try clear hfz10_2
      try clear hfz10_3
      try clear hfz10_4
      try clear hfz10_5
      try clear hfz10_6
      try clear hfz25_0
      try clear hfz25_1
      try clear hfz25_2
      try clear hfz25_3
      try clear hfz25_4
      try clear hfz25_5
      try clear hfz25_6
      try clear hfz7_0
      try clear hfz7_1
      try clear hfz7_2
      try clear hfz7_3
      try clear hfz7_4
      try clear hfz7_5
      try clear hfz7_6
      try clear hfz9_0
      try clear hfz9_1
      try clear hfz9_2
      try clear hfz9_3
      try clear hfz9_4
      try clear hfz9_5
      try clear hfz9_6
      try clear hx236_0
      try clear hx236_1
      try clear hx236_2
      try clear hx236_3
      try clear hx236_4
      try clear hx236_5
      try clear hx236_6
      try clear hx236_7
      try clear hx238_0
      try clear hx238_1
      try clear hx238_2
      try clear hx238_3
      try clear hx238_4
      try clear hx238_5
      try clear hx238_6
      try clear hx238_7
      try clear p2
      try clear p236
      try clear p238
      try clear q236
      try clear q238
      obtain ⟨kq, x43_22, rfl, HA, HJ22, BK235, HB⟩ := hcut
      cases kq with
      | zero => exact absurd HA.out (by simp [tithebarnref23_Known.j1])
      | succ kj22 =>
        have H := HA.out
        clear HA
        simp only [tithebarnref23_Known.j1] at H
        by_cases c27 : x43_22 = true
        · subst c27
          have H1 : (tithebarnref23_Known.l0 kj22 l1 a2 0 a0_0 a0_1 a0_2 a0_3 a0_4 a0_5 l0_6) = some r := by rw [if_pos rfl] at H; exact H
          clear H
          have H := H1
          clear H1
          have H' := Aside0.mk H
          clear H
          go_wp2
          go_loopg [7] kj22 (fun kq v7 w' => ∃ (x7_2 : Int), v7 = .int .i64 x7_2 ∧ Aside0 (tithebarnref23_Known.l0 kq l1 a2 x7_2 a0_0 a0_1 a0_2 a0_3 a0_4 a0_5 l0_6 = some r) ∧ Aside0 (kq ≤ kj22) ∧ Aside0 (w'.heap[gb235]? = some (.cells #[.int .i64 a0_0, .int .i64 a0_1, .int .i64 a0_2, .bool a0_3, .int .i64 a0_4, .string a0_5, (.slice A0_6 l0_6.length c0_6)] 28 (0, 0))) ∧ Aside0 (Below w.heap.size w w'))
          case atStart => exact ⟨(0), (by first | rfl | (simp; done) | (simp [*]; done)), H', ⟨Nat.le_refl _⟩, ⟨by (with_reducible repeat (first | refine blk_drewN ?_ _ | refine blk_drew ?_ | refine blk_alloc ?_ _)); exact BK235.out⟩, ⟨by repeat (first | (with_reducible first | exact HB.out | apply below_alloc | apply pw_below_drewN | apply below_drew1 | refine below_set ?_ GE235.out) | exact HB.out)⟩⟩
          case round =>
            clear H'
            try clear c1
            try clear c2
            try clear p2
            try clear q2
            try clear hx2
            try clear c4
            try clear c4b0
            try clear c4b1
            try clear c8
            try clear c8b0
            try clear c11
            try clear c12
            try clear c13
            try clear c13b0
            try clear c14
            try clear c14b0
            try clear c18
            try clear c18b0
            try clear c19
            try clear c19b0
            try clear c22
            try clear p23
            try clear q23
            try clear hx23
            try clear c26
            try clear c26b0
            try clear c26b1
            try clear c27
            try clear hcz10_0
            try clear hcz10_1
            try clear hcz10_2
            try clear hcz10_3
            try clear hcz10_4
            try clear hcz10_5
            try clear hcz10_6
            try clear hcz25_0
            try clear hcz25_1
            try clear hcz25_2
            try clear hcz25_3
            try clear hcz25_4
            try clear hcz25_5
            try clear hcz25_6
            try clear hcz7_0
            try clear hcz7_1
            try clear hcz7_2
            try clear hcz7_3
            try clear hcz7_4
            try clear hcz7_5
            try clear hcz7_6
            try clear hcz9_0
            try clear hcz9_1
            try clear hcz9_2
            try clear hcz9_3
            try clear hcz9_4
            try clear hcz9_5
            try clear hcz9_6
            try clear hfz10_0
            try clear hfz10_1
            try clear hfz10_2
            try clear hfz10_3
            try clear hfz10_4
            try clear hfz10_5
            try clear hfz10_6
            try clear hfz25_0
            try clear hfz25_1
            try clear hfz25_2
            try clear hfz25_3
            try clear hfz25_4
            try clear hfz25_5
            try clear hfz25_6
            try clear hfz7_0
            try clear hfz7_1
            try clear hfz7_2
            try clear hfz7_3
            try clear hfz7_4
            try clear hfz7_5
            try clear hfz7_6
            try clear hfz9_0
            try clear hfz9_1
            try clear hfz9_2
            try clear hfz9_3
            try clear hfz9_4
            try clear hfz9_5
            try clear hfz9_6
            try clear hx236_0
            try clear hx236_1
            try clear hx236_2
            try clear hx236_3
            try clear hx236_4
            try clear hx236_5
            try clear hx236_6
            try clear hx236_7
            try clear hx238_0
            try clear hx238_1
            try clear hx238_2
            try clear hx238_3
            try clear hx238_4
            try clear hx238_5
            try clear hx238_6
            try clear hx238_7
            try clear p2
            try clear p23
            try clear p236
            try clear p238
            try clear q2
            try clear q23
            try clear q236
            try clear q238
            obtain ⟨x7_2, rfl, HA, HK2, BK235, HB⟩ := hrel
            cases gk with
            | zero => exact absurd HA.out (by simp [tithebarnref23_Known.l0])
            | succ k2 =>
              have H := HA.out
              clear HA
              simp only [tithebarnref23_Known.l0] at H
              by_cases c28 : x7_2 < (l0_6.length : Int)
              · rw [if_pos c28] at H
                have c28b0 : decide (x7_2 < (l0_6.length : Int)) = true := decide_eq_true c28
                clear c28
                by_cases c29 : 0 ≤ x7_2
                · rw [if_pos c29] at H
                  have c29b0 : decide (0 ≤ x7_2) = true := decide_eq_true c29
                  clear c29
                  replace H := Option.bind_eq_some_iff.mp H
                  obtain ⟨t241, A300, H⟩ := H
                  replace H : (if (t241 != (a0_0 == 2)) = true then (some (a0_0 == 3)) else (tithebarnref23_Known.l0 k2 l1 a2 (wrap64 (x7_2 + 1)) a0_0 a0_1 a0_2 a0_3 a0_4 a0_5 l0_6)) = some r := H
                  have A30 := Aside0.mk A300
                  clear A300
                  by_cases c31 : (t241 != (a0_0 == 2)) = true
                  · rw [if_pos c31] at H
                    have c31b0 : (t241 != (a0_0 == 2)) = true := c31
                    (try (have c31b1 : decide (t241 = (a0_0 == 2)) = false := by simpa using c31))
                    (try (have c31b2 : (t241 == (a0_0 == 2)) = false := by simpa using c31))
                    (try (have c31b3 : ¬ (t241 = (a0_0 == 2)) := by simpa using c31))
                    clear c31
                    obtain rfl := Option.some.inj H
                    have hcz32_0 : wr.cell? ⟨gb235, 0, none⟩ = some (.int .i64 a0_0) := (blk_cell BK235.out 0).trans rfl
                    have hcz32_1 : wr.cell? ⟨gb235, 1, none⟩ = some (.int .i64 a0_1) := (blk_cell BK235.out 1).trans rfl
                    have hcz32_2 : wr.cell? ⟨gb235, 2, none⟩ = some (.int .i64 a0_2) := (blk_cell BK235.out 2).trans rfl
                    have hcz32_3 : wr.cell? ⟨gb235, 3, none⟩ = some (.bool a0_3) := (blk_cell BK235.out 3).trans rfl
                    have hcz32_4 : wr.cell? ⟨gb235, 4, none⟩ = some (.int .i64 a0_4) := (blk_cell BK235.out 4).trans rfl
                    have hcz32_5 : wr.cell? ⟨gb235, 5, none⟩ = some (.string a0_5) := (blk_cell BK235.out 5).trans rfl
                    have hcz32_6 : wr.cell? ⟨gb235, 6, none⟩ = some (.slice A0_6 l0_6.length c0_6) := (blk_cell BK235.out 6).trans rfl
                    have hfz32_0 := blk_frozen BK235.out 0
                    have hfz32_1 := blk_frozen BK235.out 1
                    have hfz32_2 := blk_frozen BK235.out 2
                    have hfz32_3 := blk_frozen BK235.out 3
                    have hfz32_4 := blk_frozen BK235.out 4
                    have hfz32_5 := blk_frozen BK235.out 5
                    have hfz32_6 := blk_frozen BK235.out 6
                    try go_wp2
                    have n0_ := Aside0.mk (blk_drew BK235.out)
                    have n1_ := Aside0.mk (below_drew1 HB.out)
                    clear BK235
                    clear HB
                    have BK235 := n0_
                    have HB := n1_
                    clear n0_ n1_
                    have p240 : 0 ≤ (x7_2 : Int) := of_decide_eq_true (by first | (with_reducible assumption) | assumption)
                    have q240 : x7_2 < (l0_6.length : Int) := of_decide_eq_true (by first | (with_reducible assumption) | assumption)
                    obtain ⟨ad240, A240_6, c240_6, e240, hx240_0, hx240_1, hx240_2, hx240_3, hx240_4, hx240_5, hx240_6, hl240_6, hi240_6⟩ := at_T28 HR0_6.out x7_2 p240 q240
                    have hw240_6 := hx240_6
                    have hw240_5 := hx240_5
                    have hw240_4 := hx240_4
                    have hw240_3 := hx240_3
                    have hw240_2 := hx240_2
                    have hw240_1 := hx240_1
                    have hw240_0 := hx240_0
                    cases e240
                    replace hx240_0 := (HB.out.cell (World.block_lt_of_cell? w _ hx240_0)).trans hx240_0
                    replace hx240_1 := (HB.out.cell (World.block_lt_of_cell? w _ hx240_1)).trans hx240_1
                    replace hx240_2 := (HB.out.cell (World.block_lt_of_cell? w _ hx240_2)).trans hx240_2
                    replace hx240_3 := (HB.out.cell (World.block_lt_of_cell? w _ hx240_3)).trans hx240_3
                    replace hx240_4 := (HB.out.cell (World.block_lt_of_cell? w _ hx240_4)).trans hx240_4
                    replace hx240_5 := (HB.out.cell (World.block_lt_of_cell? w _ hx240_5)).trans hx240_5
                    replace hx240_6 := (HB.out.cell (World.block_lt_of_cell? w _ hx240_6)).trans hx240_6
                    have HR240_6 := Aside0.mk hi240_6
                    have HC240_6 := Aside0.mk hl240_6
                    clear hi240_6 hl240_6
                    replace p240 := eq_true p240
                    replace q240 := eq_true q240
                    refine start_ (n := 12) (S := fun w' => w'.cell? ⟨gb235, 0, none⟩ = some (.int .i64 a0_0) ∧ w'.cell? ⟨gb235, 1, none⟩ = some (.int .i64 a0_1) ∧ w'.cell? ⟨gb235, 2, none⟩ = some (.int .i64 a0_2) ∧ w'.cell? ⟨gb235, 3, none⟩ = some (.bool a0_3) ∧ w'.cell? ⟨gb235, 4, none⟩ = some (.int .i64 a0_4) ∧ w'.cell? ⟨gb235, 5, none⟩ = some (.string a0_5) ∧ w'.cell? ⟨gb235, 6, none⟩ = some (.slice (some ad240) l0_6.length c0_6) ∧ w'.cell? (ad240.add ((x7_2).toNat * 7)) = some (.int .i64 ((rd_T28 l0_6 x7_2).f0)) ∧ w'.cell? ⟨(ad240.add ((x7_2).toNat * 7)).block, (ad240.add ((x7_2).toNat * 7)).off + 1, none⟩ = some (.int .i64 ((rd_T28 l0_6 x7_2).f1.f0)) ∧ w'.cell? ⟨(ad240.add ((x7_2).toNat * 7)).block, (ad240.add ((x7_2).toNat * 7)).off + 2, none⟩ = some (.int .i64 ((rd_T28 l0_6 x7_2).f1.f1)) ∧ w'.cell? ⟨(ad240.add ((x7_2).toNat * 7)).block, (ad240.add ((x7_2).toNat * 7)).off + 3, none⟩ = some (.bool ((rd_T28 l0_6 x7_2).f1.f2.f0)) ∧ w'.cell? ⟨(ad240.add ((x7_2).toNat * 7)).block, (ad240.add ((x7_2).toNat * 7)).off + 4, none⟩ = some (.int .i64 ((rd_T28 l0_6 x7_2).f1.f2.f1)) ∧ w'.cell? ⟨(ad240.add ((x7_2).toNat * 7)).block, (ad240.add ((x7_2).toNat * 7)).off + 5, none⟩ = some (.string ((rd_T28 l0_6 x7_2).f1.f2.f2)) ∧ w'.cell? ⟨(ad240.add ((x7_2).toNat * 7)).block, (ad240.add ((x7_2).toNat * 7)).off + 6, none⟩ = some (.slice A240_6 ((rd_T28 l0_6 x7_2).f2).length c240_6)) (ds := []) #[false, false, false, false, false, false, false, false, false, false, false, false] (by kernel_rfl) rfl rfl ⟨(blk_cell BK235.out 0).trans rfl, (blk_cell BK235.out 1).trans rfl, (blk_cell BK235.out 2).trans rfl, (blk_cell BK235.out 3).trans rfl, (blk_cell BK235.out 4).trans rfl, (blk_cell BK235.out 5).trans rfl, (blk_cell BK235.out 6).trans rfl, ((HB.out.cell (World.block_lt_of_cell? w _ hw240_0)).trans hw240_0), ((HB.out.cell (World.block_lt_of_cell? w _ hw240_1)).trans hw240_1), ((HB.out.cell (World.block_lt_of_cell? w _ hw240_2)).trans hw240_2), ((HB.out.cell (World.block_lt_of_cell? w _ hw240_3)).trans hw240_3), ((HB.out.cell (World.block_lt_of_cell? w _ hw240_4)).trans hw240_4), ((HB.out.cell (World.block_lt_of_cell? w _ hw240_5)).trans hw240_5), ((HB.out.cell (World.block_lt_of_cell? w _ hw240_6)).trans hw240_6)⟩ (fun hHeld => ?_); refine with_tabW tithebarnref23_Known.tab13 tithebarnref23_Known.bits13 (fun HT_ HW_ => ?_)
                    generalize wr.drew = w33 at BK235 HB HR240_6 hx240_0 hx240_1 hx240_2 hx240_3 hx240_4 hx240_5 hx240_6 hHeld ⊢
                    refine pure_ (i := 0) (N := some 53) (v := ?_) (a' := ?_) #[true, false, false, false, false, false, false, false, false, false, false, false] rfl rfl (any_of HT_.out (by kernel_rfl)) (fun _ _ _ h => h) (Or.inl ⟨by rfl, ?_⟩) ?_ ?_
                    rotate_left
                    · intro w'
                      go_simp
                      with_reducible rfl
                    rotate_left
                    · simp only [Act.put, List.setIfInBounds_toArray, List.set_cons_zero, List.set_cons_succ, i64_w, i32_w]
                      rfl
                    refine pure_ (i := 2) (N := some 55) (v := ?_) (a' := ?_) #[true, false, true, false, false, false, false, false, false, false, false, false] rfl rfl (any_of HT_.out (by kernel_rfl)) (fun _ _ _ h => h) (Or.inl ⟨by rfl, ?_⟩) ?_ ?_
                    rotate_left
                    · intro w'
                      go_simp
                      with_reducible rfl
                    rotate_left
                    · simp only [Act.put, List.setIfInBounds_toArray, List.set_cons_zero, List.set_cons_succ, i64_w, i32_w]
                      rfl
                    refine pure_ (i := 5) (N := some 58) (v := ?_) (a' := ?_) #[true, false, true, false, false, true, false, false, false, false, false, false] rfl rfl (any_of HT_.out (by kernel_rfl)) (fun _ _ _ h => h) (Or.inl ⟨by rfl, ?_⟩) ?_ ?_
                    rotate_left
                    · intro w'
                      go_simp
                      with_reducible rfl
                    rotate_left
                    · simp only [Act.put, List.setIfInBounds_toArray, List.set_cons_zero, List.set_cons_succ, i64_w, i32_w]
                      rfl
                    refine pure_ (i := 6) (N := some 59) (v := ?_) (a' := ?_) #[true, false, true, false, false, true, true, false, false, false, false, false] rfl rfl (any_of HT_.out (by kernel_rfl)) (fun _ _ _ h => h) (Or.inl ⟨by rfl, ?_⟩) ?_ ?_
                    rotate_left
                    · intro w'
                      go_simp
                      with_reducible rfl
                    rotate_left
                    · simp only [Act.put, List.setIfInBounds_toArray, List.set_cons_zero, List.set_cons_succ, i64_w, i32_w]
                      rfl
                    refine pure_ (i := 8) (N := some 61) (v := ?_) (a' := ?_) #[true, false, true, false, false, true, true, false, true, false, false, false] rfl rfl (any_of HT_.out (by kernel_rfl)) (fun _ _ _ h => h) (Or.inl ⟨by rfl, ?_⟩) ?_ ?_
                    rotate_left
                    · intro w'
                      go_simp
                      with_reducible rfl
                    rotate_left
                    · simp only [Act.put, List.setIfInBounds_toArray, List.set_cons_zero, List.set_cons_succ, i64_w, i32_w]
                      rfl
                    refine take_ (i := 1) (N := some 54) (v := ?_) (a' := ?_) #[true, true, true, false, false, true, true, false, true, false, false, false] rfl rfl (take_ofW HT_.out HW_.out (by kernel_rfl)) (fun _ _ _ h => h) (Or.inl ⟨by rfl, ?_⟩) hHeld ?_ ?_
                    rotate_left
                    · rintro w' ⟨s0, s1, s2, s3, s4, s5, s6, s7, s8, s9, s10, s11, s12, s13⟩
                      go_simp
                      with_reducible rfl
                    rotate_left
                    · simp only [Act.put, List.setIfInBounds_toArray, List.set_cons_zero, List.set_cons_succ, i64_w, i32_w]
                      rfl
                    refine pure_ (i := 3) (N := some 56) (v := ?_) (a' := ?_) #[true, true, true, true, false, true, true, false, true, false, false, false] rfl rfl (any_of HT_.out (by kernel_rfl)) (fun _ _ _ h => h) (Or.inl ⟨by rfl, ?_⟩) ?_ ?_
                    rotate_left
                    · intro w'
                      go_simp
                      with_reducible rfl
                    rotate_left
                    · simp only [Act.put, List.setIfInBounds_toArray, List.set_cons_zero, List.set_cons_succ, i64_w, i32_w]
                      rfl
                    refine take_ (i := 4) (N := some 57) (v := ?_) (a' := ?_) #[true, true, true, true, true, true, true, false, true, false, false, false] rfl rfl (take_ofW HT_.out HW_.out (by kernel_rfl)) (fun _ _ _ h => h) (Or.inl ⟨by rfl, ?_⟩) hHeld ?_ ?_
                    rotate_left
                    · rintro w' ⟨s0, s1, s2, s3, s4, s5, s6, s7, s8, s9, s10, s11, s12, s13⟩
                      go_simp
                      with_reducible rfl
                    rotate_left
                    · simp only [Act.put, List.setIfInBounds_toArray, List.set_cons_zero, List.set_cons_succ, i64_w, i32_w]
                      rfl
                    refine take_ (i := 9) (N := some 62) (v := ?_) (a' := ?_) #[true, true, true, true, true, true, true, false, true, true, false, false] rfl rfl (take_ofW HT_.out HW_.out (by kernel_rfl)) (fun _ _ _ h => h) (Or.inl ⟨by rfl, ?_⟩) hHeld ?_ ?_
                    rotate_left
                    · rintro w' ⟨s0, s1, s2, s3, s4, s5, s6, s7, s8, s9, s10, s11, s12, s13⟩
                      go_simp
                      with_reducible rfl
                    rotate_left
                    · simp only [Act.put, List.setIfInBounds_toArray, List.set_cons_zero, List.set_cons_succ, i64_w, i32_w]
                      rfl
                    refine pure_ (i := 10) (N := some 63) (v := ?_) (a' := ?_) #[true, true, true, true, true, true, true, false, true, true, true, false] rfl rfl (any_of HT_.out (by kernel_rfl)) (fun _ _ _ h => h) (Or.inl ⟨by rfl, ?_⟩) ?_ ?_
                    rotate_left
                    · intro w'
                      go_simp
                      with_reducible rfl
                    rotate_left
                    · simp only [Act.put, List.setIfInBounds_toArray, List.set_cons_zero, List.set_cons_succ, i64_w, i32_w]
                      rfl
                    refine one_ (i := 7) (N := some 60) #[true, true, true, true, true, true, true, true, true, true, true, false] rfl rfl (one_of HT_.out (by kernel_rfl)) (by decide) (fun K hK => ?_)
                    refine goes_ Tryd.func22 (by kernel_rfl) rfl #[.agg #[.int .i64 ((rd_T28 l0_6 x7_2).f0), .int .i64 ((rd_T28 l0_6 x7_2).f1.f0), .int .i64 ((rd_T28 l0_6 x7_2).f1.f1), .bool ((rd_T28 l0_6 x7_2).f1.f2.f0), .int .i64 ((rd_T28 l0_6 x7_2).f1.f2.f1), .string ((rd_T28 l0_6 x7_2).f1.f2.f2), .slice A240_6 ((rd_T28 l0_6 x7_2).f2).length c240_6], .slice A1 l1.length c1, .bool a2] (by rfl) rfl rfl (by (try simp only [List.map_toArray, List.map_cons, List.map_nil]); first | done | rfl | (simp only [List.length_drop, List.length_take]; rfl)) ?_
                    with_reducible refine (ih k2 (by have := HJ22.out; have := HK2.out; omega) ((rd_T28 l0_6 x7_2).f0) ((rd_T28 l0_6 x7_2).f1.f0) ((rd_T28 l0_6 x7_2).f1.f1) ((rd_T28 l0_6 x7_2).f1.f2.f0) ((rd_T28 l0_6 x7_2).f1.f2.f1) ((rd_T28 l0_6 x7_2).f1.f2.f2) _ _ ((rd_T28 l0_6 x7_2).f2) _ _ l1 a2 t241 _ ?side1 ?side2 ?side3 ?side4 A30.out).mono ?_
                    (case side1 => repeat (first | exact (Kd.C_below HR240_6.out HB.out) | (with_reducible refine Kd.C_alloc ?_ _) | (with_reducible refine Kd.C_drewN ?_ _) | (with_reducible refine Kd.C_drew ?_)))
                    (case side2 => exact HC240_6.out)
                    (case side3 => repeat (first | exact (Kd.C_below HR1.out HB.out) | (with_reducible refine Kd.C_alloc ?_ _) | (with_reducible refine Kd.C_drewN ?_ _) | (with_reducible refine Kd.C_drew ?_)))
                    (case side4 => exact HC1.out)
                    rintro e w34 ⟨rfl, hb⟩
                    refine ⟨_, rfl, ?_⟩
                    have n0_ := Aside0.mk (blk_below (g := gb235) (o := .cells #[.int .i64 a0_0, .int .i64 a0_1, .int .i64 a0_2, .bool a0_3, .int .i64 a0_4, .string a0_5, .slice (some ad240) l0_6.length c0_6] 28 (0, 0)) (by (with_reducible repeat (first | refine blk_drewN ?_ _ | refine blk_drew ?_ | refine blk_alloc ?_ _)); exact BK235.out) hb)
                    have n1_ := Aside0.mk (below_step (by repeat (first | (with_reducible first | exact HB.out | apply below_alloc | apply pw_below_drewN | apply below_drew1 | refine below_set ?_ GE235.out) | exact HB.out)) hb)
                    clear BK235
                    clear HB
                    have BK235 := n0_
                    have HB := n1_
                    clear n0_ n1_
                    (try clear hb)
                    (try clear hb2)
                    (try clear hk)
                    (try clear hi)
                    refine hK.out _ _ ⟨(blk_cell BK235.out 0).trans rfl, (blk_cell BK235.out 1).trans rfl, (blk_cell BK235.out 2).trans rfl, (blk_cell BK235.out 3).trans rfl, (blk_cell BK235.out 4).trans rfl, (blk_cell BK235.out 5).trans rfl, (blk_cell BK235.out 6).trans rfl, ((HB.out.cell (World.block_lt_of_cell? w _ hw240_0)).trans hw240_0), ((HB.out.cell (World.block_lt_of_cell? w _ hw240_1)).trans hw240_1), ((HB.out.cell (World.block_lt_of_cell? w _ hw240_2)).trans hw240_2), ((HB.out.cell (World.block_lt_of_cell? w _ hw240_3)).trans hw240_3), ((HB.out.cell (World.block_lt_of_cell? w _ hw240_4)).trans hw240_4), ((HB.out.cell (World.block_lt_of_cell? w _ hw240_5)).trans hw240_5), ((HB.out.cell (World.block_lt_of_cell? w _ hw240_6)).trans hw240_6)⟩ (fun hHeld => ?_)
                    clear hK K
                    refine norm_ (a' := ?_) ?_ ?_
                    rotate_left
                    · show Act.put _ (some 60) _ = _
                      simp only [Act.put, List.setIfInBounds_toArray, List.set_cons_zero, List.set_cons_succ, i64_w, i32_w]
                      rfl
                    refine pure_ (i := 11) (N := some 64) (v := ?_) (a' := ?_) #[true, true, true, true, true, true, true, true, true, true, true, true] rfl rfl (any_of HT_.out (by kernel_rfl)) (fun _ _ _ h => h) (Or.inl ⟨by rfl, ?_⟩) ?_ ?_
                    rotate_left
                    · intro w'
                      go_simp
                      with_reducible rfl
                    rotate_left
                    · simp only [Act.put, List.setIfInBounds_toArray, List.set_cons_zero, List.set_cons_succ, i64_w, i32_w]
                      rfl
                    refine done_ (done_of HT_.out (by kernel_rfl)) ?_
                    have hcz35_0 : w34.cell? ⟨gb235, 0, none⟩ = some (.int .i64 a0_0) := (blk_cell BK235.out 0).trans rfl
                    have hcz35_1 : w34.cell? ⟨gb235, 1, none⟩ = some (.int .i64 a0_1) := (blk_cell BK235.out 1).trans rfl
                    have hcz35_2 : w34.cell? ⟨gb235, 2, none⟩ = some (.int .i64 a0_2) := (blk_cell BK235.out 2).trans rfl
                    have hcz35_3 : w34.cell? ⟨gb235, 3, none⟩ = some (.bool a0_3) := (blk_cell BK235.out 3).trans rfl
                    have hcz35_4 : w34.cell? ⟨gb235, 4, none⟩ = some (.int .i64 a0_4) := (blk_cell BK235.out 4).trans rfl
                    have hcz35_5 : w34.cell? ⟨gb235, 5, none⟩ = some (.string a0_5) := (blk_cell BK235.out 5).trans rfl
                    have hcz35_6 : w34.cell? ⟨gb235, 6, none⟩ = some (.slice (some ad240) l0_6.length c0_6) := (blk_cell BK235.out 6).trans rfl
                    have hfz35_0 := blk_frozen BK235.out 0
                    have hfz35_1 := blk_frozen BK235.out 1
                    have hfz35_2 := blk_frozen BK235.out 2
                    have hfz35_3 := blk_frozen BK235.out 3
                    have hfz35_4 := blk_frozen BK235.out 4
                    have hfz35_5 := blk_frozen BK235.out 5
                    have hfz35_6 := blk_frozen BK235.out 6
                    try go_wp2
                    go_ret
                    exact ⟨by first | rfl | (simp [errW_none, errW_some] <;> rfl) | (simp [*, errW_none, errW_some] <;> rfl), by repeat (first | (with_reducible first | exact HB.out | apply below_alloc | apply pw_below_drewN | apply below_drew1 | refine below_set ?_ GE235.out) | exact HB.out)⟩
                  · rw [if_neg c31] at H
                    have c31b0 : (t241 != (a0_0 == 2)) = false := by simpa using c31
                    (try (have c31b1 : decide (t241 = (a0_0 == 2)) = true := by simpa using c31))
                    (try (have c31b2 : (t241 == (a0_0 == 2)) = true := by simpa using c31))
                    clear c31
                    have H' := Aside0.mk H
                    clear H
                    have hcz36_0 : wr.cell? ⟨gb235, 0, none⟩ = some (.int .i64 a0_0) := (blk_cell BK235.out 0).trans rfl
                    have hcz36_1 : wr.cell? ⟨gb235, 1, none⟩ = some (.int .i64 a0_1) := (blk_cell BK235.out 1).trans rfl
                    have hcz36_2 : wr.cell? ⟨gb235, 2, none⟩ = some (.int .i64 a0_2) := (blk_cell BK235.out 2).trans rfl
                    have hcz36_3 : wr.cell? ⟨gb235, 3, none⟩ = some (.bool a0_3) := (blk_cell BK235.out 3).trans rfl
                    have hcz36_4 : wr.cell? ⟨gb235, 4, none⟩ = some (.int .i64 a0_4) := (blk_cell BK235.out 4).trans rfl
                    have hcz36_5 : wr.cell? ⟨gb235, 5, none⟩ = some (.string a0_5) := (blk_cell BK235.out 5).trans rfl
                    have hcz36_6 : wr.cell? ⟨gb235, 6, none⟩ = some (.slice A0_6 l0_6.length c0_6) := (blk_cell BK235.out 6).trans rfl
                    have hfz36_0 := blk_frozen BK235.out 0
                    have hfz36_1 := blk_frozen BK235.out 1
                    have hfz36_2 := blk_frozen BK235.out 2
                    have hfz36_3 := blk_frozen BK235.out 3
                    have hfz36_4 := blk_frozen BK235.out 4
                    have hfz36_5 := blk_frozen BK235.out 5
                    have hfz36_6 := blk_frozen BK235.out 6
                    try go_wp2
                    have n0_ := Aside0.mk (blk_drew BK235.out)
                    have n1_ := Aside0.mk (below_drew1 HB.out)
                    clear BK235
                    clear HB
                    have BK235 := n0_
                    have HB := n1_
                    clear n0_ n1_
                    have p240 : 0 ≤ (x7_2 : Int) := of_decide_eq_true (by first | (with_reducible assumption) | assumption)
                    have q240 : x7_2 < (l0_6.length : Int) := of_decide_eq_true (by first | (with_reducible assumption) | assumption)
                    obtain ⟨ad240, A240_6, c240_6, e240, hx240_0, hx240_1, hx240_2, hx240_3, hx240_4, hx240_5, hx240_6, hl240_6, hi240_6⟩ := at_T28 HR0_6.out x7_2 p240 q240
                    have hw240_6 := hx240_6
                    have hw240_5 := hx240_5
                    have hw240_4 := hx240_4
                    have hw240_3 := hx240_3
                    have hw240_2 := hx240_2
                    have hw240_1 := hx240_1
                    have hw240_0 := hx240_0
                    cases e240
                    replace hx240_0 := (HB.out.cell (World.block_lt_of_cell? w _ hx240_0)).trans hx240_0
                    replace hx240_1 := (HB.out.cell (World.block_lt_of_cell? w _ hx240_1)).trans hx240_1
                    replace hx240_2 := (HB.out.cell (World.block_lt_of_cell? w _ hx240_2)).trans hx240_2
                    replace hx240_3 := (HB.out.cell (World.block_lt_of_cell? w _ hx240_3)).trans hx240_3
                    replace hx240_4 := (HB.out.cell (World.block_lt_of_cell? w _ hx240_4)).trans hx240_4
                    replace hx240_5 := (HB.out.cell (World.block_lt_of_cell? w _ hx240_5)).trans hx240_5
                    replace hx240_6 := (HB.out.cell (World.block_lt_of_cell? w _ hx240_6)).trans hx240_6
                    have HR240_6 := Aside0.mk hi240_6
                    have HC240_6 := Aside0.mk hl240_6
                    clear hi240_6 hl240_6
                    replace p240 := eq_true p240
                    replace q240 := eq_true q240
                    refine start_ (n := 12) (S := fun w' => w'.cell? ⟨gb235, 0, none⟩ = some (.int .i64 a0_0) ∧ w'.cell? ⟨gb235, 1, none⟩ = some (.int .i64 a0_1) ∧ w'.cell? ⟨gb235, 2, none⟩ = some (.int .i64 a0_2) ∧ w'.cell? ⟨gb235, 3, none⟩ = some (.bool a0_3) ∧ w'.cell? ⟨gb235, 4, none⟩ = some (.int .i64 a0_4) ∧ w'.cell? ⟨gb235, 5, none⟩ = some (.string a0_5) ∧ w'.cell? ⟨gb235, 6, none⟩ = some (.slice (some ad240) l0_6.length c0_6) ∧ w'.cell? (ad240.add ((x7_2).toNat * 7)) = some (.int .i64 ((rd_T28 l0_6 x7_2).f0)) ∧ w'.cell? ⟨(ad240.add ((x7_2).toNat * 7)).block, (ad240.add ((x7_2).toNat * 7)).off + 1, none⟩ = some (.int .i64 ((rd_T28 l0_6 x7_2).f1.f0)) ∧ w'.cell? ⟨(ad240.add ((x7_2).toNat * 7)).block, (ad240.add ((x7_2).toNat * 7)).off + 2, none⟩ = some (.int .i64 ((rd_T28 l0_6 x7_2).f1.f1)) ∧ w'.cell? ⟨(ad240.add ((x7_2).toNat * 7)).block, (ad240.add ((x7_2).toNat * 7)).off + 3, none⟩ = some (.bool ((rd_T28 l0_6 x7_2).f1.f2.f0)) ∧ w'.cell? ⟨(ad240.add ((x7_2).toNat * 7)).block, (ad240.add ((x7_2).toNat * 7)).off + 4, none⟩ = some (.int .i64 ((rd_T28 l0_6 x7_2).f1.f2.f1)) ∧ w'.cell? ⟨(ad240.add ((x7_2).toNat * 7)).block, (ad240.add ((x7_2).toNat * 7)).off + 5, none⟩ = some (.string ((rd_T28 l0_6 x7_2).f1.f2.f2)) ∧ w'.cell? ⟨(ad240.add ((x7_2).toNat * 7)).block, (ad240.add ((x7_2).toNat * 7)).off + 6, none⟩ = some (.slice A240_6 ((rd_T28 l0_6 x7_2).f2).length c240_6)) (ds := []) #[false, false, false, false, false, false, false, false, false, false, false, false] (by kernel_rfl) rfl rfl ⟨(blk_cell BK235.out 0).trans rfl, (blk_cell BK235.out 1).trans rfl, (blk_cell BK235.out 2).trans rfl, (blk_cell BK235.out 3).trans rfl, (blk_cell BK235.out 4).trans rfl, (blk_cell BK235.out 5).trans rfl, (blk_cell BK235.out 6).trans rfl, ((HB.out.cell (World.block_lt_of_cell? w _ hw240_0)).trans hw240_0), ((HB.out.cell (World.block_lt_of_cell? w _ hw240_1)).trans hw240_1), ((HB.out.cell (World.block_lt_of_cell? w _ hw240_2)).trans hw240_2), ((HB.out.cell (World.block_lt_of_cell? w _ hw240_3)).trans hw240_3), ((HB.out.cell (World.block_lt_of_cell? w _ hw240_4)).trans hw240_4), ((HB.out.cell (World.block_lt_of_cell? w _ hw240_5)).trans hw240_5), ((HB.out.cell (World.block_lt_of_cell? w _ hw240_6)).trans hw240_6)⟩ (fun hHeld => ?_); refine with_tabW tithebarnref23_Known.tab13 tithebarnref23_Known.bits13 (fun HT_ HW_ => ?_)
                    generalize wr.drew = w37 at BK235 HB HR240_6 hx240_0 hx240_1 hx240_2 hx240_3 hx240_4 hx240_5 hx240_6 hHeld ⊢
                    refine pure_ (i := 0) (N := some 53) (v := ?_) (a' := ?_) #[true, false, false, false, false, false, false, false, false, false, false, false] rfl rfl (any_of HT_.out (by kernel_rfl)) (fun _ _ _ h => h) (Or.inl ⟨by rfl, ?_⟩) ?_ ?_
                    rotate_left
                    · intro w'
                      go_simp
                      with_reducible rfl
                    rotate_left
                    · simp only [Act.put, List.setIfInBounds_toArray, List.set_cons_zero, List.set_cons_succ, i64_w, i32_w]
                      rfl
                    refine pure_ (i := 2) (N := some 55) (v := ?_) (a' := ?_) #[true, false, true, false, false, false, false, false, false, false, false, false] rfl rfl (any_of HT_.out (by kernel_rfl)) (fun _ _ _ h => h) (Or.inl ⟨by rfl, ?_⟩) ?_ ?_
                    rotate_left
                    · intro w'
                      go_simp
                      with_reducible rfl
                    rotate_left
                    · simp only [Act.put, List.setIfInBounds_toArray, List.set_cons_zero, List.set_cons_succ, i64_w, i32_w]
                      rfl
                    refine pure_ (i := 5) (N := some 58) (v := ?_) (a' := ?_) #[true, false, true, false, false, true, false, false, false, false, false, false] rfl rfl (any_of HT_.out (by kernel_rfl)) (fun _ _ _ h => h) (Or.inl ⟨by rfl, ?_⟩) ?_ ?_
                    rotate_left
                    · intro w'
                      go_simp
                      with_reducible rfl
                    rotate_left
                    · simp only [Act.put, List.setIfInBounds_toArray, List.set_cons_zero, List.set_cons_succ, i64_w, i32_w]
                      rfl
                    refine pure_ (i := 6) (N := some 59) (v := ?_) (a' := ?_) #[true, false, true, false, false, true, true, false, false, false, false, false] rfl rfl (any_of HT_.out (by kernel_rfl)) (fun _ _ _ h => h) (Or.inl ⟨by rfl, ?_⟩) ?_ ?_
                    rotate_left
                    · intro w'
                      go_simp
                      with_reducible rfl
                    rotate_left
                    · simp only [Act.put, List.setIfInBounds_toArray, List.set_cons_zero, List.set_cons_succ, i64_w, i32_w]
                      rfl
                    refine pure_ (i := 8) (N := some 61) (v := ?_) (a' := ?_) #[true, false, true, false, false, true, true, false, true, false, false, false] rfl rfl (any_of HT_.out (by kernel_rfl)) (fun _ _ _ h => h) (Or.inl ⟨by rfl, ?_⟩) ?_ ?_
                    rotate_left
                    · intro w'
                      go_simp
                      with_reducible rfl
                    rotate_left
                    · simp only [Act.put, List.setIfInBounds_toArray, List.set_cons_zero, List.set_cons_succ, i64_w, i32_w]
                      rfl
                    refine take_ (i := 1) (N := some 54) (v := ?_) (a' := ?_) #[true, true, true, false, false, true, true, false, true, false, false, false] rfl rfl (take_ofW HT_.out HW_.out (by kernel_rfl)) (fun _ _ _ h => h) (Or.inl ⟨by rfl, ?_⟩) hHeld ?_ ?_
                    rotate_left
                    · rintro w' ⟨s0, s1, s2, s3, s4, s5, s6, s7, s8, s9, s10, s11, s12, s13⟩
                      go_simp
                      with_reducible rfl
                    rotate_left
                    · simp only [Act.put, List.setIfInBounds_toArray, List.set_cons_zero, List.set_cons_succ, i64_w, i32_w]
                      rfl
                    refine pure_ (i := 3) (N := some 56) (v := ?_) (a' := ?_) #[true, true, true, true, false, true, true, false, true, false, false, false] rfl rfl (any_of HT_.out (by kernel_rfl)) (fun _ _ _ h => h) (Or.inl ⟨by rfl, ?_⟩) ?_ ?_
                    rotate_left
                    · intro w'
                      go_simp
                      with_reducible rfl
                    rotate_left
                    · simp only [Act.put, List.setIfInBounds_toArray, List.set_cons_zero, List.set_cons_succ, i64_w, i32_w]
                      rfl
                    refine take_ (i := 4) (N := some 57) (v := ?_) (a' := ?_) #[true, true, true, true, true, true, true, false, true, false, false, false] rfl rfl (take_ofW HT_.out HW_.out (by kernel_rfl)) (fun _ _ _ h => h) (Or.inl ⟨by rfl, ?_⟩) hHeld ?_ ?_
                    rotate_left
                    · rintro w' ⟨s0, s1, s2, s3, s4, s5, s6, s7, s8, s9, s10, s11, s12, s13⟩
                      go_simp
                      with_reducible rfl
                    rotate_left
                    · simp only [Act.put, List.setIfInBounds_toArray, List.set_cons_zero, List.set_cons_succ, i64_w, i32_w]
                      rfl
                    refine take_ (i := 9) (N := some 62) (v := ?_) (a' := ?_) #[true, true, true, true, true, true, true, false, true, true, false, false] rfl rfl (take_ofW HT_.out HW_.out (by kernel_rfl)) (fun _ _ _ h => h) (Or.inl ⟨by rfl, ?_⟩) hHeld ?_ ?_
                    rotate_left
                    · rintro w' ⟨s0, s1, s2, s3, s4, s5, s6, s7, s8, s9, s10, s11, s12, s13⟩
                      go_simp
                      with_reducible rfl
                    rotate_left
                    · simp only [Act.put, List.setIfInBounds_toArray, List.set_cons_zero, List.set_cons_succ, i64_w, i32_w]
                      rfl
                    refine pure_ (i := 10) (N := some 63) (v := ?_) (a' := ?_) #[true, true, true, true, true, true, true, false, true, true, true, false] rfl rfl (any_of HT_.out (by kernel_rfl)) (fun _ _ _ h => h) (Or.inl ⟨by rfl, ?_⟩) ?_ ?_
                    rotate_left
                    · intro w'
                      go_simp
                      with_reducible rfl
                    rotate_left
                    · simp only [Act.put, List.setIfInBounds_toArray, List.set_cons_zero, List.set_cons_succ, i64_w, i32_w]
                      rfl
                    refine one_ (i := 7) (N := some 60) #[true, true, true, true, true, true, true, true, true, true, true, false] rfl rfl (one_of HT_.out (by kernel_rfl)) (by decide) (fun K hK => ?_)
                    refine goes_ Tryd.func22 (by kernel_rfl) rfl #[.agg #[.int .i64 ((rd_T28 l0_6 x7_2).f0), .int .i64 ((rd_T28 l0_6 x7_2).f1.f0), .int .i64 ((rd_T28 l0_6 x7_2).f1.f1), .bool ((rd_T28 l0_6 x7_2).f1.f2.f0), .int .i64 ((rd_T28 l0_6 x7_2).f1.f2.f1), .string ((rd_T28 l0_6 x7_2).f1.f2.f2), .slice A240_6 ((rd_T28 l0_6 x7_2).f2).length c240_6], .slice A1 l1.length c1, .bool a2] (by rfl) rfl rfl (by (try simp only [List.map_toArray, List.map_cons, List.map_nil]); first | done | rfl | (simp only [List.length_drop, List.length_take]; rfl)) ?_
                    with_reducible refine (ih k2 (by have := HJ22.out; have := HK2.out; omega) ((rd_T28 l0_6 x7_2).f0) ((rd_T28 l0_6 x7_2).f1.f0) ((rd_T28 l0_6 x7_2).f1.f1) ((rd_T28 l0_6 x7_2).f1.f2.f0) ((rd_T28 l0_6 x7_2).f1.f2.f1) ((rd_T28 l0_6 x7_2).f1.f2.f2) _ _ ((rd_T28 l0_6 x7_2).f2) _ _ l1 a2 t241 _ ?side1 ?side2 ?side3 ?side4 A30.out).mono ?_
                    (case side1 => repeat (first | exact (Kd.C_below HR240_6.out HB.out) | (with_reducible refine Kd.C_alloc ?_ _) | (with_reducible refine Kd.C_drewN ?_ _) | (with_reducible refine Kd.C_drew ?_)))
                    (case side2 => exact HC240_6.out)
                    (case side3 => repeat (first | exact (Kd.C_below HR1.out HB.out) | (with_reducible refine Kd.C_alloc ?_ _) | (with_reducible refine Kd.C_drewN ?_ _) | (with_reducible refine Kd.C_drew ?_)))
                    (case side4 => exact HC1.out)
                    rintro e w38 ⟨rfl, hb⟩
                    refine ⟨_, rfl, ?_⟩
                    have n0_ := Aside0.mk (blk_below (g := gb235) (o := .cells #[.int .i64 a0_0, .int .i64 a0_1, .int .i64 a0_2, .bool a0_3, .int .i64 a0_4, .string a0_5, .slice (some ad240) l0_6.length c0_6] 28 (0, 0)) (by (with_reducible repeat (first | refine blk_drewN ?_ _ | refine blk_drew ?_ | refine blk_alloc ?_ _)); exact BK235.out) hb)
                    have n1_ := Aside0.mk (below_step (by repeat (first | (with_reducible first | exact HB.out | apply below_alloc | apply pw_below_drewN | apply below_drew1 | refine below_set ?_ GE235.out) | exact HB.out)) hb)
                    clear BK235
                    clear HB
                    have BK235 := n0_
                    have HB := n1_
                    clear n0_ n1_
                    (try clear hb)
                    (try clear hb2)
                    (try clear hk)
                    (try clear hi)
                    refine hK.out _ _ ⟨(blk_cell BK235.out 0).trans rfl, (blk_cell BK235.out 1).trans rfl, (blk_cell BK235.out 2).trans rfl, (blk_cell BK235.out 3).trans rfl, (blk_cell BK235.out 4).trans rfl, (blk_cell BK235.out 5).trans rfl, (blk_cell BK235.out 6).trans rfl, ((HB.out.cell (World.block_lt_of_cell? w _ hw240_0)).trans hw240_0), ((HB.out.cell (World.block_lt_of_cell? w _ hw240_1)).trans hw240_1), ((HB.out.cell (World.block_lt_of_cell? w _ hw240_2)).trans hw240_2), ((HB.out.cell (World.block_lt_of_cell? w _ hw240_3)).trans hw240_3), ((HB.out.cell (World.block_lt_of_cell? w _ hw240_4)).trans hw240_4), ((HB.out.cell (World.block_lt_of_cell? w _ hw240_5)).trans hw240_5), ((HB.out.cell (World.block_lt_of_cell? w _ hw240_6)).trans hw240_6)⟩ (fun hHeld => ?_)
                    clear hK K
                    refine norm_ (a' := ?_) ?_ ?_
                    rotate_left
                    · show Act.put _ (some 60) _ = _
                      simp only [Act.put, List.setIfInBounds_toArray, List.set_cons_zero, List.set_cons_succ, i64_w, i32_w]
                      rfl
                    refine pure_ (i := 11) (N := some 64) (v := ?_) (a' := ?_) #[true, true, true, true, true, true, true, true, true, true, true, true] rfl rfl (any_of HT_.out (by kernel_rfl)) (fun _ _ _ h => h) (Or.inl ⟨by rfl, ?_⟩) ?_ ?_
                    rotate_left
                    · intro w'
                      go_simp
                      with_reducible rfl
                    rotate_left
                    · simp only [Act.put, List.setIfInBounds_toArray, List.set_cons_zero, List.set_cons_succ, i64_w, i32_w]
                      rfl
                    refine done_ (done_of HT_.out (by kernel_rfl)) ?_
                    try go_wp2
                    go_roundg k2
                    case measure => have := HJ22.out; have := HK2.out; omega
                    case rel => exact ⟨(wrap64 (x7_2 + 1)), (by first | rfl | (simp; done) | (simp [*]; done)), H', ⟨by have := HJ22.out; have := HK2.out; omega⟩, ⟨by (with_reducible repeat (first | refine blk_drewN ?_ _ | refine blk_drew ?_ | refine blk_alloc ?_ _)); exact BK235.out⟩, ⟨by repeat (first | (with_reducible first | exact HB.out | apply below_alloc | apply pw_below_drewN | apply below_drew1 | refine below_set ?_ GE235.out) | exact HB.out)⟩⟩
                · rw [if_neg c29] at H
                  exact absurd H (by simp)
              · rw [if_neg c28] at H
                have c28b0 : decide (x7_2 < (l0_6.length : Int)) = false := decide_eq_false c28
                clear c28
                obtain rfl := Option.some.inj H
                have hcz39_0 : wr.cell? ⟨gb235, 0, none⟩ = some (.int .i64 a0_0) := (blk_cell BK235.out 0).trans rfl
                have hcz39_1 : wr.cell? ⟨gb235, 1, none⟩ = some (.int .i64 a0_1) := (blk_cell BK235.out 1).trans rfl
                have hcz39_2 : wr.cell? ⟨gb235, 2, none⟩ = some (.int .i64 a0_2) := (blk_cell BK235.out 2).trans rfl
                have hcz39_3 : wr.cell? ⟨gb235, 3, none⟩ = some (.bool a0_3) := (blk_cell BK235.out 3).trans rfl
                have hcz39_4 : wr.cell? ⟨gb235, 4, none⟩ = some (.int .i64 a0_4) := (blk_cell BK235.out 4).trans rfl
                have hcz39_5 : wr.cell? ⟨gb235, 5, none⟩ = some (.string a0_5) := (blk_cell BK235.out 5).trans rfl
                have hcz39_6 : wr.cell? ⟨gb235, 6, none⟩ = some (.slice A0_6 l0_6.length c0_6) := (blk_cell BK235.out 6).trans rfl
                have hfz39_0 := blk_frozen BK235.out 0
                have hfz39_1 := blk_frozen BK235.out 1
                have hfz39_2 := blk_frozen BK235.out 2
                have hfz39_3 := blk_frozen BK235.out 3
                have hfz39_4 := blk_frozen BK235.out 4
                have hfz39_5 := blk_frozen BK235.out 5
                have hfz39_6 := blk_frozen BK235.out 6
                go_wp2
                go_ret
                exact ⟨by first | rfl | (simp [errW_none, errW_some] <;> rfl) | (simp [*, errW_none, errW_some] <;> rfl), by repeat (first | (with_reducible first | exact HB.out | apply below_alloc | apply pw_below_drewN | apply below_drew1 | refine below_set ?_ GE235.out) | exact HB.out)⟩
        · replace c27 := Bool.eq_false_iff.mpr c27
          subst c27
          have H1 : (if a0_0 = 4 then (if (l0_6.length : Int) = 0 then (some true) else (if 0 < (l0_6.length : Int) then ((tithebarnref23_Known.f kj22 ((rd_T28 l0_6 0).f0) ((rd_T28 l0_6 0).f1.f0) ((rd_T28 l0_6 0).f1.f1) ((rd_T28 l0_6 0).f1.f2.f0) ((rd_T28 l0_6 0).f1.f2.f1) ((rd_T28 l0_6 0).f1.f2.f2) ((rd_T28 l0_6 0).f2) l1 (!a2)).bind fun t243 => (some (!t243))) else (none))) else (some false)) = some r := by rw [if_neg (show ¬ (false = true) by decide)] at H; exact H
          clear H
          have H := H1
          clear H1
          by_cases c40 : a0_0 = 4
          · rw [if_pos c40] at H
            have c40b0 : (a0_0 == 4) = true := beq_iff_eq.mpr c40
            have c40b1 : (a0_0 != 4) = false := bne_eq_false_iff_eq.mpr c40
            clear c40
            by_cases c41 : (l0_6.length : Int) = 0
            · rw [if_pos c41] at H
              have c41b0 : ((l0_6.length : Int) == 0) = true := beq_iff_eq.mpr c41
              have c41b1 : ((l0_6.length : Int) != 0) = false := bne_eq_false_iff_eq.mpr c41
              clear c41
              obtain rfl := Option.some.inj H
              have hcz42_0 : wc.cell? ⟨gb235, 0, none⟩ = some (.int .i64 a0_0) := (blk_cell BK235.out 0).trans rfl
              have hcz42_1 : wc.cell? ⟨gb235, 1, none⟩ = some (.int .i64 a0_1) := (blk_cell BK235.out 1).trans rfl
              have hcz42_2 : wc.cell? ⟨gb235, 2, none⟩ = some (.int .i64 a0_2) := (blk_cell BK235.out 2).trans rfl
              have hcz42_3 : wc.cell? ⟨gb235, 3, none⟩ = some (.bool a0_3) := (blk_cell BK235.out 3).trans rfl
              have hcz42_4 : wc.cell? ⟨gb235, 4, none⟩ = some (.int .i64 a0_4) := (blk_cell BK235.out 4).trans rfl
              have hcz42_5 : wc.cell? ⟨gb235, 5, none⟩ = some (.string a0_5) := (blk_cell BK235.out 5).trans rfl
              have hcz42_6 : wc.cell? ⟨gb235, 6, none⟩ = some (.slice A0_6 l0_6.length c0_6) := (blk_cell BK235.out 6).trans rfl
              have hfz42_0 := blk_frozen BK235.out 0
              have hfz42_1 := blk_frozen BK235.out 1
              have hfz42_2 := blk_frozen BK235.out 2
              have hfz42_3 := blk_frozen BK235.out 3
              have hfz42_4 := blk_frozen BK235.out 4
              have hfz42_5 := blk_frozen BK235.out 5
              have hfz42_6 := blk_frozen BK235.out 6
              go_wp2
              go_ret
              exact ⟨by first | rfl | (simp [errW_none, errW_some] <;> rfl) | (simp [*, errW_none, errW_some] <;> rfl), by repeat (first | (with_reducible first | exact HB.out | apply below_alloc | apply pw_below_drewN | apply below_drew1 | refine below_set ?_ GE235.out) | exact HB.out)⟩
            · rw [if_neg c41] at H
              have c41b0 : ((l0_6.length : Int) == 0) = false := beq_eq_false_iff_ne.mpr c41
              have c41b1 : ((l0_6.length : Int) != 0) = true := bne_iff_ne.mpr c41
              have c41b2 : ¬ (l0_6 = []) := fun h_ => c41 (by rw [h_]; rfl)
              by_cases c43 : 0 < (l0_6.length : Int)
              · rw [if_pos c43] at H
                have c43b0 : decide (0 < (l0_6.length : Int)) = true := decide_eq_true c43
                have c43b1 : decide (0 < l0_6.length) = true := decide_eq_true (by omega)
                clear c43
                replace H := Option.bind_eq_some_iff.mp H
                obtain ⟨t243, A440, H⟩ := H
                replace H : (some (!t243)) = some r := H
                have A44 := Aside0.mk A440
                clear A440
                obtain rfl := Option.some.inj H
                have hcz45_0 : wc.cell? ⟨gb235, 0, none⟩ = some (.int .i64 a0_0) := (blk_cell BK235.out 0).trans rfl
                have hcz45_1 : wc.cell? ⟨gb235, 1, none⟩ = some (.int .i64 a0_1) := (blk_cell BK235.out 1).trans rfl
                have hcz45_2 : wc.cell? ⟨gb235, 2, none⟩ = some (.int .i64 a0_2) := (blk_cell BK235.out 2).trans rfl
                have hcz45_3 : wc.cell? ⟨gb235, 3, none⟩ = some (.bool a0_3) := (blk_cell BK235.out 3).trans rfl
                have hcz45_4 : wc.cell? ⟨gb235, 4, none⟩ = some (.int .i64 a0_4) := (blk_cell BK235.out 4).trans rfl
                have hcz45_5 : wc.cell? ⟨gb235, 5, none⟩ = some (.string a0_5) := (blk_cell BK235.out 5).trans rfl
                have hcz45_6 : wc.cell? ⟨gb235, 6, none⟩ = some (.slice A0_6 l0_6.length c0_6) := (blk_cell BK235.out 6).trans rfl
                have hfz45_0 := blk_frozen BK235.out 0
                have hfz45_1 := blk_frozen BK235.out 1
                have hfz45_2 := blk_frozen BK235.out 2
                have hfz45_3 := blk_frozen BK235.out 3
                have hfz45_4 := blk_frozen BK235.out 4
                have hfz45_5 := blk_frozen BK235.out 5
                have hfz45_6 := blk_frozen BK235.out 6
                have p242 : 0 ≤ (0 : Int) := (by omega)
                have q242 : 0 < (l0_6.length : Int) := of_decide_eq_true (by first | (with_reducible assumption) | assumption)
                obtain ⟨ad242, A242_6, c242_6, e242, hx242_0, hx242_1, hx242_2, hx242_3, hx242_4, hx242_5, hx242_6, hl242_6, hi242_6⟩ := at_T28 HR0_6.out 0 p242 q242
                cases e242
                have qi242 : (0 < l0_6.length) = True := eq_true (by omega)
                (try rw [show ((0 : Int)).toNat = 0 from rfl] at hx242_0)
                (try rw [show 0 * 7 = 0 from rfl] at hx242_0)
                (try rw [Addr.add_zero'] at hx242_0)
                (try rw [show ((0 : Int)).toNat = 0 from rfl] at hx242_1)
                (try rw [show 0 * 7 = 0 from rfl] at hx242_1)
                (try rw [Addr.add_zero'] at hx242_1)
                (try rw [show ((0 : Int)).toNat = 0 from rfl] at hx242_2)
                (try rw [show 0 * 7 = 0 from rfl] at hx242_2)
                (try rw [Addr.add_zero'] at hx242_2)
                (try rw [show ((0 : Int)).toNat = 0 from rfl] at hx242_3)
                (try rw [show 0 * 7 = 0 from rfl] at hx242_3)
                (try rw [Addr.add_zero'] at hx242_3)
                (try rw [show ((0 : Int)).toNat = 0 from rfl] at hx242_4)
                (try rw [show 0 * 7 = 0 from rfl] at hx242_4)
                (try rw [Addr.add_zero'] at hx242_4)
                (try rw [show ((0 : Int)).toNat = 0 from rfl] at hx242_5)
                (try rw [show 0 * 7 = 0 from rfl] at hx242_5)
                (try rw [Addr.add_zero'] at hx242_5)
                (try rw [show ((0 : Int)).toNat = 0 from rfl] at hx242_6)
                (try rw [show 0 * 7 = 0 from rfl] at hx242_6)
                (try rw [Addr.add_zero'] at hx242_6)
                replace hx242_0 := (HB.out.cell (World.block_lt_of_cell? w _ hx242_0)).trans hx242_0
                replace hx242_1 := (HB.out.cell (World.block_lt_of_cell? w _ hx242_1)).trans hx242_1
                replace hx242_2 := (HB.out.cell (World.block_lt_of_cell? w _ hx242_2)).trans hx242_2
                replace hx242_3 := (HB.out.cell (World.block_lt_of_cell? w _ hx242_3)).trans hx242_3
                replace hx242_4 := (HB.out.cell (World.block_lt_of_cell? w _ hx242_4)).trans hx242_4
                replace hx242_5 := (HB.out.cell (World.block_lt_of_cell? w _ hx242_5)).trans hx242_5
                replace hx242_6 := (HB.out.cell (World.block_lt_of_cell? w _ hx242_6)).trans hx242_6
                have HR242_6 := Aside0.mk hi242_6
                have HC242_6 := Aside0.mk hl242_6
                clear hi242_6 hl242_6
                replace p242 := eq_true p242
                replace q242 := eq_true q242
                go_wp2_with (first | (go_at_call 22; (with_reducible refine (ih kj22 (by have := HJ22.out; omega) ((rd_T28 l0_6 0).f0) ((rd_T28 l0_6 0).f1.f0) ((rd_T28 l0_6 0).f1.f1) ((rd_T28 l0_6 0).f1.f2.f0) ((rd_T28 l0_6 0).f1.f2.f1) ((rd_T28 l0_6 0).f1.f2.f2) _ _ ((rd_T28 l0_6 0).f2) _ _ l1 (!a2) t243 _ ?side1 ?side2 ?side3 ?side4 A44.out).mono ?_); (case side1 => repeat (first | exact (Kd.C_below HR242_6.out HB.out) | (with_reducible refine Kd.C_alloc ?_ _) | (with_reducible refine Kd.C_drewN ?_ _) | (with_reducible refine Kd.C_drew ?_))); (case side2 => exact HC242_6.out); (case side3 => repeat (first | exact (Kd.C_below HR1.out HB.out) | (with_reducible refine Kd.C_alloc ?_ _) | (with_reducible refine Kd.C_drewN ?_ _) | (with_reducible refine Kd.C_drew ?_))); (case side4 => exact HC1.out); rintro e w46 ⟨rfl, hb⟩; have n0_ := Aside0.mk (blk_below (g := gb235) (o := .cells #[.int .i64 a0_0, .int .i64 a0_1, .int .i64 a0_2, .bool a0_3, .int .i64 a0_4, .string a0_5, .slice (some ad242) l0_6.length c0_6] 28 (0, 0)) (by (with_reducible repeat (first | refine blk_drewN ?_ _ | refine blk_drew ?_ | refine blk_alloc ?_ _)); exact BK235.out) hb); have n1_ := Aside0.mk (below_step (by repeat (first | (with_reducible first | exact HB.out | apply below_alloc | apply pw_below_drewN | apply below_drew1 | refine below_set ?_ GE235.out) | exact HB.out)) hb); clear BK235; clear HB; have BK235 := n0_; have HB := n1_; clear n0_ n1_; (try clear hb); (try clear hb2); (try clear hk); (try clear hi)))
                go_ret
                exact ⟨by first | rfl | (simp [errW_none, errW_some] <;> rfl) | (simp [*, errW_none, errW_some] <;> rfl), by repeat (first | (with_reducible first | exact HB.out | apply below_alloc | apply pw_below_drewN | apply below_drew1 | refine below_set ?_ GE235.out) | exact HB.out)⟩
              · rw [if_neg c43] at H
                exact absurd H (by simp)
          · rw [if_neg c40] at H
            have c40b0 : (a0_0 == 4) = false := beq_eq_false_iff_ne.mpr c40
            have c40b1 : (a0_0 != 4) = true := bne_iff_ne.mpr c40
            obtain rfl := Option.some.inj H
            go_wp2
            go_ret
            exact ⟨by first | rfl | (simp [errW_none, errW_some] <;> rfl) | (simp [*, errW_none, errW_some] <;> rfl), by repeat (first | (with_reducible first | exact HB.out | apply below_alloc | apply pw_below_drewN | apply below_drew1 | refine below_set ?_ GE235.out) | exact HB.out)⟩
end Go.Proofs.YtglcajijmkianaaDoor.A
