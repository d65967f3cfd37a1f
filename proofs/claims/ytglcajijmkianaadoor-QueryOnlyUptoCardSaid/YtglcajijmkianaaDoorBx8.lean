-- Written for this claim by wip/hook.py (a driver over the kit's print.py) out of the translation; Lean checks it.
import Derived.Test.YtglcajijmkianaaDoorAx0
import Derived.Test.YtglcajijmkianaaDoorBx2
namespace Go.Proofs.YtglcajijmkianaaDoor.A
open Go.RowKit Go.Proofs.YtglcajijmkianaaDoorW.PrintWords Go.Proofs.YtglcajijmkianaaDoorW.PrintLast Go.Proofs.YtglcajijmkianaaDoorW.PrintMore
attribute [local go_sem] max2_int min2_int max_two min_two max_three min_three max_four min_four   -- for this text's walks alone
set_option linter.unusedVariables false
set_option linter.unusedSimpArgs false

attribute [local go_sem high] eqB25
/-! ### tithebarnref23_Same: function 14 -/
mutual
def tithebarnref23_Same.j0 : Nat → Bool → Int → Int → Int → Bool → Int → ByteArray → List (S28) → Int → Int → Int → Bool → Int → ByteArray → List (S28) → Option (Bool)
  | 0, _, _, _, _, _, _, _, _, _, _, _, _, _, _, _ => none
  | k + 1, x26, x192000, x192001, x192002, x192003, x192004, x192005, x192006, x193000, x193001, x193002, x193003, x193004, x193005, x193006 => if x26 = true then (some false) else (tithebarnref23_Same.l0 k 0 x192000 x192001 x192002 x192003 x192004 x192005 x192006 x193000 x193001 x193002 x193003 x193004 x193005 x193006)
def tithebarnref23_Same.l0 : Nat → Int → Int → Int → Int → Bool → Int → ByteArray → List (S28) → Int → Int → Int → Bool → Int → ByteArray → List (S28) → Option (Bool)
  | 0, _, _, _, _, _, _, _, _, _, _, _, _, _, _, _ => none
  | k + 1, x5, x192000, x192001, x192002, x192003, x192004, x192005, x192006, x193000, x193001, x193002, x193003, x193004, x193005, x193006 => if x5 < (x192006.length : Int) then (if 0 ≤ x5 then (if x5 < (x193006.length : Int) then ((tithebarnref23_Same.f k ((rd_T28 x192006 x5).f0) ((rd_T28 x192006 x5).f1.f0) ((rd_T28 x192006 x5).f1.f1) ((rd_T28 x192006 x5).f1.f2.f0) ((rd_T28 x192006 x5).f1.f2.f1) ((rd_T28 x192006 x5).f1.f2.f2) ((rd_T28 x192006 x5).f2) ((rd_T28 x193006 x5).f0) ((rd_T28 x193006 x5).f1.f0) ((rd_T28 x193006 x5).f1.f1) ((rd_T28 x193006 x5).f1.f2.f0) ((rd_T28 x193006 x5).f1.f2.f1) ((rd_T28 x193006 x5).f1.f2.f2) ((rd_T28 x193006 x5).f2)).bind fun t195 => (if t195 = true then (tithebarnref23_Same.l0 k (wrap64 (x5 + 1)) x192000 x192001 x192002 x192003 x192004 x192005 x192006 x193000 x193001 x193002 x193003 x193004 x193005 x193006) else (some false))) else (none)) else (none)) else (some true)
def tithebarnref23_Same.f : Nat → Int → Int → Int → Bool → Int → ByteArray → List (S28) → Int → Int → Int → Bool → Int → ByteArray → List (S28) → Option (Bool)
  | 0, _, _, _, _, _, _, _, _, _, _, _, _, _, _ => none
  | k + 1, a0_0, a0_1, a0_2, a0_3, a0_4, a0_5, l0_6, a1_0, a1_1, a1_2, a1_3, a1_4, a1_5, l1_6 => if a0_0 = a1_0 then (if (!(a0_1 == a1_1) || (!(a0_2 == a1_2) || ((!(a0_3 == a1_3) || (!(a0_4 == a1_4) || (!(a0_5.toList == a1_5.toList))))))) = true then (tithebarnref23_Same.j0 k true a0_0 a0_1 a0_2 a0_3 a0_4 a0_5 l0_6 a1_0 a1_1 a1_2 a1_3 a1_4 a1_5 l1_6) else (tithebarnref23_Same.j0 k ((l0_6.length : Int) != (l1_6.length : Int)) a0_0 a0_1 a0_2 a0_3 a0_4 a0_5 l0_6 a1_0 a1_1 a1_2 a1_3 a1_4 a1_5 l1_6)) else (tithebarnref23_Same.j0 k true a0_0 a0_1 a0_2 a0_3 a0_4 a0_5 l0_6 a1_0 a1_1 a1_2 a1_3 a1_4 a1_5 l1_6)
end
theorem tithebarnref23_Same.mono_l : ∀ k, (∀ y0 y1 y2 y3 y4 y5 y6 y7 y8 y9 y10 y11 y12 y13, LeO (tithebarnref23_Same.f k y0 y1 y2 y3 y4 y5 y6 y7 y8 y9 y10 y11 y12 y13) (tithebarnref23_Same.f (k + 1) y0 y1 y2 y3 y4 y5 y6 y7 y8 y9 y10 y11 y12 y13)) ∧ (∀ y0 y1 y2 y3 y4 y5 y6 y7 y8 y9 y10 y11 y12 y13 y14, LeO (tithebarnref23_Same.j0 k y0 y1 y2 y3 y4 y5 y6 y7 y8 y9 y10 y11 y12 y13 y14) (tithebarnref23_Same.j0 (k + 1) y0 y1 y2 y3 y4 y5 y6 y7 y8 y9 y10 y11 y12 y13 y14)) ∧ (∀ y0 y1 y2 y3 y4 y5 y6 y7 y8 y9 y10 y11 y12 y13 y14, LeO (tithebarnref23_Same.l0 k y0 y1 y2 y3 y4 y5 y6 y7 y8 y9 y10 y11 y12 y13 y14) (tithebarnref23_Same.l0 (k + 1) y0 y1 y2 y3 y4 y5 y6 y7 y8 y9 y10 y11 y12 y13 y14))
  | 0 => ⟨fun _ _ _ _ _ _ _ _ _ _ _ _ _ _ r h => by simp [tithebarnref23_Same.f] at h, fun _ _ _ _ _ _ _ _ _ _ _ _ _ _ _ r h => by simp [tithebarnref23_Same.j0] at h, fun _ _ _ _ _ _ _ _ _ _ _ _ _ _ _ r h => by simp [tithebarnref23_Same.l0] at h⟩
  | k + 1 => by
    obtain ⟨ih0, ih1, ih2⟩ := tithebarnref23_Same.mono_l k
    refine ⟨?_, ?_, ?_⟩
    · intro y0 y1 y2 y3 y4 y5 y6 y7 y8 y9 y10 y11 y12 y13
      unfold tithebarnref23_Same.f
      repeat' first
      | (with_reducible exact ih0 _ _ _ _ _ _ _ _ _ _ _ _ _ _)
      | (with_reducible exact ih1 _ _ _ _ _ _ _ _ _ _ _ _ _ _ _)
      | (with_reducible exact ih2 _ _ _ _ _ _ _ _ _ _ _ _ _ _ _)
      | (with_reducible exact LeO.refl _)
      | (with_reducible exact LeO.none _)
      | (with_reducible refine LeO.ite ?_ ?_)
      | (with_reducible refine LeO.bind ?_ (fun _ => ?_))
      | exact ih0 _ _ _ _ _ _ _ _ _ _ _ _ _ _
      | exact ih1 _ _ _ _ _ _ _ _ _ _ _ _ _ _ _
      | exact ih2 _ _ _ _ _ _ _ _ _ _ _ _ _ _ _
      | exact LeO.none _
      | refine LeO.ite ?_ ?_
      | refine LeO.bind ?_ (fun _ => ?_)
    · intro y0 y1 y2 y3 y4 y5 y6 y7 y8 y9 y10 y11 y12 y13 y14
      unfold tithebarnref23_Same.j0
      repeat' first
      | (with_reducible exact ih0 _ _ _ _ _ _ _ _ _ _ _ _ _ _)
      | (with_reducible exact ih1 _ _ _ _ _ _ _ _ _ _ _ _ _ _ _)
      | (with_reducible exact ih2 _ _ _ _ _ _ _ _ _ _ _ _ _ _ _)
      | (with_reducible exact LeO.refl _)
      | (with_reducible exact LeO.none _)
      | (with_reducible refine LeO.ite ?_ ?_)
      | (with_reducible refine LeO.bind ?_ (fun _ => ?_))
      | exact ih0 _ _ _ _ _ _ _ _ _ _ _ _ _ _
      | exact ih1 _ _ _ _ _ _ _ _ _ _ _ _ _ _ _
      | exact ih2 _ _ _ _ _ _ _ _ _ _ _ _ _ _ _
      | exact LeO.none _
      | refine LeO.ite ?_ ?_
      | refine LeO.bind ?_ (fun _ => ?_)
    · intro y0 y1 y2 y3 y4 y5 y6 y7 y8 y9 y10 y11 y12 y13 y14
      unfold tithebarnref23_Same.l0
      repeat' first
      | (with_reducible exact ih0 _ _ _ _ _ _ _ _ _ _ _ _ _ _)
      | (with_reducible exact ih1 _ _ _ _ _ _ _ _ _ _ _ _ _ _ _)
      | (with_reducible exact ih2 _ _ _ _ _ _ _ _ _ _ _ _ _ _ _)
      | (with_reducible exact LeO.refl _)
      | (with_reducible exact LeO.none _)
      | (with_reducible refine LeO.ite ?_ ?_)
      | (with_reducible refine LeO.bind ?_ (fun _ => ?_))
      | exact ih0 _ _ _ _ _ _ _ _ _ _ _ _ _ _
      | exact ih1 _ _ _ _ _ _ _ _ _ _ _ _ _ _ _
      | exact ih2 _ _ _ _ _ _ _ _ _ _ _ _ _ _ _
      | exact LeO.none _
      | refine LeO.ite ?_ ?_
      | refine LeO.bind ?_ (fun _ => ?_)
theorem tithebarnref23_Same.mono : ∀ a0 a1 a2 a3 a4 a5 a6 a7 a8 a9 a10 a11 a12 a13 k, LeO (tithebarnref23_Same.f k a0 a1 a2 a3 a4 a5 a6 a7 a8 a9 a10 a11 a12 a13) (tithebarnref23_Same.f (k + 1) a0 a1 a2 a3 a4 a5 a6 a7 a8 a9 a10 a11 a12 a13) := by
  intro a0 a1 a2 a3 a4 a5 a6 a7 a8 a9 a10 a11 a12 a13 k
  obtain ⟨ih0, ih1, ih2⟩ := tithebarnref23_Same.mono_l k
  exact ih0 a0 a1 a2 a3 a4 a5 a6 a7 a8 a9 a10 a11 a12 a13
def tithebarnref23_Same.T6 : Bool × List (List Nat × List Nat) := (true, [([], []), ([0], [0]), ([], []), ([1, 2], [1, 2]), ([3], [3]), ([], []), ([5], [5]), ([], []), ([6, 7], [6, 7]), ([8], [8]), ([4, 9], [4, 9]), ([10], [10])])
def tithebarnref23_Same.B6 : List Nat := [0, 1, 0, 7, 15, 0, 32, 0, 224, 480, 1023, 2047]
theorem tithebarnref23_Same.tab6 : rtab .any (opsOf Tryd.f14 6) = tithebarnref23_Same.T6 := by kernel_rfl
theorem tithebarnref23_Same.bits6 : waitsOk tithebarnref23_Same.T6.2 tithebarnref23_Same.B6 = true := by kernel_rfl
set_option maxHeartbeats 8000000 in
set_option maxRecDepth 100000 in
theorem tithebarnref23_Same.calls (k : Nat) : ∀ (a0_0 : Int) (a0_1 : Int) (a0_2 : Int) (a0_3 : Bool) (a0_4 : Int) (a0_5 : ByteArray) (A0_6 : Option Addr) (c0_6 : Nat) (l0_6 : List (S28)) (a1_0 : Int) (a1_1 : Int) (a1_2 : Int) (a1_3 : Bool) (a1_4 : Int) (a1_5 : ByteArray) (A1_6 : Option Addr) (c1_6 : Nat) (l1_6 : List (S28)) (r : Bool) (w : World) (hr0_6 : Kd.C k28 w A0_6 l0_6.length l0_6) (hc0_6 : l0_6.length ≤ c0_6) (hr1_6 : Kd.C k28 w A1_6 l1_6.length l1_6) (hc1_6 : l1_6.length ≤ c1_6) (h : tithebarnref23_Same.f k a0_0 a0_1 a0_2 a0_3 a0_4 a0_5 l0_6 a1_0 a1_1 a1_2 a1_3 a1_4 a1_5 l1_6 = some r),
    Calls Tryd.prog 14 #[.agg #[.int .i64 a0_0, .int .i64 a0_1, .int .i64 a0_2, .bool a0_3, .int .i64 a0_4, .string a0_5, .slice A0_6 l0_6.length c0_6], .agg #[.int .i64 a1_0, .int .i64 a1_1, .int .i64 a1_2, .bool a1_3, .int .i64 a1_4, .string a1_5, .slice A1_6 l1_6.length c1_6]] w fun e w' => e = .returned (.bool r) ∧ Below w.heap.size w w' := by
  induction k using Nat.strongRecOn with
  | _ k ih =>
  intro a0_0 a0_1 a0_2 a0_3 a0_4 a0_5 A0_6 c0_6 l0_6 a1_0 a1_1 a1_2 a1_3 a1_4 a1_5 A1_6 c1_6 l1_6 r w hr0_6 hc0_6 hr1_6 hc1_6 h
  cases k with
  | zero => exact absurd h (by simp [tithebarnref23_Same.f])
  | succ k =>
  simp only [tithebarnref23_Same.f] at h
  have hu28 := Tryd.underlying28
  have hu25 := Tryd.underlying25
  have HR0_6 := Aside0.mk hr0_6
  have HC0_6 := Aside0.mk hc0_6
  clear hr0_6 hc0_6
  have HR1_6 := Aside0.mk hr1_6
  have HC1_6 := Aside0.mk hc1_6
  clear hr1_6 hc1_6
  have HB := Aside0.mk (Below.refl w.heap.size w)
  have H : (if a0_0 = a1_0 then (if (!(a0_1 == a1_1) || (!(a0_2 == a1_2) || ((!(a0_3 == a1_3) || (!(a0_4 == a1_4) || (!(a0_5.toList == a1_5.toList))))))) = true then (tithebarnref23_Same.j0 k true a0_0 a0_1 a0_2 a0_3 a0_4 a0_5 l0_6 a1_0 a1_1 a1_2 a1_3 a1_4 a1_5 l1_6) else (tithebarnref23_Same.j0 k ((l0_6.length : Int) != (l1_6.length : Int)) a0_0 a0_1 a0_2 a0_3 a0_4 a0_5 l0_6 a1_0 a1_1 a1_2 a1_3 a1_4 a1_5 l1_6)) else (tithebarnref23_Same.j0 k true a0_0 a0_1 a0_2 a0_3 a0_4 a0_5 l0_6 a1_0 a1_1 a1_2 a1_3 a1_4 a1_5 l1_6)) = some r := h
  clear h
  have HC3 := Aside0.mk H
  clear H
  go_enter Tryd.func14, Tryd.ntmps14
  go_upto_region 1 with (first | ((with_reducible refine gate_dst (N := 2) rfl ?_); (try (refine gate_guard (by rfl) ?_; dsimp only)); refine box_event ?hg (N := 2) ?hd (cs := #[.int .i64 a0_0, .int .i64 a0_1, .int .i64 a0_2, .bool a0_3, .int .i64 a0_4, .string a0_5, .slice A0_6 l0_6.length c0_6]) (t := 28) ?hr ?_; (case hd => rfl); (case hg => rfl); (case hr => first | (go_simp; done) | (go_simp; rfl)); intro gb191 hg w4 hbox hb; have n0_ := Aside0.mk (below_step (by repeat (first | (with_reducible first | exact HB.out | apply below_alloc | apply pw_below_drewN | apply below_drew1) | exact HB.out)) hb); have n1_ := Aside0.mk (hbox); have n2_ := Aside0.mk ((by rw [hg]; exact (below_size (by repeat (first | (with_reducible first | exact HB.out | apply below_alloc | apply pw_below_drewN | apply below_drew1) | exact HB.out))) : w.heap.size ≤ gb191)); have n3_ := Aside0.mk ((by rw [hg]; exact (below_size (by repeat (first | (with_reducible first | exact HB.out | apply below_alloc | apply pw_below_drewN | apply below_drew1) | exact HB.out))) : w.heap.size ≤ gb191)); clear HB; have HB := n0_; have BK191 := n1_; have GW191 := n2_; have GE191 := n3_; clear n0_ n1_ n2_ n3_; clear hb hbox hg) | ((with_reducible refine gate_dst (N := 3) rfl ?_); (try (refine gate_guard (by rfl) ?_; dsimp only)); refine box_event ?hg (N := 3) ?hd (cs := #[.int .i64 a1_0, .int .i64 a1_1, .int .i64 a1_2, .bool a1_3, .int .i64 a1_4, .string a1_5, .slice A1_6 l1_6.length c1_6]) (t := 28) ?hr ?_; (case hd => rfl); (case hg => rfl); (case hr => first | (go_simp; done) | (go_simp; rfl)); intro gb192 hg w5 hbox hb; have n0_ := Aside0.mk (blk_below (g := gb191) (o := .cells #[.int .i64 a0_0, .int .i64 a0_1, .int .i64 a0_2, .bool a0_3, .int .i64 a0_4, .string a0_5, .slice A0_6 l0_6.length c0_6] 28 (0, 0)) (by (with_reducible repeat (first | refine blk_drewN ?_ _ | refine blk_drew ?_ | refine blk_alloc ?_ _)); exact BK191.out) hb); have n1_ := Aside0.mk (below_step (by repeat (first | (with_reducible first | exact HB.out | apply below_alloc | apply pw_below_drewN | apply below_drew1 | refine below_set ?_ GE191.out) | exact HB.out)) hb); have n2_ := Aside0.mk (hbox); have n3_ := Aside0.mk ((by rw [hg]; exact (below_size (by repeat (first | (with_reducible first | exact HB.out | apply below_alloc | apply pw_below_drewN | apply below_drew1 | refine below_set ?_ GE191.out) | exact HB.out))) : w.heap.size ≤ gb192)); have n4_ := Aside0.mk ((by rw [hg]; exact (below_size (by repeat (first | (with_reducible first | exact HB.out | apply below_alloc | apply pw_below_drewN | apply below_drew1 | refine below_set ?_ GE191.out) | exact HB.out))) : w.heap.size ≤ gb192)); have n5_ := Aside0.mk ((by rw [hg]; exact Nat.ne_of_lt (blk_lt (g := gb191) (o := .cells #[.int .i64 a0_0, .int .i64 a0_1, .int .i64 a0_2, .bool a0_3, .int .i64 a0_4, .string a0_5, .slice A0_6 l0_6.length c0_6] 28 (0, 0)) (by (with_reducible repeat (first | refine blk_drewN ?_ _ | refine blk_drew ?_ | refine blk_alloc ?_ _)); exact BK191.out)) : gb191 ≠ gb192)); have n6_ := Aside0.mk ((by rw [hg]; exact Nat.ne_of_gt (blk_lt (g := gb191) (o := .cells #[.int .i64 a0_0, .int .i64 a0_1, .int .i64 a0_2, .bool a0_3, .int .i64 a0_4, .string a0_5, .slice A0_6 l0_6.length c0_6] 28 (0, 0)) (by (with_reducible repeat (first | refine blk_drewN ?_ _ | refine blk_drew ?_ | refine blk_alloc ?_ _)); exact BK191.out)) : gb192 ≠ gb191)); clear BK191; clear HB; have BK191 := n0_; have HB := n1_; have BK192 := n2_; have GW192 := n3_; have GE192 := n4_; have NB191_192 := n5_; have NB192_191 := n6_; clear n0_ n1_ n2_ n3_ n4_ n5_ n6_; clear hb hbox hg))
  (try simp only [Act.put, List.setIfInBounds_toArray, List.set_cons_zero, List.set_cons_succ])
  go_cut [26] (fun v26 wc => ∃ (kq : Nat) (x26_2 : Bool), v26 = .bool x26_2 ∧ Aside0 (tithebarnref23_Same.j0 kq x26_2 a0_0 a0_1 a0_2 a0_3 a0_4 a0_5 l0_6 a1_0 a1_1 a1_2 a1_3 a1_4 a1_5 l1_6 = some r) ∧ Aside0 (kq ≤ k) ∧ Aside0 (wc.heap[gb191]? = some (.cells #[.int .i64 a0_0, .int .i64 a0_1, .int .i64 a0_2, .bool a0_3, .int .i64 a0_4, .string a0_5, (.slice A0_6 l0_6.length c0_6)] 28 (0, 0))) ∧ Aside0 (wc.heap[gb192]? = some (.cells #[.int .i64 a1_0, .int .i64 a1_1, .int .i64 a1_2, .bool a1_3, .int .i64 a1_4, .string a1_5, (.slice A1_6 l1_6.length c1_6)] 28 (0, 0))) ∧ Aside0 (Below w.heap.size w wc))
  case first =>
    have H := HC3.out
    clear HC3
    by_cases c6 : a0_0 = a1_0
    · rw [if_pos c6] at H
      have c6b0 : (a0_0 == a1_0) = true := beq_iff_eq.mpr c6
      have c6b1 : (a0_0 != a1_0) = false := bne_eq_false_iff_eq.mpr c6
      clear c6
      (first | rw [c6b0] | (simp only [i64_w, i32_w]; rw [c6b0]) | skip)
      by_cases c7 : (!(a0_1 == a1_1) || (!(a0_2 == a1_2) || ((!(a0_3 == a1_3) || (!(a0_4 == a1_4) || (!(a0_5.toList == a1_5.toList))))))) = true
      · rw [if_pos c7] at H
        have c7b0 : (!(a0_1 == a1_1) || (!(a0_2 == a1_2) || ((!(a0_3 == a1_3) || (!(a0_4 == a1_4) || (!(a0_5.toList == a1_5.toList))))))) = true := c7
        clear c7
        have H' := Aside0.mk H
        clear H
        have hnb8 := NB191_192.out
        have hnc8 := NB192_191.out
        have hcz9_0 : w5.cell? ⟨gb191, 0, none⟩ = some (.int .i64 a0_0) := (blk_cell BK191.out 0).trans rfl
        have hcz9_1 : w5.cell? ⟨gb191, 1, none⟩ = some (.int .i64 a0_1) := (blk_cell BK191.out 1).trans rfl
        have hcz9_2 : w5.cell? ⟨gb191, 2, none⟩ = some (.int .i64 a0_2) := (blk_cell BK191.out 2).trans rfl
        have hcz9_3 : w5.cell? ⟨gb191, 3, none⟩ = some (.bool a0_3) := (blk_cell BK191.out 3).trans rfl
        have hcz9_4 : w5.cell? ⟨gb191, 4, none⟩ = some (.int .i64 a0_4) := (blk_cell BK191.out 4).trans rfl
        have hcz9_5 : w5.cell? ⟨gb191, 5, none⟩ = some (.string a0_5) := (blk_cell BK191.out 5).trans rfl
        have hcz9_6 : w5.cell? ⟨gb191, 6, none⟩ = some (.slice A0_6 l0_6.length c0_6) := (blk_cell BK191.out 6).trans rfl
        have hfz9_0 := blk_frozen BK191.out 0
        have hfz9_1 := blk_frozen BK191.out 1
        have hfz9_2 := blk_frozen BK191.out 2
        have hfz9_3 := blk_frozen BK191.out 3
        have hfz9_4 := blk_frozen BK191.out 4
        have hfz9_5 := blk_frozen BK191.out 5
        have hfz9_6 := blk_frozen BK191.out 6
        have hcz10_0 : w5.cell? ⟨gb192, 0, none⟩ = some (.int .i64 a1_0) := (blk_cell BK192.out 0).trans rfl
        have hcz10_1 : w5.cell? ⟨gb192, 1, none⟩ = some (.int .i64 a1_1) := (blk_cell BK192.out 1).trans rfl
        have hcz10_2 : w5.cell? ⟨gb192, 2, none⟩ = some (.int .i64 a1_2) := (blk_cell BK192.out 2).trans rfl
        have hcz10_3 : w5.cell? ⟨gb192, 3, none⟩ = some (.bool a1_3) := (blk_cell BK192.out 3).trans rfl
        have hcz10_4 : w5.cell? ⟨gb192, 4, none⟩ = some (.int .i64 a1_4) := (blk_cell BK192.out 4).trans rfl
        have hcz10_5 : w5.cell? ⟨gb192, 5, none⟩ = some (.string a1_5) := (blk_cell BK192.out 5).trans rfl
        have hcz10_6 : w5.cell? ⟨gb192, 6, none⟩ = some (.slice A1_6 l1_6.length c1_6) := (blk_cell BK192.out 6).trans rfl
        have hfz10_0 := blk_frozen BK192.out 0
        have hfz10_1 := blk_frozen BK192.out 1
        have hfz10_2 := blk_frozen BK192.out 2
        have hfz10_3 := blk_frozen BK192.out 3
        have hfz10_4 := blk_frozen BK192.out 4
        have hfz10_5 := blk_frozen BK192.out 5
        have hfz10_6 := blk_frozen BK192.out 6
        go_wp2
        go_meet
        case rel => exact ⟨_, (true), (by first | rfl | (simp; done) | (simp [*]; done)), H', ⟨by first | omega | exact Nat.le_refl _⟩, ⟨by (with_reducible repeat (first | refine blk_drewN ?_ _ | refine blk_drew ?_ | refine blk_alloc ?_ _)); exact BK191.out⟩, ⟨by (with_reducible repeat (first | refine blk_drewN ?_ _ | refine blk_drew ?_ | refine blk_alloc ?_ _)); exact BK192.out⟩, ⟨by repeat (first | (with_reducible first | exact HB.out | apply below_alloc | apply pw_below_drewN | apply below_drew1 | refine below_set ?_ GE191.out | refine below_set ?_ GE192.out) | exact HB.out)⟩⟩
      · rw [if_neg c7] at H
        have c7b0 : (!(a0_1 == a1_1) || (!(a0_2 == a1_2) || ((!(a0_3 == a1_3) || (!(a0_4 == a1_4) || (!(a0_5.toList == a1_5.toList))))))) = false := by simpa using c7
        clear c7
        have H' := Aside0.mk H
        clear H
        have hnb11 := NB191_192.out
        have hnc11 := NB192_191.out
        have hcz12_0 : w5.cell? ⟨gb191, 0, none⟩ = some (.int .i64 a0_0) := (blk_cell BK191.out 0).trans rfl
        have hcz12_1 : w5.cell? ⟨gb191, 1, none⟩ = some (.int .i64 a0_1) := (blk_cell BK191.out 1).trans rfl
        have hcz12_2 : w5.cell? ⟨gb191, 2, none⟩ = some (.int .i64 a0_2) := (blk_cell BK191.out 2).trans rfl
        have hcz12_3 : w5.cell? ⟨gb191, 3, none⟩ = some (.bool a0_3) := (blk_cell BK191.out 3).trans rfl
        have hcz12_4 : w5.cell? ⟨gb191, 4, none⟩ = some (.int .i64 a0_4) := (blk_cell BK191.out 4).trans rfl
        have hcz12_5 : w5.cell? ⟨gb191, 5, none⟩ = some (.string a0_5) := (blk_cell BK191.out 5).trans rfl
        have hcz12_6 : w5.cell? ⟨gb191, 6, none⟩ = some (.slice A0_6 l0_6.length c0_6) := (blk_cell BK191.out 6).trans rfl
        have hfz12_0 := blk_frozen BK191.out 0
        have hfz12_1 := blk_frozen BK191.out 1
        have hfz12_2 := blk_frozen BK191.out 2
        have hfz12_3 := blk_frozen BK191.out 3
        have hfz12_4 := blk_frozen BK191.out 4
        have hfz12_5 := blk_frozen BK191.out 5
        have hfz12_6 := blk_frozen BK191.out 6
        have hcz13_0 : w5.cell? ⟨gb192, 0, none⟩ = some (.int .i64 a1_0) := (blk_cell BK192.out 0).trans rfl
        have hcz13_1 : w5.cell? ⟨gb192, 1, none⟩ = some (.int .i64 a1_1) := (blk_cell BK192.out 1).trans rfl
        have hcz13_2 : w5.cell? ⟨gb192, 2, none⟩ = some (.int .i64 a1_2) := (blk_cell BK192.out 2).trans rfl
        have hcz13_3 : w5.cell? ⟨gb192, 3, none⟩ = some (.bool a1_3) := (blk_cell BK192.out 3).trans rfl
        have hcz13_4 : w5.cell? ⟨gb192, 4, none⟩ = some (.int .i64 a1_4) := (blk_cell BK192.out 4).trans rfl
        have hcz13_5 : w5.cell? ⟨gb192, 5, none⟩ = some (.string a1_5) := (blk_cell BK192.out 5).trans rfl
        have hcz13_6 : w5.cell? ⟨gb192, 6, none⟩ = some (.slice A1_6 l1_6.length c1_6) := (blk_cell BK192.out 6).trans rfl
        have hfz13_0 := blk_frozen BK192.out 0
        have hfz13_1 := blk_frozen BK192.out 1
        have hfz13_2 := blk_frozen BK192.out 2
        have hfz13_3 := blk_frozen BK192.out 3
        have hfz13_4 := blk_frozen BK192.out 4
        have hfz13_5 := blk_frozen BK192.out 5
        have hfz13_6 := blk_frozen BK192.out 6
        go_wp2
        go_meet
        case rel => exact ⟨_, (((l0_6.length : Int) != (l1_6.length : Int))), (by first | rfl | (simp; done) | (simp [*]; done)), H', ⟨by first | omega | exact Nat.le_refl _⟩, ⟨by (with_reducible repeat (first | refine blk_drewN ?_ _ | refine blk_drew ?_ | refine blk_alloc ?_ _)); exact BK191.out⟩, ⟨by (with_reducible repeat (first | refine blk_drewN ?_ _ | refine blk_drew ?_ | refine blk_alloc ?_ _)); exact BK192.out⟩, ⟨by repeat (first | (with_reducible first | exact HB.out | apply below_alloc | apply pw_below_drewN | apply below_drew1 | refine below_set ?_ GE191.out | refine below_set ?_ GE192.out) | exact HB.out)⟩⟩
    · rw [if_neg c6] at H
      have c6b0 : (a0_0 == a1_0) = false := beq_eq_false_iff_ne.mpr c6
      have c6b1 : (a0_0 != a1_0) = true := bne_iff_ne.mpr c6
      (first | rw [c6b0] | (simp only [i64_w, i32_w]; rw [c6b0]) | skip)
      have H' := Aside0.mk H
      clear H
      have hnb14 := NB191_192.out
      have hnc14 := NB192_191.out
      have hcz15_0 : w5.cell? ⟨gb191, 0, none⟩ = some (.int .i64 a0_0) := (blk_cell BK191.out 0).trans rfl
      have hcz15_1 : w5.cell? ⟨gb191, 1, none⟩ = some (.int .i64 a0_1) := (blk_cell BK191.out 1).trans rfl
      have hcz15_2 : w5.cell? ⟨gb191, 2, none⟩ = some (.int .i64 a0_2) := (blk_cell BK191.out 2).trans rfl
      have hcz15_3 : w5.cell? ⟨gb191, 3, none⟩ = some (.bool a0_3) := (blk_cell BK191.out 3).trans rfl
      have hcz15_4 : w5.cell? ⟨gb191, 4, none⟩ = some (.int .i64 a0_4) := (blk_cell BK191.out 4).trans rfl
      have hcz15_5 : w5.cell? ⟨gb191, 5, none⟩ = some (.string a0_5) := (blk_cell BK191.out 5).trans rfl
      have hcz15_6 : w5.cell? ⟨gb191, 6, none⟩ = some (.slice A0_6 l0_6.length c0_6) := (blk_cell BK191.out 6).trans rfl
      have hfz15_0 := blk_frozen BK191.out 0
      have hfz15_1 := blk_frozen BK191.out 1
      have hfz15_2 := blk_frozen BK191.out 2
      have hfz15_3 := blk_frozen BK191.out 3
      have hfz15_4 := blk_frozen BK191.out 4
      have hfz15_5 := blk_frozen BK191.out 5
      have hfz15_6 := blk_frozen BK191.out 6
      have hcz16_0 : w5.cell? ⟨gb192, 0, none⟩ = some (.int .i64 a1_0) := (blk_cell BK192.out 0).trans rfl
      have hcz16_1 : w5.cell? ⟨gb192, 1, none⟩ = some (.int .i64 a1_1) := (blk_cell BK192.out 1).trans rfl
      have hcz16_2 : w5.cell? ⟨gb192, 2, none⟩ = some (.int .i64 a1_2) := (blk_cell BK192.out 2).trans rfl
      have hcz16_3 : w5.cell? ⟨gb192, 3, none⟩ = some (.bool a1_3) := (blk_cell BK192.out 3).trans rfl
      have hcz16_4 : w5.cell? ⟨gb192, 4, none⟩ = some (.int .i64 a1_4) := (blk_cell BK192.out 4).trans rfl
      have hcz16_5 : w5.cell? ⟨gb192, 5, none⟩ = some (.string a1_5) := (blk_cell BK192.out 5).trans rfl
      have hcz16_6 : w5.cell? ⟨gb192, 6, none⟩ = some (.slice A1_6 l1_6.length c1_6) := (blk_cell BK192.out 6).trans rfl
      have hfz16_0 := blk_frozen BK192.out 0
      have hfz16_1 := blk_frozen BK192.out 1
      have hfz16_2 := blk_frozen BK192.out 2
      have hfz16_3 := blk_frozen BK192.out 3
      have hfz16_4 := blk_frozen BK192.out 4
      have hfz16_5 := blk_frozen BK192.out 5
      have hfz16_6 := blk_frozen BK192.out 6
      go_wp2
      go_meet
      case rel => exact ⟨_, (true), (by first | rfl | (simp; done) | (simp [*]; done)), H', ⟨by first | omega | exact Nat.le_refl _⟩, ⟨by (with_reducible repeat (first | refine blk_drewN ?_ _ | refine blk_drew ?_ | refine blk_alloc ?_ _)); exact BK191.out⟩, ⟨by (with_reducible repeat (first | refine blk_drewN ?_ _ | refine blk_drew ?_ | refine blk_alloc ?_ _)); exact BK192.out⟩, ⟨by repeat (first | (with_reducible first | exact HB.out | apply below_alloc | apply pw_below_drewN | apply below_drew1 | refine below_set ?_ GE191.out | refine below_set ?_ GE192.out) | exact HB.out)⟩⟩
  case rest =>
    clear HC3
    try clear c1
    try clear p2
    try clear c6
    try clear c6b0
    try clear c6b1
    try clear c7
    try clear c7b0
    try clear c8
    try clear c11
    try clear c14
    try clear hcz10_0
    try clear hcz10_1
    try clear hcz10_2
    try clear hcz10_3
    try clear hcz10_4
    try clear hcz10_5
    try clear hcz10_6
    try clear hcz12_0
    try clear hcz12_1
    try clear hcz12_2
    try clear hcz12_3
    try clear hcz12_4
    try clear hcz12_5
    try clear hcz12_6
    try clear hcz13_0
    try clear hcz13_1
    try clear hcz13_2
    try clear hcz13_3
    try clear hcz13_4
    try clear hcz13_5
    try clear hcz13_6
    try clear hcz15_0
    try clear hcz15_1
    try clear hcz15_2
    try clear hcz15_3
    try clear hcz15_4
    try clear hcz15_5
    try clear hcz15_6
    try clear hcz16_0
    try clear hcz16_1
    try clear hcz16_2
    try clear hcz16_3
    try clear hcz16_4
    try clear hcz16_5
    try clear hcz16_6
    try clear hcz9_0
    try clear hcz9_1
    try clear hcz9_2
    try clear hcz9_3
    try clear hcz9_4
    try clear hcz9_5
    try clear hcz9_6
    try clear hfz10_0
    try clear hfz10_1
    try clear hfz10_2
    try clear hfz10_3
    try clear hfz10_4
    try clear hfz10_5
    try clear hfz10_6
    try clear hfz12_0
    try clear hfz12_1
    try clear hfz12_2
    try clear hfz12_3
    try clear hfz12_4
    try clear hfz12_5
    try clear hfz12_6
    try clear hfz13_0
    try clear hfz13_1
    try clear hfz13_2
    try clear hfz13_3
    try clear hfz13_4
    try clear hfz13_5
    try clear hfz13_6
    try clear hfz15_0
    try clear hfz15_1
    try clear hfz15_2
    try clear hfz15_3
    try clear hfz15_4
    try clear hfz15_5
    try clear hfz15_6
    try clear hfz16_0
    try clear hfz16_1
    try clear hfz16_2
    try clear hfz16_3
    try clear hfz16_4
    try clear hfz16_5
    try clear hfz16_6
    try clear hfz9_0
    try clear hfz9_1
    try clear hfz9_2
    try clear hfz9_3
    try clear hfz9_4
    try clear hfz9_5
    try clear hfz9_6
    obtain ⟨kq, x26_2, rfl, HA, HJ2, BK191, BK192, HB⟩ := hcut
    cases kq with
    | zero => exact absurd HA.out (by simp [tithebarnref23_Same.j0])
    | succ kj2 =>
      have H := HA.out
      clear HA
      simp only [tithebarnref23_Same.j0] at H
      by_cases c17 : x26_2 = true
      · subst c17
        have H1 : (some false) = some r := by rw [if_pos rfl] at H; exact H
        clear H
        have H := H1
        clear H1
        obtain rfl := Option.some.inj H
        go_wp2
        go_ret
        exact ⟨by first | rfl | (simp [errW_none, errW_some] <;> rfl) | (simp [*, errW_none, errW_some] <;> rfl), by repeat (first | (with_reducible first | exact HB.out | apply below_alloc | apply pw_below_drewN | apply below_drew1 | refine below_set ?_ GE191.out | refine below_set ?_ GE192.out) | exact HB.out)⟩
      · replace c17 := Bool.eq_false_iff.mpr c17
        subst c17
        have H1 : (tithebarnref23_Same.l0 kj2 0 a0_0 a0_1 a0_2 a0_3 a0_4 a0_5 l0_6 a1_0 a1_1 a1_2 a1_3 a1_4 a1_5 l1_6) = some r := by rw [if_neg (show ¬ (false = true) by decide)] at H; exact H
        clear H
        have H := H1
        clear H1
        have H' := Aside0.mk H
        clear H
        go_wp2
        go_loopg [5] kj2 (fun kq v5 w' => ∃ (x5_2 : Int), v5 = .int .i64 x5_2 ∧ Aside0 (tithebarnref23_Same.l0 kq x5_2 a0_0 a0_1 a0_2 a0_3 a0_4 a0_5 l0_6 a1_0 a1_1 a1_2 a1_3 a1_4 a1_5 l1_6 = some r) ∧ Aside0 (kq ≤ kj2) ∧ Aside0 (w'.heap[gb191]? = some (.cells #[.int .i64 a0_0, .int .i64 a0_1, .int .i64 a0_2, .bool a0_3, .int .i64 a0_4, .string a0_5, (.slice A0_6 l0_6.length c0_6)] 28 (0, 0))) ∧ Aside0 (w'.heap[gb192]? = some (.cells #[.int .i64 a1_0, .int .i64 a1_1, .int .i64 a1_2, .bool a1_3, .int .i64 a1_4, .string a1_5, (.slice A1_6 l1_6.length c1_6)] 28 (0, 0))) ∧ Aside0 (Below w.heap.size w w'))
        case atStart => exact ⟨(0), (by first | rfl | (simp; done) | (simp [*]; done)), H', ⟨Nat.le_refl _⟩, ⟨by (with_reducible repeat (first | refine blk_drewN ?_ _ | refine blk_drew ?_ | refine blk_alloc ?_ _)); exact BK191.out⟩, ⟨by (with_reducible repeat (first | refine blk_drewN ?_ _ | refine blk_drew ?_ | refine blk_alloc ?_ _)); exact BK192.out⟩, ⟨by repeat (first | (with_reducible first | exact HB.out | apply below_alloc | apply pw_below_drewN | apply below_drew1 | refine below_set ?_ GE191.out | refine below_set ?_ GE192.out) | exact HB.out)⟩⟩
        case round =>
          clear H'
          try clear c1
          try clear p2
          try clear c6
          try clear c6b0
          try clear c6b1
          try clear c7
          try clear c7b0
          try clear c8
          try clear c11
          try clear c14
          try clear c17
          try clear hcz10_0
          try clear hcz10_1
          try clear hcz10_2
          try clear hcz10_3
          try clear hcz10_4
          try clear hcz10_5
          try clear hcz10_6
          try clear hcz12_0
          try clear hcz12_1
          try clear hcz12_2
          try clear hcz12_3
          try clear hcz12_4
          try clear hcz12_5
          try clear hcz12_6
          try clear hcz13_0
          try clear hcz13_1
          try clear hcz13_2
          try clear hcz13_3
          try clear hcz13_4
          try clear hcz13_5
          try clear hcz13_6
          try clear hcz15_0
          try clear hcz15_1
          try clear hcz15_2
          try clear hcz15_3
          try clear hcz15_4
          try clear hcz15_5
          try clear hcz15_6
          try clear hcz16_0
          try clear hcz16_1
          try clear hcz16_2
          try clear hcz16_3
          try clear hcz16_4
          try clear hcz16_5
          try clear hcz16_6
          try clear hcz9_0
          try clear hcz9_1
          try clear hcz9_2
          try clear hcz9_3
          try clear hcz9_4
          try clear hcz9_5
          try clear hcz9_6
          try clear hfz10_0
          try clear hfz10_1
          try clear hfz10_2
          try clear hfz10_3
          try clear hfz10_4
          try clear hfz10_5
          try clear hfz10_6
          try clear hfz12_0
          try clear hfz12_1
          try clear hfz12_2
          try clear hfz12_3
          try clear hfz12_4
          try clear hfz12_5
          try clear hfz12_6
          try clear hfz13_0
          try clear hfz13_1
          try clear hfz13_2
          try clear hfz13_3
          try clear hfz13_4
          try clear hfz13_5
          try clear hfz13_6
          try clear hfz15_0
          try clear hfz15_1
          try clear hfz15_2
          try clear hfz15_3
          try clear hfz15_4
          try clear hfz15_5
          try clear hfz15_6
          try clear hfz16_0
          try clear hfz16_1
          try clear hfz16_2
          try clear hfz16_3
          try clear hfz16_4
          try clear hfz16_5
          try clear hfz16_6
          try clear hfz9_0
          try clear hfz9_1
          try clear hfz9_2
          try clear hfz9_3
          try clear hfz9_4
          try clear hfz9_5
          try clear hfz9_6
          try clear p2
          obtain ⟨x5_2, rfl, HA, HK2, BK191, BK192, HB⟩ := hrel
          cases gk with
          | zero => exact absurd HA.out (by simp [tithebarnref23_Same.l0])
          | succ k2 =>
            have H := HA.out
            clear HA
            simp only [tithebarnref23_Same.l0] at H
            by_cases c18 : x5_2 < (l0_6.length : Int)
            · rw [if_pos c18] at H
              have c18b0 : decide (x5_2 < (l0_6.length : Int)) = true := decide_eq_true c18
              clear c18
              by_cases c19 : 0 ≤ x5_2
              · rw [if_pos c19] at H
                have c19b0 : decide (0 ≤ x5_2) = true := decide_eq_true c19
                clear c19
                by_cases c20 : x5_2 < (l1_6.length : Int)
                · rw [if_pos c20] at H
                  have c20b0 : decide (x5_2 < (l1_6.length : Int)) = true := decide_eq_true c20
                  clear c20
                  replace H := Option.bind_eq_some_iff.mp H
                  obtain ⟨t195, A210, H⟩ := H
                  replace H : (if t195 = true then (tithebarnref23_Same.l0 k2 (wrap64 (x5_2 + 1)) a0_0 a0_1 a0_2 a0_3 a0_4 a0_5 l0_6 a1_0 a1_1 a1_2 a1_3 a1_4 a1_5 l1_6) else (some false)) = some r := H
                  have A21 := Aside0.mk A210
                  clear A210
                  by_cases c22 : t195 = true
                  · subst c22
                    have H1 : (tithebarnref23_Same.l0 k2 (wrap64 (x5_2 + 1)) a0_0 a0_1 a0_2 a0_3 a0_4 a0_5 l0_6 a1_0 a1_1 a1_2 a1_3 a1_4 a1_5 l1_6) = some r := by rw [if_pos rfl] at H; exact H
                    clear H
                    have H := H1
                    clear H1
                    have H' := Aside0.mk H
                    clear H
                    have hnb23 := NB191_192.out
                    have hnc23 := NB192_191.out
                    have hcz24_0 : wr.cell? ⟨gb191, 0, none⟩ = some (.int .i64 a0_0) := (blk_cell BK191.out 0).trans rfl
                    have hcz24_1 : wr.cell? ⟨gb191, 1, none⟩ = some (.int .i64 a0_1) := (blk_cell BK191.out 1).trans rfl
                    have hcz24_2 : wr.cell? ⟨gb191, 2, none⟩ = some (.int .i64 a0_2) := (blk_cell BK191.out 2).trans rfl
                    have hcz24_3 : wr.cell? ⟨gb191, 3, none⟩ = some (.bool a0_3) := (blk_cell BK191.out 3).trans rfl
                    have hcz24_4 : wr.cell? ⟨gb191, 4, none⟩ = some (.int .i64 a0_4) := (blk_cell BK191.out 4).trans rfl
                    have hcz24_5 : wr.cell? ⟨gb191, 5, none⟩ = some (.string a0_5) := (blk_cell BK191.out 5).trans rfl
                    have hcz24_6 : wr.cell? ⟨gb191, 6, none⟩ = some (.slice A0_6 l0_6.length c0_6) := (blk_cell BK191.out 6).trans rfl
                    have hfz24_0 := blk_frozen BK191.out 0
                    have hfz24_1 := blk_frozen BK191.out 1
                    have hfz24_2 := blk_frozen BK191.out 2
                    have hfz24_3 := blk_frozen BK191.out 3
                    have hfz24_4 := blk_frozen BK191.out 4
                    have hfz24_5 := blk_frozen BK191.out 5
                    have hfz24_6 := blk_frozen BK191.out 6
                    try go_wp2
                    have n0_ := Aside0.mk (blk_drew BK191.out)
                    have n1_ := Aside0.mk (blk_drew BK192.out)
                    have n2_ := Aside0.mk (below_drew1 HB.out)
                    clear BK191
                    clear BK192
                    clear HB
                    have BK191 := n0_
                    have BK192 := n1_
                    have HB := n2_
                    clear n0_ n1_ n2_
                    have p193 : 0 ≤ (x5_2 : Int) := of_decide_eq_true (by first | (with_reducible assumption) | assumption)
                    have q193 : x5_2 < (l0_6.length : Int) := of_decide_eq_true (by first | (with_reducible assumption) | assumption)
                    obtain ⟨ad193, A193_6, c193_6, e193, hx193_0, hx193_1, hx193_2, hx193_3, hx193_4, hx193_5, hx193_6, hl193_6, hi193_6⟩ := at_T28 HR0_6.out x5_2 p193 q193
                    have hw193_6 := hx193_6
                    have hw193_5 := hx193_5
                    have hw193_4 := hx193_4
                    have hw193_3 := hx193_3
                    have hw193_2 := hx193_2
                    have hw193_1 := hx193_1
                    have hw193_0 := hx193_0
                    cases e193
                    replace hx193_0 := (HB.out.cell (World.block_lt_of_cell? w _ hx193_0)).trans hx193_0
                    replace hx193_1 := (HB.out.cell (World.block_lt_of_cell? w _ hx193_1)).trans hx193_1
                    replace hx193_2 := (HB.out.cell (World.block_lt_of_cell? w _ hx193_2)).trans hx193_2
                    replace hx193_3 := (HB.out.cell (World.block_lt_of_cell? w _ hx193_3)).trans hx193_3
                    replace hx193_4 := (HB.out.cell (World.block_lt_of_cell? w _ hx193_4)).trans hx193_4
                    replace hx193_5 := (HB.out.cell (World.block_lt_of_cell? w _ hx193_5)).trans hx193_5
                    replace hx193_6 := (HB.out.cell (World.block_lt_of_cell? w _ hx193_6)).trans hx193_6
                    have HR193_6 := Aside0.mk hi193_6
                    have HC193_6 := Aside0.mk hl193_6
                    clear hi193_6 hl193_6
                    replace p193 := eq_true p193
                    replace q193 := eq_true q193
                    have p194 : 0 ≤ (x5_2 : Int) := of_decide_eq_true (by first | (with_reducible assumption) | assumption)
                    have q194 : x5_2 < (l1_6.length : Int) := of_decide_eq_true (by first | (with_reducible assumption) | assumption)
                    obtain ⟨ad194, A194_6, c194_6, e194, hx194_0, hx194_1, hx194_2, hx194_3, hx194_4, hx194_5, hx194_6, hl194_6, hi194_6⟩ := at_T28 HR1_6.out x5_2 p194 q194
                    have hw194_6 := hx194_6
                    have hw194_5 := hx194_5
                    have hw194_4 := hx194_4
                    have hw194_3 := hx194_3
                    have hw194_2 := hx194_2
                    have hw194_1 := hx194_1
                    have hw194_0 := hx194_0
                    cases e194
                    replace hx194_0 := (HB.out.cell (World.block_lt_of_cell? w _ hx194_0)).trans hx194_0
                    replace hx194_1 := (HB.out.cell (World.block_lt_of_cell? w _ hx194_1)).trans hx194_1
                    replace hx194_2 := (HB.out.cell (World.block_lt_of_cell? w _ hx194_2)).trans hx194_2
                    replace hx194_3 := (HB.out.cell (World.block_lt_of_cell? w _ hx194_3)).trans hx194_3
                    replace hx194_4 := (HB.out.cell (World.block_lt_of_cell? w _ hx194_4)).trans hx194_4
                    replace hx194_5 := (HB.out.cell (World.block_lt_of_cell? w _ hx194_5)).trans hx194_5
                    replace hx194_6 := (HB.out.cell (World.block_lt_of_cell? w _ hx194_6)).trans hx194_6
                    have HR194_6 := Aside0.mk hi194_6
                    have HC194_6 := Aside0.mk hl194_6
                    clear hi194_6 hl194_6
                    replace p194 := eq_true p194
                    replace q194 := eq_true q194
                    refine start_ (n := 12) (S := fun w' => w'.cell? ⟨gb191, 0, none⟩ = some (.int .i64 a0_0) ∧ w'.cell? ⟨gb191, 1, none⟩ = some (.int .i64 a0_1) ∧ w'.cell? ⟨gb191, 2, none⟩ = some (.int .i64 a0_2) ∧ w'.cell? ⟨gb191, 3, none⟩ = some (.bool a0_3) ∧ w'.cell? ⟨gb191, 4, none⟩ = some (.int .i64 a0_4) ∧ w'.cell? ⟨gb191, 5, none⟩ = some (.string a0_5) ∧ w'.cell? ⟨gb191, 6, none⟩ = some (.slice (some ad193) l0_6.length c0_6) ∧ w'.cell? ⟨gb192, 0, none⟩ = some (.int .i64 a1_0) ∧ w'.cell? ⟨gb192, 1, none⟩ = some (.int .i64 a1_1) ∧ w'.cell? ⟨gb192, 2, none⟩ = some (.int .i64 a1_2) ∧ w'.cell? ⟨gb192, 3, none⟩ = some (.bool a1_3) ∧ w'.cell? ⟨gb192, 4, none⟩ = some (.int .i64 a1_4) ∧ w'.cell? ⟨gb192, 5, none⟩ = some (.string a1_5) ∧ w'.cell? ⟨gb192, 6, none⟩ = some (.slice (some ad194) l1_6.length c1_6) ∧ w'.cell? (ad193.add ((x5_2).toNat * 7)) = some (.int .i64 ((rd_T28 l0_6 x5_2).f0)) ∧ w'.cell? ⟨(ad193.add ((x5_2).toNat * 7)).block, (ad193.add ((x5_2).toNat * 7)).off + 1, none⟩ = some (.int .i64 ((rd_T28 l0_6 x5_2).f1.f0)) ∧ w'.cell? ⟨(ad193.add ((x5_2).toNat * 7)).block, (ad193.add ((x5_2).toNat * 7)).off + 2, none⟩ = some (.int .i64 ((rd_T28 l0_6 x5_2).f1.f1)) ∧ w'.cell? ⟨(ad193.add ((x5_2).toNat * 7)).block, (ad193.add ((x5_2).toNat * 7)).off + 3, none⟩ = some (.bool ((rd_T28 l0_6 x5_2).f1.f2.f0)) ∧ w'.cell? ⟨(ad193.add ((x5_2).toNat * 7)).block, (ad193.add ((x5_2).toNat * 7)).off + 4, none⟩ = some (.int .i64 ((rd_T28 l0_6 x5_2).f1.f2.f1)) ∧ w'.cell? ⟨(ad193.add ((x5_2).toNat * 7)).block, (ad193.add ((x5_2).toNat * 7)).off + 5, none⟩ = some (.string ((rd_T28 l0_6 x5_2).f1.f2.f2)) ∧ w'.cell? ⟨(ad193.add ((x5_2).toNat * 7)).block, (ad193.add ((x5_2).toNat * 7)).off + 6, none⟩ = some (.slice A193_6 ((rd_T28 l0_6 x5_2).f2).length c193_6) ∧ w'.cell? (ad194.add ((x5_2).toNat * 7)) = some (.int .i64 ((rd_T28 l1_6 x5_2).f0)) ∧ w'.cell? ⟨(ad194.add ((x5_2).toNat * 7)).block, (ad194.add ((x5_2).toNat * 7)).off + 1, none⟩ = some (.int .i64 ((rd_T28 l1_6 x5_2).f1.f0)) ∧ w'.cell? ⟨(ad194.add ((x5_2).toNat * 7)).block, (ad194.add ((x5_2).toNat * 7)).off + 2, none⟩ = some (.int .i64 ((rd_T28 l1_6 x5_2).f1.f1)) ∧ w'.cell? ⟨(ad194.add ((x5_2).toNat * 7)).block, (ad194.add ((x5_2).toNat * 7)).off + 3, none⟩ = some (.bool ((rd_T28 l1_6 x5_2).f1.f2.f0)) ∧ w'.cell? ⟨(ad194.add ((x5_2).toNat * 7)).block, (ad194.add ((x5_2).toNat * 7)).off + 4, none⟩ = some (.int .i64 ((rd_T28 l1_6 x5_2).f1.f2.f1)) ∧ w'.cell? ⟨(ad194.add ((x5_2).toNat * 7)).block, (ad194.add ((x5_2).toNat * 7)).off + 5, none⟩ = some (.string ((rd_T28 l1_6 x5_2).f1.f2.f2)) ∧ w'.cell? ⟨(ad194.add ((x5_2).toNat * 7)).block, (ad194.add ((x5_2).toNat * 7)).off + 6, none⟩ = some (.slice A194_6 ((rd_T28 l1_6 x5_2).f2).length c194_6)) (ds := []) #[false, false, false, false, false, false, false, false, false, false, false, false] (by kernel_rfl) rfl rfl ⟨(blk_cell BK191.out 0).trans rfl, (blk_cell BK191.out 1).trans rfl, (blk_cell BK191.out 2).trans rfl, (blk_cell BK191.out 3).trans rfl, (blk_cell BK191.out 4).trans rfl, (blk_cell BK191.out 5).trans rfl, (blk_cell BK191.out 6).trans rfl, (blk_cell BK192.out 0).trans rfl, (blk_cell BK192.out 1).trans rfl, (blk_cell BK192.out 2).trans rfl, (blk_cell BK192.out 3).trans rfl, (blk_cell BK192.out 4).trans rfl, (blk_cell BK192.out 5).trans rfl, (blk_cell BK192.out 6).trans rfl, ((HB.out.cell (World.block_lt_of_cell? w _ hw193_0)).trans hw193_0), ((HB.out.cell (World.block_lt_of_cell? w _ hw193_1)).trans hw193_1), ((HB.out.cell (World.block_lt_of_cell? w _ hw193_2)).trans hw193_2), ((HB.out.cell (World.block_lt_of_cell? w _ hw193_3)).trans hw193_3), ((HB.out.cell (World.block_lt_of_cell? w _ hw193_4)).trans hw193_4), ((HB.out.cell (World.block_lt_of_cell? w _ hw193_5)).trans hw193_5), ((HB.out.cell (World.block_lt_of_cell? w _ hw193_6)).trans hw193_6), ((HB.out.cell (World.block_lt_of_cell? w _ hw194_0)).trans hw194_0), ((HB.out.cell (World.block_lt_of_cell? w _ hw194_1)).trans hw194_1), ((HB.out.cell (World.block_lt_of_cell? w _ hw194_2)).trans hw194_2), ((HB.out.cell (World.block_lt_of_cell? w _ hw194_3)).trans hw194_3), ((HB.out.cell (World.block_lt_of_cell? w _ hw194_4)).trans hw194_4), ((HB.out.cell (World.block_lt_of_cell? w _ hw194_5)).trans hw194_5), ((HB.out.cell (World.block_lt_of_cell? w _ hw194_6)).trans hw194_6)⟩ (fun hHeld => ?_); refine with_tabW tithebarnref23_Same.tab6 tithebarnref23_Same.bits6 (fun HT_ HW_ => ?_)
                    generalize wr.drew = w25 at BK191 BK192 HB HR193_6 HR194_6 hx193_0 hx193_1 hx193_2 hx193_3 hx193_4 hx193_5 hx193_6 hx194_0 hx194_1 hx194_2 hx194_3 hx194_4 hx194_5 hx194_6 hHeld ⊢
                    refine pure_ (i := 0) (N := some 34) (v := ?_) (a' := ?_) #[true, false, false, false, false, false, false, false, false, false, false, false] rfl rfl (any_of HT_.out (by kernel_rfl)) (fun _ _ _ h => h) (Or.inl ⟨by rfl, ?_⟩) ?_ ?_
                    rotate_left
                    · intro w'
                      go_simp
                      with_reducible rfl
                    rotate_left
                    · simp only [Act.put, List.setIfInBounds_toArray, List.set_cons_zero, List.set_cons_succ, i64_w, i32_w]
                      rfl
                    refine pure_ (i := 2) (N := some 36) (v := ?_) (a' := ?_) #[true, false, true, false, false, false, false, false, false, false, false, false] rfl rfl (any_of HT_.out (by kernel_rfl)) (fun _ _ _ h => h) (Or.inl ⟨by rfl, ?_⟩) ?_ ?_
                    rotate_left
                    · intro w'
                      go_simp
                      with_reducible rfl
                    rotate_left
                    · simp only [Act.put, List.setIfInBounds_toArray, List.set_cons_zero, List.set_cons_succ, i64_w, i32_w]
                      rfl
                    refine pure_ (i := 5) (N := some 39) (v := ?_) (a' := ?_) #[true, false, true, false, false, true, false, false, false, false, false, false] rfl rfl (any_of HT_.out (by kernel_rfl)) (fun _ _ _ h => h) (Or.inl ⟨by rfl, ?_⟩) ?_ ?_
                    rotate_left
                    · intro w'
                      go_simp
                      with_reducible rfl
                    rotate_left
                    · simp only [Act.put, List.setIfInBounds_toArray, List.set_cons_zero, List.set_cons_succ, i64_w, i32_w]
                      rfl
                    refine pure_ (i := 7) (N := some 41) (v := ?_) (a' := ?_) #[true, false, true, false, false, true, false, true, false, false, false, false] rfl rfl (any_of HT_.out (by kernel_rfl)) (fun _ _ _ h => h) (Or.inl ⟨by rfl, ?_⟩) ?_ ?_
                    rotate_left
                    · intro w'
                      go_simp
                      with_reducible rfl
                    rotate_left
                    · simp only [Act.put, List.setIfInBounds_toArray, List.set_cons_zero, List.set_cons_succ, i64_w, i32_w]
                      rfl
                    refine take_ (i := 1) (N := some 35) (v := ?_) (a' := ?_) #[true, true, true, false, false, true, false, true, false, false, false, false] rfl rfl (take_ofW HT_.out HW_.out (by kernel_rfl)) (fun _ _ _ h => h) (Or.inl ⟨by rfl, ?_⟩) hHeld ?_ ?_
                    rotate_left
                    · rintro w' ⟨s0, s1, s2, s3, s4, s5, s6, s7, s8, s9, s10, s11, s12, s13, s14, s15, s16, s17, s18, s19, s20, s21, s22, s23, s24, s25, s26, s27⟩
                      go_simp
                      with_reducible rfl
                    rotate_left
                    · simp only [Act.put, List.setIfInBounds_toArray, List.set_cons_zero, List.set_cons_succ, i64_w, i32_w]
                      rfl
                    refine pure_ (i := 3) (N := some 37) (v := ?_) (a' := ?_) #[true, true, true, true, false, true, false, true, false, false, false, false] rfl rfl (any_of HT_.out (by kernel_rfl)) (fun _ _ _ h => h) (Or.inl ⟨by rfl, ?_⟩) ?_ ?_
                    rotate_left
                    · intro w'
                      go_simp
                      with_reducible rfl
                    rotate_left
                    · simp only [Act.put, List.setIfInBounds_toArray, List.set_cons_zero, List.set_cons_succ, i64_w, i32_w]
                      rfl
                    refine take_ (i := 4) (N := some 38) (v := ?_) (a' := ?_) #[true, true, true, true, true, true, false, true, false, false, false, false] rfl rfl (take_ofW HT_.out HW_.out (by kernel_rfl)) (fun _ _ _ h => h) (Or.inl ⟨by rfl, ?_⟩) hHeld ?_ ?_
                    rotate_left
                    · rintro w' ⟨s0, s1, s2, s3, s4, s5, s6, s7, s8, s9, s10, s11, s12, s13, s14, s15, s16, s17, s18, s19, s20, s21, s22, s23, s24, s25, s26, s27⟩
                      go_simp
                      with_reducible rfl
                    rotate_left
                    · simp only [Act.put, List.setIfInBounds_toArray, List.set_cons_zero, List.set_cons_succ, i64_w, i32_w]
                      rfl
                    refine take_ (i := 6) (N := some 40) (v := ?_) (a' := ?_) #[true, true, true, true, true, true, true, true, false, false, false, false] rfl rfl (take_ofW HT_.out HW_.out (by kernel_rfl)) (fun _ _ _ h => h) (Or.inl ⟨by rfl, ?_⟩) hHeld ?_ ?_
                    rotate_left
                    · rintro w' ⟨s0, s1, s2, s3, s4, s5, s6, s7, s8, s9, s10, s11, s12, s13, s14, s15, s16, s17, s18, s19, s20, s21, s22, s23, s24, s25, s26, s27⟩
                      go_simp
                      with_reducible rfl
                    rotate_left
                    · simp only [Act.put, List.setIfInBounds_toArray, List.set_cons_zero, List.set_cons_succ, i64_w, i32_w]
                      rfl
                    refine pure_ (i := 8) (N := some 42) (v := ?_) (a' := ?_) #[true, true, true, true, true, true, true, true, true, false, false, false] rfl rfl (any_of HT_.out (by kernel_rfl)) (fun _ _ _ h => h) (Or.inl ⟨by rfl, ?_⟩) ?_ ?_
                    rotate_left
                    · intro w'
                      go_simp
                      with_reducible rfl
                    rotate_left
                    · simp only [Act.put, List.setIfInBounds_toArray, List.set_cons_zero, List.set_cons_succ, i64_w, i32_w]
                      rfl
                    refine take_ (i := 9) (N := some 43) (v := ?_) (a' := ?_) #[true, true, true, true, true, true, true, true, true, true, false, false] rfl rfl (take_ofW HT_.out HW_.out (by kernel_rfl)) (fun _ _ _ h => h) (Or.inl ⟨by rfl, ?_⟩) hHeld ?_ ?_
                    rotate_left
                    · rintro w' ⟨s0, s1, s2, s3, s4, s5, s6, s7, s8, s9, s10, s11, s12, s13, s14, s15, s16, s17, s18, s19, s20, s21, s22, s23, s24, s25, s26, s27⟩
                      go_simp
                      with_reducible rfl
                    rotate_left
                    · simp only [Act.put, List.setIfInBounds_toArray, List.set_cons_zero, List.set_cons_succ, i64_w, i32_w]
                      rfl
                    refine one_ (i := 10) (N := some 44) #[true, true, true, true, true, true, true, true, true, true, true, false] rfl rfl (one_of HT_.out (by kernel_rfl)) (by decide) (fun K hK => ?_)
                    refine goes_ Tryd.func14 (by kernel_rfl) rfl #[.agg #[.int .i64 ((rd_T28 l0_6 x5_2).f0), .int .i64 ((rd_T28 l0_6 x5_2).f1.f0), .int .i64 ((rd_T28 l0_6 x5_2).f1.f1), .bool ((rd_T28 l0_6 x5_2).f1.f2.f0), .int .i64 ((rd_T28 l0_6 x5_2).f1.f2.f1), .string ((rd_T28 l0_6 x5_2).f1.f2.f2), .slice A193_6 ((rd_T28 l0_6 x5_2).f2).length c193_6], .agg #[.int .i64 ((rd_T28 l1_6 x5_2).f0), .int .i64 ((rd_T28 l1_6 x5_2).f1.f0), .int .i64 ((rd_T28 l1_6 x5_2).f1.f1), .bool ((rd_T28 l1_6 x5_2).f1.f2.f0), .int .i64 ((rd_T28 l1_6 x5_2).f1.f2.f1), .string ((rd_T28 l1_6 x5_2).f1.f2.f2), .slice A194_6 ((rd_T28 l1_6 x5_2).f2).length c194_6]] (by rfl) rfl rfl (by (try simp only [List.map_toArray, List.map_cons, List.map_nil]); first | done | rfl | (simp only [List.length_drop, List.length_take]; rfl)) ?_
                    with_reducible refine (ih k2 (by have := HJ2.out; have := HK2.out; omega) ((rd_T28 l0_6 x5_2).f0) ((rd_T28 l0_6 x5_2).f1.f0) ((rd_T28 l0_6 x5_2).f1.f1) ((rd_T28 l0_6 x5_2).f1.f2.f0) ((rd_T28 l0_6 x5_2).f1.f2.f1) ((rd_T28 l0_6 x5_2).f1.f2.f2) _ _ ((rd_T28 l0_6 x5_2).f2) ((rd_T28 l1_6 x5_2).f0) ((rd_T28 l1_6 x5_2).f1.f0) ((rd_T28 l1_6 x5_2).f1.f1) ((rd_T28 l1_6 x5_2).f1.f2.f0) ((rd_T28 l1_6 x5_2).f1.f2.f1) ((rd_T28 l1_6 x5_2).f1.f2.f2) _ _ ((rd_T28 l1_6 x5_2).f2) true _ ?side1 ?side2 ?side3 ?side4 A21.out).mono ?_
                    (case side1 => repeat (first | exact (Kd.C_below HR193_6.out HB.out) | (with_reducible refine Kd.C_alloc ?_ _) | (with_reducible refine Kd.C_drewN ?_ _) | (with_reducible refine Kd.C_drew ?_)))
                    (case side2 => exact HC193_6.out)
                    (case side3 => repeat (first | exact (Kd.C_below HR194_6.out HB.out) | (with_reducible refine Kd.C_alloc ?_ _) | (with_reducible refine Kd.C_drewN ?_ _) | (with_reducible refine Kd.C_drew ?_)))
                    (case side4 => exact HC194_6.out)
                    rintro e w26 ⟨rfl, hb⟩
                    refine ⟨_, rfl, ?_⟩
                    have n0_ := Aside0.mk (blk_below (g := gb191) (o := .cells #[.int .i64 a0_0, .int .i64 a0_1, .int .i64 a0_2, .bool a0_3, .int .i64 a0_4, .string a0_5, .slice (some ad193) l0_6.length c0_6] 28 (0, 0)) (by (with_reducible repeat (first | refine blk_drewN ?_ _ | refine blk_drew ?_ | refine blk_alloc ?_ _)); exact BK191.out) hb)
                    have n1_ := Aside0.mk (blk_below (g := gb192) (o := .cells #[.int .i64 a1_0, .int .i64 a1_1, .int .i64 a1_2, .bool a1_3, .int .i64 a1_4, .string a1_5, .slice (some ad194) l1_6.length c1_6] 28 (0, 0)) (by (with_reducible repeat (first | refine blk_drewN ?_ _ | refine blk_drew ?_ | refine blk_alloc ?_ _)); exact BK192.out) hb)
                    have n2_ := Aside0.mk (below_step (by repeat (first | (with_reducible first | exact HB.out | apply below_alloc | apply pw_below_drewN | apply below_drew1 | refine below_set ?_ GE191.out | refine below_set ?_ GE192.out) | exact HB.out)) hb)
                    clear BK191
                    clear BK192
                    clear HB
                    have BK191 := n0_
                    have BK192 := n1_
                    have HB := n2_
                    clear n0_ n1_ n2_
                    (try clear hb)
                    (try clear hb2)
                    (try clear hk)
                    (try clear hi)
                    refine hK.out _ _ ⟨(blk_cell BK191.out 0).trans rfl, (blk_cell BK191.out 1).trans rfl, (blk_cell BK191.out 2).trans rfl, (blk_cell BK191.out 3).trans rfl, (blk_cell BK191.out 4).trans rfl, (blk_cell BK191.out 5).trans rfl, (blk_cell BK191.out 6).trans rfl, (blk_cell BK192.out 0).trans rfl, (blk_cell BK192.out 1).trans rfl, (blk_cell BK192.out 2).trans rfl, (blk_cell BK192.out 3).trans rfl, (blk_cell BK192.out 4).trans rfl, (blk_cell BK192.out 5).trans rfl, (blk_cell BK192.out 6).trans rfl, ((HB.out.cell (World.block_lt_of_cell? w _ hw193_0)).trans hw193_0), ((HB.out.cell (World.block_lt_of_cell? w _ hw193_1)).trans hw193_1), ((HB.out.cell (World.block_lt_of_cell? w _ hw193_2)).trans hw193_2), ((HB.out.cell (World.block_lt_of_cell? w _ hw193_3)).trans hw193_3), ((HB.out.cell (World.block_lt_of_cell? w _ hw193_4)).trans hw193_4), ((HB.out.cell (World.block_lt_of_cell? w _ hw193_5)).trans hw193_5), ((HB.out.cell (World.block_lt_of_cell? w _ hw193_6)).trans hw193_6), ((HB.out.cell (World.block_lt_of_cell? w _ hw194_0)).trans hw194_0), ((HB.out.cell (World.block_lt_of_cell? w _ hw194_1)).trans hw194_1), ((HB.out.cell (World.block_lt_of_cell? w _ hw194_2)).trans hw194_2), ((HB.out.cell (World.block_lt_of_cell? w _ hw194_3)).trans hw194_3), ((HB.out.cell (World.block_lt_of_cell? w _ hw194_4)).trans hw194_4), ((HB.out.cell (World.block_lt_of_cell? w _ hw194_5)).trans hw194_5), ((HB.out.cell (World.block_lt_of_cell? w _ hw194_6)).trans hw194_6)⟩ (fun hHeld => ?_)
                    clear hK K
                    refine norm_ (a' := ?_) ?_ ?_
                    rotate_left
                    · show Act.put _ (some 44) _ = _
                      simp only [Act.put, List.setIfInBounds_toArray, List.set_cons_zero, List.set_cons_succ, i64_w, i32_w]
                      rfl
                    refine pure_ (i := 11) (N := some 45) (v := ?_) (a' := ?_) #[true, true, true, true, true, true, true, true, true, true, true, true] rfl rfl (any_of HT_.out (by kernel_rfl)) (fun _ _ _ h => h) (Or.inl ⟨by rfl, ?_⟩) ?_ ?_
                    rotate_left
                    · intro w'
                      go_simp
                      with_reducible rfl
                    rotate_left
                    · simp only [Act.put, List.setIfInBounds_toArray, List.set_cons_zero, List.set_cons_succ, i64_w, i32_w]
                      rfl
                    refine done_ (done_of HT_.out (by kernel_rfl)) ?_
                    try go_wp2
                    go_roundg k2
                    case measure => have := HJ2.out; have := HK2.out; omega
                    case rel => exact ⟨(wrap64 (x5_2 + 1)), (by first | rfl | (simp; done) | (simp [*]; done)), H', ⟨by have := HJ2.out; have := HK2.out; omega⟩, ⟨by (with_reducible repeat (first | refine blk_drewN ?_ _ | refine blk_drew ?_ | refine blk_alloc ?_ _)); exact BK191.out⟩, ⟨by (with_reducible repeat (first | refine blk_drewN ?_ _ | refine blk_drew ?_ | refine blk_alloc ?_ _)); exact BK192.out⟩, ⟨by repeat (first | (with_reducible first | exact HB.out | apply below_alloc | apply pw_below_drewN | apply below_drew1 | refine below_set ?_ GE191.out | refine below_set ?_ GE192.out) | exact HB.out)⟩⟩
                  · replace c22 := Bool.eq_false_iff.mpr c22
                    subst c22
                    have H1 : (some false) = some r := by rw [if_neg (show ¬ (false = true) by decide)] at H; exact H
                    clear H
                    have H := H1
                    clear H1
                    obtain rfl := Option.some.inj H
                    have hnb27 := NB191_192.out
                    have hnc27 := NB192_191.out
                    have hcz28_0 : wr.cell? ⟨gb191, 0, none⟩ = some (.int .i64 a0_0) := (blk_cell BK191.out 0).trans rfl
                    have hcz28_1 : wr.cell? ⟨gb191, 1, none⟩ = some (.int .i64 a0_1) := (blk_cell BK191.out 1).trans rfl
                    have hcz28_2 : wr.cell? ⟨gb191, 2, none⟩ = some (.int .i64 a0_2) := (blk_cell BK191.out 2).trans rfl
                    have hcz28_3 : wr.cell? ⟨gb191, 3, none⟩ = some (.bool a0_3) := (blk_cell BK191.out 3).trans rfl
                    have hcz28_4 : wr.cell? ⟨gb191, 4, none⟩ = some (.int .i64 a0_4) := (blk_cell BK191.out 4).trans rfl
                    have hcz28_5 : wr.cell? ⟨gb191, 5, none⟩ = some (.string a0_5) := (blk_cell BK191.out 5).trans rfl
                    have hcz28_6 : wr.cell? ⟨gb191, 6, none⟩ = some (.slice A0_6 l0_6.length c0_6) := (blk_cell BK191.out 6).trans rfl
                    have hfz28_0 := blk_frozen BK191.out 0
                    have hfz28_1 := blk_frozen BK191.out 1
                    have hfz28_2 := blk_frozen BK191.out 2
                    have hfz28_3 := blk_frozen BK191.out 3
                    have hfz28_4 := blk_frozen BK191.out 4
                    have hfz28_5 := blk_frozen BK191.out 5
                    have hfz28_6 := blk_frozen BK191.out 6
                    try go_wp2
                    have n0_ := Aside0.mk (blk_drew BK191.out)
                    have n1_ := Aside0.mk (blk_drew BK192.out)
                    have n2_ := Aside0.mk (below_drew1 HB.out)
                    clear BK191
                    clear BK192
                    clear HB
                    have BK191 := n0_
                    have BK192 := n1_
                    have HB := n2_
                    clear n0_ n1_ n2_
                    have p193 : 0 ≤ (x5_2 : Int) := of_decide_eq_true (by first | (with_reducible assumption) | assumption)
                    have q193 : x5_2 < (l0_6.length : Int) := of_decide_eq_true (by first | (with_reducible assumption) | assumption)
                    obtain ⟨ad193, A193_6, c193_6, e193, hx193_0, hx193_1, hx193_2, hx193_3, hx193_4, hx193_5, hx193_6, hl193_6, hi193_6⟩ := at_T28 HR0_6.out x5_2 p193 q193
                    have hw193_6 := hx193_6
                    have hw193_5 := hx193_5
                    have hw193_4 := hx193_4
                    have hw193_3 := hx193_3
                    have hw193_2 := hx193_2
                    have hw193_1 := hx193_1
                    have hw193_0 := hx193_0
                    cases e193
                    replace hx193_0 := (HB.out.cell (World.block_lt_of_cell? w _ hx193_0)).trans hx193_0
                    replace hx193_1 := (HB.out.cell (World.block_lt_of_cell? w _ hx193_1)).trans hx193_1
                    replace hx193_2 := (HB.out.cell (World.block_lt_of_cell? w _ hx193_2)).trans hx193_2
                    replace hx193_3 := (HB.out.cell (World.block_lt_of_cell? w _ hx193_3)).trans hx193_3
                    replace hx193_4 := (HB.out.cell (World.block_lt_of_cell? w _ hx193_4)).trans hx193_4
                    replace hx193_5 := (HB.out.cell (World.block_lt_of_cell? w _ hx193_5)).trans hx193_5
                    replace hx193_6 := (HB.out.cell (World.block_lt_of_cell? w _ hx193_6)).trans hx193_6
                    have HR193_6 := Aside0.mk hi193_6
                    have HC193_6 := Aside0.mk hl193_6
                    clear hi193_6 hl193_6
                    replace p193 := eq_true p193
                    replace q193 := eq_true q193
                    have p194 : 0 ≤ (x5_2 : Int) := of_decide_eq_true (by first | (with_reducible assumption) | assumption)
                    have q194 : x5_2 < (l1_6.length : Int) := of_decide_eq_true (by first | (with_reducible assumption) | assumption)
                    obtain ⟨ad194, A194_6, c194_6, e194, hx194_0, hx194_1, hx194_2, hx194_3, hx194_4, hx194_5, hx194_6, hl194_6, hi194_6⟩ := at_T28 HR1_6.out x5_2 p194 q194
                    have hw194_6 := hx194_6
                    have hw194_5 := hx194_5
                    have hw194_4 := hx194_4
                    have hw194_3 := hx194_3
                    have hw194_2 := hx194_2
                    have hw194_1 := hx194_1
                    have hw194_0 := hx194_0
                    cases e194
                    replace hx194_0 := (HB.out.cell (World.block_lt_of_cell? w _ hx194_0)).trans hx194_0
                    replace hx194_1 := (HB.out.cell (World.block_lt_of_cell? w _ hx194_1)).trans hx194_1
                    replace hx194_2 := (HB.out.cell (World.block_lt_of_cell? w _ hx194_2)).trans hx194_2
                    replace hx194_3 := (HB.out.cell (World.block_lt_of_cell? w _ hx194_3)).trans hx194_3
                    replace hx194_4 := (HB.out.cell (World.block_lt_of_cell? w _ hx194_4)).trans hx194_4
                    replace hx194_5 := (HB.out.cell (World.block_lt_of_cell? w _ hx194_5)).trans hx194_5
                    replace hx194_6 := (HB.out.cell (World.block_lt_of_cell? w _ hx194_6)).trans hx194_6
                    have HR194_6 := Aside0.mk hi194_6
                    have HC194_6 := Aside0.mk hl194_6
                    clear hi194_6 hl194_6
                    replace p194 := eq_true p194
                    replace q194 := eq_true q194
                    refine start_ (n := 12) (S := fun w' => w'.cell? ⟨gb191, 0, none⟩ = some (.int .i64 a0_0) ∧ w'.cell? ⟨gb191, 1, none⟩ = some (.int .i64 a0_1) ∧ w'.cell? ⟨gb191, 2, none⟩ = some (.int .i64 a0_2) ∧ w'.cell? ⟨gb191, 3, none⟩ = some (.bool a0_3) ∧ w'.cell? ⟨gb191, 4, none⟩ = some (.int .i64 a0_4) ∧ w'.cell? ⟨gb191, 5, none⟩ = some (.string a0_5) ∧ w'.cell? ⟨gb191, 6, none⟩ = some (.slice (some ad193) l0_6.length c0_6) ∧ w'.cell? ⟨gb192, 0, none⟩ = some (.int .i64 a1_0) ∧ w'.cell? ⟨gb192, 1, none⟩ = some (.int .i64 a1_1) ∧ w'.cell? ⟨gb192, 2, none⟩ = some (.int .i64 a1_2) ∧ w'.cell? ⟨gb192, 3, none⟩ = some (.bool a1_3) ∧ w'.cell? ⟨gb192, 4, none⟩ = some (.int .i64 a1_4) ∧ w'.cell? ⟨gb192, 5, none⟩ = some (.string a1_5) ∧ w'.cell? ⟨gb192, 6, none⟩ = some (.slice (some ad194) l1_6.length c1_6) ∧ w'.cell? (ad193.add ((x5_2).toNat * 7)) = some (.int .i64 ((rd_T28 l0_6 x5_2).f0)) ∧ w'.cell? ⟨(ad193.add ((x5_2).toNat * 7)).block, (ad193.add ((x5_2).toNat * 7)).off + 1, none⟩ = some (.int .i64 ((rd_T28 l0_6 x5_2).f1.f0)) ∧ w'.cell? ⟨(ad193.add ((x5_2).toNat * 7)).block, (ad193.add ((x5_2).toNat * 7)).off + 2, none⟩ = some (.int .i64 ((rd_T28 l0_6 x5_2).f1.f1)) ∧ w'.cell? ⟨(ad193.add ((x5_2).toNat * 7)).block, (ad193.add ((x5_2).toNat * 7)).off + 3, none⟩ = some (.bool ((rd_T28 l0_6 x5_2).f1.f2.f0)) ∧ w'.cell? ⟨(ad193.add ((x5_2).toNat * 7)).block, (ad193.add ((x5_2).toNat * 7)).off + 4, none⟩ = some (.int .i64 ((rd_T28 l0_6 x5_2).f1.f2.f1)) ∧ w'.cell? ⟨(ad193.add ((x5_2).toNat * 7)).block, (ad193.add ((x5_2).toNat * 7)).off + 5, none⟩ = some (.string ((rd_T28 l0_6 x5_2).f1.f2.f2)) ∧ w'.cell? ⟨(ad193.add ((x5_2).toNat * 7)).block, (ad193.add ((x5_2).toNat * 7)).off + 6, none⟩ = some (.slice A193_6 ((rd_T28 l0_6 x5_2).f2).length c193_6) ∧ w'.cell? (ad194.add ((x5_2).toNat * 7)) = some (.int .i64 ((rd_T28 l1_6 x5_2).f0)) ∧ w'.cell? ⟨(ad194.add ((x5_2).toNat * 7)).block, (ad194.add ((x5_2).toNat * 7)).off + 1, none⟩ = some (.int .i64 ((rd_T28 l1_6 x5_2).f1.f0)) ∧ w'.cell? ⟨(ad194.add ((x5_2).toNat * 7)).block, (ad194.add ((x5_2).toNat * 7)).off + 2, none⟩ = some (.int .i64 ((rd_T28 l1_6 x5_2).f1.f1)) ∧ w'.cell? ⟨(ad194.add ((x5_2).toNat * 7)).block, (ad194.add ((x5_2).toNat * 7)).off + 3, none⟩ = some (.bool ((rd_T28 l1_6 x5_2).f1.f2.f0)) ∧ w'.cell? ⟨(ad194.add ((x5_2).toNat * 7)).block, (ad194.add ((x5_2).toNat * 7)).off + 4, none⟩ = some (.int .i64 ((rd_T28 l1_6 x5_2).f1.f2.f1)) ∧ w'.cell? ⟨(ad194.add ((x5_2).toNat * 7)).block, (ad194.add ((x5_2).toNat * 7)).off + 5, none⟩ = some (.string ((rd_T28 l1_6 x5_2).f1.f2.f2)) ∧ w'.cell? ⟨(ad194.add ((x5_2).toNat * 7)).block, (ad194.add ((x5_2).toNat * 7)).off + 6, none⟩ = some (.slice A194_6 ((rd_T28 l1_6 x5_2).f2).length c194_6)) (ds := []) #[false, false, false, false, false, false, false, false, false, false, false, false] (by kernel_rfl) rfl rfl ⟨(blk_cell BK191.out 0).trans rfl, (blk_cell BK191.out 1).trans rfl, (blk_cell BK191.out 2).trans rfl, (blk_cell BK191.out 3).trans rfl, (blk_cell BK191.out 4).trans rfl, (blk_cell BK191.out 5).trans rfl, (blk_cell BK191.out 6).trans rfl, (blk_cell BK192.out 0).trans rfl, (blk_cell BK192.out 1).trans rfl, (blk_cell BK192.out 2).trans rfl, (blk_cell BK192.out 3).trans rfl, (blk_cell BK192.out 4).trans rfl, (blk_cell BK192.out 5).trans rfl, (blk_cell BK192.out 6).trans rfl, ((HB.out.cell (World.block_lt_of_cell? w _ hw193_0)).trans hw193_0), ((HB.out.cell (World.block_lt_of_cell? w _ hw193_1)).trans hw193_1), ((HB.out.cell (World.block_lt_of_cell? w _ hw193_2)).trans hw193_2), ((HB.out.cell (World.block_lt_of_cell? w _ hw193_3)).trans hw193_3), ((HB.out.cell (World.block_lt_of_cell? w _ hw193_4)).trans hw193_4), ((HB.out.cell (World.block_lt_of_cell? w _ hw193_5)).trans hw193_5), ((HB.out.cell (World.block_lt_of_cell? w _ hw193_6)).trans hw193_6), ((HB.out.cell (World.block_lt_of_cell? w _ hw194_0)).trans hw194_0), ((HB.out.cell (World.block_lt_of_cell? w _ hw194_1)).trans hw194_1), ((HB.out.cell (World.block_lt_of_cell? w _ hw194_2)).trans hw194_2), ((HB.out.cell (World.block_lt_of_cell? w _ hw194_3)).trans hw194_3), ((HB.out.cell (World.block_lt_of_cell? w _ hw194_4)).trans hw194_4), ((HB.out.cell (World.block_lt_of_cell? w _ hw194_5)).trans hw194_5), ((HB.out.cell (World.block_lt_of_cell? w _ hw194_6)).trans hw194_6)⟩ (fun hHeld => ?_); refine with_tabW tithebarnref23_Same.tab6 tithebarnref23_Same.bits6 (fun HT_ HW_ => ?_)
                    generalize wr.drew = w29 at BK191 BK192 HB HR193_6 HR194_6 hx193_0 hx193_1 hx193_2 hx193_3 hx193_4 hx193_5 hx193_6 hx194_0 hx194_1 hx194_2 hx194_3 hx194_4 hx194_5 hx194_6 hHeld ⊢
                    refine pure_ (i := 0) (N := some 34) (v := ?_) (a' := ?_) #[true, false, false, false, false, false, false, false, false, false, false, false] rfl rfl (any_of HT_.out (by kernel_rfl)) (fun _ _ _ h => h) (Or.inl ⟨by rfl, ?_⟩) ?_ ?_
                    rotate_left
                    · intro w'
                      go_simp
                      with_reducible rfl
                    rotate_left
                    · simp only [Act.put, List.setIfInBounds_toArray, List.set_cons_zero, List.set_cons_succ, i64_w, i32_w]
                      rfl
                    refine pure_ (i := 2) (N := some 36) (v := ?_) (a' := ?_) #[true, false, true, false, false, false, false, false, false, false, false, false] rfl rfl (any_of HT_.out (by kernel_rfl)) (fun _ _ _ h => h) (Or.inl ⟨by rfl, ?_⟩) ?_ ?_
                    rotate_left
                    · intro w'
                      go_simp
                      with_reducible rfl
                    rotate_left
                    · simp only [Act.put, List.setIfInBounds_toArray, List.set_cons_zero, List.set_cons_succ, i64_w, i32_w]
                      rfl
                    refine pure_ (i := 5) (N := some 39) (v := ?_) (a' := ?_) #[true, false, true, false, false, true, false, false, false, false, false, false] rfl rfl (any_of HT_.out (by kernel_rfl)) (fun _ _ _ h => h) (Or.inl ⟨by rfl, ?_⟩) ?_ ?_
                    rotate_left
                    · intro w'
                      go_simp
                      with_reducible rfl
                    rotate_left
                    · simp only [Act.put, List.setIfInBounds_toArray, List.set_cons_zero, List.set_cons_succ, i64_w, i32_w]
                      rfl
                    refine pure_ (i := 7) (N := some 41) (v := ?_) (a' := ?_) #[true, false, true, false, false, true, false, true, false, false, false, false] rfl rfl (any_of HT_.out (by kernel_rfl)) (fun _ _ _ h => h) (Or.inl ⟨by rfl, ?_⟩) ?_ ?_
                    rotate_left
                    · intro w'
                      go_simp
                      with_reducible rfl
                    rotate_left
                    · simp only [Act.put, List.setIfInBounds_toArray, List.set_cons_zero, List.set_cons_succ, i64_w, i32_w]
                      rfl
                    refine take_ (i := 1) (N := some 35) (v := ?_) (a' := ?_) #[true, true, true, false, false, true, false, true, false, false, false, false] rfl rfl (take_ofW HT_.out HW_.out (by kernel_rfl)) (fun _ _ _ h => h) (Or.inl ⟨by rfl, ?_⟩) hHeld ?_ ?_
                    rotate_left
                    · rintro w' ⟨s0, s1, s2, s3, s4, s5, s6, s7, s8, s9, s10, s11, s12, s13, s14, s15, s16, s17, s18, s19, s20, s21, s22, s23, s24, s25, s26, s27⟩
                      go_simp
                      with_reducible rfl
                    rotate_left
                    · simp only [Act.put, List.setIfInBounds_toArray, List.set_cons_zero, List.set_cons_succ, i64_w, i32_w]
                      rfl
                    refine pure_ (i := 3) (N := some 37) (v := ?_) (a' := ?_) #[true, true, true, true, false, true, false, true, false, false, false, false] rfl rfl (any_of HT_.out (by kernel_rfl)) (fun _ _ _ h => h) (Or.inl ⟨by rfl, ?_⟩) ?_ ?_
                    rotate_left
                    · intro w'
                      go_simp
                      with_reducible rfl
                    rotate_left
                    · simp only [Act.put, List.setIfInBounds_toArray, List.set_cons_zero, List.set_cons_succ, i64_w, i32_w]
                      rfl
                    refine take_ (i := 4) (N := some 38) (v := ?_) (a' := ?_) #[true, true, true, true, true, true, false, true, false, false, false, false] rfl rfl (take_ofW HT_.out HW_.out (by kernel_rfl)) (fun _ _ _ h => h) (Or.inl ⟨by rfl, ?_⟩) hHeld ?_ ?_
                    rotate_left
                    · rintro w' ⟨s0, s1, s2, s3, s4, s5, s6, s7, s8, s9, s10, s11, s12, s13, s14, s15, s16, s17, s18, s19, s20, s21, s22, s23, s24, s25, s26, s27⟩
                      go_simp
                      with_reducible rfl
                    rotate_left
                    · simp only [Act.put, List.setIfInBounds_toArray, List.set_cons_zero, List.set_cons_succ, i64_w, i32_w]
                      rfl
                    refine take_ (i := 6) (N := some 40) (v := ?_) (a' := ?_) #[true, true, true, true, true, true, true, true, false, false, false, false] rfl rfl (take_ofW HT_.out HW_.out (by kernel_rfl)) (fun _ _ _ h => h) (Or.inl ⟨by rfl, ?_⟩) hHeld ?_ ?_
                    rotate_left
                    · rintro w' ⟨s0, s1, s2, s3, s4, s5, s6, s7, s8, s9, s10, s11, s12, s13, s14, s15, s16, s17, s18, s19, s20, s21, s22, s23, s24, s25, s26, s27⟩
                      go_simp
                      with_reducible rfl
                    rotate_left
                    · simp only [Act.put, List.setIfInBounds_toArray, List.set_cons_zero, List.set_cons_succ, i64_w, i32_w]
                      rfl
                    refine pure_ (i := 8) (N := some 42) (v := ?_) (a' := ?_) #[true, true, true, true, true, true, true, true, true, false, false, false] rfl rfl (any_of HT_.out (by kernel_rfl)) (fun _ _ _ h => h) (Or.inl ⟨by rfl, ?_⟩) ?_ ?_
                    rotate_left
                    · intro w'
                      go_simp
                      with_reducible rfl
                    rotate_left
                    · simp only [Act.put, List.setIfInBounds_toArray, List.set_cons_zero, List.set_cons_succ, i64_w, i32_w]
                      rfl
                    refine take_ (i := 9) (N := some 43) (v := ?_) (a' := ?_) #[true, true, true, true, true, true, true, true, true, true, false, false] rfl rfl (take_ofW HT_.out HW_.out (by kernel_rfl)) (fun _ _ _ h => h) (Or.inl ⟨by rfl, ?_⟩) hHeld ?_ ?_
                    rotate_left
                    · rintro w' ⟨s0, s1, s2, s3, s4, s5, s6, s7, s8, s9, s10, s11, s12, s13, s14, s15, s16, s17, s18, s19, s20, s21, s22, s23, s24, s25, s26, s27⟩
                      go_simp
                      with_reducible rfl
                    rotate_left
                    · simp only [Act.put, List.setIfInBounds_toArray, List.set_cons_zero, List.set_cons_succ, i64_w, i32_w]
                      rfl
                    refine one_ (i := 10) (N := some 44) #[true, true, true, true, true, true, true, true, true, true, true, false] rfl rfl (one_of HT_.out (by kernel_rfl)) (by decide) (fun K hK => ?_)
                    refine goes_ Tryd.func14 (by kernel_rfl) rfl #[.agg #[.int .i64 ((rd_T28 l0_6 x5_2).f0), .int .i64 ((rd_T28 l0_6 x5_2).f1.f0), .int .i64 ((rd_T28 l0_6 x5_2).f1.f1), .bool ((rd_T28 l0_6 x5_2).f1.f2.f0), .int .i64 ((rd_T28 l0_6 x5_2).f1.f2.f1), .string ((rd_T28 l0_6 x5_2).f1.f2.f2), .slice A193_6 ((rd_T28 l0_6 x5_2).f2).length c193_6], .agg #[.int .i64 ((rd_T28 l1_6 x5_2).f0), .int .i64 ((rd_T28 l1_6 x5_2).f1.f0), .int .i64 ((rd_T28 l1_6 x5_2).f1.f1), .bool ((rd_T28 l1_6 x5_2).f1.f2.f0), .int .i64 ((rd_T28 l1_6 x5_2).f1.f2.f1), .string ((rd_T28 l1_6 x5_2).f1.f2.f2), .slice A194_6 ((rd_T28 l1_6 x5_2).f2).length c194_6]] (by rfl) rfl rfl (by (try simp only [List.map_toArray, List.map_cons, List.map_nil]); first | done | rfl | (simp only [List.length_drop, List.length_take]; rfl)) ?_
                    with_reducible refine (ih k2 (by have := HJ2.out; have := HK2.out; omega) ((rd_T28 l0_6 x5_2).f0) ((rd_T28 l0_6 x5_2).f1.f0) ((rd_T28 l0_6 x5_2).f1.f1) ((rd_T28 l0_6 x5_2).f1.f2.f0) ((rd_T28 l0_6 x5_2).f1.f2.f1) ((rd_T28 l0_6 x5_2).f1.f2.f2) _ _ ((rd_T28 l0_6 x5_2).f2) ((rd_T28 l1_6 x5_2).f0) ((rd_T28 l1_6 x5_2).f1.f0) ((rd_T28 l1_6 x5_2).f1.f1) ((rd_T28 l1_6 x5_2).f1.f2.f0) ((rd_T28 l1_6 x5_2).f1.f2.f1) ((rd_T28 l1_6 x5_2).f1.f2.f2) _ _ ((rd_T28 l1_6 x5_2).f2) false _ ?side1 ?side2 ?side3 ?side4 A21.out).mono ?_
                    (case side1 => repeat (first | exact (Kd.C_below HR193_6.out HB.out) | (with_reducible refine Kd.C_alloc ?_ _) | (with_reducible refine Kd.C_drewN ?_ _) | (with_reducible refine Kd.C_drew ?_)))
                    (case side2 => exact HC193_6.out)
                    (case side3 => repeat (first | exact (Kd.C_below HR194_6.out HB.out) | (with_reducible refine Kd.C_alloc ?_ _) | (with_reducible refine Kd.C_drewN ?_ _) | (with_reducible refine Kd.C_drew ?_)))
                    (case side4 => exact HC194_6.out)
                    rintro e w30 ⟨rfl, hb⟩
                    refine ⟨_, rfl, ?_⟩
                    have n0_ := Aside0.mk (blk_below (g := gb191) (o := .cells #[.int .i64 a0_0, .int .i64 a0_1, .int .i64 a0_2, .bool a0_3, .int .i64 a0_4, .string a0_5, .slice (some ad193) l0_6.length c0_6] 28 (0, 0)) (by (with_reducible repeat (first | refine blk_drewN ?_ _ | refine blk_drew ?_ | refine blk_alloc ?_ _)); exact BK191.out) hb)
                    have n1_ := Aside0.mk (blk_below (g := gb192) (o := .cells #[.int .i64 a1_0, .int .i64 a1_1, .int .i64 a1_2, .bool a1_3, .int .i64 a1_4, .string a1_5, .slice (some ad194) l1_6.length c1_6] 28 (0, 0)) (by (with_reducible repeat (first | refine blk_drewN ?_ _ | refine blk_drew ?_ | refine blk_alloc ?_ _)); exact BK192.out) hb)
                    have n2_ := Aside0.mk (below_step (by repeat (first | (with_reducible first | exact HB.out | apply below_alloc | apply pw_below_drewN | apply below_drew1 | refine below_set ?_ GE191.out | refine below_set ?_ GE192.out) | exact HB.out)) hb)
                    clear BK191
                    clear BK192
                    clear HB
                    have BK191 := n0_
                    have BK192 := n1_
                    have HB := n2_
                    clear n0_ n1_ n2_
                    (try clear hb)
                    (try clear hb2)
                    (try clear hk)
                    (try clear hi)
                    refine hK.out _ _ ⟨(blk_cell BK191.out 0).trans rfl, (blk_cell BK191.out 1).trans rfl, (blk_cell BK191.out 2).trans rfl, (blk_cell BK191.out 3).trans rfl, (blk_cell BK191.out 4).trans rfl, (blk_cell BK191.out 5).trans rfl, (blk_cell BK191.out 6).trans rfl, (blk_cell BK192.out 0).trans rfl, (blk_cell BK192.out 1).trans rfl, (blk_cell BK192.out 2).trans rfl, (blk_cell BK192.out 3).trans rfl, (blk_cell BK192.out 4).trans rfl, (blk_cell BK192.out 5).trans rfl, (blk_cell BK192.out 6).trans rfl, ((HB.out.cell (World.block_lt_of_cell? w _ hw193_0)).trans hw193_0), ((HB.out.cell (World.block_lt_of_cell? w _ hw193_1)).trans hw193_1), ((HB.out.cell (World.block_lt_of_cell? w _ hw193_2)).trans hw193_2), ((HB.out.cell (World.block_lt_of_cell? w _ hw193_3)).trans hw193_3), ((HB.out.cell (World.block_lt_of_cell? w _ hw193_4)).trans hw193_4), ((HB.out.cell (World.block_lt_of_cell? w _ hw193_5)).trans hw193_5), ((HB.out.cell (World.block_lt_of_cell? w _ hw193_6)).trans hw193_6), ((HB.out.cell (World.block_lt_of_cell? w _ hw194_0)).trans hw194_0), ((HB.out.cell (World.block_lt_of_cell? w _ hw194_1)).trans hw194_1), ((HB.out.cell (World.block_lt_of_cell? w _ hw194_2)).trans hw194_2), ((HB.out.cell (World.block_lt_of_cell? w _ hw194_3)).trans hw194_3), ((HB.out.cell (World.block_lt_of_cell? w _ hw194_4)).trans hw194_4), ((HB.out.cell (World.block_lt_of_cell? w _ hw194_5)).trans hw194_5), ((HB.out.cell (World.block_lt_of_cell? w _ hw194_6)).trans hw194_6)⟩ (fun hHeld => ?_)
                    clear hK K
                    refine norm_ (a' := ?_) ?_ ?_
                    rotate_left
                    · show Act.put _ (some 44) _ = _
                      simp only [Act.put, List.setIfInBounds_toArray, List.set_cons_zero, List.set_cons_succ, i64_w, i32_w]
                      rfl
                    refine pure_ (i := 11) (N := some 45) (v := ?_) (a' := ?_) #[true, true, true, true, true, true, true, true, true, true, true, true] rfl rfl (any_of HT_.out (by kernel_rfl)) (fun _ _ _ h => h) (Or.inl ⟨by rfl, ?_⟩) ?_ ?_
                    rotate_left
                    · intro w'
                      go_simp
                      with_reducible rfl
                    rotate_left
                    · simp only [Act.put, List.setIfInBounds_toArray, List.set_cons_zero, List.set_cons_succ, i64_w, i32_w]
                      rfl
                    refine done_ (done_of HT_.out (by kernel_rfl)) ?_
                    try go_wp2
                    go_ret
                    exact ⟨by first | rfl | (simp [errW_none, errW_some] <;> rfl) | (simp [*, errW_none, errW_some] <;> rfl), by repeat (first | (with_reducible first | exact HB.out | apply below_alloc | apply pw_below_drewN | apply below_drew1 | refine below_set ?_ GE191.out | refine below_set ?_ GE192.out) | exact HB.out)⟩
                · rw [if_neg c20] at H
                  exact absurd H (by simp)
              · rw [if_neg c19] at H
                exact absurd H (by simp)
            · rw [if_neg c18] at H
              have c18b0 : decide (x5_2 < (l0_6.length : Int)) = false := decide_eq_false c18
              clear c18
              obtain rfl := Option.some.inj H
              have hnb31 := NB191_192.out
              have hnc31 := NB192_191.out
              have hcz32_0 : wr.cell? ⟨gb191, 0, none⟩ = some (.int .i64 a0_0) := (blk_cell BK191.out 0).trans rfl
              have hcz32_1 : wr.cell? ⟨gb191, 1, none⟩ = some (.int .i64 a0_1) := (blk_cell BK191.out 1).trans rfl
              have hcz32_2 : wr.cell? ⟨gb191, 2, none⟩ = some (.int .i64 a0_2) := (blk_cell BK191.out 2).trans rfl
              have hcz32_3 : wr.cell? ⟨gb191, 3, none⟩ = some (.bool a0_3) := (blk_cell BK191.out 3).trans rfl
              have hcz32_4 : wr.cell? ⟨gb191, 4, none⟩ = some (.int .i64 a0_4) := (blk_cell BK191.out 4).trans rfl
              have hcz32_5 : wr.cell? ⟨gb191, 5, none⟩ = some (.string a0_5) := (blk_cell BK191.out 5).trans rfl
              have hcz32_6 : wr.cell? ⟨gb191, 6, none⟩ = some (.slice A0_6 l0_6.length c0_6) := (blk_cell BK191.out 6).trans rfl
              have hfz32_0 := blk_frozen BK191.out 0
              have hfz32_1 := blk_frozen BK191.out 1
              have hfz32_2 := blk_frozen BK191.out 2
              have hfz32_3 := blk_frozen BK191.out 3
              have hfz32_4 := blk_frozen BK191.out 4
              have hfz32_5 := blk_frozen BK191.out 5
              have hfz32_6 := blk_frozen BK191.out 6
              go_wp2
              go_ret
              exact ⟨by first | rfl | (simp [errW_none, errW_some] <;> rfl) | (simp [*, errW_none, errW_some] <;> rfl), by repeat (first | (with_reducible first | exact HB.out | apply below_alloc | apply pw_below_drewN | apply below_drew1 | refine below_set ?_ GE191.out | refine below_set ?_ GE192.out) | exact HB.out)⟩

end Go.Proofs.YtglcajijmkianaaDoor.A
