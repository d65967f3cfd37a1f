/- Words and walks that the print wrote for this claim: those that the claim leans on (wip/shake.py). -/
import Derived.Test.YteddgkkggjfmpaaGreatDoorKjAx0
import Derived.Test.YteddgkkggjfmpaaGreatDoorKjAx1
import Derived.Test.YteddgkkggjfmpaaGreatDoorKjAx16
import Derived.Test.YteddgkkggjfmpaaGreatDoorKjAx24
import Derived.Test.YteddgkkggjfmpaaGreatDoorKjHU
namespace Go.Proofs.YteddgkkggjfmpaaGreatDoor.A
open Go.RowKit Go.Proofs.YteddgkkggjfmpaaGreatDoorW.PrintWords Go.Proofs.YteddgkkggjfmpaaGreatDoorW.PrintLast Go.Proofs.YteddgkkggjfmpaaGreatDoorW.PrintMore
set_option linter.unusedVariables false
set_option linter.unusedSimpArgs false
attribute [local go_sem high] eqA46
mutual
def tithebarnref07_Write.l0 : Nat → List (S44) → ByteArray → Int → Bool → List (S46) → Option (ByteArray × Int)
  | 0, _, _, _, _, _ => none
  | k + 1, x0, x7, x8, x379000, x379001 => if x8 < (x379001.length : Int) then (if 0 ≤ x8 then (if x8 < (x0.length : Int) then (if (rd_T44 x0 x8).f1 = true then ((tithebarnref07_flag.f ((rd_T46 x379001 x8).f0)).bind fun t384 => (if x7.size + t384.size ≤ 9223372036854775807 then (tithebarnref07_Write.j1 k x0 (x7 ++ t384) x8 x379000 x379001 ((rd_T46 x379001 x8).f0) ((rd_T46 x379001 x8).f1) ((rd_T46 x379001 x8).f2)) else (none))) else (tithebarnref07_Write.j1 k x0 x7 x8 x379000 x379001 ((rd_T46 x379001 x8).f0) ((rd_T46 x379001 x8).f1) ((rd_T46 x379001 x8).f2))) else (none)) else (none)) else (some (x7, 0))
def tithebarnref07_Write.j1 : Nat → List (S44) → ByteArray → Int → Bool → List (S46) → Bool → Int → ByteArray → Option (ByteArray × Int)
  | 0, _, _, _, _, _, _, _, _ => none
  | k + 1, x0, x7, x8, x379000, x379001, x383000, x383001, x383002 => if x383000 = true then (tithebarnref07_Write.l0 k x0 x7 (wrap64 (x8 + 1)) x379000 x379001) else (if 0 ≤ x8 then (if x8 < (x0.length : Int) then (if ((rd_T44 x0 x8).f0) = 1 then ((tithebarnref01_Int.f x383001).bind fun t386 => (if x7.size + t386.size ≤ 9223372036854775807 then (tithebarnref07_Write.l0 k x0 (x7 ++ t386) (wrap64 (x8 + 1)) x379000 x379001) else (none))) else ((tithebarnref01_Text.f x383002).bind fun t387 => (if x7.size + t387.size ≤ 9223372036854775807 then (tithebarnref07_Write.l0 k x0 (x7 ++ t387) (wrap64 (x8 + 1)) x379000 x379001) else (none)))) else (none)) else (none))
end
def tithebarnref07_Write.f (k : Nat) (l0 : List (S44)) (a1_0 : Bool) (l1_1 : List (S46)) : Option (ByteArray × Int) := (tithebarnref07_Fits.f k l0 a1_0 l1_1).bind fun t379 => (if t379 = 0 then ((tithebarnref07_flag.f a1_0).bind fun t380 => (tithebarnref07_Write.l0 k l0 t380 0 a1_0 l1_1)) else (some ((⟨#[]⟩ : ByteArray), t379)))
set_option maxHeartbeats 8000000 in
set_option maxRecDepth 100000 in
theorem tithebarnref07_Write.calls (k : Nat) (A0 : Option Addr) (c0 : Nat) (l0 : List (S44)) (a1_0 : Bool) (A1_1 : Option Addr) (c1_1 : Nat) (l1_1 : List (S46)) (r1 : ByteArray) (r2 : Int) (w : World) (hr0 : Kd.C k44 w A0 l0.length l0) (hc0 : l0.length ≤ c0) (hr1_1 : Kd.C k46 w A1_1 l1_1.length l1_1) (hc1_1 : l1_1.length ≤ c1_1) (h : tithebarnref07_Write.f k l0 a1_0 l1_1 = some (r1, r2)) :
    Calls Tryz.prog 24 #[.slice A0 l0.length c0, .agg #[.bool a1_0, .slice A1_1 l1_1.length c1_1]] w fun e w' => e = .returned (.tuple #[.string r1, .int .i64 r2]) ∧ Below w.heap.size w w' := by
  have hu26 := Tryz.underlying26
  have hu46 := Tryz.underlying46
  have HR0 := Aside0.mk hr0
  have HC0 := Aside0.mk hc0
  clear hr0 hc0
  have HR1_1 := Aside0.mk hr1_1
  have HC1_1 := Aside0.mk hc1_1
  clear hr1_1 hc1_1
  have HB := Aside0.mk (Below.refl w.heap.size w)
  have H : ((tithebarnref07_Fits.f k l0 a1_0 l1_1).bind fun t379 => (if t379 = 0 then ((tithebarnref07_flag.f a1_0).bind fun t380 => (tithebarnref07_Write.l0 k l0 t380 0 a1_0 l1_1)) else (some ((⟨#[]⟩ : ByteArray), t379)))) = some (r1, r2) := h
  clear h
  replace H := Option.bind_eq_some_iff.mp H
  obtain ⟨t379, A30, H⟩ := H
  replace H : (if t379 = 0 then ((tithebarnref07_flag.f a1_0).bind fun t380 => (tithebarnref07_Write.l0 k l0 t380 0 a1_0 l1_1)) else (some ((⟨#[]⟩ : ByteArray), t379))) = some (r1, r2) := H
  have A3 := Aside0.mk A30
  clear A30
  by_cases c4 : t379 = 0
  · rw [if_pos c4] at H
    have c4b0 : (t379 == 0) = true := beq_iff_eq.mpr c4
    have c4b1 : (t379 != 0) = false := bne_eq_false_iff_eq.mpr c4
    clear c4
    replace H := Option.bind_eq_some_iff.mp H
    obtain ⟨t380, A50, H⟩ := H
    replace H : (tithebarnref07_Write.l0 k l0 t380 0 a1_0 l1_1) = some (r1, r2) := H
    have A5 := Aside0.mk A50
    clear A50
    have H' := Aside0.mk H
    clear H
    go_enter Tryz.func24, Tryz.ntmps24
    go_wp2_with (first | ((with_reducible refine gate_dst (N := 3) rfl ?_); refine box_event ?hg (N := 3) ?hd (cs := #[.bool a1_0, .slice A1_1 l1_1.length c1_1]) (t := 26) ?hr ?_; (case hd => rfl); (case hg => rfl); (case hr => first | (go_simp; done) | (go_simp; rfl)); intro gb378 hg w6 hbox hb; have n0_ := Aside0.mk (below_step (by repeat (first | (with_reducible first | exact HB.out | apply below_alloc | apply pw_below_drewN | apply below_drew1) | exact HB.out)) hb); have n1_ := Aside0.mk (hbox); have n2_ := Aside0.mk ((by rw [hg]; exact (below_size (by repeat (first | (with_reducible first | exact HB.out | apply below_alloc | apply pw_below_drewN | apply below_drew1) | exact HB.out))) : w.heap.size ≤ gb378)); have n3_ := Aside0.mk ((by rw [hg]; exact (below_size (by repeat (first | (with_reducible first | exact HB.out | apply below_alloc | apply pw_below_drewN | apply below_drew1) | exact HB.out))) : w.heap.size ≤ gb378)); clear HB; have HB := n0_; have BK378 := n1_; have GW378 := n2_; have GE378 := n3_; clear n0_ n1_ n2_ n3_; clear hb hbox hg; have hcz7_0 : w6.cell? ⟨gb378, 0, none⟩ = some (.bool a1_0) := (blk_cell BK378.out 0).trans rfl; have hcz7_1 : w6.cell? ⟨gb378, 1, none⟩ = some (.slice A1_1 l1_1.length c1_1) := (blk_cell BK378.out 1).trans rfl; have hfz7_0 := blk_frozen BK378.out 0; have hfz7_1 := blk_frozen BK378.out 1) | ((with_reducible refine gate_callee (f := 53) rfl ?_); refine goesL_ (some 12) rfl rfl Tryz.func53 (by kernel_rfl) rfl #[.slice A0 l0.length c0, .agg #[.bool a1_0, .slice A1_1 l1_1.length c1_1]] rfl (by (try simp only [List.map_toArray, List.map_cons, List.map_nil]); first | done | rfl | (simp only [List.length_drop, List.length_take]; rfl)) ?_; (with_reducible refine (tithebarnref07_Fits.calls k _ _ l0 a1_0 _ _ l1_1 t379 _ ?side1 ?side2 ?side3 ?side4 A3.out).mono ?_); (case side1 => repeat (first | exact (Kd.C_below HR0.out HB.out) | (with_reducible refine Kd.C_alloc ?_ _) | (with_reducible refine Kd.C_drewN ?_ _) | (with_reducible refine Kd.C_drew ?_))); (case side2 => exact HC0.out); (case side3 => repeat (first | exact (Kd.C_below HR1_1.out HB.out) | (with_reducible refine Kd.C_alloc ?_ _) | (with_reducible refine Kd.C_drewN ?_ _) | (with_reducible refine Kd.C_drew ?_))); (case side4 => exact HC1_1.out); rintro e w8 ⟨rfl, hb⟩; refine ⟨_, rfl, ?_⟩; have n0_ := Aside0.mk (blk_below (g := gb378) (o := .cells #[.bool a1_0, .slice A1_1 l1_1.length c1_1] 26 (0, 0)) (by (with_reducible repeat (first | refine blk_drewN ?_ _ | refine blk_drew ?_ | refine blk_alloc ?_ _)); exact BK378.out) hb); have n1_ := Aside0.mk (below_step (by repeat (first | (with_reducible first | exact HB.out | apply below_alloc | apply pw_below_drewN | apply below_drew1 | refine below_set ?_ GE378.out) | exact HB.out)) hb); clear BK378; clear HB; have BK378 := n0_; have HB := n1_; clear n0_ n1_; (try clear hb); (try clear hb2); (try clear hk); (try clear hi); have hcz9_0 : w8.cell? ⟨gb378, 0, none⟩ = some (.bool a1_0) := (blk_cell BK378.out 0).trans rfl; have hcz9_1 : w8.cell? ⟨gb378, 1, none⟩ = some (.slice A1_1 l1_1.length c1_1) := (blk_cell BK378.out 1).trans rfl; have hfz9_0 := blk_frozen BK378.out 0; have hfz9_1 := blk_frozen BK378.out 1) | ((with_reducible refine gate_callee (f := 54) rfl ?_); refine goesL_ (some 18) rfl rfl Tryz.func54 (by kernel_rfl) rfl #[.bool a1_0] rfl (by (try simp only [List.map_toArray, List.map_cons, List.map_nil]); first | done | rfl | (simp only [List.length_drop, List.length_take]; rfl)) ?_; (with_reducible refine (tithebarnref07_flag.calls a1_0 t380 _ A5.out).mono ?_); rintro e w' ⟨rfl, ⟨nd, rfl⟩⟩; refine ⟨_, rfl, ?_⟩))
    go_loopg [7, 8] k (fun kq v7 v8 w' => ∃ (x7_1 : ByteArray) (x8_1 : Int), v7 = .string x7_1 ∧ v8 = .int .i64 x8_1 ∧ Aside0 (tithebarnref07_Write.l0 kq l0 x7_1 x8_1 a1_0 l1_1 = some (r1, r2)) ∧ Aside0 (kq ≤ k) ∧ Aside0 (w'.heap[gb378]? = some (.cells #[.bool a1_0, (.slice A1_1 l1_1.length c1_1)] 26 (0, 0))) ∧ Aside0 (Below w.heap.size w w'))
    case atStart => exact ⟨(t380), (0), (by first | rfl | (simp; done) | (simp [*]; done)), (by first | rfl | (simp; done) | (simp [*]; done)), H', ⟨Nat.le_refl _⟩, ⟨by (with_reducible repeat (first | refine blk_drewN ?_ _ | refine blk_drew ?_ | refine blk_alloc ?_ _)); exact BK378.out⟩, ⟨by repeat (first | (with_reducible first | exact HB.out | apply below_alloc | apply pw_below_drewN | apply below_drew1 | refine below_set ?_ GE378.out) | exact HB.out)⟩⟩
    case round =>
      clear H'
      try clear c1
      try clear c2
      try clear p2
      try clear c4
      try clear c4b0
      try clear c4b1
      try clear c5
      try clear hcz7_0
      try clear hcz7_1
      try clear hcz9_0
      try clear hcz9_1
      try clear hfz7_0
      try clear hfz7_1
      try clear hfz9_0
      try clear hfz9_1
      obtain ⟨x7_1, x8_1, rfl, rfl, HA, HK1, BK378, HB⟩ := hrel
      cases gk with
      | zero => exact absurd HA.out (by simp [tithebarnref07_Write.l0])
      | succ k1 =>
        have H := HA.out
        clear HA
        simp only [tithebarnref07_Write.l0] at H
        by_cases c10 : x8_1 < (l1_1.length : Int)
        · rw [if_pos c10] at H
          have c10b0 : decide (x8_1 < (l1_1.length : Int)) = true := decide_eq_true c10
          clear c10
          by_cases c11 : 0 ≤ x8_1
          · rw [if_pos c11] at H
            have c11b0 : decide (0 ≤ x8_1) = true := decide_eq_true c11
            clear c11
            by_cases c12 : x8_1 < (l0.length : Int)
            · rw [if_pos c12] at H
              have c12b0 : decide (x8_1 < (l0.length : Int)) = true := decide_eq_true c12
              clear c12
              have HC13 := Aside0.mk H
              clear H
              have hcz14_0 : wr.cell? ⟨gb378, 0, none⟩ = some (.bool a1_0) := (blk_cell BK378.out 0).trans rfl
              have hcz14_1 : wr.cell? ⟨gb378, 1, none⟩ = some (.slice A1_1 l1_1.length c1_1) := (blk_cell BK378.out 1).trans rfl
              have hfz14_0 := blk_frozen BK378.out 0
              have hfz14_1 := blk_frozen BK378.out 1
              have p381 : 0 ≤ (x8_1 : Int) := of_decide_eq_true (by first | (with_reducible assumption) | assumption)
              have q381 : x8_1 < (l1_1.length : Int) := of_decide_eq_true (by first | (with_reducible assumption) | assumption)
              obtain ⟨ad381, e381, hx381_0, hx381_1, hx381_2⟩ := at_T46 HR1_1.out x8_1 p381 q381
              cases e381
              replace hx381_0 := (HB.out.cell (World.block_lt_of_cell? w _ hx381_0)).trans hx381_0
              replace hx381_1 := (HB.out.cell (World.block_lt_of_cell? w _ hx381_1)).trans hx381_1
              replace hx381_2 := (HB.out.cell (World.block_lt_of_cell? w _ hx381_2)).trans hx381_2
              replace p381 := eq_true p381
              replace q381 := eq_true q381
              go_upto_if 35 with (first | ((with_reducible refine gate_dst (N := 9) rfl ?_); refine box_event ?hg (N := 9) ?hd (cs := #[.bool false, .int .i64 0, .string (⟨#[]⟩ : ByteArray)]) (t := 46) ?hr ?_; (case hd => rfl); (case hg => rfl); (case hr => first | (go_simp; done) | (go_simp; rfl)); intro gb382 hg w15 hbox hb; have n0_ := Aside0.mk (blk_below (g := gb378) (o := .cells #[.bool a1_0, .slice (some ad381) l1_1.length c1_1] 26 (0, 0)) (by (with_reducible repeat (first | refine blk_drewN ?_ _ | refine blk_drew ?_ | refine blk_alloc ?_ _)); exact BK378.out) hb); have n1_ := Aside0.mk (below_step (by repeat (first | (with_reducible first | exact HB.out | apply below_alloc | apply pw_below_drewN | apply below_drew1 | refine below_set ?_ GE378.out) | exact HB.out)) hb); have n2_ := Aside0.mk (hbox); have n3_ := Aside0.mk ((by rw [hg]; exact (below_size (by repeat (first | (with_reducible first | exact HB.out | apply below_alloc | apply pw_below_drewN | apply below_drew1 | refine below_set ?_ GE378.out) | exact HB.out))) : w.heap.size ≤ gb382)); have n4_ := Aside0.mk ((by rw [hg]; exact (below_size (by repeat (first | (with_reducible first | exact HB.out | apply below_alloc | apply pw_below_drewN | apply below_drew1 | refine below_set ?_ GE378.out) | exact HB.out))) : w.heap.size ≤ gb382)); have n5_ := Aside0.mk ((by rw [hg]; exact Nat.ne_of_lt (blk_lt (g := gb378) (o := .cells #[.bool a1_0, .slice (some ad381) l1_1.length c1_1] 26 (0, 0)) (by (with_reducible repeat (first | refine blk_drewN ?_ _ | refine blk_drew ?_ | refine blk_alloc ?_ _)); exact BK378.out)) : gb378 ≠ gb382)); have n6_ := Aside0.mk ((by rw [hg]; exact Nat.ne_of_gt (blk_lt (g := gb378) (o := .cells #[.bool a1_0, .slice (some ad381) l1_1.length c1_1] 26 (0, 0)) (by (with_reducible repeat (first | refine blk_drewN ?_ _ | refine blk_drew ?_ | refine blk_alloc ?_ _)); exact BK378.out)) : gb382 ≠ gb378)); clear BK378; clear HB; have BK378 := n0_; have HB := n1_; have BK382 := n2_; have GW382 := n3_; have GE382 := n4_; have NB378_382 := n5_; have NB382_378 := n6_; clear n0_ n1_ n2_ n3_ n4_ n5_ n6_; clear hb hbox hg; have hnb16 := NB382_378.out; have hnc16 := NB378_382.out; have hcz17_0 : w15.cell? ⟨gb382, 0, none⟩ = some (.bool false) := (blk_cell BK382.out 0).trans rfl; have hcz17_1 : w15.cell? ⟨gb382, 1, none⟩ = some (.int .i64 0) := (blk_cell BK382.out 1).trans rfl; have hcz17_2 : w15.cell? ⟨gb382, 2, none⟩ = some (.string (⟨#[]⟩ : ByteArray)) := (blk_cell BK382.out 2).trans rfl; have hfz17_0 := blk_frozen BK382.out 0; have hfz17_1 := blk_frozen BK382.out 1; have hfz17_2 := blk_frozen BK382.out 2; have p383 : 0 ≤ (x8_1 : Int) := of_decide_eq_true (by first | (with_reducible assumption) | assumption); have q383 : x8_1 < (l0.length : Int) := of_decide_eq_true (by first | (with_reducible assumption) | assumption); obtain ⟨ad383, e383, hx383_0, hx383_1⟩ := at_T44 HR0.out x8_1 p383 q383; cases e383; have hn383_0 : ad383.block ≠ gb382 := Nat.ne_of_lt (Nat.lt_of_lt_of_le (by have := World.block_lt_of_cell? _ _ hx383_0; first | rwa [add_block] at this | exact this) GW382.out); have hn383_1 : ad383.block ≠ gb382 := Nat.ne_of_lt (Nat.lt_of_lt_of_le (by have := World.block_lt_of_cell? _ _ hx383_0; first | rwa [add_block] at this | exact this) GW382.out); have hn383_2 : ad383.block ≠ gb382 := Nat.ne_of_lt (Nat.lt_of_lt_of_le (by have := World.block_lt_of_cell? _ _ hx383_0; first | rwa [add_block] at this | exact this) GW382.out); replace hx383_0 := (HB.out.cell (World.block_lt_of_cell? w _ hx383_0)).trans hx383_0; replace hx383_1 := (HB.out.cell (World.block_lt_of_cell? w _ hx383_1)).trans hx383_1; replace hx383_0 := (cell_far (p := ⟨gb382, 0, none⟩) (by first | (rw [add_block]; exact hn383_0) | (show (Addr.add _ _).block ≠ _; rw [add_block]; exact hn383_0) | exact hn383_0) (.bool ((rd_T46 l1_1 x8_1).f0))).trans hx383_0; replace hx383_1 := (cell_far (p := ⟨gb382, 0, none⟩) (by first | (rw [add_block]; exact hn383_0) | (show (Addr.add _ _).block ≠ _; rw [add_block]; exact hn383_0) | exact hn383_0) (.bool ((rd_T46 l1_1 x8_1).f0))).trans hx383_1; replace hx383_0 := (cell_far (p := ⟨gb382, 1, none⟩) (by first | (rw [add_block]; exact hn383_1) | (show (Addr.add _ _).block ≠ _; rw [add_block]; exact hn383_1) | exact hn383_1) (.int .i64 ((rd_T46 l1_1 x8_1).f1))).trans hx383_0; replace hx383_1 := (cell_far (p := ⟨gb382, 1, none⟩) (by first | (rw [add_block]; exact hn383_1) | (show (Addr.add _ _).block ≠ _; rw [add_block]; exact hn383_1) | exact hn383_1) (.int .i64 ((rd_T46 l1_1 x8_1).f1))).trans hx383_1; replace hx383_0 := (cell_far (p := ⟨gb382, 2, none⟩) (by first | (rw [add_block]; exact hn383_2) | (show (Addr.add _ _).block ≠ _; rw [add_block]; exact hn383_2) | exact hn383_2) (.string ((rd_T46 l1_1 x8_1).f2))).trans hx383_0; replace hx383_1 := (cell_far (p := ⟨gb382, 2, none⟩) (by first | (rw [add_block]; exact hn383_2) | (show (Addr.add _ _).block ≠ _; rw [add_block]; exact hn383_2) | exact hn383_2) (.string ((rd_T46 l1_1 x8_1).f2))).trans hx383_1; clear hn383_0; clear hn383_1; clear hn383_2; replace p383 := eq_true p383; replace q383 := eq_true q383))
              (try simp only [Act.put, List.setIfInBounds_toArray, List.set_cons_zero, List.set_cons_succ])
              go_cut [7] (fun v7 wc => ∃ (kq : Nat) (x7_12 : ByteArray), v7 = .string x7_12 ∧ Aside0 (tithebarnref07_Write.j1 kq l0 x7_12 x8_1 a1_0 l1_1 ((rd_T46 l1_1 x8_1).f0) ((rd_T46 l1_1 x8_1).f1) ((rd_T46 l1_1 x8_1).f2) = some (r1, r2)) ∧ Aside0 (kq ≤ k1) ∧ Aside0 (wc.heap[gb378]? = some (.cells #[.bool a1_0, (.slice (some ad381) l1_1.length c1_1)] 26 (0, 0))) ∧ Aside0 (wc.heap[gb382]? = some (.cells #[.bool ((rd_T46 l1_1 x8_1).f0), .int .i64 ((rd_T46 l1_1 x8_1).f1), .string ((rd_T46 l1_1 x8_1).f2)] 46 (0, 0))) ∧ Aside0 (Below w.heap.size w wc))
              case first =>
                have H := HC13.out
                clear HC13
                obtain ⟨bq18, hbq18⟩ : ∃ b_ : Bool, b_ = ((rd_T44 l0 x8_1).f1) := ⟨_, rfl⟩
                replace H : (if bq18 = true then ((tithebarnref07_flag.f ((rd_T46 l1_1 x8_1).f0)).bind fun t384 => (if x7_1.size + t384.size ≤ 9223372036854775807 then (tithebarnref07_Write.j1 k1 l0 (x7_1 ++ t384) x8_1 a1_0 l1_1 ((rd_T46 l1_1 x8_1).f0) ((rd_T46 l1_1 x8_1).f1) ((rd_T46 l1_1 x8_1).f2)) else (none))) else (tithebarnref07_Write.j1 k1 l0 x7_1 x8_1 a1_0 l1_1 ((rd_T46 l1_1 x8_1).f0) ((rd_T46 l1_1 x8_1).f1) ((rd_T46 l1_1 x8_1).f2))) = some (r1, r2) := by rw [← hbq18] at H; exact H
                have Nbq18 := Aside0.mk hbq18
                clear hbq18
                (try rw [← Nbq18.out])
                by_cases c19 : bq18 = true
                · subst c19
                  have H1 : ((tithebarnref07_flag.f ((rd_T46 l1_1 x8_1).f0)).bind fun t384 => (if x7_1.size + t384.size ≤ 9223372036854775807 then (tithebarnref07_Write.j1 k1 l0 (x7_1 ++ t384) x8_1 a1_0 l1_1 ((rd_T46 l1_1 x8_1).f0) ((rd_T46 l1_1 x8_1).f1) ((rd_T46 l1_1 x8_1).f2)) else (none))) = some (r1, r2) := by rw [if_pos rfl] at H; exact H
                  clear H
                  have H := H1
                  clear H1
                  replace H := Option.bind_eq_some_iff.mp H
                  obtain ⟨t384, A200, H⟩ := H
                  replace H : (if x7_1.size + t384.size ≤ 9223372036854775807 then (tithebarnref07_Write.j1 k1 l0 (x7_1 ++ t384) x8_1 a1_0 l1_1 ((rd_T46 l1_1 x8_1).f0) ((rd_T46 l1_1 x8_1).f1) ((rd_T46 l1_1 x8_1).f2)) else (none)) = some (r1, r2) := H
                  have A20 := Aside0.mk A200
                  clear A200
                  by_cases c21 : x7_1.size + t384.size ≤ 9223372036854775807
                  · rw [if_pos c21] at H
                    have c21b0 := eq_true c21
                    have c21b1 : decide (x7_1.size + t384.size ≤ 9223372036854775807) = true := decide_eq_true c21
                    try have c21b2 : (9223372036854775807 < x7_1.size + t384.size) = False := eq_false (Nat.not_lt.2 c21)
                    have H' := Aside0.mk H
                    clear H
                    have hnb22 := NB382_378.out
                    have hnc22 := NB378_382.out
                    have hcz23_0 : w15.cell? ⟨gb382, 0, none⟩ = some (.bool false) := (blk_cell BK382.out 0).trans rfl
                    have hcz23_1 : w15.cell? ⟨gb382, 1, none⟩ = some (.int .i64 0) := (blk_cell BK382.out 1).trans rfl
                    have hcz23_2 : w15.cell? ⟨gb382, 2, none⟩ = some (.string (⟨#[]⟩ : ByteArray)) := (blk_cell BK382.out 2).trans rfl
                    have hfz23_0 := blk_frozen BK382.out 0
                    have hfz23_1 := blk_frozen BK382.out 1
                    have hfz23_2 := blk_frozen BK382.out 2
                    go_wp2_with (first | ((with_reducible refine gate_callee (f := 54) rfl ?_); refine goesL_ (some 39) rfl rfl Tryz.func54 (by kernel_rfl) rfl #[.bool ((rd_T46 l1_1 x8_1).f0)] rfl (by (try simp only [List.map_toArray, List.map_cons, List.map_nil]); first | done | rfl | (simp only [List.length_drop, List.length_take]; rfl)) ?_; (with_reducible refine (tithebarnref07_flag.calls ((rd_T46 l1_1 x8_1).f0) t384 _ A20.out).mono ?_); rintro e w' ⟨rfl, ⟨nd, rfl⟩⟩; refine ⟨_, rfl, ?_⟩))
                    go_meet
                    case rel => exact ⟨_, (x7_1 ++ t384), (by first | rfl | (simp; done) | (simp [*]; done)), H', ⟨by have := HK1.out; first | omega | exact Nat.le_refl _⟩, ⟨by (with_reducible repeat (first | refine blk_drewN ?_ _ | refine blk_drew ?_ | refine blk_alloc ?_ _)); refine blk_far ?_ NB378_382.out _; (with_reducible repeat (first | refine blk_drewN ?_ _ | refine blk_drew ?_ | refine blk_alloc ?_ _)); refine blk_far ?_ NB378_382.out _; (with_reducible repeat (first | refine blk_drewN ?_ _ | refine blk_drew ?_ | refine blk_alloc ?_ _)); refine blk_far ?_ NB378_382.out _; (with_reducible repeat (first | refine blk_drewN ?_ _ | refine blk_drew ?_ | refine blk_alloc ?_ _)); exact BK378.out⟩, ⟨by (with_reducible repeat (first | refine blk_drewN ?_ _ | refine blk_drew ?_ | refine blk_alloc ?_ _)); refine blk_put (cs := #[.bool ((rd_T46 l1_1 x8_1).f0), .int .i64 ((rd_T46 l1_1 x8_1).f1), .string (⟨#[]⟩ : ByteArray)]) ?_ 2 _ rfl; (with_reducible repeat (first | refine blk_drewN ?_ _ | refine blk_drew ?_ | refine blk_alloc ?_ _)); refine blk_put (cs := #[.bool ((rd_T46 l1_1 x8_1).f0), .int .i64 0, .string (⟨#[]⟩ : ByteArray)]) ?_ 1 _ rfl; (with_reducible repeat (first | refine blk_drewN ?_ _ | refine blk_drew ?_ | refine blk_alloc ?_ _)); refine blk_put (cs := #[.bool false, .int .i64 0, .string (⟨#[]⟩ : ByteArray)]) ?_ 0 _ rfl; (with_reducible repeat (first | refine blk_drewN ?_ _ | refine blk_drew ?_ | refine blk_alloc ?_ _)); exact BK382.out⟩, ⟨by repeat (first | (with_reducible first | exact HB.out | apply below_alloc | apply pw_below_drewN | apply below_drew1 | refine below_set ?_ GE378.out | refine below_set ?_ GE382.out) | exact HB.out)⟩⟩
                  · rw [if_neg c21] at H
                    exact absurd H (by simp)
                · replace c19 := Bool.eq_false_iff.mpr c19
                  subst c19
                  have H1 : (tithebarnref07_Write.j1 k1 l0 x7_1 x8_1 a1_0 l1_1 ((rd_T46 l1_1 x8_1).f0) ((rd_T46 l1_1 x8_1).f1) ((rd_T46 l1_1 x8_1).f2)) = some (r1, r2) := by rw [if_neg (show ¬ (false = true) by decide)] at H; exact H
                  clear H
                  have H := H1
                  clear H1
                  have H' := Aside0.mk H
                  clear H
                  go_wp2
                  go_meet
                  case rel => exact ⟨_, (x7_1), (by first | rfl | (simp; done) | (simp [*]; done)), H', ⟨by have := HK1.out; first | omega | exact Nat.le_refl _⟩, ⟨by (with_reducible repeat (first | refine blk_drewN ?_ _ | refine blk_drew ?_ | refine blk_alloc ?_ _)); refine blk_far ?_ NB378_382.out _; (with_reducible repeat (first | refine blk_drewN ?_ _ | refine blk_drew ?_ | refine blk_alloc ?_ _)); refine blk_far ?_ NB378_382.out _; (with_reducible repeat (first | refine blk_drewN ?_ _ | refine blk_drew ?_ | refine blk_alloc ?_ _)); refine blk_far ?_ NB378_382.out _; (with_reducible repeat (first | refine blk_drewN ?_ _ | refine blk_drew ?_ | refine blk_alloc ?_ _)); exact BK378.out⟩, ⟨by (with_reducible repeat (first | refine blk_drewN ?_ _ | refine blk_drew ?_ | refine blk_alloc ?_ _)); refine blk_put (cs := #[.bool ((rd_T46 l1_1 x8_1).f0), .int .i64 ((rd_T46 l1_1 x8_1).f1), .string (⟨#[]⟩ : ByteArray)]) ?_ 2 _ rfl; (with_reducible repeat (first | refine blk_drewN ?_ _ | refine blk_drew ?_ | refine blk_alloc ?_ _)); refine blk_put (cs := #[.bool ((rd_T46 l1_1 x8_1).f0), .int .i64 0, .string (⟨#[]⟩ : ByteArray)]) ?_ 1 _ rfl; (with_reducible repeat (first | refine blk_drewN ?_ _ | refine blk_drew ?_ | refine blk_alloc ?_ _)); refine blk_put (cs := #[.bool false, .int .i64 0, .string (⟨#[]⟩ : ByteArray)]) ?_ 0 _ rfl; (with_reducible repeat (first | refine blk_drewN ?_ _ | refine blk_drew ?_ | refine blk_alloc ?_ _)); exact BK382.out⟩, ⟨by repeat (first | (with_reducible first | exact HB.out | apply below_alloc | apply pw_below_drewN | apply below_drew1 | refine below_set ?_ GE378.out | refine below_set ?_ GE382.out) | exact HB.out)⟩⟩
              case rest =>
                clear HC13
                try clear c1
                try clear q1
                try clear c2
                try clear p2
                try clear p3
                try clear q3
                try clear hx3
                try clear c4
                try clear c4b0
                try clear c4b1
                try clear c5
                try clear c10
                try clear c10b0
                try clear c11
                try clear c11b0
                try clear c12
                try clear c12b0
                try clear c16
                try clear q18
                try clear c19
                try clear c21
                try clear c21b0
                try clear c21b1
                try clear c21b2
                try clear c22
                try clear hcz14_0
                try clear hcz14_1
                try clear hcz17_0
                try clear hcz17_1
                try clear hcz17_2
                try clear hcz23_0
                try clear hcz23_1
                try clear hcz23_2
                try clear hcz7_0
                try clear hcz7_1
                try clear hcz9_0
                try clear hcz9_1
                try clear hfz14_0
                try clear hfz14_1
                try clear hfz17_0
                try clear hfz17_1
                try clear hfz17_2
                try clear hfz23_0
                try clear hfz23_1
                try clear hfz23_2
                try clear hfz7_0
                try clear hfz7_1
                try clear hfz9_0
                try clear hfz9_1
                try clear hx381_0
                try clear hx381_1
                try clear hx381_2
                try clear hx383_0
                try clear hx383_1
                try clear p2
                try clear p381
                try clear p383
                try clear q381
                try clear q383
                obtain ⟨kq, x7_12, rfl, HA, HJ12, BK378, BK382, HB⟩ := hcut
                cases kq with
                | zero => exact absurd HA.out (by simp [tithebarnref07_Write.j1])
                | succ kj12 =>
                  have H := HA.out
                  clear HA
                  simp only [tithebarnref07_Write.j1] at H
                  by_cases c24 : ((rd_T46 l1_1 x8_1).f0) = true
                  · rw [if_pos c24] at H
                    have c24b0 : ((rd_T46 l1_1 x8_1).f0) = true := c24
                    clear c24
                    have H' := Aside0.mk H
                    clear H
                    have hnb25 := NB382_378.out
                    have hnc25 := NB378_382.out
                    have hcz26_0 : wc.cell? ⟨gb382, 0, none⟩ = some (.bool ((rd_T46 l1_1 x8_1).f0)) := (blk_cell BK382.out 0).trans rfl
                    have hcz26_1 : wc.cell? ⟨gb382, 1, none⟩ = some (.int .i64 ((rd_T46 l1_1 x8_1).f1)) := (blk_cell BK382.out 1).trans rfl
                    have hcz26_2 : wc.cell? ⟨gb382, 2, none⟩ = some (.string ((rd_T46 l1_1 x8_1).f2)) := (blk_cell BK382.out 2).trans rfl
                    have hfz26_0 := blk_frozen BK382.out 0
                    have hfz26_1 := blk_frozen BK382.out 1
                    have hfz26_2 := blk_frozen BK382.out 2
                    go_wp2
                    go_roundg kj12
                    case measure => have := HK1.out; have := HJ12.out; omega
                    case rel => exact ⟨(x7_12), (wrap64 (x8_1 + 1)), (by first | rfl | (simp; done) | (simp [*]; done)), (by first | rfl | (simp; done) | (simp [*]; done)), H', ⟨by have := HK1.out; have := HJ12.out; omega⟩, ⟨by (with_reducible repeat (first | refine blk_drewN ?_ _ | refine blk_drew ?_ | refine blk_alloc ?_ _)); exact BK378.out⟩, ⟨by repeat (first | (with_reducible first | exact HB.out | apply below_alloc | apply pw_below_drewN | apply below_drew1 | refine below_set ?_ GE378.out | refine below_set ?_ GE382.out) | exact HB.out)⟩⟩
                  · rw [if_neg c24] at H
                    have c24b0 : ((rd_T46 l1_1 x8_1).f0) = false := by simpa using c24
                    clear c24
                    by_cases c27 : 0 ≤ x8_1
                    · rw [if_pos c27] at H
                      have c27b0 : decide (0 ≤ x8_1) = true := decide_eq_true c27
                      clear c27
                      by_cases c28 : x8_1 < (l0.length : Int)
                      · rw [if_pos c28] at H
                        have c28b0 : decide (x8_1 < (l0.length : Int)) = true := decide_eq_true c28
                        clear c28
                        by_cases c29 : ((rd_T44 l0 x8_1).f0) = 1
                        · rw [if_pos c29] at H
                          have c29b0 : (((rd_T44 l0 x8_1).f0) == 1) = true := beq_iff_eq.mpr c29
                          have c29b1 : (((rd_T44 l0 x8_1).f0) != 1) = false := bne_eq_false_iff_eq.mpr c29
                          clear c29
                          replace H := Option.bind_eq_some_iff.mp H
                          obtain ⟨t386, A300, H⟩ := H
                          replace H : (if x7_12.size + t386.size ≤ 9223372036854775807 then (tithebarnref07_Write.l0 kj12 l0 (x7_12 ++ t386) (wrap64 (x8_1 + 1)) a1_0 l1_1) else (none)) = some (r1, r2) := H
                          have A30 := Aside0.mk A300
                          clear A300
                          by_cases c31 : x7_12.size + t386.size ≤ 9223372036854775807
                          · rw [if_pos c31] at H
                            have c31b0 := eq_true c31
                            have c31b1 : decide (x7_12.size + t386.size ≤ 9223372036854775807) = true := decide_eq_true c31
                            try have c31b2 : (9223372036854775807 < x7_12.size + t386.size) = False := eq_false (Nat.not_lt.2 c31)
                            have H' := Aside0.mk H
                            clear H
                            have hnb32 := NB382_378.out
                            have hnc32 := NB378_382.out
                            have hcz33_0 : wc.cell? ⟨gb382, 0, none⟩ = some (.bool ((rd_T46 l1_1 x8_1).f0)) := (blk_cell BK382.out 0).trans rfl
                            have hcz33_1 : wc.cell? ⟨gb382, 1, none⟩ = some (.int .i64 ((rd_T46 l1_1 x8_1).f1)) := (blk_cell BK382.out 1).trans rfl
                            have hcz33_2 : wc.cell? ⟨gb382, 2, none⟩ = some (.string ((rd_T46 l1_1 x8_1).f2)) := (blk_cell BK382.out 2).trans rfl
                            have hfz33_0 := blk_frozen BK382.out 0
                            have hfz33_1 := blk_frozen BK382.out 1
                            have hfz33_2 := blk_frozen BK382.out 2
                            have p385 : 0 ≤ (x8_1 : Int) := of_decide_eq_true (by first | (with_reducible assumption) | assumption)
                            have q385 : x8_1 < (l0.length : Int) := of_decide_eq_true (by first | (with_reducible assumption) | assumption)
                            obtain ⟨ad385, e385, hx385_0, hx385_1⟩ := at_T44 HR0.out x8_1 p385 q385
                            obtain rfl : ad383 = ad385 := (by injection e385)
                            replace hx385_0 := (HB.out.cell (World.block_lt_of_cell? w _ hx385_0)).trans hx385_0
                            replace hx385_1 := (HB.out.cell (World.block_lt_of_cell? w _ hx385_1)).trans hx385_1
                            replace p385 := eq_true p385
                            replace q385 := eq_true q385
                            go_wp2_with (first | ((with_reducible refine gate_callee (f := 55) rfl ?_); refine goesL_ (some 52) rfl rfl Tryz.func55 (by kernel_rfl) rfl #[.int .i64 ((rd_T46 l1_1 x8_1).f1)] rfl (by (try simp only [List.map_toArray, List.map_cons, List.map_nil]); first | done | rfl | (simp only [List.length_drop, List.length_take]; rfl)) ?_; (with_reducible refine (tithebarnref01_Int.calls ((rd_T46 l1_1 x8_1).f1) t386 _ A30.out).mono ?_); rintro e w34 ⟨rfl, hb⟩; refine ⟨_, rfl, ?_⟩; have n0_ := Aside0.mk (blk_below (g := gb378) (o := .cells #[.bool a1_0, .slice (some ad381) l1_1.length c1_1] 26 (0, 0)) (by (with_reducible repeat (first | refine blk_drewN ?_ _ | refine blk_drew ?_ | refine blk_alloc ?_ _)); exact BK378.out) hb); have n1_ := Aside0.mk (blk_below (g := gb382) (o := .cells #[.bool ((rd_T46 l1_1 x8_1).f0), .int .i64 ((rd_T46 l1_1 x8_1).f1), .string ((rd_T46 l1_1 x8_1).f2)] 46 (0, 0)) (by (with_reducible repeat (first | refine blk_drewN ?_ _ | refine blk_drew ?_ | refine blk_alloc ?_ _)); exact BK382.out) hb); have n2_ := Aside0.mk (below_step (by repeat (first | (with_reducible first | exact HB.out | apply below_alloc | apply pw_below_drewN | apply below_drew1 | refine below_set ?_ GE378.out | refine below_set ?_ GE382.out) | exact HB.out)) hb); clear BK378; clear BK382; clear HB; have BK378 := n0_; have BK382 := n1_; have HB := n2_; clear n0_ n1_ n2_; (try clear hb); (try clear hb2); (try clear hk); (try clear hi)))
                            go_roundg kj12
                            case measure => have := HK1.out; have := HJ12.out; omega
                            case rel => exact ⟨(x7_12 ++ t386), (wrap64 (x8_1 + 1)), (by first | rfl | (simp; done) | (simp [*]; done)), (by first | rfl | (simp; done) | (simp [*]; done)), H', ⟨by have := HK1.out; have := HJ12.out; omega⟩, ⟨by (with_reducible repeat (first | refine blk_drewN ?_ _ | refine blk_drew ?_ | refine blk_alloc ?_ _)); exact BK378.out⟩, ⟨by repeat (first | (with_reducible first | exact HB.out | apply below_alloc | apply pw_below_drewN | apply below_drew1 | refine below_set ?_ GE378.out | refine below_set ?_ GE382.out) | exact HB.out)⟩⟩
                          · rw [if_neg c31] at H
                            exact absurd H (by simp)
                        · rw [if_neg c29] at H
                          have c29b0 : (((rd_T44 l0 x8_1).f0) == 1) = false := beq_eq_false_iff_ne.mpr c29
                          have c29b1 : (((rd_T44 l0 x8_1).f0) != 1) = true := bne_iff_ne.mpr c29
                          replace H := Option.bind_eq_some_iff.mp H
                          obtain ⟨t387, A350, H⟩ := H
                          replace H : (if x7_12.size + t387.size ≤ 9223372036854775807 then (tithebarnref07_Write.l0 kj12 l0 (x7_12 ++ t387) (wrap64 (x8_1 + 1)) a1_0 l1_1) else (none)) = some (r1, r2) := H
                          have A35 := Aside0.mk A350
                          clear A350
                          by_cases c36 : x7_12.size + t387.size ≤ 9223372036854775807
                          · rw [if_pos c36] at H
                            have c36b0 := eq_true c36
                            have c36b1 : decide (x7_12.size + t387.size ≤ 9223372036854775807) = true := decide_eq_true c36
                            try have c36b2 : (9223372036854775807 < x7_12.size + t387.size) = False := eq_false (Nat.not_lt.2 c36)
                            have H' := Aside0.mk H
                            clear H
                            have hnb37 := NB382_378.out
                            have hnc37 := NB378_382.out
                            have hcz38_0 : wc.cell? ⟨gb382, 0, none⟩ = some (.bool ((rd_T46 l1_1 x8_1).f0)) := (blk_cell BK382.out 0).trans rfl
                            have hcz38_1 : wc.cell? ⟨gb382, 1, none⟩ = some (.int .i64 ((rd_T46 l1_1 x8_1).f1)) := (blk_cell BK382.out 1).trans rfl
                            have hcz38_2 : wc.cell? ⟨gb382, 2, none⟩ = some (.string ((rd_T46 l1_1 x8_1).f2)) := (blk_cell BK382.out 2).trans rfl
                            have hfz38_0 := blk_frozen BK382.out 0
                            have hfz38_1 := blk_frozen BK382.out 1
                            have hfz38_2 := blk_frozen BK382.out 2
                            have p385 : 0 ≤ (x8_1 : Int) := of_decide_eq_true (by first | (with_reducible assumption) | assumption)
                            have q385 : x8_1 < (l0.length : Int) := of_decide_eq_true (by first | (with_reducible assumption) | assumption)
                            obtain ⟨ad385, e385, hx385_0, hx385_1⟩ := at_T44 HR0.out x8_1 p385 q385
                            obtain rfl : ad383 = ad385 := (by injection e385)
                            replace hx385_0 := (HB.out.cell (World.block_lt_of_cell? w _ hx385_0)).trans hx385_0
                            replace hx385_1 := (HB.out.cell (World.block_lt_of_cell? w _ hx385_1)).trans hx385_1
                            replace p385 := eq_true p385
                            replace q385 := eq_true q385
                            go_wp2_with (first | ((with_reducible refine gate_callee (f := 56) rfl ?_); refine goesL_ (some 57) rfl rfl Tryz.func56 (by kernel_rfl) rfl #[.string ((rd_T46 l1_1 x8_1).f2)] rfl (by (try simp only [List.map_toArray, List.map_cons, List.map_nil]); first | done | rfl | (simp only [List.length_drop, List.length_take]; rfl)) ?_; (with_reducible refine (tithebarnref01_Text.calls ((rd_T46 l1_1 x8_1).f2) t387 _ A35.out).mono ?_); rintro e w39 ⟨rfl, hb⟩; refine ⟨_, rfl, ?_⟩; have n0_ := Aside0.mk (blk_below (g := gb378) (o := .cells #[.bool a1_0, .slice (some ad381) l1_1.length c1_1] 26 (0, 0)) (by (with_reducible repeat (first | refine blk_drewN ?_ _ | refine blk_drew ?_ | refine blk_alloc ?_ _)); exact BK378.out) hb); have n1_ := Aside0.mk (blk_below (g := gb382) (o := .cells #[.bool ((rd_T46 l1_1 x8_1).f0), .int .i64 ((rd_T46 l1_1 x8_1).f1), .string ((rd_T46 l1_1 x8_1).f2)] 46 (0, 0)) (by (with_reducible repeat (first | refine blk_drewN ?_ _ | refine blk_drew ?_ | refine blk_alloc ?_ _)); exact BK382.out) hb); have n2_ := Aside0.mk (below_step (by repeat (first | (with_reducible first | exact HB.out | apply below_alloc | apply pw_below_drewN | apply below_drew1 | refine below_set ?_ GE378.out | refine below_set ?_ GE382.out) | exact HB.out)) hb); clear BK378; clear BK382; clear HB; have BK378 := n0_; have BK382 := n1_; have HB := n2_; clear n0_ n1_ n2_; (try clear hb); (try clear hb2); (try clear hk); (try clear hi)))
                            go_roundg kj12
                            case measure => have := HK1.out; have := HJ12.out; omega
                            case rel => exact ⟨(x7_12 ++ t387), (wrap64 (x8_1 + 1)), (by first | rfl | (simp; done) | (simp [*]; done)), (by first | rfl | (simp; done) | (simp [*]; done)), H', ⟨by have := HK1.out; have := HJ12.out; omega⟩, ⟨by (with_reducible repeat (first | refine blk_drewN ?_ _ | refine blk_drew ?_ | refine blk_alloc ?_ _)); exact BK378.out⟩, ⟨by repeat (first | (with_reducible first | exact HB.out | apply below_alloc | apply pw_below_drewN | apply below_drew1 | refine below_set ?_ GE378.out | refine below_set ?_ GE382.out) | exact HB.out)⟩⟩
                          · rw [if_neg c36] at H
                            exact absurd H (by simp)
                      · rw [if_neg c28] at H
                        exact absurd H (by simp)
                    · rw [if_neg c27] at H
                      exact absurd H (by simp)
            · rw [if_neg c12] at H
              exact absurd H (by simp)
          · rw [if_neg c11] at H
            exact absurd H (by simp)
        · rw [if_neg c10] at H
          have c10b0 : decide (x8_1 < (l1_1.length : Int)) = false := decide_eq_false c10
          clear c10
          simp only [Option.some.injEq, Prod.mk.injEq] at H
          obtain ⟨rfl, rfl⟩ := H
          have hcz40_0 : wr.cell? ⟨gb378, 0, none⟩ = some (.bool a1_0) := (blk_cell BK378.out 0).trans rfl
          have hcz40_1 : wr.cell? ⟨gb378, 1, none⟩ = some (.slice A1_1 l1_1.length c1_1) := (blk_cell BK378.out 1).trans rfl
          have hfz40_0 := blk_frozen BK378.out 0
          have hfz40_1 := blk_frozen BK378.out 1
          go_wp2
          go_ret2
          exact ⟨by first | rfl | (simp [errW_none, errW_some] <;> rfl) | (simp [*, errW_none, errW_some] <;> rfl), by repeat (first | (with_reducible first | exact HB.out | apply below_alloc | apply pw_below_drewN | apply below_drew1 | refine below_set ?_ GE378.out) | exact HB.out)⟩
  · rw [if_neg c4] at H
    have c4b0 : (t379 == 0) = false := beq_eq_false_iff_ne.mpr c4
    have c4b1 : (t379 != 0) = true := bne_iff_ne.mpr c4
    simp only [Option.some.injEq, Prod.mk.injEq] at H
    obtain ⟨rfl, rfl⟩ := H
    go_enter Tryz.func24, Tryz.ntmps24
    go_wp2_with (first | ((with_reducible refine gate_dst (N := 3) rfl ?_); refine box_event ?hg (N := 3) ?hd (cs := #[.bool a1_0, .slice A1_1 l1_1.length c1_1]) (t := 26) ?hr ?_; (case hd => rfl); (case hg => rfl); (case hr => first | (go_simp; done) | (go_simp; rfl)); intro gb378 hg w41 hbox hb; have n0_ := Aside0.mk (below_step (by repeat (first | (with_reducible first | exact HB.out | apply below_alloc | apply pw_below_drewN | apply below_drew1) | exact HB.out)) hb); have n1_ := Aside0.mk (hbox); have n2_ := Aside0.mk ((by rw [hg]; exact (below_size (by repeat (first | (with_reducible first | exact HB.out | apply below_alloc | apply pw_below_drewN | apply below_drew1) | exact HB.out))) : w.heap.size ≤ gb378)); have n3_ := Aside0.mk ((by rw [hg]; exact (below_size (by repeat (first | (with_reducible first | exact HB.out | apply below_alloc | apply pw_below_drewN | apply below_drew1) | exact HB.out))) : w.heap.size ≤ gb378)); clear HB; have HB := n0_; have BK378 := n1_; have GW378 := n2_; have GE378 := n3_; clear n0_ n1_ n2_ n3_; clear hb hbox hg; have hcz42_0 : w41.cell? ⟨gb378, 0, none⟩ = some (.bool a1_0) := (blk_cell BK378.out 0).trans rfl; have hcz42_1 : w41.cell? ⟨gb378, 1, none⟩ = some (.slice A1_1 l1_1.length c1_1) := (blk_cell BK378.out 1).trans rfl; have hfz42_0 := blk_frozen BK378.out 0; have hfz42_1 := blk_frozen BK378.out 1) | ((with_reducible refine gate_callee (f := 53) rfl ?_); refine goesL_ (some 12) rfl rfl Tryz.func53 (by kernel_rfl) rfl #[.slice A0 l0.length c0, .agg #[.bool a1_0, .slice A1_1 l1_1.length c1_1]] rfl (by (try simp only [List.map_toArray, List.map_cons, List.map_nil]); first | done | rfl | (simp only [List.length_drop, List.length_take]; rfl)) ?_; (with_reducible refine (tithebarnref07_Fits.calls k _ _ l0 a1_0 _ _ l1_1 t379 _ ?side1 ?side2 ?side3 ?side4 A3.out).mono ?_); (case side1 => repeat (first | exact (Kd.C_below HR0.out HB.out) | (with_reducible refine Kd.C_alloc ?_ _) | (with_reducible refine Kd.C_drewN ?_ _) | (with_reducible refine Kd.C_drew ?_))); (case side2 => exact HC0.out); (case side3 => repeat (first | exact (Kd.C_below HR1_1.out HB.out) | (with_reducible refine Kd.C_alloc ?_ _) | (with_reducible refine Kd.C_drewN ?_ _) | (with_reducible refine Kd.C_drew ?_))); (case side4 => exact HC1_1.out); rintro e w43 ⟨rfl, hb⟩; refine ⟨_, rfl, ?_⟩; have n0_ := Aside0.mk (blk_below (g := gb378) (o := .cells #[.bool a1_0, .slice A1_1 l1_1.length c1_1] 26 (0, 0)) (by (with_reducible repeat (first | refine blk_drewN ?_ _ | refine blk_drew ?_ | refine blk_alloc ?_ _)); exact BK378.out) hb); have n1_ := Aside0.mk (below_step (by repeat (first | (with_reducible first | exact HB.out | apply below_alloc | apply pw_below_drewN | apply below_drew1 | refine below_set ?_ GE378.out) | exact HB.out)) hb); clear BK378; clear HB; have BK378 := n0_; have HB := n1_; clear n0_ n1_; (try clear hb); (try clear hb2); (try clear hk); (try clear hi)))
    go_ret2
    exact ⟨by first | rfl | (simp [errW_none, errW_some] <;> rfl) | (simp [*, errW_none, errW_some] <;> rfl), by repeat (first | (with_reducible first | exact HB.out | apply below_alloc | apply pw_below_drewN | apply below_drew1 | refine below_set ?_ GE378.out) | exact HB.out)⟩
def tithebarnref08_four.f (a0 : Int) : Option (ByteArray) := some (strOfNums (([(a0) % 256, (a0 / 256) % 256, (a0 / 65536) % 256, (a0 / 16777216) % 256] : List Int)))
set_option maxHeartbeats 8000000 in
set_option maxRecDepth 100000 in
theorem tithebarnref08_four.calls (a0 : Int) (r : ByteArray) (w : World) (h : tithebarnref08_four.f a0 = some r) :
    Calls Tryz.prog 57 #[.int .u32 a0] w fun e w' => e = .returned (.string r) ∧ Below w.heap.size w w' := by
  have HB := Aside0.mk (Below.refl w.heap.size w)
  have H : (some (strOfNums (([(a0) % 256, (a0 / 256) % 256, (a0 / 65536) % 256, (a0 / 16777216) % 256] : List Int)))) = some r := h
  clear h
  obtain ⟨y388, hy388⟩ : ∃ y_ : List Int, y_ = (([(a0) % 256, (a0 / 256) % 256, (a0 / 65536) % 256, (a0 / 16777216) % 256] : List Int)) := ⟨_, rfl⟩
  replace H : (some (strOfNums y388)) = some r := by first | (rw [hy388]; with_reducible exact H) | (have H2_ := (Option.bind_some _ _).symm.trans H; rw [hy388]; with_reducible exact H2_) | (have H2_ := (Option.bind_some _ _).symm.trans H; with_reducible exact H2_) | with_reducible exact H | (rw [hy388]; exact H) | exact H
  have Ny388 := Aside0.mk hy388
  clear hy388
  obtain rfl := Option.some.inj H
  go_enter Tryz.func57, Tryz.ntmps57
  go_wp2_with (first | ((with_reducible refine gate_dst (N := 14) rfl ?_); refine Kd.R_lit (Kd.int .u8) _ 5 ?hg (N := 14) ?hd (xs := ([(a0) % 256, (a0 / 256) % 256, (a0 / 65536) % 256, (a0 / 16777216) % 256] : List Int)) (inner := [.int .u8 ((a0) % 256), .int .u8 ((a0 / 256) % 256), .int .u8 ((a0 / 65536) % 256), .int .u8 ((a0 / 16777216) % 256)]) (ok := fun _ => True) (okp := fun _ => True) ?hr ?hp (fun _ hk => hk) trivial (Below.refl _ _) (Nat.le_refl _) (by simp) ?_; (case hd => rfl); (case hg => rfl); (case hr => first | (go_simp; done) | (go_simp; rfl)); (case hp => exact (Reps.one (show Kd.M (Kd.int .u8) _ _ _ ((a0) % 256) [.int .u8 ((a0) % 256)] from rfl) (Reps.one (show Kd.M (Kd.int .u8) _ _ _ ((a0 / 256) % 256) [.int .u8 ((a0 / 256) % 256)] from rfl) (Reps.one (show Kd.M (Kd.int .u8) _ _ _ ((a0 / 65536) % 256) [.int .u8 ((a0 / 65536) % 256)] from rfl) (Reps.one (show Kd.M (Kd.int .u8) _ _ _ ((a0 / 16777216) % 256) [.int .u8 ((a0 / 16777216) % 256)] from rfl) (Reps.none _ _)))))); intro v389 w2 ho3 hb hg_ hnew_; clear hg_ hnew_; (first | rw [← Ny388.out] at ho3 | (simp only [Int.reduceToNat] at ho3; rw [← Ny388.out] at ho3)); have n0_ := Aside0.mk (Kd.R_lower ho3 (below_size (by repeat (first | (with_reducible first | exact HB.out | apply below_alloc | apply pw_below_drewN | apply below_drew1) | exact HB.out)))); have n1_ := Aside0.mk (below_step (by repeat (first | (with_reducible first | exact HB.out | apply below_alloc | apply pw_below_drewN | apply below_drew1) | exact HB.out)) hb); clear HB; have HO390 := n0_; have HB := n1_; clear n0_ n1_; clear hb ho3; have hcv4 := own_string (P := Tryz.prog) Tryz.underlying94 Tryz.underlying5 Tryz.underlying9 (Kd.own_of_R HO390.out)))
  go_ret
  exact ⟨by first | rfl | (simp [errW_none, errW_some] <;> rfl) | (simp [*, errW_none, errW_some] <;> rfl), by repeat (first | (with_reducible first | exact HB.out | apply below_alloc | apply pw_below_drewN | apply below_drew1) | exact HB.out)⟩
def tithebarnref08_Write.f (k : Nat) (a0 : ByteArray) : Option (ByteArray) := (tithebarnref08_four.f (((a0.size : Int)) % 4294967296)).bind fun t391 => (if t391.size + a0.size ≤ 9223372036854775807 then ((tithebarnref08_Sum.f k a0).bind fun t392 => ((tithebarnref08_four.f t392).bind fun t393 => (if (t391 ++ a0).size + t393.size ≤ 9223372036854775807 then (some ((t391 ++ a0) ++ t393)) else (none)))) else (none))
set_option maxHeartbeats 8000000 in
set_option maxRecDepth 100000 in
theorem tithebarnref08_Write.calls (k : Nat) (a0 : ByteArray) (r : ByteArray) (w : World) (h : tithebarnref08_Write.f k a0 = some r) :
    Calls Tryz.prog 25 #[.string a0] w fun e w' => e = .returned (.string r) ∧ Below w.heap.size w w' := by
  have HB := Aside0.mk (Below.refl w.heap.size w)
  have H : ((tithebarnref08_four.f (((a0.size : Int)) % 4294967296)).bind fun t391 => (if t391.size + a0.size ≤ 9223372036854775807 then ((tithebarnref08_Sum.f k a0).bind fun t392 => ((tithebarnref08_four.f t392).bind fun t393 => (if (t391 ++ a0).size + t393.size ≤ 9223372036854775807 then (some ((t391 ++ a0) ++ t393)) else (none)))) else (none))) = some r := h
  clear h
  replace H := Option.bind_eq_some_iff.mp H
  obtain ⟨t391, A20, H⟩ := H
  replace H : (if t391.size + a0.size ≤ 9223372036854775807 then ((tithebarnref08_Sum.f k a0).bind fun t392 => ((tithebarnref08_four.f t392).bind fun t393 => (if (t391 ++ a0).size + t393.size ≤ 9223372036854775807 then (some ((t391 ++ a0) ++ t393)) else (none)))) else (none)) = some r := H
  have A2 := Aside0.mk A20
  clear A20
  by_cases c3 : t391.size + a0.size ≤ 9223372036854775807
  · rw [if_pos c3] at H
    have c3b0 := eq_true c3
    have c3b1 : decide (t391.size + a0.size ≤ 9223372036854775807) = true := decide_eq_true c3
    try have c3b2 : (9223372036854775807 < t391.size + a0.size) = False := eq_false (Nat.not_lt.2 c3)
    replace H := Option.bind_eq_some_iff.mp H
    obtain ⟨t392, A40, H⟩ := H
    replace H : ((tithebarnref08_four.f t392).bind fun t393 => (if (t391 ++ a0).size + t393.size ≤ 9223372036854775807 then (some ((t391 ++ a0) ++ t393)) else (none))) = some r := H
    have A4 := Aside0.mk A40
    clear A40
    replace H := Option.bind_eq_some_iff.mp H
    obtain ⟨t393, A50, H⟩ := H
    replace H : (if (t391 ++ a0).size + t393.size ≤ 9223372036854775807 then (some ((t391 ++ a0) ++ t393)) else (none)) = some r := H
    have A5 := Aside0.mk A50
    clear A50
    by_cases c6 : (t391 ++ a0).size + t393.size ≤ 9223372036854775807
    · rw [if_pos c6] at H
      have c6b0 := eq_true c6
      have c6b1 : decide ((t391 ++ a0).size + t393.size ≤ 9223372036854775807) = true := decide_eq_true c6
      have c6q : t391.size + a0.size + t393.size ≤ 9223372036854775807 := by have hq_ := c6; rw [ByteArray.size_append] at hq_; exact hq_ -- patched
      have c6q0 := eq_true c6q -- patched
      have c6q1 : decide (t391.size + a0.size + t393.size ≤ 9223372036854775807) = true := decide_eq_true c6q -- patched
      have c6q2 : (9223372036854775807 < t391.size + a0.size + t393.size) = False := eq_false (Nat.not_lt.2 c6q) -- patched
      try have c6b2 : (9223372036854775807 < (t391 ++ a0).size + t393.size) = False := eq_false (Nat.not_lt.2 c6)
      obtain rfl := Option.some.inj H
      go_enter Tryz.func25, Tryz.ntmps25
      go_wp2_with (first | ((with_reducible refine gate_callee (f := 57) rfl ?_); refine goesL_ (some 6) rfl rfl Tryz.func57 (by kernel_rfl) rfl #[.int .u32 (((a0.size : Int)) % 4294967296)] rfl (by (try simp only [List.map_toArray, List.map_cons, List.map_nil]); first | done | rfl | (simp only [List.length_drop, List.length_take]; rfl)) ?_; (with_reducible refine (tithebarnref08_four.calls (((a0.size : Int)) % 4294967296) t391 _ A2.out).mono ?_); rintro e w7 ⟨rfl, hb⟩; refine ⟨_, rfl, ?_⟩; have n0_ := Aside0.mk (below_step (by repeat (first | (with_reducible first | exact HB.out | apply below_alloc | apply pw_below_drewN | apply below_drew1) | exact HB.out)) hb); clear HB; have HB := n0_; clear n0_; (try clear hb); (try clear hb2); (try clear hk); (try clear hi)) | ((with_reducible refine gate_callee (f := 44) rfl ?_); refine goesL_ (some 10) rfl rfl Tryz.func44 (by kernel_rfl) rfl #[.string a0] rfl (by (try simp only [List.map_toArray, List.map_cons, List.map_nil]); first | done | rfl | (simp only [List.length_drop, List.length_take]; rfl)) ?_; (with_reducible refine (tithebarnref08_Sum.calls k a0 t392 _ A4.out).mono ?_); rintro e w' ⟨rfl, ⟨nd, rfl⟩⟩; refine ⟨_, rfl, ?_⟩) | ((with_reducible refine gate_callee (f := 57) rfl ?_); refine goesL_ (some 11) rfl rfl Tryz.func57 (by kernel_rfl) rfl #[.int .u32 t392] rfl (by (try simp only [List.map_toArray, List.map_cons, List.map_nil]); first | done | rfl | (simp only [List.length_drop, List.length_take]; rfl)) ?_; (with_reducible refine (tithebarnref08_four.calls t392 t393 _ A5.out).mono ?_); rintro e w8 ⟨rfl, hb⟩; refine ⟨_, rfl, ?_⟩; have n0_ := Aside0.mk (below_step (by repeat (first | (with_reducible first | exact HB.out | apply below_alloc | apply pw_below_drewN | apply below_drew1) | exact HB.out)) hb); clear HB; have HB := n0_; clear n0_; (try clear hb); (try clear hb2); (try clear hk); (try clear hi)))
      go_ret
      exact ⟨by first | rfl | (simp [errW_none, errW_some] <;> rfl) | (simp [*, errW_none, errW_some] <;> rfl), by repeat (first | (with_reducible first | exact HB.out | apply below_alloc | apply pw_below_drewN | apply below_drew1) | exact HB.out)⟩
    · rw [if_neg c6] at H
      exact absurd H (by simp)
  · rw [if_neg c3] at H
    exact absurd H (by simp)
def tithebarnref15_Write.f (k : Nat) (l0 : List (S44)) (a1_0 : Bool) (l1_1 : List (S46)) : Option (ByteArray × Int) := (tithebarnref07_Write.f k l0 a1_0 l1_1).bind fun bt395 => (if bt395.2 = 0 then ((tithebarnref08_Write.f k bt395.1).bind fun t397 => (some (t397, 0))) else (some ((⟨#[]⟩ : ByteArray), bt395.2)))
set_option maxHeartbeats 8000000 in
set_option maxRecDepth 100000 in
theorem tithebarnref15_Write.calls (k : Nat) (A0 : Option Addr) (c0 : Nat) (l0 : List (S44)) (a1_0 : Bool) (A1_1 : Option Addr) (c1_1 : Nat) (l1_1 : List (S46)) (r1 : ByteArray) (r2 : Int) (w : World) (hr0 : Kd.C k44 w A0 l0.length l0) (hc0 : l0.length ≤ c0) (hr1_1 : Kd.C k46 w A1_1 l1_1.length l1_1) (hc1_1 : l1_1.length ≤ c1_1) (h : tithebarnref15_Write.f k l0 a1_0 l1_1 = some (r1, r2)) :
    Calls Tryz.prog 9 #[.slice A0 l0.length c0, .agg #[.bool a1_0, .slice A1_1 l1_1.length c1_1]] w fun e w' => e = .returned (.tuple #[.string r1, .int .i64 r2]) ∧ Below w.heap.size w w' := by
  have hu26 := Tryz.underlying26
  have HR0 := Aside0.mk hr0
  have HC0 := Aside0.mk hc0
  clear hr0 hc0
  have HR1_1 := Aside0.mk hr1_1
  have HC1_1 := Aside0.mk hc1_1
  clear hr1_1 hc1_1
  have HB := Aside0.mk (Below.refl w.heap.size w)
  have H : ((tithebarnref07_Write.f k l0 a1_0 l1_1).bind fun bt395 => (if bt395.2 = 0 then ((tithebarnref08_Write.f k bt395.1).bind fun t397 => (some (t397, 0))) else (some ((⟨#[]⟩ : ByteArray), bt395.2)))) = some (r1, r2) := h
  clear h
  replace H := Option.bind_eq_some_iff.mp H
  obtain ⟨⟨t395, t396⟩, A30, H⟩ := H
  replace H : (if t396 = 0 then ((tithebarnref08_Write.f k t395).bind fun t397 => (some (t397, 0))) else (some ((⟨#[]⟩ : ByteArray), t396))) = some (r1, r2) := H
  have A3 := Aside0.mk A30
  clear A30
  by_cases c4 : t396 = 0
  · rw [if_pos c4] at H
    have c4b0 : (t396 == 0) = true := beq_iff_eq.mpr c4
    have c4b1 : (t396 != 0) = false := bne_eq_false_iff_eq.mpr c4
    clear c4
    replace H := Option.bind_eq_some_iff.mp H
    obtain ⟨t397, A50, H⟩ := H
    replace H : (some (t397, 0)) = some (r1, r2) := H
    have A5 := Aside0.mk A50
    clear A50
    simp only [Option.some.injEq, Prod.mk.injEq] at H
    obtain ⟨rfl, rfl⟩ := H
    go_enter Tryz.func9, Tryz.ntmps9
    go_wp2_with (first | ((with_reducible refine gate_dst (N := 3) rfl ?_); refine box_event ?hg (N := 3) ?hd (cs := #[.bool a1_0, .slice A1_1 l1_1.length c1_1]) (t := 26) ?hr ?_; (case hd => rfl); (case hg => rfl); (case hr => first | (go_simp; done) | (go_simp; rfl)); intro gb394 hg w6 hbox hb; have n0_ := Aside0.mk (below_step (by repeat (first | (with_reducible first | exact HB.out | apply below_alloc | apply pw_below_drewN | apply below_drew1) | exact HB.out)) hb); have n1_ := Aside0.mk (hbox); have n2_ := Aside0.mk ((by rw [hg]; exact (below_size (by repeat (first | (with_reducible first | exact HB.out | apply below_alloc | apply pw_below_drewN | apply below_drew1) | exact HB.out))) : w.heap.size ≤ gb394)); have n3_ := Aside0.mk ((by rw [hg]; exact (below_size (by repeat (first | (with_reducible first | exact HB.out | apply below_alloc | apply pw_below_drewN | apply below_drew1) | exact HB.out))) : w.heap.size ≤ gb394)); clear HB; have HB := n0_; have BK394 := n1_; have GW394 := n2_; have GE394 := n3_; clear n0_ n1_ n2_ n3_; clear hb hbox hg; have hcz7_0 : w6.cell? ⟨gb394, 0, none⟩ = some (.bool a1_0) := (blk_cell BK394.out 0).trans rfl; have hcz7_1 : w6.cell? ⟨gb394, 1, none⟩ = some (.slice A1_1 l1_1.length c1_1) := (blk_cell BK394.out 1).trans rfl; have hfz7_0 := blk_frozen BK394.out 0; have hfz7_1 := blk_frozen BK394.out 1) | ((with_reducible refine gate_callee (f := 24) rfl ?_); refine goesL_ (some 11) rfl rfl Tryz.func24 (by kernel_rfl) rfl #[.slice A0 l0.length c0, .agg #[.bool a1_0, .slice A1_1 l1_1.length c1_1]] rfl (by (try simp only [List.map_toArray, List.map_cons, List.map_nil]); first | done | rfl | (simp only [List.length_drop, List.length_take]; rfl)) ?_; (with_reducible refine (tithebarnref07_Write.calls k _ _ l0 a1_0 _ _ l1_1 t395 t396 _ ?side1 ?side2 ?side3 ?side4 A3.out).mono ?_); (case side1 => repeat (first | exact (Kd.C_below HR0.out HB.out) | (with_reducible refine Kd.C_alloc ?_ _) | (with_reducible refine Kd.C_drewN ?_ _) | (with_reducible refine Kd.C_drew ?_))); (case side2 => exact HC0.out); (case side3 => repeat (first | exact (Kd.C_below HR1_1.out HB.out) | (with_reducible refine Kd.C_alloc ?_ _) | (with_reducible refine Kd.C_drewN ?_ _) | (with_reducible refine Kd.C_drew ?_))); (case side4 => exact HC1_1.out); rintro e w8 ⟨rfl, hb⟩; refine ⟨_, rfl, ?_⟩; have n0_ := Aside0.mk (blk_below (g := gb394) (o := .cells #[.bool a1_0, .slice A1_1 l1_1.length c1_1] 26 (0, 0)) (by (with_reducible repeat (first | refine blk_drewN ?_ _ | refine blk_drew ?_ | refine blk_alloc ?_ _)); exact BK394.out) hb); have n1_ := Aside0.mk (below_step (by repeat (first | (with_reducible first | exact HB.out | apply below_alloc | apply pw_below_drewN | apply below_drew1 | refine below_set ?_ GE394.out) | exact HB.out)) hb); clear BK394; clear HB; have BK394 := n0_; have HB := n1_; clear n0_ n1_; (try clear hb); (try clear hb2); (try clear hk); (try clear hi)) | ((with_reducible refine gate_callee (f := 25) rfl ?_); refine goesL_ (some 18) rfl rfl Tryz.func25 (by kernel_rfl) rfl #[.string t395] rfl (by (try simp only [List.map_toArray, List.map_cons, List.map_nil]); first | done | rfl | (simp only [List.length_drop, List.length_take]; rfl)) ?_; (with_reducible refine (tithebarnref08_Write.calls k t395 t397 _ A5.out).mono ?_); rintro e w9 ⟨rfl, hb⟩; refine ⟨_, rfl, ?_⟩; have n0_ := Aside0.mk (blk_below (g := gb394) (o := .cells #[.bool a1_0, .slice A1_1 l1_1.length c1_1] 26 (0, 0)) (by (with_reducible repeat (first | refine blk_drewN ?_ _ | refine blk_drew ?_ | refine blk_alloc ?_ _)); exact BK394.out) hb); have n1_ := Aside0.mk (below_step (by repeat (first | (with_reducible first | exact HB.out | apply below_alloc | apply pw_below_drewN | apply below_drew1 | refine below_set ?_ GE394.out) | exact HB.out)) hb); clear BK394; clear HB; have BK394 := n0_; have HB := n1_; clear n0_ n1_; (try clear hb); (try clear hb2); (try clear hk); (try clear hi)))
    go_ret2
    exact ⟨by first | rfl | (simp [errW_none, errW_some] <;> rfl) | (simp [*, errW_none, errW_some] <;> rfl), by repeat (first | (with_reducible first | exact HB.out | apply below_alloc | apply pw_below_drewN | apply below_drew1 | refine below_set ?_ GE394.out) | exact HB.out)⟩
  · rw [if_neg c4] at H
    have c4b0 : (t396 == 0) = false := beq_eq_false_iff_ne.mpr c4
    have c4b1 : (t396 != 0) = true := bne_iff_ne.mpr c4
    simp only [Option.some.injEq, Prod.mk.injEq] at H
    obtain ⟨rfl, rfl⟩ := H
    go_enter Tryz.func9, Tryz.ntmps9
    go_wp2_with (first | ((with_reducible refine gate_dst (N := 3) rfl ?_); refine box_event ?hg (N := 3) ?hd (cs := #[.bool a1_0, .slice A1_1 l1_1.length c1_1]) (t := 26) ?hr ?_; (case hd => rfl); (case hg => rfl); (case hr => first | (go_simp; done) | (go_simp; rfl)); intro gb394 hg w10 hbox hb; have n0_ := Aside0.mk (below_step (by repeat (first | (with_reducible first | exact HB.out | apply below_alloc | apply pw_below_drewN | apply below_drew1) | exact HB.out)) hb); have n1_ := Aside0.mk (hbox); have n2_ := Aside0.mk ((by rw [hg]; exact (below_size (by repeat (first | (with_reducible first | exact HB.out | apply below_alloc | apply pw_below_drewN | apply below_drew1) | exact HB.out))) : w.heap.size ≤ gb394)); have n3_ := Aside0.mk ((by rw [hg]; exact (below_size (by repeat (first | (with_reducible first | exact HB.out | apply below_alloc | apply pw_below_drewN | apply below_drew1) | exact HB.out))) : w.heap.size ≤ gb394)); clear HB; have HB := n0_; have BK394 := n1_; have GW394 := n2_; have GE394 := n3_; clear n0_ n1_ n2_ n3_; clear hb hbox hg; have hcz11_0 : w10.cell? ⟨gb394, 0, none⟩ = some (.bool a1_0) := (blk_cell BK394.out 0).trans rfl; have hcz11_1 : w10.cell? ⟨gb394, 1, none⟩ = some (.slice A1_1 l1_1.length c1_1) := (blk_cell BK394.out 1).trans rfl; have hfz11_0 := blk_frozen BK394.out 0; have hfz11_1 := blk_frozen BK394.out 1) | ((with_reducible refine gate_callee (f := 24) rfl ?_); refine goesL_ (some 11) rfl rfl Tryz.func24 (by kernel_rfl) rfl #[.slice A0 l0.length c0, .agg #[.bool a1_0, .slice A1_1 l1_1.length c1_1]] rfl (by (try simp only [List.map_toArray, List.map_cons, List.map_nil]); first | done | rfl | (simp only [List.length_drop, List.length_take]; rfl)) ?_; (with_reducible refine (tithebarnref07_Write.calls k _ _ l0 a1_0 _ _ l1_1 t395 t396 _ ?side1 ?side2 ?side3 ?side4 A3.out).mono ?_); (case side1 => repeat (first | exact (Kd.C_below HR0.out HB.out) | (with_reducible refine Kd.C_alloc ?_ _) | (with_reducible refine Kd.C_drewN ?_ _) | (with_reducible refine Kd.C_drew ?_))); (case side2 => exact HC0.out); (case side3 => repeat (first | exact (Kd.C_below HR1_1.out HB.out) | (with_reducible refine Kd.C_alloc ?_ _) | (with_reducible refine Kd.C_drewN ?_ _) | (with_reducible refine Kd.C_drew ?_))); (case side4 => exact HC1_1.out); rintro e w12 ⟨rfl, hb⟩; refine ⟨_, rfl, ?_⟩; have n0_ := Aside0.mk (blk_below (g := gb394) (o := .cells #[.bool a1_0, .slice A1_1 l1_1.length c1_1] 26 (0, 0)) (by (with_reducible repeat (first | refine blk_drewN ?_ _ | refine blk_drew ?_ | refine blk_alloc ?_ _)); exact BK394.out) hb); have n1_ := Aside0.mk (below_step (by repeat (first | (with_reducible first | exact HB.out | apply below_alloc | apply pw_below_drewN | apply below_drew1 | refine below_set ?_ GE394.out) | exact HB.out)) hb); clear BK394; clear HB; have BK394 := n0_; have HB := n1_; clear n0_ n1_; (try clear hb); (try clear hb2); (try clear hk); (try clear hi)))
    go_ret2
    exact ⟨by first | rfl | (simp [errW_none, errW_some] <;> rfl) | (simp [*, errW_none, errW_some] <;> rfl), by repeat (first | (with_reducible first | exact HB.out | apply below_alloc | apply pw_below_drewN | apply below_drew1 | refine below_set ?_ GE394.out) | exact HB.out)⟩
def tithebarnref02_Same.l0 : Nat → List (S46) → List (S46) → Int → Option (Bool)
  | 0, _, _, _ => none
  | k + 1, x0, x1, x5 => if x5 < (x0.length : Int) then (if 0 ≤ x5 then (if x5 < (x1.length : Int) then (if (!(((rd_T46 x0 x5).f0) == ((rd_T46 x1 x5).f0)) || (!(((rd_T46 x0 x5).f1) == ((rd_T46 x1 x5).f1)) || (!((((rd_T46 x0 x5).f2).toList) == (((rd_T46 x1 x5).f2).toList))))) = true then (some false) else (tithebarnref02_Same.l0 k x0 x1 (wrap64 (x5 + 1)))) else (none)) else (none)) else (some true)
def tithebarnref02_Same.f (k : Nat) (l0 : List (S46)) (l1 : List (S46)) : Option (Bool) := if (l0.length : Int) = (l1.length : Int) then (tithebarnref02_Same.l0 k l0 l1 0) else (some false)
set_option maxHeartbeats 8000000 in
set_option maxRecDepth 100000 in
theorem tithebarnref02_Same.calls (k : Nat) (A0 : Option Addr) (c0 : Nat) (l0 : List (S46)) (A1 : Option Addr) (c1 : Nat) (l1 : List (S46)) (r : Bool) (w : World) (hr0 : Kd.C k46 w A0 l0.length l0) (hc0 : l0.length ≤ c0) (hr1 : Kd.C k46 w A1 l1.length l1) (hc1 : l1.length ≤ c1) (h : tithebarnref02_Same.f k l0 l1 = some r) :
    Calls Tryz.prog 58 #[.slice A0 l0.length c0, .slice A1 l1.length c1] w fun e w' => e = .returned (.bool r) ∧ Drawn0 w w' := by
  have hu46 := Tryz.underlying46
  have HR0 := Aside0.mk hr0
  have HC0 := Aside0.mk hc0
  clear hr0 hc0
  have HR1 := Aside0.mk hr1
  have HC1 := Aside0.mk hc1
  clear hr1 hc1
  have H : (if (l0.length : Int) = (l1.length : Int) then (tithebarnref02_Same.l0 k l0 l1 0) else (some false)) = some r := h
  clear h
  by_cases c3 : (l0.length : Int) = (l1.length : Int)
  · rw [if_pos c3] at H
    have c3b0 : ((l0.length : Int) == (l1.length : Int)) = true := beq_iff_eq.mpr c3
    have c3b1 : ((l0.length : Int) != (l1.length : Int)) = false := bne_eq_false_iff_eq.mpr c3
    have c3b2 : (l0.length == l1.length) = true := by first | simpa using c3 | (simp at c3 ⊢; omega)
    clear c3
    have H' := Aside0.mk H
    clear H
    go_enter Tryz.func58, Tryz.ntmps58
    go_wp2
    repeat (go_quiet (fail); try go_wp2)
    go_loopg [5] k (fun kq v5 w' => ∃ (x5_1 : Int), v5 = .int .i64 x5_1 ∧ Aside0 (tithebarnref02_Same.l0 kq l0 l1 x5_1 = some r) ∧ Aside0 (kq ≤ k) ∧ Drawn0 w w')
    case atStart => exact ⟨(0), (by first | rfl | (simp; done) | (simp [*]; done)), H', ⟨Nat.le_refl _⟩, by repeat (first | exact Drawn0.refl _ | apply Drawn0.step)⟩
    case round =>
      clear H'
      try clear c1
      try clear p2
      try clear c3
      try clear c3b0
      try clear c3b1
      try clear c3b2
      obtain ⟨x5_1, rfl, HA, HK1, ⟨m1, rfl⟩⟩ := hrel
      cases gk with
      | zero => exact absurd HA.out (by simp [tithebarnref02_Same.l0])
      | succ k1 =>
        have H := HA.out
        clear HA
        simp only [tithebarnref02_Same.l0] at H
        by_cases c4 : x5_1 < (l0.length : Int)
        · rw [if_pos c4] at H
          have c4b0 : decide (x5_1 < (l0.length : Int)) = true := decide_eq_true c4
          clear c4
          by_cases c5 : 0 ≤ x5_1
          · rw [if_pos c5] at H
            have c5b0 : decide (0 ≤ x5_1) = true := decide_eq_true c5
            clear c5
            by_cases c6 : x5_1 < (l1.length : Int)
            · rw [if_pos c6] at H
              have c6b0 : decide (x5_1 < (l1.length : Int)) = true := decide_eq_true c6
              clear c6
              by_cases c7 : (!(((rd_T46 l0 x5_1).f0) == ((rd_T46 l1 x5_1).f0)) || (!(((rd_T46 l0 x5_1).f1) == ((rd_T46 l1 x5_1).f1)) || (!((((rd_T46 l0 x5_1).f2).toList) == (((rd_T46 l1 x5_1).f2).toList))))) = true
              · rw [if_pos c7] at H
                have c7b0 : (!(((rd_T46 l0 x5_1).f0) == ((rd_T46 l1 x5_1).f0)) || (!(((rd_T46 l0 x5_1).f1) == ((rd_T46 l1 x5_1).f1)) || (!((((rd_T46 l0 x5_1).f2).toList) == (((rd_T46 l1 x5_1).f2).toList))))) = true := c7
                clear c7
                obtain rfl := Option.some.inj H
                have p398 : 0 ≤ (x5_1 : Int) := of_decide_eq_true (by first | (with_reducible assumption) | assumption)
                have q398 : x5_1 < (l0.length : Int) := of_decide_eq_true (by first | (with_reducible assumption) | assumption)
                obtain ⟨ad398, e398, hx398_0, hx398_1, hx398_2⟩ := at_T46 HR0.out x5_1 p398 q398
                cases e398
                replace p398 := eq_true p398
                replace q398 := eq_true q398
                have p399 : 0 ≤ (x5_1 : Int) := of_decide_eq_true (by first | (with_reducible assumption) | assumption)
                have q399 : x5_1 < (l1.length : Int) := of_decide_eq_true (by first | (with_reducible assumption) | assumption)
                obtain ⟨ad399, e399, hx399_0, hx399_1, hx399_2⟩ := at_T46 HR1.out x5_1 p399 q399
                cases e399
                replace p399 := eq_true p399
                replace q399 := eq_true q399
                go_wp2
                repeat (go_quiet (fail); try go_wp2)
                go_ret
                exact ⟨by first | rfl | (simp; done) | (simp [*]; done), by repeat (first | exact Drawn0.refl _ | apply Drawn0.step)⟩
              · rw [if_neg c7] at H
                have c7b0 : (!(((rd_T46 l0 x5_1).f0) == ((rd_T46 l1 x5_1).f0)) || (!(((rd_T46 l0 x5_1).f1) == ((rd_T46 l1 x5_1).f1)) || (!((((rd_T46 l0 x5_1).f2).toList) == (((rd_T46 l1 x5_1).f2).toList))))) = false := by simpa using c7
                clear c7
                have H' := Aside0.mk H
                clear H
                have p398 : 0 ≤ (x5_1 : Int) := of_decide_eq_true (by first | (with_reducible assumption) | assumption)
                have q398 : x5_1 < (l0.length : Int) := of_decide_eq_true (by first | (with_reducible assumption) | assumption)
                obtain ⟨ad398, e398, hx398_0, hx398_1, hx398_2⟩ := at_T46 HR0.out x5_1 p398 q398
                cases e398
                replace p398 := eq_true p398
                replace q398 := eq_true q398
                have p399 : 0 ≤ (x5_1 : Int) := of_decide_eq_true (by first | (with_reducible assumption) | assumption)
                have q399 : x5_1 < (l1.length : Int) := of_decide_eq_true (by first | (with_reducible assumption) | assumption)
                obtain ⟨ad399, e399, hx399_0, hx399_1, hx399_2⟩ := at_T46 HR1.out x5_1 p399 q399
                cases e399
                replace p399 := eq_true p399
                replace q399 := eq_true q399
                go_wp2
                repeat (go_quiet (fail); try go_wp2)
                go_roundg k1
                case measure => have := HK1.out; omega
                case rel => exact ⟨(wrap64 (x5_1 + 1)), (by first | rfl | (simp; done) | (simp [*]; done)), H', ⟨by have := HK1.out; omega⟩, by repeat (first | exact Drawn0.refl _ | apply Drawn0.step)⟩
            · rw [if_neg c6] at H
              exact absurd H (by simp)
          · rw [if_neg c5] at H
            exact absurd H (by simp)
        · rw [if_neg c4] at H
          have c4b0 : decide (x5_1 < (l0.length : Int)) = false := decide_eq_false c4
          clear c4
          obtain rfl := Option.some.inj H
          go_wp2
          repeat (go_quiet (fail); try go_wp2)
          go_ret
          exact ⟨by first | rfl | (simp; done) | (simp [*]; done), by repeat (first | exact Drawn0.refl _ | apply Drawn0.step)⟩
  · rw [if_neg c3] at H
    have c3b0 : ((l0.length : Int) == (l1.length : Int)) = false := beq_eq_false_iff_ne.mpr c3
    have c3b1 : ((l0.length : Int) != (l1.length : Int)) = true := bne_iff_ne.mpr c3
    have c3b2 : (l0.length == l1.length) = false := by first | simpa using c3 | (simp at c3 ⊢; omega)
    obtain rfl := Option.some.inj H
    go_enter Tryz.func58, Tryz.ntmps58
    go_wp2
    repeat (go_quiet (fail); try go_wp2)
    go_ret
    exact ⟨by first | rfl | (simp; done) | (simp [*]; done), by repeat (first | exact Drawn0.refl _ | apply Drawn0.step)⟩
def tithebarnref07_Same.f (k : Nat) (a0_0 : Bool) (l0_1 : List (S46)) (a1_0 : Bool) (l1_1 : List (S46)) : Option (Bool) := if (a0_0 == a1_0) = true then ((tithebarnref02_Same.f k l0_1 l1_1).bind fun t402 => (some t402)) else (some false)
set_option maxHeartbeats 8000000 in
set_option maxRecDepth 100000 in
theorem tithebarnref07_Same.calls (k : Nat) (a0_0 : Bool) (A0_1 : Option Addr) (c0_1 : Nat) (l0_1 : List (S46)) (a1_0 : Bool) (A1_1 : Option Addr) (c1_1 : Nat) (l1_1 : List (S46)) (r : Bool) (w : World) (hr0_1 : Kd.C k46 w A0_1 l0_1.length l0_1) (hc0_1 : l0_1.length ≤ c0_1) (hr1_1 : Kd.C k46 w A1_1 l1_1.length l1_1) (hc1_1 : l1_1.length ≤ c1_1) (h : tithebarnref07_Same.f k a0_0 l0_1 a1_0 l1_1 = some r) :
    Calls Tryz.prog 26 #[.agg #[.bool a0_0, .slice A0_1 l0_1.length c0_1], .agg #[.bool a1_0, .slice A1_1 l1_1.length c1_1]] w fun e w' => e = .returned (.bool r) ∧ Below w.heap.size w w' := by
  have hu26 := Tryz.underlying26
  have HR0_1 := Aside0.mk hr0_1
  have HC0_1 := Aside0.mk hc0_1
  clear hr0_1 hc0_1
  have HR1_1 := Aside0.mk hr1_1
  have HC1_1 := Aside0.mk hc1_1
  clear hr1_1 hc1_1
  have HB := Aside0.mk (Below.refl w.heap.size w)
  have H : (if (a0_0 == a1_0) = true then ((tithebarnref02_Same.f k l0_1 l1_1).bind fun t402 => (some t402)) else (some false)) = some r := h
  clear h
  by_cases c3 : (a0_0 == a1_0) = true
  · rw [if_pos c3] at H
    have c3b0 : (a0_0 == a1_0) = true := c3
    (try (have c3b1 : decide (a0_0 = a1_0) = true := by simpa using c3))
    (try (have c3b2 : (a0_0 == a1_0) = true := by simpa using c3))
    clear c3
    replace H := Option.bind_eq_some_iff.mp H
    obtain ⟨t402, A40, H⟩ := H
    replace H : (some t402) = some r := H
    have A4 := Aside0.mk A40
    clear A40
    obtain rfl := Option.some.inj H
    go_enter Tryz.func26, Tryz.ntmps26
    go_wp2_with (first | ((with_reducible refine gate_dst (N := 2) rfl ?_); refine box_event ?hg (N := 2) ?hd (cs := #[.bool a0_0, .slice A0_1 l0_1.length c0_1]) (t := 26) ?hr ?_; (case hd => rfl); (case hg => rfl); (case hr => first | (go_simp; done) | (go_simp; rfl)); intro gb400 hg w5 hbox hb; have n0_ := Aside0.mk (below_step (by repeat (first | (with_reducible first | exact HB.out | apply below_alloc | apply pw_below_drewN | apply below_drew1) | exact HB.out)) hb); have n1_ := Aside0.mk (hbox); have n2_ := Aside0.mk ((by rw [hg]; exact (below_size (by repeat (first | (with_reducible first | exact HB.out | apply below_alloc | apply pw_below_drewN | apply below_drew1) | exact HB.out))) : w.heap.size ≤ gb400)); have n3_ := Aside0.mk ((by rw [hg]; exact (below_size (by repeat (first | (with_reducible first | exact HB.out | apply below_alloc | apply pw_below_drewN | apply below_drew1) | exact HB.out))) : w.heap.size ≤ gb400)); clear HB; have HB := n0_; have BK400 := n1_; have GW400 := n2_; have GE400 := n3_; clear n0_ n1_ n2_ n3_; clear hb hbox hg) | ((with_reducible refine gate_dst (N := 3) rfl ?_); refine box_event ?hg (N := 3) ?hd (cs := #[.bool a1_0, .slice A1_1 l1_1.length c1_1]) (t := 26) ?hr ?_; (case hd => rfl); (case hg => rfl); (case hr => first | (go_simp; done) | (go_simp; rfl)); intro gb401 hg w6 hbox hb; have n0_ := Aside0.mk (blk_below (g := gb400) (o := .cells #[.bool a0_0, .slice A0_1 l0_1.length c0_1] 26 (0, 0)) (by (with_reducible repeat (first | refine blk_drewN ?_ _ | refine blk_drew ?_ | refine blk_alloc ?_ _)); exact BK400.out) hb); have n1_ := Aside0.mk (below_step (by repeat (first | (with_reducible first | exact HB.out | apply below_alloc | apply pw_below_drewN | apply below_drew1 | refine below_set ?_ GE400.out) | exact HB.out)) hb); have n2_ := Aside0.mk (hbox); have n3_ := Aside0.mk ((by rw [hg]; exact (below_size (by repeat (first | (with_reducible first | exact HB.out | apply below_alloc | apply pw_below_drewN | apply below_drew1 | refine below_set ?_ GE400.out) | exact HB.out))) : w.heap.size ≤ gb401)); have n4_ := Aside0.mk ((by rw [hg]; exact (below_size (by repeat (first | (with_reducible first | exact HB.out | apply below_alloc | apply pw_below_drewN | apply below_drew1 | refine below_set ?_ GE400.out) | exact HB.out))) : w.heap.size ≤ gb401)); have n5_ := Aside0.mk ((by rw [hg]; exact Nat.ne_of_lt (blk_lt (g := gb400) (o := .cells #[.bool a0_0, .slice A0_1 l0_1.length c0_1] 26 (0, 0)) (by (with_reducible repeat (first | refine blk_drewN ?_ _ | refine blk_drew ?_ | refine blk_alloc ?_ _)); exact BK400.out)) : gb400 ≠ gb401)); have n6_ := Aside0.mk ((by rw [hg]; exact Nat.ne_of_gt (blk_lt (g := gb400) (o := .cells #[.bool a0_0, .slice A0_1 l0_1.length c0_1] 26 (0, 0)) (by (with_reducible repeat (first | refine blk_drewN ?_ _ | refine blk_drew ?_ | refine blk_alloc ?_ _)); exact BK400.out)) : gb401 ≠ gb400)); clear BK400; clear HB; have BK400 := n0_; have HB := n1_; have BK401 := n2_; have GW401 := n3_; have GE401 := n4_; have NB400_401 := n5_; have NB401_400 := n6_; clear n0_ n1_ n2_ n3_ n4_ n5_ n6_; clear hb hbox hg; have hnb7 := NB400_401.out; have hnc7 := NB401_400.out; have hcz8_0 : w6.cell? ⟨gb400, 0, none⟩ = some (.bool a0_0) := (blk_cell BK400.out 0).trans rfl; have hcz8_1 : w6.cell? ⟨gb400, 1, none⟩ = some (.slice A0_1 l0_1.length c0_1) := (blk_cell BK400.out 1).trans rfl; have hfz8_0 := blk_frozen BK400.out 0; have hfz8_1 := blk_frozen BK400.out 1; have hcz9_0 : w6.cell? ⟨gb401, 0, none⟩ = some (.bool a1_0) := (blk_cell BK401.out 0).trans rfl; have hcz9_1 : w6.cell? ⟨gb401, 1, none⟩ = some (.slice A1_1 l1_1.length c1_1) := (blk_cell BK401.out 1).trans rfl; have hfz9_0 := blk_frozen BK401.out 0; have hfz9_1 := blk_frozen BK401.out 1) | (go_at_call 58; (with_reducible refine (tithebarnref02_Same.calls k _ _ l0_1 _ _ l1_1 t402 _ ?side1 ?side2 ?side3 ?side4 A4.out).mono ?_); (case side1 => repeat (first | exact (Kd.C_below HR0_1.out HB.out) | (with_reducible refine Kd.C_alloc ?_ _) | (with_reducible refine Kd.C_drewN ?_ _) | (with_reducible refine Kd.C_drew ?_))); (case side2 => exact HC0_1.out); (case side3 => repeat (first | exact (Kd.C_below HR1_1.out HB.out) | (with_reducible refine Kd.C_alloc ?_ _) | (with_reducible refine Kd.C_drewN ?_ _) | (with_reducible refine Kd.C_drew ?_))); (case side4 => exact HC1_1.out); rintro e w' ⟨rfl, ⟨nd, rfl⟩⟩))
    go_ret
    exact ⟨by first | rfl | (simp [errW_none, errW_some] <;> rfl) | (simp [*, errW_none, errW_some] <;> rfl), by repeat (first | (with_reducible first | exact HB.out | apply below_alloc | apply pw_below_drewN | apply below_drew1 | refine below_set ?_ GE400.out | refine below_set ?_ GE401.out) | exact HB.out)⟩
  · rw [if_neg c3] at H
    have c3b0 : (a0_0 == a1_0) = false := by simpa using c3
    (try (have c3b1 : decide (a0_0 = a1_0) = false := by simpa using c3))
    (try (have c3b2 : (a0_0 == a1_0) = false := by simpa using c3))
    (try (have c3b3 : ¬ (a0_0 = a1_0) := by simpa using c3))
    clear c3
    obtain rfl := Option.some.inj H
    go_enter Tryz.func26, Tryz.ntmps26
    go_wp2_with (first | ((with_reducible refine gate_dst (N := 2) rfl ?_); refine box_event ?hg (N := 2) ?hd (cs := #[.bool a0_0, .slice A0_1 l0_1.length c0_1]) (t := 26) ?hr ?_; (case hd => rfl); (case hg => rfl); (case hr => first | (go_simp; done) | (go_simp; rfl)); intro gb400 hg w10 hbox hb; have n0_ := Aside0.mk (below_step (by repeat (first | (with_reducible first | exact HB.out | apply below_alloc | apply pw_below_drewN | apply below_drew1) | exact HB.out)) hb); have n1_ := Aside0.mk (hbox); have n2_ := Aside0.mk ((by rw [hg]; exact (below_size (by repeat (first | (with_reducible first | exact HB.out | apply below_alloc | apply pw_below_drewN | apply below_drew1) | exact HB.out))) : w.heap.size ≤ gb400)); have n3_ := Aside0.mk ((by rw [hg]; exact (below_size (by repeat (first | (with_reducible first | exact HB.out | apply below_alloc | apply pw_below_drewN | apply below_drew1) | exact HB.out))) : w.heap.size ≤ gb400)); clear HB; have HB := n0_; have BK400 := n1_; have GW400 := n2_; have GE400 := n3_; clear n0_ n1_ n2_ n3_; clear hb hbox hg) | ((with_reducible refine gate_dst (N := 3) rfl ?_); refine box_event ?hg (N := 3) ?hd (cs := #[.bool a1_0, .slice A1_1 l1_1.length c1_1]) (t := 26) ?hr ?_; (case hd => rfl); (case hg => rfl); (case hr => first | (go_simp; done) | (go_simp; rfl)); intro gb401 hg w11 hbox hb; have n0_ := Aside0.mk (blk_below (g := gb400) (o := .cells #[.bool a0_0, .slice A0_1 l0_1.length c0_1] 26 (0, 0)) (by (with_reducible repeat (first | refine blk_drewN ?_ _ | refine blk_drew ?_ | refine blk_alloc ?_ _)); exact BK400.out) hb); have n1_ := Aside0.mk (below_step (by repeat (first | (with_reducible first | exact HB.out | apply below_alloc | apply pw_below_drewN | apply below_drew1 | refine below_set ?_ GE400.out) | exact HB.out)) hb); have n2_ := Aside0.mk (hbox); have n3_ := Aside0.mk ((by rw [hg]; exact (below_size (by repeat (first | (with_reducible first | exact HB.out | apply below_alloc | apply pw_below_drewN | apply below_drew1 | refine below_set ?_ GE400.out) | exact HB.out))) : w.heap.size ≤ gb401)); have n4_ := Aside0.mk ((by rw [hg]; exact (below_size (by repeat (first | (with_reducible first | exact HB.out | apply below_alloc | apply pw_below_drewN | apply below_drew1 | refine below_set ?_ GE400.out) | exact HB.out))) : w.heap.size ≤ gb401)); have n5_ := Aside0.mk ((by rw [hg]; exact Nat.ne_of_lt (blk_lt (g := gb400) (o := .cells #[.bool a0_0, .slice A0_1 l0_1.length c0_1] 26 (0, 0)) (by (with_reducible repeat (first | refine blk_drewN ?_ _ | refine blk_drew ?_ | refine blk_alloc ?_ _)); exact BK400.out)) : gb400 ≠ gb401)); have n6_ := Aside0.mk ((by rw [hg]; exact Nat.ne_of_gt (blk_lt (g := gb400) (o := .cells #[.bool a0_0, .slice A0_1 l0_1.length c0_1] 26 (0, 0)) (by (with_reducible repeat (first | refine blk_drewN ?_ _ | refine blk_drew ?_ | refine blk_alloc ?_ _)); exact BK400.out)) : gb401 ≠ gb400)); clear BK400; clear HB; have BK400 := n0_; have HB := n1_; have BK401 := n2_; have GW401 := n3_; have GE401 := n4_; have NB400_401 := n5_; have NB401_400 := n6_; clear n0_ n1_ n2_ n3_ n4_ n5_ n6_; clear hb hbox hg; have hnb12 := NB400_401.out; have hnc12 := NB401_400.out; have hcz13_0 : w11.cell? ⟨gb400, 0, none⟩ = some (.bool a0_0) := (blk_cell BK400.out 0).trans rfl; have hcz13_1 : w11.cell? ⟨gb400, 1, none⟩ = some (.slice A0_1 l0_1.length c0_1) := (blk_cell BK400.out 1).trans rfl; have hfz13_0 := blk_frozen BK400.out 0; have hfz13_1 := blk_frozen BK400.out 1; have hcz14_0 : w11.cell? ⟨gb401, 0, none⟩ = some (.bool a1_0) := (blk_cell BK401.out 0).trans rfl; have hcz14_1 : w11.cell? ⟨gb401, 1, none⟩ = some (.slice A1_1 l1_1.length c1_1) := (blk_cell BK401.out 1).trans rfl; have hfz14_0 := blk_frozen BK401.out 0; have hfz14_1 := blk_frozen BK401.out 1))
    go_ret
    exact ⟨by first | rfl | (simp [errW_none, errW_some] <;> rfl) | (simp [*, errW_none, errW_some] <;> rfl), by repeat (first | (with_reducible first | exact HB.out | apply below_alloc | apply pw_below_drewN | apply below_drew1 | refine below_set ?_ GE400.out | refine below_set ?_ GE401.out) | exact HB.out)⟩
end Go.Proofs.YteddgkkggjfmpaaGreatDoor.A
