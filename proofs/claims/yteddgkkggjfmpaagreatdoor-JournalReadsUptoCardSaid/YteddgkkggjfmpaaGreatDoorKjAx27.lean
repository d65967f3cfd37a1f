/- Words and walks that the print wrote for this claim: those that the claim leans on (wip/shake.py). -/
import Derived.Test.YteddgkkggjfmpaaGreatDoorKjAx0
import Derived.Test.YteddgkkggjfmpaaGreatDoorKjAx7
import Derived.Test.YteddgkkggjfmpaaGreatDoorKjAx10
import Derived.Test.YteddgkkggjfmpaaGreatDoorKjAx15
import Derived.Test.YteddgkkggjfmpaaGreatDoorKjAx21
import Derived.Test.YteddgkkggjfmpaaGreatDoorKjAx25
import Derived.Test.YteddgkkggjfmpaaGreatDoorKjAx26
namespace Go.Proofs.YteddgkkggjfmpaaGreatDoor.A
open Go.RowKit Go.Proofs.YteddgkkggjfmpaaGreatDoorW.PrintWords Go.Proofs.YteddgkkggjfmpaaGreatDoorW.PrintLast Go.Proofs.YteddgkkggjfmpaaGreatDoorW.PrintMore
set_option linter.unusedVariables false
set_option linter.unusedSimpArgs false
def tithebarnlaw15_JournalReads.f (k : Nat) (l0 : List (S44)) (a1 : ByteArray) (a2_0 : Bool) (l2_1 : List (S46)) : Option (Bool) := (tithebarnlaw15_lives.f k).bind fun t407 => (if t407 = true then ((journal_Read.f k l0 a1).bind fun bt408 => ((tithebarnref15_Read.f k l0 a1).bind fun bt412 => ((journal_Write.f k l0 a2_0 l2_1).bind fun bt416 => ((tithebarnref15_Write.f k l0 a2_0 l2_1).bind fun bt418 => (if bt408.2 = bt412.2 then ((tithebarnref07_SameAll.f k bt408.1 bt412.1).bind fun t420 => (if t420 = true then (if bt416.1.toList = bt418.1.toList then (some (bt416.2 == bt418.2)) else (some false)) else (some false))) else (some false)))))) else (some false))
set_option maxHeartbeats 8000000 in
set_option maxRecDepth 100000 in
theorem tithebarnlaw15_JournalReads.calls (k : Nat) (A0 : Option Addr) (c0 : Nat) (l0 : List (S44)) (a1 : ByteArray) (a2_0 : Bool) (A2_1 : Option Addr) (c2_1 : Nat) (l2_1 : List (S46)) (r : Bool) (w : World) (hr0 : Kd.C k44 w A0 l0.length l0) (hc0 : l0.length ≤ c0) (hr2_1 : Kd.C k46 w A2_1 l2_1.length l2_1) (hc2_1 : l2_1.length ≤ c2_1) (h : tithebarnlaw15_JournalReads.f k l0 a1 a2_0 l2_1 = some r) (hr : r = true) :
    Calls Tryz.prog 3 #[.slice A0 l0.length c0, .string a1, .agg #[.bool a2_0, .slice A2_1 l2_1.length c2_1]] w fun e w' => e = .returned (.bool r) ∧ Below w.heap.size w w' := by
  have hu26 := Tryz.underlying26
  have HR0 := Aside0.mk hr0
  have HC0 := Aside0.mk hc0
  clear hr0 hc0
  have HR2_1 := Aside0.mk hr2_1
  have HC2_1 := Aside0.mk hc2_1
  clear hr2_1 hc2_1
  have HB := Aside0.mk (Below.refl w.heap.size w)
  have H : ((tithebarnlaw15_lives.f k).bind fun t407 => (if t407 = true then ((journal_Read.f k l0 a1).bind fun bt408 => ((tithebarnref15_Read.f k l0 a1).bind fun bt412 => ((journal_Write.f k l0 a2_0 l2_1).bind fun bt416 => ((tithebarnref15_Write.f k l0 a2_0 l2_1).bind fun bt418 => (if bt408.2 = bt412.2 then ((tithebarnref07_SameAll.f k bt408.1 bt412.1).bind fun t420 => (if t420 = true then (if bt416.1.toList = bt418.1.toList then (some (bt416.2 == bt418.2)) else (some false)) else (some false))) else (some false)))))) else (some false))) = some r := h
  clear h
  replace H := Option.bind_eq_some_iff.mp H
  obtain ⟨t407, A40, H⟩ := H
  replace H : (if t407 = true then ((journal_Read.f k l0 a1).bind fun bt408 => ((tithebarnref15_Read.f k l0 a1).bind fun bt412 => ((journal_Write.f k l0 a2_0 l2_1).bind fun bt416 => ((tithebarnref15_Write.f k l0 a2_0 l2_1).bind fun bt418 => (if bt408.2 = bt412.2 then ((tithebarnref07_SameAll.f k bt408.1 bt412.1).bind fun t420 => (if t420 = true then (if bt416.1.toList = bt418.1.toList then (some (bt416.2 == bt418.2)) else (some false)) else (some false))) else (some false)))))) else (some false)) = some r := H
  have A4 := Aside0.mk A40
  clear A40
  by_cases c5 : t407 = true
  · subst c5
    have H1 : ((journal_Read.f k l0 a1).bind fun bt408 => ((tithebarnref15_Read.f k l0 a1).bind fun bt412 => ((journal_Write.f k l0 a2_0 l2_1).bind fun bt416 => ((tithebarnref15_Write.f k l0 a2_0 l2_1).bind fun bt418 => (if bt408.2 = bt412.2 then ((tithebarnref07_SameAll.f k bt408.1 bt412.1).bind fun t420 => (if t420 = true then (if bt416.1.toList = bt418.1.toList then (some (bt416.2 == bt418.2)) else (some false)) else (some false))) else (some false)))))) = some r := by rw [if_pos rfl] at H; exact H
    clear H
    have H := H1
    clear H1
    replace H := Option.bind_eq_some_iff.mp H
    obtain ⟨⟨t408, t409⟩, A60, H⟩ := H
    replace H : ((tithebarnref15_Read.f k l0 a1).bind fun bt412 => ((journal_Write.f k l0 a2_0 l2_1).bind fun bt416 => ((tithebarnref15_Write.f k l0 a2_0 l2_1).bind fun bt418 => (if t409 = bt412.2 then ((tithebarnref07_SameAll.f k t408 bt412.1).bind fun t420 => (if t420 = true then (if bt416.1.toList = bt418.1.toList then (some (bt416.2 == bt418.2)) else (some false)) else (some false))) else (some false))))) = some r := H
    have A6 := Aside0.mk A60
    clear A60
    replace H := Option.bind_eq_some_iff.mp H
    obtain ⟨⟨t412, t413⟩, A70, H⟩ := H
    replace H : ((journal_Write.f k l0 a2_0 l2_1).bind fun bt416 => ((tithebarnref15_Write.f k l0 a2_0 l2_1).bind fun bt418 => (if t409 = t413 then ((tithebarnref07_SameAll.f k t408 t412).bind fun t420 => (if t420 = true then (if bt416.1.toList = bt418.1.toList then (some (bt416.2 == bt418.2)) else (some false)) else (some false))) else (some false)))) = some r := H
    have A7 := Aside0.mk A70
    clear A70
    replace H := Option.bind_eq_some_iff.mp H
    obtain ⟨⟨t416, t417⟩, A80, H⟩ := H
    replace H : ((tithebarnref15_Write.f k l0 a2_0 l2_1).bind fun bt418 => (if t409 = t413 then ((tithebarnref07_SameAll.f k t408 t412).bind fun t420 => (if t420 = true then (if t416.toList = bt418.1.toList then (some (t417 == bt418.2)) else (some false)) else (some false))) else (some false))) = some r := H
    have A8 := Aside0.mk A80
    clear A80
    replace H := Option.bind_eq_some_iff.mp H
    obtain ⟨⟨t418, t419⟩, A90, H⟩ := H
    replace H : (if t409 = t413 then ((tithebarnref07_SameAll.f k t408 t412).bind fun t420 => (if t420 = true then (if t416.toList = t418.toList then (some (t417 == t419)) else (some false)) else (some false))) else (some false)) = some r := H
    have A9 := Aside0.mk A90
    clear A90
    by_cases c10 : t409 = t413
    · rw [if_pos c10] at H
      have c10b0 : (t409 == t413) = true := beq_iff_eq.mpr c10
      have c10b1 : (t409 != t413) = false := bne_eq_false_iff_eq.mpr c10
      clear c10
      replace H := Option.bind_eq_some_iff.mp H
      obtain ⟨t420, A110, H⟩ := H
      replace H : (if t420 = true then (if t416.toList = t418.toList then (some (t417 == t419)) else (some false)) else (some false)) = some r := H
      have A11 := Aside0.mk A110
      clear A110
      by_cases c12 : t420 = true
      · subst c12
        have H1 : (if t416.toList = t418.toList then (some (t417 == t419)) else (some false)) = some r := by rw [if_pos rfl] at H; exact H
        clear H
        have H := H1
        clear H1
        by_cases c13 : t416.toList = t418.toList
        · rw [if_pos c13] at H
          have c13b0 : (t416.toList == t418.toList) = true := beq_iff_eq.mpr c13
          have c13b1 : (t416.toList != t418.toList) = false := bne_eq_false_iff_eq.mpr c13
          clear c13
          obtain rfl := Option.some.inj H
          go_enter Tryz.func3, Tryz.ntmps3
          go_wp2_with (first | ((with_reducible refine gate_dst (N := 5) rfl ?_); refine box_event ?hg (N := 5) ?hd (cs := #[.bool a2_0, .slice A2_1 l2_1.length c2_1]) (t := 26) ?hr ?_; (case hd => rfl); (case hg => rfl); (case hr => first | (go_simp; done) | (go_simp; rfl)); intro gb406 hg w14 hbox hb; have n0_ := Aside0.mk (below_step (by repeat (first | (with_reducible first | exact HB.out | apply below_alloc | apply pw_below_drewN | apply below_drew1) | exact HB.out)) hb); have n1_ := Aside0.mk (hbox); have n2_ := Aside0.mk ((by rw [hg]; exact (below_size (by repeat (first | (with_reducible first | exact HB.out | apply below_alloc | apply pw_below_drewN | apply below_drew1) | exact HB.out))) : w.heap.size ≤ gb406)); have n3_ := Aside0.mk ((by rw [hg]; exact (below_size (by repeat (first | (with_reducible first | exact HB.out | apply below_alloc | apply pw_below_drewN | apply below_drew1) | exact HB.out))) : w.heap.size ≤ gb406)); clear HB; have HB := n0_; have BK406 := n1_; have GW406 := n2_; have GE406 := n3_; clear n0_ n1_ n2_ n3_; clear hb hbox hg) | ((with_reducible refine gate_callee (f := 5) rfl ?_); refine goesL_ (some 15) rfl rfl Tryz.func5 (by kernel_rfl) rfl #[] rfl (by (try simp only [List.map_toArray, List.map_cons, List.map_nil]); first | done | rfl | (simp only [List.length_drop, List.length_take]; rfl)) ?_; (with_reducible refine (tithebarnlaw15_lives.calls k  true _ A4.out rfl).mono ?_); rintro e w15 ⟨rfl, hb⟩; refine ⟨_, rfl, ?_⟩; have n0_ := Aside0.mk (blk_below (g := gb406) (o := .cells #[.bool a2_0, .slice A2_1 l2_1.length c2_1] 26 (0, 0)) (by (with_reducible repeat (first | refine blk_drewN ?_ _ | refine blk_drew ?_ | refine blk_alloc ?_ _)); exact BK406.out) hb); have n1_ := Aside0.mk (below_step (by repeat (first | (with_reducible first | exact HB.out | apply below_alloc | apply pw_below_drewN | apply below_drew1 | refine below_set ?_ GE406.out) | exact HB.out)) hb); clear BK406; clear HB; have BK406 := n0_; have HB := n1_; clear n0_ n1_; (try clear hb); (try clear hb2); (try clear hk); (try clear hi)) | ((with_reducible refine gate_callee (f := 6) rfl ?_); refine goesL_ (some 20) rfl rfl Tryz.func6 (by kernel_rfl) rfl #[.slice A0 l0.length c0, .string a1] rfl (by (try simp only [List.map_toArray, List.map_cons, List.map_nil]); first | done | rfl | (simp only [List.length_drop, List.length_take]; rfl)) ?_; (with_reducible refine (journal_Read.calls k _ _ l0 a1 t408 t409 _ ?side1 ?side2 A6.out).mono ?_); (case side1 => repeat (first | exact (Kd.C_below HR0.out HB.out) | (with_reducible refine Kd.C_alloc ?_ _) | (with_reducible refine Kd.C_drewN ?_ _) | (with_reducible refine Kd.C_drew ?_))); (case side2 => exact HC0.out); rintro e w16 ⟨v410, rfl, ho0, hb⟩; refine ⟨_, rfl, ?_⟩; have n0_ := Aside0.mk (Kd.S_lower (Kd.S_newB ho0 (g := gb406) (o := .cells #[.bool a2_0, .slice A2_1 l2_1.length c2_1] 26 (0, 0)) (by (with_reducible repeat (first | refine blk_drewN ?_ _ | refine blk_drew ?_ | refine blk_alloc ?_ _)); exact BK406.out)) (below_size (by repeat (first | (with_reducible first | exact HB.out | apply below_alloc | apply pw_below_drewN | apply below_drew1 | refine below_set ?_ GE406.out) | exact HB.out)))); have n1_ := Aside0.mk (blk_below (g := gb406) (o := .cells #[.bool a2_0, .slice A2_1 l2_1.length c2_1] 26 (0, 0)) (by (with_reducible repeat (first | refine blk_drewN ?_ _ | refine blk_drew ?_ | refine blk_alloc ?_ _)); exact BK406.out) hb); have n2_ := Aside0.mk (below_step (by repeat (first | (with_reducible first | exact HB.out | apply below_alloc | apply pw_below_drewN | apply below_drew1 | refine below_set ?_ GE406.out) | exact HB.out)) hb); clear BK406; clear HB; have HO411 := n0_; have BK406 := n1_; have HB := n2_; clear n0_ n1_ n2_; (try clear hb); (try clear hb2); (try clear hk); (try clear hi); (try clear ho0)) | ((with_reducible refine gate_callee (f := 7) rfl ?_); refine goesL_ (some 26) rfl rfl Tryz.func7 (by kernel_rfl) rfl #[.slice A0 l0.length c0, .string a1] rfl (by (try simp only [List.map_toArray, List.map_cons, List.map_nil]); first | done | rfl | (simp only [List.length_drop, List.length_take]; rfl)) ?_; (with_reducible refine (tithebarnref15_Read.calls k _ _ l0 a1 t412 t413 _ ?side1 ?side2 A7.out).mono ?_); (case side1 => repeat (first | exact (Kd.C_below HR0.out HB.out) | (with_reducible refine Kd.C_alloc ?_ _) | (with_reducible refine Kd.C_drewN ?_ _) | (with_reducible refine Kd.C_drew ?_))); (case side2 => exact HC0.out); rintro e w17 ⟨v414, rfl, ho0, hb⟩; refine ⟨_, rfl, ?_⟩; have n0_ := Aside0.mk (Kd.S_elder' (by (with_reducible repeat (first | apply Kd.S_alloc | apply Kd.S_drewN | apply Kd.S_drew)); exact HO411.out) (Kd.S_base ho0) hb); have n1_ := Aside0.mk (Kd.S_lower (Kd.S_newB (Kd.S_new' ho0 (Kd.S_lt (by (with_reducible repeat (first | apply Kd.S_alloc | apply Kd.S_drewN | apply Kd.S_drew)); exact HO411.out))) (g := gb406) (o := .cells #[.bool a2_0, .slice A2_1 l2_1.length c2_1] 26 (0, 0)) (by (with_reducible repeat (first | refine blk_drewN ?_ _ | refine blk_drew ?_ | refine blk_alloc ?_ _)); exact BK406.out)) (below_size (by repeat (first | (with_reducible first | exact HB.out | apply below_alloc | apply pw_below_drewN | apply below_drew1 | refine below_set ?_ GE406.out) | exact HB.out)))); have n2_ := Aside0.mk (blk_below (g := gb406) (o := .cells #[.bool a2_0, .slice A2_1 l2_1.length c2_1] 26 (0, 0)) (by (with_reducible repeat (first | refine blk_drewN ?_ _ | refine blk_drew ?_ | refine blk_alloc ?_ _)); exact BK406.out) hb); have n3_ := Aside0.mk (below_step (by repeat (first | (with_reducible first | exact HB.out | apply below_alloc | apply pw_below_drewN | apply below_drew1 | refine below_set ?_ GE406.out) | exact HB.out)) hb); clear HO411; clear BK406; clear HB; have HO411 := n0_; have HO415 := n1_; have BK406 := n2_; have HB := n3_; clear n0_ n1_ n2_ n3_; (try clear hb); (try clear hb2); (try clear hk); (try clear hi); (try clear ho0); have hcz18_0 : w17.cell? ⟨gb406, 0, none⟩ = some (.bool a2_0) := (blk_cell BK406.out 0).trans rfl; have hcz18_1 : w17.cell? ⟨gb406, 1, none⟩ = some (.slice A2_1 l2_1.length c2_1) := (blk_cell BK406.out 1).trans rfl; have hfz18_0 := blk_frozen BK406.out 0; have hfz18_1 := blk_frozen BK406.out 1) | ((with_reducible refine gate_callee (f := 8) rfl ?_); refine goesL_ (some 32) rfl rfl Tryz.func8 (by kernel_rfl) rfl #[.slice A0 l0.length c0, .agg #[.bool a2_0, .slice A2_1 l2_1.length c2_1]] rfl (by (try simp only [List.map_toArray, List.map_cons, List.map_nil]); first | done | rfl | (simp only [List.length_drop, List.length_take]; rfl)) ?_; (with_reducible refine (journal_Write.calls k _ _ l0 a2_0 _ _ l2_1 t416 t417 _ ?side1 ?side2 ?side3 ?side4 A8.out).mono ?_); (case side1 => repeat (first | exact (Kd.C_below HR0.out HB.out) | (with_reducible refine Kd.C_alloc ?_ _) | (with_reducible refine Kd.C_drewN ?_ _) | (with_reducible refine Kd.C_drew ?_))); (case side2 => exact HC0.out); (case side3 => repeat (first | exact (Kd.C_below HR2_1.out HB.out) | (with_reducible refine Kd.C_alloc ?_ _) | (with_reducible refine Kd.C_drewN ?_ _) | (with_reducible refine Kd.C_drew ?_))); (case side4 => exact HC2_1.out); rintro e w19 ⟨rfl, hb⟩; refine ⟨_, rfl, ?_⟩; have n0_ := Aside0.mk (Kd.S_below (by (with_reducible repeat (first | apply Kd.S_alloc | apply Kd.S_drewN | apply Kd.S_drew)); exact HO411.out) hb); have n1_ := Aside0.mk (Kd.S_below (by (with_reducible repeat (first | apply Kd.S_alloc | apply Kd.S_drewN | apply Kd.S_drew)); exact HO415.out) hb); have n2_ := Aside0.mk (blk_below (g := gb406) (o := .cells #[.bool a2_0, .slice A2_1 l2_1.length c2_1] 26 (0, 0)) (by (with_reducible repeat (first | refine blk_drewN ?_ _ | refine blk_drew ?_ | refine blk_alloc ?_ _)); exact BK406.out) hb); have n3_ := Aside0.mk (below_step (by repeat (first | (with_reducible first | exact HB.out | apply below_alloc | apply pw_below_drewN | apply below_drew1 | refine below_set ?_ GE406.out) | exact HB.out)) hb); clear HO411; clear HO415; clear BK406; clear HB; have HO411 := n0_; have HO415 := n1_; have BK406 := n2_; have HB := n3_; clear n0_ n1_ n2_ n3_; (try clear hb); (try clear hb2); (try clear hk); (try clear hi); have hcz20_0 : w19.cell? ⟨gb406, 0, none⟩ = some (.bool a2_0) := (blk_cell BK406.out 0).trans rfl; have hcz20_1 : w19.cell? ⟨gb406, 1, none⟩ = some (.slice A2_1 l2_1.length c2_1) := (blk_cell BK406.out 1).trans rfl; have hfz20_0 := blk_frozen BK406.out 0; have hfz20_1 := blk_frozen BK406.out 1) | ((with_reducible refine gate_callee (f := 9) rfl ?_); refine goesL_ (some 38) rfl rfl Tryz.func9 (by kernel_rfl) rfl #[.slice A0 l0.length c0, .agg #[.bool a2_0, .slice A2_1 l2_1.length c2_1]] rfl (by (try simp only [List.map_toArray, List.map_cons, List.map_nil]); first | done | rfl | (simp only [List.length_drop, List.length_take]; rfl)) ?_; (with_reducible refine (tithebarnref15_Write.calls k _ _ l0 a2_0 _ _ l2_1 t418 t419 _ ?side1 ?side2 ?side3 ?side4 A9.out).mono ?_); (case side1 => repeat (first | exact (Kd.C_below HR0.out HB.out) | (with_reducible refine Kd.C_alloc ?_ _) | (with_reducible refine Kd.C_drewN ?_ _) | (with_reducible refine Kd.C_drew ?_))); (case side2 => exact HC0.out); (case side3 => repeat (first | exact (Kd.C_below HR2_1.out HB.out) | (with_reducible refine Kd.C_alloc ?_ _) | (with_reducible refine Kd.C_drewN ?_ _) | (with_reducible refine Kd.C_drew ?_))); (case side4 => exact HC2_1.out); rintro e w21 ⟨rfl, hb⟩; refine ⟨_, rfl, ?_⟩; have n0_ := Aside0.mk (Kd.S_below (by (with_reducible repeat (first | apply Kd.S_alloc | apply Kd.S_drewN | apply Kd.S_drew)); exact HO411.out) hb); have n1_ := Aside0.mk (Kd.S_below (by (with_reducible repeat (first | apply Kd.S_alloc | apply Kd.S_drewN | apply Kd.S_drew)); exact HO415.out) hb); have n2_ := Aside0.mk (blk_below (g := gb406) (o := .cells #[.bool a2_0, .slice A2_1 l2_1.length c2_1] 26 (0, 0)) (by (with_reducible repeat (first | refine blk_drewN ?_ _ | refine blk_drew ?_ | refine blk_alloc ?_ _)); exact BK406.out) hb); have n3_ := Aside0.mk (below_step (by repeat (first | (with_reducible first | exact HB.out | apply below_alloc | apply pw_below_drewN | apply below_drew1 | refine below_set ?_ GE406.out) | exact HB.out)) hb); clear HO411; clear HO415; clear BK406; clear HB; have HO411 := n0_; have HO415 := n1_; have BK406 := n2_; have HB := n3_; clear n0_ n1_ n2_ n3_; (try clear hb); (try clear hb2); (try clear hk); (try clear hi); obtain ⟨Ao22, co22, eo22⟩ := Kd.S_slice HO411.out; subst eo22; obtain ⟨Ao23, co23, eo23⟩ := Kd.S_slice HO415.out; subst eo23) | (go_at_call 10; (with_reducible refine (tithebarnref07_SameAll.calls k _ _ t408 _ _ t412 true _ ?side1 ?side2 ?side3 ?side4 A11.out).mono ?_); (case side1 => repeat (first | exact (Kd.S_reads' HO411.out).2.2 | (with_reducible refine Kd.C_alloc ?_ _) | (with_reducible refine Kd.C_drewN ?_ _) | (with_reducible refine Kd.C_drew ?_))); (case side2 => exact (Kd.S_reads' HO411.out).2.1); (case side3 => repeat (first | exact (Kd.S_reads' HO415.out).2.2 | (with_reducible refine Kd.C_alloc ?_ _) | (with_reducible refine Kd.C_drewN ?_ _) | (with_reducible refine Kd.C_drew ?_))); (case side4 => exact (Kd.S_reads' HO415.out).2.1); rintro e w24 ⟨rfl, hb⟩; have n0_ := Aside0.mk (Kd.S_below (by (with_reducible repeat (first | apply Kd.S_alloc | apply Kd.S_drewN | apply Kd.S_drew)); exact HO411.out) hb); have n1_ := Aside0.mk (Kd.S_below (by (with_reducible repeat (first | apply Kd.S_alloc | apply Kd.S_drewN | apply Kd.S_drew)); exact HO415.out) hb); have n2_ := Aside0.mk (blk_below (g := gb406) (o := .cells #[.bool a2_0, .slice A2_1 l2_1.length c2_1] 26 (0, 0)) (by (with_reducible repeat (first | refine blk_drewN ?_ _ | refine blk_drew ?_ | refine blk_alloc ?_ _)); exact BK406.out) hb); have n3_ := Aside0.mk (below_step (by repeat (first | (with_reducible first | exact HB.out | apply below_alloc | apply pw_below_drewN | apply below_drew1 | refine below_set ?_ GE406.out) | exact HB.out)) hb); clear HO411; clear HO415; clear BK406; clear HB; have HO411 := n0_; have HO415 := n1_; have BK406 := n2_; have HB := n3_; clear n0_ n1_ n2_ n3_; (try clear hb); (try clear hb2); (try clear hk); (try clear hi)))
          go_ret
          exact ⟨by first | rfl | (simp [errW_none, errW_some] <;> rfl) | (simp [*, errW_none, errW_some] <;> rfl), by repeat (first | (with_reducible first | exact HB.out | apply below_alloc | apply pw_below_drewN | apply below_drew1 | refine below_set ?_ GE406.out) | exact HB.out)⟩
        · rw [if_neg c13] at H
          have c13b0 : (t416.toList == t418.toList) = false := beq_eq_false_iff_ne.mpr c13
          have c13b1 : (t416.toList != t418.toList) = true := bne_iff_ne.mpr c13
          obtain rfl := Option.some.inj H
          exact absurd hr (by decide)
      · replace c12 := Bool.eq_false_iff.mpr c12
        subst c12
        have H1 : (some false) = some r := by rw [if_neg (show ¬ (false = true) by decide)] at H; exact H
        clear H
        have H := H1
        clear H1
        obtain rfl := Option.some.inj H
        exact absurd hr (by decide)
    · rw [if_neg c10] at H
      have c10b0 : (t409 == t413) = false := beq_eq_false_iff_ne.mpr c10
      have c10b1 : (t409 != t413) = true := bne_iff_ne.mpr c10
      obtain rfl := Option.some.inj H
      exact absurd hr (by decide)
  · replace c5 := Bool.eq_false_iff.mpr c5
    subst c5
    have H1 : (some false) = some r := by rw [if_neg (show ¬ (false = true) by decide)] at H; exact H
    clear H
    have H := H1
    clear H1
    obtain rfl := Option.some.inj H
    exact absurd hr (by decide)
end Go.Proofs.YteddgkkggjfmpaaGreatDoor.A
