/- Words and walks that the print wrote for this claim: those that the claim leans on (wip/shake.py). -/
import Derived.Test.YtojcbknclfamhaaGreatDoorKpAx0
import Derived.Test.YtojcbknclfamhaaGreatDoorKpAx7
import Derived.Test.YtojcbknclfamhaaGreatDoorKpAx10
import Derived.Test.YtojcbknclfamhaaGreatDoorKpAx14
import Derived.Test.YtojcbknclfamhaaGreatDoorKpHNumber
namespace Go.Proofs.YtojcbknclfamhaaGreatDoor.A
open Go.RowKit Go.Proofs.YtojcbknclfamhaaGreatDoorW.PrintWords Go.Proofs.YtojcbknclfamhaaGreatDoorW.PrintLast Go.Proofs.YtojcbknclfamhaaGreatDoorW.PrintMore
attribute [local go_sem] min2_int min_two
set_option linter.unusedVariables false
set_option linter.unusedSimpArgs false
def tithebarnlaw15_lives.f (k : Nat)  : Option (Bool) := (journal_Number.f (⟨#[119]⟩ : ByteArray) (⟨#[119, 49, 50]⟩ : ByteArray)).bind fun bt245 => ((some (([(⟨1, false⟩ : S44)] : List (S44)) : List (S44))).bind fun y247 => ((journal_Write.f k y247 true (([(⟨false, 3, (⟨#[]⟩ : ByteArray)⟩ : S46)] : List (S46)))).bind fun bt253 => (if bt253.1.size + 1 ≤ 9223372036854775807 then ((journal_Read.f k y247 (bt253.1 ++ (⟨#[1]⟩ : ByteArray))).bind fun bt255 => ((journal_Name.f (⟨#[119]⟩ : ByteArray) 12).bind fun t259 => (if t259.toList = ([119, 49, 50] : List UInt8) then (if bt245.2 = true then (if bt245.1 = 12 then (if bt253.2 = 0 then (if (bt253.1.size : Int) = 10 then (if bt255.2 = 0 then (if (bt255.1.length : Int) = 1 then (if 0 < (bt255.1.length : Int) then (some ((rd_T26 bt255.1 0).f0)) else (none)) else (some false)) else (some false)) else (some false)) else (some false)) else (some false)) else (some false)) else (some false)))) else (none))))
set_option maxHeartbeats 8000000 in
set_option maxRecDepth 100000 in
theorem tithebarnlaw15_lives.calls (k : Nat)  (r : Bool) (w : World) (h : tithebarnlaw15_lives.f k  = some r) (hr : r = true) :
    Calls Tryz.prog 5 #[] w fun e w' => e = .returned (.bool r) ∧ Below w.heap.size w w' := by
  have hu44 := Tryz.underlying44
  have hu46 := Tryz.underlying46
  have hu26 := Tryz.underlying26
  have HB := Aside0.mk (Below.refl w.heap.size w)
  have H : ((journal_Number.f (⟨#[119]⟩ : ByteArray) (⟨#[119, 49, 50]⟩ : ByteArray)).bind fun bt245 => ((some (([(⟨1, false⟩ : S44)] : List (S44)) : List (S44))).bind fun y247 => ((journal_Write.f k y247 true (([(⟨false, 3, (⟨#[]⟩ : ByteArray)⟩ : S46)] : List (S46)))).bind fun bt253 => (if bt253.1.size + 1 ≤ 9223372036854775807 then ((journal_Read.f k y247 (bt253.1 ++ (⟨#[1]⟩ : ByteArray))).bind fun bt255 => ((journal_Name.f (⟨#[119]⟩ : ByteArray) 12).bind fun t259 => (if t259.toList = ([119, 49, 50] : List UInt8) then (if bt245.2 = true then (if bt245.1 = 12 then (if bt253.2 = 0 then (if (bt253.1.size : Int) = 10 then (if bt255.2 = 0 then (if (bt255.1.length : Int) = 1 then (if 0 < (bt255.1.length : Int) then (some ((rd_T26 bt255.1 0).f0)) else (none)) else (some false)) else (some false)) else (some false)) else (some false)) else (some false)) else (some false)) else (some false)))) else (none))))) = some r := h
  clear h
  replace H := Option.bind_eq_some_iff.mp H
  obtain ⟨⟨t245, t246⟩, A10, H⟩ := H
  replace H : ((some (([(⟨1, false⟩ : S44)] : List (S44)) : List (S44))).bind fun y247 => ((journal_Write.f k y247 true (([(⟨false, 3, (⟨#[]⟩ : ByteArray)⟩ : S46)] : List (S46)))).bind fun bt253 => (if bt253.1.size + 1 ≤ 9223372036854775807 then ((journal_Read.f k y247 (bt253.1 ++ (⟨#[1]⟩ : ByteArray))).bind fun bt255 => ((journal_Name.f (⟨#[119]⟩ : ByteArray) 12).bind fun t259 => (if t259.toList = ([119, 49, 50] : List UInt8) then (if t246 = true then (if t245 = 12 then (if bt253.2 = 0 then (if (bt253.1.size : Int) = 10 then (if bt255.2 = 0 then (if (bt255.1.length : Int) = 1 then (if 0 < (bt255.1.length : Int) then (some ((rd_T26 bt255.1 0).f0)) else (none)) else (some false)) else (some false)) else (some false)) else (some false)) else (some false)) else (some false)) else (some false)))) else (none)))) = some r := H
  have A1 := Aside0.mk A10
  clear A10
  obtain ⟨y247, hy247⟩ : ∃ y_ : List (S44), y_ = (([(⟨1, false⟩ : S44)] : List (S44))) := ⟨_, rfl⟩
  replace H : ((journal_Write.f k y247 true (([(⟨false, 3, (⟨#[]⟩ : ByteArray)⟩ : S46)] : List (S46)))).bind fun bt253 => (if bt253.1.size + 1 ≤ 9223372036854775807 then ((journal_Read.f k y247 (bt253.1 ++ (⟨#[1]⟩ : ByteArray))).bind fun bt255 => ((journal_Name.f (⟨#[119]⟩ : ByteArray) 12).bind fun t259 => (if t259.toList = ([119, 49, 50] : List UInt8) then (if t246 = true then (if t245 = 12 then (if bt253.2 = 0 then (if (bt253.1.size : Int) = 10 then (if bt255.2 = 0 then (if (bt255.1.length : Int) = 1 then (if 0 < (bt255.1.length : Int) then (some ((rd_T26 bt255.1 0).f0)) else (none)) else (some false)) else (some false)) else (some false)) else (some false)) else (some false)) else (some false)) else (some false)))) else (none))) = some r := by first | (rw [hy247]; with_reducible exact H) | (have H2_ := (Option.bind_some _ _).symm.trans H; rw [hy247]; with_reducible exact H2_) | (have H2_ := (Option.bind_some _ _).symm.trans H; with_reducible exact H2_) | with_reducible exact H | (rw [hy247]; exact H) | exact H
  have Ny247 := Aside0.mk hy247
  clear hy247
  obtain ⟨y250, hy250⟩ : ∃ y_ : List (S46), y_ = (([(⟨false, 3, (⟨#[]⟩ : ByteArray)⟩ : S46)] : List (S46))) := ⟨_, rfl⟩
  replace H : ((journal_Write.f k y247 true y250).bind fun bt253 => (if bt253.1.size + 1 ≤ 9223372036854775807 then ((journal_Read.f k y247 (bt253.1 ++ (⟨#[1]⟩ : ByteArray))).bind fun bt255 => ((journal_Name.f (⟨#[119]⟩ : ByteArray) 12).bind fun t259 => (if t259.toList = ([119, 49, 50] : List UInt8) then (if t246 = true then (if t245 = 12 then (if bt253.2 = 0 then (if (bt253.1.size : Int) = 10 then (if bt255.2 = 0 then (if (bt255.1.length : Int) = 1 then (if 0 < (bt255.1.length : Int) then (some ((rd_T26 bt255.1 0).f0)) else (none)) else (some false)) else (some false)) else (some false)) else (some false)) else (some false)) else (some false)) else (some false)))) else (none))) = some r := by first | (rw [hy250]; with_reducible exact H) | (have H2_ := (Option.bind_some _ _).symm.trans H; rw [hy250]; with_reducible exact H2_) | (have H2_ := (Option.bind_some _ _).symm.trans H; with_reducible exact H2_) | with_reducible exact H | (rw [hy250]; exact H) | exact H
  have Ny250 := Aside0.mk hy250
  clear hy250
  replace H := Option.bind_eq_some_iff.mp H
  obtain ⟨⟨t253, t254⟩, A20, H⟩ := H
  replace H : (if t253.size + 1 ≤ 9223372036854775807 then ((journal_Read.f k y247 (t253 ++ (⟨#[1]⟩ : ByteArray))).bind fun bt255 => ((journal_Name.f (⟨#[119]⟩ : ByteArray) 12).bind fun t259 => (if t259.toList = ([119, 49, 50] : List UInt8) then (if t246 = true then (if t245 = 12 then (if t254 = 0 then (if (t253.size : Int) = 10 then (if bt255.2 = 0 then (if (bt255.1.length : Int) = 1 then (if 0 < (bt255.1.length : Int) then (some ((rd_T26 bt255.1 0).f0)) else (none)) else (some false)) else (some false)) else (some false)) else (some false)) else (some false)) else (some false)) else (some false)))) else (none)) = some r := H
  have A2 := Aside0.mk A20
  clear A20
  by_cases c3 : t253.size + 1 ≤ 9223372036854775807
  · rw [if_pos c3] at H
    have c3b0 := eq_true c3
    have c3b1 : decide (t253.size + 1 ≤ 9223372036854775807) = true := decide_eq_true c3
    try have c3b2 : (9223372036854775807 < t253.size + 1) = False := eq_false (Nat.not_lt.2 c3)
    replace H := Option.bind_eq_some_iff.mp H
    obtain ⟨⟨t255, t256⟩, A40, H⟩ := H
    replace H : ((journal_Name.f (⟨#[119]⟩ : ByteArray) 12).bind fun t259 => (if t259.toList = ([119, 49, 50] : List UInt8) then (if t246 = true then (if t245 = 12 then (if t254 = 0 then (if (t253.size : Int) = 10 then (if t256 = 0 then (if (t255.length : Int) = 1 then (if 0 < (t255.length : Int) then (some ((rd_T26 t255 0).f0)) else (none)) else (some false)) else (some false)) else (some false)) else (some false)) else (some false)) else (some false)) else (some false))) = some r := H
    have A4 := Aside0.mk A40
    clear A40
    replace H := Option.bind_eq_some_iff.mp H
    obtain ⟨t259, A50, H⟩ := H
    replace H : (if t259.toList = ([119, 49, 50] : List UInt8) then (if t246 = true then (if t245 = 12 then (if t254 = 0 then (if (t253.size : Int) = 10 then (if t256 = 0 then (if (t255.length : Int) = 1 then (if 0 < (t255.length : Int) then (some ((rd_T26 t255 0).f0)) else (none)) else (some false)) else (some false)) else (some false)) else (some false)) else (some false)) else (some false)) else (some false)) = some r := H
    have A5 := Aside0.mk A50
    clear A50
    by_cases c6 : t259.toList = ([119, 49, 50] : List UInt8)
    · rw [if_pos c6] at H
      have c6b0 : (t259.toList == ([119, 49, 50] : List UInt8)) = true := beq_iff_eq.mpr c6
      have c6b1 : (t259.toList != ([119, 49, 50] : List UInt8)) = false := bne_eq_false_iff_eq.mpr c6
      clear c6
      by_cases c7 : t246 = true
      · subst c7
        have H1 : (if t245 = 12 then (if t254 = 0 then (if (t253.size : Int) = 10 then (if t256 = 0 then (if (t255.length : Int) = 1 then (if 0 < (t255.length : Int) then (some ((rd_T26 t255 0).f0)) else (none)) else (some false)) else (some false)) else (some false)) else (some false)) else (some false)) = some r := by rw [if_pos rfl] at H; exact H
        clear H
        have H := H1
        clear H1
        by_cases c8 : t245 = 12
        · rw [if_pos c8] at H
          have c8b0 : (t245 == 12) = true := beq_iff_eq.mpr c8
          have c8b1 : (t245 != 12) = false := bne_eq_false_iff_eq.mpr c8
          clear c8
          by_cases c9 : t254 = 0
          · rw [if_pos c9] at H
            have c9b0 : (t254 == 0) = true := beq_iff_eq.mpr c9
            have c9b1 : (t254 != 0) = false := bne_eq_false_iff_eq.mpr c9
            clear c9
            by_cases c10 : (t253.size : Int) = 10
            · rw [if_pos c10] at H
              have c10b0 : ((t253.size : Int) == 10) = true := beq_iff_eq.mpr c10
              have c10b1 : ((t253.size : Int) != 10) = false := bne_eq_false_iff_eq.mpr c10
              clear c10
              by_cases c11 : t256 = 0
              · rw [if_pos c11] at H
                have c11b0 : (t256 == 0) = true := beq_iff_eq.mpr c11
                have c11b1 : (t256 != 0) = false := bne_eq_false_iff_eq.mpr c11
                clear c11
                by_cases c12 : (t255.length : Int) = 1
                · rw [if_pos c12] at H
                  have c12b0 : ((t255.length : Int) == 1) = true := beq_iff_eq.mpr c12
                  have c12b1 : ((t255.length : Int) != 1) = false := bne_eq_false_iff_eq.mpr c12
                  clear c12
                  by_cases c13 : 0 < (t255.length : Int)
                  · rw [if_pos c13] at H
                    have c13b0 : decide (0 < (t255.length : Int)) = true := decide_eq_true c13
                    have c13b1 : decide (0 < t255.length) = true := decide_eq_true (by omega)
                    clear c13
                    obtain rfl := Option.some.inj H
                    go_enter Tryz.func5, Tryz.ntmps5
                    go_wp2_with (first | ((with_reducible refine gate_callee (f := 14) rfl ?_); refine goesL_ (some 9) rfl rfl Tryz.func14 (by kernel_rfl) rfl #[.string (⟨#[119]⟩ : ByteArray), .string (⟨#[119, 49, 50]⟩ : ByteArray)] rfl (by (try simp only [List.map_toArray, List.map_cons, List.map_nil]); first | done | rfl | (simp only [List.length_drop, List.length_take]; rfl)) ?_; (with_reducible refine (journal_Number.calls (⟨#[119]⟩ : ByteArray) (⟨#[119, 49, 50]⟩ : ByteArray) t245 true _ A1.out).mono ?_); rintro e w14 ⟨rfl, hb⟩; refine ⟨_, rfl, ?_⟩; have n0_ := Aside0.mk (below_step (by repeat (first | (with_reducible first | exact HB.out | apply below_alloc | apply pw_below_drewN | apply below_drew1) | exact HB.out)) hb); clear HB; have HB := n0_; clear n0_; (try clear hb); (try clear hb2); (try clear hk); (try clear hi)) | ((with_reducible refine gate_dst (N := 13) rfl ?_); (try (refine gate_guard (by rfl) ?_; dsimp only)); refine Kd.R_lit k44 _ 44 ?hg (N := 13) ?hd (xs := ([(⟨1, false⟩ : S44)] : List (S44))) (inner := [.int .i64 1, .bool false]) (ok := fun _ => True) (okp := fun _ => True) ?hr ?hp (fun _ hk => hk) trivial (Below.refl _ _) (Nat.le_refl _) (by simp) ?_; (case hd => rfl); (case hg => rfl); (case hr => first | (go_simp; done) | (go_simp; rfl)); (case hp => exact (Reps.c2 (show Kd.M k44 _ _ _ (⟨1, false⟩ : S44) [.int .i64 1, .bool false] from (k44_mkM _ _ _ (⟨1, false⟩ : S44) )) (Reps.none _ _))); intro v248 w15 ho16 hb hg_ hnew_; clear hg_ hnew_; (first | rw [← Ny247.out] at ho16 | (simp only [Int.reduceToNat] at ho16; rw [← Ny247.out] at ho16)); have n0_ := Aside0.mk (Kd.R_lower ho16 (below_size (by repeat (first | (with_reducible first | exact HB.out | apply below_alloc | apply pw_below_drewN | apply below_drew1) | exact HB.out)))); have n1_ := Aside0.mk (below_step (by repeat (first | (with_reducible first | exact HB.out | apply below_alloc | apply pw_below_drewN | apply below_drew1) | exact HB.out)) hb); clear HB; have HO249 := n0_; have HB := n1_; clear n0_ n1_; clear hb ho16) | ((with_reducible refine gate_dst (N := 17) rfl ?_); (try (refine gate_guard (by rfl) ?_; dsimp only)); refine Kd.R_lit k46 _ 46 ?hg (N := 17) ?hd (xs := ([(⟨false, 3, (⟨#[]⟩ : ByteArray)⟩ : S46)] : List (S46))) (inner := [.bool false, .int .i64 3, .string (⟨#[]⟩ : ByteArray)]) (ok := fun _ => True) (okp := fun _ => True) ?hr ?hp (fun _ hk => hk) trivial (Below.refl _ _) (Nat.le_refl _) (by simp) ?_; (case hd => rfl); (case hg => rfl); (case hr => first | (go_simp; done) | (go_simp; rfl)); (case hp => exact (Reps.c3 (show Kd.M k46 _ _ _ (⟨false, 3, (⟨#[]⟩ : ByteArray)⟩ : S46) [.bool false, .int .i64 3, .string (⟨#[]⟩ : ByteArray)] from (k46_mkM _ _ _ (⟨false, 3, (⟨#[]⟩ : ByteArray)⟩ : S46) )) (Reps.none _ _))); intro v251 w17 ho18 hb hg_ hnew_; clear hg_ hnew_; (first | rw [← Ny250.out] at ho18 | (simp only [Int.reduceToNat] at ho18; rw [← Ny250.out] at ho18)); have n0_ := Aside0.mk (Kd.R_below (by (with_reducible repeat (first | apply Kd.R_alloc | apply Kd.R_drewN | apply Kd.R_drew)); exact HO249.out) hb); have n1_ := Aside0.mk (Kd.R_lower ho18 (below_size (by repeat (first | (with_reducible first | exact HB.out | apply below_alloc | apply pw_below_drewN | apply below_drew1) | exact HB.out)))); have n2_ := Aside0.mk (below_step (by repeat (first | (with_reducible first | exact HB.out | apply below_alloc | apply pw_below_drewN | apply below_drew1) | exact HB.out)) hb); clear HO249; clear HB; have HO249 := n0_; have HO252 := n1_; have HB := n2_; clear n0_ n1_ n2_; clear hb ho18; obtain ⟨Ao19, co19, eo19⟩ := Kd.R_slice HO252.out; subst eo19; obtain ⟨Ao20, co20, eo20⟩ := Kd.R_slice HO249.out; subst eo20) | ((with_reducible refine gate_callee (f := 8) rfl ?_); refine goesL_ (some 19) rfl rfl Tryz.func8 (by kernel_rfl) rfl #[.slice Ao20 y247.length co20, .agg #[.bool true, .slice Ao19 y250.length co19]] rfl (by (try simp only [List.map_toArray, List.map_cons, List.map_nil]); first | done | rfl | (simp only [List.length_drop, List.length_take]; rfl)) ?_; (with_reducible refine (journal_Write.calls k _ _ y247 true _ _ y250 t253 t254 _ ?side1 ?side2 ?side3 ?side4 A2.out).mono ?_); (case side1 => repeat (first | exact (Kd.R_reads' HO249.out).2.2 | (with_reducible refine Kd.C_alloc ?_ _) | (with_reducible refine Kd.C_drewN ?_ _) | (with_reducible refine Kd.C_drew ?_))); (case side2 => exact (Kd.R_reads' HO249.out).2.1); (case side3 => repeat (first | exact (Kd.R_reads' HO252.out).2.2 | (with_reducible refine Kd.C_alloc ?_ _) | (with_reducible refine Kd.C_drewN ?_ _) | (with_reducible refine Kd.C_drew ?_))); (case side4 => exact (Kd.R_reads' HO252.out).2.1); rintro e w21 ⟨rfl, hb⟩; refine ⟨_, rfl, ?_⟩; have n0_ := Aside0.mk (Kd.R_below (by (with_reducible repeat (first | apply Kd.R_alloc | apply Kd.R_drewN | apply Kd.R_drew)); exact HO249.out) hb); have n1_ := Aside0.mk (Kd.R_below (by (with_reducible repeat (first | apply Kd.R_alloc | apply Kd.R_drewN | apply Kd.R_drew)); exact HO252.out) hb); have n2_ := Aside0.mk (below_step (by repeat (first | (with_reducible first | exact HB.out | apply below_alloc | apply pw_below_drewN | apply below_drew1) | exact HB.out)) hb); clear HO249; clear HO252; clear HB; have HO249 := n0_; have HO252 := n1_; have HB := n2_; clear n0_ n1_ n2_; (try clear hb); (try clear hb2); (try clear hk); (try clear hi)) | ((with_reducible refine gate_callee (f := 6) rfl ?_); refine goesL_ (some 26) rfl rfl Tryz.func6 (by kernel_rfl) rfl #[.slice Ao20 y247.length co20, .string (t253 ++ (⟨#[1]⟩ : ByteArray))] rfl (by (try simp only [List.map_toArray, List.map_cons, List.map_nil]); first | done | rfl | (simp only [List.length_drop, List.length_take]; rfl)) ?_; (with_reducible refine (journal_Read.calls k _ _ y247 (t253 ++ (⟨#[1]⟩ : ByteArray)) t255 t256 _ ?side1 ?side2 A4.out).mono ?_); (case side1 => repeat (first | exact (Kd.R_reads' HO249.out).2.2 | (with_reducible refine Kd.C_alloc ?_ _) | (with_reducible refine Kd.C_drewN ?_ _) | (with_reducible refine Kd.C_drew ?_))); (case side2 => exact (Kd.R_reads' HO249.out).2.1); rintro e w22 ⟨v257, rfl, ho0, hb⟩; refine ⟨_, rfl, ?_⟩; have n0_ := Aside0.mk (Kd.R_below (by (with_reducible repeat (first | apply Kd.R_alloc | apply Kd.R_drewN | apply Kd.R_drew)); exact HO249.out) hb); have n1_ := Aside0.mk (Kd.R_below (by (with_reducible repeat (first | apply Kd.R_alloc | apply Kd.R_drewN | apply Kd.R_drew)); exact HO252.out) hb); have n2_ := Aside0.mk (Kd.S_lower (Kd.S_new' ho0 (Kd.R_lt (by (with_reducible repeat (first | apply Kd.R_alloc | apply Kd.R_drewN | apply Kd.R_drew)); exact HO252.out))) (below_size (by repeat (first | (with_reducible first | exact HB.out | apply below_alloc | apply pw_below_drewN | apply below_drew1) | exact HB.out)))); have n3_ := Aside0.mk (below_step (by repeat (first | (with_reducible first | exact HB.out | apply below_alloc | apply pw_below_drewN | apply below_drew1) | exact HB.out)) hb); clear HO249; clear HO252; clear HB; have HO249 := n0_; have HO252 := n1_; have HO258 := n2_; have HB := n3_; clear n0_ n1_ n2_ n3_; (try clear hb); (try clear hb2); (try clear hk); (try clear hi); (try clear ho0)) | ((with_reducible refine gate_callee (f := 15) rfl ?_); refine goesL_ (some 29) rfl rfl Tryz.func15 (by kernel_rfl) rfl #[.string (⟨#[119]⟩ : ByteArray), .int .i64 12] rfl (by (try simp only [List.map_toArray, List.map_cons, List.map_nil]); first | done | rfl | (simp only [List.length_drop, List.length_take]; rfl)) ?_; (with_reducible refine (journal_Name.calls (⟨#[119]⟩ : ByteArray) 12 t259 _ A5.out).mono ?_); rintro e w23 ⟨rfl, hb⟩; refine ⟨_, rfl, ?_⟩; have n0_ := Aside0.mk (Kd.R_below (by (with_reducible repeat (first | apply Kd.R_alloc | apply Kd.R_drewN | apply Kd.R_drew)); exact HO249.out) hb); have n1_ := Aside0.mk (Kd.R_below (by (with_reducible repeat (first | apply Kd.R_alloc | apply Kd.R_drewN | apply Kd.R_drew)); exact HO252.out) hb); have n2_ := Aside0.mk (Kd.S_below (by (with_reducible repeat (first | apply Kd.S_alloc | apply Kd.S_drewN | apply Kd.S_drew)); exact HO258.out) hb); have n3_ := Aside0.mk (below_step (by repeat (first | (with_reducible first | exact HB.out | apply below_alloc | apply pw_below_drewN | apply below_drew1) | exact HB.out)) hb); clear HO249; clear HO252; clear HO258; clear HB; have HO249 := n0_; have HO252 := n1_; have HO258 := n2_; have HB := n3_; clear n0_ n1_ n2_ n3_; (try clear hb); (try clear hb2); (try clear hk); (try clear hi); obtain ⟨Ao24, co24, eo24⟩ := Kd.S_slice HO258.out; subst eo24; have p260 : 0 ≤ (0 : Int) := (by omega); have q260 : 0 < (t255.length : Int) := of_decide_eq_true (by first | (with_reducible assumption) | assumption); obtain ⟨ad260, A260_1, c260_1, e260, hx260_0, hx260_1, hl260_1, hi260_1⟩ := at_T26 (Kd.S_reads' HO258.out).2.2 0 p260 q260; cases e260; obtain ⟨ce260, hce260, hMe260, hcc260⟩ := Kd.S_get HO258.out z26 0 p260 (by first | exact q260 | exact of_decide_eq_true (by first | (with_reducible assumption) | assumption) | (have e_ := (Kd.S_reads' HO258.out).1; omega)); obtain ⟨ve260_1, rfl, ge260_1⟩ := k26_openM hMe260; have hv260_1 := hcc260 1 _ rfl; rw [add_field _ _ 1 (by omega)] at hv260_1; replace hv260_1 := Option.some.inj (hv260_1.symm.trans hx260_1); rw [hv260_1] at ge260_1; have HL260_1 := Aside0.mk (show Kd.R k46 46 _ _ _ _ ((rd_T26 t255 0).f1) from ge260_1); clear hv260_1 ge260_1; clear hcc260 hce260; have qi260 : (0 < t255.length) = True := eq_true (by omega); (try rw [show ((0 : Int)).toNat = 0 from rfl] at hx260_0); (try rw [show 0 * 2 = 0 from rfl] at hx260_0); (try rw [Addr.add_zero'] at hx260_0); (try rw [show ((0 : Int)).toNat = 0 from rfl] at hx260_1); (try rw [show 0 * 2 = 0 from rfl] at hx260_1); (try rw [Addr.add_zero'] at hx260_1); have HR260_1 := Aside0.mk hi260_1; have HC260_1 := Aside0.mk hl260_1; clear hi260_1 hl260_1; replace p260 := eq_true p260; replace q260 := eq_true q260))
                    go_ret
                    exact ⟨by first | rfl | (simp [errW_none, errW_some] <;> rfl) | (simp [*, errW_none, errW_some] <;> rfl), by repeat (first | (with_reducible first | exact HB.out | apply below_alloc | apply pw_below_drewN | apply below_drew1) | exact HB.out)⟩
                  · rw [if_neg c13] at H
                    exact absurd H (by simp)
                · rw [if_neg c12] at H
                  have c12b0 : ((t255.length : Int) == 1) = false := beq_eq_false_iff_ne.mpr c12
                  have c12b1 : ((t255.length : Int) != 1) = true := bne_iff_ne.mpr c12
                  obtain rfl := Option.some.inj H
                  exact absurd hr (by decide)
              · rw [if_neg c11] at H
                have c11b0 : (t256 == 0) = false := beq_eq_false_iff_ne.mpr c11
                have c11b1 : (t256 != 0) = true := bne_iff_ne.mpr c11
                obtain rfl := Option.some.inj H
                exact absurd hr (by decide)
            · rw [if_neg c10] at H
              have c10b0 : ((t253.size : Int) == 10) = false := beq_eq_false_iff_ne.mpr c10
              have c10b1 : ((t253.size : Int) != 10) = true := bne_iff_ne.mpr c10
              obtain rfl := Option.some.inj H
              exact absurd hr (by decide)
          · rw [if_neg c9] at H
            have c9b0 : (t254 == 0) = false := beq_eq_false_iff_ne.mpr c9
            have c9b1 : (t254 != 0) = true := bne_iff_ne.mpr c9
            obtain rfl := Option.some.inj H
            exact absurd hr (by decide)
        · rw [if_neg c8] at H
          have c8b0 : (t245 == 12) = false := beq_eq_false_iff_ne.mpr c8
          have c8b1 : (t245 != 12) = true := bne_iff_ne.mpr c8
          obtain rfl := Option.some.inj H
          exact absurd hr (by decide)
      · replace c7 := Bool.eq_false_iff.mpr c7
        subst c7
        have H1 : (some false) = some r := by rw [if_neg (show ¬ (false = true) by decide)] at H; exact H
        clear H
        have H := H1
        clear H1
        obtain rfl := Option.some.inj H
        exact absurd hr (by decide)
    · rw [if_neg c6] at H
      have c6b0 : (t259.toList == ([119, 49, 50] : List UInt8)) = false := beq_eq_false_iff_ne.mpr c6
      have c6b1 : (t259.toList != ([119, 49, 50] : List UInt8)) = true := bne_iff_ne.mpr c6
      obtain rfl := Option.some.inj H
      exact absurd hr (by decide)
  · rw [if_neg c3] at H
    exact absurd H (by simp)
end Go.Proofs.YtojcbknclfamhaaGreatDoor.A
