/- Words and walks that the print wrote for this claim: those that the claim leans on (wip/shake.py). -/
import Derived.Test.YteddgkkggjfmpaaDoorKtAx0
import Derived.Test.YteddgkkggjfmpaaDoorKtAx10
import Derived.Test.YteddgkkggjfmpaaDoorKtAx13
import Derived.Test.YteddgkkggjfmpaaDoorKtAx14
import Derived.Test.YteddgkkggjfmpaaDoorKtAx17
namespace Go.Proofs.YteddgkkggjfmpaaDoor.A
open Go.RowKit Go.Proofs.YteddgkkggjfmpaaDoorW.PrintWords Go.Proofs.YteddgkkggjfmpaaDoorW.PrintLast Go.Proofs.YteddgkkggjfmpaaDoorW.PrintMore
set_option linter.unusedVariables false
set_option linter.unusedSimpArgs false
mutual
def tithebarnlaw15_JournalTorn.l0 : Nat → List (S50) → List (S36) → Int → ByteArray → List Int → Int → Option (Bool)
  | 0, _, _, _, _, _, _ => none
  | k + 1, x0, x1, x2, x7, x8, x9 => if x9 < (x1.length : Int) then (tithebarnlaw15_JournalTorn.j1 k x0 x1 x2 x7 x8 x9 (decide (x9 < 300))) else (tithebarnlaw15_JournalTorn.j1 k x0 x1 x2 x7 x8 x9 false)
def tithebarnlaw15_JournalTorn.j1 : Nat → List (S50) → List (S36) → Int → ByteArray → List Int → Int → Bool → Option (Bool)
  | 0, _, _, _, _, _, _, _ => none
  | k + 1, x0, x1, x2, x7, x8, x9, x25 => if x25 = true then (if 0 ≤ x9 then (if x9 < (x1.length : Int) then ((journal_Write.f k x0 ((rd_T36 x1 x9).f0) ((rd_T36 x1 x9).f1)).bind fun bt283 => (if bt283.2 = 0 then (if x7.size + bt283.1.size ≤ 9223372036854775807 then (if x8.length < 17592186044416 then (tithebarnlaw15_JournalTorn.l0 k x0 x1 x2 (x7 ++ bt283.1) (x8 ++ [((x7 ++ bt283.1).size : Int)]) (wrap64 (x9 + 1))) else (none)) else (none)) else (some true))) else (none)) else (none)) else (if (IntKind.u64.wrap (wrap64 ((x7.size : Int) + 1))) = 0 then (none) else (if 0 ≤ (wrap64 (Int.tmod (IntKind.u64.wrap (x2)) (IntKind.u64.wrap (wrap64 ((x7.size : Int) + 1))))) then (if (wrap64 (Int.tmod (IntKind.u64.wrap (x2)) (IntKind.u64.wrap (wrap64 ((x7.size : Int) + 1))))) ≤ (x7.size : Int) then ((journal_Read.f k x0 (x7.extract 0 ((wrap64 (Int.tmod (IntKind.u64.wrap (x2)) (IntKind.u64.wrap (wrap64 ((x7.size : Int) + 1))))) : Int).toNat)).bind fun bt288 => (tithebarnlaw15_JournalTorn.l1 k x1 x8 (wrap64 (Int.tmod (IntKind.u64.wrap (x2)) (IntKind.u64.wrap (wrap64 ((x7.size : Int) + 1))))) bt288.1 bt288.2 0)) else (none)) else (none)))
def tithebarnlaw15_JournalTorn.l1 : Nat → List (S36) → List Int → Int → List (S36) → Int → Int → Option (Bool)
  | 0, _, _, _, _, _, _ => none
  | k + 1, x1, x8, x12, x13, x14, x15 => if x15 < (x8.length : Int) then (if 0 ≤ x15 then (if (rd x8 x15) ≤ x12 then (tithebarnlaw15_JournalTorn.l1 k x1 x8 x12 x13 x14 (wrap64 (x15 + 1))) else (if (x8.length : Int) = 0 then (some ((x13.length : Int) == 0)) else (if x14 = 0 then (if x15 ≤ (x1.length : Int) then ((tithebarnref07_SameAll.f k x13 (x1.take (x15 : Int).toNat)).bind fun t297 => (some t297)) else (none)) else (some false)))) else (none)) else (if (x8.length : Int) = 0 then (some ((x13.length : Int) == 0)) else (if x14 = 0 then (if 0 ≤ x15 then (if x15 ≤ (x1.length : Int) then ((tithebarnref07_SameAll.f k x13 (x1.take (x15 : Int).toNat)).bind fun t302 => (some t302)) else (none)) else (none)) else (some false)))
end
def tithebarnlaw15_JournalTorn.f (k : Nat) (l0 : List (S50)) (l1 : List (S36)) (a2 : Int) : Option (Bool) := (tithebarnlaw15_lives.f k).bind fun t281 => (if t281 = true then (tithebarnlaw15_JournalTorn.l0 k l0 l1 a2 (⟨#[]⟩ : ByteArray) ([] : List Int) 0) else (some false))
set_option maxHeartbeats 8000000 in
set_option maxRecDepth 100000 in
theorem tithebarnlaw15_JournalTorn.calls (k : Nat) (A0 : Option Addr) (c0 : Nat) (l0 : List (S50)) (A1 : Option Addr) (c1 : Nat) (l1 : List (S36)) (a2 : Int) (r : Bool) (w : World) (hr0 : Kd.C k50 w A0 l0.length l0) (hc0 : l0.length ≤ c0) (hr1 : Kd.C k36 w A1 l1.length l1) (hc1 : l1.length ≤ c1) (h : tithebarnlaw15_JournalTorn.f k l0 l1 a2 = some r) :
    Calls Tryd.prog 4 #[.slice A0 l0.length c0, .slice A1 l1.length c1, .int .i64 a2] w fun e w' => e = .returned (.bool r) ∧ Below w.heap.size w w' := by
  have hu36 := Tryd.underlying36
  have HR0 := Aside0.mk hr0
  have HC0 := Aside0.mk hc0
  clear hr0 hc0
  have HR1 := Aside0.mk hr1
  have HC1 := Aside0.mk hc1
  clear hr1 hc1
  have HB := Aside0.mk (Below.refl w.heap.size w)
  have H : ((tithebarnlaw15_lives.f k).bind fun t281 => (if t281 = true then (tithebarnlaw15_JournalTorn.l0 k l0 l1 a2 (⟨#[]⟩ : ByteArray) ([] : List Int) 0) else (some false))) = some r := h
  clear h
  replace H := Option.bind_eq_some_iff.mp H
  obtain ⟨t281, A40, H⟩ := H
  replace H : (if t281 = true then (tithebarnlaw15_JournalTorn.l0 k l0 l1 a2 (⟨#[]⟩ : ByteArray) ([] : List Int) 0) else (some false)) = some r := H
  have A4 := Aside0.mk A40
  clear A40
  by_cases c5 : t281 = true
  · subst c5
    have H1 : (tithebarnlaw15_JournalTorn.l0 k l0 l1 a2 (⟨#[]⟩ : ByteArray) ([] : List Int) 0) = some r := by rw [if_pos rfl] at H; exact H
    clear H
    have H := H1
    clear H1
    have H' := Aside0.mk H
    clear H
    go_enter Tryd.func4, Tryd.ntmps4
    go_wp2_with (first | ((with_reducible refine gate_callee (f := 7) rfl ?_); refine goesL_ (some 16) rfl rfl Tryd.func7 (by kernel_rfl) rfl #[] rfl (by (try simp only [List.map_toArray, List.map_cons, List.map_nil]); first | done | rfl | (simp only [List.length_drop, List.length_take]; rfl)) ?_; (with_reducible refine (tithebarnlaw15_lives.calls k  true _ A4.out).mono ?_); rintro e w6 ⟨rfl, hb⟩; refine ⟨_, rfl, ?_⟩; have n0_ := Aside0.mk (below_step (by repeat (first | (with_reducible first | exact HB.out | apply below_alloc | apply pw_below_drewN | apply below_drew1) | exact HB.out)) hb); clear HB; have HB := n0_; clear n0_; (try clear hb); (try clear hb2); (try clear hk); (try clear hi)))
    go_loopg [7, 8, 9] k (fun kq v7 v8 v9 w' => ∃ (x7_1 : ByteArray) (x8_1 : List Int) (x9_1 : Int), v7 = .string x7_1 ∧ v9 = .int .i64 x9_1 ∧ Aside0 (tithebarnlaw15_JournalTorn.l0 kq l0 l1 a2 x7_1 x8_1 x9_1 = some r) ∧ Aside0 (kq ≤ k) ∧ Aside0 (Kd.R (Kd.int .i64) 3 w' w.heap.size (fun _ => True) v8 x8_1) ∧ Aside0 (Below w.heap.size w w'))
    case atStart => exact ⟨((⟨#[]⟩ : ByteArray)), (([] : List Int)), (0), (by first | rfl | (simp; done) | (simp [*]; done)), (by first | rfl | (simp; done) | (simp [*]; done)), H', ⟨Nat.le_refl _⟩, ⟨by first | exact Kd.R_nil _ _ _ _ _ | exact Kd.N_nil _ _ _ _ _ | exact Kd.V_nil _ _ _ _ _ | exact Kd.Q_nil _ _ _ _ _ | exact Kd.S_nil _ _ _ _ _⟩, ⟨by repeat (first | (with_reducible first | exact HB.out | apply below_alloc | apply pw_below_drewN | apply below_drew1) | exact HB.out)⟩⟩
    case round =>
      clear H'
      try clear c1
      try clear p2
      try clear c4
      try clear c5
      obtain ⟨x7_1, x8_1, x9_1, rfl, rfl, HA, HK1, HO_8, HB⟩ := hrel
      cases gk with
      | zero => exact absurd HA.out (by simp [tithebarnlaw15_JournalTorn.l0])
      | succ k1 =>
        have H := HA.out
        clear HA
        simp only [tithebarnlaw15_JournalTorn.l0] at H
        have HC7 := Aside0.mk H
        clear H
        go_upto_region 6 with (fail)
        go_cut [25] (fun v25 wc => ∃ (kq : Nat) (x25_6 : Bool), v25 = .bool x25_6 ∧ Aside0 (tithebarnlaw15_JournalTorn.j1 kq l0 l1 a2 x7_1 x8_1 x9_1 x25_6 = some r) ∧ Aside0 (kq ≤ k1) ∧ Aside0 (Kd.R (Kd.int .i64) 3 wc w.heap.size (fun _ => True) u8 x8_1) ∧ Aside0 (Below w.heap.size w wc))
        case first =>
          have H := HC7.out
          clear HC7
          by_cases c8 : x9_1 < (l1.length : Int)
          · rw [if_pos c8] at H
            have c8b0 : decide (x9_1 < (l1.length : Int)) = true := decide_eq_true c8
            clear c8
            (first | rw [c8b0] | (simp only [i64_w, i32_w]; rw [c8b0]) | skip)
            have H' := Aside0.mk H
            clear H
            go_wp2
            go_meet
            case rel => exact ⟨_, (decide (x9_1 < 300)), (by first | rfl | (simp; done) | (simp [*]; done)), H', ⟨by have := HK1.out; first | omega | exact Nat.le_refl _⟩, ⟨by (with_reducible repeat (first | apply Kd.R_alloc | apply Kd.R_drewN | apply Kd.R_drew)); exact HO_8.out⟩, ⟨by repeat (first | (with_reducible first | exact HB.out | apply below_alloc | apply pw_below_drewN | apply below_drew1) | exact HB.out)⟩⟩
          · rw [if_neg c8] at H
            have c8b0 : decide (x9_1 < (l1.length : Int)) = false := decide_eq_false c8
            clear c8
            (first | rw [c8b0] | (simp only [i64_w, i32_w]; rw [c8b0]) | skip)
            have H' := Aside0.mk H
            clear H
            go_wp2
            go_meet
            case rel => exact ⟨_, (false), (by first | rfl | (simp; done) | (simp [*]; done)), H', ⟨by have := HK1.out; first | omega | exact Nat.le_refl _⟩, ⟨by (with_reducible repeat (first | apply Kd.R_alloc | apply Kd.R_drewN | apply Kd.R_drew)); exact HO_8.out⟩, ⟨by repeat (first | (with_reducible first | exact HB.out | apply below_alloc | apply pw_below_drewN | apply below_drew1) | exact HB.out)⟩⟩
        case rest =>
          clear HC7
          try clear c1
          try clear p2
          try clear c4
          try clear c5
          try clear c7
          try clear c8
          try clear c8b0
          try clear p2
          obtain ⟨kq, x25_6, rfl, HA, HJ6, HO_8, HB⟩ := hcut
          cases kq with
          | zero => exact absurd HA.out (by simp [tithebarnlaw15_JournalTorn.j1])
          | succ kj6 =>
            have H := HA.out
            clear HA
            simp only [tithebarnlaw15_JournalTorn.j1] at H
            by_cases c9 : x25_6 = true
            · subst c9
              have H1 : (if 0 ≤ x9_1 then (if x9_1 < (l1.length : Int) then ((journal_Write.f kj6 l0 ((rd_T36 l1 x9_1).f0) ((rd_T36 l1 x9_1).f1)).bind fun bt283 => (if bt283.2 = 0 then (if x7_1.size + bt283.1.size ≤ 9223372036854775807 then (if x8_1.length < 17592186044416 then (tithebarnlaw15_JournalTorn.l0 kj6 l0 l1 a2 (x7_1 ++ bt283.1) (x8_1 ++ [((x7_1 ++ bt283.1).size : Int)]) (wrap64 (x9_1 + 1))) else (none)) else (none)) else (some true))) else (none)) else (none)) = some r := by rw [if_pos rfl] at H; exact H
              clear H
              have H := H1
              clear H1
              by_cases c10 : 0 ≤ x9_1
              · rw [if_pos c10] at H
                have c10b0 : decide (0 ≤ x9_1) = true := decide_eq_true c10
                clear c10
                by_cases c11 : x9_1 < (l1.length : Int)
                · rw [if_pos c11] at H
                  have c11b0 : decide (x9_1 < (l1.length : Int)) = true := decide_eq_true c11
                  clear c11
                  replace H := Option.bind_eq_some_iff.mp H
                  obtain ⟨⟨t283, t284⟩, A120, H⟩ := H
                  replace H : (if t284 = 0 then (if x7_1.size + t283.size ≤ 9223372036854775807 then (if x8_1.length < 17592186044416 then (tithebarnlaw15_JournalTorn.l0 kj6 l0 l1 a2 (x7_1 ++ t283) (x8_1 ++ [((x7_1 ++ t283).size : Int)]) (wrap64 (x9_1 + 1))) else (none)) else (none)) else (some true)) = some r := H
                  have A12 := Aside0.mk A120
                  clear A120
                  by_cases c13 : t284 = 0
                  · rw [if_pos c13] at H
                    have c13b0 : (t284 == 0) = true := beq_iff_eq.mpr c13
                    have c13b1 : (t284 != 0) = false := bne_eq_false_iff_eq.mpr c13
                    clear c13
                    by_cases c14 : x7_1.size + t283.size ≤ 9223372036854775807
                    · rw [if_pos c14] at H
                      have c14b0 := eq_true c14
                      have c14b1 : decide (x7_1.size + t283.size ≤ 9223372036854775807) = true := decide_eq_true c14
                      try have c14b2 : (9223372036854775807 < x7_1.size + t283.size) = False := eq_false (Nat.not_lt.2 c14)
                      by_cases c15 : x8_1.length < 17592186044416
                      · rw [if_pos c15] at H
                        have LMc15 := Aside0.mk c15
                        clear c15
                        obtain ⟨y285, hy285⟩ : ∃ y_ : List Int, y_ = (x8_1 ++ [((x7_1 ++ t283).size : Int)]) := ⟨_, rfl⟩
                        replace H : (tithebarnlaw15_JournalTorn.l0 kj6 l0 l1 a2 (x7_1 ++ t283) y285 (wrap64 (x9_1 + 1))) = some r := by first | (rw [hy285]; with_reducible exact H) | (have H2_ := (Option.bind_some _ _).symm.trans H; rw [hy285]; with_reducible exact H2_) | (have H2_ := (Option.bind_some _ _).symm.trans H; with_reducible exact H2_) | with_reducible exact H | (rw [hy285]; exact H) | exact H
                        have Ny285 := Aside0.mk hy285
                        clear hy285
                        have H' := Aside0.mk H
                        clear H
                        have p282 : 0 ≤ (x9_1 : Int) := of_decide_eq_true (by first | (with_reducible assumption) | assumption)
                        have q282 : x9_1 < (l1.length : Int) := of_decide_eq_true (by first | (with_reducible assumption) | assumption)
                        obtain ⟨ad282, A282_1, c282_1, e282, hx282_0, hx282_1, hl282_1, hi282_1⟩ := at_T36 HR1.out x9_1 p282 q282
                        cases e282
                        replace hx282_0 := (HB.out.cell (World.block_lt_of_cell? w _ hx282_0)).trans hx282_0
                        replace hx282_1 := (HB.out.cell (World.block_lt_of_cell? w _ hx282_1)).trans hx282_1
                        have HR282_1 := Aside0.mk hi282_1
                        have HC282_1 := Aside0.mk hl282_1
                        clear hi282_1 hl282_1
                        replace p282 := eq_true p282
                        replace q282 := eq_true q282
                        go_wp2_with (first | ((with_reducible refine gate_callee (f := 12) rfl ?_); refine goesL_ (some 34) rfl rfl Tryd.func12 (by kernel_rfl) rfl #[.slice A0 l0.length c0, .agg #[.bool ((rd_T36 l1 x9_1).f0), .slice A282_1 ((rd_T36 l1 x9_1).f1).length c282_1]] rfl (by (try simp only [List.map_toArray, List.map_cons, List.map_nil]); first | done | rfl | (simp only [List.length_drop, List.length_take]; rfl)) ?_; (with_reducible refine (journal_Write.calls kj6 _ _ l0 ((rd_T36 l1 x9_1).f0) _ _ ((rd_T36 l1 x9_1).f1) t283 t284 _ ?side1 ?side2 ?side3 ?side4 A12.out).mono ?_); (case side1 => repeat (first | exact (Kd.C_below HR0.out HB.out) | (with_reducible refine Kd.C_alloc ?_ _) | (with_reducible refine Kd.C_drewN ?_ _) | (with_reducible refine Kd.C_drew ?_))); (case side2 => exact HC0.out); (case side3 => repeat (first | exact (Kd.C_below HR282_1.out HB.out) | (with_reducible refine Kd.C_alloc ?_ _) | (with_reducible refine Kd.C_drewN ?_ _) | (with_reducible refine Kd.C_drew ?_))); (case side4 => exact HC282_1.out); rintro e w16 ⟨rfl, hb⟩; refine ⟨_, rfl, ?_⟩; have n0_ := Aside0.mk (Kd.R_below (by (with_reducible repeat (first | apply Kd.R_alloc | apply Kd.R_drewN | apply Kd.R_drew)); exact HO_8.out) hb); have n1_ := Aside0.mk (below_step (by repeat (first | (with_reducible first | exact HB.out | apply below_alloc | apply pw_below_drewN | apply below_drew1) | exact HB.out)) hb); clear HO_8; clear HB; have HO_8 := n0_; have HB := n1_; clear n0_ n1_; (try clear hb); (try clear hb2); (try clear hk); (try clear hi)) | ((with_reducible refine gate_builtin (b := .append) (xs := #[.tmp 42, .tmp 45]) rfl ?_); at_builtin; refine Kd.R_append (Kd.int .i64) (w0 := w) w.heap.size rfl (.tmp 42) (.tmp 45) 29 3 (.int .i64 0) 8 rfl Tryd.underlying29 info3 rfl (by decide) (by omega) u8 x8_1 ((x7_1.size : Int) + (t283.size : Int)) [.int .i64 ((x7_1.size : Int) + (t283.size : Int))] (fun _ => True) (fun _ => False) rfl rfl ?aP (fun _ hk => hk.elim) ?aF ?aO ?aB ?aS ?aL ?_; (case aP => exact rfl); (case aB => exact (by repeat (first | (with_reducible first | exact HB.out | apply below_alloc | apply pw_below_drewN | apply below_drew1) | exact HB.out))); (case aF => exact (fun _ _ => trivial)); (case aO => exact (by (with_reducible repeat (first | apply Kd.R_alloc | apply Kd.R_drewN | apply Kd.R_drew)); exact HO_8.out)); (case aS => exact (below_size (by repeat (first | (with_reducible first | exact HB.out | apply below_alloc | apply pw_below_drewN | apply below_drew1) | exact HB.out)))); (case aL => have := LMc15.out; omega); intro v286 w17 ho hb hg hat; rw [show ((x7_1.size : Int) + (t283.size : Int)) = ((x7_1 ++ t283).size : Int) from by simp] at ho; rw [← Ny285.out] at ho; have n0_ := Aside0.mk (hb); have n1_ := Aside0.mk (ho); clear HB; clear HO_8; have HB := n0_; have HO287 := n1_; clear n0_ n1_; clear ho hb hg hat))
                        go_roundg kj6
                        case measure => have := HK1.out; have := HJ6.out; omega
                        case rel => exact ⟨(x7_1 ++ t283), (y285), (wrap64 (x9_1 + 1)), (by first | rfl | (simp; done) | (simp [*]; done)), (by first | rfl | (simp; done) | (simp [*]; done)), H', ⟨by have := HK1.out; have := HJ6.out; omega⟩, ⟨by (with_reducible repeat (first | apply Kd.R_alloc | apply Kd.R_drewN | apply Kd.R_drew)); exact HO287.out⟩, ⟨by repeat (first | (with_reducible first | exact HB.out | apply below_alloc | apply pw_below_drewN | apply below_drew1) | exact HB.out)⟩⟩
                      · rw [if_neg c15] at H
                        exact absurd H (by simp)
                    · rw [if_neg c14] at H
                      exact absurd H (by simp)
                  · rw [if_neg c13] at H
                    have c13b0 : (t284 == 0) = false := beq_eq_false_iff_ne.mpr c13
                    have c13b1 : (t284 != 0) = true := bne_iff_ne.mpr c13
                    obtain rfl := Option.some.inj H
                    have p282 : 0 ≤ (x9_1 : Int) := of_decide_eq_true (by first | (with_reducible assumption) | assumption)
                    have q282 : x9_1 < (l1.length : Int) := of_decide_eq_true (by first | (with_reducible assumption) | assumption)
                    obtain ⟨ad282, A282_1, c282_1, e282, hx282_0, hx282_1, hl282_1, hi282_1⟩ := at_T36 HR1.out x9_1 p282 q282
                    cases e282
                    replace hx282_0 := (HB.out.cell (World.block_lt_of_cell? w _ hx282_0)).trans hx282_0
                    replace hx282_1 := (HB.out.cell (World.block_lt_of_cell? w _ hx282_1)).trans hx282_1
                    have HR282_1 := Aside0.mk hi282_1
                    have HC282_1 := Aside0.mk hl282_1
                    clear hi282_1 hl282_1
                    replace p282 := eq_true p282
                    replace q282 := eq_true q282
                    go_wp2_with (first | ((with_reducible refine gate_callee (f := 12) rfl ?_); refine goesL_ (some 34) rfl rfl Tryd.func12 (by kernel_rfl) rfl #[.slice A0 l0.length c0, .agg #[.bool ((rd_T36 l1 x9_1).f0), .slice A282_1 ((rd_T36 l1 x9_1).f1).length c282_1]] rfl (by (try simp only [List.map_toArray, List.map_cons, List.map_nil]); first | done | rfl | (simp only [List.length_drop, List.length_take]; rfl)) ?_; (with_reducible refine (journal_Write.calls kj6 _ _ l0 ((rd_T36 l1 x9_1).f0) _ _ ((rd_T36 l1 x9_1).f1) t283 t284 _ ?side1 ?side2 ?side3 ?side4 A12.out).mono ?_); (case side1 => repeat (first | exact (Kd.C_below HR0.out HB.out) | (with_reducible refine Kd.C_alloc ?_ _) | (with_reducible refine Kd.C_drewN ?_ _) | (with_reducible refine Kd.C_drew ?_))); (case side2 => exact HC0.out); (case side3 => repeat (first | exact (Kd.C_below HR282_1.out HB.out) | (with_reducible refine Kd.C_alloc ?_ _) | (with_reducible refine Kd.C_drewN ?_ _) | (with_reducible refine Kd.C_drew ?_))); (case side4 => exact HC282_1.out); rintro e w18 ⟨rfl, hb⟩; refine ⟨_, rfl, ?_⟩; have n0_ := Aside0.mk (Kd.R_below (by (with_reducible repeat (first | apply Kd.R_alloc | apply Kd.R_drewN | apply Kd.R_drew)); exact HO_8.out) hb); have n1_ := Aside0.mk (below_step (by repeat (first | (with_reducible first | exact HB.out | apply below_alloc | apply pw_below_drewN | apply below_drew1) | exact HB.out)) hb); clear HO_8; clear HB; have HO_8 := n0_; have HB := n1_; clear n0_ n1_; (try clear hb); (try clear hb2); (try clear hk); (try clear hi)))
                    go_ret
                    exact ⟨by first | rfl | (simp [errW_none, errW_some] <;> rfl) | (simp [*, errW_none, errW_some] <;> rfl), by repeat (first | (with_reducible first | exact HB.out | apply below_alloc | apply pw_below_drewN | apply below_drew1) | exact HB.out)⟩
                · rw [if_neg c11] at H
                  exact absurd H (by simp)
              · rw [if_neg c10] at H
                exact absurd H (by simp)
            · replace c9 := Bool.eq_false_iff.mpr c9
              subst c9
              have H1 : (if (IntKind.u64.wrap (wrap64 ((x7_1.size : Int) + 1))) = 0 then (none) else (if 0 ≤ (wrap64 (Int.tmod (IntKind.u64.wrap (a2)) (IntKind.u64.wrap (wrap64 ((x7_1.size : Int) + 1))))) then (if (wrap64 (Int.tmod (IntKind.u64.wrap (a2)) (IntKind.u64.wrap (wrap64 ((x7_1.size : Int) + 1))))) ≤ (x7_1.size : Int) then ((journal_Read.f kj6 l0 (x7_1.extract 0 ((wrap64 (Int.tmod (IntKind.u64.wrap (a2)) (IntKind.u64.wrap (wrap64 ((x7_1.size : Int) + 1))))) : Int).toNat)).bind fun bt288 => (tithebarnlaw15_JournalTorn.l1 kj6 l1 x8_1 (wrap64 (Int.tmod (IntKind.u64.wrap (a2)) (IntKind.u64.wrap (wrap64 ((x7_1.size : Int) + 1))))) bt288.1 bt288.2 0)) else (none)) else (none))) = some r := by rw [if_neg (show ¬ (false = true) by decide)] at H; exact H
              clear H
              have H := H1
              clear H1
              by_cases c19 : (IntKind.u64.wrap (wrap64 ((x7_1.size : Int) + 1))) = 0
              · rw [if_pos c19] at H
                exact absurd H (by simp)
              · rw [if_neg c19] at H
                have c19b0 : ((IntKind.u64.wrap (wrap64 ((x7_1.size : Int) + 1))) == 0) = false := beq_eq_false_iff_ne.mpr c19
                have c19b1 : ((IntKind.u64.wrap (wrap64 ((x7_1.size : Int) + 1))) != 0) = true := bne_iff_ne.mpr c19
                obtain ⟨ji20, hji20⟩ : ∃ j_ : Int, (wrap64 (Int.tmod (IntKind.u64.wrap (a2)) (IntKind.u64.wrap (wrap64 ((x7_1.size : Int) + 1))))) = j_ := ⟨_, rfl⟩
                replace H : (if 0 ≤ (ji20) then (if (ji20) ≤ (x7_1.size : Int) then ((journal_Read.f kj6 l0 (x7_1.extract 0 ((ji20) : Int).toNat)).bind fun bt288 => (tithebarnlaw15_JournalTorn.l1 kj6 l1 x8_1 ji20 bt288.1 bt288.2 0)) else (none)) else (none)) = some r := by first | (rw [hji20] at H; exact H) | (simp only [hji20] at H ⊢; exact H)
                have hji20w : (IntKind.i64.wrap (Int.tmod (IntKind.u64.wrap (a2)) (IntKind.u64.wrap (wrap64 ((x7_1.size : Int) + 1))))) = ji20 := (i64_w _).trans hji20
                by_cases c21 : 0 ≤ (ji20)
                · rw [if_pos c21] at H
                  have c21b0 := eq_true c21
                  have c21b1 : decide (0 ≤ (ji20)) = true := decide_eq_true c21
                  clear c21
                  by_cases c22 : (ji20) ≤ (x7_1.size : Int)
                  · rw [if_pos c22] at H
                    have c22b0 := eq_true c22
                    have c22b1 : decide ((ji20) ≤ (x7_1.size : Int)) = true := decide_eq_true c22
                    clear c22
                    replace H := Option.bind_eq_some_iff.mp H
                    obtain ⟨⟨t288, t289⟩, A230, H⟩ := H
                    replace H : (tithebarnlaw15_JournalTorn.l1 kj6 l1 x8_1 ji20 t288 t289 0) = some r := H
                    have A23 := Aside0.mk A230
                    clear A230
                    have H' := Aside0.mk H
                    clear H
                    go_wp2_with (first | ((with_reducible refine gate_callee (f := 13) rfl ?_); refine goesL_ (some 60) rfl rfl Tryd.func13 (by kernel_rfl) rfl #[.slice A0 l0.length c0, .string (x7_1.extract 0 ((ji20) : Int).toNat)] rfl (by (try simp only [List.map_toArray, List.map_cons, List.map_nil]); first | done | (simp only [hji20]; rfl) | rfl | (simp only [List.length_drop, List.length_take]; rfl)) ?_; (with_reducible refine (journal_Read.calls kj6 _ _ l0 (x7_1.extract 0 ((ji20) : Int).toNat) t288 t289 _ ?side1 ?side2 A23.out).mono ?_); (case side1 => repeat (first | exact (Kd.C_below HR0.out HB.out) | (with_reducible refine Kd.C_alloc ?_ _) | (with_reducible refine Kd.C_drewN ?_ _) | (with_reducible refine Kd.C_drew ?_))); (case side2 => exact HC0.out); rintro e w24 ⟨v290, rfl, ho0, hb⟩; refine ⟨_, rfl, ?_⟩; have n0_ := Aside0.mk (Kd.R_below (by (with_reducible repeat (first | apply Kd.R_alloc | apply Kd.R_drewN | apply Kd.R_drew)); exact HO_8.out) hb); have n1_ := Aside0.mk (Kd.S_lower ho0 (below_size (by repeat (first | (with_reducible first | exact HB.out | apply below_alloc | apply pw_below_drewN | apply below_drew1) | exact HB.out)))); have n2_ := Aside0.mk (below_step (by repeat (first | (with_reducible first | exact HB.out | apply below_alloc | apply pw_below_drewN | apply below_drew1) | exact HB.out)) hb); clear HO_8; clear HB; have HO_8 := n0_; have HO291 := n1_; have HB := n2_; clear n0_ n1_ n2_; (try clear hb); (try clear hb2); (try clear hk); (try clear hi); (try clear ho0)))
                    go_loopg [15] kj6 (fun kq v15 w' => ∃ (x15_3 : Int), v15 = .int .i64 x15_3 ∧ Aside0 (tithebarnlaw15_JournalTorn.l1 kq l1 x8_1 ji20 t288 t289 x15_3 = some r) ∧ Aside0 (kq ≤ kj6) ∧ Aside0 (Kd.R (Kd.int .i64) 3 w' w.heap.size (fun _ => True) u8 x8_1) ∧ Aside0 (Kd.S k36 36 w' w.heap.size (fun _ => True) v290 t288) ∧ Aside0 (Below w.heap.size w w'))
                    case atStart => exact ⟨(0), (by first | rfl | (simp; done) | (simp [*]; done)), H', ⟨Nat.le_refl _⟩, ⟨by (with_reducible repeat (first | apply Kd.R_alloc | apply Kd.R_drewN | apply Kd.R_drew)); exact HO_8.out⟩, ⟨by (with_reducible repeat (first | apply Kd.S_alloc | apply Kd.S_drewN | apply Kd.S_drew)); exact HO291.out⟩, ⟨by repeat (first | (with_reducible first | exact HB.out | apply below_alloc | apply pw_below_drewN | apply below_drew1) | exact HB.out)⟩⟩
                    case round =>
                      clear H'
                      try clear c1
                      try clear c2
                      try clear p2
                      try clear q2
                      try clear hx2
                      try clear c4
                      try clear c5
                      try clear p6
                      try clear c7
                      try clear c8
                      try clear c8b0
                      try clear c9
                      try clear c10
                      try clear c10b0
                      try clear c11
                      try clear c11b0
                      try clear c12
                      try clear c13
                      try clear c13b0
                      try clear c13b1
                      try clear c14
                      try clear c14b0
                      try clear c14b1
                      try clear c14b2
                      try clear c15
                      try clear c19
                      try clear c19b0
                      try clear c19b1
                      try clear c21
                      try clear c21b0
                      try clear c21b1
                      try clear c22
                      try clear c22b0
                      try clear c22b1
                      try clear hx282_0
                      try clear hx282_1
                      try clear p2
                      try clear p282
                      try clear q282
                      obtain ⟨x15_3, rfl, HA, HK3, HO_8, HO_13, HB⟩ := hrel
                      cases gk with
                      | zero => exact absurd HA.out (by simp [tithebarnlaw15_JournalTorn.l1])
                      | succ k3 =>
                        have H := HA.out
                        clear HA
                        simp only [tithebarnlaw15_JournalTorn.l1] at H
                        by_cases c25 : x15_3 < (x8_1.length : Int)
                        · rw [if_pos c25] at H
                          have c25b0 : decide (x15_3 < (x8_1.length : Int)) = true := decide_eq_true c25
                          clear c25
                          by_cases c26 : 0 ≤ x15_3
                          · rw [if_pos c26] at H
                            have c26b0 : decide (0 ≤ x15_3) = true := decide_eq_true c26
                            clear c26
                            by_cases c27 : (rd x8_1 x15_3) ≤ ji20
                            · rw [if_pos c27] at H
                              have c27b0 : decide ((rd x8_1 x15_3) ≤ ji20) = true := decide_eq_true c27
                              clear c27
                              have H' := Aside0.mk H
                              clear H
                              obtain ⟨Ao28, co28, eo28⟩ := Kd.R_slice HO_8.out
                              subst eo28
                              have p292 : 0 ≤ (x15_3 : Int) := of_decide_eq_true (by first | (with_reducible assumption) | assumption)
                              have q292 : x15_3 < (x8_1.length : Int) := of_decide_eq_true (by first | (with_reducible assumption) | assumption)
                              obtain ⟨ad292, e292, hx292_0⟩ := Kd.at_int (Kd.R_reads' HO_8.out).2.2 x15_3 p292 q292
                              cases e292
                              replace p292 := eq_true p292
                              replace q292 := eq_true q292
                              go_wp2
                              go_roundg k3
                              case measure => have := HK1.out; have := HJ6.out; have := HK3.out; omega
                              case rel => exact ⟨(wrap64 (x15_3 + 1)), (by first | rfl | (simp; done) | (simp [*]; done)), H', ⟨by have := HK1.out; have := HJ6.out; have := HK3.out; omega⟩, ⟨by (with_reducible repeat (first | apply Kd.R_alloc | apply Kd.R_drewN | apply Kd.R_drew)); exact HO_8.out⟩, ⟨by (with_reducible repeat (first | apply Kd.S_alloc | apply Kd.S_drewN | apply Kd.S_drew)); exact HO_13.out⟩, ⟨by repeat (first | (with_reducible first | exact HB.out | apply below_alloc | apply pw_below_drewN | apply below_drew1) | exact HB.out)⟩⟩
                            · rw [if_neg c27] at H
                              have c27b0 : decide ((rd x8_1 x15_3) ≤ ji20) = false := decide_eq_false c27
                              clear c27
                              by_cases c29 : (x8_1.length : Int) = 0
                              · rw [if_pos c29] at H
                                have c29b0 : ((x8_1.length : Int) == 0) = true := beq_iff_eq.mpr c29
                                have c29b1 : ((x8_1.length : Int) != 0) = false := bne_eq_false_iff_eq.mpr c29
                                clear c29
                                obtain rfl := Option.some.inj H
                                obtain ⟨Ao30, co30, eo30⟩ := Kd.R_slice HO_8.out
                                subst eo30
                                have p292 : 0 ≤ (x15_3 : Int) := of_decide_eq_true (by first | (with_reducible assumption) | assumption)
                                have q292 : x15_3 < (x8_1.length : Int) := of_decide_eq_true (by first | (with_reducible assumption) | assumption)
                                obtain ⟨ad292, e292, hx292_0⟩ := Kd.at_int (Kd.R_reads' HO_8.out).2.2 x15_3 p292 q292
                                cases e292
                                replace p292 := eq_true p292
                                replace q292 := eq_true q292
                                obtain ⟨Ao31, co31, eo31⟩ := Kd.S_slice HO_13.out
                                subst eo31
                                go_wp2
                                go_ret
                                exact ⟨by first | rfl | (simp [errW_none, errW_some] <;> rfl) | (simp only [← hji20]; first | rfl | (simp [errW_none, errW_some] <;> rfl)) | (simp [*, errW_none, errW_some] <;> rfl), by repeat (first | (with_reducible first | exact HB.out | apply below_alloc | apply pw_below_drewN | apply below_drew1) | exact HB.out)⟩
                              · rw [if_neg c29] at H
                                have c29b0 : ((x8_1.length : Int) == 0) = false := beq_eq_false_iff_ne.mpr c29
                                have c29b1 : ((x8_1.length : Int) != 0) = true := bne_iff_ne.mpr c29
                                have c29b2 : ¬ (x8_1 = []) := fun h_ => c29 (by rw [h_]; rfl)
                                by_cases c32 : t289 = 0
                                · rw [if_pos c32] at H
                                  have c32b0 : (t289 == 0) = true := beq_iff_eq.mpr c32
                                  have c32b1 : (t289 != 0) = false := bne_eq_false_iff_eq.mpr c32
                                  clear c32
                                  have c33b0 := eq_true (of_decide_eq_true (by first | (with_reducible assumption) | assumption) : 0 ≤ x15_3)
                                  by_cases c34 : x15_3 ≤ (l1.length : Int)
                                  · rw [if_pos c34] at H
                                    have c34b0 := eq_true c34
                                    have c34b1 : decide (x15_3 ≤ (l1.length : Int)) = true := decide_eq_true c34
                                    clear c34
                                    obtain ⟨y293, hy293⟩ : ∃ y_ : List (S36), y_ = (l1.take (x15_3 : Int).toNat) := ⟨_, rfl⟩
                                    replace H : ((tithebarnref07_SameAll.f k3 t288 y293).bind fun t297 => (some t297)) = some r := by first | (rw [hy293]; with_reducible exact H) | (have H2_ := (Option.bind_some _ _).symm.trans H; rw [hy293]; with_reducible exact H2_) | (have H2_ := (Option.bind_some _ _).symm.trans H; with_reducible exact H2_) | with_reducible exact H | (rw [hy293]; exact H) | exact H
                                    have Ny293 := Aside0.mk hy293
                                    clear hy293
                                    replace H := Option.bind_eq_some_iff.mp H
                                    obtain ⟨t297, A350, H⟩ := H
                                    replace H : (some t297) = some r := H
                                    have A35 := Aside0.mk A350
                                    clear A350
                                    obtain rfl := Option.some.inj H
                                    obtain ⟨Ao36, co36, eo36⟩ := Kd.R_slice HO_8.out
                                    subst eo36
                                    have p292 : 0 ≤ (x15_3 : Int) := of_decide_eq_true (by first | (with_reducible assumption) | assumption)
                                    have q292 : x15_3 < (x8_1.length : Int) := of_decide_eq_true (by first | (with_reducible assumption) | assumption)
                                    obtain ⟨ad292, e292, hx292_0⟩ := Kd.at_int (Kd.R_reads' HO_8.out).2.2 x15_3 p292 q292
                                    cases e292
                                    replace p292 := eq_true p292
                                    replace q292 := eq_true q292
                                    have q37 : (x15_3 : Int) ≤ ((l1.length : Int) : Int) := of_decide_eq_true (by first | (with_reducible assumption) | assumption)
                                    obtain ⟨i037, hi037, _, hsz37, _⟩ := info_parts info36
                                    have hroom37 : l1.length ≤ c1 := HC1.out
                                    have hC37 : Kd.C k36 _ A1 l1.length l1 := HR1.out
                                    have hcut37 := cut_to (P := Tryd.prog) 28 36 .i64 Tryd.underlying28 hi037 A1 l1.length c1 x15_3 (of_decide_eq_true (by first | (with_reducible assumption) | assumption)) q37 hroom37
                                    have hr37 := Kd.C_take (m := (x15_3 : Int).toNat) hC37 (by omega)
                                    have hy37 : y293.length = (x15_3 : Int).toNat := (by rw [Ny293.out, List.length_take]; omega)
                                    rw [← Ny293.out] at hr37
                                    rw [← hy37] at hcut37
                                    have HR296 := Aside0.mk hr37
                                    have HC296 := Aside0.mk (show y293.length ≤ c1 from by omega)
                                    clear hr37 hC37 hroom37 hi037 hsz37
                                    have KY37 := Aside0.mk hy37
                                    clear hy37
                                    replace q37 := eq_true q37
                                    obtain ⟨Ao38, co38, eo38⟩ := Kd.S_slice HO_13.out
                                    subst eo38
                                    go_wp2_with (first | (go_at_call 14; (with_reducible refine (tithebarnref07_SameAll.calls k3 _ _ t288 _ _ y293 t297 _ ?side1 ?side2 ?side3 ?side4 A35.out).mono ?_); (case side1 => repeat (first | exact (Kd.S_reads' HO_13.out).2.2 | (with_reducible refine Kd.C_alloc ?_ _) | (with_reducible refine Kd.C_drewN ?_ _) | (with_reducible refine Kd.C_drew ?_))); (case side2 => exact (Kd.S_reads' HO_13.out).2.1); (case side3 => repeat (first | exact (Kd.C_below HR296.out HB.out) | (with_reducible refine Kd.C_alloc ?_ _) | (with_reducible refine Kd.C_drewN ?_ _) | (with_reducible refine Kd.C_drew ?_))); (case side4 => exact HC296.out); rintro e w39 ⟨rfl, hb⟩; have n0_ := Aside0.mk (Kd.R_below (by (with_reducible repeat (first | apply Kd.R_alloc | apply Kd.R_drewN | apply Kd.R_drew)); exact HO_8.out) hb); have n1_ := Aside0.mk (Kd.S_below (by (with_reducible repeat (first | apply Kd.S_alloc | apply Kd.S_drewN | apply Kd.S_drew)); exact HO_13.out) hb); have n2_ := Aside0.mk (below_step (by repeat (first | (with_reducible first | exact HB.out | apply below_alloc | apply pw_below_drewN | apply below_drew1) | exact HB.out)) hb); clear HO_8; clear HO_13; clear HB; have HO_8 := n0_; have HO_13 := n1_; have HB := n2_; clear n0_ n1_ n2_; (try clear hb); (try clear hb2); (try clear hk); (try clear hi)))
                                    go_ret
                                    exact ⟨by first | rfl | (simp [errW_none, errW_some] <;> rfl) | (simp only [← hji20]; first | rfl | (simp [errW_none, errW_some] <;> rfl)) | (simp [*, errW_none, errW_some] <;> rfl), by repeat (first | (with_reducible first | exact HB.out | apply below_alloc | apply pw_below_drewN | apply below_drew1) | exact HB.out)⟩
                                  · rw [if_neg c34] at H
                                    exact absurd H (by simp)
                                · rw [if_neg c32] at H
                                  have c32b0 : (t289 == 0) = false := beq_eq_false_iff_ne.mpr c32
                                  have c32b1 : (t289 != 0) = true := bne_iff_ne.mpr c32
                                  obtain rfl := Option.some.inj H
                                  obtain ⟨Ao40, co40, eo40⟩ := Kd.R_slice HO_8.out
                                  subst eo40
                                  have p292 : 0 ≤ (x15_3 : Int) := of_decide_eq_true (by first | (with_reducible assumption) | assumption)
                                  have q292 : x15_3 < (x8_1.length : Int) := of_decide_eq_true (by first | (with_reducible assumption) | assumption)
                                  obtain ⟨ad292, e292, hx292_0⟩ := Kd.at_int (Kd.R_reads' HO_8.out).2.2 x15_3 p292 q292
                                  cases e292
                                  replace p292 := eq_true p292
                                  replace q292 := eq_true q292
                                  go_wp2
                                  go_ret
                                  exact ⟨by first | rfl | (simp [errW_none, errW_some] <;> rfl) | (simp only [← hji20]; first | rfl | (simp [errW_none, errW_some] <;> rfl)) | (simp [*, errW_none, errW_some] <;> rfl), by repeat (first | (with_reducible first | exact HB.out | apply below_alloc | apply pw_below_drewN | apply below_drew1) | exact HB.out)⟩
                          · rw [if_neg c26] at H
                            exact absurd H (by simp)
                        · rw [if_neg c25] at H
                          have c25b0 : decide (x15_3 < (x8_1.length : Int)) = false := decide_eq_false c25
                          clear c25
                          by_cases c41 : (x8_1.length : Int) = 0
                          · rw [if_pos c41] at H
                            have c41b0 : ((x8_1.length : Int) == 0) = true := beq_iff_eq.mpr c41
                            have c41b1 : ((x8_1.length : Int) != 0) = false := bne_eq_false_iff_eq.mpr c41
                            clear c41
                            obtain rfl := Option.some.inj H
                            obtain ⟨Ao42, co42, eo42⟩ := Kd.R_slice HO_8.out
                            subst eo42
                            obtain ⟨Ao43, co43, eo43⟩ := Kd.S_slice HO_13.out
                            subst eo43
                            go_wp2
                            go_ret
                            exact ⟨by first | rfl | (simp [errW_none, errW_some] <;> rfl) | (simp only [← hji20]; first | rfl | (simp [errW_none, errW_some] <;> rfl)) | (simp [*, errW_none, errW_some] <;> rfl), by repeat (first | (with_reducible first | exact HB.out | apply below_alloc | apply pw_below_drewN | apply below_drew1) | exact HB.out)⟩
                          · rw [if_neg c41] at H
                            have c41b0 : ((x8_1.length : Int) == 0) = false := beq_eq_false_iff_ne.mpr c41
                            have c41b1 : ((x8_1.length : Int) != 0) = true := bne_iff_ne.mpr c41
                            have c41b2 : ¬ (x8_1 = []) := fun h_ => c41 (by rw [h_]; rfl)
                            by_cases c44 : t289 = 0
                            · rw [if_pos c44] at H
                              have c44b0 : (t289 == 0) = true := beq_iff_eq.mpr c44
                              have c44b1 : (t289 != 0) = false := bne_eq_false_iff_eq.mpr c44
                              clear c44
                              by_cases c45 : 0 ≤ x15_3
                              · rw [if_pos c45] at H
                                have c45b0 := eq_true c45
                                have c45b1 : decide (0 ≤ x15_3) = true := decide_eq_true c45
                                clear c45
                                by_cases c46 : x15_3 ≤ (l1.length : Int)
                                · rw [if_pos c46] at H
                                  have c46b0 := eq_true c46
                                  have c46b1 : decide (x15_3 ≤ (l1.length : Int)) = true := decide_eq_true c46
                                  clear c46
                                  obtain ⟨y298, hy298⟩ : ∃ y_ : List (S36), y_ = (l1.take (x15_3 : Int).toNat) := ⟨_, rfl⟩
                                  replace H : ((tithebarnref07_SameAll.f k3 t288 y298).bind fun t302 => (some t302)) = some r := by first | (rw [hy298]; with_reducible exact H) | (have H2_ := (Option.bind_some _ _).symm.trans H; rw [hy298]; with_reducible exact H2_) | (have H2_ := (Option.bind_some _ _).symm.trans H; with_reducible exact H2_) | with_reducible exact H | (rw [hy298]; exact H) | exact H
                                  have Ny298 := Aside0.mk hy298
                                  clear hy298
                                  replace H := Option.bind_eq_some_iff.mp H
                                  obtain ⟨t302, A470, H⟩ := H
                                  replace H : (some t302) = some r := H
                                  have A47 := Aside0.mk A470
                                  clear A470
                                  obtain rfl := Option.some.inj H
                                  obtain ⟨Ao48, co48, eo48⟩ := Kd.R_slice HO_8.out
                                  subst eo48
                                  have q49 : (x15_3 : Int) ≤ ((l1.length : Int) : Int) := of_decide_eq_true (by first | (with_reducible assumption) | assumption)
                                  obtain ⟨i049, hi049, _, hsz49, _⟩ := info_parts info36
                                  have hroom49 : l1.length ≤ c1 := HC1.out
                                  have hC49 : Kd.C k36 _ A1 l1.length l1 := HR1.out
                                  have hcut49 := cut_to (P := Tryd.prog) 28 36 .i64 Tryd.underlying28 hi049 A1 l1.length c1 x15_3 (of_decide_eq_true (by first | (with_reducible assumption) | assumption)) q49 hroom49
                                  have hr49 := Kd.C_take (m := (x15_3 : Int).toNat) hC49 (by omega)
                                  have hy49 : y298.length = (x15_3 : Int).toNat := (by rw [Ny298.out, List.length_take]; omega)
                                  rw [← Ny298.out] at hr49
                                  rw [← hy49] at hcut49
                                  have HR301 := Aside0.mk hr49
                                  have HC301 := Aside0.mk (show y298.length ≤ c1 from by omega)
                                  clear hr49 hC49 hroom49 hi049 hsz49
                                  have KY49 := Aside0.mk hy49
                                  clear hy49
                                  replace q49 := eq_true q49
                                  obtain ⟨Ao50, co50, eo50⟩ := Kd.S_slice HO_13.out
                                  subst eo50
                                  go_wp2_with (first | (go_at_call 14; (with_reducible refine (tithebarnref07_SameAll.calls k3 _ _ t288 _ _ y298 t302 _ ?side1 ?side2 ?side3 ?side4 A47.out).mono ?_); (case side1 => repeat (first | exact (Kd.S_reads' HO_13.out).2.2 | (with_reducible refine Kd.C_alloc ?_ _) | (with_reducible refine Kd.C_drewN ?_ _) | (with_reducible refine Kd.C_drew ?_))); (case side2 => exact (Kd.S_reads' HO_13.out).2.1); (case side3 => repeat (first | exact (Kd.C_below HR301.out HB.out) | (with_reducible refine Kd.C_alloc ?_ _) | (with_reducible refine Kd.C_drewN ?_ _) | (with_reducible refine Kd.C_drew ?_))); (case side4 => exact HC301.out); rintro e w51 ⟨rfl, hb⟩; have n0_ := Aside0.mk (Kd.R_below (by (with_reducible repeat (first | apply Kd.R_alloc | apply Kd.R_drewN | apply Kd.R_drew)); exact HO_8.out) hb); have n1_ := Aside0.mk (Kd.S_below (by (with_reducible repeat (first | apply Kd.S_alloc | apply Kd.S_drewN | apply Kd.S_drew)); exact HO_13.out) hb); have n2_ := Aside0.mk (below_step (by repeat (first | (with_reducible first | exact HB.out | apply below_alloc | apply pw_below_drewN | apply below_drew1) | exact HB.out)) hb); clear HO_8; clear HO_13; clear HB; have HO_8 := n0_; have HO_13 := n1_; have HB := n2_; clear n0_ n1_ n2_; (try clear hb); (try clear hb2); (try clear hk); (try clear hi)))
                                  go_ret
                                  exact ⟨by first | rfl | (simp [errW_none, errW_some] <;> rfl) | (simp only [← hji20]; first | rfl | (simp [errW_none, errW_some] <;> rfl)) | (simp [*, errW_none, errW_some] <;> rfl), by repeat (first | (with_reducible first | exact HB.out | apply below_alloc | apply pw_below_drewN | apply below_drew1) | exact HB.out)⟩
                                · rw [if_neg c46] at H
                                  exact absurd H (by simp)
                              · rw [if_neg c45] at H
                                exact absurd H (by simp)
                            · rw [if_neg c44] at H
                              have c44b0 : (t289 == 0) = false := beq_eq_false_iff_ne.mpr c44
                              have c44b1 : (t289 != 0) = true := bne_iff_ne.mpr c44
                              obtain rfl := Option.some.inj H
                              obtain ⟨Ao52, co52, eo52⟩ := Kd.R_slice HO_8.out
                              subst eo52
                              go_wp2
                              go_ret
                              exact ⟨by first | rfl | (simp [errW_none, errW_some] <;> rfl) | (simp only [← hji20]; first | rfl | (simp [errW_none, errW_some] <;> rfl)) | (simp [*, errW_none, errW_some] <;> rfl), by repeat (first | (with_reducible first | exact HB.out | apply below_alloc | apply pw_below_drewN | apply below_drew1) | exact HB.out)⟩
                  · rw [if_neg c22] at H
                    exact absurd H (by simp)
                · rw [if_neg c21] at H
                  exact absurd H (by simp)
  · replace c5 := Bool.eq_false_iff.mpr c5
    subst c5
    have H1 : (some false) = some r := by rw [if_neg (show ¬ (false = true) by decide)] at H; exact H
    clear H
    have H := H1
    clear H1
    obtain rfl := Option.some.inj H
    go_enter Tryd.func4, Tryd.ntmps4
    go_wp2_with (first | ((with_reducible refine gate_callee (f := 7) rfl ?_); refine goesL_ (some 16) rfl rfl Tryd.func7 (by kernel_rfl) rfl #[] rfl (by (try simp only [List.map_toArray, List.map_cons, List.map_nil]); first | done | rfl | (simp only [List.length_drop, List.length_take]; rfl)) ?_; (with_reducible refine (tithebarnlaw15_lives.calls k  false _ A4.out).mono ?_); rintro e w53 ⟨rfl, hb⟩; refine ⟨_, rfl, ?_⟩; have n0_ := Aside0.mk (below_step (by repeat (first | (with_reducible first | exact HB.out | apply below_alloc | apply pw_below_drewN | apply below_drew1) | exact HB.out)) hb); clear HB; have HB := n0_; clear n0_; (try clear hb); (try clear hb2); (try clear hk); (try clear hi)))
    go_ret
    exact ⟨by first | rfl | (simp [errW_none, errW_some] <;> rfl) | (simp [*, errW_none, errW_some] <;> rfl), by repeat (first | (with_reducible first | exact HB.out | apply below_alloc | apply pw_below_drewN | apply below_drew1) | exact HB.out)⟩
end Go.Proofs.YteddgkkggjfmpaaDoor.A
