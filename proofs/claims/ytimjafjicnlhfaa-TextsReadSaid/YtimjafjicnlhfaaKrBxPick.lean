/- Words and walks that the print wrote for this claim: those that the claim leans on (wip/shake.py). -/
import Derived.Test.YtimjafjicnlhfaaKrAx0
import Derived.Test.YtimjafjicnlhfaaKrAx10
import Derived.Test.YtimjafjicnlhfaaKrAx12
import Derived.Test.YtimjafjicnlhfaaKrAx8
import Derived.Deep.RegionWith
import Derived.Deep.DeepCutAuto
namespace Go.Proofs.Ytimjafjicnlhfaa.A
open Go.RowKit Go.Proofs.YtimjafjicnlhfaaW.PrintWords Go.Proofs.YtimjafjicnlhfaaW.PrintLast Go.Proofs.YtimjafjicnlhfaaW.PrintMore
attribute [local go_sem] min2_int min_two
set_option linter.unusedVariables false
set_option linter.unusedSimpArgs false
mutual
def tithebarnref05_pick.l0 : Nat → Int → List ByteArray → Int → List Int → List Bool → List ByteArray → Int → ByteArray → Int → Int → Option (List ByteArray × Int × ByteArray × Int × Int)
  | 0, _, _, _, _, _, _, _, _, _, _ => none
  | k + 1, x1, x2, x8, x10, x12, x13, x14, x1000, x1001, x1002 => if x14 < x1 then (if 0 ≤ x14 then (if x14 < (x10.length : Int) then (if (rd x10 x14) ≥ (IntKind.u64.wrap ((x2.length : Int))) then (some (([] : List ByteArray), 4, x1000, x1001, x1002)) else (if 0 ≤ (rd x10 x14) then (if (rd x10 x14) < (x12.length : Int) then (if (rd x10 x14) < (x2.length : Int) then (if x13.length < 8796093022208 then (tithebarnref05_pick.l0 k x1 x2 x8 x10 (x12.set ((rd x10 x14) : Int).toNat true) (x13 ++ [rdOf ByteArray.empty x2 (rd x10 x14)]) (wrap64 (x14 + 1)) x1000 x1001 x1002) else (none)) else (none)) else (none)) else (none))) else (none)) else (none)) else (tithebarnref05_pick.l1 k x8 x10 x12 x13 0 x1000 x1001 x1002)
def tithebarnref05_pick.l1 : Nat → Int → List Int → List Bool → List ByteArray → Int → ByteArray → Int → Int → Option (List ByteArray × Int × ByteArray × Int × Int)
  | 0, _, _, _, _, _, _, _, _ => none
  | k + 1, x8, x10, x12, x13, x15, x1000, x1001, x1002 => if x15 < (x12.length : Int) then (if 0 ≤ x15 then (if rdOf false x12 x15 = true then (tithebarnref05_pick.l1 k x8 x10 x12 x13 (wrap64 (x15 + 1)) x1000 x1001 x1002) else (some (([] : List ByteArray), 4, x1000, x1001, x1002))) else (none)) else ((tithebarnref03_Width.f k x10).bind fun t358 => (if t358 = x8 then (some (x13, 0, x1000, x1001, x1002)) else (some (([] : List ByteArray), 4, x1000, x1001, x1002))))
end
def tithebarnref05_pick.f (k : Nat) (s0_0 : ByteArray) (s0_1 : Int) (s0_2 : Int) (a1 : Int) (l2 : List ByteArray) : Option (List ByteArray × Int × ByteArray × Int × Int) := (tithebarnref01_Cursor_Byte.f s0_0 s0_1 s0_2).bind fun bt334 => (if bt334.2.2.2 = 0 then (if bt334.1 > 64 then (some (([] : List ByteArray), 4, bt334.2.1, bt334.2.2.1, bt334.2.2.2)) else ((tithebarnref01_Cursor_Left.f bt334.2.1 bt334.2.2.1 bt334.2.2.2).bind fun bt338 => (if bt338.1 < (wrap64 (Int.tdiv (wrap64 ((wrap64 (a1 * bt334.1)) + 7)) 8)) then (some (([] : List ByteArray), 2, bt338.2.1, bt338.2.2.1, bt338.2.2.2)) else (if 0 ≤ bt338.2.2.1 then (if bt338.2.2.1 ≤ (wrap64 (bt338.2.2.1 + (wrap64 (Int.tdiv (wrap64 ((wrap64 (a1 * bt334.1)) + 7)) 8)))) then (if (wrap64 (bt338.2.2.1 + (wrap64 (Int.tdiv (wrap64 ((wrap64 (a1 * bt334.1)) + 7)) 8)))) ≤ (bt338.2.1.size : Int) then ((tithebarnref03_Unpack.f k (bt338.2.1.extract (bt338.2.2.1 : Int).toNat ((wrap64 (bt338.2.2.1 + (wrap64 (Int.tdiv (wrap64 ((wrap64 (a1 * bt334.1)) + 7)) 8)))) : Int).toNat) a1 bt334.1).bind fun bt342 => (if bt342.2 = 0 then (if 0 ≤ (l2.length : Int) then (if ((l2.length : Int) : Int).toNat ≤ 281474976710656 then (tithebarnref05_pick.l0 k a1 l2 bt334.1 bt342.1 (List.replicate ((l2.length : Int) : Int).toNat false) ([] : List ByteArray) 0 bt338.2.1 (wrap64 (bt338.2.2.1 + (wrap64 (Int.tdiv (wrap64 ((wrap64 (a1 * bt334.1)) + 7)) 8)))) bt338.2.2.2) else (none)) else (none)) else (some (([] : List ByteArray), bt342.2, bt338.2.1, bt338.2.2.1, bt338.2.2.2)))) else (none)) else (none)) else (none))))) else (some (([] : List ByteArray), bt334.2.2.2, bt334.2.1, bt334.2.2.1, bt334.2.2.2)))
set_option maxHeartbeats 8000000 in
set_option maxRecDepth 100000 in
theorem tithebarnref05_pick.calls (k : Nat) (g : Nat) (s0_0 : ByteArray) (s0_1 : Int) (s0_2 : Int) (a1 : Int) (A2 : Option Addr) (c2 : Nat) (l2 : List ByteArray) (r1 : List ByteArray) (r2 : Int) (r3 : ByteArray) (r4 : Int) (r5 : Int) (w0 w : World) (hI : IsS62 w0 w g s0_0 s0_1 s0_2) (hB : Below w0.heap.size w0 w) (hr2 : Kd.C Kd.string w A2 l2.length l2) (hc2 : l2.length ≤ c2) (hf2 : ∀ ad, A2 = some ad → 0 < l2.length → ad.block ≠ g) (h : tithebarnref05_pick.f k s0_0 s0_1 s0_2 a1 l2 = some (r1, r2, r3, r4, r5)) :
    Calls Try.prog 42 #[.pointer (some ⟨g, 0, none⟩), .int .i64 a1, .slice A2 l2.length c2] w fun e w' => ∃ v0_ : Value, e = .returned (.tuple #[v0_, .int .i64 r2]) ∧ Kd.R Kd.string 9 w' w.heap.size (fun _ => True) v0_ r1 ∧ IsS62 w0 w' g r3 r4 r5 ∧ Below w0.heap.size w0 w' ∧ KeepBut w w' g none := by
  have HR2 := Aside0.mk hr2
  have HC2 := Aside0.mk hc2
  clear hr2 hc2
  have HI0 := Aside0.mk hI
  have HK := Aside0.mk (KeepBut.refl w g none)
  have HL := Aside0.mk hB.size
  clear hI
  have HW0 := Aside0.mk hB.size
  have HB := Aside0.mk hB
  clear hB
  have H : ((tithebarnref01_Cursor_Byte.f s0_0 s0_1 s0_2).bind fun bt334 => (if bt334.2.2.2 = 0 then (if bt334.1 > 64 then (some (([] : List ByteArray), 4, bt334.2.1, bt334.2.2.1, bt334.2.2.2)) else ((tithebarnref01_Cursor_Left.f bt334.2.1 bt334.2.2.1 bt334.2.2.2).bind fun bt338 => (if bt338.1 < (wrap64 (Int.tdiv (wrap64 ((wrap64 (a1 * bt334.1)) + 7)) 8)) then (some (([] : List ByteArray), 2, bt338.2.1, bt338.2.2.1, bt338.2.2.2)) else (if 0 ≤ bt338.2.2.1 then (if bt338.2.2.1 ≤ (wrap64 (bt338.2.2.1 + (wrap64 (Int.tdiv (wrap64 ((wrap64 (a1 * bt334.1)) + 7)) 8)))) then (if (wrap64 (bt338.2.2.1 + (wrap64 (Int.tdiv (wrap64 ((wrap64 (a1 * bt334.1)) + 7)) 8)))) ≤ (bt338.2.1.size : Int) then ((tithebarnref03_Unpack.f k (bt338.2.1.extract (bt338.2.2.1 : Int).toNat ((wrap64 (bt338.2.2.1 + (wrap64 (Int.tdiv (wrap64 ((wrap64 (a1 * bt334.1)) + 7)) 8)))) : Int).toNat) a1 bt334.1).bind fun bt342 => (if bt342.2 = 0 then (if 0 ≤ (l2.length : Int) then (if ((l2.length : Int) : Int).toNat ≤ 281474976710656 then (tithebarnref05_pick.l0 k a1 l2 bt334.1 bt342.1 (List.replicate ((l2.length : Int) : Int).toNat false) ([] : List ByteArray) 0 bt338.2.1 (wrap64 (bt338.2.2.1 + (wrap64 (Int.tdiv (wrap64 ((wrap64 (a1 * bt334.1)) + 7)) 8)))) bt338.2.2.2) else (none)) else (none)) else (some (([] : List ByteArray), bt342.2, bt338.2.1, bt338.2.2.1, bt338.2.2.2)))) else (none)) else (none)) else (none))))) else (some (([] : List ByteArray), bt334.2.2.2, bt334.2.1, bt334.2.2.1, bt334.2.2.2)))) = some (r1, r2, r3, r4, r5) := h
  clear h
  replace H := Option.bind_eq_some_iff.mp H
  obtain ⟨⟨t334, t335, t336, t337⟩, A40, H⟩ := H
  replace H : (if t337 = 0 then (if t334 > 64 then (some (([] : List ByteArray), 4, t335, t336, t337)) else ((tithebarnref01_Cursor_Left.f t335 t336 t337).bind fun bt338 => (if bt338.1 < (wrap64 (Int.tdiv (wrap64 ((wrap64 (a1 * t334)) + 7)) 8)) then (some (([] : List ByteArray), 2, bt338.2.1, bt338.2.2.1, bt338.2.2.2)) else (if 0 ≤ bt338.2.2.1 then (if bt338.2.2.1 ≤ (wrap64 (bt338.2.2.1 + (wrap64 (Int.tdiv (wrap64 ((wrap64 (a1 * t334)) + 7)) 8)))) then (if (wrap64 (bt338.2.2.1 + (wrap64 (Int.tdiv (wrap64 ((wrap64 (a1 * t334)) + 7)) 8)))) ≤ (bt338.2.1.size : Int) then ((tithebarnref03_Unpack.f k (bt338.2.1.extract (bt338.2.2.1 : Int).toNat ((wrap64 (bt338.2.2.1 + (wrap64 (Int.tdiv (wrap64 ((wrap64 (a1 * t334)) + 7)) 8)))) : Int).toNat) a1 t334).bind fun bt342 => (if bt342.2 = 0 then (if 0 ≤ (l2.length : Int) then (if ((l2.length : Int) : Int).toNat ≤ 281474976710656 then (tithebarnref05_pick.l0 k a1 l2 t334 bt342.1 (List.replicate ((l2.length : Int) : Int).toNat false) ([] : List ByteArray) 0 bt338.2.1 (wrap64 (bt338.2.2.1 + (wrap64 (Int.tdiv (wrap64 ((wrap64 (a1 * t334)) + 7)) 8)))) bt338.2.2.2) else (none)) else (none)) else (some (([] : List ByteArray), bt342.2, bt338.2.1, bt338.2.2.1, bt338.2.2.2)))) else (none)) else (none)) else (none))))) else (some (([] : List ByteArray), t337, t335, t336, t337))) = some (r1, r2, r3, r4, r5) := H
  have A4 := Aside0.mk A40
  clear A40
  by_cases c5 : t337 = 0
  · rw [if_pos c5] at H
    have c5b0 : (t337 == 0) = true := beq_iff_eq.mpr c5
    have c5b1 : (t337 != 0) = false := bne_eq_false_iff_eq.mpr c5
    clear c5
    by_cases c6 : t334 > 64
    · rw [if_pos c6] at H
      have c6b0 : decide (64 < t334) = true := decide_eq_true c6
      clear c6
      simp only [Option.some.injEq, Prod.mk.injEq] at H
      obtain ⟨rfl, rfl, rfl, rfl, rfl⟩ := H
      go_enter Try.func42, Try.ntmps42
      go_wp2_with (first | ((with_reducible refine gate_callee (f := 39) rfl ?_); refine goesL_ (some 17) rfl rfl Try.func39 (by kernel_rfl) rfl #[.pointer (some ⟨g, 0, none⟩)] rfl (by (try simp only [List.map_toArray, List.map_cons, List.map_nil]); first | done | rfl | (simp only [List.length_drop, List.length_take]; rfl)) ?_; (with_reducible refine (tithebarnref01_Cursor_Byte.calls g s0_0 s0_1 s0_2 t334 t335 t336 t337 w0 _ ?side1 ?side2 A4.out).mono ?_); (case side1 => repeat (first | (with_reducible first | exact HI0.out | apply IsS62.alloc | apply IsS62.drewN | apply IsS62.drew | apply IsS62.set_0 | apply IsS62.set_1 | apply IsS62.set_2) | exact HI0.out)); (case side2 => repeat (first | (with_reducible first | exact HB.out | apply below_alloc | apply pw_below_drewN | apply below_drew1 | refine below_set ?_ (IsS62.ge HI0.out)) | exact HB.out)); rintro e w7 ⟨rfl, hi, hb, hk⟩; refine ⟨_, rfl, ?_⟩; have n0_ := Aside0.mk (KeepBut.trans (by repeat (first | (with_reducible first | exact HK.out | apply KeepBut.set_ | apply keep_drewN | apply keep_drew | apply keep_alloc) | exact HK.out)) hk (.inl rfl)); have n1_ := Aside0.mk (hb); have n2_ := Aside0.mk (hi); clear HK; clear HB; clear HI0; have HK := n0_; have HB := n1_; have HI0 := n2_; clear n0_ n1_ n2_; (try clear hb); (try clear hb2); (try clear hk); (try clear hi); obtain ⟨HGz8, hgz8⟩ := HI0.out; have hcz8_0 := cellS62_0 HGz8; have hcz8_1 := cellS62_1 HGz8; have hcz8_2 := cellS62_2 HGz8; have hfz8_0 := blk_frozen HGz8 0; have hfz8_1 := blk_frozen HGz8 1; have hfz8_2 := blk_frozen HGz8 2; clear HGz8 hgz8))
      repeat (go_quiet (first | ((with_reducible refine gate_callee (f := 39) rfl ?_); refine goesL_ (some 17) rfl rfl Try.func39 (by kernel_rfl) rfl #[.pointer (some ⟨g, 0, none⟩)] rfl (by (try simp only [List.map_toArray, List.map_cons, List.map_nil]); first | done | rfl | (simp only [List.length_drop, List.length_take]; rfl)) ?_; (with_reducible refine (tithebarnref01_Cursor_Byte.calls g s0_0 s0_1 s0_2 t334 t335 t336 t337 w0 _ ?side1 ?side2 A4.out).mono ?_); (case side1 => repeat (first | (with_reducible first | exact HI0.out | apply IsS62.alloc | apply IsS62.drewN | apply IsS62.drew | apply IsS62.set_0 | apply IsS62.set_1 | apply IsS62.set_2) | exact HI0.out)); (case side2 => repeat (first | (with_reducible first | exact HB.out | apply below_alloc | apply pw_below_drewN | apply below_drew1 | refine below_set ?_ (IsS62.ge HI0.out)) | exact HB.out)); rintro e w7 ⟨rfl, hi, hb, hk⟩; refine ⟨_, rfl, ?_⟩; have n0_ := Aside0.mk (KeepBut.trans (by repeat (first | (with_reducible first | exact HK.out | apply KeepBut.set_ | apply keep_drewN | apply keep_drew | apply keep_alloc) | exact HK.out)) hk (.inl rfl)); have n1_ := Aside0.mk (hb); have n2_ := Aside0.mk (hi); clear HK; clear HB; clear HI0; have HK := n0_; have HB := n1_; have HI0 := n2_; clear n0_ n1_ n2_; (try clear hb); (try clear hb2); (try clear hk); (try clear hi); obtain ⟨HGz8, hgz8⟩ := HI0.out; have hcz8_0 := cellS62_0 HGz8; have hcz8_1 := cellS62_1 HGz8; have hcz8_2 := cellS62_2 HGz8; have hfz8_0 := blk_frozen HGz8 0; have hfz8_1 := blk_frozen HGz8 1; have hfz8_2 := blk_frozen HGz8 2; clear HGz8 hgz8)); try go_wp2_with (first | ((with_reducible refine gate_callee (f := 39) rfl ?_); refine goesL_ (some 17) rfl rfl Try.func39 (by kernel_rfl) rfl #[.pointer (some ⟨g, 0, none⟩)] rfl (by (try simp only [List.map_toArray, List.map_cons, List.map_nil]); first | done | rfl | (simp only [List.length_drop, List.length_take]; rfl)) ?_; (with_reducible refine (tithebarnref01_Cursor_Byte.calls g s0_0 s0_1 s0_2 t334 t335 t336 t337 w0 _ ?side1 ?side2 A4.out).mono ?_); (case side1 => repeat (first | (with_reducible first | exact HI0.out | apply IsS62.alloc | apply IsS62.drewN | apply IsS62.drew | apply IsS62.set_0 | apply IsS62.set_1 | apply IsS62.set_2) | exact HI0.out)); (case side2 => repeat (first | (with_reducible first | exact HB.out | apply below_alloc | apply pw_below_drewN | apply below_drew1 | refine below_set ?_ (IsS62.ge HI0.out)) | exact HB.out)); rintro e w7 ⟨rfl, hi, hb, hk⟩; refine ⟨_, rfl, ?_⟩; have n0_ := Aside0.mk (KeepBut.trans (by repeat (first | (with_reducible first | exact HK.out | apply KeepBut.set_ | apply keep_drewN | apply keep_drew | apply keep_alloc) | exact HK.out)) hk (.inl rfl)); have n1_ := Aside0.mk (hb); have n2_ := Aside0.mk (hi); clear HK; clear HB; clear HI0; have HK := n0_; have HB := n1_; have HI0 := n2_; clear n0_ n1_ n2_; (try clear hb); (try clear hb2); (try clear hk); (try clear hi); obtain ⟨HGz8, hgz8⟩ := HI0.out; have hcz8_0 := cellS62_0 HGz8; have hcz8_1 := cellS62_1 HGz8; have hcz8_2 := cellS62_2 HGz8; have hfz8_0 := blk_frozen HGz8 0; have hfz8_1 := blk_frozen HGz8 1; have hfz8_2 := blk_frozen HGz8 2; clear HGz8 hgz8)))
      go_ret2
      exact ⟨_, by first | rfl | (simp [errW_none, errW_some] <;> rfl) | (simp [*, errW_none, errW_some] <;> rfl), by first | exact Kd.R_nil _ _ _ _ _ | exact Kd.N_nil _ _ _ _ _ | exact Kd.V_nil _ _ _ _ _ | exact Kd.Q_nil _ _ _ _ _ | exact Kd.S_nil _ _ _ _ _, by repeat (first | (with_reducible first | exact HI0.out | apply IsS62.alloc | apply IsS62.drewN | apply IsS62.drew | apply IsS62.set_0 | apply IsS62.set_1 | apply IsS62.set_2) | exact HI0.out), by repeat (first | (with_reducible first | exact HB.out | apply below_alloc | apply pw_below_drewN | apply below_drew1 | refine below_set ?_ (IsS62.ge HI0.out)) | exact HB.out), by repeat (first | (with_reducible first | exact HK.out | apply KeepBut.set_ | apply keep_drewN | apply keep_drew | apply keep_alloc) | exact HK.out)⟩
    · rw [if_neg c6] at H
      have c6b0 : decide (64 < t334) = false := decide_eq_false c6
      clear c6
      replace H := Option.bind_eq_some_iff.mp H
      obtain ⟨⟨t338, t339, t340, t341⟩, A90, H⟩ := H
      replace H : (if t338 < (wrap64 (Int.tdiv (wrap64 ((wrap64 (a1 * t334)) + 7)) 8)) then (some (([] : List ByteArray), 2, t339, t340, t341)) else (if 0 ≤ t340 then (if t340 ≤ (wrap64 (t340 + (wrap64 (Int.tdiv (wrap64 ((wrap64 (a1 * t334)) + 7)) 8)))) then (if (wrap64 (t340 + (wrap64 (Int.tdiv (wrap64 ((wrap64 (a1 * t334)) + 7)) 8)))) ≤ (t339.size : Int) then ((tithebarnref03_Unpack.f k (t339.extract (t340 : Int).toNat ((wrap64 (t340 + (wrap64 (Int.tdiv (wrap64 ((wrap64 (a1 * t334)) + 7)) 8)))) : Int).toNat) a1 t334).bind fun bt342 => (if bt342.2 = 0 then (if 0 ≤ (l2.length : Int) then (if ((l2.length : Int) : Int).toNat ≤ 281474976710656 then (tithebarnref05_pick.l0 k a1 l2 t334 bt342.1 (List.replicate ((l2.length : Int) : Int).toNat false) ([] : List ByteArray) 0 t339 (wrap64 (t340 + (wrap64 (Int.tdiv (wrap64 ((wrap64 (a1 * t334)) + 7)) 8)))) t341) else (none)) else (none)) else (some (([] : List ByteArray), bt342.2, t339, t340, t341)))) else (none)) else (none)) else (none))) = some (r1, r2, r3, r4, r5) := H
      have A9 := Aside0.mk A90
      clear A90
      by_cases c10 : t338 < (wrap64 (Int.tdiv (wrap64 ((wrap64 (a1 * t334)) + 7)) 8))
      · rw [if_pos c10] at H
        have c10b0 : decide (t338 < (wrap64 (Int.tdiv (wrap64 ((wrap64 (a1 * t334)) + 7)) 8))) = true := decide_eq_true c10
        clear c10
        simp only [Option.some.injEq, Prod.mk.injEq] at H
        obtain ⟨rfl, rfl, rfl, rfl, rfl⟩ := H
        go_enter Try.func42, Try.ntmps42
        go_wp2_with (first | ((with_reducible refine gate_callee (f := 39) rfl ?_); refine goesL_ (some 17) rfl rfl Try.func39 (by kernel_rfl) rfl #[.pointer (some ⟨g, 0, none⟩)] rfl (by (try simp only [List.map_toArray, List.map_cons, List.map_nil]); first | done | rfl | (simp only [List.length_drop, List.length_take]; rfl)) ?_; (with_reducible refine (tithebarnref01_Cursor_Byte.calls g s0_0 s0_1 s0_2 t334 t335 t336 t337 w0 _ ?side1 ?side2 A4.out).mono ?_); (case side1 => repeat (first | (with_reducible first | exact HI0.out | apply IsS62.alloc | apply IsS62.drewN | apply IsS62.drew | apply IsS62.set_0 | apply IsS62.set_1 | apply IsS62.set_2) | exact HI0.out)); (case side2 => repeat (first | (with_reducible first | exact HB.out | apply below_alloc | apply pw_below_drewN | apply below_drew1 | refine below_set ?_ (IsS62.ge HI0.out)) | exact HB.out)); rintro e w11 ⟨rfl, hi, hb, hk⟩; refine ⟨_, rfl, ?_⟩; have n0_ := Aside0.mk (KeepBut.trans (by repeat (first | (with_reducible first | exact HK.out | apply KeepBut.set_ | apply keep_drewN | apply keep_drew | apply keep_alloc) | exact HK.out)) hk (.inl rfl)); have n1_ := Aside0.mk (hb); have n2_ := Aside0.mk (hi); clear HK; clear HB; clear HI0; have HK := n0_; have HB := n1_; have HI0 := n2_; clear n0_ n1_ n2_; (try clear hb); (try clear hb2); (try clear hk); (try clear hi); obtain ⟨HGz12, hgz12⟩ := HI0.out; have hcz12_0 := cellS62_0 HGz12; have hcz12_1 := cellS62_1 HGz12; have hcz12_2 := cellS62_2 HGz12; have hfz12_0 := blk_frozen HGz12 0; have hfz12_1 := blk_frozen HGz12 1; have hfz12_2 := blk_frozen HGz12 2; clear HGz12 hgz12) | ((with_reducible refine gate_callee (f := 63) rfl ?_); refine goesL_ (some 35) rfl rfl Try.func63 (by kernel_rfl) rfl #[.pointer (some ⟨g, 0, none⟩)] rfl (by (try simp only [List.map_toArray, List.map_cons, List.map_nil]); first | done | rfl | (simp only [List.length_drop, List.length_take]; rfl)) ?_; (with_reducible refine (tithebarnref01_Cursor_Left.calls g t335 t336 t337 t338 t339 t340 t341 w0 _ ?side1 ?side2 A9.out).mono ?_); (case side1 => repeat (first | (with_reducible first | exact HI0.out | apply IsS62.alloc | apply IsS62.drewN | apply IsS62.drew | apply IsS62.set_0 | apply IsS62.set_1 | apply IsS62.set_2) | exact HI0.out)); (case side2 => repeat (first | (with_reducible first | exact HB.out | apply below_alloc | apply pw_below_drewN | apply below_drew1 | refine below_set ?_ (IsS62.ge HI0.out)) | exact HB.out)); rintro e w13 ⟨rfl, hi, hb, hk⟩; refine ⟨_, rfl, ?_⟩; have n0_ := Aside0.mk (KeepBut.trans (by repeat (first | (with_reducible first | exact HK.out | apply KeepBut.set_ | apply keep_drewN | apply keep_drew | apply keep_alloc) | exact HK.out)) hk (.inl rfl)); have n1_ := Aside0.mk (hb); have n2_ := Aside0.mk (hi); clear HK; clear HB; clear HI0; have HK := n0_; have HB := n1_; have HI0 := n2_; clear n0_ n1_ n2_; (try clear hb); (try clear hb2); (try clear hk); (try clear hi)))
        repeat (go_quiet (first | ((with_reducible refine gate_callee (f := 39) rfl ?_); refine goesL_ (some 17) rfl rfl Try.func39 (by kernel_rfl) rfl #[.pointer (some ⟨g, 0, none⟩)] rfl (by (try simp only [List.map_toArray, List.map_cons, List.map_nil]); first | done | rfl | (simp only [List.length_drop, List.length_take]; rfl)) ?_; (with_reducible refine (tithebarnref01_Cursor_Byte.calls g s0_0 s0_1 s0_2 t334 t335 t336 t337 w0 _ ?side1 ?side2 A4.out).mono ?_); (case side1 => repeat (first | (with_reducible first | exact HI0.out | apply IsS62.alloc | apply IsS62.drewN | apply IsS62.drew | apply IsS62.set_0 | apply IsS62.set_1 | apply IsS62.set_2) | exact HI0.out)); (case side2 => repeat (first | (with_reducible first | exact HB.out | apply below_alloc | apply pw_below_drewN | apply below_drew1 | refine below_set ?_ (IsS62.ge HI0.out)) | exact HB.out)); rintro e w11 ⟨rfl, hi, hb, hk⟩; refine ⟨_, rfl, ?_⟩; have n0_ := Aside0.mk (KeepBut.trans (by repeat (first | (with_reducible first | exact HK.out | apply KeepBut.set_ | apply keep_drewN | apply keep_drew | apply keep_alloc) | exact HK.out)) hk (.inl rfl)); have n1_ := Aside0.mk (hb); have n2_ := Aside0.mk (hi); clear HK; clear HB; clear HI0; have HK := n0_; have HB := n1_; have HI0 := n2_; clear n0_ n1_ n2_; (try clear hb); (try clear hb2); (try clear hk); (try clear hi); obtain ⟨HGz12, hgz12⟩ := HI0.out; have hcz12_0 := cellS62_0 HGz12; have hcz12_1 := cellS62_1 HGz12; have hcz12_2 := cellS62_2 HGz12; have hfz12_0 := blk_frozen HGz12 0; have hfz12_1 := blk_frozen HGz12 1; have hfz12_2 := blk_frozen HGz12 2; clear HGz12 hgz12) | ((with_reducible refine gate_callee (f := 63) rfl ?_); refine goesL_ (some 35) rfl rfl Try.func63 (by kernel_rfl) rfl #[.pointer (some ⟨g, 0, none⟩)] rfl (by (try simp only [List.map_toArray, List.map_cons, List.map_nil]); first | done | rfl | (simp only [List.length_drop, List.length_take]; rfl)) ?_; (with_reducible refine (tithebarnref01_Cursor_Left.calls g t335 t336 t337 t338 t339 t340 t341 w0 _ ?side1 ?side2 A9.out).mono ?_); (case side1 => repeat (first | (with_reducible first | exact HI0.out | apply IsS62.alloc | apply IsS62.drewN | apply IsS62.drew | apply IsS62.set_0 | apply IsS62.set_1 | apply IsS62.set_2) | exact HI0.out)); (case side2 => repeat (first | (with_reducible first | exact HB.out | apply below_alloc | apply pw_below_drewN | apply below_drew1 | refine below_set ?_ (IsS62.ge HI0.out)) | exact HB.out)); rintro e w13 ⟨rfl, hi, hb, hk⟩; refine ⟨_, rfl, ?_⟩; have n0_ := Aside0.mk (KeepBut.trans (by repeat (first | (with_reducible first | exact HK.out | apply KeepBut.set_ | apply keep_drewN | apply keep_drew | apply keep_alloc) | exact HK.out)) hk (.inl rfl)); have n1_ := Aside0.mk (hb); have n2_ := Aside0.mk (hi); clear HK; clear HB; clear HI0; have HK := n0_; have HB := n1_; have HI0 := n2_; clear n0_ n1_ n2_; (try clear hb); (try clear hb2); (try clear hk); (try clear hi))); try go_wp2_with (first | ((with_reducible refine gate_callee (f := 39) rfl ?_); refine goesL_ (some 17) rfl rfl Try.func39 (by kernel_rfl) rfl #[.pointer (some ⟨g, 0, none⟩)] rfl (by (try simp only [List.map_toArray, List.map_cons, List.map_nil]); first | done | rfl | (simp only [List.length_drop, List.length_take]; rfl)) ?_; (with_reducible refine (tithebarnref01_Cursor_Byte.calls g s0_0 s0_1 s0_2 t334 t335 t336 t337 w0 _ ?side1 ?side2 A4.out).mono ?_); (case side1 => repeat (first | (with_reducible first | exact HI0.out | apply IsS62.alloc | apply IsS62.drewN | apply IsS62.drew | apply IsS62.set_0 | apply IsS62.set_1 | apply IsS62.set_2) | exact HI0.out)); (case side2 => repeat (first | (with_reducible first | exact HB.out | apply below_alloc | apply pw_below_drewN | apply below_drew1 | refine below_set ?_ (IsS62.ge HI0.out)) | exact HB.out)); rintro e w11 ⟨rfl, hi, hb, hk⟩; refine ⟨_, rfl, ?_⟩; have n0_ := Aside0.mk (KeepBut.trans (by repeat (first | (with_reducible first | exact HK.out | apply KeepBut.set_ | apply keep_drewN | apply keep_drew | apply keep_alloc) | exact HK.out)) hk (.inl rfl)); have n1_ := Aside0.mk (hb); have n2_ := Aside0.mk (hi); clear HK; clear HB; clear HI0; have HK := n0_; have HB := n1_; have HI0 := n2_; clear n0_ n1_ n2_; (try clear hb); (try clear hb2); (try clear hk); (try clear hi); obtain ⟨HGz12, hgz12⟩ := HI0.out; have hcz12_0 := cellS62_0 HGz12; have hcz12_1 := cellS62_1 HGz12; have hcz12_2 := cellS62_2 HGz12; have hfz12_0 := blk_frozen HGz12 0; have hfz12_1 := blk_frozen HGz12 1; have hfz12_2 := blk_frozen HGz12 2; clear HGz12 hgz12) | ((with_reducible refine gate_callee (f := 63) rfl ?_); refine goesL_ (some 35) rfl rfl Try.func63 (by kernel_rfl) rfl #[.pointer (some ⟨g, 0, none⟩)] rfl (by (try simp only [List.map_toArray, List.map_cons, List.map_nil]); first | done | rfl | (simp only [List.length_drop, List.length_take]; rfl)) ?_; (with_reducible refine (tithebarnref01_Cursor_Left.calls g t335 t336 t337 t338 t339 t340 t341 w0 _ ?side1 ?side2 A9.out).mono ?_); (case side1 => repeat (first | (with_reducible first | exact HI0.out | apply IsS62.alloc | apply IsS62.drewN | apply IsS62.drew | apply IsS62.set_0 | apply IsS62.set_1 | apply IsS62.set_2) | exact HI0.out)); (case side2 => repeat (first | (with_reducible first | exact HB.out | apply below_alloc | apply pw_below_drewN | apply below_drew1 | refine below_set ?_ (IsS62.ge HI0.out)) | exact HB.out)); rintro e w13 ⟨rfl, hi, hb, hk⟩; refine ⟨_, rfl, ?_⟩; have n0_ := Aside0.mk (KeepBut.trans (by repeat (first | (with_reducible first | exact HK.out | apply KeepBut.set_ | apply keep_drewN | apply keep_drew | apply keep_alloc) | exact HK.out)) hk (.inl rfl)); have n1_ := Aside0.mk (hb); have n2_ := Aside0.mk (hi); clear HK; clear HB; clear HI0; have HK := n0_; have HB := n1_; have HI0 := n2_; clear n0_ n1_ n2_; (try clear hb); (try clear hb2); (try clear hk); (try clear hi))))
        go_ret2
        exact ⟨_, by first | rfl | (simp [errW_none, errW_some] <;> rfl) | (simp [*, errW_none, errW_some] <;> rfl), by first | exact Kd.R_nil _ _ _ _ _ | exact Kd.N_nil _ _ _ _ _ | exact Kd.V_nil _ _ _ _ _ | exact Kd.Q_nil _ _ _ _ _ | exact Kd.S_nil _ _ _ _ _, by repeat (first | (with_reducible first | exact HI0.out | apply IsS62.alloc | apply IsS62.drewN | apply IsS62.drew | apply IsS62.set_0 | apply IsS62.set_1 | apply IsS62.set_2) | exact HI0.out), by repeat (first | (with_reducible first | exact HB.out | apply below_alloc | apply pw_below_drewN | apply below_drew1 | refine below_set ?_ (IsS62.ge HI0.out)) | exact HB.out), by repeat (first | (with_reducible first | exact HK.out | apply KeepBut.set_ | apply keep_drewN | apply keep_drew | apply keep_alloc) | exact HK.out)⟩
      · rw [if_neg c10] at H
        have c10b0 : decide (t338 < (wrap64 (Int.tdiv (wrap64 ((wrap64 (a1 * t334)) + 7)) 8))) = false := decide_eq_false c10
        clear c10
        by_cases c14 : 0 ≤ t340
        · rw [if_pos c14] at H
          have c14b0 := eq_true c14
          have c14b1 : decide (0 ≤ t340) = true := decide_eq_true c14
          clear c14
          by_cases c15 : t340 ≤ (wrap64 (t340 + (wrap64 (Int.tdiv (wrap64 ((wrap64 (a1 * t334)) + 7)) 8))))
          · rw [if_pos c15] at H
            have c15b0 := eq_true c15
            have c15b1 : decide (t340 ≤ (wrap64 (t340 + (wrap64 (Int.tdiv (wrap64 ((wrap64 (a1 * t334)) + 7)) 8))))) = true := decide_eq_true c15
            by_cases c16 : (wrap64 (t340 + (wrap64 (Int.tdiv (wrap64 ((wrap64 (a1 * t334)) + 7)) 8)))) ≤ (t339.size : Int)
            · rw [if_pos c16] at H
              have c16b0 := eq_true c16
              have c16b1 : decide ((wrap64 (t340 + (wrap64 (Int.tdiv (wrap64 ((wrap64 (a1 * t334)) + 7)) 8)))) ≤ (t339.size : Int)) = true := decide_eq_true c16
              replace H := Option.bind_eq_some_iff.mp H
              obtain ⟨⟨t342, t343⟩, A170, H⟩ := H
              replace H : (if t343 = 0 then (if 0 ≤ (l2.length : Int) then (if ((l2.length : Int) : Int).toNat ≤ 281474976710656 then (tithebarnref05_pick.l0 k a1 l2 t334 t342 (List.replicate ((l2.length : Int) : Int).toNat false) ([] : List ByteArray) 0 t339 (wrap64 (t340 + (wrap64 (Int.tdiv (wrap64 ((wrap64 (a1 * t334)) + 7)) 8)))) t341) else (none)) else (none)) else (some (([] : List ByteArray), t343, t339, t340, t341))) = some (r1, r2, r3, r4, r5) := H
              have A17 := Aside0.mk A170
              clear A170
              by_cases c18 : t343 = 0
              · rw [if_pos c18] at H
                have c18b0 : (t343 == 0) = true := beq_iff_eq.mpr c18
                have c18b1 : (t343 != 0) = false := bne_eq_false_iff_eq.mpr c18
                clear c18
                by_cases c19 : 0 ≤ (l2.length : Int)
                · rw [if_pos c19] at H
                  have c19b0 := eq_true c19
                  have c19b1 : decide (0 ≤ (l2.length : Int)) = true := decide_eq_true c19
                  clear c19
                  by_cases c20 : ((l2.length : Int) : Int).toNat ≤ 281474976710656
                  · rw [if_pos c20] at H
                    have c20b0 := eq_true c20
                    have c20b1 : decide (((l2.length : Int) : Int).toNat ≤ 281474976710656) = true := decide_eq_true c20
                    clear c20
                    obtain ⟨y346, hy346⟩ : ∃ y_ : List Bool, y_ = (List.replicate ((l2.length : Int) : Int).toNat false) := ⟨_, rfl⟩
                    replace H : (tithebarnref05_pick.l0 k a1 l2 t334 t342 y346 ([] : List ByteArray) 0 t339 (wrap64 (t340 + (wrap64 (Int.tdiv (wrap64 ((wrap64 (a1 * t334)) + 7)) 8)))) t341) = some (r1, r2, r3, r4, r5) := by first | (rw [hy346]; with_reducible exact H) | (have H2_ := (Option.bind_some _ _).symm.trans H; rw [hy346]; with_reducible exact H2_) | (have H2_ := (Option.bind_some _ _).symm.trans H; with_reducible exact H2_) | with_reducible exact H | (rw [hy346]; exact H) | exact H
                    have Ny346 := Aside0.mk hy346
                    clear hy346
                    have H' := Aside0.mk H
                    clear H
                    go_enter Try.func42, Try.ntmps42
                    go_wp2_with (first | ((with_reducible refine gate_callee (f := 39) rfl ?_); refine goesL_ (some 17) rfl rfl Try.func39 (by kernel_rfl) rfl #[.pointer (some ⟨g, 0, none⟩)] rfl (by (try simp only [List.map_toArray, List.map_cons, List.map_nil]); first | done | rfl | (simp only [List.length_drop, List.length_take]; rfl)) ?_; (with_reducible refine (tithebarnref01_Cursor_Byte.calls g s0_0 s0_1 s0_2 t334 t335 t336 t337 w0 _ ?side1 ?side2 A4.out).mono ?_); (case side1 => repeat (first | (with_reducible first | exact HI0.out | apply IsS62.alloc | apply IsS62.drewN | apply IsS62.drew | apply IsS62.set_0 | apply IsS62.set_1 | apply IsS62.set_2) | exact HI0.out)); (case side2 => repeat (first | (with_reducible first | exact HB.out | apply below_alloc | apply pw_below_drewN | apply below_drew1 | refine below_set ?_ (IsS62.ge HI0.out)) | exact HB.out)); rintro e w21 ⟨rfl, hi, hb, hk⟩; refine ⟨_, rfl, ?_⟩; have n0_ := Aside0.mk (KeepBut.trans (by repeat (first | (with_reducible first | exact HK.out | apply KeepBut.set_ | apply keep_drewN | apply keep_drew | apply keep_alloc) | exact HK.out)) hk (.inl rfl)); have n1_ := Aside0.mk (hb); have n2_ := Aside0.mk (hi); clear HK; clear HB; clear HI0; have HK := n0_; have HB := n1_; have HI0 := n2_; clear n0_ n1_ n2_; (try clear hb); (try clear hb2); (try clear hk); (try clear hi); obtain ⟨HGz22, hgz22⟩ := HI0.out; have hcz22_0 := cellS62_0 HGz22; have hcz22_1 := cellS62_1 HGz22; have hcz22_2 := cellS62_2 HGz22; have hfz22_0 := blk_frozen HGz22 0; have hfz22_1 := blk_frozen HGz22 1; have hfz22_2 := blk_frozen HGz22 2; clear HGz22 hgz22) | ((with_reducible refine gate_callee (f := 63) rfl ?_); refine goesL_ (some 35) rfl rfl Try.func63 (by kernel_rfl) rfl #[.pointer (some ⟨g, 0, none⟩)] rfl (by (try simp only [List.map_toArray, List.map_cons, List.map_nil]); first | done | rfl | (simp only [List.length_drop, List.length_take]; rfl)) ?_; (with_reducible refine (tithebarnref01_Cursor_Left.calls g t335 t336 t337 t338 t339 t340 t341 w0 _ ?side1 ?side2 A9.out).mono ?_); (case side1 => repeat (first | (with_reducible first | exact HI0.out | apply IsS62.alloc | apply IsS62.drewN | apply IsS62.drew | apply IsS62.set_0 | apply IsS62.set_1 | apply IsS62.set_2) | exact HI0.out)); (case side2 => repeat (first | (with_reducible first | exact HB.out | apply below_alloc | apply pw_below_drewN | apply below_drew1 | refine below_set ?_ (IsS62.ge HI0.out)) | exact HB.out)); rintro e w23 ⟨rfl, hi, hb, hk⟩; refine ⟨_, rfl, ?_⟩; have n0_ := Aside0.mk (KeepBut.trans (by repeat (first | (with_reducible first | exact HK.out | apply KeepBut.set_ | apply keep_drewN | apply keep_drew | apply keep_alloc) | exact HK.out)) hk (.inl rfl)); have n1_ := Aside0.mk (hb); have n2_ := Aside0.mk (hi); clear HK; clear HB; clear HI0; have HK := n0_; have HB := n1_; have HI0 := n2_; clear n0_ n1_ n2_; (try clear hb); (try clear hb2); (try clear hk); (try clear hi); obtain ⟨HGz24, hgz24⟩ := HI0.out; have hcz24_0 := cellS62_0 HGz24; have hcz24_1 := cellS62_1 HGz24; have hcz24_2 := cellS62_2 HGz24; have hfz24_0 := blk_frozen HGz24 0; have hfz24_1 := blk_frozen HGz24 1; have hfz24_2 := blk_frozen HGz24 2; clear HGz24 hgz24) | ((with_reducible refine gate_callee (f := 67) rfl ?_); refine goesL_ (some 56) rfl rfl Try.func67 (by kernel_rfl) rfl #[.string (t339.extract (t340 : Int).toNat ((wrap64 (t340 + (wrap64 (Int.tdiv (wrap64 ((wrap64 (a1 * t334)) + 7)) 8)))) : Int).toNat), .int .i64 a1, .int .i64 t334] rfl (by (try simp only [List.map_toArray, List.map_cons, List.map_nil]); first | done | rfl | (simp only [List.length_drop, List.length_take]; rfl)) ?_; (with_reducible refine (tithebarnref03_Unpack.calls k (t339.extract (t340 : Int).toNat ((wrap64 (t340 + (wrap64 (Int.tdiv (wrap64 ((wrap64 (a1 * t334)) + 7)) 8)))) : Int).toNat) a1 t334 t342 t343 _ A17.out).mono ?_); rintro e w25 ⟨v344, rfl, ho0, hb⟩; refine ⟨_, rfl, ?_⟩; have n0_ := Aside0.mk (Kd.R_lower ho0 (keep_size (w := w) (g := g) (row := none) (by repeat (first | (with_reducible first | exact HK.out | apply KeepBut.set_ | apply keep_drewN | apply keep_drew | apply keep_alloc) | exact HK.out)))); have n1_ := Aside0.mk (IsS62.below (by repeat (first | (with_reducible first | exact HI0.out | apply IsS62.alloc | apply IsS62.drewN | apply IsS62.drew | apply IsS62.set_0 | apply IsS62.set_1 | apply IsS62.set_2) | exact HI0.out)) hb); have n2_ := Aside0.mk (KeepBut.trans (by repeat (first | (with_reducible first | exact HK.out | apply KeepBut.set_ | apply keep_drewN | apply keep_drew | apply keep_alloc) | exact HK.out)) (KeepBut.of_below hb g none) (.inl rfl)); have n3_ := Aside0.mk (below_step (by repeat (first | (with_reducible first | exact HB.out | apply below_alloc | apply pw_below_drewN | apply below_drew1 | refine below_set ?_ (IsS62.ge HI0.out)) | exact HB.out)) hb); clear HI0; clear HK; clear HB; have HO345 := n0_; have HI0 := n1_; have HK := n2_; have HB := n3_; clear n0_ n1_ n2_ n3_; (try clear hb); (try clear hb2); (try clear hk); (try clear hi); (try clear ho0); obtain ⟨HGz26, hgz26⟩ := HI0.out; have hcz26_0 := cellS62_0 HGz26; have hcz26_1 := cellS62_1 HGz26; have hcz26_2 := cellS62_2 HGz26; have hfz26_0 := blk_frozen HGz26 0; have hfz26_1 := blk_frozen HGz26 1; have hfz26_2 := blk_frozen HGz26 2; clear HGz26 hgz26) | ((with_reducible refine gate_dst (N := 72) rfl ?_); refine Kd.R_make Kd.bool _ 4 rfl (N := 72) rfl 77 _ _ rfl (l2.length : Int) rfl rfl Try.underlying77 (.bool false) 1 info4 rfl (by decide) (by omega) false (ok := fun _ => True) (okp := fun _ => True) rfl (fun _ hk => hk) trivial (of_decide_eq_true (by first | (with_reducible assumption) | assumption)) (Nat.le_trans (Nat.mul_le_mul_right _ (of_decide_eq_true (by first | (with_reducible assumption) | assumption) : (l2.length : Int).toNat ≤ 281474976710656)) (by omega)) (Below.refl _ _) (Nat.le_refl _) ?_; intro v347 w27 ho28 hb hg_ hnew_; clear hg_ hnew_; (first | rw [← Ny346.out] at ho28 | (simp only [Int.reduceToNat] at ho28; rw [← Ny346.out] at ho28)); have n0_ := Aside0.mk (Kd.R_below (by (with_reducible repeat (first | apply Kd.R_alloc | apply Kd.R_drewN | apply Kd.R_drew)); exact (Kd.R_mono (Kd.R_far (p := ⟨g, 1, none⟩) (IsS62.apart HI0.out HO345.out (by decide)) (fun _ hk => hk.2) (.int .i64 (wrap64 (t340 + (wrap64 (Int.tdiv (wrap64 ((wrap64 (a1 * t334)) + 7)) 8)))))) (fun _ h_ => h_.1))) hb); have n1_ := Aside0.mk (Kd.R_lower ho28 (keep_size (w := w) (g := g) (row := none) (by repeat (first | (with_reducible first | exact HK.out | apply KeepBut.set_ | apply keep_drewN | apply keep_drew | apply keep_alloc) | exact HK.out)))); have n2_ := Aside0.mk (IsS62.below (show IsS62 w0 (w25.setCell ⟨g, 1, none⟩ (.int .i64 (wrap64 (t340 + (wrap64 (Int.tdiv (wrap64 ((wrap64 (a1 * t334)) + 7)) 8)))))) g t339 (wrap64 (t340 + (wrap64 (Int.tdiv (wrap64 ((wrap64 (a1 * t334)) + 7)) 8)))) t341 from by repeat (first | (with_reducible first | exact HI0.out | apply IsS62.alloc | apply IsS62.drewN | apply IsS62.drew | apply IsS62.set_0 | apply IsS62.set_1 | apply IsS62.set_2) | exact HI0.out)) hb); have n3_ := Aside0.mk (KeepBut.trans (by repeat (first | (with_reducible first | exact HK.out | apply KeepBut.set_ | apply keep_drewN | apply keep_drew | apply keep_alloc) | exact HK.out)) (KeepBut.of_below hb g none) (.inl rfl)); have n4_ := Aside0.mk (below_step (by repeat (first | (with_reducible first | exact HB.out | apply below_alloc | apply pw_below_drewN | apply below_drew1 | refine below_set ?_ (IsS62.ge HI0.out)) | exact HB.out)) hb); clear HO345; clear HI0; clear HK; clear HB; have HO345 := n0_; have HO348 := n1_; have HI0 := n2_; have HK := n3_; have HB := n4_; clear n0_ n1_ n2_ n3_ n4_; clear hb ho28))
                    have hi64w_ : ∀ x_ : Int, IntKind.i64.wrap x_ = wrap64 x_ := i64_w
                    go_cut [10, 11] (fun s10 s11 wc => ∃ v_ : Value, v_ = s10 ∧ s11 = .int .i64 t343 ∧ Aside0 (Kd.R (Kd.int .u64) 38 wc w.heap.size (fun _ => True) s10 t342) ∧ Aside0 (IsS62 w0 wc g t339 t340 t341) ∧ Aside0 (KeepBut w wc g none) ∧ Aside0 (Below w0.heap.size w0 wc))
                    case first =>
                      go_wp2_with fail
                      go_region_with (first | (go_at_call 67; (with_reducible refine (tithebarnref03_Unpack.calls k (t339.extract (t340 : Int).toNat ((wrap64 (t340 + (wrap64 (Int.tdiv (wrap64 ((wrap64 (a1 * t334)) + 7)) 8)))) : Int).toNat) a1 t334 t342 t343 _ A17.out).mono ?_); rintro e w25 ⟨v344, rfl, ho0, hb⟩; have n0_ := Aside0.mk (Kd.R_lower ho0 (keep_size (w := w) (g := g) (row := none) (by repeat (first | (with_reducible first | exact HK.out | apply KeepBut.set_ | apply keep_drewN | apply keep_drew | apply keep_alloc) | exact HK.out)))); have n1_ := Aside0.mk (IsS62.below (by repeat (first | (with_reducible first | exact HI0.out | apply IsS62.alloc | apply IsS62.drewN | apply IsS62.drew | apply IsS62.set_0 | apply IsS62.set_1 | apply IsS62.set_2) | exact HI0.out)) hb); have n2_ := Aside0.mk (KeepBut.trans (by repeat (first | (with_reducible first | exact HK.out | apply KeepBut.set_ | apply keep_drewN | apply keep_drew | apply keep_alloc) | exact HK.out)) (KeepBut.of_below hb g none) (.inl rfl)); have n3_ := Aside0.mk (below_step (by repeat (first | (with_reducible first | exact HB.out | apply below_alloc | apply pw_below_drewN | apply below_drew1 | refine below_set ?_ (IsS62.ge HI0.out)) | exact HB.out)) hb); clear HI0; clear HK; clear HB; have HO345 := n0_; have HI0 := n1_; have HK := n2_; have HB := n3_; clear n0_ n1_ n2_ n3_; (try clear hb); (try clear hb2); (try clear hk); (try clear hi); (try clear ho0); obtain ⟨HGz26, hgz26⟩ := HI0.out; have hcz26_0 := cellS62_0 HGz26; have hcz26_1 := cellS62_1 HGz26; have hcz26_2 := cellS62_2 HGz26; have hfz26_0 := blk_frozen HGz26 0; have hfz26_1 := blk_frozen HGz26 1; have hfz26_2 := blk_frozen HGz26 2; clear HGz26 hgz26))
                      all_goals (go_wp2_with fail; go_meet; exact ⟨_, rfl, rfl, HO345, HI0, HK, HB⟩)
                    clear hi64w_ HI0 HK HB
                    rename World => w25
                    obtain ⟨v344, rfl, rfl, HO345, HI0, HK, HB⟩ := hcut
                    obtain ⟨HGz26, hgz26⟩ := HI0.out
                    have hcz26_0 := cellS62_0 HGz26
                    have hcz26_1 := cellS62_1 HGz26
                    have hcz26_2 := cellS62_2 HGz26
                    have hfz26_0 := blk_frozen HGz26 0
                    have hfz26_1 := blk_frozen HGz26 1
                    have hfz26_2 := blk_frozen HGz26 2
                    clear HGz26 hgz26
                    go_wp2_with (first | ((with_reducible refine gate_callee (f := 39) rfl ?_); refine goesL_ (some 17) rfl rfl Try.func39 (by kernel_rfl) rfl #[.pointer (some ⟨g, 0, none⟩)] rfl (by (try simp only [List.map_toArray, List.map_cons, List.map_nil]); first | done | rfl | (simp only [List.length_drop, List.length_take]; rfl)) ?_; (with_reducible refine (tithebarnref01_Cursor_Byte.calls g s0_0 s0_1 s0_2 t334 t335 t336 t337 w0 _ ?side1 ?side2 A4.out).mono ?_); (case side1 => repeat (first | (with_reducible first | exact HI0.out | apply IsS62.alloc | apply IsS62.drewN | apply IsS62.drew | apply IsS62.set_0 | apply IsS62.set_1 | apply IsS62.set_2) | exact HI0.out)); (case side2 => repeat (first | (with_reducible first | exact HB.out | apply below_alloc | apply pw_below_drewN | apply below_drew1 | refine below_set ?_ (IsS62.ge HI0.out)) | exact HB.out)); rintro e w21 ⟨rfl, hi, hb, hk⟩; refine ⟨_, rfl, ?_⟩; have n0_ := Aside0.mk (KeepBut.trans (by repeat (first | (with_reducible first | exact HK.out | apply KeepBut.set_ | apply keep_drewN | apply keep_drew | apply keep_alloc) | exact HK.out)) hk (.inl rfl)); have n1_ := Aside0.mk (hb); have n2_ := Aside0.mk (hi); clear HK; clear HB; clear HI0; have HK := n0_; have HB := n1_; have HI0 := n2_; clear n0_ n1_ n2_; (try clear hb); (try clear hb2); (try clear hk); (try clear hi); obtain ⟨HGz22, hgz22⟩ := HI0.out; have hcz22_0 := cellS62_0 HGz22; have hcz22_1 := cellS62_1 HGz22; have hcz22_2 := cellS62_2 HGz22; have hfz22_0 := blk_frozen HGz22 0; have hfz22_1 := blk_frozen HGz22 1; have hfz22_2 := blk_frozen HGz22 2; clear HGz22 hgz22) | ((with_reducible refine gate_callee (f := 63) rfl ?_); refine goesL_ (some 35) rfl rfl Try.func63 (by kernel_rfl) rfl #[.pointer (some ⟨g, 0, none⟩)] rfl (by (try simp only [List.map_toArray, List.map_cons, List.map_nil]); first | done | rfl | (simp only [List.length_drop, List.length_take]; rfl)) ?_; (with_reducible refine (tithebarnref01_Cursor_Left.calls g t335 t336 t337 t338 t339 t340 t341 w0 _ ?side1 ?side2 A9.out).mono ?_); (case side1 => repeat (first | (with_reducible first | exact HI0.out | apply IsS62.alloc | apply IsS62.drewN | apply IsS62.drew | apply IsS62.set_0 | apply IsS62.set_1 | apply IsS62.set_2) | exact HI0.out)); (case side2 => repeat (first | (with_reducible first | exact HB.out | apply below_alloc | apply pw_below_drewN | apply below_drew1 | refine below_set ?_ (IsS62.ge HI0.out)) | exact HB.out)); rintro e w23 ⟨rfl, hi, hb, hk⟩; refine ⟨_, rfl, ?_⟩; have n0_ := Aside0.mk (KeepBut.trans (by repeat (first | (with_reducible first | exact HK.out | apply KeepBut.set_ | apply keep_drewN | apply keep_drew | apply keep_alloc) | exact HK.out)) hk (.inl rfl)); have n1_ := Aside0.mk (hb); have n2_ := Aside0.mk (hi); clear HK; clear HB; clear HI0; have HK := n0_; have HB := n1_; have HI0 := n2_; clear n0_ n1_ n2_; (try clear hb); (try clear hb2); (try clear hk); (try clear hi); obtain ⟨HGz24, hgz24⟩ := HI0.out; have hcz24_0 := cellS62_0 HGz24; have hcz24_1 := cellS62_1 HGz24; have hcz24_2 := cellS62_2 HGz24; have hfz24_0 := blk_frozen HGz24 0; have hfz24_1 := blk_frozen HGz24 1; have hfz24_2 := blk_frozen HGz24 2; clear HGz24 hgz24) | ((with_reducible refine gate_callee (f := 67) rfl ?_); refine goesL_ (some 56) rfl rfl Try.func67 (by kernel_rfl) rfl #[.string (t339.extract (t340 : Int).toNat ((wrap64 (t340 + (wrap64 (Int.tdiv (wrap64 ((wrap64 (a1 * t334)) + 7)) 8)))) : Int).toNat), .int .i64 a1, .int .i64 t334] rfl (by (try simp only [List.map_toArray, List.map_cons, List.map_nil]); first | done | rfl | (simp only [List.length_drop, List.length_take]; rfl)) ?_; (with_reducible refine (tithebarnref03_Unpack.calls k (t339.extract (t340 : Int).toNat ((wrap64 (t340 + (wrap64 (Int.tdiv (wrap64 ((wrap64 (a1 * t334)) + 7)) 8)))) : Int).toNat) a1 t334 t342 t343 _ A17.out).mono ?_); rintro e w25 ⟨v344, rfl, ho0, hb⟩; refine ⟨_, rfl, ?_⟩; have n0_ := Aside0.mk (Kd.R_lower ho0 (keep_size (w := w) (g := g) (row := none) (by repeat (first | (with_reducible first | exact HK.out | apply KeepBut.set_ | apply keep_drewN | apply keep_drew | apply keep_alloc) | exact HK.out)))); have n1_ := Aside0.mk (IsS62.below (by repeat (first | (with_reducible first | exact HI0.out | apply IsS62.alloc | apply IsS62.drewN | apply IsS62.drew | apply IsS62.set_0 | apply IsS62.set_1 | apply IsS62.set_2) | exact HI0.out)) hb); have n2_ := Aside0.mk (KeepBut.trans (by repeat (first | (with_reducible first | exact HK.out | apply KeepBut.set_ | apply keep_drewN | apply keep_drew | apply keep_alloc) | exact HK.out)) (KeepBut.of_below hb g none) (.inl rfl)); have n3_ := Aside0.mk (below_step (by repeat (first | (with_reducible first | exact HB.out | apply below_alloc | apply pw_below_drewN | apply below_drew1 | refine below_set ?_ (IsS62.ge HI0.out)) | exact HB.out)) hb); clear HI0; clear HK; clear HB; have HO345 := n0_; have HI0 := n1_; have HK := n2_; have HB := n3_; clear n0_ n1_ n2_ n3_; (try clear hb); (try clear hb2); (try clear hk); (try clear hi); (try clear ho0); obtain ⟨HGz26, hgz26⟩ := HI0.out; have hcz26_0 := cellS62_0 HGz26; have hcz26_1 := cellS62_1 HGz26; have hcz26_2 := cellS62_2 HGz26; have hfz26_0 := blk_frozen HGz26 0; have hfz26_1 := blk_frozen HGz26 1; have hfz26_2 := blk_frozen HGz26 2; clear HGz26 hgz26) | ((with_reducible refine gate_dst (N := 72) rfl ?_); refine Kd.R_make Kd.bool _ 4 rfl (N := 72) rfl 77 _ _ rfl (l2.length : Int) rfl rfl Try.underlying77 (.bool false) 1 info4 rfl (by decide) (by omega) false (ok := fun _ => True) (okp := fun _ => True) rfl (fun _ hk => hk) trivial (of_decide_eq_true (by first | (with_reducible assumption) | assumption)) (Nat.le_trans (Nat.mul_le_mul_right _ (of_decide_eq_true (by first | (with_reducible assumption) | assumption) : (l2.length : Int).toNat ≤ 281474976710656)) (by omega)) (Below.refl _ _) (Nat.le_refl _) ?_; intro v347 w27 ho28 hb hg_ hnew_; clear hg_ hnew_; (first | rw [← Ny346.out] at ho28 | (simp only [Int.reduceToNat] at ho28; rw [← Ny346.out] at ho28)); have n0_ := Aside0.mk (Kd.R_below (by (with_reducible repeat (first | apply Kd.R_alloc | apply Kd.R_drewN | apply Kd.R_drew)); exact (Kd.R_mono (Kd.R_far (p := ⟨g, 1, none⟩) (IsS62.apart HI0.out HO345.out (by decide)) (fun _ hk => hk.2) (.int .i64 (wrap64 (t340 + (wrap64 (Int.tdiv (wrap64 ((wrap64 (a1 * t334)) + 7)) 8)))))) (fun _ h_ => h_.1))) hb); have n1_ := Aside0.mk (Kd.R_lower ho28 (keep_size (w := w) (g := g) (row := none) (by repeat (first | (with_reducible first | exact HK.out | apply KeepBut.set_ | apply keep_drewN | apply keep_drew | apply keep_alloc) | exact HK.out)))); have n2_ := Aside0.mk (IsS62.below (show IsS62 w0 (w25.setCell ⟨g, 1, none⟩ (.int .i64 (wrap64 (t340 + (wrap64 (Int.tdiv (wrap64 ((wrap64 (a1 * t334)) + 7)) 8)))))) g t339 (wrap64 (t340 + (wrap64 (Int.tdiv (wrap64 ((wrap64 (a1 * t334)) + 7)) 8)))) t341 from by repeat (first | (with_reducible first | exact HI0.out | apply IsS62.alloc | apply IsS62.drewN | apply IsS62.drew | apply IsS62.set_0 | apply IsS62.set_1 | apply IsS62.set_2) | exact HI0.out)) hb); have n3_ := Aside0.mk (KeepBut.trans (by repeat (first | (with_reducible first | exact HK.out | apply KeepBut.set_ | apply keep_drewN | apply keep_drew | apply keep_alloc) | exact HK.out)) (KeepBut.of_below hb g none) (.inl rfl)); have n4_ := Aside0.mk (below_step (by repeat (first | (with_reducible first | exact HB.out | apply below_alloc | apply pw_below_drewN | apply below_drew1 | refine below_set ?_ (IsS62.ge HI0.out)) | exact HB.out)) hb); clear HO345; clear HI0; clear HK; clear HB; have HO345 := n0_; have HO348 := n1_; have HI0 := n2_; have HK := n3_; have HB := n4_; clear n0_ n1_ n2_ n3_ n4_; clear hb ho28))
                    go_loopg [13, 14] k (fun kq v13 v14 w' => ∃ (x12_1 : List Bool) (x13_1 : List ByteArray) (x14_1 : Int), v14 = .int .i64 x14_1 ∧ Aside0 (tithebarnref05_pick.l0 kq a1 l2 t334 t342 x12_1 x13_1 x14_1 t339 (wrap64 (t340 + (wrap64 (Int.tdiv (wrap64 ((wrap64 (a1 * t334)) + 7)) 8)))) t341 = some (r1, r2, r3, r4, r5)) ∧ Aside0 (kq ≤ k) ∧ Aside0 (Kd.R (Kd.int .u64) 38 w' w.heap.size (fun _ => True) v344 t342) ∧ Aside0 (Kd.R Kd.bool 4 w' w.heap.size (fun _ => True) v347 x12_1) ∧ Aside0 (Kd.R Kd.string 9 w' w.heap.size (fun _ => True) v13 x13_1) ∧ Aside0 (IsS62 w0 w' g t339 (wrap64 (t340 + (wrap64 (Int.tdiv (wrap64 ((wrap64 (a1 * t334)) + 7)) 8)))) t341) ∧ Aside0 (KeepBut w w' g none) ∧ Aside0 (Below w0.heap.size w0 w'))
                    case atStart => exact ⟨(y346), (([] : List ByteArray)), (0), (by first | rfl | (simp; done) | (simp [*]; done)), H', ⟨Nat.le_refl _⟩, ⟨by (with_reducible repeat (first | apply Kd.R_alloc | apply Kd.R_drewN | apply Kd.R_drew)); exact HO345.out⟩, ⟨by (with_reducible repeat (first | apply Kd.R_alloc | apply Kd.R_drewN | apply Kd.R_drew)); exact HO348.out⟩, ⟨by first | exact Kd.R_nil _ _ _ _ _ | exact Kd.N_nil _ _ _ _ _ | exact Kd.V_nil _ _ _ _ _ | exact Kd.Q_nil _ _ _ _ _ | exact Kd.S_nil _ _ _ _ _⟩, ⟨by repeat (first | (with_reducible first | exact HI0.out | apply IsS62.alloc | apply IsS62.drewN | apply IsS62.drew | apply IsS62.set_0 | apply IsS62.set_1 | apply IsS62.set_2) | exact HI0.out)⟩, ⟨by repeat (first | (with_reducible first | exact HK.out | apply KeepBut.set_ | apply keep_drewN | apply keep_drew | apply keep_alloc) | exact HK.out)⟩, ⟨by repeat (first | (with_reducible first | exact HB.out | apply below_alloc | apply pw_below_drewN | apply below_drew1 | refine below_set ?_ (IsS62.ge HI0.out)) | exact HB.out)⟩⟩
                    case round =>
                      clear H'
                      try clear c1
                      try clear c2
                      try clear p2
                      try clear c3
                      try clear c4
                      try clear c5
                      try clear c5b0
                      try clear c5b1
                      try clear c6
                      try clear c6b0
                      try clear p6
                      try clear c10
                      try clear c10b0
                      try clear c14
                      try clear c14b0
                      try clear c14b1
                      try clear c15
                      try clear c15b0
                      try clear c15b1
                      try clear c16
                      try clear c16b0
                      try clear c16b1
                      try clear c18
                      try clear c18b0
                      try clear c18b1
                      try clear c19
                      try clear c19b0
                      try clear c19b1
                      try clear c20
                      try clear c20b0
                      try clear c20b1
                      try clear hcz12_0
                      try clear hcz12_1
                      try clear hcz12_2
                      try clear hcz22_0
                      try clear hcz22_1
                      try clear hcz22_2
                      try clear hcz24_0
                      try clear hcz24_1
                      try clear hcz24_2
                      try clear hcz26_0
                      try clear hcz26_1
                      try clear hcz26_2
                      try clear hcz8_0
                      try clear hcz8_1
                      try clear hcz8_2
                      try clear hfz12_0
                      try clear hfz12_1
                      try clear hfz12_2
                      try clear hfz22_0
                      try clear hfz22_1
                      try clear hfz22_2
                      try clear hfz24_0
                      try clear hfz24_1
                      try clear hfz24_2
                      try clear hfz26_0
                      try clear hfz26_1
                      try clear hfz26_2
                      try clear hfz8_0
                      try clear hfz8_1
                      try clear hfz8_2
                      obtain ⟨x12_1, x13_1, x14_1, rfl, HA, HK1, HO_10, HO_12, HO_13, HI0, HK, HB⟩ := hrel
                      cases gk with
                      | zero => exact absurd HA.out (by simp [tithebarnref05_pick.l0])
                      | succ k1 =>
                        have H := HA.out
                        clear HA
                        simp only [tithebarnref05_pick.l0] at H
                        by_cases c29 : x14_1 < a1
                        · rw [if_pos c29] at H
                          have c29b0 : decide (x14_1 < a1) = true := decide_eq_true c29
                          clear c29
                          by_cases c30 : 0 ≤ x14_1
                          · rw [if_pos c30] at H
                            have c30b0 : decide (0 ≤ x14_1) = true := decide_eq_true c30
                            clear c30
                            by_cases c31 : x14_1 < (t342.length : Int)
                            · rw [if_pos c31] at H
                              have c31b0 : decide (x14_1 < (t342.length : Int)) = true := decide_eq_true c31
                              clear c31
                              by_cases c32 : (rd t342 x14_1) ≥ (IntKind.u64.wrap ((l2.length : Int)))
                              · rw [if_pos c32] at H
                                have c32b0 : decide ((IntKind.u64.wrap ((l2.length : Int))) ≤ (rd t342 x14_1)) = true := decide_eq_true c32
                                clear c32
                                simp only [Option.some.injEq, Prod.mk.injEq] at H
                                obtain ⟨rfl, rfl, rfl, rfl, rfl⟩ := H
                                obtain ⟨Ao33, co33, eo33⟩ := Kd.R_slice HO_10.out
                                subst eo33
                                have p349 : 0 ≤ (x14_1 : Int) := of_decide_eq_true (by first | (with_reducible assumption) | assumption)
                                have q349 : x14_1 < (t342.length : Int) := of_decide_eq_true (by first | (with_reducible assumption) | assumption)
                                obtain ⟨ad349, e349, hx349_0⟩ := Kd.at_int (Kd.R_reads' HO_10.out).2.2 x14_1 p349 q349
                                cases e349
                                replace p349 := eq_true p349
                                replace q349 := eq_true q349
                                go_wp2
                                go_ret2
                                exact ⟨_, by first | rfl | (simp [errW_none, errW_some] <;> rfl) | (simp [*, errW_none, errW_some] <;> rfl), by first | exact Kd.R_nil _ _ _ _ _ | exact Kd.N_nil _ _ _ _ _ | exact Kd.V_nil _ _ _ _ _ | exact Kd.Q_nil _ _ _ _ _ | exact Kd.S_nil _ _ _ _ _, by repeat (first | (with_reducible first | exact HI0.out | apply IsS62.alloc | apply IsS62.drewN | apply IsS62.drew | apply IsS62.set_0 | apply IsS62.set_1 | apply IsS62.set_2) | exact HI0.out), by repeat (first | (with_reducible first | exact HB.out | apply below_alloc | apply pw_below_drewN | apply below_drew1 | refine below_set ?_ (IsS62.ge HI0.out)) | exact HB.out), by repeat (first | (with_reducible first | exact HK.out | apply KeepBut.set_ | apply keep_drewN | apply keep_drew | apply keep_alloc) | exact HK.out)⟩
                              · rw [if_neg c32] at H
                                have c32b0 : decide ((IntKind.u64.wrap ((l2.length : Int))) ≤ (rd t342 x14_1)) = false := decide_eq_false c32
                                clear c32
                                by_cases c34 : 0 ≤ (rd t342 x14_1)
                                · rw [if_pos c34] at H
                                  have c34b0 : decide (0 ≤ (rd t342 x14_1)) = true := decide_eq_true c34
                                  clear c34
                                  by_cases c35 : (rd t342 x14_1) < (x12_1.length : Int)
                                  · rw [if_pos c35] at H
                                    have c35b0 : decide ((rd t342 x14_1) < (x12_1.length : Int)) = true := decide_eq_true c35
                                    clear c35
                                    obtain ⟨y351, hy351⟩ : ∃ y_ : List Bool, y_ = (x12_1.set ((rd t342 x14_1) : Int).toNat true) := ⟨_, rfl⟩
                                    replace H : (if (rd t342 x14_1) < (l2.length : Int) then (if x13_1.length < 8796093022208 then (tithebarnref05_pick.l0 k1 a1 l2 t334 t342 y351 (x13_1 ++ [rdOf ByteArray.empty l2 (rd t342 x14_1)]) (wrap64 (x14_1 + 1)) t339 (wrap64 (t340 + (wrap64 (Int.tdiv (wrap64 ((wrap64 (a1 * t334)) + 7)) 8)))) t341) else (none)) else (none)) = some (r1, r2, r3, r4, r5) := by first | (rw [hy351]; with_reducible exact H) | (have H2_ := (Option.bind_some _ _).symm.trans H; rw [hy351]; with_reducible exact H2_) | (have H2_ := (Option.bind_some _ _).symm.trans H; with_reducible exact H2_) | with_reducible exact H | (rw [hy351]; exact H) | exact H
                                    have Ny351 := Aside0.mk hy351
                                    clear hy351
                                    by_cases c37 : (rd t342 x14_1) < (l2.length : Int)
                                    · rw [if_pos c37] at H
                                      have c37b0 : decide ((rd t342 x14_1) < (l2.length : Int)) = true := decide_eq_true c37
                                      clear c37
                                      by_cases c38 : x13_1.length < 8796093022208
                                      · rw [if_pos c38] at H
                                        have LMc38 := Aside0.mk c38
                                        clear c38
                                        obtain ⟨y354, hy354⟩ : ∃ y_ : List ByteArray, y_ = (x13_1 ++ [rdOf ByteArray.empty l2 (rd t342 x14_1)]) := ⟨_, rfl⟩
                                        replace H : (tithebarnref05_pick.l0 k1 a1 l2 t334 t342 y351 y354 (wrap64 (x14_1 + 1)) t339 (wrap64 (t340 + (wrap64 (Int.tdiv (wrap64 ((wrap64 (a1 * t334)) + 7)) 8)))) t341) = some (r1, r2, r3, r4, r5) := by first | (rw [hy354]; with_reducible exact H) | (have H2_ := (Option.bind_some _ _).symm.trans H; rw [hy354]; with_reducible exact H2_) | (have H2_ := (Option.bind_some _ _).symm.trans H; with_reducible exact H2_) | with_reducible exact H | (rw [hy354]; exact H) | exact H
                                        have Ny354 := Aside0.mk hy354
                                        clear hy354
                                        have H' := Aside0.mk H
                                        clear H
                                        obtain ⟨Ao39, co39, eo39⟩ := Kd.R_slice HO_10.out
                                        subst eo39
                                        have p349 : 0 ≤ (x14_1 : Int) := of_decide_eq_true (by first | (with_reducible assumption) | assumption)
                                        have q349 : x14_1 < (t342.length : Int) := of_decide_eq_true (by first | (with_reducible assumption) | assumption)
                                        obtain ⟨ad349, e349, hx349_0⟩ := Kd.at_int (Kd.R_reads' HO_10.out).2.2 x14_1 p349 q349
                                        cases e349
                                        replace p349 := eq_true p349
                                        replace q349 := eq_true q349
                                        have p350 : 0 ≤ (x14_1 : Int) := of_decide_eq_true (by first | (with_reducible assumption) | assumption)
                                        have q350 : x14_1 < (t342.length : Int) := of_decide_eq_true (by first | (with_reducible assumption) | assumption)
                                        obtain ⟨ad350, e350, hx350_0⟩ := Kd.at_int (Kd.R_reads' HO_10.out).2.2 x14_1 p350 q350
                                        obtain rfl : ad349 = ad350 := (by injection e350)
                                        replace p350 := eq_true p350
                                        replace q350 := eq_true q350
                                        have p36 : 0 ≤ ((rd t342 x14_1) : Int) := of_decide_eq_true (by first | (with_reducible assumption) | assumption)
                                        have q36 : ((rd t342 x14_1) : Int) < ((x12_1.length : Int) : Int) := of_decide_eq_true (by first | (with_reducible assumption) | assumption)
                                        obtain ⟨go36, co36, eo36, gb36, gl36, cl36, HG36⟩ := Kd.R_form HO_12.out (by omega)
                                        (first | cases eo36 | (injection eo36 with ea_ en_ ec_; (first | subst ea_ | (injection ea_ with ea_; subst ea_)); subst ec_; clear en_))
                                        have GB36 := Aside0.mk gb36
                                        have GG36 := Aside0.mk HG36
                                        clear gb36 gl36 HG36
                                        obtain ⟨hx36_0, hf36_0⟩ := Kd.R_celln false HO_12.out ((rd t342 x14_1) : Int) p36 q36
                                        replace p36 := eq_true p36
                                        replace q36 := eq_true q36
                                        have HP40 := Kd.R_putg HO_12.out ((rd t342 x14_1) : Int) true
                                        go_wp2_with (first | ((with_reducible refine gate_store (t := 4) (p := 91) rfl ?_); refine store_event (t := 4) (p := 91) (v := ?vo_w41) (w1 := (wr.setCell ⟨go36, ((rd t342 x14_1) : Int).toNat, none⟩ (.bool true))) ?hg ?ho ?hn ?hr ?_; (case ho => rfl); (case hg => rfl); (case hn => rfl); (case hr => first | (go_simp; done) | (go_simp; rfl)); intro w41 hw; have hg : wr.grownBy w41 (some go36) := (by rw [hw]; exact HP40.2); have hp_ : Kd.R Kd.bool 4 w41 w.heap.size (fun _ => True) (.slice (some ⟨go36, 0, none⟩) x12_1.length co36) y351 := (by rw [hw, Ny351.out]; exact HP40.1); clear HP40; have n0_ := Aside0.mk (Kd.R_over' (v := (.slice (some ⟨go36, 0, none⟩) x12_1.length co36)) (by (with_reducible repeat (first | apply Kd.R_alloc | apply Kd.R_drewN | apply Kd.R_drew)); exact HO_10.out) (Kd.R_typed HO_12.out) (by decide) hg); have n1_ := Aside0.mk (hp_); have n2_ := Aside0.mk (Kd.R_over' (v := (.slice (some ⟨go36, 0, none⟩) x12_1.length co36)) (by (with_reducible repeat (first | apply Kd.R_alloc | apply Kd.R_drewN | apply Kd.R_drew)); exact HO_13.out) (Kd.R_typed HO_12.out) (by decide) hg); have n3_ := Aside0.mk (IsS62.grown (by repeat (first | (with_reducible first | exact HI0.out | apply IsS62.alloc | apply IsS62.drewN | apply IsS62.drew | apply IsS62.set_0 | apply IsS62.set_1 | apply IsS62.set_2) | exact HI0.out)) hg (IsS62.own_ne HI0.out HO_12.out (by decide))); have n4_ := Aside0.mk ((by rw [hw]; exact below_set (HB.out) (Nat.le_trans HL.out GB36.out) : Below w0.heap.size w0 w41)); have n5_ := Aside0.mk (KeepBut.trans (by repeat (first | (with_reducible first | exact HK.out | apply KeepBut.set_ | apply keep_drewN | apply keep_drew | apply keep_alloc) | exact HK.out)) (KeepBut.of_grown hg g) (Kd.R_base2 HO_12.out)); clear HO_10; clear HO_12; clear HO_13; clear HI0; clear HB; clear HK; have HO_10 := n0_; have HO_12 := n1_; have HO_13 := n2_; have HI0 := n3_; have HB := n4_; have HK := n5_; clear n0_ n1_ n2_ n3_ n4_ n5_; clear hg hw hp_; have p352 : 0 ≤ (x14_1 : Int) := of_decide_eq_true (by first | (with_reducible assumption) | assumption); have q352 : x14_1 < (t342.length : Int) := of_decide_eq_true (by first | (with_reducible assumption) | assumption); obtain ⟨ad352, e352, hx352_0⟩ := Kd.at_int (Kd.R_reads' HO_10.out).2.2 x14_1 p352 q352; obtain rfl : ad349 = ad352 := (by injection e352); replace p352 := eq_true p352; replace q352 := eq_true q352; have p353 : 0 ≤ ((rd t342 x14_1) : Int) := of_decide_eq_true (by first | (with_reducible assumption) | assumption); have q353 : (rd t342 x14_1) < (l2.length : Int) := of_decide_eq_true (by first | (with_reducible assumption) | assumption); obtain ⟨ad353, e353, hx353_0⟩ := Kd.at_string HR2.out (rd t342 x14_1) p353 q353; cases e353; replace hx353_0 := keep_cell HK.out hx353_0 (by first | (rw [add_block]; exact hf2 _ rfl (by omega)) | exact hf2 _ rfl (by omega) | exact hf2 ad353 rfl (by omega)); replace p353 := eq_true p353; replace q353 := eq_true q353) | ((with_reducible refine gate_builtin (b := .append) (xs := #[.tmp 92, .tmp 100]) rfl ?_); at_builtin; refine Kd.R_append Kd.string w.heap.size rfl (.tmp 92) (.tmp 100) 22 9 (.string ⟨#[]⟩) 16 rfl Try.underlying22 info9 rfl (by decide) (by omega) u13 x13_1 (rdOf ByteArray.empty l2 (rd t342 x14_1)) [.string (rdOf ByteArray.empty l2 (rd t342 x14_1))] (fun _ => True) (fun _ => False) rfl rfl ?aP (fun _ hk => hk.elim) ?aF ?aO (Below.refl _ _) ?aS ?aL ?_; (case aP => exact rfl); (case aF => exact (fun _ _ => trivial)); (case aO => exact (by (with_reducible repeat (first | apply Kd.R_alloc | apply Kd.R_drewN | apply Kd.R_drew)); exact HO_13.out)); (case aS => exact (keep_size (w := w) (g := g) (row := none) (by repeat (first | (with_reducible first | exact HK.out | apply KeepBut.set_ | apply keep_drewN | apply keep_drew | apply keep_alloc) | exact HK.out)))); (case aL => have := LMc38.out; omega); intro v355 w42 ho hb hg hat; rw [← Ny354.out] at ho; have n0_ := Aside0.mk (Kd.R_over' (by (with_reducible repeat (first | apply Kd.R_alloc | apply Kd.R_drewN | apply Kd.R_drew)); exact HO_10.out) (Kd.R_typed (by (with_reducible repeat (first | apply Kd.R_alloc | apply Kd.R_drewN | apply Kd.R_drew)); exact HO_13.out)) (by decide) hg); have n1_ := Aside0.mk (Kd.R_over' (by (with_reducible repeat (first | apply Kd.R_alloc | apply Kd.R_drewN | apply Kd.R_drew)); exact HO_12.out) (Kd.R_typed (by (with_reducible repeat (first | apply Kd.R_alloc | apply Kd.R_drewN | apply Kd.R_drew)); exact HO_13.out)) (by decide) hg); have n2_ := Aside0.mk (IsS62.grown (by repeat (first | (with_reducible first | exact HI0.out | apply IsS62.alloc | apply IsS62.drewN | apply IsS62.drew | apply IsS62.set_0 | apply IsS62.set_1 | apply IsS62.set_2) | exact HI0.out)) hg (IsS62.own_ne HI0.out HO_13.out (by decide))); have n3_ := Aside0.mk (below_weaken (by repeat (first | (with_reducible first | exact HB.out | apply below_alloc | apply pw_below_drewN | apply below_drew1 | refine below_set ?_ (IsS62.ge HI0.out)) | exact HB.out)) HL.out hb); have n4_ := Aside0.mk (KeepBut.trans (by repeat (first | (with_reducible first | exact HK.out | apply KeepBut.set_ | apply keep_drewN | apply keep_drew | apply keep_alloc) | exact HK.out)) (KeepBut.of_grown hg g) (Kd.R_base2 HO_13.out)); have n5_ := Aside0.mk (ho); clear HO_10; clear HO_12; clear HI0; clear HB; clear HK; clear HO_13; have HO_10 := n0_; have HO_12 := n1_; have HI0 := n2_; have HB := n3_; have HK := n4_; have HO356 := n5_; clear n0_ n1_ n2_ n3_ n4_ n5_; clear ho hb hg hat))
                                        go_roundg k1
                                        case measure => have := HK1.out; omega
                                        case rel => exact ⟨(y351), (y354), (wrap64 (x14_1 + 1)), (by first | rfl | (simp; done) | (simp [*]; done)), H', ⟨by have := HK1.out; omega⟩, ⟨by (with_reducible repeat (first | apply Kd.R_alloc | apply Kd.R_drewN | apply Kd.R_drew)); exact HO_10.out⟩, ⟨by (with_reducible repeat (first | apply Kd.R_alloc | apply Kd.R_drewN | apply Kd.R_drew)); exact HO_12.out⟩, ⟨by (with_reducible repeat (first | apply Kd.R_alloc | apply Kd.R_drewN | apply Kd.R_drew)); exact HO356.out⟩, ⟨by repeat (first | (with_reducible first | exact HI0.out | apply IsS62.alloc | apply IsS62.drewN | apply IsS62.drew | apply IsS62.set_0 | apply IsS62.set_1 | apply IsS62.set_2) | exact HI0.out)⟩, ⟨by repeat (first | (with_reducible first | exact HK.out | apply KeepBut.set_ | apply keep_drewN | apply keep_drew | apply keep_alloc) | exact HK.out)⟩, ⟨by repeat (first | (with_reducible first | exact HB.out | apply below_alloc | apply pw_below_drewN | apply below_drew1 | refine below_set ?_ (IsS62.ge HI0.out)) | exact HB.out)⟩⟩
                                      · rw [if_neg c38] at H
                                        exact absurd H (by simp)
                                    · rw [if_neg c37] at H
                                      exact absurd H (by simp)
                                  · rw [if_neg c35] at H
                                    exact absurd H (by simp)
                                · rw [if_neg c34] at H
                                  exact absurd H (by simp)
                            · rw [if_neg c31] at H
                              exact absurd H (by simp)
                          · rw [if_neg c30] at H
                            exact absurd H (by simp)
                        · rw [if_neg c29] at H
                          have c29b0 : decide (x14_1 < a1) = false := decide_eq_false c29
                          clear c29
                          have H' := Aside0.mk H
                          clear H
                          go_wp2
                          go_loopg [15] k1 (fun kq v15 w' => ∃ (x15_2 : Int), v15 = .int .i64 x15_2 ∧ Aside0 (tithebarnref05_pick.l1 kq t334 t342 x12_1 x13_1 x15_2 t339 (wrap64 (t340 + (wrap64 (Int.tdiv (wrap64 ((wrap64 (a1 * t334)) + 7)) 8)))) t341 = some (r1, r2, r3, r4, r5)) ∧ Aside0 (kq ≤ k1) ∧ Aside0 (Kd.R (Kd.int .u64) 38 w' w.heap.size (fun _ => True) v344 t342) ∧ Aside0 (Kd.R Kd.bool 4 w' w.heap.size (fun _ => True) v347 x12_1) ∧ Aside0 (Kd.R Kd.string 9 w' w.heap.size (fun _ => True) u13 x13_1) ∧ Aside0 (IsS62 w0 w' g t339 (wrap64 (t340 + (wrap64 (Int.tdiv (wrap64 ((wrap64 (a1 * t334)) + 7)) 8)))) t341) ∧ Aside0 (KeepBut w w' g none) ∧ Aside0 (Below w0.heap.size w0 w'))
                          case atStart => exact ⟨(0), (by first | rfl | (simp; done) | (simp [*]; done)), H', ⟨Nat.le_refl _⟩, ⟨by (with_reducible repeat (first | apply Kd.R_alloc | apply Kd.R_drewN | apply Kd.R_drew)); exact HO_10.out⟩, ⟨by (with_reducible repeat (first | apply Kd.R_alloc | apply Kd.R_drewN | apply Kd.R_drew)); exact HO_12.out⟩, ⟨by (with_reducible repeat (first | apply Kd.R_alloc | apply Kd.R_drewN | apply Kd.R_drew)); exact HO_13.out⟩, ⟨by repeat (first | (with_reducible first | exact HI0.out | apply IsS62.alloc | apply IsS62.drewN | apply IsS62.drew | apply IsS62.set_0 | apply IsS62.set_1 | apply IsS62.set_2) | exact HI0.out)⟩, ⟨by repeat (first | (with_reducible first | exact HK.out | apply KeepBut.set_ | apply keep_drewN | apply keep_drew | apply keep_alloc) | exact HK.out)⟩, ⟨by repeat (first | (with_reducible first | exact HB.out | apply below_alloc | apply pw_below_drewN | apply below_drew1 | refine below_set ?_ (IsS62.ge HI0.out)) | exact HB.out)⟩⟩
                          case round =>
                            clear H'
                            try clear c1
                            try clear c2
                            try clear p2
                            try clear c3
                            try clear p3
                            try clear q3
                            try clear hx3
                            try clear hf3
                            try clear c4
                            try clear c5
                            try clear c5b0
                            try clear c5b1
                            try clear c6
                            try clear c6b0
                            try clear p6
                            try clear c10
                            try clear c10b0
                            try clear c14
                            try clear c14b0
                            try clear c14b1
                            try clear c15
                            try clear c15b0
                            try clear c15b1
                            try clear c16
                            try clear c16b0
                            try clear c16b1
                            try clear c18
                            try clear c18b0
                            try clear c18b1
                            try clear c19
                            try clear c19b0
                            try clear c19b1
                            try clear c20
                            try clear c20b0
                            try clear c20b1
                            try clear c29
                            try clear c29b0
                            try clear c30
                            try clear c30b0
                            try clear c31
                            try clear c31b0
                            try clear c32
                            try clear c32b0
                            try clear c34
                            try clear c34b0
                            try clear p34
                            try clear q34
                            try clear hx34
                            try clear c35
                            try clear c35b0
                            try clear p35
                            try clear q35
                            try clear hx35
                            try clear p36
                            try clear q36
                            try clear hx36
                            try clear hf36
                            try clear c37
                            try clear c37b0
                            try clear c38
                            try clear c39
                            try clear c42
                            try clear hcz12_0
                            try clear hcz12_1
                            try clear hcz12_2
                            try clear hcz22_0
                            try clear hcz22_1
                            try clear hcz22_2
                            try clear hcz24_0
                            try clear hcz24_1
                            try clear hcz24_2
                            try clear hcz26_0
                            try clear hcz26_1
                            try clear hcz26_2
                            try clear hcz8_0
                            try clear hcz8_1
                            try clear hcz8_2
                            try clear hfz12_0
                            try clear hfz12_1
                            try clear hfz12_2
                            try clear hfz22_0
                            try clear hfz22_1
                            try clear hfz22_2
                            try clear hfz24_0
                            try clear hfz24_1
                            try clear hfz24_2
                            try clear hfz26_0
                            try clear hfz26_1
                            try clear hfz26_2
                            try clear hfz8_0
                            try clear hfz8_1
                            try clear hfz8_2
                            try clear hx349_0
                            try clear hx350_0
                            try clear hx352_0
                            try clear hx353_0
                            try clear hx36_0
                            try clear p2
                            try clear p349
                            try clear p350
                            try clear p352
                            try clear p353
                            try clear p36
                            try clear p6
                            try clear q349
                            try clear q350
                            try clear q352
                            try clear q353
                            try clear q36
                            obtain ⟨x15_2, rfl, HA, HK2, HO_10, HO_12, HO_13, HI0, HK, HB⟩ := hrel
                            cases gk with
                            | zero => exact absurd HA.out (by simp [tithebarnref05_pick.l1])
                            | succ k2 =>
                              have H := HA.out
                              clear HA
                              simp only [tithebarnref05_pick.l1] at H
                              by_cases c43 : x15_2 < (x12_1.length : Int)
                              · rw [if_pos c43] at H
                                have c43b0 : decide (x15_2 < (x12_1.length : Int)) = true := decide_eq_true c43
                                clear c43
                                by_cases c44 : 0 ≤ x15_2
                                · rw [if_pos c44] at H
                                  have c44b0 : decide (0 ≤ x15_2) = true := decide_eq_true c44
                                  clear c44
                                  obtain ⟨bq45, hbq45⟩ : ∃ b_ : Bool, b_ = (rdOf false x12_1 x15_2) := ⟨_, rfl⟩
                                  replace H : (if bq45 = true then (tithebarnref05_pick.l1 k2 t334 t342 x12_1 x13_1 (wrap64 (x15_2 + 1)) t339 (wrap64 (t340 + (wrap64 (Int.tdiv (wrap64 ((wrap64 (a1 * t334)) + 7)) 8)))) t341) else (some (([] : List ByteArray), 4, t339, (wrap64 (t340 + (wrap64 (Int.tdiv (wrap64 ((wrap64 (a1 * t334)) + 7)) 8)))), t341))) = some (r1, r2, r3, r4, r5) := by rw [← hbq45] at H; exact H
                                  have Nbq45 := Aside0.mk hbq45
                                  clear hbq45
                                  by_cases c46 : bq45 = true
                                  · subst c46
                                    have H1 : (tithebarnref05_pick.l1 k2 t334 t342 x12_1 x13_1 (wrap64 (x15_2 + 1)) t339 (wrap64 (t340 + (wrap64 (Int.tdiv (wrap64 ((wrap64 (a1 * t334)) + 7)) 8)))) t341) = some (r1, r2, r3, r4, r5) := by rw [if_pos rfl] at H; exact H
                                    clear H
                                    have H := H1
                                    clear H1
                                    have H' := Aside0.mk H
                                    clear H
                                    obtain ⟨Ao47, co47, eo47⟩ := Kd.R_slice HO_12.out
                                    subst eo47
                                    have p357 : 0 ≤ (x15_2 : Int) := of_decide_eq_true (by first | (with_reducible assumption) | assumption)
                                    have q357 : x15_2 < (x12_1.length : Int) := of_decide_eq_true (by first | (with_reducible assumption) | assumption)
                                    obtain ⟨ad357, e357, hx357_0⟩ := Kd.at_bool (Kd.R_reads' HO_12.out).2.2 x15_2 p357 q357
                                    (try rw [← Nbq45.out] at hx357_0)
                                    cases e357
                                    replace p357 := eq_true p357
                                    replace q357 := eq_true q357
                                    go_wp2
                                    go_roundg k2
                                    case measure => have := HK1.out; have := HK2.out; omega
                                    case rel => exact ⟨(wrap64 (x15_2 + 1)), (by first | rfl | (simp; done) | (simp [*]; done)), H', ⟨by have := HK1.out; have := HK2.out; omega⟩, ⟨by (with_reducible repeat (first | apply Kd.R_alloc | apply Kd.R_drewN | apply Kd.R_drew)); exact HO_10.out⟩, ⟨by (with_reducible repeat (first | apply Kd.R_alloc | apply Kd.R_drewN | apply Kd.R_drew)); exact HO_12.out⟩, ⟨by (with_reducible repeat (first | apply Kd.R_alloc | apply Kd.R_drewN | apply Kd.R_drew)); exact HO_13.out⟩, ⟨by repeat (first | (with_reducible first | exact HI0.out | apply IsS62.alloc | apply IsS62.drewN | apply IsS62.drew | apply IsS62.set_0 | apply IsS62.set_1 | apply IsS62.set_2) | exact HI0.out)⟩, ⟨by repeat (first | (with_reducible first | exact HK.out | apply KeepBut.set_ | apply keep_drewN | apply keep_drew | apply keep_alloc) | exact HK.out)⟩, ⟨by repeat (first | (with_reducible first | exact HB.out | apply below_alloc | apply pw_below_drewN | apply below_drew1 | refine below_set ?_ (IsS62.ge HI0.out)) | exact HB.out)⟩⟩
                                  · replace c46 := Bool.eq_false_iff.mpr c46
                                    subst c46
                                    have H1 : (some (([] : List ByteArray), 4, t339, (wrap64 (t340 + (wrap64 (Int.tdiv (wrap64 ((wrap64 (a1 * t334)) + 7)) 8)))), t341)) = some (r1, r2, r3, r4, r5) := by rw [if_neg (show ¬ (false = true) by decide)] at H; exact H
                                    clear H
                                    have H := H1
                                    clear H1
                                    simp only [Option.some.injEq, Prod.mk.injEq] at H
                                    obtain ⟨rfl, rfl, rfl, rfl, rfl⟩ := H
                                    obtain ⟨Ao48, co48, eo48⟩ := Kd.R_slice HO_12.out
                                    subst eo48
                                    have p357 : 0 ≤ (x15_2 : Int) := of_decide_eq_true (by first | (with_reducible assumption) | assumption)
                                    have q357 : x15_2 < (x12_1.length : Int) := of_decide_eq_true (by first | (with_reducible assumption) | assumption)
                                    obtain ⟨ad357, e357, hx357_0⟩ := Kd.at_bool (Kd.R_reads' HO_12.out).2.2 x15_2 p357 q357
                                    (try rw [← Nbq45.out] at hx357_0)
                                    cases e357
                                    replace p357 := eq_true p357
                                    replace q357 := eq_true q357
                                    go_wp2
                                    go_ret2
                                    exact ⟨_, by first | rfl | (simp [errW_none, errW_some] <;> rfl) | (simp [*, errW_none, errW_some] <;> rfl), by first | exact Kd.R_nil _ _ _ _ _ | exact Kd.N_nil _ _ _ _ _ | exact Kd.V_nil _ _ _ _ _ | exact Kd.Q_nil _ _ _ _ _ | exact Kd.S_nil _ _ _ _ _, by repeat (first | (with_reducible first | exact HI0.out | apply IsS62.alloc | apply IsS62.drewN | apply IsS62.drew | apply IsS62.set_0 | apply IsS62.set_1 | apply IsS62.set_2) | exact HI0.out), by repeat (first | (with_reducible first | exact HB.out | apply below_alloc | apply pw_below_drewN | apply below_drew1 | refine below_set ?_ (IsS62.ge HI0.out)) | exact HB.out), by repeat (first | (with_reducible first | exact HK.out | apply KeepBut.set_ | apply keep_drewN | apply keep_drew | apply keep_alloc) | exact HK.out)⟩
                                · rw [if_neg c44] at H
                                  exact absurd H (by simp)
                              · rw [if_neg c43] at H
                                have c43b0 : decide (x15_2 < (x12_1.length : Int)) = false := decide_eq_false c43
                                clear c43
                                replace H := Option.bind_eq_some_iff.mp H
                                obtain ⟨t358, A490, H⟩ := H
                                replace H : (if t358 = t334 then (some (x13_1, 0, t339, (wrap64 (t340 + (wrap64 (Int.tdiv (wrap64 ((wrap64 (a1 * t334)) + 7)) 8)))), t341)) else (some (([] : List ByteArray), 4, t339, (wrap64 (t340 + (wrap64 (Int.tdiv (wrap64 ((wrap64 (a1 * t334)) + 7)) 8)))), t341))) = some (r1, r2, r3, r4, r5) := H
                                have A49 := Aside0.mk A490
                                clear A490
                                by_cases c50 : t358 = t334
                                · rw [if_pos c50] at H
                                  have c50b0 : (t358 == t334) = true := beq_iff_eq.mpr c50
                                  have c50b1 : (t358 != t334) = false := bne_eq_false_iff_eq.mpr c50
                                  clear c50
                                  simp only [Option.some.injEq, Prod.mk.injEq] at H
                                  obtain ⟨rfl, rfl, rfl, rfl, rfl⟩ := H
                                  obtain ⟨Ao51, co51, eo51⟩ := Kd.R_slice HO_12.out
                                  subst eo51
                                  obtain ⟨Ao52, co52, eo52⟩ := Kd.R_slice HO_10.out
                                  subst eo52
                                  go_wp2_with (first | ((with_reducible refine gate_callee (f := 30) rfl ?_); refine goesL_ (some 114) rfl rfl Try.func30 (by kernel_rfl) rfl #[.slice Ao52 t342.length co52] rfl (by (try simp only [List.map_toArray, List.map_cons, List.map_nil]); first | done | rfl | (simp only [List.length_drop, List.length_take]; rfl)) ?_; (with_reducible refine (tithebarnref03_Width.calls k2 _ _ t342 t358 _ ?side1 ?side2 A49.out).mono ?_); (case side1 => repeat (first | exact (Kd.R_reads' HO_10.out).2.2 | (with_reducible refine Kd.C_alloc ?_ _) | (with_reducible refine Kd.C_drewN ?_ _) | (with_reducible refine Kd.C_drew ?_))); (case side2 => exact (Kd.R_reads' HO_10.out).2.1); rintro e w' ⟨rfl, ⟨nd, rfl⟩⟩; refine ⟨_, rfl, ?_⟩))
                                  go_ret2
                                  exact ⟨_, by first | rfl | (simp [errW_none, errW_some] <;> rfl) | (simp [*, errW_none, errW_some] <;> rfl), by (with_reducible repeat (first | apply Kd.R_alloc | apply Kd.R_drewN | apply Kd.R_drew)); exact HO_13.out, by repeat (first | (with_reducible first | exact HI0.out | apply IsS62.alloc | apply IsS62.drewN | apply IsS62.drew | apply IsS62.set_0 | apply IsS62.set_1 | apply IsS62.set_2) | exact HI0.out), by repeat (first | (with_reducible first | exact HB.out | apply below_alloc | apply pw_below_drewN | apply below_drew1 | refine below_set ?_ (IsS62.ge HI0.out)) | exact HB.out), by repeat (first | (with_reducible first | exact HK.out | apply KeepBut.set_ | apply keep_drewN | apply keep_drew | apply keep_alloc) | exact HK.out)⟩
                                · rw [if_neg c50] at H
                                  have c50b0 : (t358 == t334) = false := beq_eq_false_iff_ne.mpr c50
                                  have c50b1 : (t358 != t334) = true := bne_iff_ne.mpr c50
                                  simp only [Option.some.injEq, Prod.mk.injEq] at H
                                  obtain ⟨rfl, rfl, rfl, rfl, rfl⟩ := H
                                  obtain ⟨Ao53, co53, eo53⟩ := Kd.R_slice HO_12.out
                                  subst eo53
                                  obtain ⟨Ao54, co54, eo54⟩ := Kd.R_slice HO_10.out
                                  subst eo54
                                  go_wp2_with (first | ((with_reducible refine gate_callee (f := 30) rfl ?_); refine goesL_ (some 114) rfl rfl Try.func30 (by kernel_rfl) rfl #[.slice Ao54 t342.length co54] rfl (by (try simp only [List.map_toArray, List.map_cons, List.map_nil]); first | done | rfl | (simp only [List.length_drop, List.length_take]; rfl)) ?_; (with_reducible refine (tithebarnref03_Width.calls k2 _ _ t342 t358 _ ?side1 ?side2 A49.out).mono ?_); (case side1 => repeat (first | exact (Kd.R_reads' HO_10.out).2.2 | (with_reducible refine Kd.C_alloc ?_ _) | (with_reducible refine Kd.C_drewN ?_ _) | (with_reducible refine Kd.C_drew ?_))); (case side2 => exact (Kd.R_reads' HO_10.out).2.1); rintro e w' ⟨rfl, ⟨nd, rfl⟩⟩; refine ⟨_, rfl, ?_⟩))
                                  go_ret2
                                  exact ⟨_, by first | rfl | (simp [errW_none, errW_some] <;> rfl) | (simp [*, errW_none, errW_some] <;> rfl), by first | exact Kd.R_nil _ _ _ _ _ | exact Kd.N_nil _ _ _ _ _ | exact Kd.V_nil _ _ _ _ _ | exact Kd.Q_nil _ _ _ _ _ | exact Kd.S_nil _ _ _ _ _, by repeat (first | (with_reducible first | exact HI0.out | apply IsS62.alloc | apply IsS62.drewN | apply IsS62.drew | apply IsS62.set_0 | apply IsS62.set_1 | apply IsS62.set_2) | exact HI0.out), by repeat (first | (with_reducible first | exact HB.out | apply below_alloc | apply pw_below_drewN | apply below_drew1 | refine below_set ?_ (IsS62.ge HI0.out)) | exact HB.out), by repeat (first | (with_reducible first | exact HK.out | apply KeepBut.set_ | apply keep_drewN | apply keep_drew | apply keep_alloc) | exact HK.out)⟩
                  · rw [if_neg c20] at H
                    exact absurd H (by simp)
                · rw [if_neg c19] at H
                  exact absurd H (by simp)
              · rw [if_neg c18] at H
                have c18b0 : (t343 == 0) = false := beq_eq_false_iff_ne.mpr c18
                have c18b1 : (t343 != 0) = true := bne_iff_ne.mpr c18
                simp only [Option.some.injEq, Prod.mk.injEq] at H
                obtain ⟨rfl, rfl, rfl, rfl, rfl⟩ := H
                go_enter Try.func42, Try.ntmps42
                go_wp2_with (first | ((with_reducible refine gate_callee (f := 39) rfl ?_); refine goesL_ (some 17) rfl rfl Try.func39 (by kernel_rfl) rfl #[.pointer (some ⟨g, 0, none⟩)] rfl (by (try simp only [List.map_toArray, List.map_cons, List.map_nil]); first | done | rfl | (simp only [List.length_drop, List.length_take]; rfl)) ?_; (with_reducible refine (tithebarnref01_Cursor_Byte.calls g s0_0 s0_1 s0_2 t334 t335 t336 t337 w0 _ ?side1 ?side2 A4.out).mono ?_); (case side1 => repeat (first | (with_reducible first | exact HI0.out | apply IsS62.alloc | apply IsS62.drewN | apply IsS62.drew | apply IsS62.set_0 | apply IsS62.set_1 | apply IsS62.set_2) | exact HI0.out)); (case side2 => repeat (first | (with_reducible first | exact HB.out | apply below_alloc | apply pw_below_drewN | apply below_drew1 | refine below_set ?_ (IsS62.ge HI0.out)) | exact HB.out)); rintro e w55 ⟨rfl, hi, hb, hk⟩; refine ⟨_, rfl, ?_⟩; have n0_ := Aside0.mk (KeepBut.trans (by repeat (first | (with_reducible first | exact HK.out | apply KeepBut.set_ | apply keep_drewN | apply keep_drew | apply keep_alloc) | exact HK.out)) hk (.inl rfl)); have n1_ := Aside0.mk (hb); have n2_ := Aside0.mk (hi); clear HK; clear HB; clear HI0; have HK := n0_; have HB := n1_; have HI0 := n2_; clear n0_ n1_ n2_; (try clear hb); (try clear hb2); (try clear hk); (try clear hi); obtain ⟨HGz56, hgz56⟩ := HI0.out; have hcz56_0 := cellS62_0 HGz56; have hcz56_1 := cellS62_1 HGz56; have hcz56_2 := cellS62_2 HGz56; have hfz56_0 := blk_frozen HGz56 0; have hfz56_1 := blk_frozen HGz56 1; have hfz56_2 := blk_frozen HGz56 2; clear HGz56 hgz56) | ((with_reducible refine gate_callee (f := 63) rfl ?_); refine goesL_ (some 35) rfl rfl Try.func63 (by kernel_rfl) rfl #[.pointer (some ⟨g, 0, none⟩)] rfl (by (try simp only [List.map_toArray, List.map_cons, List.map_nil]); first | done | rfl | (simp only [List.length_drop, List.length_take]; rfl)) ?_; (with_reducible refine (tithebarnref01_Cursor_Left.calls g t335 t336 t337 t338 t339 t340 t341 w0 _ ?side1 ?side2 A9.out).mono ?_); (case side1 => repeat (first | (with_reducible first | exact HI0.out | apply IsS62.alloc | apply IsS62.drewN | apply IsS62.drew | apply IsS62.set_0 | apply IsS62.set_1 | apply IsS62.set_2) | exact HI0.out)); (case side2 => repeat (first | (with_reducible first | exact HB.out | apply below_alloc | apply pw_below_drewN | apply below_drew1 | refine below_set ?_ (IsS62.ge HI0.out)) | exact HB.out)); rintro e w57 ⟨rfl, hi, hb, hk⟩; refine ⟨_, rfl, ?_⟩; have n0_ := Aside0.mk (KeepBut.trans (by repeat (first | (with_reducible first | exact HK.out | apply KeepBut.set_ | apply keep_drewN | apply keep_drew | apply keep_alloc) | exact HK.out)) hk (.inl rfl)); have n1_ := Aside0.mk (hb); have n2_ := Aside0.mk (hi); clear HK; clear HB; clear HI0; have HK := n0_; have HB := n1_; have HI0 := n2_; clear n0_ n1_ n2_; (try clear hb); (try clear hb2); (try clear hk); (try clear hi); obtain ⟨HGz58, hgz58⟩ := HI0.out; have hcz58_0 := cellS62_0 HGz58; have hcz58_1 := cellS62_1 HGz58; have hcz58_2 := cellS62_2 HGz58; have hfz58_0 := blk_frozen HGz58 0; have hfz58_1 := blk_frozen HGz58 1; have hfz58_2 := blk_frozen HGz58 2; clear HGz58 hgz58) | ((with_reducible refine gate_callee (f := 67) rfl ?_); refine goesL_ (some 56) rfl rfl Try.func67 (by kernel_rfl) rfl #[.string (t339.extract (t340 : Int).toNat ((wrap64 (t340 + (wrap64 (Int.tdiv (wrap64 ((wrap64 (a1 * t334)) + 7)) 8)))) : Int).toNat), .int .i64 a1, .int .i64 t334] rfl (by (try simp only [List.map_toArray, List.map_cons, List.map_nil]); first | done | rfl | (simp only [List.length_drop, List.length_take]; rfl)) ?_; (with_reducible refine (tithebarnref03_Unpack.calls k (t339.extract (t340 : Int).toNat ((wrap64 (t340 + (wrap64 (Int.tdiv (wrap64 ((wrap64 (a1 * t334)) + 7)) 8)))) : Int).toNat) a1 t334 t342 t343 _ A17.out).mono ?_); rintro e w59 ⟨v344, rfl, ho0, hb⟩; refine ⟨_, rfl, ?_⟩; have n0_ := Aside0.mk (Kd.R_lower ho0 (keep_size (w := w) (g := g) (row := none) (by repeat (first | (with_reducible first | exact HK.out | apply KeepBut.set_ | apply keep_drewN | apply keep_drew | apply keep_alloc) | exact HK.out)))); have n1_ := Aside0.mk (IsS62.below (by repeat (first | (with_reducible first | exact HI0.out | apply IsS62.alloc | apply IsS62.drewN | apply IsS62.drew | apply IsS62.set_0 | apply IsS62.set_1 | apply IsS62.set_2) | exact HI0.out)) hb); have n2_ := Aside0.mk (KeepBut.trans (by repeat (first | (with_reducible first | exact HK.out | apply KeepBut.set_ | apply keep_drewN | apply keep_drew | apply keep_alloc) | exact HK.out)) (KeepBut.of_below hb g none) (.inl rfl)); have n3_ := Aside0.mk (below_step (by repeat (first | (with_reducible first | exact HB.out | apply below_alloc | apply pw_below_drewN | apply below_drew1 | refine below_set ?_ (IsS62.ge HI0.out)) | exact HB.out)) hb); clear HI0; clear HK; clear HB; have HO345 := n0_; have HI0 := n1_; have HK := n2_; have HB := n3_; clear n0_ n1_ n2_ n3_; (try clear hb); (try clear hb2); (try clear hk); (try clear hi); (try clear ho0)))
                have hi64w_ : ∀ x_ : Int, IntKind.i64.wrap x_ = wrap64 x_ := i64_w
                go_cut [10, 11] (fun s10 s11 wc => ∃ v_ : Value, v_ = s10 ∧ s11 = .int .i64 t343 ∧ Aside0 (Kd.R (Kd.int .u64) 38 wc w.heap.size (fun _ => True) s10 t342) ∧ Aside0 (IsS62 w0 wc g t339 t340 t341) ∧ Aside0 (KeepBut w wc g none) ∧ Aside0 (Below w0.heap.size w0 wc))
                case first =>
                  go_wp2_with fail
                  go_region_with (first | (go_at_call 67; (with_reducible refine (tithebarnref03_Unpack.calls k (t339.extract (t340 : Int).toNat ((wrap64 (t340 + (wrap64 (Int.tdiv (wrap64 ((wrap64 (a1 * t334)) + 7)) 8)))) : Int).toNat) a1 t334 t342 t343 _ A17.out).mono ?_); rintro e w59 ⟨v344, rfl, ho0, hb⟩; have n0_ := Aside0.mk (Kd.R_lower ho0 (keep_size (w := w) (g := g) (row := none) (by repeat (first | (with_reducible first | exact HK.out | apply KeepBut.set_ | apply keep_drewN | apply keep_drew | apply keep_alloc) | exact HK.out)))); have n1_ := Aside0.mk (IsS62.below (by repeat (first | (with_reducible first | exact HI0.out | apply IsS62.alloc | apply IsS62.drewN | apply IsS62.drew | apply IsS62.set_0 | apply IsS62.set_1 | apply IsS62.set_2) | exact HI0.out)) hb); have n2_ := Aside0.mk (KeepBut.trans (by repeat (first | (with_reducible first | exact HK.out | apply KeepBut.set_ | apply keep_drewN | apply keep_drew | apply keep_alloc) | exact HK.out)) (KeepBut.of_below hb g none) (.inl rfl)); have n3_ := Aside0.mk (below_step (by repeat (first | (with_reducible first | exact HB.out | apply below_alloc | apply pw_below_drewN | apply below_drew1 | refine below_set ?_ (IsS62.ge HI0.out)) | exact HB.out)) hb); clear HI0; clear HK; clear HB; have HO345 := n0_; have HI0 := n1_; have HK := n2_; have HB := n3_; clear n0_ n1_ n2_ n3_; (try clear hb); (try clear hb2); (try clear hk); (try clear hi); (try clear ho0)))
                  all_goals (go_wp2_with fail; go_meet; exact ⟨_, rfl, rfl, HO345, HI0, HK, HB⟩)
                clear hi64w_ HI0 HK HB
                rename World => w59
                obtain ⟨v344, rfl, rfl, HO345, HI0, HK, HB⟩ := hcut
                go_wp2_with (first | ((with_reducible refine gate_callee (f := 39) rfl ?_); refine goesL_ (some 17) rfl rfl Try.func39 (by kernel_rfl) rfl #[.pointer (some ⟨g, 0, none⟩)] rfl (by (try simp only [List.map_toArray, List.map_cons, List.map_nil]); first | done | rfl | (simp only [List.length_drop, List.length_take]; rfl)) ?_; (with_reducible refine (tithebarnref01_Cursor_Byte.calls g s0_0 s0_1 s0_2 t334 t335 t336 t337 w0 _ ?side1 ?side2 A4.out).mono ?_); (case side1 => repeat (first | (with_reducible first | exact HI0.out | apply IsS62.alloc | apply IsS62.drewN | apply IsS62.drew | apply IsS62.set_0 | apply IsS62.set_1 | apply IsS62.set_2) | exact HI0.out)); (case side2 => repeat (first | (with_reducible first | exact HB.out | apply below_alloc | apply pw_below_drewN | apply below_drew1 | refine below_set ?_ (IsS62.ge HI0.out)) | exact HB.out)); rintro e w55 ⟨rfl, hi, hb, hk⟩; refine ⟨_, rfl, ?_⟩; have n0_ := Aside0.mk (KeepBut.trans (by repeat (first | (with_reducible first | exact HK.out | apply KeepBut.set_ | apply keep_drewN | apply keep_drew | apply keep_alloc) | exact HK.out)) hk (.inl rfl)); have n1_ := Aside0.mk (hb); have n2_ := Aside0.mk (hi); clear HK; clear HB; clear HI0; have HK := n0_; have HB := n1_; have HI0 := n2_; clear n0_ n1_ n2_; (try clear hb); (try clear hb2); (try clear hk); (try clear hi); obtain ⟨HGz56, hgz56⟩ := HI0.out; have hcz56_0 := cellS62_0 HGz56; have hcz56_1 := cellS62_1 HGz56; have hcz56_2 := cellS62_2 HGz56; have hfz56_0 := blk_frozen HGz56 0; have hfz56_1 := blk_frozen HGz56 1; have hfz56_2 := blk_frozen HGz56 2; clear HGz56 hgz56) | ((with_reducible refine gate_callee (f := 63) rfl ?_); refine goesL_ (some 35) rfl rfl Try.func63 (by kernel_rfl) rfl #[.pointer (some ⟨g, 0, none⟩)] rfl (by (try simp only [List.map_toArray, List.map_cons, List.map_nil]); first | done | rfl | (simp only [List.length_drop, List.length_take]; rfl)) ?_; (with_reducible refine (tithebarnref01_Cursor_Left.calls g t335 t336 t337 t338 t339 t340 t341 w0 _ ?side1 ?side2 A9.out).mono ?_); (case side1 => repeat (first | (with_reducible first | exact HI0.out | apply IsS62.alloc | apply IsS62.drewN | apply IsS62.drew | apply IsS62.set_0 | apply IsS62.set_1 | apply IsS62.set_2) | exact HI0.out)); (case side2 => repeat (first | (with_reducible first | exact HB.out | apply below_alloc | apply pw_below_drewN | apply below_drew1 | refine below_set ?_ (IsS62.ge HI0.out)) | exact HB.out)); rintro e w57 ⟨rfl, hi, hb, hk⟩; refine ⟨_, rfl, ?_⟩; have n0_ := Aside0.mk (KeepBut.trans (by repeat (first | (with_reducible first | exact HK.out | apply KeepBut.set_ | apply keep_drewN | apply keep_drew | apply keep_alloc) | exact HK.out)) hk (.inl rfl)); have n1_ := Aside0.mk (hb); have n2_ := Aside0.mk (hi); clear HK; clear HB; clear HI0; have HK := n0_; have HB := n1_; have HI0 := n2_; clear n0_ n1_ n2_; (try clear hb); (try clear hb2); (try clear hk); (try clear hi); obtain ⟨HGz58, hgz58⟩ := HI0.out; have hcz58_0 := cellS62_0 HGz58; have hcz58_1 := cellS62_1 HGz58; have hcz58_2 := cellS62_2 HGz58; have hfz58_0 := blk_frozen HGz58 0; have hfz58_1 := blk_frozen HGz58 1; have hfz58_2 := blk_frozen HGz58 2; clear HGz58 hgz58) | ((with_reducible refine gate_callee (f := 67) rfl ?_); refine goesL_ (some 56) rfl rfl Try.func67 (by kernel_rfl) rfl #[.string (t339.extract (t340 : Int).toNat ((wrap64 (t340 + (wrap64 (Int.tdiv (wrap64 ((wrap64 (a1 * t334)) + 7)) 8)))) : Int).toNat), .int .i64 a1, .int .i64 t334] rfl (by (try simp only [List.map_toArray, List.map_cons, List.map_nil]); first | done | rfl | (simp only [List.length_drop, List.length_take]; rfl)) ?_; (with_reducible refine (tithebarnref03_Unpack.calls k (t339.extract (t340 : Int).toNat ((wrap64 (t340 + (wrap64 (Int.tdiv (wrap64 ((wrap64 (a1 * t334)) + 7)) 8)))) : Int).toNat) a1 t334 t342 t343 _ A17.out).mono ?_); rintro e w59 ⟨v344, rfl, ho0, hb⟩; refine ⟨_, rfl, ?_⟩; have n0_ := Aside0.mk (Kd.R_lower ho0 (keep_size (w := w) (g := g) (row := none) (by repeat (first | (with_reducible first | exact HK.out | apply KeepBut.set_ | apply keep_drewN | apply keep_drew | apply keep_alloc) | exact HK.out)))); have n1_ := Aside0.mk (IsS62.below (by repeat (first | (with_reducible first | exact HI0.out | apply IsS62.alloc | apply IsS62.drewN | apply IsS62.drew | apply IsS62.set_0 | apply IsS62.set_1 | apply IsS62.set_2) | exact HI0.out)) hb); have n2_ := Aside0.mk (KeepBut.trans (by repeat (first | (with_reducible first | exact HK.out | apply KeepBut.set_ | apply keep_drewN | apply keep_drew | apply keep_alloc) | exact HK.out)) (KeepBut.of_below hb g none) (.inl rfl)); have n3_ := Aside0.mk (below_step (by repeat (first | (with_reducible first | exact HB.out | apply below_alloc | apply pw_below_drewN | apply below_drew1 | refine below_set ?_ (IsS62.ge HI0.out)) | exact HB.out)) hb); clear HI0; clear HK; clear HB; have HO345 := n0_; have HI0 := n1_; have HK := n2_; have HB := n3_; clear n0_ n1_ n2_ n3_; (try clear hb); (try clear hb2); (try clear hk); (try clear hi); (try clear ho0)))
                go_ret2
                exact ⟨_, by first | rfl | (simp [errW_none, errW_some] <;> rfl) | (simp [*, errW_none, errW_some] <;> rfl), by first | exact Kd.R_nil _ _ _ _ _ | exact Kd.N_nil _ _ _ _ _ | exact Kd.V_nil _ _ _ _ _ | exact Kd.Q_nil _ _ _ _ _ | exact Kd.S_nil _ _ _ _ _, by repeat (first | (with_reducible first | exact HI0.out | apply IsS62.alloc | apply IsS62.drewN | apply IsS62.drew | apply IsS62.set_0 | apply IsS62.set_1 | apply IsS62.set_2) | exact HI0.out), by repeat (first | (with_reducible first | exact HB.out | apply below_alloc | apply pw_below_drewN | apply below_drew1 | refine below_set ?_ (IsS62.ge HI0.out)) | exact HB.out), by repeat (first | (with_reducible first | exact HK.out | apply KeepBut.set_ | apply keep_drewN | apply keep_drew | apply keep_alloc) | exact HK.out)⟩
            · rw [if_neg c16] at H
              exact absurd H (by simp)
          · rw [if_neg c15] at H
            exact absurd H (by simp)
        · rw [if_neg c14] at H
          exact absurd H (by simp)
  · rw [if_neg c5] at H
    have c5b0 : (t337 == 0) = false := beq_eq_false_iff_ne.mpr c5
    have c5b1 : (t337 != 0) = true := bne_iff_ne.mpr c5
    simp only [Option.some.injEq, Prod.mk.injEq] at H
    obtain ⟨rfl, rfl, rfl, rfl, rfl⟩ := H
    go_enter Try.func42, Try.ntmps42
    go_wp2_with (first | ((with_reducible refine gate_callee (f := 39) rfl ?_); refine goesL_ (some 17) rfl rfl Try.func39 (by kernel_rfl) rfl #[.pointer (some ⟨g, 0, none⟩)] rfl (by (try simp only [List.map_toArray, List.map_cons, List.map_nil]); first | done | rfl | (simp only [List.length_drop, List.length_take]; rfl)) ?_; (with_reducible refine (tithebarnref01_Cursor_Byte.calls g s0_0 s0_1 s0_2 t334 t335 t336 t337 w0 _ ?side1 ?side2 A4.out).mono ?_); (case side1 => repeat (first | (with_reducible first | exact HI0.out | apply IsS62.alloc | apply IsS62.drewN | apply IsS62.drew | apply IsS62.set_0 | apply IsS62.set_1 | apply IsS62.set_2) | exact HI0.out)); (case side2 => repeat (first | (with_reducible first | exact HB.out | apply below_alloc | apply pw_below_drewN | apply below_drew1 | refine below_set ?_ (IsS62.ge HI0.out)) | exact HB.out)); rintro e w60 ⟨rfl, hi, hb, hk⟩; refine ⟨_, rfl, ?_⟩; have n0_ := Aside0.mk (KeepBut.trans (by repeat (first | (with_reducible first | exact HK.out | apply KeepBut.set_ | apply keep_drewN | apply keep_drew | apply keep_alloc) | exact HK.out)) hk (.inl rfl)); have n1_ := Aside0.mk (hb); have n2_ := Aside0.mk (hi); clear HK; clear HB; clear HI0; have HK := n0_; have HB := n1_; have HI0 := n2_; clear n0_ n1_ n2_; (try clear hb); (try clear hb2); (try clear hk); (try clear hi); obtain ⟨HGz61, hgz61⟩ := HI0.out; have hcz61_0 := cellS62_0 HGz61; have hcz61_1 := cellS62_1 HGz61; have hcz61_2 := cellS62_2 HGz61; have hfz61_0 := blk_frozen HGz61 0; have hfz61_1 := blk_frozen HGz61 1; have hfz61_2 := blk_frozen HGz61 2; clear HGz61 hgz61))
    repeat (go_quiet (first | ((with_reducible refine gate_callee (f := 39) rfl ?_); refine goesL_ (some 17) rfl rfl Try.func39 (by kernel_rfl) rfl #[.pointer (some ⟨g, 0, none⟩)] rfl (by (try simp only [List.map_toArray, List.map_cons, List.map_nil]); first | done | rfl | (simp only [List.length_drop, List.length_take]; rfl)) ?_; (with_reducible refine (tithebarnref01_Cursor_Byte.calls g s0_0 s0_1 s0_2 t334 t335 t336 t337 w0 _ ?side1 ?side2 A4.out).mono ?_); (case side1 => repeat (first | (with_reducible first | exact HI0.out | apply IsS62.alloc | apply IsS62.drewN | apply IsS62.drew | apply IsS62.set_0 | apply IsS62.set_1 | apply IsS62.set_2) | exact HI0.out)); (case side2 => repeat (first | (with_reducible first | exact HB.out | apply below_alloc | apply pw_below_drewN | apply below_drew1 | refine below_set ?_ (IsS62.ge HI0.out)) | exact HB.out)); rintro e w60 ⟨rfl, hi, hb, hk⟩; refine ⟨_, rfl, ?_⟩; have n0_ := Aside0.mk (KeepBut.trans (by repeat (first | (with_reducible first | exact HK.out | apply KeepBut.set_ | apply keep_drewN | apply keep_drew | apply keep_alloc) | exact HK.out)) hk (.inl rfl)); have n1_ := Aside0.mk (hb); have n2_ := Aside0.mk (hi); clear HK; clear HB; clear HI0; have HK := n0_; have HB := n1_; have HI0 := n2_; clear n0_ n1_ n2_; (try clear hb); (try clear hb2); (try clear hk); (try clear hi); obtain ⟨HGz61, hgz61⟩ := HI0.out; have hcz61_0 := cellS62_0 HGz61; have hcz61_1 := cellS62_1 HGz61; have hcz61_2 := cellS62_2 HGz61; have hfz61_0 := blk_frozen HGz61 0; have hfz61_1 := blk_frozen HGz61 1; have hfz61_2 := blk_frozen HGz61 2; clear HGz61 hgz61)); try go_wp2_with (first | ((with_reducible refine gate_callee (f := 39) rfl ?_); refine goesL_ (some 17) rfl rfl Try.func39 (by kernel_rfl) rfl #[.pointer (some ⟨g, 0, none⟩)] rfl (by (try simp only [List.map_toArray, List.map_cons, List.map_nil]); first | done | rfl | (simp only [List.length_drop, List.length_take]; rfl)) ?_; (with_reducible refine (tithebarnref01_Cursor_Byte.calls g s0_0 s0_1 s0_2 t334 t335 t336 t337 w0 _ ?side1 ?side2 A4.out).mono ?_); (case side1 => repeat (first | (with_reducible first | exact HI0.out | apply IsS62.alloc | apply IsS62.drewN | apply IsS62.drew | apply IsS62.set_0 | apply IsS62.set_1 | apply IsS62.set_2) | exact HI0.out)); (case side2 => repeat (first | (with_reducible first | exact HB.out | apply below_alloc | apply pw_below_drewN | apply below_drew1 | refine below_set ?_ (IsS62.ge HI0.out)) | exact HB.out)); rintro e w60 ⟨rfl, hi, hb, hk⟩; refine ⟨_, rfl, ?_⟩; have n0_ := Aside0.mk (KeepBut.trans (by repeat (first | (with_reducible first | exact HK.out | apply KeepBut.set_ | apply keep_drewN | apply keep_drew | apply keep_alloc) | exact HK.out)) hk (.inl rfl)); have n1_ := Aside0.mk (hb); have n2_ := Aside0.mk (hi); clear HK; clear HB; clear HI0; have HK := n0_; have HB := n1_; have HI0 := n2_; clear n0_ n1_ n2_; (try clear hb); (try clear hb2); (try clear hk); (try clear hi); obtain ⟨HGz61, hgz61⟩ := HI0.out; have hcz61_0 := cellS62_0 HGz61; have hcz61_1 := cellS62_1 HGz61; have hcz61_2 := cellS62_2 HGz61; have hfz61_0 := blk_frozen HGz61 0; have hfz61_1 := blk_frozen HGz61 1; have hfz61_2 := blk_frozen HGz61 2; clear HGz61 hgz61)))
    go_ret2
    exact ⟨_, by first | rfl | (simp [errW_none, errW_some] <;> rfl) | (simp [*, errW_none, errW_some] <;> rfl), by first | exact Kd.R_nil _ _ _ _ _ | exact Kd.N_nil _ _ _ _ _ | exact Kd.V_nil _ _ _ _ _ | exact Kd.Q_nil _ _ _ _ _ | exact Kd.S_nil _ _ _ _ _, by repeat (first | (with_reducible first | exact HI0.out | apply IsS62.alloc | apply IsS62.drewN | apply IsS62.drew | apply IsS62.set_0 | apply IsS62.set_1 | apply IsS62.set_2) | exact HI0.out), by repeat (first | (with_reducible first | exact HB.out | apply below_alloc | apply pw_below_drewN | apply below_drew1 | refine below_set ?_ (IsS62.ge HI0.out)) | exact HB.out), by repeat (first | (with_reducible first | exact HK.out | apply KeepBut.set_ | apply keep_drewN | apply keep_drew | apply keep_alloc) | exact HK.out)⟩
end Go.Proofs.Ytimjafjicnlhfaa.A
