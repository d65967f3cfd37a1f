/- Words and walks that the print wrote for this claim: those that the claim leans on (wip/shake.py). -/
import Derived.Test.YtojcbknclfamhaaGreatDoorKpAx0
import Derived.Test.YtojcbknclfamhaaGreatDoorKpAx6
import Derived.Test.YtojcbknclfamhaaGreatDoorKpAx28
import Derived.Test.YtojcbknclfamhaaGreatDoorKpHNext
namespace Go.Proofs.YtojcbknclfamhaaGreatDoor.A
open Go.RowKit Go.Proofs.YtojcbknclfamhaaGreatDoorW.PrintWords Go.Proofs.YtojcbknclfamhaaGreatDoorW.PrintLast Go.Proofs.YtojcbknclfamhaaGreatDoorW.PrintMore
attribute [local go_sem] min2_int min_two
set_option linter.unusedVariables false
set_option linter.unusedSimpArgs false
def tally_Cursor_Uint.f (s0_0 : ByteArray) (s0_1 : Int) : Option (Int × ByteArray × Int) := (tally_Cursor_ok.f s0_0 s0_1).bind fun bt424 => (if bt424.1 = true then ((tally_next.f bt424.2.1).bind fun bt427 => (some (bt427.1, bt427.2.1, bt427.2.2))) else (some (0, bt424.2.1, bt424.2.2)))
set_option maxHeartbeats 8000000 in
set_option maxRecDepth 100000 in
theorem tally_Cursor_Uint.calls (g : Nat) (s0_0 : ByteArray) (s0_1 : Int) (r1 : Int) (r2 : ByteArray) (r3 : Int) (w0 w : World) (hI : IsS119 w0 w g s0_0 s0_1) (hB : Below w0.heap.size w0 w) (h : tally_Cursor_Uint.f s0_0 s0_1 = some (r1, r2, r3)) :
    Calls Tryz.prog 103 #[.pointer (some ⟨g, 0, none⟩)] w fun e w' => e = .returned (.int .u64 r1) ∧ IsS119 w0 w' g r2 r3 ∧ Below w0.heap.size w0 w' ∧ KeepBut w w' g none := by
  have HI0 := Aside0.mk hI
  have HK := Aside0.mk (KeepBut.refl w g none)
  have HL := Aside0.mk hB.size
  clear hI
  have HW0 := Aside0.mk hB.size
  have HB := Aside0.mk hB
  clear hB
  have H : ((tally_Cursor_ok.f s0_0 s0_1).bind fun bt424 => (if bt424.1 = true then ((tally_next.f bt424.2.1).bind fun bt427 => (some (bt427.1, bt427.2.1, bt427.2.2))) else (some (0, bt424.2.1, bt424.2.2)))) = some (r1, r2, r3) := h
  clear h
  replace H := Option.bind_eq_some_iff.mp H
  obtain ⟨⟨t424, t425, t426⟩, A20, H⟩ := H
  replace H : (if t424 = true then ((tally_next.f t425).bind fun bt427 => (some (bt427.1, bt427.2.1, bt427.2.2))) else (some (0, t425, t426))) = some (r1, r2, r3) := H
  have A2 := Aside0.mk A20
  clear A20
  by_cases c3 : t424 = true
  · subst c3
    have H1 : ((tally_next.f t425).bind fun bt427 => (some (bt427.1, bt427.2.1, bt427.2.2))) = some (r1, r2, r3) := by rw [if_pos rfl] at H; exact H
    clear H
    have H := H1
    clear H1
    replace H := Option.bind_eq_some_iff.mp H
    obtain ⟨⟨t427, t428, t429⟩, A40, H⟩ := H
    replace H : (some (t427, t428, t429)) = some (r1, r2, r3) := H
    have A4 := Aside0.mk A40
    clear A40
    simp only [Option.some.injEq, Prod.mk.injEq] at H
    obtain ⟨rfl, rfl, rfl⟩ := H
    go_enter Tryz.func103, Tryz.ntmps103
    go_wp2_with (first | ((with_reducible refine gate_callee (f := 77) rfl ?_); refine goesL_ (some 7) rfl rfl Tryz.func77 (by kernel_rfl) rfl #[.pointer (some ⟨g, 0, none⟩)] rfl (by (try simp only [List.map_toArray, List.map_cons, List.map_nil]); first | done | rfl | (simp only [List.length_drop, List.length_take]; rfl)) ?_; (with_reducible refine (tally_Cursor_ok.calls g s0_0 s0_1 true t425 t426 w0 _ ?side1 ?side2 A2.out).mono ?_); (case side1 => repeat (first | (with_reducible first | exact HI0.out | apply IsS119.alloc | apply IsS119.drewN | apply IsS119.drew | apply IsS119.set_0 | apply IsS119.set_1) | exact HI0.out)); (case side2 => repeat (first | (with_reducible first | exact HB.out | apply below_alloc | apply pw_below_drewN | apply below_drew1 | refine below_set ?_ (IsS119.ge HI0.out)) | exact HB.out)); rintro e w5 ⟨rfl, hi, hb, hk⟩; refine ⟨_, rfl, ?_⟩; have n0_ := Aside0.mk (KeepBut.trans (by repeat (first | (with_reducible first | exact HK.out | apply KeepBut.set_ | apply keep_drewN | apply keep_drew | apply keep_alloc) | exact HK.out)) hk (.inl rfl)); have n1_ := Aside0.mk (hb); have n2_ := Aside0.mk (hi); clear HK; clear HB; clear HI0; have HK := n0_; have HB := n1_; have HI0 := n2_; clear n0_ n1_ n2_; (try clear hb); (try clear hb2); (try clear hk); (try clear hi); obtain ⟨HGz6, hgz6⟩ := HI0.out; have hcz6_0 := cellS119_0 HGz6; have hcz6_1 := cellS119_1 HGz6; have hfz6_0 := blk_frozen HGz6 0; have hfz6_1 := blk_frozen HGz6 1; clear HGz6 hgz6) | ((with_reducible refine gate_callee (f := 104) rfl ?_); refine goesL_ (some 14) rfl rfl Tryz.func104 (by kernel_rfl) rfl #[.string t425] rfl (by (try simp only [List.map_toArray, List.map_cons, List.map_nil]); first | done | rfl | (simp only [List.length_drop, List.length_take]; rfl)) ?_; (with_reducible refine (tally_next.calls t425 t427 t428 t429 _ A4.out).mono ?_); rintro e w7 ⟨rfl, hb⟩; refine ⟨_, rfl, ?_⟩; have n0_ := Aside0.mk (IsS119.below (by repeat (first | (with_reducible first | exact HI0.out | apply IsS119.alloc | apply IsS119.drewN | apply IsS119.drew | apply IsS119.set_0 | apply IsS119.set_1) | exact HI0.out)) hb); have n1_ := Aside0.mk (KeepBut.trans (by repeat (first | (with_reducible first | exact HK.out | apply KeepBut.set_ | apply keep_drewN | apply keep_drew | apply keep_alloc) | exact HK.out)) (KeepBut.of_below hb g none) (.inl rfl)); have n2_ := Aside0.mk (below_step (by repeat (first | (with_reducible first | exact HB.out | apply below_alloc | apply pw_below_drewN | apply below_drew1 | refine below_set ?_ (IsS119.ge HI0.out)) | exact HB.out)) hb); clear HI0; clear HK; clear HB; have HI0 := n0_; have HK := n1_; have HB := n2_; clear n0_ n1_ n2_; (try clear hb); (try clear hb2); (try clear hk); (try clear hi); obtain ⟨HGz8, hgz8⟩ := HI0.out; have hcz8_0 := cellS119_0 HGz8; have hcz8_1 := cellS119_1 HGz8; have hfz8_0 := blk_frozen HGz8 0; have hfz8_1 := blk_frozen HGz8 1; clear HGz8 hgz8))
    go_ret
    exact ⟨by first | rfl | (simp [errW_none, errW_some] <;> rfl) | (simp [*, errW_none, errW_some] <;> rfl), by repeat (first | (with_reducible first | exact HI0.out | apply IsS119.alloc | apply IsS119.drewN | apply IsS119.drew | apply IsS119.set_0 | apply IsS119.set_1) | exact HI0.out), by repeat (first | (with_reducible first | exact HB.out | apply below_alloc | apply pw_below_drewN | apply below_drew1 | refine below_set ?_ (IsS119.ge HI0.out)) | exact HB.out), by repeat (first | (with_reducible first | exact HK.out | apply KeepBut.set_ | apply keep_drewN | apply keep_drew | apply keep_alloc) | exact HK.out)⟩
  · replace c3 := Bool.eq_false_iff.mpr c3
    subst c3
    have H1 : (some (0, t425, t426)) = some (r1, r2, r3) := by rw [if_neg (show ¬ (false = true) by decide)] at H; exact H
    clear H
    have H := H1
    clear H1
    simp only [Option.some.injEq, Prod.mk.injEq] at H
    obtain ⟨rfl, rfl, rfl⟩ := H
    go_enter Tryz.func103, Tryz.ntmps103
    go_wp2_with (first | ((with_reducible refine gate_callee (f := 77) rfl ?_); refine goesL_ (some 7) rfl rfl Tryz.func77 (by kernel_rfl) rfl #[.pointer (some ⟨g, 0, none⟩)] rfl (by (try simp only [List.map_toArray, List.map_cons, List.map_nil]); first | done | rfl | (simp only [List.length_drop, List.length_take]; rfl)) ?_; (with_reducible refine (tally_Cursor_ok.calls g s0_0 s0_1 false t425 t426 w0 _ ?side1 ?side2 A2.out).mono ?_); (case side1 => repeat (first | (with_reducible first | exact HI0.out | apply IsS119.alloc | apply IsS119.drewN | apply IsS119.drew | apply IsS119.set_0 | apply IsS119.set_1) | exact HI0.out)); (case side2 => repeat (first | (with_reducible first | exact HB.out | apply below_alloc | apply pw_below_drewN | apply below_drew1 | refine below_set ?_ (IsS119.ge HI0.out)) | exact HB.out)); rintro e w9 ⟨rfl, hi, hb, hk⟩; refine ⟨_, rfl, ?_⟩; have n0_ := Aside0.mk (KeepBut.trans (by repeat (first | (with_reducible first | exact HK.out | apply KeepBut.set_ | apply keep_drewN | apply keep_drew | apply keep_alloc) | exact HK.out)) hk (.inl rfl)); have n1_ := Aside0.mk (hb); have n2_ := Aside0.mk (hi); clear HK; clear HB; clear HI0; have HK := n0_; have HB := n1_; have HI0 := n2_; clear n0_ n1_ n2_; (try clear hb); (try clear hb2); (try clear hk); (try clear hi)))
    go_ret
    exact ⟨by first | rfl | (simp [errW_none, errW_some] <;> rfl) | (simp [*, errW_none, errW_some] <;> rfl), by repeat (first | (with_reducible first | exact HI0.out | apply IsS119.alloc | apply IsS119.drewN | apply IsS119.drew | apply IsS119.set_0 | apply IsS119.set_1) | exact HI0.out), by repeat (first | (with_reducible first | exact HB.out | apply below_alloc | apply pw_below_drewN | apply below_drew1 | refine below_set ?_ (IsS119.ge HI0.out)) | exact HB.out), by repeat (first | (with_reducible first | exact HK.out | apply KeepBut.set_ | apply keep_drewN | apply keep_drew | apply keep_alloc) | exact HK.out)⟩
def tally_Cursor_Int.f (s0_0 : ByteArray) (s0_1 : Int) : Option (Int × ByteArray × Int) := (tally_Cursor_Uint.f s0_0 s0_1).bind fun bt430 => (some (Go.bits .xor .i64 (wrap64 (bt430.1 / 2)) (wrap64 (-(wrap64 (Go.bits .and .u64 bt430.1 1)))), bt430.2.1, bt430.2.2))
set_option maxHeartbeats 8000000 in
set_option maxRecDepth 100000 in
theorem tally_Cursor_Int.calls (g : Nat) (s0_0 : ByteArray) (s0_1 : Int) (r1 : Int) (r2 : ByteArray) (r3 : Int) (w0 w : World) (hI : IsS119 w0 w g s0_0 s0_1) (hB : Below w0.heap.size w0 w) (h : tally_Cursor_Int.f s0_0 s0_1 = some (r1, r2, r3)) :
    Calls Tryz.prog 75 #[.pointer (some ⟨g, 0, none⟩)] w fun e w' => e = .returned (.int .i64 r1) ∧ IsS119 w0 w' g r2 r3 ∧ Below w0.heap.size w0 w' ∧ KeepBut w w' g none := by
  have HI0 := Aside0.mk hI
  have HK := Aside0.mk (KeepBut.refl w g none)
  have HL := Aside0.mk hB.size
  clear hI
  have HW0 := Aside0.mk hB.size
  have HB := Aside0.mk hB
  clear hB
  have H : ((tally_Cursor_Uint.f s0_0 s0_1).bind fun bt430 => (some (Go.bits .xor .i64 (wrap64 (bt430.1 / 2)) (wrap64 (-(wrap64 (Go.bits .and .u64 bt430.1 1)))), bt430.2.1, bt430.2.2))) = some (r1, r2, r3) := h
  clear h
  replace H := Option.bind_eq_some_iff.mp H
  obtain ⟨⟨t430, t431, t432⟩, A20, H⟩ := H
  replace H : (some (Go.bits .xor .i64 (wrap64 (t430 / 2)) (wrap64 (-(wrap64 (Go.bits .and .u64 t430 1)))), t431, t432)) = some (r1, r2, r3) := H
  have A2 := Aside0.mk A20
  clear A20
  simp only [Option.some.injEq, Prod.mk.injEq] at H
  obtain ⟨rfl, rfl, rfl⟩ := H
  go_enter Tryz.func75, Tryz.ntmps75
  go_wp2_with (first | ((with_reducible refine gate_callee (f := 103) rfl ?_); refine goesL_ (some 5) rfl rfl Tryz.func103 (by kernel_rfl) rfl #[.pointer (some ⟨g, 0, none⟩)] rfl (by (try simp only [List.map_toArray, List.map_cons, List.map_nil]); first | done | rfl | (simp only [List.length_drop, List.length_take]; rfl)) ?_; (with_reducible refine (tally_Cursor_Uint.calls g s0_0 s0_1 t430 t431 t432 w0 _ ?side1 ?side2 A2.out).mono ?_); (case side1 => repeat (first | (with_reducible first | exact HI0.out | apply IsS119.alloc | apply IsS119.drewN | apply IsS119.drew | apply IsS119.set_0 | apply IsS119.set_1) | exact HI0.out)); (case side2 => repeat (first | (with_reducible first | exact HB.out | apply below_alloc | apply pw_below_drewN | apply below_drew1 | refine below_set ?_ (IsS119.ge HI0.out)) | exact HB.out)); rintro e w3 ⟨rfl, hi, hb, hk⟩; refine ⟨_, rfl, ?_⟩; have n0_ := Aside0.mk (KeepBut.trans (by repeat (first | (with_reducible first | exact HK.out | apply KeepBut.set_ | apply keep_drewN | apply keep_drew | apply keep_alloc) | exact HK.out)) hk (.inl rfl)); have n1_ := Aside0.mk (hb); have n2_ := Aside0.mk (hi); clear HK; clear HB; clear HI0; have HK := n0_; have HB := n1_; have HI0 := n2_; clear n0_ n1_ n2_; (try clear hb); (try clear hb2); (try clear hk); (try clear hi)))
  go_ret
  exact ⟨by first | rfl | (simp [errW_none, errW_some] <;> rfl) | (simp [*, errW_none, errW_some] <;> rfl), by repeat (first | (with_reducible first | exact HI0.out | apply IsS119.alloc | apply IsS119.drewN | apply IsS119.drew | apply IsS119.set_0 | apply IsS119.set_1) | exact HI0.out), by repeat (first | (with_reducible first | exact HB.out | apply below_alloc | apply pw_below_drewN | apply below_drew1 | refine below_set ?_ (IsS119.ge HI0.out)) | exact HB.out), by repeat (first | (with_reducible first | exact HK.out | apply KeepBut.set_ | apply keep_drewN | apply keep_drew | apply keep_alloc) | exact HK.out)⟩
def tally_Cursor_Text.j0 : Nat → Int → ByteArray → Bool → ByteArray → Int → Option (ByteArray × ByteArray × Int)
  | 0, _, _, _, _, _ => none
  | k + 1, x5, x6, x36, x1000, x1001 => if x36 = true then (some ((⟨#[]⟩ : ByteArray), x1000, 3)) else (if (IntKind.u64.wrap ((x6.size : Int))) < x5 then (some ((⟨#[]⟩ : ByteArray), x1000, 2)) else (if 0 ≤ x5 then (if x5 ≤ (x6.size : Int) then (some (x6.extract 0 (x5 : Int).toNat, x6.extract (x5 : Int).toNat x6.size, x1001)) else (none)) else (none)))
def tally_Cursor_Text.f (k : Nat) (s0_0 : ByteArray) (s0_1 : Int) (a1 : Int) : Option (ByteArray × ByteArray × Int) := (tally_Cursor_ok.f s0_0 s0_1).bind fun bt433 => (if bt433.1 = true then ((tally_next.f bt433.2.1).bind fun bt436 => (if bt436.2.2 = 0 then (if a1 < 0 then (tally_Cursor_Text.j0 k bt436.1 bt436.2.1 true bt433.2.1 bt433.2.2) else (tally_Cursor_Text.j0 k bt436.1 bt436.2.1 (decide (bt436.1 > (IntKind.u64.wrap (a1)))) bt433.2.1 bt433.2.2)) else (some ((⟨#[]⟩ : ByteArray), bt433.2.1, bt436.2.2)))) else (some ((⟨#[]⟩ : ByteArray), bt433.2.1, bt433.2.2)))
set_option maxHeartbeats 8000000 in
set_option maxRecDepth 100000 in
theorem tally_Cursor_Text.calls (k : Nat) (g : Nat) (s0_0 : ByteArray) (s0_1 : Int) (a1 : Int) (r1 : ByteArray) (r2 : ByteArray) (r3 : Int) (w0 w : World) (hI : IsS119 w0 w g s0_0 s0_1) (hB : Below w0.heap.size w0 w) (h : tally_Cursor_Text.f k s0_0 s0_1 a1 = some (r1, r2, r3)) :
    Calls Tryz.prog 76 #[.pointer (some ⟨g, 0, none⟩), .int .i64 a1] w fun e w' => e = .returned (.string r1) ∧ IsS119 w0 w' g r2 r3 ∧ Below w0.heap.size w0 w' ∧ KeepBut w w' g none := by
  have HI0 := Aside0.mk hI
  have HK := Aside0.mk (KeepBut.refl w g none)
  have HL := Aside0.mk hB.size
  clear hI
  have HW0 := Aside0.mk hB.size
  have HB := Aside0.mk hB
  clear hB
  have H : ((tally_Cursor_ok.f s0_0 s0_1).bind fun bt433 => (if bt433.1 = true then ((tally_next.f bt433.2.1).bind fun bt436 => (if bt436.2.2 = 0 then (if a1 < 0 then (tally_Cursor_Text.j0 k bt436.1 bt436.2.1 true bt433.2.1 bt433.2.2) else (tally_Cursor_Text.j0 k bt436.1 bt436.2.1 (decide (bt436.1 > (IntKind.u64.wrap (a1)))) bt433.2.1 bt433.2.2)) else (some ((⟨#[]⟩ : ByteArray), bt433.2.1, bt436.2.2)))) else (some ((⟨#[]⟩ : ByteArray), bt433.2.1, bt433.2.2)))) = some (r1, r2, r3) := h
  clear h
  replace H := Option.bind_eq_some_iff.mp H
  obtain ⟨⟨t433, t434, t435⟩, A30, H⟩ := H
  replace H : (if t433 = true then ((tally_next.f t434).bind fun bt436 => (if bt436.2.2 = 0 then (if a1 < 0 then (tally_Cursor_Text.j0 k bt436.1 bt436.2.1 true t434 t435) else (tally_Cursor_Text.j0 k bt436.1 bt436.2.1 (decide (bt436.1 > (IntKind.u64.wrap (a1)))) t434 t435)) else (some ((⟨#[]⟩ : ByteArray), t434, bt436.2.2)))) else (some ((⟨#[]⟩ : ByteArray), t434, t435))) = some (r1, r2, r3) := H
  have A3 := Aside0.mk A30
  clear A30
  by_cases c4 : t433 = true
  · subst c4
    have H1 : ((tally_next.f t434).bind fun bt436 => (if bt436.2.2 = 0 then (if a1 < 0 then (tally_Cursor_Text.j0 k bt436.1 bt436.2.1 true t434 t435) else (tally_Cursor_Text.j0 k bt436.1 bt436.2.1 (decide (bt436.1 > (IntKind.u64.wrap (a1)))) t434 t435)) else (some ((⟨#[]⟩ : ByteArray), t434, bt436.2.2)))) = some (r1, r2, r3) := by rw [if_pos rfl] at H; exact H
    clear H
    have H := H1
    clear H1
    replace H := Option.bind_eq_some_iff.mp H
    obtain ⟨⟨t436, t437, t438⟩, A50, H⟩ := H
    replace H : (if t438 = 0 then (if a1 < 0 then (tally_Cursor_Text.j0 k t436 t437 true t434 t435) else (tally_Cursor_Text.j0 k t436 t437 (decide (t436 > (IntKind.u64.wrap (a1)))) t434 t435)) else (some ((⟨#[]⟩ : ByteArray), t434, t438))) = some (r1, r2, r3) := H
    have A5 := Aside0.mk A50
    clear A50
    by_cases c6 : t438 = 0
    · rw [if_pos c6] at H
      have c6b0 : (t438 == 0) = true := beq_iff_eq.mpr c6
      have c6b1 : (t438 != 0) = false := bne_eq_false_iff_eq.mpr c6
      clear c6
      have HC7 := Aside0.mk H
      clear H
      go_enter Tryz.func76, Tryz.ntmps76
      go_upto_region 8 with (first | ((with_reducible refine gate_callee (f := 77) rfl ?_); refine goesL_ (some 9) rfl rfl Tryz.func77 (by kernel_rfl) rfl #[.pointer (some ⟨g, 0, none⟩)] rfl (by (try simp only [List.map_toArray, List.map_cons, List.map_nil]); first | done | rfl | (simp only [List.length_drop, List.length_take]; rfl)) ?_; (with_reducible refine (tally_Cursor_ok.calls g s0_0 s0_1 true t434 t435 w0 _ ?side1 ?side2 A3.out).mono ?_); (case side1 => repeat (first | (with_reducible first | exact HI0.out | apply IsS119.alloc | apply IsS119.drewN | apply IsS119.drew | apply IsS119.set_0 | apply IsS119.set_1) | exact HI0.out)); (case side2 => repeat (first | (with_reducible first | exact HB.out | apply below_alloc | apply pw_below_drewN | apply below_drew1 | refine below_set ?_ (IsS119.ge HI0.out)) | exact HB.out)); rintro e w8 ⟨rfl, hi, hb, hk⟩; refine ⟨_, rfl, ?_⟩; have n0_ := Aside0.mk (KeepBut.trans (by repeat (first | (with_reducible first | exact HK.out | apply KeepBut.set_ | apply keep_drewN | apply keep_drew | apply keep_alloc) | exact HK.out)) hk (.inl rfl)); have n1_ := Aside0.mk (hb); have n2_ := Aside0.mk (hi); clear HK; clear HB; clear HI0; have HK := n0_; have HB := n1_; have HI0 := n2_; clear n0_ n1_ n2_; (try clear hb); (try clear hb2); (try clear hk); (try clear hi); obtain ⟨HGz9, hgz9⟩ := HI0.out; have hcz9_0 := cellS119_0 HGz9; have hcz9_1 := cellS119_1 HGz9; have hfz9_0 := blk_frozen HGz9 0; have hfz9_1 := blk_frozen HGz9 1; clear HGz9 hgz9) | ((with_reducible refine gate_callee (f := 104) rfl ?_); refine goesL_ (some 16) rfl rfl Tryz.func104 (by kernel_rfl) rfl #[.string t434] rfl (by (try simp only [List.map_toArray, List.map_cons, List.map_nil]); first | done | rfl | (simp only [List.length_drop, List.length_take]; rfl)) ?_; (with_reducible refine (tally_next.calls t434 t436 t437 t438 _ A5.out).mono ?_); rintro e w10 ⟨rfl, hb⟩; refine ⟨_, rfl, ?_⟩; have n0_ := Aside0.mk (IsS119.below (by repeat (first | (with_reducible first | exact HI0.out | apply IsS119.alloc | apply IsS119.drewN | apply IsS119.drew | apply IsS119.set_0 | apply IsS119.set_1) | exact HI0.out)) hb); have n1_ := Aside0.mk (KeepBut.trans (by repeat (first | (with_reducible first | exact HK.out | apply KeepBut.set_ | apply keep_drewN | apply keep_drew | apply keep_alloc) | exact HK.out)) (KeepBut.of_below hb g none) (.inl rfl)); have n2_ := Aside0.mk (below_step (by repeat (first | (with_reducible first | exact HB.out | apply below_alloc | apply pw_below_drewN | apply below_drew1 | refine below_set ?_ (IsS119.ge HI0.out)) | exact HB.out)) hb); clear HI0; clear HK; clear HB; have HI0 := n0_; have HK := n1_; have HB := n2_; clear n0_ n1_ n2_; (try clear hb); (try clear hb2); (try clear hk); (try clear hi)))
      (try simp only [Act.put, List.setIfInBounds_toArray, List.set_cons_zero, List.set_cons_succ])
      go_cut [36] (fun v36 wc => ∃ (kq : Nat) (x36_6 : Bool), v36 = .bool x36_6 ∧ Aside0 (tally_Cursor_Text.j0 kq t436 t437 x36_6 t434 t435 = some (r1, r2, r3)) ∧ Aside0 (kq ≤ k) ∧ Aside0 (IsS119 w0 wc g t434 t435) ∧ Aside0 (KeepBut w wc g none) ∧ Aside0 (Below w0.heap.size w0 wc))
      case first =>
        have H := HC7.out
        clear HC7
        by_cases c11 : a1 < 0
        · rw [if_pos c11] at H
          have c11b0 : decide (a1 < 0) = true := decide_eq_true c11
          clear c11
          (first | rw [c11b0] | (simp only [i64_w, i32_w]; rw [c11b0]) | skip)
          have H' := Aside0.mk H
          clear H
          go_wp2
          go_meet
          case rel => exact ⟨_, (true), (by first | rfl | (simp; done) | (simp [*]; done)), H', ⟨by first | omega | exact Nat.le_refl _⟩, ⟨by repeat (first | (with_reducible first | exact HI0.out | apply IsS119.alloc | apply IsS119.drewN | apply IsS119.drew | apply IsS119.set_0 | apply IsS119.set_1) | exact HI0.out)⟩, ⟨by repeat (first | (with_reducible first | exact HK.out | apply KeepBut.set_ | apply keep_drewN | apply keep_drew | apply keep_alloc) | exact HK.out)⟩, ⟨by repeat (first | (with_reducible first | exact HB.out | apply below_alloc | apply pw_below_drewN | apply below_drew1 | refine below_set ?_ (IsS119.ge HI0.out)) | exact HB.out)⟩⟩
        · rw [if_neg c11] at H
          have c11b0 : decide (a1 < 0) = false := decide_eq_false c11
          clear c11
          (first | rw [c11b0] | (simp only [i64_w, i32_w]; rw [c11b0]) | skip)
          have H' := Aside0.mk H
          clear H
          go_wp2
          go_meet
          case rel => exact ⟨_, (decide (t436 > (IntKind.u64.wrap (a1)))), (by first | rfl | (simp; done) | (simp [*]; done)), H', ⟨by first | omega | exact Nat.le_refl _⟩, ⟨by repeat (first | (with_reducible first | exact HI0.out | apply IsS119.alloc | apply IsS119.drewN | apply IsS119.drew | apply IsS119.set_0 | apply IsS119.set_1) | exact HI0.out)⟩, ⟨by repeat (first | (with_reducible first | exact HK.out | apply KeepBut.set_ | apply keep_drewN | apply keep_drew | apply keep_alloc) | exact HK.out)⟩, ⟨by repeat (first | (with_reducible first | exact HB.out | apply below_alloc | apply pw_below_drewN | apply below_drew1 | refine below_set ?_ (IsS119.ge HI0.out)) | exact HB.out)⟩⟩
      case rest =>
        clear HC7
        try clear c1
        try clear p2
        try clear c4
        try clear c6
        try clear c6b0
        try clear c6b1
        try clear c7
        try clear c10
        try clear c11
        try clear c11b0
        try clear hcz9_0
        try clear hcz9_1
        try clear hfz9_0
        try clear hfz9_1
        obtain ⟨kq, x36_6, rfl, HA, HJ6, HI0, HK, HB⟩ := hcut
        cases kq with
        | zero => exact absurd HA.out (by simp [tally_Cursor_Text.j0])
        | succ kj6 =>
          have H := HA.out
          clear HA
          simp only [tally_Cursor_Text.j0] at H
          by_cases c12 : x36_6 = true
          · subst c12
            have H1 : (some ((⟨#[]⟩ : ByteArray), t434, 3)) = some (r1, r2, r3) := by rw [if_pos rfl] at H; exact H
            clear H
            have H := H1
            clear H1
            simp only [Option.some.injEq, Prod.mk.injEq] at H
            obtain ⟨rfl, rfl, rfl⟩ := H
            obtain ⟨HGz13, hgz13⟩ := HI0.out
            have hcz13_0 := cellS119_0 HGz13
            have hcz13_1 := cellS119_1 HGz13
            have hfz13_0 := blk_frozen HGz13 0
            have hfz13_1 := blk_frozen HGz13 1
            clear HGz13 hgz13
            go_wp2
            go_ret
            exact ⟨by first | rfl | (simp [errW_none, errW_some] <;> rfl) | (simp [*, errW_none, errW_some] <;> rfl), by repeat (first | (with_reducible first | exact HI0.out | apply IsS119.alloc | apply IsS119.drewN | apply IsS119.drew | apply IsS119.set_0 | apply IsS119.set_1) | exact HI0.out), by repeat (first | (with_reducible first | exact HB.out | apply below_alloc | apply pw_below_drewN | apply below_drew1 | refine below_set ?_ (IsS119.ge HI0.out)) | exact HB.out), by repeat (first | (with_reducible first | exact HK.out | apply KeepBut.set_ | apply keep_drewN | apply keep_drew | apply keep_alloc) | exact HK.out)⟩
          · replace c12 := Bool.eq_false_iff.mpr c12
            subst c12
            have H1 : (if (IntKind.u64.wrap ((t437.size : Int))) < t436 then (some ((⟨#[]⟩ : ByteArray), t434, 2)) else (if 0 ≤ t436 then (if t436 ≤ (t437.size : Int) then (some (t437.extract 0 (t436 : Int).toNat, t437.extract (t436 : Int).toNat t437.size, t435)) else (none)) else (none))) = some (r1, r2, r3) := by rw [if_neg (show ¬ (false = true) by decide)] at H; exact H
            clear H
            have H := H1
            clear H1
            by_cases c14 : (IntKind.u64.wrap ((t437.size : Int))) < t436
            · rw [if_pos c14] at H
              have c14b0 : decide ((IntKind.u64.wrap ((t437.size : Int))) < t436) = true := decide_eq_true c14
              clear c14
              simp only [Option.some.injEq, Prod.mk.injEq] at H
              obtain ⟨rfl, rfl, rfl⟩ := H
              obtain ⟨HGz15, hgz15⟩ := HI0.out
              have hcz15_0 := cellS119_0 HGz15
              have hcz15_1 := cellS119_1 HGz15
              have hfz15_0 := blk_frozen HGz15 0
              have hfz15_1 := blk_frozen HGz15 1
              clear HGz15 hgz15
              go_wp2
              go_ret
              exact ⟨by first | rfl | (simp [errW_none, errW_some] <;> rfl) | (simp [*, errW_none, errW_some] <;> rfl), by repeat (first | (with_reducible first | exact HI0.out | apply IsS119.alloc | apply IsS119.drewN | apply IsS119.drew | apply IsS119.set_0 | apply IsS119.set_1) | exact HI0.out), by repeat (first | (with_reducible first | exact HB.out | apply below_alloc | apply pw_below_drewN | apply below_drew1 | refine below_set ?_ (IsS119.ge HI0.out)) | exact HB.out), by repeat (first | (with_reducible first | exact HK.out | apply KeepBut.set_ | apply keep_drewN | apply keep_drew | apply keep_alloc) | exact HK.out)⟩
            · rw [if_neg c14] at H
              have c14b0 : decide ((IntKind.u64.wrap ((t437.size : Int))) < t436) = false := decide_eq_false c14
              clear c14
              by_cases c16 : 0 ≤ t436
              · rw [if_pos c16] at H
                have c16b0 := eq_true c16
                have c16b1 : decide (0 ≤ t436) = true := decide_eq_true c16
                clear c16
                by_cases c17 : t436 ≤ (t437.size : Int)
                · rw [if_pos c17] at H
                  have c17b0 := eq_true c17
                  have c17b1 : decide (t436 ≤ (t437.size : Int)) = true := decide_eq_true c17
                  clear c17
                  have c18b0 := eq_true (of_decide_eq_true (by first | (with_reducible assumption) | assumption) : 0 ≤ t436)
                  have c19b0 := eq_true (of_decide_eq_true (by first | (with_reducible assumption) | assumption) : t436 ≤ (t437.size : Int))
                  simp only [Option.some.injEq, Prod.mk.injEq] at H
                  obtain ⟨rfl, rfl, rfl⟩ := H
                  obtain ⟨HGz20, hgz20⟩ := HI0.out
                  have hcz20_0 := cellS119_0 HGz20
                  have hcz20_1 := cellS119_1 HGz20
                  have hfz20_0 := blk_frozen HGz20 0
                  have hfz20_1 := blk_frozen HGz20 1
                  clear HGz20 hgz20
                  go_wp2
                  go_ret
                  exact ⟨by first | rfl | (simp [errW_none, errW_some] <;> rfl) | (simp [*, errW_none, errW_some] <;> rfl), by repeat (first | (with_reducible first | exact HI0.out | apply IsS119.alloc | apply IsS119.drewN | apply IsS119.drew | apply IsS119.set_0 | apply IsS119.set_1) | exact HI0.out), by repeat (first | (with_reducible first | exact HB.out | apply below_alloc | apply pw_below_drewN | apply below_drew1 | refine below_set ?_ (IsS119.ge HI0.out)) | exact HB.out), by repeat (first | (with_reducible first | exact HK.out | apply KeepBut.set_ | apply keep_drewN | apply keep_drew | apply keep_alloc) | exact HK.out)⟩
                · rw [if_neg c17] at H
                  exact absurd H (by simp)
              · rw [if_neg c16] at H
                exact absurd H (by simp)
    · rw [if_neg c6] at H
      have c6b0 : (t438 == 0) = false := beq_eq_false_iff_ne.mpr c6
      have c6b1 : (t438 != 0) = true := bne_iff_ne.mpr c6
      simp only [Option.some.injEq, Prod.mk.injEq] at H
      obtain ⟨rfl, rfl, rfl⟩ := H
      go_enter Tryz.func76, Tryz.ntmps76
      go_wp2_with (first | ((with_reducible refine gate_callee (f := 77) rfl ?_); refine goesL_ (some 9) rfl rfl Tryz.func77 (by kernel_rfl) rfl #[.pointer (some ⟨g, 0, none⟩)] rfl (by (try simp only [List.map_toArray, List.map_cons, List.map_nil]); first | done | rfl | (simp only [List.length_drop, List.length_take]; rfl)) ?_; (with_reducible refine (tally_Cursor_ok.calls g s0_0 s0_1 true t434 t435 w0 _ ?side1 ?side2 A3.out).mono ?_); (case side1 => repeat (first | (with_reducible first | exact HI0.out | apply IsS119.alloc | apply IsS119.drewN | apply IsS119.drew | apply IsS119.set_0 | apply IsS119.set_1) | exact HI0.out)); (case side2 => repeat (first | (with_reducible first | exact HB.out | apply below_alloc | apply pw_below_drewN | apply below_drew1 | refine below_set ?_ (IsS119.ge HI0.out)) | exact HB.out)); rintro e w21 ⟨rfl, hi, hb, hk⟩; refine ⟨_, rfl, ?_⟩; have n0_ := Aside0.mk (KeepBut.trans (by repeat (first | (with_reducible first | exact HK.out | apply KeepBut.set_ | apply keep_drewN | apply keep_drew | apply keep_alloc) | exact HK.out)) hk (.inl rfl)); have n1_ := Aside0.mk (hb); have n2_ := Aside0.mk (hi); clear HK; clear HB; clear HI0; have HK := n0_; have HB := n1_; have HI0 := n2_; clear n0_ n1_ n2_; (try clear hb); (try clear hb2); (try clear hk); (try clear hi); obtain ⟨HGz22, hgz22⟩ := HI0.out; have hcz22_0 := cellS119_0 HGz22; have hcz22_1 := cellS119_1 HGz22; have hfz22_0 := blk_frozen HGz22 0; have hfz22_1 := blk_frozen HGz22 1; clear HGz22 hgz22) | ((with_reducible refine gate_callee (f := 104) rfl ?_); refine goesL_ (some 16) rfl rfl Tryz.func104 (by kernel_rfl) rfl #[.string t434] rfl (by (try simp only [List.map_toArray, List.map_cons, List.map_nil]); first | done | rfl | (simp only [List.length_drop, List.length_take]; rfl)) ?_; (with_reducible refine (tally_next.calls t434 t436 t437 t438 _ A5.out).mono ?_); rintro e w23 ⟨rfl, hb⟩; refine ⟨_, rfl, ?_⟩; have n0_ := Aside0.mk (IsS119.below (by repeat (first | (with_reducible first | exact HI0.out | apply IsS119.alloc | apply IsS119.drewN | apply IsS119.drew | apply IsS119.set_0 | apply IsS119.set_1) | exact HI0.out)) hb); have n1_ := Aside0.mk (KeepBut.trans (by repeat (first | (with_reducible first | exact HK.out | apply KeepBut.set_ | apply keep_drewN | apply keep_drew | apply keep_alloc) | exact HK.out)) (KeepBut.of_below hb g none) (.inl rfl)); have n2_ := Aside0.mk (below_step (by repeat (first | (with_reducible first | exact HB.out | apply below_alloc | apply pw_below_drewN | apply below_drew1 | refine below_set ?_ (IsS119.ge HI0.out)) | exact HB.out)) hb); clear HI0; clear HK; clear HB; have HI0 := n0_; have HK := n1_; have HB := n2_; clear n0_ n1_ n2_; (try clear hb); (try clear hb2); (try clear hk); (try clear hi); obtain ⟨HGz24, hgz24⟩ := HI0.out; have hcz24_0 := cellS119_0 HGz24; have hcz24_1 := cellS119_1 HGz24; have hfz24_0 := blk_frozen HGz24 0; have hfz24_1 := blk_frozen HGz24 1; clear HGz24 hgz24))
      go_ret
      exact ⟨by first | rfl | (simp [errW_none, errW_some] <;> rfl) | (simp [*, errW_none, errW_some] <;> rfl), by repeat (first | (with_reducible first | exact HI0.out | apply IsS119.alloc | apply IsS119.drewN | apply IsS119.drew | apply IsS119.set_0 | apply IsS119.set_1) | exact HI0.out), by repeat (first | (with_reducible first | exact HB.out | apply below_alloc | apply pw_below_drewN | apply below_drew1 | refine below_set ?_ (IsS119.ge HI0.out)) | exact HB.out), by repeat (first | (with_reducible first | exact HK.out | apply KeepBut.set_ | apply keep_drewN | apply keep_drew | apply keep_alloc) | exact HK.out)⟩
  · replace c4 := Bool.eq_false_iff.mpr c4
    subst c4
    have H1 : (some ((⟨#[]⟩ : ByteArray), t434, t435)) = some (r1, r2, r3) := by rw [if_neg (show ¬ (false = true) by decide)] at H; exact H
    clear H
    have H := H1
    clear H1
    simp only [Option.some.injEq, Prod.mk.injEq] at H
    obtain ⟨rfl, rfl, rfl⟩ := H
    go_enter Tryz.func76, Tryz.ntmps76
    go_wp2_with (first | ((with_reducible refine gate_callee (f := 77) rfl ?_); refine goesL_ (some 9) rfl rfl Tryz.func77 (by kernel_rfl) rfl #[.pointer (some ⟨g, 0, none⟩)] rfl (by (try simp only [List.map_toArray, List.map_cons, List.map_nil]); first | done | rfl | (simp only [List.length_drop, List.length_take]; rfl)) ?_; (with_reducible refine (tally_Cursor_ok.calls g s0_0 s0_1 false t434 t435 w0 _ ?side1 ?side2 A3.out).mono ?_); (case side1 => repeat (first | (with_reducible first | exact HI0.out | apply IsS119.alloc | apply IsS119.drewN | apply IsS119.drew | apply IsS119.set_0 | apply IsS119.set_1) | exact HI0.out)); (case side2 => repeat (first | (with_reducible first | exact HB.out | apply below_alloc | apply pw_below_drewN | apply below_drew1 | refine below_set ?_ (IsS119.ge HI0.out)) | exact HB.out)); rintro e w25 ⟨rfl, hi, hb, hk⟩; refine ⟨_, rfl, ?_⟩; have n0_ := Aside0.mk (KeepBut.trans (by repeat (first | (with_reducible first | exact HK.out | apply KeepBut.set_ | apply keep_drewN | apply keep_drew | apply keep_alloc) | exact HK.out)) hk (.inl rfl)); have n1_ := Aside0.mk (hb); have n2_ := Aside0.mk (hi); clear HK; clear HB; clear HI0; have HK := n0_; have HB := n1_; have HI0 := n2_; clear n0_ n1_ n2_; (try clear hb); (try clear hb2); (try clear hk); (try clear hi)))
    go_ret
    exact ⟨by first | rfl | (simp [errW_none, errW_some] <;> rfl) | (simp [*, errW_none, errW_some] <;> rfl), by repeat (first | (with_reducible first | exact HI0.out | apply IsS119.alloc | apply IsS119.drewN | apply IsS119.drew | apply IsS119.set_0 | apply IsS119.set_1) | exact HI0.out), by repeat (first | (with_reducible first | exact HB.out | apply below_alloc | apply pw_below_drewN | apply below_drew1 | refine below_set ?_ (IsS119.ge HI0.out)) | exact HB.out), by repeat (first | (with_reducible first | exact HK.out | apply KeepBut.set_ | apply keep_drewN | apply keep_drew | apply keep_alloc) | exact HK.out)⟩
def tally_Cursor_Err.f (s0_0 : ByteArray) (s0_1 : Int) : Option (Int × ByteArray × Int) := some (s0_1, s0_0, s0_1)
set_option maxHeartbeats 8000000 in
set_option maxRecDepth 100000 in
theorem tally_Cursor_Err.calls (g : Nat) (s0_0 : ByteArray) (s0_1 : Int) (r1 : Int) (r2 : ByteArray) (r3 : Int) (w0 w : World) (hI : IsS119 w0 w g s0_0 s0_1) (hB : Below w0.heap.size w0 w) (h : tally_Cursor_Err.f s0_0 s0_1 = some (r1, r2, r3)) :
    Calls Tryz.prog 74 #[.pointer (some ⟨g, 0, none⟩)] w fun e w' => e = .returned (.int .i64 r1) ∧ IsS119 w0 w' g r2 r3 ∧ Below w0.heap.size w0 w' ∧ KeepBut w w' g none := by
  have HI0 := Aside0.mk hI
  have HK := Aside0.mk (KeepBut.refl w g none)
  have HL := Aside0.mk hB.size
  clear hI
  have HW0 := Aside0.mk hB.size
  have HB := Aside0.mk hB
  clear hB
  have H : (some (s0_1, s0_0, s0_1)) = some (r1, r2, r3) := h
  clear h
  simp only [Option.some.injEq, Prod.mk.injEq] at H
  obtain ⟨rfl, rfl, rfl⟩ := H
  obtain ⟨HGz2, hgz2⟩ := HI0.out
  have hcz2_0 := cellS119_0 HGz2
  have hcz2_1 := cellS119_1 HGz2
  have hfz2_0 := blk_frozen HGz2 0
  have hfz2_1 := blk_frozen HGz2 1
  clear HGz2 hgz2
  go_enter Tryz.func74, Tryz.ntmps74
  go_wp2
  go_ret
  exact ⟨by first | rfl | (simp [errW_none, errW_some] <;> rfl) | (simp [*, errW_none, errW_some] <;> rfl), by repeat (first | (with_reducible first | exact HI0.out | apply IsS119.alloc | apply IsS119.drewN | apply IsS119.drew | apply IsS119.set_0 | apply IsS119.set_1) | exact HI0.out), by repeat (first | (with_reducible first | exact HB.out | apply below_alloc | apply pw_below_drewN | apply below_drew1 | refine below_set ?_ (IsS119.ge HI0.out)) | exact HB.out), by repeat (first | (with_reducible first | exact HK.out | apply KeepBut.set_ | apply keep_drewN | apply keep_drew | apply keep_alloc) | exact HK.out)⟩
def tally_Cursor_Done.f (s0_0 : ByteArray) (s0_1 : Int) : Option (Int × ByteArray × Int) := (tally_Cursor_ok.f s0_0 s0_1).bind fun bt439 => (if bt439.1 = true then (if bt439.2.1.toList = ([] : List UInt8) then ((tally_Cursor_Err.f bt439.2.1 bt439.2.2).bind fun bt442 => (some (bt442.1, bt442.2.1, bt442.2.2))) else (some (5, bt439.2.1, bt439.2.2))) else ((tally_Cursor_Err.f bt439.2.1 bt439.2.2).bind fun bt445 => (some (bt445.1, bt445.2.1, bt445.2.2))))
set_option maxHeartbeats 8000000 in
set_option maxRecDepth 100000 in
theorem tally_Cursor_Done.calls (g : Nat) (s0_0 : ByteArray) (s0_1 : Int) (r1 : Int) (r2 : ByteArray) (r3 : Int) (w0 w : World) (hI : IsS119 w0 w g s0_0 s0_1) (hB : Below w0.heap.size w0 w) (h : tally_Cursor_Done.f s0_0 s0_1 = some (r1, r2, r3)) :
    Calls Tryz.prog 42 #[.pointer (some ⟨g, 0, none⟩)] w fun e w' => e = .returned (.int .i64 r1) ∧ IsS119 w0 w' g r2 r3 ∧ Below w0.heap.size w0 w' ∧ KeepBut w w' g none := by
  have HI0 := Aside0.mk hI
  have HK := Aside0.mk (KeepBut.refl w g none)
  have HL := Aside0.mk hB.size
  clear hI
  have HW0 := Aside0.mk hB.size
  have HB := Aside0.mk hB
  clear hB
  have H : ((tally_Cursor_ok.f s0_0 s0_1).bind fun bt439 => (if bt439.1 = true then (if bt439.2.1.toList = ([] : List UInt8) then ((tally_Cursor_Err.f bt439.2.1 bt439.2.2).bind fun bt442 => (some (bt442.1, bt442.2.1, bt442.2.2))) else (some (5, bt439.2.1, bt439.2.2))) else ((tally_Cursor_Err.f bt439.2.1 bt439.2.2).bind fun bt445 => (some (bt445.1, bt445.2.1, bt445.2.2))))) = some (r1, r2, r3) := h
  clear h
  replace H := Option.bind_eq_some_iff.mp H
  obtain ⟨⟨t439, t440, t441⟩, A20, H⟩ := H
  replace H : (if t439 = true then (if t440.toList = ([] : List UInt8) then ((tally_Cursor_Err.f t440 t441).bind fun bt442 => (some (bt442.1, bt442.2.1, bt442.2.2))) else (some (5, t440, t441))) else ((tally_Cursor_Err.f t440 t441).bind fun bt445 => (some (bt445.1, bt445.2.1, bt445.2.2)))) = some (r1, r2, r3) := H
  have A2 := Aside0.mk A20
  clear A20
  by_cases c3 : t439 = true
  · subst c3
    have H1 : (if t440.toList = ([] : List UInt8) then ((tally_Cursor_Err.f t440 t441).bind fun bt442 => (some (bt442.1, bt442.2.1, bt442.2.2))) else (some (5, t440, t441))) = some (r1, r2, r3) := by rw [if_pos rfl] at H; exact H
    clear H
    have H := H1
    clear H1
    by_cases c4 : t440.toList = ([] : List UInt8)
    · rw [if_pos c4] at H
      have c4b0 : (t440.toList == ([] : List UInt8)) = true := beq_iff_eq.mpr c4
      have c4b1 : (t440.toList != ([] : List UInt8)) = false := bne_eq_false_iff_eq.mpr c4
      clear c4
      replace H := Option.bind_eq_some_iff.mp H
      obtain ⟨⟨t442, t443, t444⟩, A50, H⟩ := H
      replace H : (some (t442, t443, t444)) = some (r1, r2, r3) := H
      have A5 := Aside0.mk A50
      clear A50
      simp only [Option.some.injEq, Prod.mk.injEq] at H
      obtain ⟨rfl, rfl, rfl⟩ := H
      go_enter Tryz.func42, Tryz.ntmps42
      go_wp2_with (first | ((with_reducible refine gate_callee (f := 77) rfl ?_); refine goesL_ (some 4) rfl rfl Tryz.func77 (by kernel_rfl) rfl #[.pointer (some ⟨g, 0, none⟩)] rfl (by (try simp only [List.map_toArray, List.map_cons, List.map_nil]); first | done | rfl | (simp only [List.length_drop, List.length_take]; rfl)) ?_; (with_reducible refine (tally_Cursor_ok.calls g s0_0 s0_1 true t440 t441 w0 _ ?side1 ?side2 A2.out).mono ?_); (case side1 => repeat (first | (with_reducible first | exact HI0.out | apply IsS119.alloc | apply IsS119.drewN | apply IsS119.drew | apply IsS119.set_0 | apply IsS119.set_1) | exact HI0.out)); (case side2 => repeat (first | (with_reducible first | exact HB.out | apply below_alloc | apply pw_below_drewN | apply below_drew1 | refine below_set ?_ (IsS119.ge HI0.out)) | exact HB.out)); rintro e w6 ⟨rfl, hi, hb, hk⟩; refine ⟨_, rfl, ?_⟩; have n0_ := Aside0.mk (KeepBut.trans (by repeat (first | (with_reducible first | exact HK.out | apply KeepBut.set_ | apply keep_drewN | apply keep_drew | apply keep_alloc) | exact HK.out)) hk (.inl rfl)); have n1_ := Aside0.mk (hb); have n2_ := Aside0.mk (hi); clear HK; clear HB; clear HI0; have HK := n0_; have HB := n1_; have HI0 := n2_; clear n0_ n1_ n2_; (try clear hb); (try clear hb2); (try clear hk); (try clear hi); obtain ⟨HGz7, hgz7⟩ := HI0.out; have hcz7_0 := cellS119_0 HGz7; have hcz7_1 := cellS119_1 HGz7; have hfz7_0 := blk_frozen HGz7 0; have hfz7_1 := blk_frozen HGz7 1; clear HGz7 hgz7) | ((with_reducible refine gate_callee (f := 74) rfl ?_); refine goesL_ (some 13) rfl rfl Tryz.func74 (by kernel_rfl) rfl #[.pointer (some ⟨g, 0, none⟩)] rfl (by (try simp only [List.map_toArray, List.map_cons, List.map_nil]); first | done | rfl | (simp only [List.length_drop, List.length_take]; rfl)) ?_; (with_reducible refine (tally_Cursor_Err.calls g t440 t441 t442 t443 t444 w0 _ ?side1 ?side2 A5.out).mono ?_); (case side1 => repeat (first | (with_reducible first | exact HI0.out | apply IsS119.alloc | apply IsS119.drewN | apply IsS119.drew | apply IsS119.set_0 | apply IsS119.set_1) | exact HI0.out)); (case side2 => repeat (first | (with_reducible first | exact HB.out | apply below_alloc | apply pw_below_drewN | apply below_drew1 | refine below_set ?_ (IsS119.ge HI0.out)) | exact HB.out)); rintro e w8 ⟨rfl, hi, hb, hk⟩; refine ⟨_, rfl, ?_⟩; have n0_ := Aside0.mk (KeepBut.trans (by repeat (first | (with_reducible first | exact HK.out | apply KeepBut.set_ | apply keep_drewN | apply keep_drew | apply keep_alloc) | exact HK.out)) hk (.inl rfl)); have n1_ := Aside0.mk (hb); have n2_ := Aside0.mk (hi); clear HK; clear HB; clear HI0; have HK := n0_; have HB := n1_; have HI0 := n2_; clear n0_ n1_ n2_; (try clear hb); (try clear hb2); (try clear hk); (try clear hi)))
      go_ret
      exact ⟨by first | rfl | (simp [errW_none, errW_some] <;> rfl) | (simp [*, errW_none, errW_some] <;> rfl), by repeat (first | (with_reducible first | exact HI0.out | apply IsS119.alloc | apply IsS119.drewN | apply IsS119.drew | apply IsS119.set_0 | apply IsS119.set_1) | exact HI0.out), by repeat (first | (with_reducible first | exact HB.out | apply below_alloc | apply pw_below_drewN | apply below_drew1 | refine below_set ?_ (IsS119.ge HI0.out)) | exact HB.out), by repeat (first | (with_reducible first | exact HK.out | apply KeepBut.set_ | apply keep_drewN | apply keep_drew | apply keep_alloc) | exact HK.out)⟩
    · rw [if_neg c4] at H
      have c4b0 : (t440.toList == ([] : List UInt8)) = false := beq_eq_false_iff_ne.mpr c4
      have c4b1 : (t440.toList != ([] : List UInt8)) = true := bne_iff_ne.mpr c4
      simp only [Option.some.injEq, Prod.mk.injEq] at H
      obtain ⟨rfl, rfl, rfl⟩ := H
      go_enter Tryz.func42, Tryz.ntmps42
      go_wp2_with (first | ((with_reducible refine gate_callee (f := 77) rfl ?_); refine goesL_ (some 4) rfl rfl Tryz.func77 (by kernel_rfl) rfl #[.pointer (some ⟨g, 0, none⟩)] rfl (by (try simp only [List.map_toArray, List.map_cons, List.map_nil]); first | done | rfl | (simp only [List.length_drop, List.length_take]; rfl)) ?_; (with_reducible refine (tally_Cursor_ok.calls g s0_0 s0_1 true t440 t441 w0 _ ?side1 ?side2 A2.out).mono ?_); (case side1 => repeat (first | (with_reducible first | exact HI0.out | apply IsS119.alloc | apply IsS119.drewN | apply IsS119.drew | apply IsS119.set_0 | apply IsS119.set_1) | exact HI0.out)); (case side2 => repeat (first | (with_reducible first | exact HB.out | apply below_alloc | apply pw_below_drewN | apply below_drew1 | refine below_set ?_ (IsS119.ge HI0.out)) | exact HB.out)); rintro e w9 ⟨rfl, hi, hb, hk⟩; refine ⟨_, rfl, ?_⟩; have n0_ := Aside0.mk (KeepBut.trans (by repeat (first | (with_reducible first | exact HK.out | apply KeepBut.set_ | apply keep_drewN | apply keep_drew | apply keep_alloc) | exact HK.out)) hk (.inl rfl)); have n1_ := Aside0.mk (hb); have n2_ := Aside0.mk (hi); clear HK; clear HB; clear HI0; have HK := n0_; have HB := n1_; have HI0 := n2_; clear n0_ n1_ n2_; (try clear hb); (try clear hb2); (try clear hk); (try clear hi); obtain ⟨HGz10, hgz10⟩ := HI0.out; have hcz10_0 := cellS119_0 HGz10; have hcz10_1 := cellS119_1 HGz10; have hfz10_0 := blk_frozen HGz10 0; have hfz10_1 := blk_frozen HGz10 1; clear HGz10 hgz10))
      go_ret
      exact ⟨by first | rfl | (simp [errW_none, errW_some] <;> rfl) | (simp [*, errW_none, errW_some] <;> rfl), by repeat (first | (with_reducible first | exact HI0.out | apply IsS119.alloc | apply IsS119.drewN | apply IsS119.drew | apply IsS119.set_0 | apply IsS119.set_1) | exact HI0.out), by repeat (first | (with_reducible first | exact HB.out | apply below_alloc | apply pw_below_drewN | apply below_drew1 | refine below_set ?_ (IsS119.ge HI0.out)) | exact HB.out), by repeat (first | (with_reducible first | exact HK.out | apply KeepBut.set_ | apply keep_drewN | apply keep_drew | apply keep_alloc) | exact HK.out)⟩
  · replace c3 := Bool.eq_false_iff.mpr c3
    subst c3
    have H1 : ((tally_Cursor_Err.f t440 t441).bind fun bt445 => (some (bt445.1, bt445.2.1, bt445.2.2))) = some (r1, r2, r3) := by rw [if_neg (show ¬ (false = true) by decide)] at H; exact H
    clear H
    have H := H1
    clear H1
    replace H := Option.bind_eq_some_iff.mp H
    obtain ⟨⟨t445, t446, t447⟩, A110, H⟩ := H
    replace H : (some (t445, t446, t447)) = some (r1, r2, r3) := H
    have A11 := Aside0.mk A110
    clear A110
    simp only [Option.some.injEq, Prod.mk.injEq] at H
    obtain ⟨rfl, rfl, rfl⟩ := H
    go_enter Tryz.func42, Tryz.ntmps42
    go_wp2_with (first | ((with_reducible refine gate_callee (f := 77) rfl ?_); refine goesL_ (some 4) rfl rfl Tryz.func77 (by kernel_rfl) rfl #[.pointer (some ⟨g, 0, none⟩)] rfl (by (try simp only [List.map_toArray, List.map_cons, List.map_nil]); first | done | rfl | (simp only [List.length_drop, List.length_take]; rfl)) ?_; (with_reducible refine (tally_Cursor_ok.calls g s0_0 s0_1 false t440 t441 w0 _ ?side1 ?side2 A2.out).mono ?_); (case side1 => repeat (first | (with_reducible first | exact HI0.out | apply IsS119.alloc | apply IsS119.drewN | apply IsS119.drew | apply IsS119.set_0 | apply IsS119.set_1) | exact HI0.out)); (case side2 => repeat (first | (with_reducible first | exact HB.out | apply below_alloc | apply pw_below_drewN | apply below_drew1 | refine below_set ?_ (IsS119.ge HI0.out)) | exact HB.out)); rintro e w12 ⟨rfl, hi, hb, hk⟩; refine ⟨_, rfl, ?_⟩; have n0_ := Aside0.mk (KeepBut.trans (by repeat (first | (with_reducible first | exact HK.out | apply KeepBut.set_ | apply keep_drewN | apply keep_drew | apply keep_alloc) | exact HK.out)) hk (.inl rfl)); have n1_ := Aside0.mk (hb); have n2_ := Aside0.mk (hi); clear HK; clear HB; clear HI0; have HK := n0_; have HB := n1_; have HI0 := n2_; clear n0_ n1_ n2_; (try clear hb); (try clear hb2); (try clear hk); (try clear hi)) | ((with_reducible refine gate_callee (f := 74) rfl ?_); refine goesL_ (some 13) rfl rfl Tryz.func74 (by kernel_rfl) rfl #[.pointer (some ⟨g, 0, none⟩)] rfl (by (try simp only [List.map_toArray, List.map_cons, List.map_nil]); first | done | rfl | (simp only [List.length_drop, List.length_take]; rfl)) ?_; (with_reducible refine (tally_Cursor_Err.calls g t440 t441 t445 t446 t447 w0 _ ?side1 ?side2 A11.out).mono ?_); (case side1 => repeat (first | (with_reducible first | exact HI0.out | apply IsS119.alloc | apply IsS119.drewN | apply IsS119.drew | apply IsS119.set_0 | apply IsS119.set_1) | exact HI0.out)); (case side2 => repeat (first | (with_reducible first | exact HB.out | apply below_alloc | apply pw_below_drewN | apply below_drew1 | refine below_set ?_ (IsS119.ge HI0.out)) | exact HB.out)); rintro e w13 ⟨rfl, hi, hb, hk⟩; refine ⟨_, rfl, ?_⟩; have n0_ := Aside0.mk (KeepBut.trans (by repeat (first | (with_reducible first | exact HK.out | apply KeepBut.set_ | apply keep_drewN | apply keep_drew | apply keep_alloc) | exact HK.out)) hk (.inl rfl)); have n1_ := Aside0.mk (hb); have n2_ := Aside0.mk (hi); clear HK; clear HB; clear HI0; have HK := n0_; have HB := n1_; have HI0 := n2_; clear n0_ n1_ n2_; (try clear hb); (try clear hb2); (try clear hk); (try clear hi)))
    go_ret
    exact ⟨by first | rfl | (simp [errW_none, errW_some] <;> rfl) | (simp [*, errW_none, errW_some] <;> rfl), by repeat (first | (with_reducible first | exact HI0.out | apply IsS119.alloc | apply IsS119.drewN | apply IsS119.drew | apply IsS119.set_0 | apply IsS119.set_1) | exact HI0.out), by repeat (first | (with_reducible first | exact HB.out | apply below_alloc | apply pw_below_drewN | apply below_drew1 | refine below_set ?_ (IsS119.ge HI0.out)) | exact HB.out), by repeat (first | (with_reducible first | exact HK.out | apply KeepBut.set_ | apply keep_drewN | apply keep_drew | apply keep_alloc) | exact HK.out)⟩
end Go.Proofs.YtojcbknclfamhaaGreatDoor.A
