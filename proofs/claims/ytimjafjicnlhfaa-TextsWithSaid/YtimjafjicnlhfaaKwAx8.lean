/- Words and walks that the print wrote for this claim: those that the claim leans on (wip/shake.py). -/
import Derived.Test.YtimjafjicnlhfaaKwAx0
namespace Go.Proofs.Ytimjafjicnlhfaa.A
open Go.RowKit Go.Proofs.YtimjafjicnlhfaaW.PrintWords Go.Proofs.YtimjafjicnlhfaaW.PrintLast Go.Proofs.YtimjafjicnlhfaaW.PrintMore
attribute [local go_sem] min2_int min_two
set_option linter.unusedVariables false
set_option linter.unusedSimpArgs false
def tithebarnref03_fits.f (a0 : Int) (a1 : Int) : Option (Bool) := if a1 ≥ 64 then (some true) else (if 0 ≤ (IntKind.u64.wrap (a1)) then (some (decide (a0 < (shl .u64 1 (IntKind.u64.wrap (a1)))))) else (none))
set_option maxHeartbeats 8000000 in
set_option maxRecDepth 100000 in
theorem tithebarnref03_fits.calls (a0 : Int) (a1 : Int) (r : Bool) (w : World) (h : tithebarnref03_fits.f a0 a1 = some r) :
    Calls Try.prog 56 #[.int .u64 a0, .int .i64 a1] w fun e w' => e = .returned (.bool r) ∧ Drawn0 w w' := by
  have H : (if a1 ≥ 64 then (some true) else (if 0 ≤ (IntKind.u64.wrap (a1)) then (some (decide (a0 < (shl .u64 1 (IntKind.u64.wrap (a1)))))) else (none))) = some r := h
  clear h
  by_cases c3 : a1 ≥ 64
  · rw [if_pos c3] at H
    have c3b0 : decide (64 ≤ a1) = true := decide_eq_true c3
    clear c3
    obtain rfl := Option.some.inj H
    go_enter Try.func56, Try.ntmps56
    go_wp2
    go_ret
    exact ⟨by first | rfl | (simp; done) | (simp [*]; done), by repeat (first | exact Drawn0.refl _ | apply Drawn0.step)⟩
  · rw [if_neg c3] at H
    have c3b0 : decide (64 ≤ a1) = false := decide_eq_false c3
    clear c3
    obtain ⟨ji4, hji4⟩ : ∃ j_ : Int, (IntKind.u64.wrap (a1)) = j_ := ⟨_, rfl⟩
    replace H : (if 0 ≤ (ji4) then (some (decide (a0 < (shl .u64 1 (ji4))))) else (none)) = some r := by first | (rw [hji4] at H; exact H) | (simp only [hji4] at H ⊢; exact H)
    by_cases c5 : 0 ≤ (ji4)
    · rw [if_pos c5] at H
      have c5b0 := eq_true c5
      have c5b1 : decide (0 ≤ (ji4)) = true := decide_eq_true c5
      clear c5
      obtain ⟨ji6, hji6⟩ : ∃ j_ : Int, (shl .u64 1 (ji4)) = j_ := ⟨_, rfl⟩
      replace H : (some (decide (a0 < (ji6)))) = some r := by first | (rw [hji6] at H; exact H) | (simp only [hji6] at H ⊢; exact H)
      have hji6_ : (IntKind.u64.wrap (1 * 2 ^ min (ji4).toNat 64)) = ji6 := hji6
      have hji6z : (ji4) ≤ 64 → (IntKind.u64.wrap (1 * 2 ^ (ji4).toNat)) = ji6 := shl_small hji6
      have hji6u : (IntKind.u64.wrap (2 ^ min (ji4).toNat 64)) = ji6 := by have h_ := hji6_; rw [Int.one_mul] at h_; exact h_
      have hji6v : (ji4) ≤ 64 → (IntKind.u64.wrap (2 ^ (ji4).toNat)) = ji6 := fun hle_ => by have h_ := hji6z hle_; rw [Int.one_mul] at h_; exact h_
      obtain rfl := Option.some.inj H
      go_enter Try.func56, Try.ntmps56
      go_wp2
      go_ret
      exact ⟨by first | rfl | (simp; done) | (simp only [← hji4, ← hji6] <;> (first | rfl | simp)) | (simp [*]; done), by repeat (first | exact Drawn0.refl _ | apply Drawn0.step)⟩
    · rw [if_neg c5] at H
      exact absurd H (by simp)
mutual
def tithebarnref03_Width.l0 : Nat → List Int → Int → Int → Option (Int)
  | 0, _, _, _ => none
  | k + 1, x0, x3, x4 => if x4 < (x0.length : Int) then (tithebarnref03_Width.l1 k x0 x3 x4) else (some x3)
def tithebarnref03_Width.l1 : Nat → List Int → Int → Int → Option (Int)
  | 0, _, _, _ => none
  | k + 1, x0, x3, x4 => if 0 ≤ x4 then (if x4 < (x0.length : Int) then ((tithebarnref03_fits.f (rd x0 x4) x3).bind fun t262 => (if t262 = true then (tithebarnref03_Width.l0 k x0 x3 (wrap64 (x4 + 1))) else (tithebarnref03_Width.l1 k x0 (wrap64 (x3 + 1)) x4))) else (none)) else (none)
end
def tithebarnref03_Width.f (k : Nat) (l0 : List Int) : Option (Int) := tithebarnref03_Width.l0 k l0 0 0
set_option maxHeartbeats 8000000 in
set_option maxRecDepth 100000 in
theorem tithebarnref03_Width.calls (k : Nat) (A0 : Option Addr) (c0 : Nat) (l0 : List Int) (r : Int) (w : World) (hr0 : Kd.C (Kd.int .u64) w A0 l0.length l0) (hc0 : l0.length ≤ c0) (h : tithebarnref03_Width.f k l0 = some r) :
    Calls Try.prog 30 #[.slice A0 l0.length c0] w fun e w' => e = .returned (.int .i64 r) ∧ Drawn0 w w' := by
  have HR0 := Aside0.mk hr0
  have HC0 := Aside0.mk hc0
  clear hr0 hc0
  have H : (tithebarnref03_Width.l0 k l0 0 0) = some r := h
  clear h
  have H' := Aside0.mk H
  clear H
  go_enter Try.func30, Try.ntmps30
  go_wp2
  go_loopg [3, 4] k (fun kq v3 v4 w' => ∃ (x3_1 : Int) (x4_1 : Int), v3 = .int .i64 x3_1 ∧ v4 = .int .i64 x4_1 ∧ Aside0 (tithebarnref03_Width.l0 kq l0 x3_1 x4_1 = some r) ∧ Aside0 (kq ≤ k) ∧ Drawn0 w w')
  case atStart => exact ⟨(0), (0), (by first | rfl | (simp; done) | (simp [*]; done)), (by first | rfl | (simp; done) | (simp [*]; done)), H', ⟨Nat.le_refl _⟩, by repeat (first | exact Drawn0.refl _ | apply Drawn0.step)⟩
  case round =>
    clear H'
    obtain ⟨x3_1, x4_1, rfl, rfl, HA, HK1, ⟨m1, rfl⟩⟩ := hrel
    cases gk with
    | zero => exact absurd HA.out (by simp [tithebarnref03_Width.l0])
    | succ k1 =>
      have H := HA.out
      clear HA
      simp only [tithebarnref03_Width.l0] at H
      by_cases c2 : x4_1 < (l0.length : Int)
      · rw [if_pos c2] at H
        have c2b0 : decide (x4_1 < (l0.length : Int)) = true := decide_eq_true c2
        clear c2
        have H' := Aside0.mk H
        clear H
        go_wp2
        go_loopg [3] k1 (fun kq v3 w' => ∃ (x3_2 : Int), v3 = .int .i64 x3_2 ∧ Aside0 (tithebarnref03_Width.l1 kq l0 x3_2 x4_1 = some r) ∧ Aside0 (kq ≤ k1) ∧ Drawn0 w w')
        case atStart => exact ⟨(x3_1), (by first | rfl | (simp; done) | (simp [*]; done)), H', ⟨Nat.le_refl _⟩, by repeat (first | exact Drawn0.refl _ | apply Drawn0.step)⟩
        case round =>
          clear H'
          try clear c2
          try clear c2b0
          try clear p2
          obtain ⟨x3_2, rfl, HA, HK2, ⟨m2, rfl⟩⟩ := hrel
          cases gk with
          | zero => exact absurd HA.out (by simp [tithebarnref03_Width.l1])
          | succ k2 =>
            have H := HA.out
            clear HA
            simp only [tithebarnref03_Width.l1] at H
            by_cases c3 : 0 ≤ x4_1
            · rw [if_pos c3] at H
              have c3b0 : decide (0 ≤ x4_1) = true := decide_eq_true c3
              clear c3
              by_cases c4 : x4_1 < (l0.length : Int)
              · rw [if_pos c4] at H
                have c4b0 : decide (x4_1 < (l0.length : Int)) = true := decide_eq_true c4
                clear c4
                replace H := Option.bind_eq_some_iff.mp H
                obtain ⟨t262, A50, H⟩ := H
                replace H : (if t262 = true then (tithebarnref03_Width.l0 k2 l0 x3_2 (wrap64 (x4_1 + 1))) else (tithebarnref03_Width.l1 k2 l0 (wrap64 (x3_2 + 1)) x4_1)) = some r := H
                have A5 := Aside0.mk A50
                clear A50
                by_cases c6 : t262 = true
                · subst c6
                  have H1 : (tithebarnref03_Width.l0 k2 l0 x3_2 (wrap64 (x4_1 + 1))) = some r := by rw [if_pos rfl] at H; exact H
                  clear H
                  have H := H1
                  clear H1
                  have H' := Aside0.mk H
                  clear H
                  have p261 : 0 ≤ (x4_1 : Int) := of_decide_eq_true (by first | (with_reducible assumption) | assumption)
                  have q261 : x4_1 < (l0.length : Int) := of_decide_eq_true (by first | (with_reducible assumption) | assumption)
                  obtain ⟨ad261, e261, hx261_0⟩ := Kd.at_int HR0.out x4_1 p261 q261
                  cases e261
                  replace p261 := eq_true p261
                  replace q261 := eq_true q261
                  go_wp2_with (first | ((with_reducible refine gate_callee (f := 56) rfl ?_); refine goesL_ (some 16) rfl rfl Try.func56 (by kernel_rfl) rfl #[.int .u64 (rd l0 x4_1), .int .i64 x3_2] rfl (by (try simp only [List.map_toArray, List.map_cons, List.map_nil]); first | done | rfl | (simp only [List.length_drop, List.length_take]; rfl)) ?_; (with_reducible refine (tithebarnref03_fits.calls (rd l0 x4_1) x3_2 true _ A5.out).mono ?_); rintro e w' ⟨rfl, ⟨nd, rfl⟩⟩; refine ⟨_, rfl, ?_⟩))
                  go_roundg k2
                  case measure => have := HK1.out; have := HK2.out; omega
                  case rel => exact ⟨(x3_2), (wrap64 (x4_1 + 1)), (by first | rfl | (simp; done) | (simp [*]; done)), (by first | rfl | (simp; done) | (simp [*]; done)), H', ⟨by have := HK1.out; have := HK2.out; omega⟩, by repeat (first | exact Drawn0.refl _ | apply Drawn0.step)⟩
                · replace c6 := Bool.eq_false_iff.mpr c6
                  subst c6
                  have H1 : (tithebarnref03_Width.l1 k2 l0 (wrap64 (x3_2 + 1)) x4_1) = some r := by rw [if_neg (show ¬ (false = true) by decide)] at H; exact H
                  clear H
                  have H := H1
                  clear H1
                  have H' := Aside0.mk H
                  clear H
                  have p261 : 0 ≤ (x4_1 : Int) := of_decide_eq_true (by first | (with_reducible assumption) | assumption)
                  have q261 : x4_1 < (l0.length : Int) := of_decide_eq_true (by first | (with_reducible assumption) | assumption)
                  obtain ⟨ad261, e261, hx261_0⟩ := Kd.at_int HR0.out x4_1 p261 q261
                  cases e261
                  replace p261 := eq_true p261
                  replace q261 := eq_true q261
                  go_wp2_with (first | ((with_reducible refine gate_callee (f := 56) rfl ?_); refine goesL_ (some 16) rfl rfl Try.func56 (by kernel_rfl) rfl #[.int .u64 (rd l0 x4_1), .int .i64 x3_2] rfl (by (try simp only [List.map_toArray, List.map_cons, List.map_nil]); first | done | rfl | (simp only [List.length_drop, List.length_take]; rfl)) ?_; (with_reducible refine (tithebarnref03_fits.calls (rd l0 x4_1) x3_2 false _ A5.out).mono ?_); rintro e w' ⟨rfl, ⟨nd, rfl⟩⟩; refine ⟨_, rfl, ?_⟩))
                  go_roundg k2
                  case measure => have := HK1.out; have := HK2.out; omega
                  case rel => exact ⟨(wrap64 (x3_2 + 1)), (by first | rfl | (simp; done) | (simp [*]; done)), H', ⟨by have := HK1.out; have := HK2.out; omega⟩, by repeat (first | exact Drawn0.refl _ | apply Drawn0.step)⟩
              · rw [if_neg c4] at H
                exact absurd H (by simp)
            · rw [if_neg c3] at H
              exact absurd H (by simp)
      · rw [if_neg c2] at H
        have c2b0 : decide (x4_1 < (l0.length : Int)) = false := decide_eq_false c2
        clear c2
        obtain rfl := Option.some.inj H
        go_wp2
        go_ret
        exact ⟨by first | rfl | (simp; done) | (simp [*]; done), by repeat (first | exact Drawn0.refl _ | apply Drawn0.step)⟩
def tithebarnref03_Bytes.l0 : Nat → List Bool → List Int → Int → Option (ByteArray)
  | 0, _, _, _ => none
  | k + 1, x0, x3, x4 => if x4 < (x0.length : Int) then (if 0 ≤ x4 then (if rdOf false x0 x4 = true then (if 0 ≤ (wrap64 (Int.tdiv x4 8)) then (if (wrap64 (Int.tdiv x4 8)) < (x3.length : Int) then (if 0 ≤ (IntKind.u64.wrap (Int.tmod x4 8)) then (tithebarnref03_Bytes.l0 k x0 (x3.set ((wrap64 (Int.tdiv x4 8)) : Int).toNat (((rd x3 (wrap64 (Int.tdiv x4 8))) + (shl .u8 1 (IntKind.u64.wrap (Int.tmod x4 8)))) % 256)) (wrap64 (x4 + 1))) else (none)) else (none)) else (none)) else (tithebarnref03_Bytes.l0 k x0 x3 (wrap64 (x4 + 1)))) else (none)) else (some (strOfNums x3))
def tithebarnref03_Bytes.f (k : Nat) (l0 : List Bool) : Option (ByteArray) := if 0 ≤ (wrap64 (Int.tdiv (wrap64 ((l0.length : Int) + 7)) 8)) then (if (wrap64 (Int.tdiv (wrap64 ((l0.length : Int) + 7)) 8) : Int).toNat ≤ 281474976710656 then (tithebarnref03_Bytes.l0 k l0 (List.replicate (wrap64 (Int.tdiv (wrap64 ((l0.length : Int) + 7)) 8) : Int).toNat 0) 0) else (none)) else (none)
set_option maxHeartbeats 8000000 in
set_option maxRecDepth 100000 in
theorem tithebarnref03_Bytes.calls (k : Nat) (A0 : Option Addr) (c0 : Nat) (l0 : List Bool) (r : ByteArray) (w : World) (hr0 : Kd.C Kd.bool w A0 l0.length l0) (hc0 : l0.length ≤ c0) (h : tithebarnref03_Bytes.f k l0 = some r) :
    Calls Try.prog 57 #[.slice A0 l0.length c0] w fun e w' => e = .returned (.string r) ∧ Below w.heap.size w w' := by
  have HR0 := Aside0.mk hr0
  have HC0 := Aside0.mk hc0
  clear hr0 hc0
  have HB := Aside0.mk (Below.refl w.heap.size w)
  have H : (if 0 ≤ (wrap64 (Int.tdiv (wrap64 ((l0.length : Int) + 7)) 8)) then (if (wrap64 (Int.tdiv (wrap64 ((l0.length : Int) + 7)) 8) : Int).toNat ≤ 281474976710656 then (tithebarnref03_Bytes.l0 k l0 (List.replicate (wrap64 (Int.tdiv (wrap64 ((l0.length : Int) + 7)) 8) : Int).toNat 0) 0) else (none)) else (none)) = some r := h
  clear h
  obtain ⟨ji2, hji2⟩ : ∃ j_ : Int, (wrap64 (Int.tdiv (wrap64 ((l0.length : Int) + 7)) 8)) = j_ := ⟨_, rfl⟩
  replace H : (if 0 ≤ (ji2) then (if (ji2 : Int).toNat ≤ 281474976710656 then (tithebarnref03_Bytes.l0 k l0 (List.replicate (ji2 : Int).toNat 0) 0) else (none)) else (none)) = some r := by first | (rw [hji2] at H; exact H) | (simp only [hji2] at H ⊢; exact H)
  have hji2w : (IntKind.i64.wrap (Int.tdiv (wrap64 ((l0.length : Int) + 7)) 8)) = ji2 := (i64_w _).trans hji2
  by_cases c3 : 0 ≤ (ji2)
  · rw [if_pos c3] at H
    have c3b0 := eq_true c3
    have c3b1 : decide (0 ≤ (ji2)) = true := decide_eq_true c3
    clear c3
    by_cases c4 : (ji2 : Int).toNat ≤ 281474976710656
    · rw [if_pos c4] at H
      have c4b0 := eq_true c4
      have c4b1 : decide ((ji2 : Int).toNat ≤ 281474976710656) = true := decide_eq_true c4
      clear c4
      obtain ⟨y263, hy263⟩ : ∃ y_ : List Int, y_ = (List.replicate (ji2 : Int).toNat 0) := ⟨_, rfl⟩
      replace H : (tithebarnref03_Bytes.l0 k l0 y263 0) = some r := by first | (rw [hy263]; with_reducible exact H) | (have H2_ := (Option.bind_some _ _).symm.trans H; rw [hy263]; with_reducible exact H2_) | (have H2_ := (Option.bind_some _ _).symm.trans H; with_reducible exact H2_) | with_reducible exact H | (rw [hy263]; exact H) | exact H
      have Ny263 := Aside0.mk hy263
      clear hy263
      have H' := Aside0.mk H
      clear H
      go_enter Try.func57, Try.ntmps57
      go_wp2_with (first | ((with_reducible refine gate_dst (N := 9) rfl ?_); refine Kd.R_make (Kd.int .u8) _ 5 rfl (N := 9) rfl 36 _ _ rfl ji2 rfl rfl Try.underlying36 (.int .u8 0) 1 info5 rfl (by decide) (by omega) 0 (ok := fun _ => True) (okp := fun _ => True) rfl (fun _ hk => hk) trivial (of_decide_eq_true (by first | (with_reducible assumption) | assumption)) (Nat.le_trans (Nat.mul_le_mul_right _ (of_decide_eq_true (by first | (with_reducible assumption) | assumption) : ji2.toNat ≤ 281474976710656)) (by omega)) (Below.refl _ _) (Nat.le_refl _) ?_; intro v264 w5 ho6 hb hg_ hnew_; clear hg_ hnew_; (first | rw [← Ny263.out] at ho6 | (simp only [Int.reduceToNat] at ho6; rw [← Ny263.out] at ho6)); have n0_ := Aside0.mk (Kd.R_lower ho6 (below_size (by repeat (first | (with_reducible first | exact HB.out | apply below_alloc | apply pw_below_drewN | apply below_drew1) | exact HB.out)))); have n1_ := Aside0.mk (below_step (by repeat (first | (with_reducible first | exact HB.out | apply below_alloc | apply pw_below_drewN | apply below_drew1) | exact HB.out)) hb); clear HB; have HO265 := n0_; have HB := n1_; clear n0_ n1_; clear hb ho6))
      go_loopg [4] k (fun kq v4 w' => ∃ (x3_1 : List Int) (x4_1 : Int), v4 = .int .i64 x4_1 ∧ Aside0 (tithebarnref03_Bytes.l0 kq l0 x3_1 x4_1 = some r) ∧ Aside0 (kq ≤ k) ∧ Aside0 (Kd.R (Kd.int .u8) 5 w' w.heap.size (fun _ => True) v264 x3_1) ∧ Aside0 (Below w.heap.size w w'))
      case atStart => exact ⟨(y263), (0), (by first | rfl | (simp; done) | (simp [*]; done)), H', ⟨Nat.le_refl _⟩, ⟨by (with_reducible repeat (first | apply Kd.R_alloc | apply Kd.R_drewN | apply Kd.R_drew)); exact HO265.out⟩, ⟨by repeat (first | (with_reducible first | exact HB.out | apply below_alloc | apply pw_below_drewN | apply below_drew1) | exact HB.out)⟩⟩
      case round =>
        clear H'
        try clear p2
        try clear c3
        try clear c3b0
        try clear c3b1
        try clear c4
        try clear c4b0
        try clear c4b1
        try clear c5
        try clear p6
        obtain ⟨x3_1, x4_1, rfl, HA, HK1, HO_3, HB⟩ := hrel
        cases gk with
        | zero => exact absurd HA.out (by simp [tithebarnref03_Bytes.l0])
        | succ k1 =>
          have H := HA.out
          clear HA
          simp only [tithebarnref03_Bytes.l0] at H
          by_cases c7 : x4_1 < (l0.length : Int)
          · rw [if_pos c7] at H
            have c7b0 : decide (x4_1 < (l0.length : Int)) = true := decide_eq_true c7
            clear c7
            by_cases c8 : 0 ≤ x4_1
            · rw [if_pos c8] at H
              have c8b0 : decide (0 ≤ x4_1) = true := decide_eq_true c8
              clear c8
              obtain ⟨bq9, hbq9⟩ : ∃ b_ : Bool, b_ = (rdOf false l0 x4_1) := ⟨_, rfl⟩
              replace H : (if bq9 = true then (if 0 ≤ (wrap64 (Int.tdiv x4_1 8)) then (if (wrap64 (Int.tdiv x4_1 8)) < (x3_1.length : Int) then (if 0 ≤ (IntKind.u64.wrap (Int.tmod x4_1 8)) then (tithebarnref03_Bytes.l0 k1 l0 (x3_1.set ((wrap64 (Int.tdiv x4_1 8)) : Int).toNat (((rd x3_1 (wrap64 (Int.tdiv x4_1 8))) + (shl .u8 1 (IntKind.u64.wrap (Int.tmod x4_1 8)))) % 256)) (wrap64 (x4_1 + 1))) else (none)) else (none)) else (none)) else (tithebarnref03_Bytes.l0 k1 l0 x3_1 (wrap64 (x4_1 + 1)))) = some r := by rw [← hbq9] at H; exact H
              have Nbq9 := Aside0.mk hbq9
              clear hbq9
              by_cases c10 : bq9 = true
              · subst c10
                have H1 : (if 0 ≤ (wrap64 (Int.tdiv x4_1 8)) then (if (wrap64 (Int.tdiv x4_1 8)) < (x3_1.length : Int) then (if 0 ≤ (IntKind.u64.wrap (Int.tmod x4_1 8)) then (tithebarnref03_Bytes.l0 k1 l0 (x3_1.set ((wrap64 (Int.tdiv x4_1 8)) : Int).toNat (((rd x3_1 (wrap64 (Int.tdiv x4_1 8))) + (shl .u8 1 (IntKind.u64.wrap (Int.tmod x4_1 8)))) % 256)) (wrap64 (x4_1 + 1))) else (none)) else (none)) else (none)) = some r := by rw [if_pos rfl] at H; exact H
                clear H
                have H := H1
                clear H1
                obtain ⟨ji11, hji11⟩ : ∃ j_ : Int, (wrap64 (Int.tdiv x4_1 8)) = j_ := ⟨_, rfl⟩
                replace H : (if 0 ≤ (ji11) then (if (ji11) < (x3_1.length : Int) then (if 0 ≤ (IntKind.u64.wrap (Int.tmod x4_1 8)) then (tithebarnref03_Bytes.l0 k1 l0 (x3_1.set ((ji11) : Int).toNat (((rd x3_1 (ji11)) + (shl .u8 1 (IntKind.u64.wrap (Int.tmod x4_1 8)))) % 256)) (wrap64 (x4_1 + 1))) else (none)) else (none)) else (none)) = some r := by first | (rw [hji11] at H; exact H) | (simp only [hji11] at H ⊢; exact H)
                have hji11w : (IntKind.i64.wrap (Int.tdiv x4_1 8)) = ji11 := (i64_w _).trans hji11
                by_cases c12 : 0 ≤ (ji11)
                · rw [if_pos c12] at H
                  have c12b0 : decide (0 ≤ (ji11)) = true := decide_eq_true c12
                  clear c12
                  by_cases c13 : (ji11) < (x3_1.length : Int)
                  · rw [if_pos c13] at H
                    have c13b0 : decide ((ji11) < (x3_1.length : Int)) = true := decide_eq_true c13
                    clear c13
                    obtain ⟨ji14, hji14⟩ : ∃ j_ : Int, (IntKind.u64.wrap (Int.tmod x4_1 8)) = j_ := ⟨_, rfl⟩
                    replace H : (if 0 ≤ (ji14) then (tithebarnref03_Bytes.l0 k1 l0 (x3_1.set ((ji11) : Int).toNat (((rd x3_1 (ji11)) + (shl .u8 1 (ji14))) % 256)) (wrap64 (x4_1 + 1))) else (none)) = some r := by first | (rw [hji14] at H; exact H) | (simp only [hji14] at H ⊢; exact H)
                    by_cases c15 : 0 ≤ (ji14)
                    · rw [if_pos c15] at H
                      have c15b0 := eq_true c15
                      have c15b1 : decide (0 ≤ (ji14)) = true := decide_eq_true c15
                      clear c15
                      obtain ⟨ji16, hji16⟩ : ∃ j_ : Int, (shl .u8 1 (ji14)) = j_ := ⟨_, rfl⟩
                      replace H : (tithebarnref03_Bytes.l0 k1 l0 (x3_1.set ((ji11) : Int).toNat (((rd x3_1 (ji11)) + (ji16)) % 256)) (wrap64 (x4_1 + 1))) = some r := by first | (rw [hji16] at H; exact H) | (simp only [hji16] at H ⊢; exact H)
                      have hji16_ : (IntKind.u8.wrap (1 * 2 ^ min (ji14).toNat 8)) = ji16 := hji16
                      have hji16z : (ji14) ≤ 8 → (IntKind.u8.wrap (1 * 2 ^ (ji14).toNat)) = ji16 := shl_small hji16
                      have hji16u : (IntKind.u8.wrap (2 ^ min (ji14).toNat 8)) = ji16 := by have h_ := hji16_; rw [Int.one_mul] at h_; exact h_
                      have hji16v : (ji14) ≤ 8 → (IntKind.u8.wrap (2 ^ (ji14).toNat)) = ji16 := fun hle_ => by have h_ := hji16z hle_; rw [Int.one_mul] at h_; exact h_
                      obtain ⟨y268, hy268⟩ : ∃ y_ : List Int, y_ = (x3_1.set ((ji11) : Int).toNat (((rd x3_1 (ji11)) + (ji16)) % 256)) := ⟨_, rfl⟩
                      replace H : (tithebarnref03_Bytes.l0 k1 l0 y268 (wrap64 (x4_1 + 1))) = some r := by first | (rw [hy268]; with_reducible exact H) | (have H2_ := (Option.bind_some _ _).symm.trans H; rw [hy268]; with_reducible exact H2_) | (have H2_ := (Option.bind_some _ _).symm.trans H; with_reducible exact H2_) | with_reducible exact H | (rw [hy268]; exact H) | exact H
                      have Ny268 := Aside0.mk hy268
                      clear hy268
                      have H' := Aside0.mk H
                      clear H
                      have p266 : 0 ≤ (x4_1 : Int) := of_decide_eq_true (by first | (with_reducible assumption) | assumption)
                      have q266 : x4_1 < (l0.length : Int) := of_decide_eq_true (by first | (with_reducible assumption) | assumption)
                      obtain ⟨ad266, e266, hx266_0⟩ := Kd.at_bool HR0.out x4_1 p266 q266
                      (try rw [← Nbq9.out] at hx266_0)
                      cases e266
                      replace hx266_0 := (HB.out.cell (World.block_lt_of_cell? w _ hx266_0)).trans hx266_0
                      replace p266 := eq_true p266
                      replace q266 := eq_true q266
                      obtain ⟨Ao18, co18, eo18⟩ := Kd.R_slice HO_3.out
                      subst eo18
                      have p267 : 0 ≤ ((ji11) : Int) := of_decide_eq_true (by first | (with_reducible assumption) | assumption)
                      have q267 : (ji11) < (x3_1.length : Int) := of_decide_eq_true (by first | (with_reducible assumption) | assumption)
                      obtain ⟨ad267, e267, hx267_0⟩ := Kd.at_int (Kd.R_reads' HO_3.out).2.2 (ji11) p267 q267
                      cases e267
                      replace p267 := eq_true p267
                      replace q267 := eq_true q267
                      have p17 : 0 ≤ ((ji11) : Int) := of_decide_eq_true (by first | (with_reducible assumption) | assumption)
                      have q17 : ((ji11) : Int) < ((x3_1.length : Int) : Int) := of_decide_eq_true (by first | (with_reducible assumption) | assumption)
                      obtain ⟨go17, co17, eo17, gb17, gl17, cl17, HG17⟩ := Kd.R_form HO_3.out (by omega)
                      (first | cases eo17 | (injection eo17 with ea_ en_ ec_; (first | subst ea_ | (injection ea_ with ea_; subst ea_)); subst ec_; clear en_))
                      have GB17 := Aside0.mk gb17
                      have GG17 := Aside0.mk HG17
                      clear gb17 gl17 HG17
                      (first | simp only [add_plain] at hx267_0 | skip)
                      obtain ⟨hx17_0, hf17_0⟩ := Kd.R_celln 0 HO_3.out ((ji11) : Int) p17 q17
                      replace p17 := eq_true p17
                      replace q17 := eq_true q17
                      have HP19 := Kd.R_putg HO_3.out ((ji11) : Int) (((rd x3_1 (ji11)) + (ji16)) % 256)
                      go_wp2_with (first | ((with_reducible refine gate_store (t := 5) (p := 30) rfl ?_); refine store_event (t := 5) (p := 30) (v := ?vo_w20) (w1 := (wr.setCell ⟨go17, ((ji11) : Int).toNat, none⟩ (.int .u8 (((rd x3_1 (ji11)) + (ji16)) % 256)))) ?hg ?ho ?hn ?hr ?_; (case ho => rfl); (case hg => rfl); (case hn => rfl); (case hr => first | (go_simp; done) | (go_simp; rfl)); intro w20 hw; have hg : wr.grownBy w20 (some go17) := (by rw [hw]; exact HP19.2); have hp_ : Kd.R (Kd.int .u8) 5 w20 w.heap.size (fun _ => True) (.slice (some ⟨go17, 0, none⟩) x3_1.length co18) y268 := (by rw [hw, Ny268.out]; exact HP19.1); clear HP19; have n0_ := Aside0.mk (hp_); have n1_ := Aside0.mk ((by rw [hw]; exact below_set (HB.out) GB17.out : Below w.heap.size w w20)); clear HO_3; clear HB; have HO_3 := n0_; have HB := n1_; clear n0_ n1_; clear hg hw hp_))
                      go_roundg k1
                      case measure => have := HK1.out; omega
                      case rel => exact ⟨(y268), (wrap64 (x4_1 + 1)), (by first | rfl | (simp; done) | (simp [*]; done)), H', ⟨by have := HK1.out; omega⟩, ⟨by (with_reducible repeat (first | apply Kd.R_alloc | apply Kd.R_drewN | apply Kd.R_drew)); exact HO_3.out⟩, ⟨by repeat (first | (with_reducible first | exact HB.out | apply below_alloc | apply pw_below_drewN | apply below_drew1) | exact HB.out)⟩⟩
                    · rw [if_neg c15] at H
                      exact absurd H (by simp)
                  · rw [if_neg c13] at H
                    exact absurd H (by simp)
                · rw [if_neg c12] at H
                  exact absurd H (by simp)
              · replace c10 := Bool.eq_false_iff.mpr c10
                subst c10
                have H1 : (tithebarnref03_Bytes.l0 k1 l0 x3_1 (wrap64 (x4_1 + 1))) = some r := by rw [if_neg (show ¬ (false = true) by decide)] at H; exact H
                clear H
                have H := H1
                clear H1
                have H' := Aside0.mk H
                clear H
                have p266 : 0 ≤ (x4_1 : Int) := of_decide_eq_true (by first | (with_reducible assumption) | assumption)
                have q266 : x4_1 < (l0.length : Int) := of_decide_eq_true (by first | (with_reducible assumption) | assumption)
                obtain ⟨ad266, e266, hx266_0⟩ := Kd.at_bool HR0.out x4_1 p266 q266
                (try rw [← Nbq9.out] at hx266_0)
                cases e266
                replace hx266_0 := (HB.out.cell (World.block_lt_of_cell? w _ hx266_0)).trans hx266_0
                replace p266 := eq_true p266
                replace q266 := eq_true q266
                go_wp2
                go_roundg k1
                case measure => have := HK1.out; omega
                case rel => exact ⟨(x3_1), (wrap64 (x4_1 + 1)), (by first | rfl | (simp; done) | (simp [*]; done)), H', ⟨by have := HK1.out; omega⟩, ⟨by (with_reducible repeat (first | apply Kd.R_alloc | apply Kd.R_drewN | apply Kd.R_drew)); exact HO_3.out⟩, ⟨by repeat (first | (with_reducible first | exact HB.out | apply below_alloc | apply pw_below_drewN | apply below_drew1) | exact HB.out)⟩⟩
            · rw [if_neg c8] at H
              exact absurd H (by simp)
          · rw [if_neg c7] at H
            have c7b0 : decide (x4_1 < (l0.length : Int)) = false := decide_eq_false c7
            clear c7
            obtain rfl := Option.some.inj H
            have hcv21 := own_string (P := Try.prog) Try.underlying36 Try.underlying5 Try.underlying9 (Kd.own_of_R HO_3.out)
            go_wp2
            go_ret
            exact ⟨by first | rfl | (simp [errW_none, errW_some] <;> rfl) | (simp only [← hji2]; first | rfl | (simp [errW_none, errW_some] <;> rfl)) | (simp [*, errW_none, errW_some] <;> rfl), by repeat (first | (with_reducible first | exact HB.out | apply below_alloc | apply pw_below_drewN | apply below_drew1) | exact HB.out)⟩
    · rw [if_neg c4] at H
      exact absurd H (by simp)
  · rw [if_neg c3] at H
    exact absurd H (by simp)
mutual
def tithebarnref03_Pack.j0 : Nat → List Int → Int → Bool → Option (ByteArray × Int)
  | 0, _, _, _ => none
  | k + 1, x0, x1, x14 => if x14 = true then (some ((⟨#[]⟩ : ByteArray), 1)) else (tithebarnref03_Pack.l0 k x0 x1 ([] : List Bool) 0)
def tithebarnref03_Pack.l0 : Nat → List Int → Int → List Bool → Int → Option (ByteArray × Int)
  | 0, _, _, _, _ => none
  | k + 1, x0, x1, x6, x7 => if x7 < (x0.length : Int) then (if 0 ≤ x7 then ((tithebarnref03_fits.f (rd x0 x7) x1).bind fun t271 => (if t271 = true then (tithebarnref03_Pack.l1 k x0 x1 x6 x7 0) else (some ((⟨#[]⟩ : ByteArray), 4)))) else (none)) else ((tithebarnref03_Bytes.f k x6).bind fun t269 => (some (t269, 0)))
def tithebarnref03_Pack.l1 : Nat → List Int → Int → List Bool → Int → Int → Option (ByteArray × Int)
  | 0, _, _, _, _, _ => none
  | k + 1, x0, x1, x6, x7, x8 => if x8 < x1 then (if 0 ≤ x7 then (if x7 < (x0.length : Int) then (if 0 ≤ (IntKind.u64.wrap (x8)) then (if x6.length < 140737488355328 then (tithebarnref03_Pack.l1 k x0 x1 (x6 ++ [((Int.tmod (shr .u64 (rd x0 x7) (IntKind.u64.wrap (x8))) 2) == 1)]) x7 (wrap64 (x8 + 1))) else (none)) else (none)) else (none)) else (none)) else (tithebarnref03_Pack.l0 k x0 x1 x6 (wrap64 (x7 + 1)))
end
def tithebarnref03_Pack.f (k : Nat) (l0 : List Int) (a1 : Int) : Option (ByteArray × Int) := if a1 < 0 then (tithebarnref03_Pack.j0 k l0 a1 true) else (tithebarnref03_Pack.j0 k l0 a1 (decide (a1 > 64)))
set_option maxHeartbeats 8000000 in
set_option maxRecDepth 100000 in
theorem tithebarnref03_Pack.calls (k : Nat) (A0 : Option Addr) (c0 : Nat) (l0 : List Int) (a1 : Int) (r1 : ByteArray) (r2 : Int) (w : World) (hr0 : Kd.C (Kd.int .u64) w A0 l0.length l0) (hc0 : l0.length ≤ c0) (h : tithebarnref03_Pack.f k l0 a1 = some (r1, r2)) :
    Calls Try.prog 31 #[.slice A0 l0.length c0, .int .i64 a1] w fun e w' => e = .returned (.tuple #[.string r1, .int .i64 r2]) ∧ Below w.heap.size w w' := by
  have HR0 := Aside0.mk hr0
  have HC0 := Aside0.mk hc0
  clear hr0 hc0
  have HB := Aside0.mk (Below.refl w.heap.size w)
  have H : (if a1 < 0 then (tithebarnref03_Pack.j0 k l0 a1 true) else (tithebarnref03_Pack.j0 k l0 a1 (decide (a1 > 64)))) = some (r1, r2) := h
  clear h
  have HC3 := Aside0.mk H
  clear H
  go_enter Try.func31, Try.ntmps31
  go_upto_region 1 with (fail)
  go_cut [14] (fun v14 wc => ∃ (kq : Nat) (x14_2 : Bool), v14 = .bool x14_2 ∧ Aside0 (tithebarnref03_Pack.j0 kq l0 a1 x14_2 = some (r1, r2)) ∧ Aside0 (kq ≤ k) ∧ Aside0 (Below w.heap.size w wc))
  case first =>
    have H := HC3.out
    clear HC3
    by_cases c4 : a1 < 0
    · rw [if_pos c4] at H
      have c4b0 : decide (a1 < 0) = true := decide_eq_true c4
      clear c4
      (first | rw [c4b0] | (simp only [i64_w, i32_w]; rw [c4b0]) | skip)
      have H' := Aside0.mk H
      clear H
      go_wp2
      go_meet
      case rel => exact ⟨_, (true), (by first | rfl | (simp; done) | (simp [*]; done)), H', ⟨by first | omega | exact Nat.le_refl _⟩, ⟨by repeat (first | (with_reducible first | exact HB.out | apply below_alloc | apply pw_below_drewN | apply below_drew1) | exact HB.out)⟩⟩
    · rw [if_neg c4] at H
      have c4b0 : decide (a1 < 0) = false := decide_eq_false c4
      clear c4
      (first | rw [c4b0] | (simp only [i64_w, i32_w]; rw [c4b0]) | skip)
      have H' := Aside0.mk H
      clear H
      go_wp2
      go_meet
      case rel => exact ⟨_, (decide (a1 > 64)), (by first | rfl | (simp; done) | (simp [*]; done)), H', ⟨by first | omega | exact Nat.le_refl _⟩, ⟨by repeat (first | (with_reducible first | exact HB.out | apply below_alloc | apply pw_below_drewN | apply below_drew1) | exact HB.out)⟩⟩
  case rest =>
    clear HC3
    try clear p2
    try clear c3
    try clear c4
    try clear c4b0
    obtain ⟨kq, x14_2, rfl, HA, HJ2, HB⟩ := hcut
    cases kq with
    | zero => exact absurd HA.out (by simp [tithebarnref03_Pack.j0])
    | succ kj2 =>
      have H := HA.out
      clear HA
      simp only [tithebarnref03_Pack.j0] at H
      by_cases c5 : x14_2 = true
      · subst c5
        have H1 : (some ((⟨#[]⟩ : ByteArray), 1)) = some (r1, r2) := by rw [if_pos rfl] at H; exact H
        clear H
        have H := H1
        clear H1
        simp only [Option.some.injEq, Prod.mk.injEq] at H
        obtain ⟨rfl, rfl⟩ := H
        go_wp2
        go_ret2
        exact ⟨by first | rfl | (simp [errW_none, errW_some] <;> rfl) | (simp [*, errW_none, errW_some] <;> rfl), by repeat (first | (with_reducible first | exact HB.out | apply below_alloc | apply pw_below_drewN | apply below_drew1) | exact HB.out)⟩
      · replace c5 := Bool.eq_false_iff.mpr c5
        subst c5
        have H1 : (tithebarnref03_Pack.l0 kj2 l0 a1 ([] : List Bool) 0) = some (r1, r2) := by rw [if_neg (show ¬ (false = true) by decide)] at H; exact H
        clear H
        have H := H1
        clear H1
        have H' := Aside0.mk H
        clear H
        go_wp2
        go_loopg [6, 7] kj2 (fun kq v6 v7 w' => ∃ (x6_2 : List Bool) (x7_2 : Int), v7 = .int .i64 x7_2 ∧ Aside0 (tithebarnref03_Pack.l0 kq l0 a1 x6_2 x7_2 = some (r1, r2)) ∧ Aside0 (kq ≤ kj2) ∧ Aside0 (Kd.R Kd.bool 4 w' w.heap.size (fun _ => True) v6 x6_2) ∧ Aside0 (Below w.heap.size w w'))
        case atStart => exact ⟨(([] : List Bool)), (0), (by first | rfl | (simp; done) | (simp [*]; done)), H', ⟨Nat.le_refl _⟩, ⟨by first | exact Kd.R_nil _ _ _ _ _ | exact Kd.N_nil _ _ _ _ _ | exact Kd.V_nil _ _ _ _ _ | exact Kd.Q_nil _ _ _ _ _ | exact Kd.S_nil _ _ _ _ _⟩, ⟨by repeat (first | (with_reducible first | exact HB.out | apply below_alloc | apply pw_below_drewN | apply below_drew1) | exact HB.out)⟩⟩
        case round =>
          clear H'
          try clear p2
          try clear c3
          try clear c4
          try clear c4b0
          try clear c5
          try clear p2
          obtain ⟨x6_2, x7_2, rfl, HA, HK2, HO_6, HB⟩ := hrel
          cases gk with
          | zero => exact absurd HA.out (by simp [tithebarnref03_Pack.l0])
          | succ k2 =>
            have H := HA.out
            clear HA
            simp only [tithebarnref03_Pack.l0] at H
            by_cases c6 : x7_2 < (l0.length : Int)
            · rw [if_pos c6] at H
              have c6b0 : decide (x7_2 < (l0.length : Int)) = true := decide_eq_true c6
              clear c6
              by_cases c7 : 0 ≤ x7_2
              · rw [if_pos c7] at H
                have c7b0 : decide (0 ≤ x7_2) = true := decide_eq_true c7
                clear c7
                replace H := Option.bind_eq_some_iff.mp H
                obtain ⟨t271, A80, H⟩ := H
                replace H : (if t271 = true then (tithebarnref03_Pack.l1 k2 l0 a1 x6_2 x7_2 0) else (some ((⟨#[]⟩ : ByteArray), 4))) = some (r1, r2) := H
                have A8 := Aside0.mk A80
                clear A80
                by_cases c9 : t271 = true
                · subst c9
                  have H1 : (tithebarnref03_Pack.l1 k2 l0 a1 x6_2 x7_2 0) = some (r1, r2) := by rw [if_pos rfl] at H; exact H
                  clear H
                  have H := H1
                  clear H1
                  have H' := Aside0.mk H
                  clear H
                  have p270 : 0 ≤ (x7_2 : Int) := of_decide_eq_true (by first | (with_reducible assumption) | assumption)
                  have q270 : x7_2 < (l0.length : Int) := of_decide_eq_true (by first | (with_reducible assumption) | assumption)
                  obtain ⟨ad270, e270, hx270_0⟩ := Kd.at_int HR0.out x7_2 p270 q270
                  cases e270
                  replace hx270_0 := (HB.out.cell (World.block_lt_of_cell? w _ hx270_0)).trans hx270_0
                  replace p270 := eq_true p270
                  replace q270 := eq_true q270
                  go_wp2_with (first | ((with_reducible refine gate_callee (f := 56) rfl ?_); refine goesL_ (some 26) rfl rfl Try.func56 (by kernel_rfl) rfl #[.int .u64 (rd l0 x7_2), .int .i64 a1] rfl (by (try simp only [List.map_toArray, List.map_cons, List.map_nil]); first | done | rfl | (simp only [List.length_drop, List.length_take]; rfl)) ?_; (with_reducible refine (tithebarnref03_fits.calls (rd l0 x7_2) a1 true _ A8.out).mono ?_); rintro e w' ⟨rfl, ⟨nd, rfl⟩⟩; refine ⟨_, rfl, ?_⟩))
                  go_loopg [6, 8] k2 (fun kq v6 v8 w' => ∃ (x6_3 : List Bool) (x8_3 : Int), v8 = .int .i64 x8_3 ∧ Aside0 (tithebarnref03_Pack.l1 kq l0 a1 x6_3 x7_2 x8_3 = some (r1, r2)) ∧ Aside0 (kq ≤ k2) ∧ Aside0 (Kd.R Kd.bool 4 w' w.heap.size (fun _ => True) v6 x6_3) ∧ Aside0 (Below w.heap.size w w'))
                  case atStart => exact ⟨(x6_2), (0), (by first | rfl | (simp; done) | (simp [*]; done)), H', ⟨Nat.le_refl _⟩, ⟨by (with_reducible repeat (first | apply Kd.R_alloc | apply Kd.R_drewN | apply Kd.R_drew)); exact HO_6.out⟩, ⟨by repeat (first | (with_reducible first | exact HB.out | apply below_alloc | apply pw_below_drewN | apply below_drew1) | exact HB.out)⟩⟩
                  case round =>
                    clear H'
                    try clear p2
                    try clear q2
                    try clear hx2
                    try clear c3
                    try clear c4
                    try clear c4b0
                    try clear c5
                    try clear c6
                    try clear c6b0
                    try clear c7
                    try clear c7b0
                    try clear c9
                    try clear hx270_0
                    try clear p2
                    try clear p270
                    try clear q270
                    obtain ⟨x6_3, x8_3, rfl, HA, HK3, HO_6, HB⟩ := hrel
                    cases gk with
                    | zero => exact absurd HA.out (by simp [tithebarnref03_Pack.l1])
                    | succ k3 =>
                      have H := HA.out
                      clear HA
                      simp only [tithebarnref03_Pack.l1] at H
                      by_cases c10 : x8_3 < a1
                      · rw [if_pos c10] at H
                        have c10b0 : decide (x8_3 < a1) = true := decide_eq_true c10
                        clear c10
                        by_cases c11 : 0 ≤ x7_2
                        · rw [if_pos c11] at H
                          have c11b0 : decide (0 ≤ x7_2) = true := decide_eq_true c11
                          clear c11
                          by_cases c12 : x7_2 < (l0.length : Int)
                          · rw [if_pos c12] at H
                            have c12b0 : decide (x7_2 < (l0.length : Int)) = true := decide_eq_true c12
                            clear c12
                            obtain ⟨ji13, hji13⟩ : ∃ j_ : Int, (IntKind.u64.wrap (x8_3)) = j_ := ⟨_, rfl⟩
                            replace H : (if 0 ≤ (ji13) then (if x6_3.length < 140737488355328 then (tithebarnref03_Pack.l1 k3 l0 a1 (x6_3 ++ [((Int.tmod (shr .u64 (rd l0 x7_2) (ji13)) 2) == 1)]) x7_2 (wrap64 (x8_3 + 1))) else (none)) else (none)) = some (r1, r2) := by first | (rw [hji13] at H; exact H) | (simp only [hji13] at H ⊢; exact H)
                            by_cases c14 : 0 ≤ (ji13)
                            · rw [if_pos c14] at H
                              have c14b0 := eq_true c14
                              have c14b1 : decide (0 ≤ (ji13)) = true := decide_eq_true c14
                              clear c14
                              obtain ⟨ji15, hji15⟩ : ∃ j_ : Int, (shr .u64 (rd l0 x7_2) (ji13)) = j_ := ⟨_, rfl⟩
                              replace H : (if x6_3.length < 140737488355328 then (tithebarnref03_Pack.l1 k3 l0 a1 (x6_3 ++ [((Int.tmod (ji15) 2) == 1)]) x7_2 (wrap64 (x8_3 + 1))) else (none)) = some (r1, r2) := by first | (rw [hji15] at H; exact H) | (simp only [hji15] at H ⊢; exact H)
                              have hji15_ : ((rd l0 x7_2) / 2 ^ min (ji13).toNat 64) = ji15 := hji15
                              have hji15z : (ji13) ≤ 64 → ((rd l0 x7_2) / 2 ^ (ji13).toNat) = ji15 := shr_small hji15
                              by_cases c16 : x6_3.length < 140737488355328
                              · rw [if_pos c16] at H
                                have LMc16 := Aside0.mk c16
                                clear c16
                                obtain ⟨y273, hy273⟩ : ∃ y_ : List Bool, y_ = (x6_3 ++ [((Int.tmod (ji15) 2) == 1)]) := ⟨_, rfl⟩
                                replace H : (tithebarnref03_Pack.l1 k3 l0 a1 y273 x7_2 (wrap64 (x8_3 + 1))) = some (r1, r2) := by first | (rw [hy273]; with_reducible exact H) | (have H2_ := (Option.bind_some _ _).symm.trans H; rw [hy273]; with_reducible exact H2_) | (have H2_ := (Option.bind_some _ _).symm.trans H; with_reducible exact H2_) | with_reducible exact H | (rw [hy273]; exact H) | exact H
                                have Ny273 := Aside0.mk hy273
                                clear hy273
                                have H' := Aside0.mk H
                                clear H
                                have p272 : 0 ≤ (x7_2 : Int) := of_decide_eq_true (by first | (with_reducible assumption) | assumption)
                                have q272 : x7_2 < (l0.length : Int) := of_decide_eq_true (by first | (with_reducible assumption) | assumption)
                                obtain ⟨ad272, e272, hx272_0⟩ := Kd.at_int HR0.out x7_2 p272 q272
                                obtain rfl : ad270 = ad272 := (by injection e272)
                                replace hx272_0 := (HB.out.cell (World.block_lt_of_cell? w _ hx272_0)).trans hx272_0
                                replace p272 := eq_true p272
                                replace q272 := eq_true q272
                                go_wp2_with (first | ((with_reducible refine gate_builtin (b := .append) (xs := #[.tmp 33, .tmp 43]) rfl ?_); at_builtin; refine Kd.R_append Kd.bool (w0 := w) w.heap.size rfl (.tmp 33) (.tmp 43) 77 4 (.bool false) 1 rfl Try.underlying77 info4 rfl (by decide) (by omega) u6 x6_3 ((Int.tmod (ji15) 2) == 1) [.bool ((Int.tmod (ji15) 2) == 1)] (fun _ => True) (fun _ => False) rfl rfl ?aP (fun _ hk => hk.elim) ?aF ?aO ?aB ?aS ?aL ?_; (case aP => exact rfl); (case aB => exact (by repeat (first | (with_reducible first | exact HB.out | apply below_alloc | apply pw_below_drewN | apply below_drew1) | exact HB.out))); (case aF => exact (fun _ _ => trivial)); (case aO => exact (by (with_reducible repeat (first | apply Kd.R_alloc | apply Kd.R_drewN | apply Kd.R_drew)); exact HO_6.out)); (case aS => exact (below_size (by repeat (first | (with_reducible first | exact HB.out | apply below_alloc | apply pw_below_drewN | apply below_drew1) | exact HB.out)))); (case aL => have := LMc16.out; omega); intro v274 w17 ho hb hg hat; rw [← Ny273.out] at ho; have n0_ := Aside0.mk (hb); have n1_ := Aside0.mk (ho); clear HB; clear HO_6; have HB := n0_; have HO275 := n1_; clear n0_ n1_; clear ho hb hg hat))
                                go_roundg k3
                                case measure => have := HJ2.out; have := HK2.out; have := HK3.out; omega
                                case rel => exact ⟨(y273), (wrap64 (x8_3 + 1)), (by first | rfl | (simp; done) | (simp [*]; done)), H', ⟨by have := HJ2.out; have := HK2.out; have := HK3.out; omega⟩, ⟨by (with_reducible repeat (first | apply Kd.R_alloc | apply Kd.R_drewN | apply Kd.R_drew)); exact HO275.out⟩, ⟨by repeat (first | (with_reducible first | exact HB.out | apply below_alloc | apply pw_below_drewN | apply below_drew1) | exact HB.out)⟩⟩
                              · rw [if_neg c16] at H
                                exact absurd H (by simp)
                            · rw [if_neg c14] at H
                              exact absurd H (by simp)
                          · rw [if_neg c12] at H
                            exact absurd H (by simp)
                        · rw [if_neg c11] at H
                          exact absurd H (by simp)
                      · rw [if_neg c10] at H
                        have c10b0 : decide (x8_3 < a1) = false := decide_eq_false c10
                        clear c10
                        have H' := Aside0.mk H
                        clear H
                        go_wp2
                        go_roundg k3
                        case measure => have := HJ2.out; have := HK2.out; have := HK3.out; omega
                        case rel => exact ⟨(x6_3), (wrap64 (x7_2 + 1)), (by first | rfl | (simp; done) | (simp [*]; done)), H', ⟨by have := HJ2.out; have := HK2.out; have := HK3.out; omega⟩, ⟨by (with_reducible repeat (first | apply Kd.R_alloc | apply Kd.R_drewN | apply Kd.R_drew)); exact HO_6.out⟩, ⟨by repeat (first | (with_reducible first | exact HB.out | apply below_alloc | apply pw_below_drewN | apply below_drew1) | exact HB.out)⟩⟩
                · replace c9 := Bool.eq_false_iff.mpr c9
                  subst c9
                  have H1 : (some ((⟨#[]⟩ : ByteArray), 4)) = some (r1, r2) := by rw [if_neg (show ¬ (false = true) by decide)] at H; exact H
                  clear H
                  have H := H1
                  clear H1
                  simp only [Option.some.injEq, Prod.mk.injEq] at H
                  obtain ⟨rfl, rfl⟩ := H
                  have p270 : 0 ≤ (x7_2 : Int) := of_decide_eq_true (by first | (with_reducible assumption) | assumption)
                  have q270 : x7_2 < (l0.length : Int) := of_decide_eq_true (by first | (with_reducible assumption) | assumption)
                  obtain ⟨ad270, e270, hx270_0⟩ := Kd.at_int HR0.out x7_2 p270 q270
                  cases e270
                  replace hx270_0 := (HB.out.cell (World.block_lt_of_cell? w _ hx270_0)).trans hx270_0
                  replace p270 := eq_true p270
                  replace q270 := eq_true q270
                  go_wp2_with (first | ((with_reducible refine gate_callee (f := 56) rfl ?_); refine goesL_ (some 26) rfl rfl Try.func56 (by kernel_rfl) rfl #[.int .u64 (rd l0 x7_2), .int .i64 a1] rfl (by (try simp only [List.map_toArray, List.map_cons, List.map_nil]); first | done | rfl | (simp only [List.length_drop, List.length_take]; rfl)) ?_; (with_reducible refine (tithebarnref03_fits.calls (rd l0 x7_2) a1 false _ A8.out).mono ?_); rintro e w' ⟨rfl, ⟨nd, rfl⟩⟩; refine ⟨_, rfl, ?_⟩))
                  go_ret2
                  exact ⟨by first | rfl | (simp [errW_none, errW_some] <;> rfl) | (simp [*, errW_none, errW_some] <;> rfl), by repeat (first | (with_reducible first | exact HB.out | apply below_alloc | apply pw_below_drewN | apply below_drew1) | exact HB.out)⟩
              · rw [if_neg c7] at H
                exact absurd H (by simp)
            · rw [if_neg c6] at H
              have c6b0 : decide (x7_2 < (l0.length : Int)) = false := decide_eq_false c6
              clear c6
              replace H := Option.bind_eq_some_iff.mp H
              obtain ⟨t269, A180, H⟩ := H
              replace H : (some (t269, 0)) = some (r1, r2) := H
              have A18 := Aside0.mk A180
              clear A180
              simp only [Option.some.injEq, Prod.mk.injEq] at H
              obtain ⟨rfl, rfl⟩ := H
              obtain ⟨Ao19, co19, eo19⟩ := Kd.R_slice HO_6.out
              subst eo19
              go_wp2_with (first | ((with_reducible refine gate_callee (f := 57) rfl ?_); refine goesL_ (some 46) rfl rfl Try.func57 (by kernel_rfl) rfl #[.slice Ao19 x6_2.length co19] rfl (by (try simp only [List.map_toArray, List.map_cons, List.map_nil]); first | done | rfl | (simp only [List.length_drop, List.length_take]; rfl)) ?_; (with_reducible refine (tithebarnref03_Bytes.calls k2 _ _ x6_2 t269 _ ?side1 ?side2 A18.out).mono ?_); (case side1 => repeat (first | exact (Kd.R_reads' HO_6.out).2.2 | (with_reducible refine Kd.C_alloc ?_ _) | (with_reducible refine Kd.C_drewN ?_ _) | (with_reducible refine Kd.C_drew ?_))); (case side2 => exact (Kd.R_reads' HO_6.out).2.1); rintro e w20 ⟨rfl, hb⟩; refine ⟨_, rfl, ?_⟩; have n0_ := Aside0.mk (Kd.R_below (by (with_reducible repeat (first | apply Kd.R_alloc | apply Kd.R_drewN | apply Kd.R_drew)); exact HO_6.out) hb); have n1_ := Aside0.mk (below_step (by repeat (first | (with_reducible first | exact HB.out | apply below_alloc | apply pw_below_drewN | apply below_drew1) | exact HB.out)) hb); clear HO_6; clear HB; have HO_6 := n0_; have HB := n1_; clear n0_ n1_; (try clear hb); (try clear hb2); (try clear hk); (try clear hi)))
              go_ret2
              exact ⟨by first | rfl | (simp [errW_none, errW_some] <;> rfl) | (simp [*, errW_none, errW_some] <;> rfl), by repeat (first | (with_reducible first | exact HB.out | apply below_alloc | apply pw_below_drewN | apply below_drew1) | exact HB.out)⟩
end Go.Proofs.Ytimjafjicnlhfaa.A
