/- tally.next: the number that comes next. -/
import Derived.Test.YtojcbknclfamhaaGreatDoorKpAx0
namespace Go.Proofs.YtojcbknclfamhaaGreatDoor.A
open Go.RowKit Go.Proofs.YtojcbknclfamhaaGreatDoorW.PrintWords Go.Proofs.YtojcbknclfamhaaGreatDoorW.PrintLast Go.Proofs.YtojcbknclfamhaaGreatDoorW.PrintMore
set_option linter.unusedVariables false
set_option linter.unusedSimpArgs false
def foldB (x : Int) (l : List UInt8) : Int := l.foldl (fun a c => a * 256 + c.toNat) x
def sizeN (b : Int) : Nat := if b < 64 then 1 else if b < 128 then 2 else if b < 192 then 4 else 9
def leastN (n : Nat) : Int := if n = 2 then 64 else if n = 4 then 16384 else if n = 9 then 1073741824 else 0
def nextP (s : ByteArray) : Int × ByteArray × Int :=
  if s.size = 0 then (0, s, 2) else
  if 192 < bt s 0 then (0, s, 5) else
  if s.size < sizeN (bt s 0) then (0, s, 2) else
  if foldB (if bt s 0 = 192 then 0 else bt s 0 % 64) ((s.data.toList.take (sizeN (bt s 0))).drop 1) < leastN (sizeN (bt s 0)) then (0, s, 5) else
  (foldB (if bt s 0 = 192 then 0 else bt s 0 % 64) ((s.data.toList.take (sizeN (bt s 0))).drop 1), s.extract (sizeN (bt s 0)) s.size, 0)
def tally_next.f (a0 : ByteArray) : Option (Int × ByteArray × Int) := some (nextP a0)
theorem data_len (s : ByteArray) : s.data.toList.length = s.size := rfl
theorem foldB_append (x : Int) (l m : List UInt8) : foldB x (l ++ m) = foldB (foldB x l) m := List.foldl_append
theorem foldB_step (x : Int) (l : List UInt8) (j : Nat) (hj : j < l.length) : foldB x (l.take (j + 1)) = foldB x (l.take j) * 256 + ((l.getD j 0).toNat : Int) := by
  rw [List.take_add_one, List.getElem?_eq_getElem hj, foldB_append]
  simp [foldB, List.getD, List.getElem?_eq_getElem hj]
theorem byte_range (c : UInt8) : 0 ≤ (c.toNat : Int) ∧ (c.toNat : Int) < 256 := by have := c.toNat_lt; omega
theorem foldB_le : ∀ (m : List UInt8) (y : Int), 0 ≤ y → 0 ≤ foldB y m ∧ foldB y m < (y + 1) * 256 ^ m.length := by
  intro m
  induction m with
  | nil => intro y hy; simp [foldB]; omega
  | cons c m ih =>
    intro y hy
    have hc := byte_range c
    have h1 := ih (y * 256 + c.toNat) (by omega)
    refine ⟨h1.1, Int.lt_of_lt_of_le h1.2 ?_⟩
    rw [List.length_cons, Int.pow_succ, Int.mul_comm (256 ^ m.length) 256, ← Int.mul_assoc]
    exact Int.mul_le_mul_of_nonneg_right (by omega) (Int.pow_nonneg (by omega))
theorem pow_le256 (a b : Nat) (h : a ≤ b) : (256 : Int) ^ a ≤ 256 ^ b := by
  have h2 : ((256 ^ a : Nat) : Int) ≤ ((256 ^ b : Nat) : Int) := Int.ofNat_le.2 (Nat.pow_le_pow_right (by decide) h)
  simpa using h2
theorem foldB_range (x : Int) (l : List UInt8) (n : Nat) (hl : l.length ≤ n) (hx : 0 ≤ x ∧ x < 64 ∧ n ≤ 6 ∨ x = 0 ∧ n ≤ 7) : 0 ≤ foldB x l ∧ foldB x l < 72057594037927936 := by
  have hk := foldB_le l x (by omega)
  refine ⟨hk.1, Int.lt_of_lt_of_le hk.2 ?_⟩
  rcases hx with ⟨h0, h1, h2⟩ | ⟨rfl, h2⟩
  · have hp : (256 : Int) ^ l.length ≤ 256 ^ 6 := pow_le256 _ _ (by omega)
    exact Int.le_trans (Int.mul_le_mul (show x + 1 ≤ 64 by omega) hp (Int.pow_nonneg (by omega)) (by omega)) (by decide)
  · have hp : (256 : Int) ^ l.length ≤ 256 ^ 7 := pow_le256 _ _ (by omega)
    simpa using Int.le_trans hp (by decide)
theorem getD_part (l : List UInt8) (n j : Nat) (h : j + 1 < n) : l.getD (1 + j) 0 = ((l.take n).drop 1).getD j 0 := by
  simp only [List.getD, List.getElem?_drop, List.getElem?_take, if_pos (show 1 + j < n by omega)]
theorem or_byte (x c : Int) (h0 : 0 ≤ x) (h1 : x < 72057594037927936) (h2 : 0 ≤ c) (h3 : c < 256) : Go.bits .or .u64 (x * 256) c = x * 256 + c := by
  exact bits_join .u64 64 (by decide) (fun n h0 h1 => IntWalk.u64_in _ (by simp at h1; omega)) 8 _ _ (by omega) (by omega) (by simp; omega) h2 (by simpa using h3) (by simp; omega)
theorem bytesW_below (w : World) (e : TypeId) (s : ByteArray) : Below w.heap.size w (Lib.bytesWorld w e s) := bytes_below (Below.refl _ _) (Nat.le_refl _) e s
theorem bytesW_cell (w : World) (e : TypeId) (s : ByteArray) (n j : Nat) (hn : n ≤ s.size) (hj : j + 1 < n) : (Lib.bytesWorld w e (s.extract 1 n)).cell? ⟨w.heap.size, j, none⟩ = some (.int .u8 (s.data.toList.getD (1 + j) 0).toNat) := by
  rw [Lib.bytesWorld_cell _ _ _ _ (by simp; omega)]
  have hd : (s.extract 1 n).data.toList.getD j 0 = s.data.toList.getD (1 + j) 0 := by
    simp only [ByteArray.data_extract, List.getD, Array.getElem?_toList, Array.getElem?_extract]
    have hsz : s.data.size = s.size := rfl
    rw [if_pos (by omega)]
  rw [hd]
theorem least_1 (w : World) : (Instr.index 168 (.agg #[.int .u64 0, .int .u64 0, .int .u64 64, .int .u64 0, .int .u64 16384, .int .u64 0, .int .u64 0, .int .u64 0, .int .u64 0, .int .u64 1073741824]) (.int .i64 1)).run Tryz.prog w = .ok (.int .u64 0) w := by kernel_rfl
theorem least_2 (w : World) : (Instr.index 168 (.agg #[.int .u64 0, .int .u64 0, .int .u64 64, .int .u64 0, .int .u64 16384, .int .u64 0, .int .u64 0, .int .u64 0, .int .u64 0, .int .u64 1073741824]) (.int .i64 2)).run Tryz.prog w = .ok (.int .u64 64) w := by kernel_rfl
theorem least_4 (w : World) : (Instr.index 168 (.agg #[.int .u64 0, .int .u64 0, .int .u64 64, .int .u64 0, .int .u64 16384, .int .u64 0, .int .u64 0, .int .u64 0, .int .u64 0, .int .u64 1073741824]) (.int .i64 4)).run Tryz.prog w = .ok (.int .u64 16384) w := by kernel_rfl
theorem least_9 (w : World) : (Instr.index 168 (.agg #[.int .u64 0, .int .u64 0, .int .u64 64, .int .u64 0, .int .u64 16384, .int .u64 0, .int .u64 0, .int .u64 0, .int .u64 0, .int .u64 1073741824]) (.int .i64 9)).run Tryz.prog w = .ok (.int .u64 1073741824) w := by kernel_rfl
attribute [local go_sem] least_1 least_2 least_4 least_9
set_option maxHeartbeats 4000000 in
set_option maxRecDepth 100000 in
theorem tally_next.calls (a0 : ByteArray) (r1 : Int) (r2 : ByteArray) (r3 : Int) (w : World) (h : tally_next.f a0 = some (r1, r2, r3)) :
    Calls Tryz.prog 104 #[.string a0] w fun e w' => e = .returned (.tuple #[.int .u64 r1, .string r2, .int .i64 r3]) ∧ Below w.heap.size w w' := by
  have hn : nextP a0 = (r1, r2, r3) := Option.some.inj h
  clear h
  unfold nextP at hn
  by_cases h0 : a0.size = 0
  · rw [if_pos h0] at hn
    injection hn with e1 hn; injection hn with e2 e3
    subst e1; subst e2; subst e3
    have c4b0 : (a0.toList == ([] : List UInt8)) = true := beq_iff_eq.mpr (by rw [ByteArray.toList_eq]; exact List.eq_nil_of_length_eq_zero h0)
    go_enter Tryz.func104, Tryz.ntmps104
    go_wp2_with fail
    go_ret3
    exact ⟨rfl, Below.refl _ _⟩
  · rw [if_neg h0] at hn
    have c4b0 : (a0.toList == ([] : List UInt8)) = false := beq_eq_false_iff_ne.mpr (fun e => h0 (by rw [ByteArray.toList_eq] at e; exact congrArg List.length e))
    have hsz : decide (0 < a0.size) = true := decide_eq_true (by omega)
    have hb0 : ∀ h : 0 < a0.size, ((a0[0]'h).toNat : Int) = bt a0 0 := fun h => bt_at a0 0 h
    obtain ⟨hbl, hbu⟩ := bt_range a0 0
    by_cases h1 : 192 < bt a0 0
    · rw [if_pos h1] at hn
      injection hn with e1 hn; injection hn with e2 e3
      subst e1; subst e2; subst e3
      generalize bt a0 0 = b at *
      have hq : b / 64 = 3 := by omega
      have g1 : decide (192 ≤ b) = true := decide_eq_true (by omega)
      have g2 : decide (192 < b) = true := decide_eq_true (by omega)
      go_enter Tryz.func104, Tryz.ntmps104
      go_wp2_with fail
      go_ret3
      exact ⟨rfl, Below.refl _ _⟩
    · rw [if_neg h1] at hn
      by_cases h192 : bt a0 0 = 192
      · have h2 : ¬ bt a0 0 < 64 := by omega
        have h3 : ¬ bt a0 0 < 128 := by omega
        have h5 : ¬ bt a0 0 < 192 := by omega
        have hq : bt a0 0 / 64 = 3 := by omega
        have hs : sizeN (bt a0 0) = 9 := by unfold sizeN; simp only [if_neg h2, if_neg h3, if_neg h5]
        rw [hs, if_pos h192] at hn
        rw [show leastN 9 = 1073741824 from rfl] at hn
        have g1 : decide (192 ≤ bt a0 0) = true := decide_eq_true (by omega)
        have g2 : decide (192 < bt a0 0) = false := decide_eq_false (by omega)
        by_cases h4 : a0.size < 9
        · rw [if_pos h4] at hn
          injection hn with e1 hn; injection hn with e2 e3
          subst e1; subst e2; subst e3
          have g4 : decide ((a0.size : Int) < 9) = true := decide_eq_true (by omega)
          generalize bt a0 0 = b at *
          go_enter Tryz.func104, Tryz.ntmps104
          go_wp2_with fail
          go_ret3
          exact ⟨rfl, Below.refl _ _⟩
        · rw [if_neg h4] at hn
          have g4 : decide ((a0.size : Int) < 9) = false := decide_eq_false (by omega)
          have g5 : ((9 : Int) ≤ (a0.size : Int)) = True := eq_true (by omega)
          have g6 : decide ((9 : Int) ≤ (a0.size : Int)) = true := decide_eq_true (by omega)
          generalize bt a0 0 = b at *
          have hxs : min 9 a0.size - 1 = 8 := by omega
          have hlr : ((a0.data.toList.take 9).drop 1).length = 8 := by rw [List.length_drop, List.length_take, data_len]; omega
          have HBL := Aside0.mk (bytesW_below w 5 (a0.extract 1 9))
          have HCE : Aside0 (∀ j, j < 8 → (Lib.bytesWorld w 5 (a0.extract 1 9)).cell? ⟨w.heap.size, j, none⟩ = some (.int .u8 (a0.data.toList.getD (1 + j) 0).toNat)) := ⟨fun j hj => bytesW_cell w 5 a0 9 j (by omega) (by omega)⟩
          have HL := Aside0.mk hlr; have HN := Aside0.mk hn; have H4 := Aside0.mk h4; have HXS := Aside0.mk hxs; have HG4 := Aside0.mk (show 0 < a0.size by omega); have HB0 := Aside0.mk (And.intro hbl hbu)
          clear hlr hn h4
          go_enter Tryz.func104, Tryz.ntmps104
          go_wp2_with fail
          rw [Lib.run_convert_string_bytes w 9 94 5 _ Tryz.underlying9 Tryz.underlying94 Tryz.underlying5]
          generalize Lib.bytesWorld w 5 (a0.extract 1 9) = w1 at *
          go_wp2_with fail
          generalize grownCap w 8 0 5 = cp
          go_loopg [7, 37] 8 (fun gg s7 s37 wr => ∃ j : Nat, j ≤ 8 ∧ 8 - j ≤ gg ∧ s37 = .int .i64 j ∧ s7 = .int .u64 (foldB (0) (((a0.data.toList.take 9).drop 1).take j)) ∧ wr = w1)
          case atStart => exact ⟨0, by omega, by omega, rfl, rfl, rfl⟩
          case round =>
            obtain ⟨j, hj, hg, rfl, rfl, rfl⟩ := hrel
            by_cases hlt : j < 8
            · have hltz : decide ((j : Int) < 8) = true := decide_eq_true (by omega)
              have hcz := HCE.out j hlt
              have hby := foldB_step (0) ((a0.data.toList.take 9).drop 1) j (by rw [HL.out]; exact hlt)
              have hrx := foldB_range (0) (((a0.data.toList.take 9).drop 1).take j) 7 (by rw [List.length_take]; omega) (by have := HB0.out; omega)
              have hgd : (a0.data.toList.getD (1 + j) 0) = ((a0.data.toList.take 9).drop 1).getD j 0 := getD_part a0.data.toList 9 j (by omega)
              rw [hgd] at hcz
              generalize foldB (0) (((a0.data.toList.take 9).drop 1).take j) = X at *
              have hc := byte_range (((a0.data.toList.take 9).drop 1).getD j 0)
              generalize ((((a0.data.toList.take 9).drop 1).getD j 0).toNat : Int) = c at *
              have hor := or_byte X c hrx.1 hrx.2 hc.1 hc.2
              have hpz : ((0 : Int) ≤ (j : Int)) = True := eq_true (by omega)
              have hpj : IntKind.i64.wrap ((j : Int) + 1) = (j : Int) + 1 := IntWalk.i64_in _ (by omega)
              have HBY := Aside0.mk hby; have HOR := Aside0.mk hor; clear hby hor
              go_wp2
              go_roundg (8 - (j + 1))
              case measure => omega
              case rel => exact ⟨j + 1, by omega, by omega, by push_cast; rfl, by rw [HBY.out, ← HOR.out], rfl⟩
            · have hje : j = 8 := by omega
              subst hje
              have hfull : ((a0.data.toList.take 9).drop 1).take 8 = (a0.data.toList.take 9).drop 1 := List.take_of_length_le (by rw [HL.out]; omega)
              rw [hfull]
              have hn := HN.out
              generalize foldB (0) ((a0.data.toList.take 9).drop 1) = X at *
              clear hfull HCE
              by_cases h6 : X < 1073741824
              · rw [if_pos h6] at hn
                have g7 : decide (X < 1073741824) = true := decide_eq_true h6
                injection hn with e1 hn; injection hn with e2 e3
                subst e1; subst e2; subst e3
                clear h6
                go_wp2_with fail
                go_ret3
                exact ⟨rfl, HBL.out⟩
              · rw [if_neg h6] at hn
                have g7 : decide (X < 1073741824) = false := decide_eq_false h6
                injection hn with e1 hn; injection hn with e2 e3
                subst e1; subst e2; subst e3
                clear h6
                go_wp2_with fail
                repeat (go_quiet (fail); try go_wp2)
                go_ret3
                exact ⟨rfl, by apply pw_below_drewN; exact HBL.out⟩
      · have h5 : bt a0 0 < 192 := by omega
        by_cases h2 : bt a0 0 < 64
        · have hq : bt a0 0 / 64 = 0 := by omega
          have hs : sizeN (bt a0 0) = 1 := by unfold sizeN; simp only [if_pos h2]
          rw [hs, if_neg (show ¬ bt a0 0 = 192 by omega)] at hn
          rw [show leastN 1 = 0 from rfl] at hn
          have g1 : decide (192 ≤ bt a0 0) = false := decide_eq_false (by omega)
          have g2 : decide (192 < bt a0 0) = false := decide_eq_false (by omega)
          by_cases h4 : a0.size < 1
          · rw [if_pos h4] at hn
            injection hn with e1 hn; injection hn with e2 e3
            subst e1; subst e2; subst e3
            have g4 : decide ((a0.size : Int) < 1) = true := decide_eq_true (by omega)
            generalize bt a0 0 = b at *
            go_enter Tryz.func104, Tryz.ntmps104
            go_wp2_with fail
            go_ret3
            exact ⟨rfl, Below.refl _ _⟩
          · rw [if_neg h4] at hn
            have g4 : decide ((a0.size : Int) < 1) = false := decide_eq_false (by omega)
            have g5 : ((1 : Int) ≤ (a0.size : Int)) = True := eq_true (by omega)
            have g6 : decide ((1 : Int) ≤ (a0.size : Int)) = true := decide_eq_true (by omega)
            generalize bt a0 0 = b at *
            have hxs : min 1 a0.size - 1 = 0 := by omega
            have hlr : ((a0.data.toList.take 1).drop 1).length = 0 := by rw [List.length_drop, List.length_take, data_len]; omega
            have HBL := Aside0.mk (bytesW_below w 5 ByteArray.empty)
            have HCE : Aside0 (∀ j, j < 0 → (Lib.bytesWorld w 5 ByteArray.empty).cell? ⟨w.heap.size, j, none⟩ = some (.int .u8 (a0.data.toList.getD (1 + j) 0).toNat)) := ⟨fun j hj => absurd hj (by omega)⟩
            have HL := Aside0.mk hlr; have HN := Aside0.mk hn; have H4 := Aside0.mk h4; have HXS := Aside0.mk hxs; have HG4 := Aside0.mk (show 0 < a0.size by omega); have HB0 := Aside0.mk (And.intro hbl hbu)
            clear hlr hn h4
            go_enter Tryz.func104, Tryz.ntmps104
            go_wp2_with fail
            rw [Lib.run_convert_string_bytes w 9 94 5 _ Tryz.underlying9 Tryz.underlying94 Tryz.underlying5]
            generalize Lib.bytesWorld w 5 ByteArray.empty = w1 at *
            go_wp2_with fail
            generalize grownCap w 0 0 5 = cp
            go_loopg [7, 37] 0 (fun gg s7 s37 wr => ∃ j : Nat, j ≤ 0 ∧ 0 - j ≤ gg ∧ s37 = .int .i64 j ∧ s7 = .int .u64 (foldB (b % 64) (((a0.data.toList.take 1).drop 1).take j)) ∧ wr = w1)
            case atStart => exact ⟨0, by omega, by omega, rfl, rfl, rfl⟩
            case round =>
              obtain ⟨j, hj, hg, rfl, rfl, rfl⟩ := hrel
              by_cases hlt : j < 0
              · have hltz : decide ((j : Int) < 0) = true := decide_eq_true (by omega)
                have hcz := HCE.out j hlt
                have hby := foldB_step (b % 64) ((a0.data.toList.take 1).drop 1) j (by rw [HL.out]; exact hlt)
                have hrx := foldB_range (b % 64) (((a0.data.toList.take 1).drop 1).take j) 0 (by rw [List.length_take]; omega) (by have := HB0.out; omega)
                have hgd : (a0.data.toList.getD (1 + j) 0) = ((a0.data.toList.take 1).drop 1).getD j 0 := getD_part a0.data.toList 1 j (by omega)
                rw [hgd] at hcz
                generalize foldB (b % 64) (((a0.data.toList.take 1).drop 1).take j) = X at *
                have hc := byte_range (((a0.data.toList.take 1).drop 1).getD j 0)
                generalize ((((a0.data.toList.take 1).drop 1).getD j 0).toNat : Int) = c at *
                have hor := or_byte X c hrx.1 hrx.2 hc.1 hc.2
                have hpz : ((0 : Int) ≤ (j : Int)) = True := eq_true (by omega)
                have hpj : IntKind.i64.wrap ((j : Int) + 1) = (j : Int) + 1 := IntWalk.i64_in _ (by omega)
                have HBY := Aside0.mk hby; have HOR := Aside0.mk hor; clear hby hor
                go_wp2
                go_roundg (0 - (j + 1))
                case measure => omega
                case rel => exact ⟨j + 1, by omega, by omega, by push_cast; rfl, by rw [HBY.out, ← HOR.out], rfl⟩
              · have hje : j = 0 := by omega
                subst hje
                have hfull : ((a0.data.toList.take 1).drop 1).take 0 = (a0.data.toList.take 1).drop 1 := List.take_of_length_le (by rw [HL.out]; omega)
                rw [hfull]
                have hn := HN.out
                generalize foldB (b % 64) ((a0.data.toList.take 1).drop 1) = X at *
                clear hfull HCE
                by_cases h6 : X < 0
                · rw [if_pos h6] at hn
                  have g7 : decide (X < 0) = true := decide_eq_true h6
                  injection hn with e1 hn; injection hn with e2 e3
                  subst e1; subst e2; subst e3
                  clear h6
                  go_wp2_with fail
                  go_ret3
                  exact ⟨rfl, HBL.out⟩
                · rw [if_neg h6] at hn
                  have g7 : decide (X < 0) = false := decide_eq_false h6
                  injection hn with e1 hn; injection hn with e2 e3
                  subst e1; subst e2; subst e3
                  clear h6
                  go_wp2_with fail
                  repeat (go_quiet (fail); try go_wp2)
                  go_ret3
                  exact ⟨rfl, by apply pw_below_drewN; exact HBL.out⟩
        · by_cases h3 : bt a0 0 < 128
          · have hq : bt a0 0 / 64 = 1 := by omega
            have hs : sizeN (bt a0 0) = 2 := by unfold sizeN; simp only [if_neg h2, if_pos h3]
            rw [hs, if_neg (show ¬ bt a0 0 = 192 by omega)] at hn
            rw [show leastN 2 = 64 from rfl] at hn
            have g1 : decide (192 ≤ bt a0 0) = false := decide_eq_false (by omega)
            have g2 : decide (192 < bt a0 0) = false := decide_eq_false (by omega)
            by_cases h4 : a0.size < 2
            · rw [if_pos h4] at hn
              injection hn with e1 hn; injection hn with e2 e3
              subst e1; subst e2; subst e3
              have g4 : decide ((a0.size : Int) < 2) = true := decide_eq_true (by omega)
              generalize bt a0 0 = b at *
              go_enter Tryz.func104, Tryz.ntmps104
              go_wp2_with fail
              go_ret3
              exact ⟨rfl, Below.refl _ _⟩
            · rw [if_neg h4] at hn
              have g4 : decide ((a0.size : Int) < 2) = false := decide_eq_false (by omega)
              have g5 : ((2 : Int) ≤ (a0.size : Int)) = True := eq_true (by omega)
              have g6 : decide ((2 : Int) ≤ (a0.size : Int)) = true := decide_eq_true (by omega)
              generalize bt a0 0 = b at *
              have hxs : min 2 a0.size - 1 = 1 := by omega
              have hlr : ((a0.data.toList.take 2).drop 1).length = 1 := by rw [List.length_drop, List.length_take, data_len]; omega
              have HBL := Aside0.mk (bytesW_below w 5 (a0.extract 1 2))
              have HCE : Aside0 (∀ j, j < 1 → (Lib.bytesWorld w 5 (a0.extract 1 2)).cell? ⟨w.heap.size, j, none⟩ = some (.int .u8 (a0.data.toList.getD (1 + j) 0).toNat)) := ⟨fun j hj => bytesW_cell w 5 a0 2 j (by omega) (by omega)⟩
              have HL := Aside0.mk hlr; have HN := Aside0.mk hn; have H4 := Aside0.mk h4; have HXS := Aside0.mk hxs; have HG4 := Aside0.mk (show 0 < a0.size by omega); have HB0 := Aside0.mk (And.intro hbl hbu)
              clear hlr hn h4
              go_enter Tryz.func104, Tryz.ntmps104
              go_wp2_with fail
              rw [Lib.run_convert_string_bytes w 9 94 5 _ Tryz.underlying9 Tryz.underlying94 Tryz.underlying5]
              generalize Lib.bytesWorld w 5 (a0.extract 1 2) = w1 at *
              go_wp2_with fail
              generalize grownCap w 1 0 5 = cp
              go_loopg [7, 37] 1 (fun gg s7 s37 wr => ∃ j : Nat, j ≤ 1 ∧ 1 - j ≤ gg ∧ s37 = .int .i64 j ∧ s7 = .int .u64 (foldB (b % 64) (((a0.data.toList.take 2).drop 1).take j)) ∧ wr = w1)
              case atStart => exact ⟨0, by omega, by omega, rfl, rfl, rfl⟩
              case round =>
                obtain ⟨j, hj, hg, rfl, rfl, rfl⟩ := hrel
                by_cases hlt : j < 1
                · have hltz : decide ((j : Int) < 1) = true := decide_eq_true (by omega)
                  have hcz := HCE.out j hlt
                  have hby := foldB_step (b % 64) ((a0.data.toList.take 2).drop 1) j (by rw [HL.out]; exact hlt)
                  have hrx := foldB_range (b % 64) (((a0.data.toList.take 2).drop 1).take j) 0 (by rw [List.length_take]; omega) (by have := HB0.out; omega)
                  have hgd : (a0.data.toList.getD (1 + j) 0) = ((a0.data.toList.take 2).drop 1).getD j 0 := getD_part a0.data.toList 2 j (by omega)
                  rw [hgd] at hcz
                  generalize foldB (b % 64) (((a0.data.toList.take 2).drop 1).take j) = X at *
                  have hc := byte_range (((a0.data.toList.take 2).drop 1).getD j 0)
                  generalize ((((a0.data.toList.take 2).drop 1).getD j 0).toNat : Int) = c at *
                  have hor := or_byte X c hrx.1 hrx.2 hc.1 hc.2
                  have hpz : ((0 : Int) ≤ (j : Int)) = True := eq_true (by omega)
                  have hpj : IntKind.i64.wrap ((j : Int) + 1) = (j : Int) + 1 := IntWalk.i64_in _ (by omega)
                  have HBY := Aside0.mk hby; have HOR := Aside0.mk hor; clear hby hor
                  go_wp2
                  go_roundg (1 - (j + 1))
                  case measure => omega
                  case rel => exact ⟨j + 1, by omega, by omega, by push_cast; rfl, by rw [HBY.out, ← HOR.out], rfl⟩
                · have hje : j = 1 := by omega
                  subst hje
                  have hfull : ((a0.data.toList.take 2).drop 1).take 1 = (a0.data.toList.take 2).drop 1 := List.take_of_length_le (by rw [HL.out]; omega)
                  rw [hfull]
                  have hn := HN.out
                  generalize foldB (b % 64) ((a0.data.toList.take 2).drop 1) = X at *
                  clear hfull HCE
                  by_cases h6 : X < 64
                  · rw [if_pos h6] at hn
                    have g7 : decide (X < 64) = true := decide_eq_true h6
                    injection hn with e1 hn; injection hn with e2 e3
                    subst e1; subst e2; subst e3
                    clear h6
                    go_wp2_with fail
                    go_ret3
                    exact ⟨rfl, HBL.out⟩
                  · rw [if_neg h6] at hn
                    have g7 : decide (X < 64) = false := decide_eq_false h6
                    injection hn with e1 hn; injection hn with e2 e3
                    subst e1; subst e2; subst e3
                    clear h6
                    go_wp2_with fail
                    repeat (go_quiet (fail); try go_wp2)
                    go_ret3
                    exact ⟨rfl, by apply pw_below_drewN; exact HBL.out⟩
          · have hq : bt a0 0 / 64 = 2 := by omega
            have hs : sizeN (bt a0 0) = 4 := by unfold sizeN; simp only [if_neg h2, if_neg h3, if_pos h5]
            rw [hs, if_neg (show ¬ bt a0 0 = 192 by omega)] at hn
            rw [show leastN 4 = 16384 from rfl] at hn
            have g1 : decide (192 ≤ bt a0 0) = false := decide_eq_false (by omega)
            have g2 : decide (192 < bt a0 0) = false := decide_eq_false (by omega)
            by_cases h4 : a0.size < 4
            · rw [if_pos h4] at hn
              injection hn with e1 hn; injection hn with e2 e3
              subst e1; subst e2; subst e3
              have g4 : decide ((a0.size : Int) < 4) = true := decide_eq_true (by omega)
              generalize bt a0 0 = b at *
              go_enter Tryz.func104, Tryz.ntmps104
              go_wp2_with fail
              go_ret3
              exact ⟨rfl, Below.refl _ _⟩
            · rw [if_neg h4] at hn
              have g4 : decide ((a0.size : Int) < 4) = false := decide_eq_false (by omega)
              have g5 : ((4 : Int) ≤ (a0.size : Int)) = True := eq_true (by omega)
              have g6 : decide ((4 : Int) ≤ (a0.size : Int)) = true := decide_eq_true (by omega)
              generalize bt a0 0 = b at *
              have hxs : min 4 a0.size - 1 = 3 := by omega
              have hlr : ((a0.data.toList.take 4).drop 1).length = 3 := by rw [List.length_drop, List.length_take, data_len]; omega
              have HBL := Aside0.mk (bytesW_below w 5 (a0.extract 1 4))
              have HCE : Aside0 (∀ j, j < 3 → (Lib.bytesWorld w 5 (a0.extract 1 4)).cell? ⟨w.heap.size, j, none⟩ = some (.int .u8 (a0.data.toList.getD (1 + j) 0).toNat)) := ⟨fun j hj => bytesW_cell w 5 a0 4 j (by omega) (by omega)⟩
              have HL := Aside0.mk hlr; have HN := Aside0.mk hn; have H4 := Aside0.mk h4; have HXS := Aside0.mk hxs; have HG4 := Aside0.mk (show 0 < a0.size by omega); have HB0 := Aside0.mk (And.intro hbl hbu)
              clear hlr hn h4
              go_enter Tryz.func104, Tryz.ntmps104
              go_wp2_with fail
              rw [Lib.run_convert_string_bytes w 9 94 5 _ Tryz.underlying9 Tryz.underlying94 Tryz.underlying5]
              generalize Lib.bytesWorld w 5 (a0.extract 1 4) = w1 at *
              go_wp2_with fail
              generalize grownCap w 3 0 5 = cp
              go_loopg [7, 37] 3 (fun gg s7 s37 wr => ∃ j : Nat, j ≤ 3 ∧ 3 - j ≤ gg ∧ s37 = .int .i64 j ∧ s7 = .int .u64 (foldB (b % 64) (((a0.data.toList.take 4).drop 1).take j)) ∧ wr = w1)
              case atStart => exact ⟨0, by omega, by omega, rfl, rfl, rfl⟩
              case round =>
                obtain ⟨j, hj, hg, rfl, rfl, rfl⟩ := hrel
                by_cases hlt : j < 3
                · have hltz : decide ((j : Int) < 3) = true := decide_eq_true (by omega)
                  have hcz := HCE.out j hlt
                  have hby := foldB_step (b % 64) ((a0.data.toList.take 4).drop 1) j (by rw [HL.out]; exact hlt)
                  have hrx := foldB_range (b % 64) (((a0.data.toList.take 4).drop 1).take j) 2 (by rw [List.length_take]; omega) (by have := HB0.out; omega)
                  have hgd : (a0.data.toList.getD (1 + j) 0) = ((a0.data.toList.take 4).drop 1).getD j 0 := getD_part a0.data.toList 4 j (by omega)
                  rw [hgd] at hcz
                  generalize foldB (b % 64) (((a0.data.toList.take 4).drop 1).take j) = X at *
                  have hc := byte_range (((a0.data.toList.take 4).drop 1).getD j 0)
                  generalize ((((a0.data.toList.take 4).drop 1).getD j 0).toNat : Int) = c at *
                  have hor := or_byte X c hrx.1 hrx.2 hc.1 hc.2
                  have hpz : ((0 : Int) ≤ (j : Int)) = True := eq_true (by omega)
                  have hpj : IntKind.i64.wrap ((j : Int) + 1) = (j : Int) + 1 := IntWalk.i64_in _ (by omega)
                  have HBY := Aside0.mk hby; have HOR := Aside0.mk hor; clear hby hor
                  go_wp2
                  go_roundg (3 - (j + 1))
                  case measure => omega
                  case rel => exact ⟨j + 1, by omega, by omega, by push_cast; rfl, by rw [HBY.out, ← HOR.out], rfl⟩
                · have hje : j = 3 := by omega
                  subst hje
                  have hfull : ((a0.data.toList.take 4).drop 1).take 3 = (a0.data.toList.take 4).drop 1 := List.take_of_length_le (by rw [HL.out]; omega)
                  rw [hfull]
                  have hn := HN.out
                  generalize foldB (b % 64) ((a0.data.toList.take 4).drop 1) = X at *
                  clear hfull HCE
                  by_cases h6 : X < 16384
                  · rw [if_pos h6] at hn
                    have g7 : decide (X < 16384) = true := decide_eq_true h6
                    injection hn with e1 hn; injection hn with e2 e3
                    subst e1; subst e2; subst e3
                    clear h6
                    go_wp2_with fail
                    go_ret3
                    exact ⟨rfl, HBL.out⟩
                  · rw [if_neg h6] at hn
                    have g7 : decide (X < 16384) = false := decide_eq_false h6
                    injection hn with e1 hn; injection hn with e2 e3
                    subst e1; subst e2; subst e3
                    clear h6
                    go_wp2_with fail
                    repeat (go_quiet (fail); try go_wp2)
                    go_ret3
                    exact ⟨rfl, by apply pw_below_drewN; exact HBL.out⟩
end Go.Proofs.YtojcbknclfamhaaGreatDoor.A
