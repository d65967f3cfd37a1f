/- frame.Sum: a text's sum, half a byte at a time. -/
import Derived.Test.YtojcbknclfamhaaDoorKlAx0
import Derived.Test.YtojcbknclfamhaaDoorKlHHalf
import Derived.Laws.BitsAllLaws
import Derived.Lib.ConvBytes
namespace Go.Proofs.YtojcbknclfamhaaDoor.A
open Go.RowKit Go.Proofs.YtojcbknclfamhaaDoorW.PrintWords Go.Proofs.YtojcbknclfamhaaDoorW.PrintLast Go.Proofs.YtojcbknclfamhaaDoorW.PrintMore
set_option linter.unusedVariables false
set_option linter.unusedSimpArgs false
theorem wraps_u32 (n : Int) (h₀ : 0 ≤ n) (h₁ : n < 2 ^ 32) : IntKind.u32.wrap n = n := by rw [IntKind.wrap_u32]; omega
theorem u32_and15 (x : Int) (h0 : 0 ≤ x) (h1 : x < 4294967296) : Go.bits .and .u32 x 15 = x % 16 := bits_mask .u32 32 (by decide) wraps_u32 4 (by decide) x h0 h1
theorem u32x_range (a b : Int) (ha : 0 ≤ a ∧ a < 4294967296) (hb : 0 ≤ b ∧ b < 4294967296) : 0 ≤ Go.bits .xor .u32 a b ∧ Go.bits .xor .u32 a b < 4294967296 := by
  obtain ⟨x, rfl⟩ : ∃ x : Nat, a = (x : Int) := ⟨a.toNat, by omega⟩
  obtain ⟨y, rfl⟩ : ∃ y : Nat, b = (y : Int) := ⟨b.toNat, by omega⟩
  have hx : x ^^^ y < 2 ^ 32 := Nat.xor_lt_two_pow (by omega) (by omega)
  rw [u32_xor_nat x y (by omega) (by omega)]
  omega
theorem bitStep_range (r : Int) (h : 0 ≤ r ∧ r < 4294967296) : 0 ≤ bitStep r ∧ bitStep r < 4294967296 := by
  unfold bitStep
  split
  · exact u32x_range _ _ (by omega) (by decide)
  · omega
theorem bitSteps_range (r : Int) (h : 0 ≤ r ∧ r < 4294967296) : ∀ k, 0 ≤ bitSteps k r ∧ bitSteps k r < 4294967296
  | 0 => h
  | k + 1 => bitStep_range _ (bitSteps_range r h k)
theorem tabV_range (i : Nat) (h : i < 16) : 0 ≤ tabV i ∧ tabV i < 4294967296 := bitSteps_range _ (by omega) 4
def halfStep (r : Int) : Int := Go.bits .xor .u32 (r / 16) (tabV (Go.bits .and .u32 r 15).toNat)
def sumStep (r : Int) (c : UInt8) : Int := halfStep (halfStep (Go.bits .xor .u32 r (c.toNat : Int)))
def sumF (l : List UInt8) : Int := l.foldl sumStep 4294967295
theorem halfStep_range (r : Int) (h : 0 ≤ r ∧ r < 4294967296) : 0 ≤ halfStep r ∧ halfStep r < 4294967296 := by
  unfold halfStep
  have hm := u32_and15 r h.1 h.2
  exact u32x_range _ _ (by omega) (tabV_range _ (by rw [hm]; omega))
theorem sumStep_range (r : Int) (c : UInt8) (h : 0 ≤ r ∧ r < 4294967296) : 0 ≤ sumStep r c ∧ sumStep r c < 4294967296 := by
  have hc := c.toNat_lt
  exact halfStep_range _ (halfStep_range _ (u32x_range _ _ h (by omega)))
theorem sum_range : ∀ (l : List UInt8) (r : Int), 0 ≤ r ∧ r < 4294967296 → 0 ≤ l.foldl sumStep r ∧ l.foldl sumStep r < 4294967296
  | [], r, h => h
  | c :: l, r, h => sum_range l _ (sumStep_range r c h)
theorem sumF_snoc (l : List UInt8) (j : Nat) (h : j < l.length) : sumF (l.take (j + 1)) = sumStep (sumF (l.take j)) l[j] := by
  unfold sumF
  rw [List.take_add_one, List.getElem?_eq_getElem h, List.foldl_append]
  rfl
theorem bytesY_below (w : World) (e : TypeId) (s : ByteArray) : Below w.heap.size w (Lib.bytesWorld w e s) := bytes_below (Below.refl _ _) (Nat.le_refl _) e s
theorem bytesW_at (w : World) (e : TypeId) (s : ByteArray) (j : Nat) (hj : j < s.size) : (Lib.bytesWorld w e s).cell? ⟨w.heap.size, j, none⟩ = some (.int .u8 ((s.data.toList[j]'hj).toNat : Int)) := by
  rw [Lib.bytesWorld_cell _ _ _ _ hj]
  simp [List.getD, List.getElem?_eq_getElem (show j < s.data.toList.length from hj)]
def frame_Sum.f (s : ByteArray) : Option Int := if s.size ≤ 140737488351232 then some (Go.bits .xor .u32 IntKind.u32.max (sumF s.data.toList)) else none
set_option maxHeartbeats 8000000 in
set_option maxRecDepth 100000 in
theorem frame_Sum.calls (a0 : ByteArray) (r : Int) (w : World) (h : frame_Sum.f a0 = some r) :
    Calls Tryd.prog 38 #[.string a0] w fun e w' => e = .returned (.int .u32 r) ∧ Below w.heap.size w w' := by
  unfold frame_Sum.f at h
  by_cases hs : a0.size ≤ 140737488351232
  rotate_left
  · rw [if_neg hs] at h; exact absurd h (by simp)
  rw [if_pos hs] at h
  have h := Option.some.inj h
  have HRES := Aside0.mk h
  have hu := Tryd.underlying117
  have hu2 := Tryd.underlying79
  clear h
  go_enter Tryd.func38, Tryd.ntmps38
  go_wp2_with (go_at_call 65; refine (half.calls _).mono ?_; rintro e w1 ⟨rfl, hb1⟩; rw [tabArr_full])
  rw [← tabArr_full]
  have ht := blk_new w1 (.cells (tabArr 16) 117)
  have hb2 : Below w.heap.size w (w1.alloc (.cells (tabArr 16) 117)) := hb1.alloc hb1.size _
  have hlt : w1.heap.size < (w1.alloc (.cells (tabArr 16) 117)).heap.size := by simp
  clear hb1
  generalize w1.alloc (.cells (tabArr 16) 117) = W1 at *
  generalize w1.heap.size = bt at *
  have hbl := bytesY_below W1 5 a0
  have hce := bytesW_at W1 5 a0
  have ht2 := (hbl.block bt hlt).trans ht
  have hb3 := hb2.trans (hbl.mono hb2.size)
  have HT := Aside0.mk ht2; have HC := Aside0.mk hce; have HB := Aside0.mk hb3
  clear ht ht2 hce hb2 hb3 hbl hlt
  rw [Lib.run_convert_string_bytes W1 9 75 5 _ Tryd.underlying9 Tryd.underlying75 Tryd.underlying5]
  generalize Lib.bytesWorld W1 5 a0 = W2 at *
  go_wp2_with fail
  go_loopg [4, 11] a0.size (fun gg s4 s11 wr => ∃ j : Nat, j ≤ a0.size ∧ a0.size - j ≤ gg ∧ s11 = .int .i64 j ∧ s4 = .int .u32 (sumF (a0.data.toList.take j)) ∧ wr = W2)
  case atStart => exact ⟨0, by omega, by omega, rfl, rfl, rfl⟩
  case round =>
    obtain ⟨j, hj, hgg, rfl, rfl, rfl⟩ := hrel
    by_cases hlt : j < a0.size
    · have hltz : decide ((j : Int) < (a0.size : Int)) = true := decide_eq_true (by omega)
      have hltn : decide (j < a0.size) = true := decide_eq_true hlt
      have hjT : ((j : Int) < (a0.size : Int)) = True := eq_true (by omega)
      have hj0 : ((0 : Int) ≤ (j : Int)) = True := eq_true (by omega)
      have hpj : IntKind.i64.wrap ((j : Int) + 1) = (j : Int) + 1 := IntWalk.i64_in _ (by omega)
      have hcz := HC.out j hlt
      have hst := sumF_snoc a0.data.toList j hlt
      have hrg := sum_range (a0.data.toList.take j) 4294967295 (by decide)
      have hrg : 0 ≤ sumF (a0.data.toList.take j) ∧ sumF (a0.data.toList.take j) < 4294967296 := hrg
      have hcl := (a0.data.toList[j]'hlt).toNat_lt
      generalize sumF (a0.data.toList.take j) = r0 at *
      obtain ⟨c, hc⟩ : ∃ c : Int, c = (((a0.data.toList[j]'hlt).toNat : Nat) : Int) := ⟨_, rfl⟩
      unfold sumStep at hst
      rw [← hc] at hcz hst
      have hcr : 0 ≤ c ∧ c < 256 := by omega
      have hcw : IntKind.u32.wrap c = c := wraps_u32 c (by omega) (by omega)
      obtain ⟨r1, hr1⟩ : ∃ r1, Go.bits .xor .u32 r0 c = r1 := ⟨_, rfl⟩
      have hr1g := u32x_range r0 c hrg (by omega)
      rw [hr1] at hr1g hst
      obtain ⟨m1, hm1⟩ : ∃ m, Go.bits .and .u32 r1 15 = m := ⟨_, rfl⟩
      have hm1r : 0 ≤ m1 ∧ m1 < 16 := by rw [← hm1, u32_and15 r1 hr1g.1 hr1g.2]; omega
      have hh1 : halfStep r1 = Go.bits .xor .u32 (r1 / 16) (tabV m1.toNat) := by unfold halfStep; rw [hm1]
      have hh1g := halfStep_range r1 hr1g
      have y1 := (blk_cell HT.out m1.toNat).trans (tabArr_at 16 m1.toNat (by omega))
      rw [if_pos (show m1.toNat < 16 by omega)] at y1
      generalize tabV m1.toNat = v1 at *
      obtain ⟨r2, hr2⟩ : ∃ r2, Go.bits .xor .u32 (r1 / 16) v1 = r2 := ⟨_, rfl⟩
      rw [hr2] at hh1
      rw [hh1] at hst hh1g
      obtain ⟨m2, hm2⟩ : ∃ m, Go.bits .and .u32 r2 15 = m := ⟨_, rfl⟩
      have hm2r : 0 ≤ m2 ∧ m2 < 16 := by rw [← hm2, u32_and15 r2 hh1g.1 hh1g.2]; omega
      have hh2 : halfStep r2 = Go.bits .xor .u32 (r2 / 16) (tabV m2.toNat) := by unfold halfStep; rw [hm2]
      have y2 := (blk_cell HT.out m2.toNat).trans (tabArr_at 16 m2.toNat (by omega))
      rw [if_pos (show m2.toNat < 16 by omega)] at y2
      generalize tabV m2.toNat = v2 at *
      obtain ⟨r3, hr3⟩ : ∃ r3, Go.bits .xor .u32 (r2 / 16) v2 = r3 := ⟨_, rfl⟩
      rw [hr3] at hh2
      rw [hh2] at hst
      have e1 := eq_true hm1r.1; have e2 := eq_true hm1r.2; have e3 := eq_true hm2r.1; have e4 := eq_true hm2r.2
      have HST := Aside0.mk hst; have HJ := Aside0.mk (And.intro hj (And.intro hgg hlt))
      clear hst hj hgg hh1 hh2 hrg hcl hc hcr hr1g hh1g hm1r hm2r hlt
      go_wp2_with fail
      go_roundg (a0.size - (j + 1))
      case measure => have := HJ.out; omega
      case rel => exact ⟨j + 1, HJ.out.2.2, by have := HJ.out; omega, by push_cast; rfl, by rw [HST.out], rfl⟩
    · obtain rfl : j = a0.size := by omega
      have hltz : decide ((a0.size : Int) < (a0.size : Int)) = false := decide_eq_false (by omega)
      have hltn : decide (a0.size < a0.size) = false := decide_eq_false (by omega)
      have htk : a0.data.toList.take a0.size = a0.data.toList := List.take_of_length_le (Nat.le_refl _)
      rw [htk]
      go_wp2_with fail
      go_ret
      exact ⟨by rw [← HRES.out]; rfl, HB.out⟩
end Go.Proofs.YtojcbknclfamhaaDoor.A
