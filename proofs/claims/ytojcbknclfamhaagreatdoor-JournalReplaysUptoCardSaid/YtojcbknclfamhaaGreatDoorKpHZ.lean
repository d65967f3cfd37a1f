/- Nothing is asked of a program that lives: lives() by the kernel. · A deed that fits, written and read again: plain. · A deed's bytes as the program writes them; frames written and read again, whole or torn: plain. · The program's sum of a text is the document's: half a byte by a table is four bits one by one. Plain. · The document's cursor is the program's, behind where it stands: plain (lemmas of chapter 05's texts, picked by pick.py). · Of any bytes the program reads the deed that the document reads, or both tell an error: plain. · What the program writes of a deed is what the document writes: plain. · Of any bytes the program's frames are the document's, and what is read of them; plain. · JournalReads' law is true of every schema, text and deed of moderate size: plain. -/
import Derived.Test.YtojcbknclfamhaaGreatDoorKpAx0
import Derived.Test.YtojcbknclfamhaaGreatDoorKpAx15
import Derived.Test.YtojcbknclfamhaaGreatDoorKpAx10
import Derived.Test.YtojcbknclfamhaaGreatDoorKpAx29
import Derived.Test.YtojcbknclfamhaaGreatDoorKpAx8
import Derived.Test.YtojcbknclfamhaaGreatDoorKpHPlA
import Derived.Test.YtojcbknclfamhaaGreatDoorKpHDRead
import Derived.Laws.Bits64
import Derived.Test.YtojcbknclfamhaaGreatDoorKpAx4
import Derived.Test.YtojcbknclfamhaaGreatDoorKpAx5
import Derived.Test.YtojcbknclfamhaaGreatDoorKpAx7
import Derived.Test.YtojcbknclfamhaaGreatDoorKpHFNext
import Derived.Test.YtojcbknclfamhaaGreatDoorKpAx16
import Derived.Test.YtojcbknclfamhaaGreatDoorKpAx18
import Derived.Test.YtojcbknclfamhaaGreatDoorKpAx19
import Derived.Test.YtojcbknclfamhaaGreatDoorKpAx20
import Derived.Test.YtojcbknclfamhaaGreatDoorKpHU
import Derived.Test.YtojcbknclfamhaaGreatDoorKpHRRead
import Derived.Test.YtojcbknclfamhaaGreatDoorKpAx25
import Derived.Test.YtojcbknclfamhaaGreatDoorKpAx17
import Derived.Test.YtojcbknclfamhaaGreatDoorKpAx21
import Derived.Test.YtojcbknclfamhaaGreatDoorKpAx26
namespace Go.Proofs.YtojcbknclfamhaaGreatDoor.A
open Go.RowKit Go.Proofs.YtojcbknclfamhaaGreatDoorW.PrintWords Go.Proofs.YtojcbknclfamhaaGreatDoorW.PrintLast Go.Proofs.YtojcbknclfamhaaGreatDoorW.PrintMore
set_option maxRecDepth 100000 in
theorem lives_T : tithebarnlaw15_lives.f 3000 = some true := by kernel_rfl
end Go.Proofs.YtojcbknclfamhaaGreatDoor.A
namespace Go.Proofs.YtojcbknclfamhaaGreatDoor.A
open Go.RowKit Go.Proofs.YtojcbknclfamhaaGreatDoorW.PrintWords Go.Proofs.YtojcbknclfamhaaGreatDoorW.PrintLast Go.Proofs.YtojcbknclfamhaaGreatDoorW.PrintMore
set_option linter.unusedVariables false
set_option linter.unusedSimpArgs false
theorem wraps_u64 (n : Int) (h₀ : 0 ≤ n) (h₁ : n < 2 ^ 64) : IntKind.u64.wrap n = n := IntWalk.u64_in _ (by simp at h₁; omega)
theorem xor_ones (a : Nat) (h : a < 18446744073709551616) : 18446744073709551615 ^^^ a = 18446744073709551615 - a := by
  have h1 : ((BitVec.allOnes 64) ^^^ (BitVec.ofNat 64 a)) = ~~~ (BitVec.ofNat 64 a) := BitVec.not_def.symm
  have h2 := congrArg BitVec.toNat h1
  rw [BitVec.toNat_xor, BitVec.toNat_not, BitVec.toNat_allOnes, BitVec.toNat_ofNat, Nat.mod_eq_of_lt (by omega)] at h2
  simpa using h2
theorem i64_xor (x : Int) (h0 : 0 ≤ x) (h1 : x < 9223372036854775808) : Go.bits .xor .i64 x 0 = x ∧ Go.bits .xor .i64 x (-1) = -x - 1 := by
  obtain ⟨a, rfl⟩ := Int.eq_ofNat_of_zero_le h0
  have ha : (BitVec.ofInt 64 (a : Int)).toNat = a := by
    rw [BitVec.ofInt_natCast, BitVec.toNat_ofNat]; exact Nat.mod_eq_of_lt (by omega)
  constructor
  · show IntKind.i64.wrap ((BitVec.ofInt 64 (a : Int) ^^^ BitVec.ofInt 64 0).toNat : Int) = _
    rw [BitVec.toNat_xor, ha, show (BitVec.ofInt 64 0).toNat = 0 from rfl, Nat.xor_zero]
    exact IntWalk.i64_in _ (by omega)
  · show IntKind.i64.wrap ((BitVec.ofInt 64 (a : Int) ^^^ BitVec.ofInt 64 (-1)).toNat : Int) = _
    rw [BitVec.toNat_xor, ha, show (BitVec.ofInt 64 (-1)).toNat = 18446744073709551615 from by decide, Nat.xor_comm, xor_ones _ (by omega)]
    rw [IntKind.wrap_i64]
    omega
theorem unzz_w (m : Int) (h0 : 0 ≤ m) (h1 : m < 18446744073709551616) : Go.bits .xor .i64 (wrap64 (m / 2)) (wrap64 (-(wrap64 (Go.bits .and .u64 m 1)))) = if m % 2 = 0 then m / 2 else -(m / 2) - 1 := by
  have e : Go.bits .and .u64 m 1 = m % 2 := bits_mask .u64 64 (by decide) wraps_u64 1 (by decide) m h0 (by simpa using h1)
  rw [e]
  have e1 : wrap64 (m / 2) = m / 2 := by unfold wrap64; omega
  have hx := i64_xor (m / 2) (by omega) (by omega)
  rw [e1]
  by_cases h2 : m % 2 = 0
  · rw [if_pos h2, h2, show wrap64 (-(wrap64 0)) = 0 from by unfold wrap64; omega]
    exact hx.1
  · rw [if_neg h2, show m % 2 = 1 by omega, show wrap64 (-(wrap64 1)) = -1 from by unfold wrap64; omega]
    exact hx.2
theorem right_len {l : List S44} (h : rightC l = true) : 0 < l.length ∧ l.length ≤ 6 := by
  unfold rightC at h; simp at h; omega
end Go.Proofs.YtojcbknclfamhaaGreatDoor.A
namespace Go.Proofs.YtojcbknclfamhaaGreatDoor.A
open Go.RowKit Go.Proofs.YtojcbknclfamhaaGreatDoorW.PrintWords Go.Proofs.YtojcbknclfamhaaGreatDoorW.PrintLast Go.Proofs.YtojcbknclfamhaaGreatDoorW.PrintMore
set_option linter.unusedVariables false
set_option linter.unusedSimpArgs false
theorem wrap_s (i : Nat) (h : i < 1000000000) : wrap64 ((i : Int) + 1) = ((i + 1 : Nat) : Int) := by unfold wrap64; omega
def le4 (n : Int) : List Int := [n % 256, n / 256 % 256, n / 65536 % 256, n / 16777216 % 256]
def sumT (t : ByteArray) : Int := Go.bits .xor .u32 IntKind.u32.max (sumF t.data.toList)
theorem bt_bytes (s : ByteArray) (k : Nat) : bt s (k : Int) = (bytesOf s).getD k 0 := by
  rw [bt_getD]
  unfold bytesOf
  simp only [List.getD, List.getElem?_map]
  cases s.data.toList[k]? <;> rfl
theorem or_u32 (x c : Int) (h0 : 0 ≤ x) (h1 : x < 16777216) (h2 : 0 ≤ c) (h3 : c < 256) : Go.bits .or .u32 (x * 256) c = x * 256 + c := by
  exact bits_join .u32 32 (by decide) wraps_u32 8 _ _ (by omega) (by omega) (by simp; omega) h2 (by simpa using h3) (by simp; omega)
theorem get_f (s : ByteArray) (n : Int) (z : List Int) (h0 : 0 ≤ n) (h1 : n < 4294967296) (h : bytesOf s = le4 n ++ z) : frame_get.f 10 s = some n := by
  have b0 : bt s 0 = n % 256 := by have := bt_bytes s 0; rw [h] at this; exact this
  have b1 : bt s 1 = n / 256 % 256 := by have := bt_bytes s 1; rw [h] at this; exact this
  have b2 : bt s 2 = n / 65536 % 256 := by have := bt_bytes s 2; rw [h] at this; exact this
  have b3 : bt s 3 = n / 16777216 % 256 := by have := bt_bytes s 3; rw [h] at this; exact this
  have hsz : 4 ≤ s.size := by rw [← bytesOf_length, h, List.length_append]; simp [le4]
  have w3 : wrap64 (3 - 1) = 2 := by unfold wrap64; omega
  have w2 : wrap64 (2 - 1) = 1 := by unfold wrap64; omega
  have w1 : wrap64 (1 - 1) = 0 := by unfold wrap64; omega
  have w0 : wrap64 (0 - 1) = -1 := by unfold wrap64; omega
  have s3 : Go.bits .or .u32 (0 * 256 % 4294967296) (n / 16777216 % 256 % 4294967296) = n / 16777216 := by
    rw [show (0 : Int) * 256 % 4294967296 = 0 * 256 from rfl, show n / 16777216 % 256 % 4294967296 = n / 16777216 % 256 by omega, or_u32 0 _ (by omega) (by omega) (by omega) (by omega)]; omega
  have s2 : Go.bits .or .u32 (n / 16777216 * 256 % 4294967296) (n / 65536 % 256 % 4294967296) = n / 65536 := by
    rw [show n / 16777216 * 256 % 4294967296 = n / 16777216 * 256 by omega, show n / 65536 % 256 % 4294967296 = n / 65536 % 256 by omega, or_u32 _ _ (by omega) (by omega) (by omega) (by omega)]; omega
  have s1 : Go.bits .or .u32 (n / 65536 * 256 % 4294967296) (n / 256 % 256 % 4294967296) = n / 256 := by
    rw [show n / 65536 * 256 % 4294967296 = n / 65536 * 256 by omega, show n / 256 % 256 % 4294967296 = n / 256 % 256 by omega, or_u32 _ _ (by omega) (by omega) (by omega) (by omega)]; omega
  have s0 : Go.bits .or .u32 (n / 256 * 256 % 4294967296) (n % 256 % 4294967296) = n := by
    rw [show n / 256 * 256 % 4294967296 = n / 256 * 256 by omega, show n % 256 % 4294967296 = n % 256 by omega, or_u32 _ _ (by omega) (by omega) (by omega) (by omega)]; omega
  unfold frame_get.f
  rw [frame_get.l0, if_pos (by decide), if_pos (by decide), if_pos (by omega), b3, s3, w3]
  rw [frame_get.l0, if_pos (by decide), if_pos (by decide), if_pos (by omega), b2, s2, w2]
  rw [frame_get.l0, if_pos (by decide), if_pos (by decide), if_pos (by omega), b1, s1, w1]
  rw [frame_get.l0, if_pos (by decide), if_pos (by decide), if_pos (by omega), b0, s0, w0]
  rw [frame_get.l0, if_neg (by decide)]
end Go.Proofs.YtojcbknclfamhaaGreatDoor.A
namespace Go.Proofs.YtojcbknclfamhaaGreatDoor.A
open Go.RowKit Go.Proofs.YtojcbknclfamhaaGreatDoorW.PrintWords Go.Proofs.YtojcbknclfamhaaGreatDoorW.PrintLast Go.Proofs.YtojcbknclfamhaaGreatDoorW.PrintMore
set_option linter.unusedVariables false
set_option linter.unusedSimpArgs false
def bitN (r : Nat) : Nat := if r % 2 = 1 then (r / 2) ^^^ 2197175160 else r / 2
theorem bitN_lt (r : Nat) (h : r < 4294967296) : bitN r < 4294967296 := by
  unfold bitN
  split
  · exact Nat.xor_lt_two_pow (n := 32) (by omega) (by omega)
  · omega
theorem bitStep_nat (r : Nat) (h : r < 4294967296) : bitStep (r : Int) = ((bitN r : Nat) : Int) := by
  unfold bitStep bitN
  rw [u32_and1 _ (by omega) (by omega)]
  by_cases h1 : r % 2 = 1
  · rw [if_pos (by rw [beq_iff_eq]; omega), if_pos h1, show (r : Int) / 2 = ((r / 2 : Nat) : Int) by omega, show (2197175160 : Int) = ((2197175160 : Nat) : Int) from rfl, u32_xor_nat _ _ (by omega) (by omega)]
  · rw [if_neg (by rw [beq_iff_eq]; omega), if_neg h1]; omega
theorem xor_div2 (a b : Nat) : (a ^^^ b) / 2 = (a / 2) ^^^ (b / 2) := by
  have := Nat.shiftRight_xor_distrib (a := a) (b := b) (i := 1)
  simpa [Nat.shiftRight_eq_div_pow] using this
theorem xor_mod2 (a b : Nat) : (a ^^^ b) % 2 = (a + b) % 2 := by
  have h0 : (a ^^^ b).testBit 0 = (a.testBit 0 ^^ b.testBit 0) := Nat.testBit_xor a b 0
  rw [Nat.testBit_zero, Nat.testBit_zero, Nat.testBit_zero] at h0
  have ha : a % 2 = 0 ∨ a % 2 = 1 := by omega
  have hb : b % 2 = 0 ∨ b % 2 = 1 := by omega
  have hx : (a ^^^ b) % 2 = 0 ∨ (a ^^^ b) % 2 = 1 := by omega
  rcases ha with ha | ha <;> rcases hb with hb | hb <;> rcases hx with hx | hx <;> rw [ha, hb, hx] at h0 <;> simp at h0 <;> omega
theorem bitN_xor (a b : Nat) : bitN (a ^^^ b) = bitN a ^^^ bitN b := by
  unfold bitN
  rw [xor_div2, xor_mod2]
  by_cases ha : a % 2 = 1
  · by_cases hb : b % 2 = 1
    · rw [if_neg (by omega), if_pos ha, if_pos hb]
      rw [Nat.xor_assoc, Nat.xor_comm 2197175160, Nat.xor_assoc, Nat.xor_self, Nat.xor_zero]
    · rw [if_pos (by omega), if_pos ha, if_neg hb, Nat.xor_assoc, Nat.xor_assoc, Nat.xor_comm 2197175160]
  · by_cases hb : b % 2 = 1
    · rw [if_pos (by omega), if_neg ha, if_pos hb, Nat.xor_assoc]
    · rw [if_neg (by omega), if_neg ha, if_neg hb]
theorem bitN_two (a : Nat) : bitN (2 * a) = a := by
  unfold bitN
  rw [if_neg (by omega)]; omega
theorem four_bits (q m : Nat) (hm : m < 16) : bitN (bitN (bitN (bitN (16 * q + m)))) = q ^^^ bitN (bitN (bitN (bitN m))) := by
  have e : 16 * q + m = (16 * q) ^^^ m := by
    have h := Nat.two_pow_add_eq_or_of_lt (i := 4) (b := m) (by omega) q
    have h2 : 2 ^ 4 * q ||| m = (2 ^ 4 * q) ^^^ m := by
      apply Nat.eq_of_testBit_eq
      intro i
      rw [Nat.testBit_or, Nat.testBit_xor]
      by_cases hi : i < 4
      · have : (2 ^ 4 * q).testBit i = false := by rw [Nat.testBit_two_pow_mul]; simp; omega
        rw [this]; simp
      · have : m.testBit i = false := Nat.testBit_lt_two_pow (Nat.lt_of_lt_of_le (show m < 2 ^ 4 by omega) (Nat.pow_le_pow_right (by decide) (by omega)))
        rw [this]; simp
    have e16 : (2 : Nat) ^ 4 = 16 := rfl
    rw [e16] at h h2
    rw [h, h2]
  rw [e, bitN_xor, bitN_xor, bitN_xor, bitN_xor, show 16 * q = 2 * (2 * (2 * (2 * q))) by omega, bitN_two, bitN_two, bitN_two, bitN_two]
theorem tab_nat (m : Nat) (hm : m < 16) : tabV m = ((bitN (bitN (bitN (bitN m))) : Nat) : Int) := by
  unfold tabV
  show bitStep (bitStep (bitStep (bitStep (m : Int)))) = _
  have h0 : m < 4294967296 := by omega
  rw [bitStep_nat m h0, bitStep_nat _ (bitN_lt _ h0), bitStep_nat _ (bitN_lt _ (bitN_lt _ h0)), bitStep_nat _ (bitN_lt _ (bitN_lt _ (bitN_lt _ h0)))]
theorem half_nat (r : Nat) (h : r < 4294967296) : halfStep (r : Int) = ((bitN (bitN (bitN (bitN r))) : Nat) : Int) := by
  unfold halfStep
  rw [u32_and15 _ (by omega) (by omega), show ((r : Int) % 16).toNat = r % 16 by omega, tab_nat _ (by omega), show (r : Int) / 16 = ((r / 16 : Nat) : Int) by omega]
  have ht : bitN (bitN (bitN (bitN (r % 16)))) < 4294967296 := bitN_lt _ (bitN_lt _ (bitN_lt _ (bitN_lt _ (by omega))))
  rw [u32_xor_nat _ _ (by omega) ht]
  have := four_bits (r / 16) (r % 16) (by omega)
  rw [show 16 * (r / 16) + r % 16 = r by omega] at this
  rw [this]
def bits8 : Nat → Nat → Nat
  | 0, r => r
  | k + 1, r => bits8 k (bitN r)
theorem bits8_lt : ∀ (k r : Nat), r < 4294967296 → bits8 k r < 4294967296
  | 0, r, h => h
  | k + 1, r, h => bits8_lt k _ (bitN_lt r h)
theorem sumStep_nat (r : Nat) (c : UInt8) (h : r < 4294967296) : sumStep (r : Int) c = ((bits8 8 (r ^^^ c.toNat) : Nat) : Int) := by
  unfold sumStep
  have hc := c.toNat_lt
  have hx : r ^^^ c.toNat < 4294967296 := Nat.xor_lt_two_pow (n := 32) (by omega) (by omega)
  rw [u32_xor_nat _ _ (by omega) (by omega), half_nat _ hx, half_nat _ (bitN_lt _ (bitN_lt _ (bitN_lt _ (bitN_lt _ hx))))]
  rfl
theorem rsum1 (s : ByteArray) (x4 : Int) : ∀ (d k r : Nat), d ≤ 8 → r < 4294967296 → tithebarnref08_Sum.l1 (k + (d + 1)) s (r : Int) x4 ((8 - d : Nat) : Int) = tithebarnref08_Sum.l0 k s ((bits8 d r : Nat) : Int) (wrap64 (x4 + 1))
  | 0, k, r, hd, hr => by
    rw [tithebarnref08_Sum.l1, if_neg (by omega)]
    rfl
  | d + 1, k, r, hd, hr => by
    rw [show k + (d + 1 + 1) = (k + (d + 1)) + 1 by omega, tithebarnref08_Sum.l1, if_pos (by omega)]
    have hw : wrap64 (((8 - (d + 1) : Nat) : Int) + 1) = ((8 - d : Nat) : Int) := by rw [IntWalk.wrap64_in _ (by omega)]; omega
    have ht : Int.tdiv (r : Int) 2 = ((r / 2 : Nat) : Int) := by rw [Int.tdiv_eq_ediv_of_nonneg (by omega)]; omega
    have hm : Int.tmod (r : Int) 2 = ((r % 2 : Nat) : Int) := by rw [Int.tmod_eq_emod_of_nonneg (by omega)]; omega
    rw [hw, ht, hm]
    have ih := rsum1 s x4 d k (bitN r) (by omega) (bitN_lt r hr)
    rw [show ((r / 2 : Nat) : Int) % 4294967296 = ((r / 2 : Nat) : Int) by omega]
    by_cases h1 : r % 2 = 1
    · have hb : bitN r = (r / 2) ^^^ 2197175160 := by unfold bitN; rw [if_pos h1]
      rw [if_pos (by omega), show (2197175160 : Int) = ((2197175160 : Nat) : Int) from rfl, u32_xor_nat _ _ (by omega) (by omega), ← hb]
      exact ih
    · have hb : bitN r = r / 2 := by unfold bitN; rw [if_neg h1]
      rw [if_neg (by omega), ← hb]
      exact ih
theorem rsum0 (s : ByteArray) (hs : s.size ≤ 100000000) : ∀ (d i k r : Nat), i + d = s.size → 10 * d < k → r < 4294967296 → sumF (s.data.toList.take i) = (r : Int) → tithebarnref08_Sum.l0 k s (r : Int) (i : Int) = some (sumT s)
  | 0, i, k, r, hi, hk, hr, h => by
    obtain ⟨k, rfl⟩ : ∃ m, k = m + 1 := ⟨k - 1, by omega⟩
    rw [tithebarnref08_Sum.l0, if_neg (by omega)]
    rw [List.take_of_length_le (by rw [size_len]; omega)] at h
    unfold sumT
    rw [h]
  | d + 1, i, k, r, hi, hk, hr, h => by
    obtain ⟨k, rfl⟩ : ∃ m, k = m + 10 := ⟨k - 10, by omega⟩
    have hil : i < s.data.toList.length := by rw [size_len]; omega
    have hb : bt s (i : Int) = ((s.data.toList[i].toNat : Nat) : Int) := by rw [bt_getD]; simp [List.getD, List.getElem?_eq_getElem hil]
    have hc := (s.data.toList[i]).toNat_lt
    have hx : r ^^^ (s.data.toList[i]).toNat < 4294967296 := Nat.xor_lt_two_pow (n := 32) (by omega) (by omega)
    have hsn := sumF_snoc s.data.toList i hil
    rw [h, sumStep_nat r _ hr] at hsn
    rw [tithebarnref08_Sum.l0, if_pos (by omega), if_pos (by omega), hb]
    generalize (s.data.toList[i]).toNat = c at *
    rw [show ((c : Int) % 4294967296) = (c : Int) by omega, u32_xor_nat _ _ (by omega) (by omega)]
    have h1 := rsum1 s (i : Int) 8 k (r ^^^ c) (by omega) hx
    rw [show ((8 - 8 : Nat) : Int) = 0 from rfl] at h1
    rw [show k + 9 = k + (8 + 1) by omega, h1, IntWalk.wrap64_in _ (by omega)]
    exact rsum0 s hs d (i + 1) k _ (by omega) (by omega) (bits8_lt 8 _ hx) hsn
theorem rsum_f (k : Nat) (s : ByteArray) (hs : s.size ≤ 100000000) (hk : 10 * s.size < k) : tithebarnref08_Sum.f k s = some (sumT s) :=
  rsum0 s hs s.size 0 k 4294967295 (by omega) hk (by omega) rfl
theorem number_f (s : ByteArray) (n : Int) (h0 : 0 ≤ n) (h1 : n < 4294967296) (h : bytesOf s = le4 n) : tithebarnref08_number.f s = some n := by
  have b0 : bt s 0 = n % 256 := by have := bt_bytes s 0; rw [h] at this; exact this
  have b1 : bt s 1 = n / 256 % 256 := by have := bt_bytes s 1; rw [h] at this; exact this
  have b2 : bt s 2 = n / 65536 % 256 := by have := bt_bytes s 2; rw [h] at this; exact this
  have b3 : bt s 3 = n / 16777216 % 256 := by have := bt_bytes s 3; rw [h] at this; exact this
  have hsz : s.size = 4 := by rw [← bytesOf_length, h]; rfl
  unfold tithebarnref08_number.f
  rw [if_pos (by omega), if_pos (by omega), if_pos (by omega), if_pos (by omega), b0, b1, b2, b3]
  congr 1
  omega
end Go.Proofs.YtojcbknclfamhaaGreatDoor.A
namespace Go.Proofs.YtojcbknclfamhaaGreatDoor.A
open Go.RowKit Go.Proofs.YtojcbknclfamhaaGreatDoorW.PrintWords Go.Proofs.YtojcbknclfamhaaGreatDoorW.PrintLast Go.Proofs.YtojcbknclfamhaaGreatDoorW.PrintMore
set_option linter.unusedVariables false
set_option linter.unusedSimpArgs false
abbrev Cur := ByteArray × Int
abbrev Fit (s : ByteArray) : Prop := s.size ≤ 140737488351232
def byteP (c : Cur) : Int × Cur := if c.2 = 0 then (if c.1.size = 0 then (0, (c.1, 2)) else (bt c.1 0, (c.1.extract 1 c.1.size, 0))) else (0, c)
def uintP (c : Cur) : Int × Cur := if c.2 = 0 then ((nextP c.1).1, ((nextP c.1).2.1, (nextP c.1).2.2)) else (0, c)
def textP (c : Cur) : ByteArray × Cur :=
  if c.2 = 0 then
    if (nextP c.1).2.2 = 0 then
      if (nextP c.1).1 > 64 then (⟨#[]⟩, (c.1, 3)) else
      if ((nextP c.1).2.1.size : Int) < (nextP c.1).1 then (⟨#[]⟩, (c.1, 2)) else
      ((nextP c.1).2.1.extract 0 (nextP c.1).1.toNat, ((nextP c.1).2.1.extract (nextP c.1).1.toNat (nextP c.1).2.1.size, 0))
    else (⟨#[]⟩, (c.1, (nextP c.1).2.2))
  else (⟨#[]⟩, c)
theorem foldB_nonneg (x : Int) (l : List UInt8) (h : 0 ≤ x) : 0 ≤ foldB x l := (foldB_le l x h).1
theorem nextP_nonneg (s : ByteArray) : 0 ≤ (nextP s).1 := by
  have hb := bt_range s 0
  have hx : 0 ≤ (if bt s 0 = 192 then (0 : Int) else bt s 0 % 64) := by split <;> omega
  unfold nextP
  repeat' split
  all_goals first | exact Int.le_refl _ | exact foldB_nonneg _ _ (by first | exact hx | exact Int.le_refl _ | omega)
theorem extract_le (s : ByteArray) (a b : Nat) : (s.extract a b).size ≤ s.size := by rw [ByteArray.size_extract]; omega
theorem nextP_size (s : ByteArray) : (nextP s).2.1.size ≤ s.size := by
  unfold nextP
  repeat' split
  all_goals first | exact Nat.le_refl _ | exact extract_le _ _ _
def doneP (c : Cur) : Int := if c.2 = 0 ∧ c.1.size ≠ 0 then 5 else c.2
theorem bt_at (s : ByteArray) (j : Nat) (h : j < s.data.toList.length) : bt s (j : Int) = ((s.data.toList[j]).toNat : Int) := by
  rw [bt_getD, List.getD, List.getElem?_eq_getElem h]
  rfl
def curAt (S : ByteArray) (a : Nat) (e : Int) : Cur := (S.extract a S.size, e)
theorem curAt_size (S : ByteArray) (a : Nat) : (S.extract a S.size).size = S.size - a := by rw [ByteArray.size_extract, Nat.min_self]
theorem wr_small (n : Int) (h0 : -9223372036854775808 ≤ n) (h1 : n ≤ 9223372036854775807) : wrap64 n = n := by unfold wrap64; omega
theorem left3_f (S : ByteArray) (a : Nat) (e : Int) (hs : Fit S) (ha : a ≤ S.size) : tithebarnref01_Cursor_Left.f S (a : Int) e = some (((S.size - a : Nat) : Int), S, (a : Int), e) := by
  have hs' : S.size ≤ 140737488351232 := hs
  unfold tithebarnref01_Cursor_Left.f
  rw [wr_small _ (by omega) (by omega), show (S.size : Int) - (a : Int) = ((S.size - a : Nat) : Int) by omega]
theorem bt_extract (S : ByteArray) (a j : Nat) (h : a + j < S.size) : bt (S.extract a S.size) (j : Int) = bt S ((a + j : Nat) : Int) := by
  have h1 : j < (S.extract a S.size).data.toList.length := by rw [data_len, curAt_size]; omega
  have h2 : a + j < S.data.toList.length := h
  rw [bt_at _ j h1, bt_at S (a + j) h2]
  congr 2
  simp [ByteArray.data_extract]
theorem ext_ext (S : ByteArray) (a n : Nat) (h : a ≤ S.size) : (S.extract a S.size).extract n (S.extract a S.size).size = S.extract (a + n) S.size := by
  rw [curAt_size, ByteArray.extract_extract]
  congr 1
  omega
theorem byte3_f (S : ByteArray) (a : Nat) (hs : Fit S) (ha : a ≤ S.size) (e : Int) :
    ∃ a' : Nat, a ≤ a' ∧ a' ≤ S.size ∧ tithebarnref01_Cursor_Byte.f S (a : Int) e = some ((byteP (curAt S a e)).1, S, (a' : Int), (byteP (curAt S a e)).2.2) ∧ (byteP (curAt S a e)).2.1 = S.extract a' S.size := by
  have hs' : S.size ≤ 140737488351232 := hs
  unfold tithebarnref01_Cursor_Byte.f byteP curAt
  simp only
  by_cases h : e = 0
  · rw [if_pos h, if_pos h, left3_f S a e hs ha]
    simp only [Option.bind_some]
    rw [curAt_size]
    by_cases h0 : S.size - a = 0
    · rw [if_pos (by omega), if_pos h0]
      refine ⟨a, Nat.le_refl _, ha, ?_, rfl⟩
      unfold tithebarnref01_Cursor_fail.f
      rw [if_pos h]
      rfl
    · have hb := bt_range S (a : Int)
      rw [if_neg (by omega), if_neg h0, wr_small ((a : Int) + 1) (by omega) (by omega), wr_small ((a : Int) + 1 - 1) (by omega) (by omega), show (a : Int) + 1 - 1 = (a : Int) by omega, if_pos (by omega), if_pos (by omega), wr_small _ (by omega) (by omega)]
      refine ⟨a + 1, by omega, by omega, ?_, ?_⟩
      · have := bt_extract S a 0 (by omega)
        simp only [Nat.add_zero, Int.natCast_zero] at this
        rw [this, h]
        rfl
      · rw [← curAt_size S a]
        exact ext_ext S a 1 ha
  · rw [if_neg h, if_neg h]
    exact ⟨a, Nat.le_refl _, ha, rfl, rfl⟩
theorem uintB_len (x : Int) : (uintB x).length = if x < 64 then 1 else if x < 16384 then 2 else if x < 1073741824 then 4 else 9 := by
  unfold uintB
  repeat' split
  all_goals simp [bigB_length]
theorem size3_f (b : Int) : tithebarnref01_size.f b = some ((sizeN b : Nat) : Int) := by
  unfold tithebarnref01_size.f sizeN
  repeat' split
  all_goals first | rfl | omega
theorem size_kinds (b : Int) : (b < 64 ∧ sizeN b = 1) ∨ (64 ≤ b ∧ b < 128 ∧ sizeN b = 2) ∨ (128 ≤ b ∧ b < 192 ∧ sizeN b = 4) ∨ (192 ≤ b ∧ sizeN b = 9) := by
  unfold sizeN
  repeat' split
  all_goals omega
theorem len_least (n : Nat) (x : Int) (h : (n = 1 ∧ x < 64) ∨ (n = 2 ∧ x < 16384) ∨ (n = 4 ∧ x < 1073741824) ∨ n = 9) (h0 : 0 ≤ x) : ((strOfNums (uintB x)).size : Int) = (n : Int) ↔ ¬ x < leastN n := by
  rw [strOfNums_size, uintB_len]
  unfold leastN
  rcases h with ⟨rfl, h⟩ | ⟨rfl, h⟩ | ⟨rfl, h⟩ | rfl
  all_goals (repeat' split)
  all_goals omega
theorem step_wr (x c : Int) (h0 : 0 ≤ x) (hc : 0 ≤ c ∧ c < 256) (h : x < 72057594037927936) : IntKind.u64.wrap (IntKind.u64.wrap (256 * x) + IntKind.u64.wrap c) = x * 256 + c := by
  rw [IntWalk.u64_in (256 * x) (by omega), IntWalk.u64_in c (by omega), IntWalk.u64_in _ (by omega)]
  omega
theorem wr_two3 (a j : Nat) (h : a ≤ 140737488351232) (hj : j ≤ 9) : wrap64 ((a : Int) + (j : Int)) = ((a + j : Nat) : Int) := by unfold wrap64; omega
theorem wr_up (j : Nat) (hj : j ≤ 9) : wrap64 ((j : Int) + 1) = ((j + 1 : Nat) : Int) := by unfold wrap64; omega
theorem foldB_lt (x0 : Int) (l : List UInt8) (hx : 0 ≤ x0 ∧ x0 < 64 ∧ l.length ≤ 3 ∨ x0 = 0 ∧ l.length ≤ 8) : foldB x0 l < 18446744073709551616 := by
  have hk := (foldB_le l x0 (by omega)).2
  rcases hx with ⟨h0, h1, h2⟩ | ⟨rfl, h2⟩
  · have hp : (256 : Int) ^ l.length ≤ 256 ^ 3 := pow_le256 _ _ h2
    exact Int.lt_of_lt_of_le hk (Int.le_trans (Int.mul_le_mul (show x0 + 1 ≤ 64 by omega) hp (Int.pow_nonneg (by omega)) (by omega)) (by decide))
  · have hp : (256 : Int) ^ l.length ≤ 256 ^ 8 := pow_le256 _ _ h2
    exact Int.lt_of_lt_of_le hk (by simpa using hp)
theorem foldB_end (x0 : Int) (l : List UInt8) (n : Nat) (hl : l.length + 1 = n) (hx : 0 ≤ x0 ∧ x0 < 64) (hn : n = 1 ∨ n = 2 ∨ n = 4 ∨ n = 9 ∧ x0 = 0) : (n = 1 ∧ foldB x0 l < 64) ∨ (n = 2 ∧ foldB x0 l < 16384) ∨ (n = 4 ∧ foldB x0 l < 1073741824) ∨ n = 9 := by
  have hk := (foldB_le l x0 (by omega)).2
  rcases hn with rfl | rfl | rfl | ⟨rfl, _⟩
  · obtain rfl : l = [] := List.eq_nil_of_length_eq_zero (by omega)
    exact .inl ⟨rfl, hx.2⟩
  · have : l.length = 1 := by omega
    rw [this] at hk
    exact .inr (.inl ⟨rfl, by omega⟩)
  · have : l.length = 3 := by omega
    rw [this] at hk
    exact .inr (.inr (.inl ⟨rfl, by omega⟩))
  · exact .inr (.inr (.inr rfl))
theorem getD_at (S : ByteArray) (a n j : Nat) (h : a + n ≤ S.size) (hj : j + 1 < n) : ((((S.extract a S.size).data.toList.take n).drop 1).getD j 0).toNat = bt S ((a + (j + 1) : Nat) : Int) := by
  rw [← getD_part _ n j hj]
  have h1 : 1 + j < (S.extract a S.size).data.toList.length := by rw [data_len, curAt_size]; omega
  have h2 := bt_extract S a (1 + j) (by omega)
  rw [bt_at _ _ h1] at h2
  rw [show a + (j + 1) = a + (1 + j) by omega, ← h2, List.getD_eq_getElem?_getD, List.getElem?_eq_getElem h1]
  rfl
theorem peek_l (S : ByteArray) (a n : Nat) (e x0 : Int) (hs : Fit S) (ha : a + n ≤ S.size) (hx : 0 ≤ x0 ∧ x0 < 64) (hn : n = 1 ∨ n = 2 ∨ n = 4 ∨ n = 9 ∧ x0 = 0) : ∀ (d k j : Nat), j + d + 1 = n → d < k →
    tithebarnref01_Cursor_peek.l0 k (n : Int) (foldB x0 ((((S.extract a S.size).data.toList.take n).drop 1).take j)) ((j + 1 : Nat) : Int) S (a : Int) e =
      some (if foldB x0 (((S.extract a S.size).data.toList.take n).drop 1) < leastN n then (0, 0, 5, S, (a : Int), e) else (foldB x0 (((S.extract a S.size).data.toList.take n).drop 1), (n : Int), 0, S, (a : Int), e)) := by
  have hs' : S.size ≤ 140737488351232 := hs
  have hlen : (((S.extract a S.size).data.toList.take n).drop 1).length + 1 = n := by rw [List.length_drop, List.length_take, data_len, curAt_size]; omega
  intro d
  induction d with
  | zero =>
    intro k j hj hk
    obtain ⟨k, rfl⟩ : ∃ m, k = m + 1 := ⟨k - 1, by omega⟩
    rw [tithebarnref01_Cursor_peek.l0, if_neg (by omega), List.take_of_length_le (by omega)]
    have h0 := (foldB_le (((S.extract a S.size).data.toList.take n).drop 1) x0 hx.1).1
    have h1 := foldB_lt x0 (((S.extract a S.size).data.toList.take n).drop 1) (by omega)
    have h2 := len_least n _ (foldB_end x0 _ n hlen hx hn) h0
    unfold tithebarnref01_Uint.f
    rw [if_pos ⟨h0, h1⟩]
    simp only [Option.bind_some]
    by_cases hc : foldB x0 (((S.extract a S.size).data.toList.take n).drop 1) < leastN n
    · rw [if_pos hc, if_neg (fun h => h2.1 h hc)]
    · rw [if_neg hc, if_pos (h2.2 hc)]
  | succ d ih =>
    intro k j hj hk
    obtain ⟨k, rfl⟩ : ∃ m, k = m + 1 := ⟨k - 1, by omega⟩
    have hjl : j < (((S.extract a S.size).data.toList.take n).drop 1).length := by omega
    have hb := bt_range S ((a + (j + 1) : Nat) : Int)
    have hf0 := (foldB_le ((((S.extract a S.size).data.toList.take n).drop 1).take j) x0 hx.1).1
    have hf1 := (foldB_range x0 ((((S.extract a S.size).data.toList.take n).drop 1).take j) (n - 2) (by rw [List.length_take]; omega) (by omega)).2
    rw [tithebarnref01_Cursor_peek.l0, if_pos (by omega), wr_two3 a (j + 1) (by omega) (by omega), wr_up (j + 1) (by omega), if_pos (by omega), if_pos (by omega), IntWalk.u64_in (bt S ((a + (j + 1) : Nat) : Int)) (by omega), ← getD_at S a n j ha (by omega)]
    have hg := getD_at S a n j ha (by omega)
    have hw := step_wr (foldB x0 ((((S.extract a S.size).data.toList.take n).drop 1).take j)) (((((S.extract a S.size).data.toList.take n).drop 1).getD j 0).toNat : Int) hf0 (by rw [hg]; omega) hf1
    rw [IntWalk.u64_in ((((((S.extract a S.size).data.toList.take n).drop 1).getD j 0).toNat : Int)) (by rw [hg]; omega)] at hw
    rw [hw, ← foldB_step _ _ _ hjl]
    exact ih k (j + 1) (by omega) (by omega)
theorem x0_eq (b : Int) (h0 : 0 ≤ b) (h : b ≤ 192) : IntKind.u64.wrap (Int.tmod b 64) = (if b = 192 then 0 else b % 64) ∧ 0 ≤ (if b = 192 then (0 : Int) else b % 64) ∧ (if b = 192 then (0 : Int) else b % 64) < 64 := by
  rw [Int.tmod_eq_emod_of_nonneg h0, IntWalk.u64_in _ (by omega)]
  split <;> omega
theorem peek3_f (k : Nat) (S : ByteArray) (a : Nat) (e : Int) (hs : Fit S) (ha : a ≤ S.size) (hk : 10 < k) :
    ∃ n : Nat, tithebarnref01_Cursor_peek.f k S (a : Int) e = some ((nextP (S.extract a S.size)).1, (n : Int), (nextP (S.extract a S.size)).2.2, S, (a : Int), e) ∧
      ((nextP (S.extract a S.size)).2.2 = 0 → a + n ≤ S.size ∧ (nextP (S.extract a S.size)).2.1 = S.extract (a + n) S.size) ∧
      ((nextP (S.extract a S.size)).2.2 ≠ 0 → (nextP (S.extract a S.size)).1 = 0 ∧ (nextP (S.extract a S.size)).2.1 = S.extract a S.size) := by
  have hs' : S.size ≤ 140737488351232 := hs
  obtain ⟨k, rfl⟩ : ∃ m, k = m + 1 := ⟨k - 1, by omega⟩
  unfold tithebarnref01_Cursor_peek.f
  rw [left3_f S a e hs ha, Option.bind_some]
  simp only
  unfold nextP
  rw [curAt_size]
  by_cases h0 : S.size - a = 0
  · rw [if_pos (by omega), if_pos h0]
    exact ⟨0, rfl, fun h => absurd h (by simp), fun _ => ⟨rfl, rfl⟩⟩
  · rw [if_neg (by omega), if_neg h0, if_pos (by omega), if_pos (by omega), size3_f, Option.bind_some]
    have hb0 := bt_extract S a 0 (by omega)
    simp only [Nat.add_zero, Int.natCast_zero] at hb0
    rw [hb0]
    have hr := bt_range S (a : Int)
    have hkk := size_kinds (bt S (a : Int))
    have hx := x0_eq (bt S (a : Int)) hr.1
    obtain ⟨b, hb⟩ : ∃ b, b = bt S (a : Int) := ⟨_, rfl⟩
    rw [← hb] at hr hkk hx ⊢
    obtain ⟨z, hz⟩ : ∃ z, z = sizeN b := ⟨_, rfl⟩
    rw [← hz] at hkk ⊢
    by_cases h1 : 192 < b
    · rw [if_pos (by omega), if_pos h1, tithebarnref01_Cursor_peek.j0, if_pos (by rw [bne_iff_ne]; omega)]
      exact ⟨0, rfl, fun h => absurd h (by simp), fun _ => ⟨rfl, rfl⟩⟩
    · rw [if_neg h1]
      obtain ⟨hx1, hx2, hx3⟩ := hx (by omega)
      have hn : z = 1 ∨ z = 2 ∨ z = 4 ∨ z = 9 ∧ (if b = 192 then (0 : Int) else b % 64) = 0 := by
        rcases hkk with h | h | h | h
        · exact .inl h.2
        · exact .inr (.inl h.2.2)
        · exact .inr (.inr (.inl h.2.2))
        · exact .inr (.inr (.inr ⟨h.2, if_pos (by omega)⟩))
      have hj : (if (z : Int) = 9 then tithebarnref01_Cursor_peek.j0 (k + 1) (z : Int) (b != 192) S (a : Int) e else tithebarnref01_Cursor_peek.j0 (k + 1) (z : Int) false S (a : Int) e) = tithebarnref01_Cursor_peek.j0 (k + 1) (z : Int) false S (a : Int) e := by
        split
        · rw [show (b != 192) = false from bne_eq_false_iff_eq.mpr (by omega)]
        · rfl
      rw [hj, tithebarnref01_Cursor_peek.j0, if_neg (by decide), left3_f S a e hs ha, Option.bind_some]
      simp only
      by_cases h2 : S.size - a < z
      · rw [if_pos (by omega), if_pos h2]
        exact ⟨0, rfl, fun h => absurd h (by simp), fun _ => ⟨rfl, rfl⟩⟩
      · rw [if_neg (by omega), if_neg h2, if_pos (by omega), if_pos (by omega)]
        rw [← hb, hx1]
        have hl := peek_l S a z e (if b = 192 then (0 : Int) else b % 64) hs (by omega) ⟨hx2, hx3⟩ hn (z - 1) k 0 (by omega) (by omega)
        simp only [List.take_zero, Nat.zero_add] at hl
        rw [show foldB (if b = 192 then (0 : Int) else b % 64) [] = (if b = 192 then (0 : Int) else b % 64) from rfl, show ((1 : Nat) : Int) = 1 from rfl] at hl
        rw [hl]
        by_cases h3 : foldB (if b = 192 then (0 : Int) else b % 64) (((S.extract a S.size).data.toList.take z).drop 1) < leastN z
        · rw [if_pos h3, if_pos h3]
          exact ⟨0, rfl, fun h => absurd h (by simp), fun _ => ⟨rfl, rfl⟩⟩
        · rw [if_neg h3, if_neg h3]
          refine ⟨z, rfl, fun _ => ⟨by omega, ?_⟩, fun h => absurd rfl h⟩
          have := ext_ext S a z ha
          rw [curAt_size] at this
          exact this
theorem fail3_f (S : ByteArray) (a e x : Int) (h : e = 0) : tithebarnref01_Cursor_fail.f S a e x = some (S, a, x) := by
  unfold tithebarnref01_Cursor_fail.f
  rw [if_pos h]
theorem uint3_f (k : Nat) (S : ByteArray) (a : Nat) (hs : Fit S) (ha : a ≤ S.size) (e : Int) (hk : 10 < k) :
    ∃ a' : Nat, a ≤ a' ∧ a' ≤ S.size ∧ tithebarnref01_Cursor_Uint.f k S (a : Int) e = some ((uintP (curAt S a e)).1, S, (a' : Int), (uintP (curAt S a e)).2.2) ∧ (uintP (curAt S a e)).2.1 = S.extract a' S.size := by
  have hs' : S.size ≤ 140737488351232 := hs
  unfold tithebarnref01_Cursor_Uint.f uintP curAt
  simp only
  by_cases h : e = 0
  · obtain ⟨n, h1, h2, h3⟩ := peek3_f k S a e hs ha hk
    rw [if_pos h, if_pos h, h1, Option.bind_some]
    simp only
    by_cases h4 : (nextP (S.extract a S.size)).2.2 = 0
    · obtain ⟨h5, h6⟩ := h2 h4
      rw [if_pos h4, h4, ← Int.natCast_add, wr_small _ (by omega) (by omega)]
      exact ⟨a + n, by omega, h5, by rw [h], h6⟩
    · obtain ⟨h5, h6⟩ := h3 h4
      rw [if_neg h4, fail3_f S a e _ h, Option.bind_some]
      exact ⟨a, Nat.le_refl _, ha, by rw [h5], h6⟩
  · rw [if_neg h, if_neg h]
    exact ⟨a, Nat.le_refl _, ha, rfl, rfl⟩
theorem nextP_lt (s : ByteArray) : (nextP s).1 < 18446744073709551616 := by
  have hb := bt_range s 0
  unfold nextP
  repeat' split
  all_goals first
    | exact (show (0 : Int) < 18446744073709551616 by decide)
    | (refine foldB_lt _ _ ?_
       have hk := size_kinds (bt s 0)
       rw [List.length_drop, List.length_take]
       omega)
theorem text3_f (k : Nat) (S : ByteArray) (a : Nat) (hs : Fit S) (ha : a ≤ S.size) (e : Int) (hk : 11 < k) :
    ∃ a' : Nat, a ≤ a' ∧ a' ≤ S.size ∧ tithebarnref01_Cursor_Text.f k S (a : Int) e 64 = some ((textP (curAt S a e)).1, S, (a' : Int), (textP (curAt S a e)).2.2) ∧ (textP (curAt S a e)).2.1 = S.extract a' S.size := by
  have hs' : S.size ≤ 140737488351232 := hs
  unfold tithebarnref01_Cursor_Text.f textP curAt
  simp only
  by_cases h : e = 0
  · obtain ⟨n, h1, h2, h3⟩ := peek3_f k S a e hs ha (by omega)
    have hx0 := nextP_nonneg (S.extract a S.size)
    have hx1 := nextP_lt (S.extract a S.size)
    rw [if_pos h, if_pos h, h1, Option.bind_some]
    simp only
    by_cases h4 : (nextP (S.extract a S.size)).2.2 = 0
    · obtain ⟨h5, h6⟩ := h2 h4
      obtain ⟨k, rfl⟩ : ∃ m, k = m + 1 := ⟨k - 1, by omega⟩
      rw [if_pos h4, if_pos h4, if_neg (by decide), tithebarnref01_Cursor_Text.j0, h6, IntWalk.u64_in 64 (by decide)]
      generalize (nextP (S.extract a S.size)).1 = x at *
      by_cases h7 : x > 64
      · rw [if_pos h7, if_pos (decide_eq_true h7), fail3_f S a e _ h, Option.bind_some]
        exact ⟨a, Nat.le_refl _, ha, rfl, rfl⟩
      · rw [if_neg h7, if_neg (by simpa using h7), left3_f S a e hs ha, Option.bind_some]
        simp only
        have e1 : wrap64 (((S.size - a : Nat) : Int) - (n : Int)) = ((S.size - (a + n) : Nat) : Int) := by rw [wr_small _ (by omega) (by omega)]; omega
        have e2 : wrap64 ((a : Int) + (n : Int)) = ((a + n : Nat) : Int) := by rw [wr_small _ (by omega) (by omega)]; omega
        have e3 : wrap64 x = x := wr_small _ (by omega) (by omega)
        rw [e1, e2, e3, IntWalk.u64_in _ (by omega), curAt_size]
        by_cases h8 : ((S.size - (a + n) : Nat) : Int) < x
        · rw [if_pos h8, if_pos h8, fail3_f S a e _ h, Option.bind_some]
          exact ⟨a, Nat.le_refl _, ha, rfl, rfl⟩
        · have e4 : wrap64 (((a + n : Nat) : Int) + x) = ((a + n + x.toNat : Nat) : Int) := by rw [wr_small _ (by omega) (by omega)]; omega
          have e5 : wrap64 ((a : Int) + wrap64 ((n : Int) + x)) = ((a + n + x.toNat : Nat) : Int) := by rw [wr_small ((n : Int) + x) (by omega) (by omega), wr_small _ (by omega) (by omega)]; omega
          rw [if_neg h8, if_neg h8, e4, e5, if_pos (by omega), if_pos (by omega), if_pos (by omega)]
          refine ⟨a + n + x.toNat, by omega, by omega, ?_, ?_⟩
          · rw [Int.toNat_natCast, Int.toNat_natCast, ByteArray.extract_extract, h]
            congr 3
            · omega
          · have := ext_ext S (a + n) x.toNat h5
            rw [curAt_size] at this
            exact this
    · obtain ⟨h5, h6⟩ := h3 h4
      rw [if_neg h4, if_neg h4, fail3_f S a e _ h, Option.bind_some]
      exact ⟨a, Nat.le_refl _, ha, rfl, rfl⟩
  · rw [if_neg h, if_neg h]
    exact ⟨a, Nat.le_refl _, ha, rfl, rfl⟩
theorem done3_f (S : ByteArray) (a : Nat) (hs : Fit S) (ha : a ≤ S.size) (e : Int) : tithebarnref01_Cursor_Done.f S (a : Int) e = some (doneP (curAt S a e), S, (a : Int), e) := by
  unfold tithebarnref01_Cursor_Done.f doneP curAt
  simp only
  rw [curAt_size]
  by_cases h : e = 0
  · rw [if_pos h, left3_f S a e hs ha, Option.bind_some]
    simp only
    by_cases h0 : S.size - a = 0
    · rw [if_neg (by omega), if_neg (fun hh => hh.2 h0)]
    · rw [if_pos (by omega), if_pos ⟨h, h0⟩]
  · rw [if_neg h, if_neg (fun hh => h hh.1)]
end Go.Proofs.YtojcbknclfamhaaGreatDoor.A
namespace Go.Proofs.YtojcbknclfamhaaGreatDoor.A
open Go.RowKit Go.Proofs.YtojcbknclfamhaaGreatDoorW.PrintWords Go.Proofs.YtojcbknclfamhaaGreatDoorW.PrintLast Go.Proofs.YtojcbknclfamhaaGreatDoorW.PrintMore
set_option linter.unusedVariables false
set_option linter.unusedSimpArgs false
theorem pbyte_f (s : ByteArray) (e : Int) (hs : Fit s) : tally_Cursor_Byte.f s e = some ((byteP (s, e)).1, (byteP (s, e)).2.1, (byteP (s, e)).2.2) := by
  unfold tally_Cursor_Byte.f tally_Cursor_ok.f byteP
  simp only [Option.bind_some]
  by_cases he : e = 0
  · rw [if_pos he, if_pos (by rw [he]; rfl)]
    by_cases h0 : s.size = 0
    · rw [if_pos h0, if_pos (by rw [ByteArray.toList_eq]; exact List.eq_nil_of_length_eq_zero h0), ]
    · have hne : ¬ s.toList = [] := by
        rw [ByteArray.toList_eq]
        intro hx
        exact h0 (by rw [← size_len, hx]; rfl)
      have hr := bt_range s 0
      rw [if_neg h0, if_neg hne, if_pos (by omega), if_pos (by omega), IntWalk.wrap64_in _ (by omega), he]
  · rw [if_neg he, if_neg (by intro h; exact he (beq_iff_eq.1 h))]
theorem ptext_f (s : ByteArray) (e : Int) (hs : s.size ≤ 1000000000) : tally_Cursor_Text.f 10 s e 64 = some ((textP (s, e)).1, (textP (s, e)).2.1, (textP (s, e)).2.2) := by
  have hu64 : IntKind.u64.wrap 64 = 64 := by decide
  have hn0 := nextP_nonneg s
  unfold tally_Cursor_Text.f tally_Cursor_ok.f tally_next.f textP
  simp only [Option.bind_some]
  by_cases he : e = 0
  · rw [if_pos (by rw [he]; rfl), if_pos he]
    by_cases h1 : (nextP s).2.2 = 0
    · rw [if_pos h1, if_pos h1, if_neg (by decide), hu64, tally_Cursor_Text.j0]
      by_cases h2 : (nextP s).1 > 64
      · rw [if_pos (decide_eq_true h2), if_pos h2]
      · have hsz : (nextP s).2.1.size ≤ s.size := nextP_size s
        have hu : IntKind.u64.wrap ((nextP s).2.1.size : Int) = ((nextP s).2.1.size : Int) := IntWalk.u64_in _ (by omega)
        rw [if_neg (by rw [decide_eq_true_eq]; exact h2), if_neg h2, hu]
        by_cases h3 : ((nextP s).2.1.size : Int) < (nextP s).1
        · rw [if_pos h3, if_pos h3]
        · rw [if_neg h3, if_neg h3, if_pos hn0, if_pos (by omega), he]
    · rw [if_neg h1, if_neg h1]
  · rw [if_neg (by intro h; exact he (beq_iff_eq.1 h)), if_neg he]
theorem pint_f (s : ByteArray) (e : Int) : ∃ n, tally_Cursor_Int.f s e = some (n, (uintP (s, e)).2.1, (uintP (s, e)).2.2) ∧ n = (if (uintP (s, e)).1 % 2 = 0 then (uintP (s, e)).1 / 2 else -((uintP (s, e)).1 / 2) - 1) := by
  have hn0 := nextP_nonneg s
  have hn1 := nextP_lt s
  unfold tally_Cursor_Int.f tally_Cursor_Uint.f tally_Cursor_ok.f tally_next.f uintP
  simp only [Option.bind_some]
  by_cases he : e = 0
  · rw [if_pos (by rw [he]; rfl), if_pos he]
    simp only [Option.bind_some]
    exact ⟨_, rfl, unzz_w _ hn0 hn1⟩
  · rw [if_neg (by intro h; exact he (beq_iff_eq.1 h)), if_neg he]
    simp only [Option.bind_some]
    exact ⟨_, rfl, unzz_w 0 (by omega) (by omega)⟩
theorem open_f (x : Int) (h0 : 0 ≤ x) (h1 : x < 18446744073709551616) : tithebarnref01_Open.f x = some (if x % 2 = 0 then x / 2 else -(x / 2) - 1) := by
  unfold tithebarnref01_Open.f
  have e1 : Int.tmod x 2 = x % 2 := Int.tmod_eq_emod_of_nonneg h0
  have e2 : Int.tdiv x 2 = x / 2 := Int.tdiv_eq_ediv_of_nonneg h0
  have e3 : IntKind.u64.wrap (x / 2) = x / 2 := IntWalk.u64_in _ (by omega)
  have e4 : wrap64 (x / 2) = x / 2 := IntWalk.wrap64_in _ (by omega)
  rw [e1, e2, e3, e4]
  by_cases h : x % 2 = 0
  · rw [if_neg (by omega), if_pos h]
  · rw [if_pos (by omega), if_neg h, IntWalk.wrap64_in (-(x / 2)) (by omega), IntWalk.wrap64_in _ (by omega)]
def GoodR (r : List S46) : Prop := r.length ≤ 6 ∧ 0 < r.length ∧ ∀ v ∈ r, v.f2.size ≤ 64
theorem textP_64 (c : Cur) : (textP c).1.size ≤ 64 := by
  unfold textP
  split
  · split
    · split
      · show (0 : Nat) ≤ 64; omega
      · split
        · show (0 : Nat) ≤ 64; omega
        · rw [ByteArray.size_extract]; omega
    · show (0 : Nat) ≤ 64; omega
  · show (0 : Nat) ≤ 64; omega
theorem uintP_range (c : Cur) : 0 ≤ (uintP c).1 ∧ (uintP c).1 < 18446744073709551616 := by
  unfold uintP
  split
  · exact ⟨nextP_nonneg _, nextP_lt _⟩
  · show (0 : Int) ≤ 0 ∧ (0 : Int) < _; omega
def Fine (S s : ByteArray) (a : Nat) : Prop := s = S.extract a S.size ∧ a ≤ S.size
theorem truth_agree (S s : ByteArray) (a : Nat) (hS : S.size ≤ 1000000000) (h : Fine S s a) :
    ∃ (t : Bool) (s' : ByteArray) (e' : Int) (odd' : Bool) (t2 : Bool) (f : Int) (a' : Nat) (er' : Int), truthF s 0 false = some (t, s', e', odd') ∧ tithebarnref07_truth.f S (a : Int) 0 = some (t2, f, S, (a' : Int), er') ∧
      ((e' = 0 ∧ odd' = false ∧ f = 0 ∧ er' = 0 ∧ t2 = t ∧ Fine S s' a') ∨ ((odd' = true ∨ e' ≠ 0) ∧ f ≠ 0)) := by
  obtain ⟨rfl, ha⟩ := h
  have hfit : Fit S := by unfold Fit; omega
  have hfit2 : Fit (S.extract a S.size) := by unfold Fit; rw [curAt_size]; omega
  obtain ⟨a', h1, h2, h3, h4⟩ := byte3_f S a hfit ha 0
  unfold truthF tithebarnref07_truth.f
  rw [pbyte_f _ _ hfit2, h3]
  simp only [Option.bind_some]
  change (byteP (S.extract a S.size, 0)).2.1 = _ at h4
  by_cases he : (byteP (S.extract a S.size, 0)).2.2 = 0
  · have he' : (byteP (curAt S a 0)).2.2 = 0 := he
    rw [if_pos he']
    by_cases hb : (byteP (curAt S a 0)).1 > 1
    · rw [if_pos hb]
      refine ⟨_, _, _, _, _, _, a', _, rfl, rfl, .inr ⟨.inl ?_, by decide⟩⟩
      have : decide (1 < (byteP (S.extract a S.size, 0)).1) = true := decide_eq_true hb
      rw [this]; rfl
    · rw [if_neg hb]
      have : decide (1 < (byteP (S.extract a S.size, 0)).1) = false := decide_eq_false hb
      exact ⟨_, _, _, _, _, _, a', _, rfl, rfl, .inl ⟨he, by rw [this]; rfl, rfl, he', rfl, h4, h2⟩⟩
  · have he' : ¬ (byteP (curAt S a 0)).2.2 = 0 := he
    rw [if_neg he']
    exact ⟨_, _, _, _, _, _, a', _, rfl, rfl, .inr ⟨.inr he, he'⟩⟩
theorem body_agree (S s : ByteArray) (a : Nat) (c : S44) (k : Nat) (hk : 20 < k) (hS : S.size ≤ 1000000000) (h : Fine S s a) :
    ∃ (v : S46) (s' : ByteArray) (e' : Int) (odd' : Bool) (v' : S46) (f : Int) (a' : Nat) (er' : Int), bodyV s 0 false c = some (v, s', e', odd') ∧ tithebarnref07_value.j0 k S (a : Int) 0 c.f0 c.f1 = some (v'.f0, v'.f1, v'.f2, f, S, (a' : Int), er') ∧
      ((e' = 0 ∧ odd' = false ∧ f = 0 ∧ er' = 0 ∧ v' = v ∧ Fine S s' a' ∧ v.f2.size ≤ 64) ∨ ((odd' = true ∨ e' ≠ 0) ∧ f ≠ 0)) := by
  obtain ⟨rfl, ha⟩ := h
  obtain ⟨k, rfl⟩ : ∃ m, k = m + 1 := ⟨k - 1, by omega⟩
  have hfit : Fit S := by unfold Fit; omega
  have hsz : (S.extract a S.size).size ≤ 1000000000 := by rw [curAt_size]; omega
  unfold bodyV
  rw [tithebarnref07_value.j0, if_neg (by decide)]
  by_cases h1 : c.f0 = 1
  · rw [if_pos h1, if_pos h1]
    obtain ⟨a', g1, g2, g3, g4⟩ := uint3_f k S a hfit ha 0 (by omega)
    obtain ⟨n, hn, hn2⟩ := pint_f (S.extract a S.size) 0
    have hr := uintP_range (curAt S a 0)
    unfold tithebarnref01_Cursor_Int.f
    rw [hn, g3]
    simp only [Option.bind_some]
    rw [open_f _ hr.1 hr.2]
    simp only [Option.bind_some]
    change (uintP (S.extract a S.size, 0)).2.1 = _ at g4
    refine ⟨_, _, _, _, ⟨false, _, ⟨#[]⟩⟩, _, a', _, rfl, rfl, ?_⟩
    by_cases he : (uintP (S.extract a S.size, 0)).2.2 = 0
    · exact .inl ⟨he, rfl, he, he, by rw [hn2]; rfl, ⟨g4, g2⟩, Nat.zero_le _⟩
    · exact .inr ⟨.inr he, he⟩
  · rw [if_neg h1, if_neg h1]
    obtain ⟨a', g1, g2, g3, g4⟩ := text3_f k S a hfit ha 0 (by omega)
    rw [ptext_f _ _ hsz, g3]
    simp only [Option.bind_some]
    change (textP (S.extract a S.size, 0)).2.1 = _ at g4
    refine ⟨_, _, _, _, ⟨false, 0, _⟩, _, a', _, rfl, rfl, ?_⟩
    by_cases he : (textP (S.extract a S.size, 0)).2.2 = 0
    · exact .inl ⟨he, rfl, he, he, rfl, ⟨g4, g2⟩, textP_64 _⟩
    · exact .inr ⟨.inr he, he⟩
theorem body_bad (s : ByteArray) (e : Int) (odd : Bool) (c : S44) (h : odd = true ∨ e ≠ 0) (hs : s.size ≤ 1000000000) : ∃ v s' e' odd', bodyV s e odd c = some (v, s', e', odd') ∧ (odd' = true ∨ e' ≠ 0) := by
  unfold bodyV
  by_cases ho : odd = true
  · rw [if_pos ho]
    exact ⟨_, _, _, _, rfl, .inl ho⟩
  · rw [if_neg ho]
    have he : e ≠ 0 := h.resolve_left ho
    by_cases h1 : c.f0 = 1
    · rw [if_pos h1]
      obtain ⟨n, hn, -⟩ := pint_f s e
      rw [hn]
      refine ⟨_, _, _, _, rfl, .inr ?_⟩
      show (uintP (s, e)).2.2 ≠ 0
      unfold uintP
      rw [if_neg he]
      exact he
    · rw [if_neg h1, ptext_f _ _ hs]
      refine ⟨_, _, _, _, rfl, .inr ?_⟩
      show (textP (s, e)).2.2 ≠ 0
      unfold textP
      rw [if_neg he]
      exact he
theorem value_agree (S s : ByteArray) (a : Nat) (c : S44) (hS : S.size ≤ 1000000000) (h : Fine S s a) :
    ∃ (v : S46) (s' : ByteArray) (e' : Int) (odd' : Bool) (v' : S46) (f : Int) (a' : Nat) (er' : Int), valueF s 0 false c = some (v, s', e', odd') ∧ tithebarnref07_value.f 100 S (a : Int) 0 c.f0 c.f1 = some (v'.f0, v'.f1, v'.f2, f, S, (a' : Int), er') ∧
      ((e' = 0 ∧ odd' = false ∧ f = 0 ∧ er' = 0 ∧ v' = v ∧ Fine S s' a' ∧ v.f2.size ≤ 64) ∨ ((odd' = true ∨ e' ≠ 0) ∧ f ≠ 0)) := by
  unfold valueF tithebarnref07_value.f
  by_cases hc : c.f1 = true
  · rw [if_pos hc, if_pos hc]
    obtain ⟨t, s', e', odd', t2, f, a', er', h1, h2, h3⟩ := truth_agree S s a hS h
    rw [h1, h2]
    simp only [Option.bind_some]
    rcases h3 with ⟨rfl, rfl, rfl, rfl, rfl, hf⟩ | ⟨hb, hf⟩
    · rw [if_pos rfl]
      by_cases ht : t2 = true
      · rw [if_pos ht, if_pos ht]
        exact ⟨_, _, _, _, ⟨t2, 0, ⟨#[]⟩⟩, _, a', _, rfl, rfl, .inl ⟨rfl, rfl, rfl, rfl, by rw [ht], hf, Nat.zero_le _⟩⟩
      · rw [if_neg ht, if_neg ht]
        exact body_agree S s' a' c 100 (by omega) hS hf
    · rw [if_neg hf]
      by_cases ht : t = true
      · rw [if_pos ht]
        exact ⟨_, _, _, _, ⟨t2, 0, ⟨#[]⟩⟩, _, a', _, rfl, rfl, .inr ⟨hb, hf⟩⟩
      · rw [if_neg ht]
        have hs' : s'.size ≤ 1000000000 := by
          have hfit2 : Fit s := by obtain ⟨rfl, ha⟩ := h; unfold Fit; rw [curAt_size]; omega
          have hsz : s.size ≤ S.size := by obtain ⟨rfl, ha⟩ := h; rw [curAt_size]; omega
          have hq := h1
          unfold truthF at hq
          rw [pbyte_f _ _ hfit2] at hq
          simp only [Option.bind_some, Option.some.injEq, Prod.mk.injEq] at hq
          rw [← hq.2.1]
          unfold byteP
          rw [if_pos rfl]
          split
          · show s.size ≤ _; omega
          · show (s.extract 1 s.size).size ≤ _; rw [ByteArray.size_extract]; omega
        obtain ⟨v, s2, e2, odd2, hv, hv2⟩ := body_bad s' e' odd' c hb hs'
        exact ⟨v, s2, e2, odd2, ⟨t2, 0, ⟨#[]⟩⟩, _, a', _, hv, rfl, .inr ⟨hv2, hf⟩⟩
  · rw [if_neg hc, if_neg hc]
    exact body_agree S s a c 100 (by omega) hS h
theorem rows_bad (cs : List S44) (acc : List S46) (s : ByteArray) (e : Int) (odd : Bool) (h : odd = true ∨ e ≠ 0) : rowsF cs acc s e odd = some (acc, s, e, odd) := by
  cases cs with
  | nil => rfl
  | cons c cs =>
    rw [rowsF, if_neg]
    intro hx
    simp only [Bool.and_eq_true, Bool.not_eq_true', beq_iff_eq] at hx
    rcases h with h | h
    · rw [h] at hx; exact absurd hx.1 (by decide)
    · exact h hx.2
theorem rrows_bad (cs : List S44) (acc : List S46) (s : ByteArray) (a er e : Int) (h : e ≠ 0) : rrowsF cs acc s a er e = some (acc, s, a, er, e) := by
  cases cs with
  | nil => rfl
  | cons c cs => rw [rrowsF, if_neg h]
theorem rows_agree (S : ByteArray) (hS : S.size ≤ 1000000000) : ∀ (cs : List S44) (acc : List S46) (s : ByteArray) (a : Nat), Fine S s a → (∀ v ∈ acc, v.f2.size ≤ 64) →
    ∃ (r r' : List S46) (s' : ByteArray) (e' : Int) (odd' : Bool) (a' : Nat) (er' f : Int), rowsF cs acc s 0 false = some (r, s', e', odd') ∧ rrowsF cs acc S (a : Int) 0 0 = some (r', S, (a' : Int), er', f) ∧
      ((e' = 0 ∧ odd' = false ∧ f = 0 ∧ er' = 0 ∧ r' = r ∧ r.length = acc.length + cs.length ∧ (∀ v ∈ r, v.f2.size ≤ 64) ∧ Fine S s' a') ∨ ((odd' = true ∨ e' ≠ 0) ∧ f ≠ 0))
  | [], acc, s, a, h, hv => ⟨acc, acc, s, 0, false, a, 0, 0, rfl, rfl, .inl ⟨rfl, rfl, rfl, rfl, rfl, rfl, hv, h⟩⟩
  | c :: cs, acc, s, a, h, hva => by
    obtain ⟨v, s', e', odd', v', f, a', er', h1, h2, h3⟩ := value_agree S s a c hS h
    rw [rowsF, if_pos (by decide), rrowsF, if_pos rfl, h1, h2]
    simp only [Option.bind_some]
    rcases h3 with ⟨rfl, rfl, rfl, rfl, rfl, hf, hsz⟩ | ⟨hb, hf⟩
    · obtain ⟨r, r', s2, e2, odd2, a2, er2, f2, g1, g2, g3⟩ := rows_agree S hS cs (acc ++ [v']) s' a' hf (by
        intro v hv
        rcases List.mem_append.1 hv with hv | hv
        · exact hva v hv
        · rw [List.mem_singleton] at hv; rw [hv]; exact hsz)
      refine ⟨r, r', s2, e2, odd2, a2, er2, f2, g1, g2, ?_⟩
      rcases g3 with ⟨q1, q2, q3, q4, q5, q6, q7⟩ | q
      · exact .inl ⟨q1, q2, q3, q4, q5, by rw [q6, List.length_append]; simp only [List.length_cons, List.length_nil]; omega, q7⟩
      · exact .inr q
    · rw [rows_bad cs _ s' e' odd' hb, rrows_bad cs _ S _ _ f hf]
      exact ⟨_, _, _, _, _, a', _, _, rfl, rfl, .inr ⟨hb, hf⟩⟩
theorem pdone_f (s : ByteArray) (e : Int) : tally_Cursor_Done.f s e = some (doneP (s, e), s, e) := by
  unfold tally_Cursor_Done.f tally_Cursor_ok.f tally_Cursor_Err.f doneP
  simp only [Option.bind_some]
  by_cases he : e = 0
  · rw [if_pos (by rw [he]; rfl)]
    by_cases h0 : s.size = 0
    · rw [if_pos (by rw [ByteArray.toList_eq]; exact List.eq_nil_of_length_eq_zero h0), if_neg (by simp [h0])]
    · rw [if_neg (by rw [ByteArray.toList_eq]; intro hx; exact h0 (by rw [← size_len, hx]; rfl)), if_pos ⟨he, h0⟩]
  · rw [if_neg (by intro h; exact he (beq_iff_eq.1 h)), if_neg (fun h => he h.1)]
theorem rright_l (l : List S44) (hl : l.length ≤ 1000000000) : ∀ d i k, i + d = l.length → d < k → tithebarnref02_Right.l0 k l (i : Int) = some ((l.drop i).all (fun c => !oddC c) && (decide (0 < i) || !(rd_T44 l 0).f1 || decide (l.length = 0)) && decide (0 < l.length) && decide (l.length ≤ 6)) := by
  intro d
  induction d with
  | zero =>
    intro i k hi hk
    obtain ⟨k, rfl⟩ : ∃ m, k = m + 1 := ⟨k - 1, by omega⟩
    rw [tithebarnref02_Right.l0, if_neg (by omega), List.drop_of_length_le (by omega)]
    by_cases h1 : l.length = 0
    · rw [if_neg (by omega)]; simp [h1]
    · have h2 : decide (0 < i) = true := decide_eq_true (by omega)
      have h3 : decide (0 < l.length) = true := decide_eq_true (by omega)
      rw [if_pos (by omega), h2, h3]
      simp
      omega
  | succ d ih =>
    intro i k hi hk
    obtain ⟨k, rfl⟩ : ∃ m, k = m + 1 := ⟨k - 1, by omega⟩
    have hil : i < l.length := by omega
    have hrd : rd_T44 l (i : Int) = l[i] := by simp [rd_T44, hil]
    have hw : wrap64 ((i : Int) + 1) = ((i + 1 : Nat) : Int) := by rw [IntWalk.wrap64_in _ (by omega)]; rfl
    have ih1 := ih (i + 1) k (by omega) (by omega)
    have h2 : decide (0 < i + 1) = true := decide_eq_true (by omega)
    rw [h2] at ih1
    simp only [Bool.true_or, Bool.and_true] at ih1
    rw [tithebarnref02_Right.l0, if_pos (by omega), if_pos (by omega), hrd, hw, ih1, List.drop_eq_getElem_cons hil, List.all_cons]
    have hl0 : decide (l.length = 0) = false := decide_eq_false (by omega)
    by_cases h12 : l[i].f0 = 1 ∨ l[i].f0 = 2
    · have hodd : oddC l[i] = false := by unfold oddC; exact decide_eq_false (by omega)
      have hkind : (if l[i].f0 = 1 then (if (i : Int) = 0 then (if l[i].f1 = true then some false else some ((l.drop (i + 1)).all (fun c => !oddC c) && decide (0 < l.length) && decide (l.length ≤ 6))) else some ((l.drop (i + 1)).all (fun c => !oddC c) && decide (0 < l.length) && decide (l.length ≤ 6))) else if l[i].f0 = 2 then (if (i : Int) = 0 then (if l[i].f1 = true then some false else some ((l.drop (i + 1)).all (fun c => !oddC c) && decide (0 < l.length) && decide (l.length ≤ 6))) else some ((l.drop (i + 1)).all (fun c => !oddC c) && decide (0 < l.length) && decide (l.length ≤ 6))) else some false) = (if (i : Int) = 0 then (if l[i].f1 = true then some false else some ((l.drop (i + 1)).all (fun c => !oddC c) && decide (0 < l.length) && decide (l.length ≤ 6))) else some ((l.drop (i + 1)).all (fun c => !oddC c) && decide (0 < l.length) && decide (l.length ≤ 6))) := by
        by_cases h1 : l[i].f0 = 1
        · rw [if_pos h1]
        · rw [if_neg h1, if_pos (h12.resolve_left h1)]
      rw [hkind, hodd, hl0]
      by_cases hi0 : i = 0
      · subst hi0
        rw [if_pos (by omega), show rd_T44 l 0 = l[0] from hrd]
        cases hf1 : l[0].f1 with
        | true => rw [if_pos rfl]; simp
        | false => rw [if_neg (by decide)]; simp
      · rw [if_neg (by omega), decide_eq_true (show 0 < i by omega)]
        simp
    · have hodd : oddC l[i] = true := by unfold oddC; exact decide_eq_true (by omega)
      rw [if_neg (by omega), if_neg (by omega), hodd]
      simp
theorem rright_f (k : Nat) (l : List S44) (hl : l.length ≤ 1000000000) (hk : l.length + 1 < k) : tithebarnref02_Right.f k l = some (rightC l) := by
  unfold tithebarnref02_Right.f
  have h := rright_l l hl l.length 0 k (by omega) (by omega)
  rw [show ((0 : Nat) : Int) = 0 from rfl, List.drop_zero] at h
  rw [h]
  congr 1
  unfold rightC
  by_cases h0 : l.length = 0
  · simp [h0]
  · have e1 : decide (0 < l.length) = true := decide_eq_true (by omega)
    have e2 : decide (l.length = 0) = false := decide_eq_false h0
    rw [e1, e2, List.any_eq_not_all_not]
    cases (rd_T44 l 0).f1 <;> cases decide (l.length ≤ 6) <;> cases l.all (fun c => !oddC c) <;> rfl
theorem read_agree (l : List S44) (text : ByteArray) (hr : rightC l = true) (hS : text.size ≤ 1000000000) :
    ∃ (g : Bool) (r : List S46) (e : Int) (g' : Bool) (r' : List S46) (e' : Int), deeds_Read.f l text = some (g, r, e) ∧ tithebarnref07_Read.f l text = some (g', r', e') ∧ ((e = 0 ∧ e' = 0 ∧ g' = g ∧ r' = r ∧ GoodR r) ∨ (e ≠ 0 ∧ e' ≠ 0)) := by
  have hl := right_len hr
  have hfit : Fit text := by unfold Fit; omega
  unfold deeds_Read.f tithebarnref07_Read.f
  rw [if_neg (by rw [hr]; decide), rright_f 100 l (by omega) (by omega), hr]
  simp only [Option.bind_some]
  rw [if_neg (by decide), if_neg (fun hx => hx hl)]
  have h0 : Fine text text 0 := ⟨by apply ba_ext; rw [ext_list, List.drop_zero, ← size_len, List.take_length], by omega⟩
  obtain ⟨t, s', e', odd', t2, f, a', er', h1, h2, h3⟩ := truth_agree text text 0 hS h0
  rw [show ((0 : Nat) : Int) = 0 from rfl] at h2
  rw [h1, h2]
  simp only [Option.bind_some]
  rcases h3 with ⟨rfl, rfl, rfl, rfl, rfl, hf⟩ | ⟨hb, hf⟩
  · obtain ⟨r, r', s2, e2, odd2, a2, er2, f2, g1, g2, g3⟩ := rows_agree text hS (if t2 = true then l.take 1 else l) [] s' a' hf (fun v hv => by cases hv)
    rw [g1, g2]
    simp only [Option.bind_some]
    rcases g3 with ⟨rfl, rfl, rfl, rfl, rfl, q6, q8, q7⟩ | ⟨q1, q2⟩
    · rw [if_neg (by decide), if_pos (show (0 : Int) = 0 from rfl), pdone_f, done3_f text a2 hfit q7.2 0]
      simp only [Option.bind_some]
      have hcur : curAt text a2 0 = (s2, 0) := by unfold curAt; rw [q7.1]
      rw [hcur]
      have hrl : GoodR r' := by
        have : (if t2 = true then l.take 1 else l).length ≤ l.length ∧ 0 < (if t2 = true then l.take 1 else l).length := by
          split
          · rw [List.length_take]; omega
          · omega
        simp only [List.length_nil] at q6
        exact ⟨by omega, by omega, q8⟩
      by_cases hd : doneP (s2, 0) = 0
      · rw [if_pos hd, if_pos hd]
        exact ⟨_, _, _, _, _, _, rfl, rfl, .inl ⟨rfl, rfl, rfl, rfl, hrl⟩⟩
      · rw [if_neg hd, if_neg hd, pdone_f]
        exact ⟨_, _, _, _, _, _, rfl, rfl, .inr ⟨hd, hd⟩⟩
    · rw [if_neg q2]
      by_cases ho : odd2 = true
      · rw [if_pos ho]
        exact ⟨_, _, _, _, _, _, rfl, rfl, .inr ⟨by decide, q2⟩⟩
      · rw [if_neg ho, pdone_f]
        simp only [Option.bind_some]
        have he2 : e2 ≠ 0 := q1.resolve_left ho
        have hd : doneP (s2, e2) ≠ 0 := by unfold doneP; rw [if_neg (fun h => he2 h.1)]; exact he2
        rw [if_neg hd, pdone_f]
        exact ⟨_, _, _, _, _, _, rfl, rfl, .inr ⟨hd, q2⟩⟩
  · rw [rows_bad _ _ s' e' odd' hb, rrows_bad _ _ text _ _ f hf]
    simp only [Option.bind_some]
    rw [if_neg hf]
    by_cases ho : odd' = true
    · rw [if_pos ho]
      exact ⟨_, _, _, _, _, _, rfl, rfl, .inr ⟨by decide, hf⟩⟩
    · rw [if_neg ho, pdone_f]
      simp only [Option.bind_some]
      have he2 : e' ≠ 0 := hb.resolve_left ho
      have hd : doneP (s', e') ≠ 0 := by unfold doneP; rw [if_neg (fun h => he2 h.1)]; exact he2
      rw [if_neg hd, pdone_f]
      exact ⟨_, _, _, _, _, _, rfl, rfl, .inr ⟨hd, hf⟩⟩
end Go.Proofs.YtojcbknclfamhaaGreatDoor.A
namespace Go.Proofs.YtojcbknclfamhaaGreatDoor.A
open Go.RowKit Go.Proofs.YtojcbknclfamhaaGreatDoorW.PrintWords Go.Proofs.YtojcbknclfamhaaGreatDoorW.PrintLast Go.Proofs.YtojcbknclfamhaaGreatDoorW.PrintMore
set_option linter.unusedVariables false
set_option linter.unusedSimpArgs false
end Go.Proofs.YtojcbknclfamhaaGreatDoor.A
namespace Go.Proofs.YtojcbknclfamhaaGreatDoor.A
open Go.RowKit Go.Proofs.YtojcbknclfamhaaGreatDoorW.PrintWords Go.Proofs.YtojcbknclfamhaaGreatDoorW.PrintLast Go.Proofs.YtojcbknclfamhaaGreatDoorW.PrintMore
set_option linter.unusedVariables false
set_option linter.unusedSimpArgs false
def num4 (b0 b1 b2 b3 : Int) : Int := b0 + 256 * b1 + 65536 * b2 + 16777216 * b3
theorem le4_num (b0 b1 b2 b3 : Int) (h0 : 0 ≤ b0 ∧ b0 < 256) (h1 : 0 ≤ b1 ∧ b1 < 256) (h2 : 0 ≤ b2 ∧ b2 < 256) (h3 : 0 ≤ b3 ∧ b3 < 256) : le4 (num4 b0 b1 b2 b3) = [b0, b1, b2, b3] ∧ 0 ≤ num4 b0 b1 b2 b3 ∧ num4 b0 b1 b2 b3 < 4294967296 := by
  unfold le4 num4
  refine ⟨?_, by omega, by omega⟩
  rw [show (b0 + 256 * b1 + 65536 * b2 + 16777216 * b3) % 256 = b0 by omega, show (b0 + 256 * b1 + 65536 * b2 + 16777216 * b3) / 256 % 256 = b1 by omega, show (b0 + 256 * b1 + 65536 * b2 + 16777216 * b3) / 65536 % 256 = b2 by omega, show (b0 + 256 * b1 + 65536 * b2 + 16777216 * b3) / 16777216 % 256 = b3 by omega]
theorem four_head (s : ByteArray) (h : 4 ≤ s.size) : ∃ (n : Int) (z : List Int), bytesOf s = le4 n ++ z ∧ 0 ≤ n ∧ n < 4294967296 := by
  have hl : (bytesOf s).length = s.size := bytesOf_length s
  have hB := IsB.bytes s
  match hb : bytesOf s, hl, hB with
  | b0 :: b1 :: b2 :: b3 :: z, _, hB =>
    have h0 := hB b0 (by simp); have h1 := hB b1 (by simp); have h2 := hB b2 (by simp); have h3 := hB b3 (by simp)
    obtain ⟨q1, q2, q3⟩ := le4_num b0 b1 b2 b3 h0 h1 h2 h3
    exact ⟨num4 b0 b1 b2 b3, z, by rw [q1]; rfl, q2, q3⟩
  | [], hl, _ => simp at hl; omega
  | [_], hl, _ => simp at hl; omega
  | [_, _], hl, _ => simp at hl; omega
  | [_, _, _], hl, _ => simp at hl; omega
theorem ext_mid (x0 : ByteArray) (at_ i j : Nat) (h : at_ ≤ x0.size) (hj : at_ + j ≤ x0.size) : (x0.extract at_ x0.size).extract i j = x0.extract (at_ + i) (at_ + j) := by
  apply ba_ext
  rw [ext_list, ext_list, ext_list]
  rw [List.take_of_length_le (show x0.data.toList.length ≤ x0.size from Nat.le_refl _), List.take_drop, List.drop_drop]
theorem w_sum (a b : Nat) (h : a + b ≤ 1000000000) : wrap64 ((a : Int) + (b : Int)) = ((a + b : Nat) : Int) := by rw [IntWalk.wrap64_in _ (by omega)]; omega
theorem w_sub (a b : Nat) (h : b ≤ a) (h2 : a ≤ 1000000000) : wrap64 ((a : Int) - (b : Int)) = ((a - b : Nat) : Int) := by rw [IntWalk.wrap64_in _ (by omega)]; omega
theorem w_self (a : Nat) (h : a ≤ 1000000000) : wrap64 (a : Int) = (a : Int) := IntWalk.wrap64_in _ (by omega)
theorem rscan_short (k : Nat) (x0 : ByteArray) (acc : List ByteArray) (at_ : Nat) (hx : x0.size ≤ 10000000) (ha : at_ ≤ x0.size) (h : x0.size - at_ < 4) : tithebarnref08_Scan.l0 (k + 1) x0 acc (at_ : Int) = some (acc, (at_ : Int), 0) := by
  rw [tithebarnref08_Scan.l0, w_sub _ _ ha (by omega), if_neg (by omega)]
theorem rscan_step (k : Nat) (x0 : ByteArray) (acc : List ByteArray) (at_ q : Nat) (n : Int) (hn : n = (q : Int)) (hx : x0.size ≤ 10000000) (ha : at_ + 4 ≤ x0.size) (hq : q < 4294967296) (hb : bytesOf (x0.extract at_ (at_ + 4)) = le4 n) :
    tithebarnref08_Scan.l0 (k + 1) x0 acc (at_ : Int) = if 1048576 < q then some ([], 0, 8) else if x0.size - at_ < q + 8 then some (acc, (at_ : Int), 0) else
      (tithebarnref08_number.f (x0.extract (at_ + 4 + q) (at_ + 8 + q))).bind fun a => (tithebarnref08_Sum.f k (x0.extract (at_ + 4) (at_ + 4 + q))).bind fun b => if a = b then (if acc.length < 8796093022208 then tithebarnref08_Scan.l0 k x0 (acc ++ [x0.extract (at_ + 4) (at_ + 4 + q)]) ((at_ + (q + 8) : Nat) : Int) else none) else some ([], 0, 8) := by
  have e4 : wrap64 ((at_ : Int) + 4) = ((at_ + 4 : Nat) : Int) := w_sum at_ 4 (by omega)
  rw [tithebarnref08_Scan.l0, w_sub x0.size at_ (by omega) (by omega), e4, if_pos (by omega), if_pos (by omega), if_pos (by omega), if_pos (by omega), Int.toNat_natCast, Int.toNat_natCast, number_f _ n (by omega) (by omega) hb]
  simp only [Option.bind_some]
  subst hn
  by_cases hbig : 1048576 < q
  · rw [if_pos (by omega), if_pos hbig]
  · rw [if_neg (by omega), if_neg hbig, w_self q (by omega)]
    have e8 : wrap64 ((q : Int) + 8) = ((q + 8 : Nat) : Int) := w_sum q 8 (by omega)
    rw [e8]
    by_cases hsh : x0.size - at_ < q + 8
    · rw [if_pos (by omega), if_pos hsh]
    · have e8a : wrap64 ((at_ : Int) + 8) = ((at_ + 8 : Nat) : Int) := w_sum at_ 8 (by omega)
      rw [if_neg (by omega), if_neg hsh, e8a, w_sum (at_ + 4) q (by omega), w_sum (at_ + 8) q (by omega), w_sum at_ (q + 8) (by omega)]
      rw [if_pos (by omega), if_pos (by omega), if_pos (by omega), if_pos (by omega), if_pos (by omega), if_pos (by omega)]
      simp only [Int.toNat_natCast]
theorem next_eq (s : ByteArray) (q : Nat) (n : Int) (z : List Int) (hn : n = (q : Int)) (h4 : 4 ≤ s.size) (hs : s.size ≤ 10000000) (hq : q < 4294967296) (hb : bytesOf s = le4 n ++ z) :
    frame_next.f s = if 1048576 < q then some (⟨#[]⟩, s, false, 8) else if s.size < 8 + q then some (⟨#[]⟩, s, false, 0) else
      (frame_get.f 10 (restAt s q)).bind fun x => if x = sumT (textAt s q) then some (textAt s q, (restAt s q).extract 4 (restAt s q).size, true, 0) else some (⟨#[]⟩, s, false, 8) := by
  unfold frame_next.f
  rw [if_neg (by omega), get_f s n z (by omega) (by omega) hb]
  simp only [Option.bind_some]
  subst hn
  rw [if_neg (by omega), Int.toNat_natCast]
  by_cases hbig : 1048576 < q
  · rw [if_pos (by omega), if_pos hbig]
  · rw [if_neg (by omega), if_neg hbig]
    by_cases hsh : s.size < 8 + q
    · rw [if_pos hsh, if_pos hsh]
    · rw [if_neg hsh, if_neg hsh, if_neg (by omega)]
      congr 1
      funext x
      unfold frame_Sum.f
      have hts : (textAt s q).size ≤ 140737488351232 := by unfold textAt; rw [ByteArray.size_extract]; omega
      rw [if_pos hts]
      rfl
theorem text_at (x0 s : ByteArray) (at_ q : Nat) (ha : at_ + 8 + q ≤ x0.size) (hs : s = x0.extract at_ x0.size) : textAt s q = x0.extract (at_ + 4) (at_ + 4 + q) := by
  unfold textAt; rw [hs, ext_mid x0 at_ 4 (4 + q) (by omega) (by omega), Nat.add_assoc]
theorem rest_at (x0 s : ByteArray) (at_ q : Nat) (ha : at_ + 8 + q ≤ x0.size) (hs : s = x0.extract at_ x0.size) : restAt s q = x0.extract (at_ + 4 + q) x0.size := by
  unfold restAt
  rw [hs, ByteArray.size_extract, Nat.min_self, ext_mid x0 at_ (4 + q) (x0.size - at_) (by omega) (by omega), show at_ + (x0.size - at_) = x0.size by omega, Nat.add_assoc]
theorem four_at (x0 s : ByteArray) (at_ : Nat) (ha : at_ + 4 ≤ x0.size) (hs : s = x0.extract at_ x0.size) : ∃ (q : Nat) (z : List Int), bytesOf s = le4 (q : Int) ++ z ∧ q < 4294967296 ∧ bytesOf (x0.extract at_ (at_ + 4)) = le4 (q : Int) := by
  have hss : s.size = x0.size - at_ := by rw [hs, ByteArray.size_extract, Nat.min_self]
  obtain ⟨n, z, hb, hn0, hn1⟩ := four_head s (by omega)
  obtain ⟨q, rfl⟩ : ∃ q : Nat, n = (q : Int) := ⟨n.toNat, by omega⟩
  refine ⟨q, z, hb, by omega, ?_⟩
  have e : x0.extract at_ (at_ + 4) = s.extract 0 4 := by rw [hs, ext_mid x0 at_ 0 4 (by omega) (by omega)]; rfl
  rw [e, bytesOf_take, hb]; rfl
theorem scan_agree (x0 : ByteArray) (hx : x0.size ≤ 10000000) : ∀ (m at_ k : Nat) (acc : List ByteArray) (s : ByteArray), x0.size - at_ ≤ m → at_ ≤ x0.size → s = x0.extract at_ x0.size → 10 * x0.size + m + 10 < k → acc.length + m ≤ 1000000000 → (∀ t ∈ acc, t.size ≤ x0.size) →
    ∃ (L : List ByteArray) (n n' e : Int), frame_Scan.l0 k x0 acc s = some (L, n, e) ∧ tithebarnref08_Scan.l0 k x0 acc (at_ : Int) = some (L, n', e) ∧ (∀ t ∈ L, t.size ≤ x0.size) ∧ L.length ≤ acc.length + m := by
  intro m
  induction m using Nat.strongRecOn with
  | _ m ih =>
  intro at_ k acc s hm ha hs hk hacc hall
  obtain ⟨k, rfl⟩ : ∃ q, k = q + 1 := ⟨k - 1, by omega⟩
  have hss : s.size = x0.size - at_ := by rw [hs, ByteArray.size_extract, Nat.min_self]
  rw [frame_Scan.l0]
  by_cases h4 : s.size < 4
  · have hnx : frame_next.f s = some (⟨#[]⟩, s, false, 0) := by unfold frame_next.f; rw [if_pos h4]
    rw [hnx, rscan_short k x0 acc at_ hx ha (by omega)]
    exact ⟨acc, _, _, _, rfl, rfl, hall, Nat.le_add_right _ _⟩
  · obtain ⟨q, z, hb, hq, hb4⟩ := four_at x0 s at_ (by omega) hs
    rw [rscan_step k x0 acc at_ q _ rfl hx (by omega) hq hb4, next_eq s q _ z rfl (by omega) (by omega) hq hb]
    by_cases hbig : 1048576 < q
    · rw [if_pos hbig, if_pos hbig]
      exact ⟨[], _, _, _, rfl, rfl, (fun t ht => by cases ht), Nat.zero_le _⟩
    · rw [if_neg hbig, if_neg hbig]
      by_cases hsh : s.size < 8 + q
      · rw [if_pos hsh, if_pos (show x0.size - at_ < q + 8 by omega)]
        exact ⟨acc, _, _, _, rfl, rfl, hall, Nat.le_add_right _ _⟩
      · rw [if_neg hsh, if_neg (show ¬ x0.size - at_ < q + 8 by omega)]
        have hle : at_ + 8 + q ≤ x0.size := by omega
        rw [text_at x0 s at_ q hle hs, rest_at x0 s at_ q hle hs]
        obtain ⟨q2, z2, hb2, hq2, hb24⟩ := four_at x0 (x0.extract (at_ + 4 + q) x0.size) (at_ + 4 + q) (by omega) rfl
        rw [show at_ + 4 + q + 4 = at_ + 8 + q by omega] at hb24
        have hts : (x0.extract (at_ + 4) (at_ + 4 + q)).size = q := by rw [ByteArray.size_extract]; omega
        rw [get_f _ _ z2 (Int.natCast_nonneg _) (by omega) hb2, number_f _ _ (Int.natCast_nonneg _) (by omega) hb24, rsum_f k _ (by omega) (by omega)]
        simp only [Option.bind_some]
        by_cases he : (q2 : Int) = sumT (x0.extract (at_ + 4) (at_ + 4 + q))
        · rw [if_pos he, if_pos he]
          simp only [Option.bind_some]
          have hrest : (x0.extract (at_ + 4 + q) x0.size).extract 4 (x0.extract (at_ + 4 + q) x0.size).size = x0.extract (at_ + (q + 8)) x0.size := by
            rw [ByteArray.size_extract, Nat.min_self, ext_mid x0 (at_ + 4 + q) 4 (x0.size - (at_ + 4 + q)) (by omega) (by omega), show at_ + 4 + q + 4 = at_ + (q + 8) by omega, show at_ + 4 + q + (x0.size - (at_ + 4 + q)) = x0.size by omega]
          have hlt : acc.length < 8796093022208 := by omega
          rw [if_pos hlt, if_pos hlt]
          obtain ⟨L, p1, p2, p3, g1, g2, g3, g4⟩ := ih (m - 8) (by omega) (at_ + (q + 8)) k (acc ++ [x0.extract (at_ + 4) (at_ + 4 + q)]) _ (by omega) (by omega) hrest (by omega) (by rw [List.length_append, List.length_singleton]; omega) (by
            intro t ht
            rcases List.mem_append.1 ht with ht | ht
            · exact hall t ht
            · rw [List.mem_singleton] at ht; rw [ht]; omega)
          rw [List.length_append, List.length_singleton] at g4
          refine ⟨L, p1, p2, p3, ?_, g2, g3, by omega⟩
          exact g1
        · rw [if_neg he, if_neg he]
          exact ⟨[], _, _, _, rfl, rfl, (fun t ht => by cases ht), Nat.zero_le _⟩
theorem reads_l (l : List S44) (hr : rightC l = true) (L : List ByteArray) (hL : ∀ t ∈ L, t.size ≤ 1000000000) (hn : L.length ≤ 1000000000) : ∀ d i k (acc : List S26), i + d = L.length → d < k → acc.length + d ≤ 1000000000 → (∀ x ∈ acc, GoodR x.f1) →
    ∃ (r : List S26) (e : Int), journal_Read.l0 k l acc L (L.length : Int) (i : Int) = some (r, e) ∧ tithebarnref15_Read.l0 k l L acc (i : Int) = some (r, e) ∧ (∀ x ∈ r, GoodR x.f1) ∧ r.length ≤ acc.length + d := by
  intro d
  induction d with
  | zero =>
    intro i k acc hi hk ha h6
    obtain ⟨k, rfl⟩ : ∃ m, k = m + 1 := ⟨k - 1, by omega⟩
    rw [journal_Read.l0, if_neg (by omega), tithebarnref15_Read.l0, if_neg (by omega)]
    exact ⟨acc, 0, rfl, rfl, h6, by omega⟩
  | succ d ih =>
    intro i k acc hi hk ha h6
    obtain ⟨k, rfl⟩ : ∃ m, k = m + 1 := ⟨k - 1, by omega⟩
    have hil : i < L.length := by omega
    have hrd : rdOf ByteArray.empty L (i : Int) = L[i] := by simp [rdOf, hil]
    have hw : wrap64 ((i : Int) + 1) = ((i + 1 : Nat) : Int) := by rw [IntWalk.wrap64_in _ (by omega)]; rfl
    rw [journal_Read.l0, if_pos (by omega), if_pos (by omega), if_pos (by omega), tithebarnref15_Read.l0, if_pos (by omega), if_pos (by omega), hrd, hw]
    obtain ⟨g, r, e, g', r', e', h1, h2, h3⟩ := read_agree l L[i] hr (hL _ (List.getElem_mem hil))
    rw [h1, h2]
    simp only [Option.bind_some]
    rcases h3 with ⟨rfl, rfl, rfl, rfl, q5⟩ | ⟨q1, q2⟩
    · rw [if_pos (show (0 : Int) = 0 from rfl), if_pos (show (0 : Int) = 0 from rfl), if_pos (by omega), if_pos (by omega)]
      obtain ⟨r2, e2, p1, p2, p3, p4⟩ := ih (i + 1) k (acc ++ [⟨g', r'⟩]) (by omega) (by omega) (by rw [List.length_append, List.length_singleton]; omega) (by
        intro x hx
        rcases List.mem_append.1 hx with hx | hx
        · exact h6 x hx
        · rw [List.mem_singleton] at hx; rw [hx]; exact q5)
      refine ⟨r2, e2, p1, p2, p3, ?_⟩
      rw [List.length_append, List.length_singleton] at p4
      omega
    · rw [if_neg q1, if_neg q2]
      exact ⟨[], 8, rfl, rfl, (fun x hx => by cases hx), by simp⟩
theorem jread_agree (k : Nat) (l : List S44) (text : ByteArray) (hl : l.length ≤ 1000000000) (hs : text.size ≤ 10000000) (hk : 12 * text.size + l.length + 100 < k) :
    ∃ (r : List S26) (e : Int), journal_Read.f k l text = some (r, e) ∧ tithebarnref15_Read.f k l text = some (r, e) ∧ (∀ x ∈ r, GoodR x.f1) ∧ r.length ≤ text.size := by
  unfold journal_Read.f tithebarnref15_Read.f kinds_Right.f
  rw [rright_f k l hl (by omega)]
  simp only [Option.bind_some]
  by_cases hr : rightC l = true
  · rw [if_pos hr, if_pos hr]
    unfold frame_Scan.f tithebarnref08_Scan.f
    have h0 : text = text.extract 0 text.size := by apply ba_ext; rw [ext_list, List.drop_zero, ← size_len, List.take_length]
    obtain ⟨L, n, n', e, g1, g2, g3, g4⟩ := scan_agree text hs text.size 0 k [] text (by omega) (by omega) h0 (by omega) (by simp; omega) (fun t ht => by cases ht)
    rw [show ((0 : Nat) : Int) = 0 from rfl] at g2
    rw [g1, g2]
    simp only [Option.bind_some]
    by_cases he : e = 0
    · rw [if_pos he, if_pos he]
      simp only [List.length_nil] at g4
      obtain ⟨r, e2, p1, p2, p3, p4⟩ := reads_l l hr L (fun t ht => by have := g3 t ht; omega) (by omega) L.length 0 k [] (by omega) (by omega) (by simp; omega) (fun x hx => by cases hx)
      rw [show ((0 : Nat) : Int) = 0 from rfl] at p1 p2
      refine ⟨r, e2, p1, p2, p3, ?_⟩
      simp only [List.length_nil] at p4
      omega
    · rw [if_neg he, if_neg he]
      exact ⟨[], e, rfl, rfl, (fun x hx => by cases hx), by simp⟩
  · rw [if_neg hr, if_neg hr]
    exact ⟨[], 4, rfl, rfl, (fun x hx => by cases hx), by simp⟩
end Go.Proofs.YtojcbknclfamhaaGreatDoor.A
namespace Go.Proofs.YtojcbknclfamhaaGreatDoor.A
open Go.RowKit Go.Proofs.YtojcbknclfamhaaGreatDoorW.PrintWords Go.Proofs.YtojcbknclfamhaaGreatDoorW.PrintLast Go.Proofs.YtojcbknclfamhaaGreatDoorW.PrintMore
set_option linter.unusedVariables false
set_option linter.unusedSimpArgs false
theorem same_l (r : List S46) (h : r.length ≤ 1000) : ∀ d i k, i + d = r.length → d < k → tithebarnref02_Same.l0 k r r (i : Int) = some true := by
  intro d
  induction d with
  | zero =>
    intro i k hi hk
    obtain ⟨k, rfl⟩ : ∃ m, k = m + 1 := ⟨k - 1, by omega⟩
    rw [tithebarnref02_Same.l0, if_neg (by omega)]
  | succ d ih =>
    intro i k hi hk
    obtain ⟨k, rfl⟩ : ∃ m, k = m + 1 := ⟨k - 1, by omega⟩
    rw [tithebarnref02_Same.l0, if_pos (by omega), if_pos (by omega), if_pos (by omega), wrap_s i (by omega), ih (i + 1) k (by omega) (by omega)]
    simp
theorem sameAll_l (a : List S26) (h6 : ∀ d ∈ a, d.f1.length ≤ 6) (h : a.length ≤ 100000000) : ∀ d i k, i + d = a.length → d + 10 < k → tithebarnref07_SameAll.l0 k a a (i : Int) = some true := by
  intro d
  induction d with
  | zero =>
    intro i k hi hk
    obtain ⟨k, rfl⟩ : ∃ m, k = m + 1 := ⟨k - 1, by omega⟩
    rw [tithebarnref07_SameAll.l0, if_neg (by omega)]
  | succ d ih =>
    intro i k hi hk
    obtain ⟨k, rfl⟩ : ∃ m, k = m + 1 := ⟨k - 1, by omega⟩
    have hia : i < a.length := by omega
    have hrd : rd_T26 a (i : Int) = a[i] := by simp [rd_T26, hia]
    have h6i := h6 a[i] (List.getElem_mem hia)
    rw [tithebarnref07_SameAll.l0, if_pos (by omega), if_pos (by omega), if_pos (by omega), wrap_s i (by omega), hrd]
    unfold tithebarnref07_Same.f tithebarnref02_Same.f
    have hs := same_l a[i].f1 (by omega) a[i].f1.length 0 k (by omega) (by omega)
    rw [show ((0 : Nat) : Int) = 0 from rfl] at hs
    rw [if_pos (by simp), if_pos rfl, hs]
    simp only [Option.bind_some]
    rw [if_pos trivial]
    exact ih (i + 1) k (by omega) (by omega)
theorem sameAll_f (k : Nat) (a : List S26) (h6 : ∀ d ∈ a, d.f1.length ≤ 6) (h : a.length ≤ 100000000) (hk : a.length + 10 < k) : tithebarnref07_SameAll.f k a a = some true := by
  unfold tithebarnref07_SameAll.f
  rw [if_pos rfl]
  exact sameAll_l a h6 h a.length 0 k (by omega) hk
end Go.Proofs.YtojcbknclfamhaaGreatDoor.A
