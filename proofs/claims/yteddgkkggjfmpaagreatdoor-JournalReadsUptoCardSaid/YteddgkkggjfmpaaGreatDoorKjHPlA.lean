/- Numbers' and texts' bytes, written and read again: plain (lemmas of chapter 05's texts, picked by pick.py). -/
import Derived.Test.YteddgkkggjfmpaaGreatDoorKjAx0
import Derived.Test.YteddgkkggjfmpaaGreatDoorKjAx9
import Derived.Test.YteddgkkggjfmpaaGreatDoorKjHNext
import Derived.Test.YteddgkkggjfmpaaGreatDoorKjHText
namespace Go.Proofs.YteddgkkggjfmpaaGreatDoor.A
open Go.RowKit Go.Proofs.YteddgkkggjfmpaaGreatDoorW.PrintWords Go.Proofs.YteddgkkggjfmpaaGreatDoorW.PrintLast Go.Proofs.YteddgkkggjfmpaaGreatDoorW.PrintMore
set_option linter.unusedVariables false
set_option linter.unusedSimpArgs false
theorem or_comm_add (k : IntKind) (j : Nat) (hj : j ≤ k.bits) (hk : ∀ n : Int, 0 ≤ n → n < 2 ^ j → k.wrap n = n) (i : Nat)
    (x y : Int) (hx₀ : 0 ≤ x) (hx : x % 2 ^ i = 0) (hx₁ : x < 2 ^ j) (hy₀ : 0 ≤ y) (hy : y < 2 ^ i) (hy₁ : y < 2 ^ j) : Go.bits .or k y x = y + x := by
  have h1 := bits_join k j hj hk i x y hx₀ hx hx₁ hy₀ hy hy₁
  obtain ⟨a, rfl⟩ := Int.eq_ofNat_of_zero_le hx₀
  obtain ⟨b, rfl⟩ := Int.eq_ofNat_of_zero_le hy₀
  have ha : a < 2 ^ j := by exact_mod_cast hx₁
  have hb : b < 2 ^ j := by exact_mod_cast hy₁
  rw [(bits_nat k j hj hk a b ha hb).2] at h1
  rw [(bits_nat k j hj hk b a hb ha).2, Nat.or_comm, h1]
  omega
def bigB (x : Int) : Nat → List Int
  | 0 => []
  | m + 1 => (x / 2 ^ (8 * m) % 256) :: bigB x m
def uintB (n : Int) : List Int := if n < 64 then [n] else if n < 16384 then bigB (n + 16384) 2 else if n < 1073741824 then bigB (n + 2147483648) 4 else 192 :: bigB n 8
theorem bigB_length (x : Int) : ∀ m, (bigB x m).length = m
  | 0 => rfl
  | m + 1 => by rw [bigB, List.length_cons, bigB_length x m]
theorem uintB_length (n : Int) : (uintB n).length ≤ 9 := by
  unfold uintB
  repeat' split
  all_goals simp [bigB_length]
theorem big_l (x : Int) : ∀ (m k : Nat) (acc : List Int), m ≤ 8 → m < k → acc.length + m ≤ 1099511627784 → tally_big.l0 k acc x ((m : Int) - 1) = some (acc ++ bigB x m)
  | 0, k, acc, hm, hk, ha => by
    obtain ⟨k, rfl⟩ : ∃ q, k = q + 1 := ⟨k - 1, by omega⟩
    simp only [tally_big.l0, bigB, List.append_nil]
    rw [if_neg (by omega)]
  | m + 1, k, acc, hm, hk, ha => by
    obtain ⟨k, rfl⟩ : ∃ q, k = q + 1 := ⟨k - 1, by omega⟩
    have e1 : ((m + 1 : Nat) : Int) - 1 = (m : Int) := by omega
    have e2 : wrap64 (8 * (m : Int)) = ((8 * m : Nat) : Int) := by unfold wrap64; omega
    have e3 : wrap64 ((m : Int) - 1) = (m : Int) - 1 := by unfold wrap64; omega
    rw [e1]
    simp only [tally_big.l0]
    rw [e2, e3]
    clear e1 e2 e3
    have hs : shr .u64 x ((8 * m : Nat) : Int) = x / 2 ^ (8 * m) := by
      unfold shr
      rw [Int.toNat_natCast, Nat.min_eq_left (show 8 * m ≤ IntKind.u64.bits by show 8 * m ≤ 64; omega)]
    rw [if_pos (by omega), if_pos (by omega), if_pos (by omega), hs]
    rw [big_l x m k (acc ++ [x / 2 ^ (8 * m) % 256]) (by omega) (by omega) (by rw [List.length_append, List.length_singleton]; omega), List.append_assoc]
    rfl
theorem big_f (k : Nat) (acc : List Int) (x : Int) (m : Nat) (hm : m ≤ 8) (hk : m < k) (ha : acc.length ≤ 1099511627776) : tally_big.f k acc x (m : Int) = some (acc ++ bigB x m) := by
  unfold tally_big.f
  rw [show wrap64 ((m : Int) - 1) = (m : Int) - 1 by unfold wrap64; omega]
  exact big_l x m k acc hm hk (by omega)
theorem or_hi (n : Int) (i : Nat) (hi : i < 64) (h0 : 0 ≤ n) (h : n < 2 ^ i) (h64 : (2 : Int) ^ i < 18446744073709551616) : Go.bits .or .u64 n (2 ^ i) = n + 2 ^ i :=
  or_comm_add .u64 64 (by decide) (fun n h0 h1 => IntWalk.u64_in _ (by simp at h1; omega)) i (2 ^ i) n (Int.le_of_lt (Int.pow_pos (by decide))) (Int.emod_self) (by simpa using h64) h0 h (by simp; omega)
theorem uint_f2 (k : Nat) (acc : List Int) (n : Int) (h0 : 0 ≤ n) (h : n < 18446744073709551616) (hk : 8 < k) (ha : acc.length ≤ 1099511627775) : tally_Uint.f k acc n = some (acc ++ uintB n) := by
  unfold tally_Uint.f uintB
  by_cases c1 : n < 64
  · rw [if_pos (by omega), if_pos c1, if_pos (by omega), show n % 256 = n by omega]
  · rw [if_neg (by omega), if_neg c1]
    by_cases c2 : n < 16384
    · rw [if_pos (by omega), if_pos c2, show (16384 : Int) = 2 ^ 14 from rfl, or_hi n 14 (by decide) h0 (by simpa using c2) (by decide)]
      have := big_f k acc (n + 2 ^ 14) 2 (by decide) (by omega) (by omega)
      simp only [show ((2 : Nat) : Int) = 2 from rfl] at this
      rw [this]
      rfl
    · rw [if_neg (by omega), if_neg c2]
      by_cases c3 : n < 1073741824
      · rw [if_pos (by omega), if_pos c3]
        have hor : Go.bits .or .u64 n 2147483648 = n + 2147483648 := or_hi n 31 (by decide) h0 (by have : (2 : Int) ^ 31 = 2147483648 := rfl; omega) (by decide)
        have := big_f k acc (n + 2147483648) 4 (by decide) (by omega) (by omega)
        simp only [show ((4 : Nat) : Int) = 4 from rfl] at this
        rw [hor, this]
        rfl
      · rw [if_neg (by omega), if_neg c3, if_pos (by omega)]
        have := big_f k (acc ++ [192]) n 8 (by decide) (by omega) (by rw [List.length_append, List.length_singleton]; omega)
        simp only [show ((8 : Nat) : Int) = 8 from rfl] at this
        rw [this, List.append_assoc]
        rfl
def textB (s : ByteArray) : List Int := uintB s.size ++ bytesOf s
theorem text_f2 (k : Nat) (acc : List Int) (s : ByteArray) (hk : 8 < k) (ha : acc.length + s.size ≤ 1099511627766) : tally_Text.f k acc s = some (acc ++ textB s) := by
  unfold tally_Text.f textB
  have hu : IntKind.u64.wrap (s.size : Int) = (s.size : Int) := IntWalk.u64_in _ (by omega)
  rw [hu, uint_f2 k acc s.size (by omega) (by omega) hk (by omega)]
  have hl := uintB_length (s.size : Int)
  simp only [Option.bind_some]
  rw [if_pos (by rw [List.length_append]; omega), List.append_assoc]
theorem textB_length (s : ByteArray) : (textB s).length ≤ 9 + s.size := by
  unfold textB
  rw [List.length_append, bytesOf_length]
  have := uintB_length (s.size : Int)
  omega
theorem ba_ext {s t : ByteArray} (h : s.data.toList = t.data.toList) : s = t := by
  cases s; cases t
  congr 1
  exact Array.toList_inj.1 h
theorem ext_list (s : ByteArray) (a b : Nat) : (s.extract a b).data.toList = (s.data.toList.take b).drop a := by
  rw [ByteArray.data_extract, Array.toList_extract, List.extract_eq_drop_take', List.drop_take]
theorem size_len (s : ByteArray) : s.data.toList.length = s.size := rfl
theorem bt_getD (s : ByteArray) (k : Nat) : bt s (k : Int) = ((s.data.toList.getD k 0).toNat : Int) := by
  by_cases h : k < s.size
  · rw [← bt_at s (k : Int) h, List.getD_eq_getElem?_getD, Array.getElem?_toList, Array.getElem?_eq_getElem h]
    rfl
  · unfold bt
    rw [dif_neg (show ¬ (k : Int).toNat < s.size from h), List.getD_eq_getElem?_getD, List.getElem?_eq_none (Nat.le_of_not_lt h)]
    rfl
theorem bytes_bk (s : ByteArray) : strOfNums (bytesOf s) = s := by
  apply ba_ext
  rw [strOfNums_data, bytesOf, List.map_map]
  conv => rhs; rw [← List.map_id s.data.toList]
  apply List.map_congr_left
  intro b _
  simp
theorem bytesOf_take (s : ByteArray) (k : Nat) : bytesOf (s.extract 0 k) = (bytesOf s).take k := by
  unfold bytesOf
  rw [ext_list, List.drop_zero, List.map_take]
def IsB (X : List Int) : Prop := ∀ x ∈ X, 0 ≤ x ∧ x < 256
theorem IsB.bytes (s : ByteArray) : IsB (bytesOf s) := fun x hx => by
  unfold bytesOf at hx
  rw [List.mem_map] at hx
  obtain ⟨b, _, rfl⟩ := hx
  exact byte_range b
theorem ba_ext2 {s t : ByteArray} (h : s.data.toList = t.data.toList) : s = t := by
  cases s; cases t
  congr 1
  exact Array.toList_inj.1 h
theorem strOfNums_append (a b : List Int) : strOfNums (a ++ b) = strOfNums a ++ strOfNums b := by
  apply ba_ext2
  rw [strOfNums_data, ByteArray.data_append, Array.toList_append, strOfNums_data, strOfNums_data, List.map_append]
end Go.Proofs.YteddgkkggjfmpaaGreatDoor.A
