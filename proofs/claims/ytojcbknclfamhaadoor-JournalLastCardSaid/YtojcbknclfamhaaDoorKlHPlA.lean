/- Numbers' and texts' bytes, written and read again: plain (lemmas of chapter 05's texts, picked by pick.py). -/
import Derived.Test.YtojcbknclfamhaaDoorKlAx0
import Derived.Test.YtojcbknclfamhaaDoorKlAx8
import Derived.Test.YtojcbknclfamhaaDoorKlHNext
import Derived.Test.YtojcbknclfamhaaDoorKlHText
namespace Go.Proofs.YtojcbknclfamhaaDoor.A
open Go.RowKit Go.Proofs.YtojcbknclfamhaaDoorW.PrintWords Go.Proofs.YtojcbknclfamhaaDoorW.PrintLast Go.Proofs.YtojcbknclfamhaaDoorW.PrintMore
set_option linter.unusedVariables false
set_option linter.unusedSimpArgs false
theorem or_comm_add (k : IntKind) (j : Nat) (hj : j ≤ k.bits) (hk : ∀ n : Int, 0 ≤ n → n < 2 ^ j → k.wrap n = n) (i : Nat)
    (x y : Int) (hx₀ : 0 ≤ x) (hx : x % 2 ^ i = 0) (hx₁ : x < 2 ^ j) (hy₀ : 0 ≤ y) (hy : y < 2 ^ i) (hy₁ : y < 2 ^ j) : Go.bits .or k y x = y + x := by
  have h1 := bits_join k j hj hk i x y hx₀ hx hx₁ hy₀ hy hy₁
  obtain ⟨a, rfl⟩ := Int.eq_ofNat_of_zero_le hx₀
  obtain ⟨b, rfl⟩ := Int.eq_ofNat_of_zero_le hy₀
  have ha : a < 2 ^ j := by exact_mod_cast hx₁
  have hb : b < 2 ^ j := by exact_mod_cast hy₁
  rw [(bits_nat k j hj hk a b ha hb).2] at h1
  rw [(bits_nat k j hj hk b a hb ha).2, Nat.or_comm, h1]
  omega
def bigB (x : Int) : Nat → List Int
  | 0 => []
  | m + 1 => (x / 2 ^ (8 * m) % 256) :: bigB x m
def uintB (n : Int) : List Int := if n < 64 then [n] else if n < 16384 then bigB (n + 16384) 2 else if n < 1073741824 then bigB (n + 2147483648) 4 else 192 :: bigB n 8
theorem bigB_length (x : Int) : ∀ m, (bigB x m).length = m
  | 0 => rfl
  | m + 1 => by rw [bigB, List.length_cons, bigB_length x m]
theorem uintB_length (n : Int) : (uintB n).length ≤ 9 := by
  unfold uintB
  repeat' split
  all_goals simp [bigB_length]
theorem big_l (x : Int) : ∀ (m k : Nat) (acc : List Int), m ≤ 8 → m < k → acc.length + m ≤ 1099511627784 → tally_big.l0 k acc x ((m : Int) - 1) = some (acc ++ bigB x m)
  | 0, k, acc, hm, hk, ha => by
    obtain ⟨k, rfl⟩ : ∃ q, k = q + 1 := ⟨k - 1, by omega⟩
    simp only [tally_big.l0, bigB, List.append_nil]
    rw [if_neg (by omega)]
  | m + 1, k, acc, hm, hk, ha => by
    obtain ⟨k, rfl⟩ : ∃ q, k = q + 1 := ⟨k - 1, by omega⟩
    have e1 : ((m + 1 : Nat) : Int) - 1 = (m : Int) := by omega
    have e2 : wrap64 (8 * (m : Int)) = ((8 * m : Nat) : Int) := by unfold wrap64; omega
    have e3 : wrap64 ((m : Int) - 1) = (m : Int) - 1 := by unfold wrap64; omega
    rw [e1]
    simp only [tally_big.l0]
    rw [e2, e3]
    clear e1 e2 e3
    have hs : shr .u64 x ((8 * m : Nat) : Int) = x / 2 ^ (8 * m) := by
      unfold shr
      rw [Int.toNat_natCast, Nat.min_eq_left (show 8 * m ≤ IntKind.u64.bits by show 8 * m ≤ 64; omega)]
    rw [if_pos (by omega), if_pos (by omega), if_pos (by omega), hs]
    rw [big_l x m k (acc ++ [x / 2 ^ (8 * m) % 256]) (by omega) (by omega) (by rw [List.length_append, List.length_singleton]; omega), List.append_assoc]
    rfl
theorem big_f (k : Nat) (acc : List Int) (x : Int) (m : Nat) (hm : m ≤ 8) (hk : m < k) (ha : acc.length ≤ 1099511627776) : tally_big.f k acc x (m : Int) = some (acc ++ bigB x m) := by
  unfold tally_big.f
  rw [show wrap64 ((m : Int) - 1) = (m : Int) - 1 by unfold wrap64; omega]
  exact big_l x m k acc hm hk (by omega)
theorem or_hi (n : Int) (i : Nat) (hi : i < 64) (h0 : 0 ≤ n) (h : n < 2 ^ i) (h64 : (2 : Int) ^ i < 18446744073709551616) : Go.bits .or .u64 n (2 ^ i) = n + 2 ^ i :=
  or_comm_add .u64 64 (by decide) (fun n h0 h1 => IntWalk.u64_in _ (by simp at h1; omega)) i (2 ^ i) n (Int.le_of_lt (Int.pow_pos (by decide))) (Int.emod_self) (by simpa using h64) h0 h (by simp; omega)
theorem uint_f2 (k : Nat) (acc : List Int) (n : Int) (h0 : 0 ≤ n) (h : n < 18446744073709551616) (hk : 8 < k) (ha : acc.length ≤ 1099511627775) : tally_Uint.f k acc n = some (acc ++ uintB n) := by
  unfold tally_Uint.f uintB
  by_cases c1 : n < 64
  · rw [if_pos (by omega), if_pos c1, if_pos (by omega), show n % 256 = n by omega]
  · rw [if_neg (by omega), if_neg c1]
    by_cases c2 : n < 16384
    · rw [if_pos (by omega), if_pos c2, show (16384 : Int) = 2 ^ 14 from rfl, or_hi n 14 (by decide) h0 (by simpa using c2) (by decide)]
      have := big_f k acc (n + 2 ^ 14) 2 (by decide) (by omega) (by omega)
      simp only [show ((2 : Nat) : Int) = 2 from rfl] at this
      rw [this]
      rfl
    · rw [if_neg (by omega), if_neg c2]
      by_cases c3 : n < 1073741824
      · rw [if_pos (by omega), if_pos c3]
        have hor : Go.bits .or .u64 n 2147483648 = n + 2147483648 := or_hi n 31 (by decide) h0 (by have : (2 : Int) ^ 31 = 2147483648 := rfl; omega) (by decide)
        have := big_f k acc (n + 2147483648) 4 (by decide) (by omega) (by omega)
        simp only [show ((4 : Nat) : Int) = 4 from rfl] at this
        rw [hor, this]
        rfl
      · rw [if_neg (by omega), if_neg c3, if_pos (by omega)]
        have := big_f k (acc ++ [192]) n 8 (by decide) (by omega) (by rw [List.length_append, List.length_singleton]; omega)
        simp only [show ((8 : Nat) : Int) = 8 from rfl] at this
        rw [this, List.append_assoc]
        rfl
def textB (s : ByteArray) : List Int := uintB s.size ++ bytesOf s
theorem text_f2 (k : Nat) (acc : List Int) (s : ByteArray) (hk : 8 < k) (ha : acc.length + s.size ≤ 1099511627766) : tally_Text.f k acc s = some (acc ++ textB s) := by
  unfold tally_Text.f textB
  have hu : IntKind.u64.wrap (s.size : Int) = (s.size : Int) := IntWalk.u64_in _ (by omega)
  rw [hu, uint_f2 k acc s.size (by omega) (by omega) hk (by omega)]
  have hl := uintB_length (s.size : Int)
  simp only [Option.bind_some]
  rw [if_pos (by rw [List.length_append]; omega), List.append_assoc]
theorem textB_length (s : ByteArray) : (textB s).length ≤ 9 + s.size := by
  unfold textB
  rw [List.length_append, bytesOf_length]
  have := uintB_length (s.size : Int)
  omega
theorem ba_ext {s t : ByteArray} (h : s.data.toList = t.data.toList) : s = t := by
  cases s; cases t
  congr 1
  exact Array.toList_inj.1 h
theorem ext_list (s : ByteArray) (a b : Nat) : (s.extract a b).data.toList = (s.data.toList.take b).drop a := by
  rw [ByteArray.data_extract, Array.toList_extract, List.extract_eq_drop_take', List.drop_take]
theorem size_len (s : ByteArray) : s.data.toList.length = s.size := rfl
theorem bt_getD (s : ByteArray) (k : Nat) : bt s (k : Int) = ((s.data.toList.getD k 0).toNat : Int) := by
  by_cases h : k < s.size
  · rw [← bt_at s (k : Int) h, List.getD_eq_getElem?_getD, Array.getElem?_toList, Array.getElem?_eq_getElem h]
    rfl
  · unfold bt
    rw [dif_neg (show ¬ (k : Int).toNat < s.size from h), List.getD_eq_getElem?_getD, List.getElem?_eq_none (Nat.le_of_not_lt h)]
    rfl
theorem bytes_bk (s : ByteArray) : strOfNums (bytesOf s) = s := by
  apply ba_ext
  rw [strOfNums_data, bytesOf, List.map_map]
  conv => rhs; rw [← List.map_id s.data.toList]
  apply List.map_congr_left
  intro b _
  simp
theorem foldB_cons (x : Int) (c : UInt8) (l : List UInt8) : foldB x (c :: l) = foldB (x * 256 + c.toNat) l := rfl
theorem pow_256 (n : Nat) : (2 : Int) ^ (8 * n) = 256 ^ n := by
  rw [Int.pow_mul]; rfl
theorem foldB_bigB : ∀ (m : List UInt8) (x y : Int), m.map (fun c => (c.toNat : Int)) = bigB x m.length → foldB y m = y * 256 ^ m.length + x % 256 ^ m.length
  | [], x, y, h => by simp [foldB]
  | c :: m, x, y, h => by
    rw [List.map_cons, List.length_cons, bigB, List.cons.injEq] at h
    have ih := foldB_bigB m x (y * 256 + c.toNat) h.2
    rw [foldB_cons, ih, List.length_cons, h.1, pow_256, Int.pow_succ]
    have e : x % (256 ^ m.length * 256) = x % 256 ^ m.length + 256 ^ m.length * (x / 256 ^ m.length % 256) := by
      have hp : (0 : Int) < 256 ^ m.length := Int.pow_pos (by omega)
      have a1 := Int.emod_add_mul_ediv x (256 ^ m.length)
      have a2 := Int.emod_add_mul_ediv (x / 256 ^ m.length) 256
      have a3 := Int.emod_nonneg x (show (256 : Int) ^ m.length ≠ 0 by omega)
      have a4 := Int.emod_lt_of_pos x hp
      have a5 : 0 ≤ 256 ^ m.length * (x / 256 ^ m.length % 256) := Int.mul_nonneg (by omega) (by omega)
      have a6 : 256 ^ m.length * (x / 256 ^ m.length % 256) ≤ 256 ^ m.length * 255 := Int.mul_le_mul_of_nonneg_left (by omega) (by omega)
      have e2 : x = (x % 256 ^ m.length + 256 ^ m.length * (x / 256 ^ m.length % 256)) + (256 ^ m.length * 256) * (x / 256 ^ m.length / 256) := by
        conv => lhs; rw [← a1, ← a2]
        rw [Int.mul_add, Int.mul_assoc, Int.add_assoc]
      conv => lhs; rw [e2]
      rw [Int.add_mul_emod_self_left, Int.emod_eq_of_lt (by omega) (by rw [show (256:Int) ^ m.length * 256 = 256 ^ m.length * 255 + 256 ^ m.length by omega]; omega)]
    rw [e, Int.add_mul, Int.mul_comm (256 ^ m.length) 256, Int.mul_assoc, Int.mul_comm (256 ^ m.length) (x / _ % _)]
    omega
theorem u8_inj : ∀ {a b : List UInt8}, a.map (fun c => (c.toNat : Int)) = b.map (fun c => (c.toNat : Int)) → a = b
  | [], [], _ => rfl
  | [], _ :: _, h => by simp at h
  | _ :: _, [], h => by simp at h
  | x :: a, y :: b, h => by
    rw [List.map_cons, List.map_cons, List.cons.injEq] at h
    rw [u8_inj h.2, UInt8.toNat_inj.1 (Int.ofNat_inj.1 h.1)]
theorem bytesOf_inj {s t : ByteArray} (h : bytesOf s = bytesOf t) : s = t := by
  rw [← bytes_bk s, h, bytes_bk]
theorem bt_head (b : UInt8) (t : List UInt8) (s : ByteArray) (h : s.data.toList = b :: t) : bt s 0 = (b.toNat : Int) := by
  have := bt_getD s 0
  rw [h] at this
  exact this
theorem next_intro (s r : ByteArray) (b : UInt8) (m : List UInt8) (n : Int) (hL : s.data.toList = b :: m ++ r.data.toList) (hb : (b.toNat : Int) ≤ 192) (hk : sizeN (b.toNat : Int) = m.length + 1) (hn : n = foldB ((b.toNat : Int) % 64) m) (hl : leastN (m.length + 1) ≤ n) : nextP s = (n, r, 0) := by
  have h0 : s.size ≠ 0 := by rw [← size_len, hL]; simp
  have hx : (if (b.toNat : Int) = 192 then (0 : Int) else (b.toNat : Int) % 64) = (b.toNat : Int) % 64 := by split <;> omega
  have ht : ((s.data.toList.take (m.length + 1)).drop 1) = m := by rw [hL]; simp
  unfold nextP
  rw [bt_head b _ s hL, hk, ht, hx, ← hn, if_neg h0, if_neg (by omega), if_neg (by rw [← size_len, hL]; simp), if_neg (by omega)]
  have hr : s.extract (m.length + 1) s.size = r := by
    apply ba_ext
    rw [ext_list, ← size_len, List.take_length, hL]
    simp
  rw [hr]
theorem nextP_back (s : ByteArray) (n : Int) (r : ByteArray) (h0 : 0 ≤ n) (h1 : n < 18446744073709551616) (h : bytesOf s = uintB n ++ bytesOf r) : nextP s = (n, r, 0) := by
  obtain ⟨b, m, z, hL, hU, hZ⟩ : ∃ (b : UInt8) (m z : List UInt8), s.data.toList = b :: m ++ z ∧ uintB n = (b.toNat : Int) :: m.map (fun c => (c.toNat : Int)) ∧ z = r.data.toList := by
    have hlen : 1 ≤ (uintB n).length := by
      unfold uintB
      repeat' split
      all_goals simp [bigB]
    unfold bytesOf at h
    obtain ⟨p, z, hp, h2, h3⟩ := List.map_eq_append_iff.1 h
    cases p with
    | nil => rw [← h2] at hlen; simp at hlen
    | cons b m => exact ⟨b, m, z, hp, by rw [← h2]; rfl, u8_inj h3⟩
  subst hZ
  have hb := byte_range b
  unfold uintB at hU
  by_cases c1 : n < 64
  · rw [if_pos c1, List.cons.injEq] at hU
    have hm : m = [] := by have := congrArg List.length hU.2; rw [List.length_map] at this; exact List.eq_nil_of_length_eq_zero this.symm
    subst hm
    refine next_intro s r b [] n hL (by omega) (by unfold sizeN; rw [if_pos (by omega)]; rfl) ?_ (by show 0 ≤ n; exact h0)
    show n = (b.toNat : Int) % 64
    omega
  · rw [if_neg c1] at hU
    by_cases c2 : n < 16384
    · rw [if_pos c2, bigB, List.cons.injEq] at hU
      have hm : m.length = 1 := by have := congrArg List.length hU.2; rw [bigB_length, List.length_map] at this; exact this.symm
      have hbn : (n + 16384) / 256 % 256 = (b.toNat : Int) := hU.1
      have hf := foldB_bigB m (n + 16384) ((b.toNat : Int) % 64) (by rw [hm]; exact hU.2.symm)
      rw [hm] at hf
      refine next_intro s r b m n hL (by omega) (by unfold sizeN; rw [if_neg (by omega), if_pos (by omega), hm]) ?_ (by rw [hm]; show 64 ≤ n; omega)
      rw [hf]
      show n = (b.toNat : Int) % 64 * 256 + (n + 16384) % 256
      omega
    · rw [if_neg c2] at hU
      by_cases c3 : n < 1073741824
      · rw [if_pos c3, bigB, List.cons.injEq] at hU
        have hm : m.length = 3 := by have := congrArg List.length hU.2; rw [bigB_length, List.length_map] at this; exact this.symm
        have hbn : (n + 2147483648) / 16777216 % 256 = (b.toNat : Int) := hU.1
        have hf := foldB_bigB m (n + 2147483648) ((b.toNat : Int) % 64) (by rw [hm]; exact hU.2.symm)
        rw [hm] at hf
        refine next_intro s r b m n hL (by omega) (by unfold sizeN; rw [if_neg (by omega), if_neg (by omega), if_pos (by omega), hm]) ?_ (by rw [hm]; show 16384 ≤ n; omega)
        rw [hf]
        show n = (b.toNat : Int) % 64 * 16777216 + (n + 2147483648) % 16777216
        omega
      · rw [if_neg c3, List.cons.injEq] at hU
        have hm : m.length = 8 := by have := congrArg List.length hU.2; rw [bigB_length, List.length_map] at this; exact this.symm
        have hbn : 192 = (b.toNat : Int) := hU.1
        have hf := foldB_bigB m n ((b.toNat : Int) % 64) (by rw [hm]; exact hU.2.symm)
        rw [hm] at hf
        refine next_intro s r b m n hL (by omega) (by unfold sizeN; rw [if_neg (by omega), if_neg (by omega), if_neg (by omega), hm]) ?_ (by rw [hm]; show 1073741824 ≤ n; omega)
        rw [hf, ← hbn]
        show n = 0 * 18446744073709551616 + n % 18446744073709551616
        omega
theorem bytes_split {s : ByteArray} {a z : List Int} (h : bytesOf s = a ++ z) : ∃ r, bytesOf r = z := by
  unfold bytesOf at h
  obtain ⟨p, q, hp, h2, h3⟩ := List.map_eq_append_iff.1 h
  exact ⟨⟨q.toArray⟩, h3⟩
theorem bytesOf_drop (s : ByteArray) (k : Nat) : bytesOf (s.extract k s.size) = (bytesOf s).drop k := by
  unfold bytesOf
  rw [ext_list, ← size_len, List.take_length, List.map_drop]
theorem bytesOf_take (s : ByteArray) (k : Nat) : bytesOf (s.extract 0 k) = (bytesOf s).take k := by
  unfold bytesOf
  rw [ext_list, List.drop_zero, List.map_take]
def IsB (X : List Int) : Prop := ∀ x ∈ X, 0 ≤ x ∧ x < 256
theorem IsB.app {X Y : List Int} (h1 : IsB X) (h2 : IsB Y) : IsB (X ++ Y) := fun x hx => (List.mem_append.1 hx).elim (h1 x) (h2 x)
theorem IsB.one {x : Int} (h : 0 ≤ x ∧ x < 256) : IsB [x] := fun y hy => by rw [List.mem_singleton] at hy; rw [hy]; exact h
theorem IsB.bytes (s : ByteArray) : IsB (bytesOf s) := fun x hx => by
  unfold bytesOf at hx
  rw [List.mem_map] at hx
  obtain ⟨b, _, rfl⟩ := hx
  exact byte_range b
theorem IsB.big (x : Int) : ∀ m, IsB (bigB x m)
  | 0 => fun y hy => by cases hy
  | m + 1 => fun y hy => by
    rw [bigB] at hy
    rcases List.mem_cons.1 hy with rfl | hy
    · omega
    · exact IsB.big x m y hy
theorem IsB.uint (n : Int) (h : 0 ≤ n) : IsB (uintB n) := by
  unfold uintB
  by_cases h1 : n < 64
  · rw [if_pos h1]; exact IsB.one (by omega)
  · rw [if_neg h1]
    by_cases h2 : n < 16384
    · rw [if_pos h2]; exact IsB.big _ _
    · rw [if_neg h2]
      by_cases h3 : n < 1073741824
      · rw [if_pos h3]; exact IsB.big _ _
      · rw [if_neg h3]; exact IsB.app (X := [192]) (IsB.one (by decide)) (IsB.big n 8)
theorem IsB.back : ∀ {X : List Int}, IsB X → bytesOf (strOfNums X) = X := by
  intro X h
  unfold bytesOf
  rw [strOfNums_data, List.map_map]
  conv => rhs; rw [← List.map_id X]
  apply List.map_congr_left
  intro x hx
  have := h x hx
  show ((UInt8.ofNat x.toNat).toNat : Int) = x
  rw [UInt8.toNat_ofNat']
  omega
end Go.Proofs.YtojcbknclfamhaaDoor.A
