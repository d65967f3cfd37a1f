/- The reference's cursor as plain functions: what it does at a place is what the program's does on the rest. · The reference's words as a plain function: so many texts, in order where asked. -/
import Derived.Test.YtimjafjicnlhfaaKrAx0
import Derived.Test.YtimjafjicnlhfaaKrAx10
import Derived.Test.YtimjafjicnlhfaaKrAx11
import Derived.Test.YtimjafjicnlhfaaKrAx13
import Derived.Test.YtimjafjicnlhfaaKrHRefI
import Derived.Test.YtimjafjicnlhfaaKrHRead
namespace Go.Proofs.Ytimjafjicnlhfaa.A
open Go.RowKit Go.Proofs.YtimjafjicnlhfaaW.PrintWords Go.Proofs.YtimjafjicnlhfaaW.PrintLast Go.Proofs.YtimjafjicnlhfaaW.PrintMore
set_option linter.unusedVariables false
set_option linter.unusedSimpArgs false
def curAt (S : ByteArray) (a : Nat) (e : Int) : Cur := (S.extract a S.size, e)
theorem curAt_size (S : ByteArray) (a : Nat) : (S.extract a S.size).size = S.size - a := by rw [ByteArray.size_extract, Nat.min_self]
theorem wr_small (n : Int) (h0 : -9223372036854775808 ≤ n) (h1 : n ≤ 9223372036854775807) : wrap64 n = n := by unfold wrap64; omega
theorem left3_f (S : ByteArray) (a : Nat) (e : Int) (hs : Fit S) (ha : a ≤ S.size) : tithebarnref01_Cursor_Left.f S (a : Int) e = some (((S.size - a : Nat) : Int), S, (a : Int), e) := by
  have hs' : S.size ≤ 140737488351232 := hs
  unfold tithebarnref01_Cursor_Left.f
  rw [wr_small _ (by omega) (by omega), show (S.size : Int) - (a : Int) = ((S.size - a : Nat) : Int) by omega]
theorem bt_extract (S : ByteArray) (a j : Nat) (h : a + j < S.size) : bt (S.extract a S.size) (j : Int) = bt S ((a + j : Nat) : Int) := by
  have h1 : j < (S.extract a S.size).data.toList.length := by rw [data_len, curAt_size]; omega
  have h2 : a + j < S.data.toList.length := h
  rw [bt_at _ j h1, bt_at S (a + j) h2]
  congr 2
  simp [ByteArray.data_extract]
theorem ext_ext (S : ByteArray) (a n : Nat) (h : a ≤ S.size) : (S.extract a S.size).extract n (S.extract a S.size).size = S.extract (a + n) S.size := by
  rw [curAt_size, ByteArray.extract_extract]
  congr 1
  omega
theorem byte3_f (S : ByteArray) (a : Nat) (hs : Fit S) (ha : a ≤ S.size) (e : Int) :
    ∃ a' : Nat, a ≤ a' ∧ a' ≤ S.size ∧ tithebarnref01_Cursor_Byte.f S (a : Int) e = some ((byteP (curAt S a e)).1, S, (a' : Int), (byteP (curAt S a e)).2.2) ∧ (byteP (curAt S a e)).2.1 = S.extract a' S.size := by
  have hs' : S.size ≤ 140737488351232 := hs
  unfold tithebarnref01_Cursor_Byte.f byteP curAt
  simp only
  by_cases h : e = 0
  · rw [if_pos h, if_pos h, left3_f S a e hs ha]
    simp only [Option.bind_some]
    rw [curAt_size]
    by_cases h0 : S.size - a = 0
    · rw [if_pos (by omega), if_pos h0]
      refine ⟨a, Nat.le_refl _, ha, ?_, rfl⟩
      unfold tithebarnref01_Cursor_fail.f
      rw [if_pos h]
      rfl
    · have hb := bt_range S (a : Int)
      rw [if_neg (by omega), if_neg h0, wr_small ((a : Int) + 1) (by omega) (by omega), wr_small ((a : Int) + 1 - 1) (by omega) (by omega), show (a : Int) + 1 - 1 = (a : Int) by omega, if_pos (by omega), if_pos (by omega), wr_small _ (by omega) (by omega)]
      refine ⟨a + 1, by omega, by omega, ?_, ?_⟩
      · have := bt_extract S a 0 (by omega)
        simp only [Nat.add_zero, Int.natCast_zero] at this
        rw [this, h]
        rfl
      · rw [← curAt_size S a]
        exact ext_ext S a 1 ha
  · rw [if_neg h, if_neg h]
    exact ⟨a, Nat.le_refl _, ha, rfl, rfl⟩
theorem uintB_len (x : Int) : (uintB x).length = if x < 64 then 1 else if x < 16384 then 2 else if x < 1073741824 then 4 else 9 := by
  unfold uintB
  repeat' split
  all_goals simp [bigB_length]
theorem size3_f (b : Int) : tithebarnref01_size.f b = some ((sizeN b : Nat) : Int) := by
  unfold tithebarnref01_size.f sizeN
  repeat' split
  all_goals first | rfl | omega
theorem size_kinds (b : Int) : (b < 64 ∧ sizeN b = 1) ∨ (64 ≤ b ∧ b < 128 ∧ sizeN b = 2) ∨ (128 ≤ b ∧ b < 192 ∧ sizeN b = 4) ∨ (192 ≤ b ∧ sizeN b = 9) := by
  unfold sizeN
  repeat' split
  all_goals omega
theorem len_least (n : Nat) (x : Int) (h : (n = 1 ∧ x < 64) ∨ (n = 2 ∧ x < 16384) ∨ (n = 4 ∧ x < 1073741824) ∨ n = 9) (h0 : 0 ≤ x) : ((strOfNums (uintB x)).size : Int) = (n : Int) ↔ ¬ x < leastN n := by
  rw [strOfNums_size, uintB_len]
  unfold leastN
  rcases h with ⟨rfl, h⟩ | ⟨rfl, h⟩ | ⟨rfl, h⟩ | rfl
  all_goals (repeat' split)
  all_goals omega
theorem step_wr (x c : Int) (h0 : 0 ≤ x) (hc : 0 ≤ c ∧ c < 256) (h : x < 72057594037927936) : IntKind.u64.wrap (IntKind.u64.wrap (256 * x) + IntKind.u64.wrap c) = x * 256 + c := by
  rw [IntWalk.u64_in (256 * x) (by omega), IntWalk.u64_in c (by omega), IntWalk.u64_in _ (by omega)]
  omega
theorem wr_two3 (a j : Nat) (h : a ≤ 140737488351232) (hj : j ≤ 9) : wrap64 ((a : Int) + (j : Int)) = ((a + j : Nat) : Int) := by unfold wrap64; omega
theorem wr_up (j : Nat) (hj : j ≤ 9) : wrap64 ((j : Int) + 1) = ((j + 1 : Nat) : Int) := by unfold wrap64; omega
theorem foldB_lt (x0 : Int) (l : List UInt8) (hx : 0 ≤ x0 ∧ x0 < 64 ∧ l.length ≤ 3 ∨ x0 = 0 ∧ l.length ≤ 8) : foldB x0 l < 18446744073709551616 := by
  have hk := (foldB_le l x0 (by omega)).2
  rcases hx with ⟨h0, h1, h2⟩ | ⟨rfl, h2⟩
  · have hp : (256 : Int) ^ l.length ≤ 256 ^ 3 := pow_le256 _ _ h2
    exact Int.lt_of_lt_of_le hk (Int.le_trans (Int.mul_le_mul (show x0 + 1 ≤ 64 by omega) hp (Int.pow_nonneg (by omega)) (by omega)) (by decide))
  · have hp : (256 : Int) ^ l.length ≤ 256 ^ 8 := pow_le256 _ _ h2
    exact Int.lt_of_lt_of_le hk (by simpa using hp)
theorem foldB_end (x0 : Int) (l : List UInt8) (n : Nat) (hl : l.length + 1 = n) (hx : 0 ≤ x0 ∧ x0 < 64) (hn : n = 1 ∨ n = 2 ∨ n = 4 ∨ n = 9 ∧ x0 = 0) : (n = 1 ∧ foldB x0 l < 64) ∨ (n = 2 ∧ foldB x0 l < 16384) ∨ (n = 4 ∧ foldB x0 l < 1073741824) ∨ n = 9 := by
  have hk := (foldB_le l x0 (by omega)).2
  rcases hn with rfl | rfl | rfl | ⟨rfl, _⟩
  · obtain rfl : l = [] := List.eq_nil_of_length_eq_zero (by omega)
    exact .inl ⟨rfl, hx.2⟩
  · have : l.length = 1 := by omega
    rw [this] at hk
    exact .inr (.inl ⟨rfl, by omega⟩)
  · have : l.length = 3 := by omega
    rw [this] at hk
    exact .inr (.inr (.inl ⟨rfl, by omega⟩))
  · exact .inr (.inr (.inr rfl))
theorem getD_at (S : ByteArray) (a n j : Nat) (h : a + n ≤ S.size) (hj : j + 1 < n) : ((((S.extract a S.size).data.toList.take n).drop 1).getD j 0).toNat = bt S ((a + (j + 1) : Nat) : Int) := by
  rw [← getD_part _ n j hj]
  have h1 : 1 + j < (S.extract a S.size).data.toList.length := by rw [data_len, curAt_size]; omega
  have h2 := bt_extract S a (1 + j) (by omega)
  rw [bt_at _ _ h1] at h2
  rw [show a + (j + 1) = a + (1 + j) by omega, ← h2, List.getD_eq_getElem?_getD, List.getElem?_eq_getElem h1]
  rfl
theorem peek_l (S : ByteArray) (a n : Nat) (e x0 : Int) (hs : Fit S) (ha : a + n ≤ S.size) (hx : 0 ≤ x0 ∧ x0 < 64) (hn : n = 1 ∨ n = 2 ∨ n = 4 ∨ n = 9 ∧ x0 = 0) : ∀ (d k j : Nat), j + d + 1 = n → d < k →
    tithebarnref01_Cursor_peek.l0 k (n : Int) (foldB x0 ((((S.extract a S.size).data.toList.take n).drop 1).take j)) ((j + 1 : Nat) : Int) S (a : Int) e =
      some (if foldB x0 (((S.extract a S.size).data.toList.take n).drop 1) < leastN n then (0, 0, 5, S, (a : Int), e) else (foldB x0 (((S.extract a S.size).data.toList.take n).drop 1), (n : Int), 0, S, (a : Int), e)) := by
  have hs' : S.size ≤ 140737488351232 := hs
  have hlen : (((S.extract a S.size).data.toList.take n).drop 1).length + 1 = n := by rw [List.length_drop, List.length_take, data_len, curAt_size]; omega
  intro d
  induction d with
  | zero =>
    intro k j hj hk
    obtain ⟨k, rfl⟩ : ∃ m, k = m + 1 := ⟨k - 1, by omega⟩
    rw [tithebarnref01_Cursor_peek.l0, if_neg (by omega), List.take_of_length_le (by omega)]
    have h0 := (foldB_le (((S.extract a S.size).data.toList.take n).drop 1) x0 hx.1).1
    have h1 := foldB_lt x0 (((S.extract a S.size).data.toList.take n).drop 1) (by omega)
    have h2 := len_least n _ (foldB_end x0 _ n hlen hx hn) h0
    unfold tithebarnref01_Uint.f
    rw [if_pos ⟨h0, h1⟩]
    simp only [Option.bind_some]
    by_cases hc : foldB x0 (((S.extract a S.size).data.toList.take n).drop 1) < leastN n
    · rw [if_pos hc, if_neg (fun h => h2.1 h hc)]
    · rw [if_neg hc, if_pos (h2.2 hc)]
  | succ d ih =>
    intro k j hj hk
    obtain ⟨k, rfl⟩ : ∃ m, k = m + 1 := ⟨k - 1, by omega⟩
    have hjl : j < (((S.extract a S.size).data.toList.take n).drop 1).length := by omega
    have hb := bt_range S ((a + (j + 1) : Nat) : Int)
    have hf0 := (foldB_le ((((S.extract a S.size).data.toList.take n).drop 1).take j) x0 hx.1).1
    have hf1 := (foldB_range x0 ((((S.extract a S.size).data.toList.take n).drop 1).take j) (n - 2) (by rw [List.length_take]; omega) (by omega)).2
    rw [tithebarnref01_Cursor_peek.l0, if_pos (by omega), wr_two3 a (j + 1) (by omega) (by omega), wr_up (j + 1) (by omega), if_pos (by omega), if_pos (by omega), IntWalk.u64_in (bt S ((a + (j + 1) : Nat) : Int)) (by omega), ← getD_at S a n j ha (by omega)]
    have hg := getD_at S a n j ha (by omega)
    have hw := step_wr (foldB x0 ((((S.extract a S.size).data.toList.take n).drop 1).take j)) (((((S.extract a S.size).data.toList.take n).drop 1).getD j 0).toNat : Int) hf0 (by rw [hg]; omega) hf1
    rw [IntWalk.u64_in ((((((S.extract a S.size).data.toList.take n).drop 1).getD j 0).toNat : Int)) (by rw [hg]; omega)] at hw
    rw [hw, ← foldB_step _ _ _ hjl]
    exact ih k (j + 1) (by omega) (by omega)
theorem x0_eq (b : Int) (h0 : 0 ≤ b) (h : b ≤ 192) : IntKind.u64.wrap (Int.tmod b 64) = (if b = 192 then 0 else b % 64) ∧ 0 ≤ (if b = 192 then (0 : Int) else b % 64) ∧ (if b = 192 then (0 : Int) else b % 64) < 64 := by
  rw [Int.tmod_eq_emod_of_nonneg h0, IntWalk.u64_in _ (by omega)]
  split <;> omega
theorem peek3_f (k : Nat) (S : ByteArray) (a : Nat) (e : Int) (hs : Fit S) (ha : a ≤ S.size) (hk : 10 < k) :
    ∃ n : Nat, tithebarnref01_Cursor_peek.f k S (a : Int) e = some ((nextP (S.extract a S.size)).1, (n : Int), (nextP (S.extract a S.size)).2.2, S, (a : Int), e) ∧
      ((nextP (S.extract a S.size)).2.2 = 0 → a + n ≤ S.size ∧ (nextP (S.extract a S.size)).2.1 = S.extract (a + n) S.size) ∧
      ((nextP (S.extract a S.size)).2.2 ≠ 0 → (nextP (S.extract a S.size)).1 = 0 ∧ (nextP (S.extract a S.size)).2.1 = S.extract a S.size) := by
  have hs' : S.size ≤ 140737488351232 := hs
  obtain ⟨k, rfl⟩ : ∃ m, k = m + 1 := ⟨k - 1, by omega⟩
  unfold tithebarnref01_Cursor_peek.f
  rw [left3_f S a e hs ha, Option.bind_some]
  simp only
  unfold nextP
  rw [curAt_size]
  by_cases h0 : S.size - a = 0
  · rw [if_pos (by omega), if_pos h0]
    exact ⟨0, rfl, fun h => absurd h (by simp), fun _ => ⟨rfl, rfl⟩⟩
  · rw [if_neg (by omega), if_neg h0, if_pos (by omega), if_pos (by omega), size3_f, Option.bind_some]
    have hb0 := bt_extract S a 0 (by omega)
    simp only [Nat.add_zero, Int.natCast_zero] at hb0
    rw [hb0]
    have hr := bt_range S (a : Int)
    have hkk := size_kinds (bt S (a : Int))
    have hx := x0_eq (bt S (a : Int)) hr.1
    obtain ⟨b, hb⟩ : ∃ b, b = bt S (a : Int) := ⟨_, rfl⟩
    rw [← hb] at hr hkk hx ⊢
    obtain ⟨z, hz⟩ : ∃ z, z = sizeN b := ⟨_, rfl⟩
    rw [← hz] at hkk ⊢
    by_cases h1 : 192 < b
    · rw [if_pos (by omega), if_pos h1, tithebarnref01_Cursor_peek.j0, if_pos (by rw [bne_iff_ne]; omega)]
      exact ⟨0, rfl, fun h => absurd h (by simp), fun _ => ⟨rfl, rfl⟩⟩
    · rw [if_neg h1]
      obtain ⟨hx1, hx2, hx3⟩ := hx (by omega)
      have hn : z = 1 ∨ z = 2 ∨ z = 4 ∨ z = 9 ∧ (if b = 192 then (0 : Int) else b % 64) = 0 := by
        rcases hkk with h | h | h | h
        · exact .inl h.2
        · exact .inr (.inl h.2.2)
        · exact .inr (.inr (.inl h.2.2))
        · exact .inr (.inr (.inr ⟨h.2, if_pos (by omega)⟩))
      have hj : (if (z : Int) = 9 then tithebarnref01_Cursor_peek.j0 (k + 1) (z : Int) (b != 192) S (a : Int) e else tithebarnref01_Cursor_peek.j0 (k + 1) (z : Int) false S (a : Int) e) = tithebarnref01_Cursor_peek.j0 (k + 1) (z : Int) false S (a : Int) e := by
        split
        · rw [show (b != 192) = false from bne_eq_false_iff_eq.mpr (by omega)]
        · rfl
      rw [hj, tithebarnref01_Cursor_peek.j0, if_neg (by decide), left3_f S a e hs ha, Option.bind_some]
      simp only
      by_cases h2 : S.size - a < z
      · rw [if_pos (by omega), if_pos h2]
        exact ⟨0, rfl, fun h => absurd h (by simp), fun _ => ⟨rfl, rfl⟩⟩
      · rw [if_neg (by omega), if_neg h2, if_pos (by omega), if_pos (by omega)]
        rw [← hb, hx1]
        have hl := peek_l S a z e (if b = 192 then (0 : Int) else b % 64) hs (by omega) ⟨hx2, hx3⟩ hn (z - 1) k 0 (by omega) (by omega)
        simp only [List.take_zero, Nat.zero_add] at hl
        rw [show foldB (if b = 192 then (0 : Int) else b % 64) [] = (if b = 192 then (0 : Int) else b % 64) from rfl, show ((1 : Nat) : Int) = 1 from rfl] at hl
        rw [hl]
        by_cases h3 : foldB (if b = 192 then (0 : Int) else b % 64) (((S.extract a S.size).data.toList.take z).drop 1) < leastN z
        · rw [if_pos h3, if_pos h3]
          exact ⟨0, rfl, fun h => absurd h (by simp), fun _ => ⟨rfl, rfl⟩⟩
        · rw [if_neg h3, if_neg h3]
          refine ⟨z, rfl, fun _ => ⟨by omega, ?_⟩, fun h => absurd rfl h⟩
          have := ext_ext S a z ha
          rw [curAt_size] at this
          exact this
theorem fail3_f (S : ByteArray) (a e x : Int) (h : e = 0) : tithebarnref01_Cursor_fail.f S a e x = some (S, a, x) := by
  unfold tithebarnref01_Cursor_fail.f
  rw [if_pos h]
theorem uint3_f (k : Nat) (S : ByteArray) (a : Nat) (hs : Fit S) (ha : a ≤ S.size) (e : Int) (hk : 10 < k) :
    ∃ a' : Nat, a ≤ a' ∧ a' ≤ S.size ∧ tithebarnref01_Cursor_Uint.f k S (a : Int) e = some ((uintP (curAt S a e)).1, S, (a' : Int), (uintP (curAt S a e)).2.2) ∧ (uintP (curAt S a e)).2.1 = S.extract a' S.size := by
  have hs' : S.size ≤ 140737488351232 := hs
  unfold tithebarnref01_Cursor_Uint.f uintP curAt
  simp only
  by_cases h : e = 0
  · obtain ⟨n, h1, h2, h3⟩ := peek3_f k S a e hs ha hk
    rw [if_pos h, if_pos h, h1, Option.bind_some]
    simp only
    by_cases h4 : (nextP (S.extract a S.size)).2.2 = 0
    · obtain ⟨h5, h6⟩ := h2 h4
      rw [if_pos h4, h4, ← Int.natCast_add, wr_small _ (by omega) (by omega)]
      exact ⟨a + n, by omega, h5, by rw [h], h6⟩
    · obtain ⟨h5, h6⟩ := h3 h4
      rw [if_neg h4, fail3_f S a e _ h, Option.bind_some]
      exact ⟨a, Nat.le_refl _, ha, by rw [h5], h6⟩
  · rw [if_neg h, if_neg h]
    exact ⟨a, Nat.le_refl _, ha, rfl, rfl⟩
theorem nextP_lt (s : ByteArray) : (nextP s).1 < 18446744073709551616 := by
  have hb := bt_range s 0
  unfold nextP
  repeat' split
  all_goals first
    | exact (show (0 : Int) < 18446744073709551616 by decide)
    | (refine foldB_lt _ _ ?_
       have hk := size_kinds (bt s 0)
       rw [List.length_drop, List.length_take]
       omega)
theorem text3_f (k : Nat) (S : ByteArray) (a : Nat) (hs : Fit S) (ha : a ≤ S.size) (e : Int) (hk : 11 < k) :
    ∃ a' : Nat, a ≤ a' ∧ a' ≤ S.size ∧ tithebarnref01_Cursor_Text.f k S (a : Int) e 64 = some ((textP (curAt S a e)).1, S, (a' : Int), (textP (curAt S a e)).2.2) ∧ (textP (curAt S a e)).2.1 = S.extract a' S.size := by
  have hs' : S.size ≤ 140737488351232 := hs
  unfold tithebarnref01_Cursor_Text.f textP curAt
  simp only
  by_cases h : e = 0
  · obtain ⟨n, h1, h2, h3⟩ := peek3_f k S a e hs ha (by omega)
    have hx0 := nextP_nonneg (S.extract a S.size)
    have hx1 := nextP_lt (S.extract a S.size)
    rw [if_pos h, if_pos h, h1, Option.bind_some]
    simp only
    by_cases h4 : (nextP (S.extract a S.size)).2.2 = 0
    · obtain ⟨h5, h6⟩ := h2 h4
      obtain ⟨k, rfl⟩ : ∃ m, k = m + 1 := ⟨k - 1, by omega⟩
      rw [if_pos h4, if_pos h4, if_neg (by decide), tithebarnref01_Cursor_Text.j0, h6, IntWalk.u64_in 64 (by decide)]
      generalize (nextP (S.extract a S.size)).1 = x at *
      by_cases h7 : x > 64
      · rw [if_pos h7, if_pos (decide_eq_true h7), fail3_f S a e _ h, Option.bind_some]
        exact ⟨a, Nat.le_refl _, ha, rfl, rfl⟩
      · rw [if_neg h7, if_neg (by simpa using h7), left3_f S a e hs ha, Option.bind_some]
        simp only
        have e1 : wrap64 (((S.size - a : Nat) : Int) - (n : Int)) = ((S.size - (a + n) : Nat) : Int) := by rw [wr_small _ (by omega) (by omega)]; omega
        have e2 : wrap64 ((a : Int) + (n : Int)) = ((a + n : Nat) : Int) := by rw [wr_small _ (by omega) (by omega)]; omega
        have e3 : wrap64 x = x := wr_small _ (by omega) (by omega)
        rw [e1, e2, e3, IntWalk.u64_in _ (by omega), curAt_size]
        by_cases h8 : ((S.size - (a + n) : Nat) : Int) < x
        · rw [if_pos h8, if_pos h8, fail3_f S a e _ h, Option.bind_some]
          exact ⟨a, Nat.le_refl _, ha, rfl, rfl⟩
        · have e4 : wrap64 (((a + n : Nat) : Int) + x) = ((a + n + x.toNat : Nat) : Int) := by rw [wr_small _ (by omega) (by omega)]; omega
          have e5 : wrap64 ((a : Int) + wrap64 ((n : Int) + x)) = ((a + n + x.toNat : Nat) : Int) := by rw [wr_small ((n : Int) + x) (by omega) (by omega), wr_small _ (by omega) (by omega)]; omega
          rw [if_neg h8, if_neg h8, e4, e5, if_pos (by omega), if_pos (by omega), if_pos (by omega)]
          refine ⟨a + n + x.toNat, by omega, by omega, ?_, ?_⟩
          · rw [Int.toNat_natCast, Int.toNat_natCast, ByteArray.extract_extract, h]
            congr 3
            · omega
          · have := ext_ext S (a + n) x.toNat h5
            rw [curAt_size] at this
            exact this
    · obtain ⟨h5, h6⟩ := h3 h4
      rw [if_neg h4, if_neg h4, fail3_f S a e _ h, Option.bind_some]
      exact ⟨a, Nat.le_refl _, ha, rfl, rfl⟩
  · rw [if_neg h, if_neg h]
    exact ⟨a, Nat.le_refl _, ha, rfl, rfl⟩
theorem done3_f (S : ByteArray) (a : Nat) (hs : Fit S) (ha : a ≤ S.size) (e : Int) : tithebarnref01_Cursor_Done.f S (a : Int) e = some (doneP (curAt S a e), S, (a : Int), e) := by
  unfold tithebarnref01_Cursor_Done.f doneP curAt
  simp only
  rw [curAt_size]
  by_cases h : e = 0
  · rw [if_pos h, left3_f S a e hs ha, Option.bind_some]
    simp only
    by_cases h0 : S.size - a = 0
    · rw [if_neg (by omega), if_neg (fun hh => hh.2 h0)]
    · rw [if_pos (by omega), if_pos ⟨h, h0⟩]
  · rw [if_neg h, if_neg (fun hh => h hh.1)]
end Go.Proofs.Ytimjafjicnlhfaa.A
namespace Go.Proofs.Ytimjafjicnlhfaa.A
open Go.RowKit Go.Proofs.YtimjafjicnlhfaaW.PrintWords Go.Proofs.YtimjafjicnlhfaaW.PrintLast Go.Proofs.YtimjafjicnlhfaaW.PrintMore
set_option linter.unusedVariables false
set_option linter.unusedSimpArgs false
def takeP (ord : Bool) (d : Nat) (l : List ByteArray) (c : Cur) : (List ByteArray × Int) × Cur := if ord = true then ordP d l c else getP d l c
theorem takeP_zero (ord : Bool) (l : List ByteArray) (c : Cur) : takeP ord 0 l c = ((l, 0), c) := by
  unfold takeP
  split <;> rfl
theorem takeP_bad (ord : Bool) (d : Nat) (l : List ByteArray) (c : Cur) (h : ¬ (textP c).2.2 = 0) : takeP ord (d + 1) l c = (([], (textP c).2.2), (textP c).2) := by
  unfold takeP
  split
  · rw [ordP, if_neg h]
  · rw [getP, if_neg h]
theorem takeP_good (ord : Bool) (d : Nat) (l : List ByteArray) (c : Cur) (h : (textP c).2.2 = 0) (ho : ord = true → afterP l (textP c).1 = true) : takeP ord (d + 1) l c = takeP ord d (l ++ [(textP c).1]) (textP c).2 := by
  unfold takeP
  cases ord with
  | true => rw [if_pos rfl, if_pos rfl, ordP, if_pos h, if_pos (ho rfl)]
  | false => rw [if_neg (by decide), if_neg (by decide), getP, if_pos h]
theorem takeP_not (d : Nat) (l : List ByteArray) (c : Cur) (h : (textP c).2.2 = 0) (ho : ¬ afterP l (textP c).1 = true) : takeP true (d + 1) l c = (([], 4), (textP c).2) := by
  unfold takeP
  rw [if_pos rfl, ordP, if_pos h, if_neg ho]
theorem takeP_err (ord : Bool) : ∀ (d : Nat) (l : List ByteArray) (c : Cur), c.2 = 0 → (takeP ord d l c).1.2 = 0 → (takeP ord d l c).2.2 = 0 := by
  intro d
  induction d with
  | zero => intro l c hc _; rw [takeP_zero]; exact hc
  | succ d ih =>
    intro l c hc h
    by_cases h5 : (textP c).2.2 = 0
    · by_cases ho : ord = true → afterP l (textP c).1 = true
      · rw [takeP_good ord d l c h5 ho] at h ⊢
        exact ih _ _ h5 h
      · have hot : ord = true := Decidable.byContradiction fun hn => ho (fun e => absurd e hn)
        subst hot
        rw [takeP_not d l c h5 (fun e => ho (fun _ => e))] at h
        exact absurd h (by simp)
    · rw [takeP_bad ord d l c h5] at h
      exact absurd h h5
theorem takeP_len (ord : Bool) : ∀ (d : Nat) (l : List ByteArray) (c : Cur), (takeP ord d l c).1.1.length ≤ l.length + d := by
  intro d
  induction d with
  | zero => intro l c; rw [takeP_zero]; exact Nat.le_refl _
  | succ d ih =>
    intro l c
    by_cases h5 : (textP c).2.2 = 0
    · by_cases ho : ord = true → afterP l (textP c).1 = true
      · rw [takeP_good ord d l c h5 ho]
        have := ih (l ++ [(textP c).1]) (textP c).2
        rw [List.length_append, List.length_singleton] at this
        omega
      · have hot : ord = true := Decidable.byContradiction fun hn => ho (fun e => absurd e hn)
        subst hot
        rw [takeP_not d l c h5 (fun e => ho (fun _ => e))]
        exact Nat.zero_le _
    · rw [takeP_bad ord d l c h5]
      exact Nat.zero_le _
theorem u64_one (j : Nat) (hj : j ≤ 65536) : IntKind.u64.wrap ((j : Int) + 1) = ((j + 1 : Nat) : Int) := by rw [IntWalk.u64_in _ (by omega)]; push_cast; rfl
theorem u64_back (j : Nat) (h0 : 0 < j) (hj : j ≤ 65536) : IntKind.u64.wrap ((j : Int) - 1) = ((j - 1 : Nat) : Int) := by rw [IntWalk.u64_in _ (by omega)]; omega
theorem words_l (S : ByteArray) (hs : Fit S) (ord : Bool) (n : Nat) (hn : n ≤ 65536) : ∀ (d k j a : Nat) (l : List ByteArray) (e : Int), j + d = n → l.length = j → (∀ t ∈ l, t.size ≤ 64) → a ≤ S.size → d + 200 < k →
    ∃ a' : Nat, a' ≤ S.size ∧ tithebarnref05_words.l0 k (n : Int) ord l (j : Int) S (a : Int) e = some ((takeP ord d l (curAt S a e)).1.1, (takeP ord d l (curAt S a e)).1.2, S, (a' : Int), (takeP ord d l (curAt S a e)).2.2) ∧ (takeP ord d l (curAt S a e)).2.1 = S.extract a' S.size := by
  intro d
  induction d with
  | zero =>
    intro k j a l e hj hl ht ha hk
    obtain ⟨k, rfl⟩ : ∃ m, k = m + 1 := ⟨k - 1, by omega⟩
    rw [tithebarnref05_words.l0, if_neg (by omega), takeP_zero]
    exact ⟨a, ha, rfl, rfl⟩
  | succ d ih =>
    intro k j a l e hj hl ht ha hk
    obtain ⟨k, rfl⟩ : ∃ m, k = m + 1 := ⟨k - 1, by omega⟩
    obtain ⟨a1, h1, h2, h3, h4⟩ := text3_f k S a hs ha e (by omega)
    have hcur : (textP (curAt S a e)).2 = curAt S a1 (textP (curAt S a e)).2.2 := by
      unfold curAt at h4 ⊢
      rw [← h4]
    rw [tithebarnref05_words.l0, if_pos (by omega), h3, Option.bind_some]
    simp only
    by_cases h5 : (textP (curAt S a e)).2.2 = 0
    · rw [if_pos h5, u64_one j (by omega)]
      have hts := (textP_only (curAt S a e) h5).2.2
      have hstep := ih k (j + 1) a1 (l ++ [(textP (curAt S a e)).1]) 0 (by omega) (by rw [List.length_append, List.length_singleton]; omega)
        (fun t h => by rcases List.mem_append.1 h with h | h; exact ht t h; rw [List.mem_singleton] at h; rw [h]; exact hts) h2 (by omega)
      have hc0 : (textP (curAt S a e)).2 = curAt S a1 0 := by rw [hcur, h5]
      cases hord : ord with
      | false =>
        subst hord
        rw [if_neg (by decide), if_pos (by omega), takeP_good false d l _ h5 (by simp), hc0]
        exact hstep
      | true =>
        subst hord
        rw [if_pos rfl]
        by_cases hj0 : j = 0
        · have hle : l = [] := List.eq_nil_of_length_eq_zero (by omega)
          rw [if_neg (by omega), if_pos (by omega), takeP_good true d l _ h5 (fun _ => by subst hle; exact (afterP_iff [] _).2 (fun x hx => by simp at hx)), hc0]
          exact hstep
        · have hlt : j - 1 < l.length := by omega
          have hrd : rdOf ByteArray.empty l ((j - 1 : Nat) : Int) = l[j - 1] := by simp [rdOf, hlt]
          have hls := ht _ (List.getElem_mem hlt)
          rw [if_pos (by omega), u64_back j (by omega) (by omega), if_pos (by omega), if_pos (by omega), hrd, ahead_f k _ _ (by unfold Fit; omega) (by omega), Option.bind_some]
          have hlast : l.getLast? = some l[j - 1] := by
            rw [List.getLast?_eq_getElem?, hl, List.getElem?_eq_getElem hlt]
          have haf : afterP l (textP (curAt S a e)).1 = true ↔ l[j - 1].data.toList < (textP (curAt S a e)).1.data.toList := by
            rw [afterP_iff, hlast]
            exact ⟨fun h => h _ rfl, fun h x hx => by cases hx; exact h⟩
          by_cases hlt2 : l[j - 1].data.toList < (textP (curAt S a e)).1.data.toList
          · rw [decide_eq_true hlt2, if_pos rfl, if_pos (by omega), takeP_good true d l _ h5 (fun _ => haf.2 hlt2), hc0]
            exact hstep
          · rw [decide_eq_false hlt2, if_neg (by decide), takeP_not d l _ h5 (fun h => hlt2 (haf.1 h)), hc0]
            exact ⟨a1, h2, rfl, rfl⟩
    · rw [if_neg h5, takeP_bad ord d l _ h5]
      exact ⟨a1, h2, rfl, h4⟩
theorem words_f (S : ByteArray) (hs : Fit S) (ord : Bool) (n : Nat) (hn : n ≤ 65536) (k a : Nat) (e : Int) (ha : a ≤ S.size) (hk : n + 200 < k) :
    ∃ a' : Nat, a' ≤ S.size ∧ tithebarnref05_words.f k S (a : Int) e (n : Int) ord = some ((takeP ord n [] (curAt S a e)).1.1, (takeP ord n [] (curAt S a e)).1.2, S, (a' : Int), (takeP ord n [] (curAt S a e)).2.2) ∧ (takeP ord n [] (curAt S a e)).2.1 = S.extract a' S.size :=
  words_l S hs ord n hn n k 0 a [] e (Nat.zero_add _) rfl (fun t h => by cases h) ha hk
end Go.Proofs.Ytimjafjicnlhfaa.A
