/- Bits of numbers as bytes, the lowest first: plain. -/
import Derived.Test.YtimjafjicnlhfaaKrAx0
namespace Go.Proofs.Ytimjafjicnlhfaa.A
open Go.RowKit Go.Proofs.YtimjafjicnlhfaaW.PrintWords Go.Proofs.YtimjafjicnlhfaaW.PrintLast Go.Proofs.YtimjafjicnlhfaaW.PrintMore
set_option linter.unusedVariables false
set_option linter.unusedSimpArgs false
def bitsI : Int → Nat → List Bool
  | _, 0 => []
  | n, w + 1 => decide (n % 2 = 1) :: bitsI (n / 2) w
def byteOf : List Bool → Int
  | [] => 0
  | b :: bs => (if b = true then 1 else 0) + 2 * byteOf bs
theorem bitsI_length : ∀ (w : Nat) (n : Int), (bitsI n w).length = w
  | 0, _ => rfl
  | w + 1, n => by simp [bitsI, bitsI_length w]
theorem bitsI_add : ∀ (a b : Nat) (n : Int), bitsI n (a + b) = bitsI n a ++ bitsI (n / 2 ^ a) b
  | 0, b, n => by simp [bitsI]
  | a + 1, b, n => by
    rw [show a + 1 + b = (a + b) + 1 by omega]
    simp only [bitsI, List.cons_append]
    rw [bitsI_add a b, Int.pow_succ, Int.mul_comm, Int.ediv_ediv_of_nonneg (by decide)]
theorem emod_two (n m : Int) (hm : 0 < m) : n % (2 * m) = n % 2 + 2 * (n / 2 % m) := by
  have h1 := Int.emod_add_mul_ediv n 2
  have h2 := Int.emod_add_mul_ediv (n / 2) m
  have h3 := Int.emod_nonneg (n / 2) (Int.ne_of_gt hm)
  have h4 := Int.emod_lt_of_pos (n / 2) hm
  have h5 : n = n % 2 + 2 * (n / 2 % m) + 2 * m * (n / 2 / m) := by
    rw [Int.mul_assoc]
    omega
  conv => lhs; rw [h5, Int.add_mul_emod_self_left]
  exact Int.emod_eq_of_lt (by omega) (by omega)
theorem byteOf_bitsI : ∀ (w : Nat) (n : Int), byteOf (bitsI n w) = n % 2 ^ w
  | 0, n => by simp [bitsI, byteOf]
  | w + 1, n => by
    simp only [bitsI, byteOf]
    rw [byteOf_bitsI w, Int.pow_succ, Int.mul_comm (2 ^ w) 2, emod_two _ _ (Int.pow_pos (by decide))]
    have h2 : n % 2 = 0 ∨ n % 2 = 1 := by omega
    rcases h2 with h2 | h2 <;> simp [h2]
theorem byteOf_append : ∀ (xs bs : List Bool), byteOf (xs ++ bs) = byteOf xs + 2 ^ xs.length * byteOf bs
  | [], bs => by simp [byteOf]
  | a :: xs, bs => by
    simp only [List.cons_append, byteOf, List.length_cons]
    rw [byteOf_append xs bs, Int.pow_succ, Int.mul_comm (2 ^ xs.length) 2, Int.mul_add, Int.mul_assoc]
    omega
theorem byteOf_range : ∀ (bs : List Bool), 0 ≤ byteOf bs ∧ byteOf bs < 2 ^ bs.length
  | [] => by simp [byteOf]
  | b :: bs => by
    have := byteOf_range bs
    simp only [byteOf, List.length_cons, Int.pow_succ]
    cases b <;> simp <;> omega
def packB (bs : List Bool) : List Int := if h : bs = [] then [] else byteOf (bs.take 8) :: packB (bs.drop 8)
termination_by bs.length
decreasing_by cases bs with | nil => exact absurd rfl h | cons b bs => simp; omega
theorem packB_nil : packB [] = [] := by unfold packB; simp
theorem packB_chunk (xs bs : List Bool) (h : xs.length = 8) : packB (xs ++ bs) = byteOf xs :: packB bs := by
  rw [packB]
  have hne : xs ++ bs ≠ [] := fun e => by rw [List.append_eq_nil_iff] at e; rw [e.1] at h; cases h
  rw [dif_neg hne, List.take_left' h, List.drop_left' h]
theorem packB_append : ∀ (q : Nat) (xs bs : List Bool), xs.length = 8 * q → packB (xs ++ bs) = packB xs ++ packB bs
  | 0, xs, bs, h => by
    have : xs = [] := List.eq_nil_of_length_eq_zero (by omega)
    subst this
    simp [packB_nil]
  | q + 1, xs, bs, h => by
    have h1 : xs = xs.take 8 ++ xs.drop 8 := (List.take_append_drop 8 xs).symm
    have h8 : (xs.take 8).length = 8 := by rw [List.length_take]; omega
    rw [h1, List.append_assoc, packB_chunk _ _ h8, packB_chunk _ _ h8, packB_append q (xs.drop 8) bs (by rw [List.length_drop]; omega)]
    rfl
theorem packB_small (bs : List Bool) (h : 0 < bs.length) (h8 : bs.length ≤ 8) : packB bs = [byteOf bs] := by
  rw [packB]
  have hne : bs ≠ [] := fun e => by rw [e] at h; cases h
  rw [dif_neg hne, List.take_of_length_le h8, List.drop_of_length_le h8, packB_nil]
def fullB (bs : List Bool) : List Bool := bs.take (8 * (bs.length / 8))
def restB (bs : List Bool) : List Bool := bs.drop (8 * (bs.length / 8))
theorem full_rest (bs : List Bool) : bs = fullB bs ++ restB bs := (List.take_append_drop _ bs).symm
theorem fullB_length (bs : List Bool) : (fullB bs).length = 8 * (bs.length / 8) := by unfold fullB; rw [List.length_take]; omega
theorem restB_length (bs : List Bool) : (restB bs).length = bs.length % 8 := by unfold restB; rw [List.length_drop]; omega
theorem packB_full_length : ∀ (q : Nat) (bs : List Bool), bs.length = 8 * q → (packB bs).length = q
  | 0, bs, h => by
    have : bs = [] := List.eq_nil_of_length_eq_zero (by omega)
    subst this
    simp [packB_nil]
  | q + 1, bs, h => by
    have h1 : bs = bs.take 8 ++ bs.drop 8 := (List.take_append_drop 8 bs).symm
    rw [h1, packB_chunk _ _ (by rw [List.length_take]; omega), List.length_cons, packB_full_length q (bs.drop 8) (by rw [List.length_drop]; omega)]
def openB (bs : List Bool) : List Int := packB (fullB bs) ++ [byteOf (restB bs)]
theorem openB_new (bs : List Bool) (h : bs.length % 8 = 0) : openB bs = packB bs ++ [0] := by
  have hr : restB bs = [] := List.eq_nil_of_length_eq_zero (by rw [restB_length, h])
  unfold openB
  rw [hr]
  conv => rhs; rw [full_rest bs, hr, List.append_nil]
  rfl
theorem openB_old (bs : List Bool) (h : bs.length % 8 ≠ 0) : openB bs = packB bs := by
  unfold openB
  conv => rhs; rw [full_rest bs, packB_append _ _ _ (fullB_length bs), packB_small (restB bs) (by rw [restB_length]; omega) (by rw [restB_length]; omega)]
theorem openB_length (bs : List Bool) : (openB bs).length = bs.length / 8 + 1 := by
  unfold openB
  rw [List.length_append, packB_full_length _ _ (fullB_length bs)]
  rfl
theorem packB_ext (bs cs : List Bool) (hc : 0 < cs.length) (h : bs.length % 8 + cs.length ≤ 8) : packB (bs ++ cs) = packB (fullB bs) ++ [byteOf (restB bs) + 2 ^ (bs.length % 8) * byteOf cs] := by
  conv => lhs; rw [full_rest bs, List.append_assoc, packB_append _ _ _ (fullB_length bs)]
  rw [packB_small (restB bs ++ cs) (by rw [List.length_append]; omega) (by rw [List.length_append, restB_length]; exact h), byteOf_append, restB_length]
theorem openB_set (bs : List Bool) (x : Int) : (openB bs).set (bs.length / 8) x = packB (fullB bs) ++ [x] := by
  unfold openB
  rw [List.set_append_right _ _ (by rw [packB_full_length _ _ (fullB_length bs)]; exact Nat.le_refl _), packB_full_length _ _ (fullB_length bs), Nat.sub_self]
  rfl
theorem packB_length (bs : List Bool) : (packB bs).length = (bs.length + 7) / 8 := by
  by_cases h : bs.length % 8 = 0
  · have := congrArg List.length (openB_new bs h)
    rw [openB_length, List.length_append] at this
    simp at this
    omega
  · rw [← openB_old bs h, openB_length]
    omega
theorem or_comm_add (k : IntKind) (j : Nat) (hj : j ≤ k.bits) (hk : ∀ n : Int, 0 ≤ n → n < 2 ^ j → k.wrap n = n) (i : Nat)
    (x y : Int) (hx₀ : 0 ≤ x) (hx : x % 2 ^ i = 0) (hx₁ : x < 2 ^ j) (hy₀ : 0 ≤ y) (hy : y < 2 ^ i) (hy₁ : y < 2 ^ j) : Go.bits .or k y x = y + x := by
  have h1 := bits_join k j hj hk i x y hx₀ hx hx₁ hy₀ hy hy₁
  obtain ⟨a, rfl⟩ := Int.eq_ofNat_of_zero_le hx₀
  obtain ⟨b, rfl⟩ := Int.eq_ofNat_of_zero_le hy₀
  have ha : a < 2 ^ j := by exact_mod_cast hx₁
  have hb : b < 2 ^ j := by exact_mod_cast hy₁
  rw [(bits_nat k j hj hk a b ha hb).2] at h1
  rw [(bits_nat k j hj hk b a hb ha).2, Nat.or_comm, h1]
  omega
theorem or_ext (bs : List Bool) (n : Int) (t : Nat) (h : bs.length % 8 + t ≤ 8) : Go.bits .or .u8 (byteOf (restB bs)) (n % 2 ^ t * 2 ^ (bs.length % 8)) = byteOf (restB bs) + 2 ^ (bs.length % 8) * byteOf (bitsI n t) := by
  have h1 := byteOf_range (restB bs)
  rw [restB_length] at h1
  have h2 : 0 ≤ n % 2 ^ t ∧ n % 2 ^ t < 2 ^ t := ⟨Int.emod_nonneg _ (Int.ne_of_gt (Int.pow_pos (by decide))), Int.emod_lt_of_pos _ (Int.pow_pos (by decide))⟩
  have hle : ∀ a b : Nat, a ≤ b → (2 : Int) ^ a ≤ 2 ^ b := fun a b h => by
    have h2 : ((2 ^ a : Nat) : Int) ≤ ((2 ^ b : Nat) : Int) := Int.ofNat_le.2 (Nat.pow_le_pow_right (by decide) h)
    simpa using h2
  have hp : (0 : Int) < 2 ^ (bs.length % 8) := Int.pow_pos (by decide)
  have hlt : n % 2 ^ t * 2 ^ (bs.length % 8) < 2 ^ 8 := by
    refine Int.lt_of_lt_of_le (Int.mul_lt_mul_of_pos_right h2.2 hp) ?_
    rw [← Int.pow_add]
    exact hle _ _ (by omega)
  rw [or_comm_add .u8 8 (by decide) wraps_u8 (bs.length % 8) _ _ (Int.mul_nonneg h2.1 (Int.le_of_lt hp)) (Int.mul_emod_left _ _) hlt h1.1 h1.2 (Int.lt_of_lt_of_le h1.2 (hle _ _ (by omega))), byteOf_bitsI, Int.mul_comm]
end Go.Proofs.Ytimjafjicnlhfaa.A
