/- bits.Width: how many bits numbers need: plain. -/
import Derived.Test.YtimjafjicnlhfaaKrAx0
import Derived.Test.YtimjafjicnlhfaaKrAx2
namespace Go.Proofs.Ytimjafjicnlhfaa.A
open Go.RowKit Go.Proofs.YtimjafjicnlhfaaW.PrintWords Go.Proofs.YtimjafjicnlhfaaW.PrintLast Go.Proofs.YtimjafjicnlhfaaW.PrintMore
set_option linter.unusedVariables false
set_option linter.unusedSimpArgs false
def lenB (n : Nat) : Nat := if n = 0 then 0 else n.log2 + 1
theorem lenB_le (n w : Nat) : lenB n ≤ w ↔ n < 2 ^ w := by
  unfold lenB
  by_cases h : n = 0
  · subst h
    simp [Nat.two_pow_pos]
  · rw [if_neg h, ← Nat.log2_lt h]
    exact Iff.rfl
theorem lenB_shift (n k : Nat) (h : 2 ^ k ≤ n) : lenB n = lenB (n / 2 ^ k) + k := by
  have hp : 0 < 2 ^ k := Nat.two_pow_pos k
  apply Nat.le_antisymm
  · rw [lenB_le, Nat.pow_add]
    have h1 : n / 2 ^ k < 2 ^ lenB (n / 2 ^ k) := (lenB_le _ _).1 (Nat.le_refl _)
    exact (Nat.div_lt_iff_lt_mul hp).1 h1
  · have h1 : n < 2 ^ lenB n := (lenB_le _ _).1 (Nat.le_refl _)
    have h2 : k < lenB n := by
      rcases Nat.lt_or_ge k (lenB n) with h3 | h3
      · exact h3
      · exact absurd (Nat.lt_of_lt_of_le h1 (Nat.pow_le_pow_right (by decide) h3)) (by omega)
    have h3 : lenB (n / 2 ^ k) ≤ lenB n - k := by
      rw [lenB_le, Nat.div_lt_iff_lt_mul hp, ← Nat.pow_add]
      rwa [Nat.sub_add_cancel (Nat.le_of_lt h2)]
    omega
theorem bt_getD2 (s : ByteArray) (k : Nat) : bt s (k : Int) = ((s.data.toList.getD k 0).toNat : Int) := by
  by_cases h : k < s.size
  · rw [← bt_at s (k : Int) h, List.getD_eq_getElem?_getD, Array.getElem?_toList, Array.getElem?_eq_getElem h]
    rfl
  · unfold bt
    rw [dif_neg (show ¬ (k : Int).toNat < s.size from h), List.getD_eq_getElem?_getD, List.getElem?_eq_none (Nat.le_of_not_lt h)]
    rfl
def lenTab : ByteArray := ⟨#[0, 1, 2, 2, 3, 3, 3, 3, 4, 4, 4, 4, 4, 4, 4, 4, 5, 5, 5, 5, 5, 5, 5, 5, 5, 5, 5, 5, 5, 5, 5, 5, 6, 6, 6, 6, 6, 6, 6, 6, 6, 6, 6, 6, 6, 6, 6, 6, 6, 6, 6, 6, 6, 6, 6, 6, 6, 6, 6, 6, 6, 6, 6, 6, 7, 7, 7, 7, 7, 7, 7, 7, 7, 7, 7, 7, 7, 7, 7, 7, 7, 7, 7, 7, 7, 7, 7, 7, 7, 7, 7, 7, 7, 7, 7, 7, 7, 7, 7, 7, 7, 7, 7, 7, 7, 7, 7, 7, 7, 7, 7, 7, 7, 7, 7, 7, 7, 7, 7, 7, 7, 7, 7, 7, 7, 7, 7, 7, 8, 8, 8, 8, 8, 8, 8, 8, 8, 8, 8, 8, 8, 8, 8, 8, 8, 8, 8, 8, 8, 8, 8, 8, 8, 8, 8, 8, 8, 8, 8, 8, 8, 8, 8, 8, 8, 8, 8, 8, 8, 8, 8, 8, 8, 8, 8, 8, 8, 8, 8, 8, 8, 8, 8, 8, 8, 8, 8, 8, 8, 8, 8, 8, 8, 8, 8, 8, 8, 8, 8, 8, 8, 8, 8, 8, 8, 8, 8, 8, 8, 8, 8, 8, 8, 8, 8, 8, 8, 8, 8, 8, 8, 8, 8, 8, 8, 8, 8, 8, 8, 8, 8, 8, 8, 8, 8, 8, 8, 8, 8, 8, 8, 8, 8, 8, 8, 8, 8, 8, 8, 8, 8, 8, 8, 8, 8, 8]⟩
def len8 (b : Nat) : Nat := if b < 1 then 0 else if b < 2 then 1 else if b < 4 then 2 else if b < 8 then 3 else if b < 16 then 4 else if b < 32 then 5 else if b < 64 then 6 else if b < 128 then 7 else 8
theorem lenTab_all : (List.range 256).all (fun b => lenTab.data.toList.getD b 0 == UInt8.ofNat (len8 b)) = true := by kernel_rfl
theorem len8_lenB (b : Nat) (h : b < 256) : len8 b = lenB b := by
  have key : ∀ w, b < 2 ^ w → (w = 0 ∨ 2 ^ (w - 1) ≤ b) → lenB b = w := by
    intro w h1 h2
    apply Nat.le_antisymm ((lenB_le _ _).2 h1)
    rcases h2 with rfl | h2
    · exact Nat.zero_le _
    · rcases Nat.lt_or_ge (lenB b) w with h3 | h3
      · have := (lenB_le b (w - 1)).1 (by omega)
        omega
      · exact h3
  unfold len8
  repeat' split
  all_goals (symm; apply key <;> omega)
theorem lenTab_at (b : Nat) (h : b < 256) : bt lenTab (b : Int) = ((lenB b : Nat) : Int) := by
  have h1 := List.all_eq_true.1 lenTab_all b (List.mem_range.2 h)
  have h2 : lenTab.data.toList.getD b 0 = UInt8.ofNat (len8 b) := by simpa using h1
  have h8 : len8 b < 256 := by unfold len8; repeat' split
                               all_goals omega
  rw [bt_getD2, h2, UInt8.toNat_ofNat', len8_lenB b h, Nat.mod_eq_of_lt (by rw [← len8_lenB b h]; exact h8)]
theorem len_end (b : Nat) (x : Int) (h : b < 256) (hx : 0 ≤ x ∧ x ≤ 56) : wrap64 (x + wrap64 (bt lenTab (b : Int))) = x + lenB b := by
  have hl : lenB b ≤ 8 := (lenB_le b 8).2 h
  rw [lenTab_at b h]
  unfold wrap64
  omega
theorem len_j (k m : Nat) (x : Int) (hm : m < 4294967296) (hx : x = 0 ∨ x = 32) : bits_Len64.j0 (k + 1) (m : Int) x = some (x + lenB m) := by
  have h16 : (m : Int) / 65536 = ((m / 65536 : Nat) : Int) := by omega
  have h168 : ((m / 65536 : Nat) : Int) / 256 = ((m / 65536 / 256 : Nat) : Int) := by omega
  have h8 : (m : Int) / 256 = ((m / 256 : Nat) : Int) := by omega
  rw [bits_Len64.j0.eq_def]
  change (if _ then (if _ then (if _ then (if _ then some (wrap64 (wrap64 (wrap64 (x + 16) + 8) + wrap64 (bt lenTab _))) else none) else none) else (if _ then (if _ then some (wrap64 (wrap64 (x + 16) + wrap64 (bt lenTab _))) else none) else none)) else (if _ then (if _ then (if _ then some (wrap64 (wrap64 (x + 8) + wrap64 (bt lenTab _))) else none) else none) else (if _ then (if _ then some (wrap64 (x + wrap64 (bt lenTab _))) else none) else none))) = _
  rw [h16, h168, h8]
  have w16 : wrap64 (x + 16) = x + 16 := by unfold wrap64; omega
  have w168 : wrap64 (x + 16 + 8) = x + 16 + 8 := by unfold wrap64; omega
  have w8 : wrap64 (x + 8) = x + 8 := by unfold wrap64; omega
  rw [w16, w168, w8]
  clear w16 w168 w8
  by_cases c1 : m ≥ 65536
  · rw [if_pos (show (m : Int) ≥ 65536 by omega)]
    have e1 := lenB_shift m 16 (by omega)
    by_cases c2 : m / 65536 ≥ 256
    · have e2 := lenB_shift (m / 65536) 8 (by omega)
      rw [if_pos (show ((m / 65536 : Nat) : Int) ≥ 256 by omega)]
      have hmod : ((m / 65536 / 256 : Nat) : Int) % 256 = ((m / 65536 / 256 : Nat) : Int) := by omega
      rw [hmod, if_pos (by omega), if_pos (by omega), len_end _ _ (by omega) (by omega)]
      congr 1
      simp only [show (2 : Nat) ^ 16 = 65536 from rfl, show (2 : Nat) ^ 8 = 256 from rfl] at e1 e2
      omega
    · rw [if_neg (show ¬ ((m / 65536 : Nat) : Int) ≥ 256 by omega)]
      have hmod : ((m / 65536 : Nat) : Int) % 256 = ((m / 65536 : Nat) : Int) := by omega
      rw [hmod, if_pos (by omega), if_pos (by omega), len_end _ _ (by omega) (by omega)]
      congr 1
      simp only [show (2 : Nat) ^ 16 = 65536 from rfl] at e1
      omega
  · rw [if_neg (show ¬ (m : Int) ≥ 65536 by omega)]
    by_cases c2 : m ≥ 256
    · have e2 := lenB_shift m 8 (by omega)
      rw [if_pos (show (m : Int) ≥ 256 by omega)]
      have hmod : ((m / 256 : Nat) : Int) % 256 = ((m / 256 : Nat) : Int) := by omega
      rw [hmod, if_pos (by omega), if_pos (by omega), len_end _ _ (by omega) (by omega)]
      congr 1
      simp only [show (2 : Nat) ^ 8 = 256 from rfl] at e2
      omega
    · rw [if_neg (show ¬ (m : Int) ≥ 256 by omega)]
      have hmod : (m : Int) % 256 = (m : Int) := by omega
      rw [hmod, if_pos (by omega), if_pos (by omega), len_end _ _ (by omega) (by omega)]
theorem len64_f (k m : Nat) (hm : m < 18446744073709551616) : bits_Len64.f (k + 1) (m : Int) = some ((lenB m : Nat) : Int) := by
  unfold bits_Len64.f
  by_cases c : m ≥ 4294967296
  · rw [if_pos (show (m : Int) ≥ 4294967296 by omega), show (m : Int) / 4294967296 = ((m / 4294967296 : Nat) : Int) by omega, len_j k _ 32 (by omega) (.inr rfl)]
    have e1 := lenB_shift m 32 (by omega)
    congr 1
    simp only [show (2 : Nat) ^ 32 = 4294967296 from rfl] at e1
    omega
  · rw [if_neg (show ¬ (m : Int) ≥ 4294967296 by omega), len_j k m 0 (by omega) (.inl rfl)]
    congr 1
    omega
def orAll (a : Nat) (l : List Int) : Nat := l.foldl (fun a x => a ||| x.toNat) a
def widthP (l : List Int) : Nat := lenB (orAll 0 l)
theorem orAll_lt (w : Nat) : ∀ (l : List Int) (a : Nat), orAll a l < 2 ^ w ↔ a < 2 ^ w ∧ ∀ x ∈ l, x.toNat < 2 ^ w
  | [], a => by simp [orAll]
  | x :: l, a => by
    have h := orAll_lt w l (a ||| x.toNat)
    have hor : a ||| x.toNat < 2 ^ w ↔ a < 2 ^ w ∧ x.toNat < 2 ^ w :=
      ⟨fun h => ⟨Nat.lt_of_le_of_lt Nat.left_le_or h, Nat.lt_of_le_of_lt Nat.right_le_or h⟩, fun h => Nat.or_lt_two_pow h.1 h.2⟩
    simp only [orAll, List.foldl_cons] at h ⊢
    rw [h, hor]
    simp [and_assoc]
theorem widthP_le (l : List Int) (w : Nat) : widthP l ≤ w ↔ ∀ x ∈ l, x.toNat < 2 ^ w := by
  unfold widthP
  rw [lenB_le, orAll_lt]
  simp [Nat.two_pow_pos]
def U64 (l : List Int) : Prop := ∀ x ∈ l, 0 ≤ x ∧ x < 18446744073709551616
theorem width_l (l : List Int) (hl : U64 l) (hlen : l.length < 1099511627776) : ∀ (d k j a : Nat), j + d = l.length → d + 2 < k → a < 18446744073709551616 →
    bits_Width.l0 k (a : Int) l (l.length : Int) (j : Int) = some ((lenB (orAll a (l.drop j)) : Nat) : Int) := by
  intro d
  induction d with
  | zero =>
    intro k j a hj hk ha
    obtain ⟨k, rfl⟩ : ∃ m, k = m + 1 := ⟨k - 1, by omega⟩
    obtain ⟨k, rfl⟩ : ∃ m, k = m + 1 := ⟨k - 1, by omega⟩
    rw [bits_Width.l0.eq_def]
    simp only
    rw [if_neg (by omega), len64_f k a ha, List.drop_of_length_le (by omega)]
    rfl
  | succ d ih =>
    intro k j a hj hk ha
    obtain ⟨k, rfl⟩ : ∃ m, k = m + 1 := ⟨k - 1, by omega⟩
    have hjl : j < l.length := by omega
    have hx := hl l[j] (List.getElem_mem hjl)
    have hrd : rd l (j : Int) = ((l[j].toNat : Nat) : Int) := by simp [rd, hjl]; omega
    have hor : Go.bits .or .u64 (a : Int) ((l[j].toNat : Nat) : Int) = ((a ||| l[j].toNat : Nat) : Int) := (bits_nat .u64 64 (by decide) (fun n h0 h1 => IntWalk.u64_in _ (by simp at h1; omega)) a _ (by simpa using ha) (by simp; omega)).2
    rw [bits_Width.l0.eq_def]
    simp only
    rw [if_pos (by omega), if_pos (by omega), if_pos (by omega), hrd, hor, show wrap64 ((j : Int) + 1) = ((j + 1 : Nat) : Int) by unfold wrap64; omega]
    rw [ih k (j + 1) _ (by omega) (by omega) (by have := Nat.or_lt_two_pow (n := 64) (x := a) (y := l[j].toNat) (by simpa using ha) (by simp; omega); simpa using this), List.drop_eq_getElem_cons hjl]
    rfl
theorem width_f (k : Nat) (l : List Int) (hl : U64 l) (hlen : l.length < 1099511627776) (hk : l.length + 2 < k) : bits_Width.f k l = some ((widthP l : Nat) : Int) :=
  width_l l hl hlen l.length k 0 0 (by omega) hk (by decide)
end Go.Proofs.Ytimjafjicnlhfaa.A
