/- What the reference's functions come to that stand round its bytes of texts: where a text stands, which of two is ahead, how many bits numbers need. Plain. -/
import Derived.Test.YtimjafjicnlhfaaKrAx0
import Derived.Test.YtimjafjicnlhfaaKrAx7
import Derived.Test.YtimjafjicnlhfaaKrAx8
import Derived.Test.YtimjafjicnlhfaaKrHRound
namespace Go.Proofs.Ytimjafjicnlhfaa.A
open Go.RowKit Go.Proofs.YtimjafjicnlhfaaW.PrintWords Go.Proofs.YtimjafjicnlhfaaW.PrintLast Go.Proofs.YtimjafjicnlhfaaW.PrintMore
set_option linter.unusedVariables false
set_option linter.unusedSimpArgs false
theorem bt_at (s : ByteArray) (j : Nat) (h : j < s.data.toList.length) : bt s (j : Int) = ((s.data.toList[j]).toNat : Int) := by
  rw [bt_getD, List.getD, List.getElem?_eq_getElem h]
  rfl
theorem ahead_l (a b : ByteArray) (ha : Fit a) : ∀ (d k j : Nat), j + d = a.size → 2 * d + 1 < k → j ≤ b.size →
    tithebarnref02_ahead.l0 k a b (j : Int) = some (decide (a.data.toList.drop j < b.data.toList.drop j)) := by
  intro d
  induction d with
  | zero =>
    intro k j hj hk hb
    obtain ⟨k, rfl⟩ : ∃ m, k = m + 2 := ⟨k - 2, by omega⟩
    rw [tithebarnref02_ahead.l0, if_neg (by omega), tithebarnref02_ahead.j1, if_neg (by decide)]
    congr 1
    rw [List.drop_of_length_le (by rw [size_len]; omega)]
    by_cases h : a.size < b.size
    · obtain ⟨x, t, hx⟩ : ∃ x t, b.data.toList.drop j = x :: t := by
        cases hd : b.data.toList.drop j with
        | nil => have := congrArg List.length hd; rw [List.length_drop, size_len] at this; simp at this; omega
        | cons x t => exact ⟨x, t, rfl⟩
      rw [hx, decide_eq_true (by omega), decide_eq_true (List.nil_lt_cons x t)]
    · rw [List.drop_of_length_le (by rw [size_len]; omega), decide_eq_false (by omega), decide_eq_false (List.lt_irrefl _)]
  | succ d ih =>
    intro k j hj hk hb
    obtain ⟨k, rfl⟩ : ∃ m, k = m + 2 := ⟨k - 2, by omega⟩
    have ha2 : a.size ≤ 140737488351232 := ha
    have hja : j < a.data.toList.length := by rw [size_len]; omega
    rw [tithebarnref02_ahead.l0, if_pos (by omega), tithebarnref02_ahead.j1]
    by_cases h : j < b.size
    · have hjb : j < b.data.toList.length := by rw [size_len]; omega
      have e1 : wrap64 ((j : Int) + 1) = ((j + 1 : Nat) : Int) := by unfold wrap64; omega
      rw [decide_eq_true (show (j : Int) < (b.size : Int) by omega), if_pos rfl, if_pos (by omega), if_pos (by omega), if_pos (by omega), bt_at a j hja, bt_at b j hjb, e1,
        List.drop_eq_getElem_cons hja, List.drop_eq_getElem_cons hjb]
      by_cases he : ((a.data.toList[j]).toNat : Int) = ((b.data.toList[j]).toNat : Int)
      · have he2 : a.data.toList[j] = b.data.toList[j] := UInt8.toNat_inj.1 (Int.ofNat_inj.1 he)
        rw [if_pos he, ih k (j + 1) (by omega) (by omega) (by omega)]
        congr 1
        rw [decide_eq_decide, List.cons_lt_cons_iff]
        exact ⟨fun h => .inr ⟨he2, h⟩, fun h => h.elim (fun h => absurd h (by rw [he2]; exact UInt8.lt_irrefl _)) (fun h => h.2)⟩
      · rw [if_neg he]
        congr 1
        rw [decide_eq_decide, List.cons_lt_cons_iff, UInt8.lt_iff_toNat_lt]
        constructor
        · intro h; exact .inl (by omega)
        · rintro (h | ⟨h, _⟩)
          · omega
          · exact absurd (by rw [h]) he
    · rw [decide_eq_false (by omega), if_neg (by decide), List.drop_eq_getElem_cons hja, List.drop_of_length_le (show b.data.toList.length ≤ j by rw [size_len]; omega), decide_eq_false (by omega), decide_eq_false (List.not_lt_nil _)]
theorem ahead_f (k : Nat) (a b : ByteArray) (ha : Fit a) (hk : 2 * a.size + 2 < k) : tithebarnref05_ahead.f k a b = some (decide (a.data.toList < b.data.toList)) := by
  obtain ⟨k, rfl⟩ : ∃ m, k = m + 1 := ⟨k - 1, by omega⟩
  unfold tithebarnref05_ahead.f tithebarnref02_Ahead.f
  rw [if_neg (by decide), tithebarnref02_Ahead.j0, if_neg (by decide), if_pos rfl]
  unfold tithebarnref02_ahead.f
  have := ahead_l a b ha a.size k 0 (Nat.zero_add _) (by omega) (Nat.zero_le _)
  rw [List.drop_zero, List.drop_zero] at this
  rw [show (0 : Int) = ((0 : Nat) : Int) from rfl, this]
  rfl
theorem fits3_f (n : Int) (w : Nat) (h0 : 0 ≤ n) (h1 : n < 18446744073709551616) (hw : w ≤ 64) : tithebarnref03_fits.f n (w : Int) = some (decide (n < 2 ^ w)) := by
  unfold tithebarnref03_fits.f
  by_cases h : w = 64
  · subst h
    rw [if_pos (by decide), decide_eq_true (show n < 2 ^ 64 from h1)]
  · have hu : IntKind.u64.wrap (w : Int) = (w : Int) := IntWalk.u64_in _ (by omega)
    have hp : (2 : Int) ^ w ≤ 2 ^ 63 := by
      have := Nat.pow_le_pow_right (show 0 < 2 by decide) (show w ≤ 63 by omega)
      have h2 := Int.ofNat_le.2 this
      simpa using h2
    have hp0 : (0 : Int) < 2 ^ w := Int.pow_pos (by omega)
    have hs : shl .u64 1 (w : Int) = 2 ^ w := by
      unfold shl
      rw [Int.toNat_natCast, Nat.min_eq_left (show w ≤ IntKind.u64.bits by show w ≤ 64; omega), Int.one_mul]
      exact IntWalk.u64_in _ (by omega)
    rw [if_neg (by omega), hu, if_pos (by omega), hs]
theorem widthP_take_le (l : List Int) (i j : Nat) (h : i ≤ j) : widthP (l.take i) ≤ widthP (l.take j) := by
  rw [widthP_le]
  intro x hx
  refine (widthP_le _ _).1 (Nat.le_refl _) x ?_
  have : l.take i = (l.take j).take i := by rw [List.take_take, Nat.min_eq_left h]
  rw [this] at hx
  exact List.mem_of_mem_take hx
theorem width3_l (l : List Int) (hl : U64 l) (hlen : l.length ≤ 1099511627776) : ∀ k : Nat,
    (∀ j w : Nat, j ≤ l.length → w = widthP (l.take j) → w ≤ 64 → 2 * (l.length - j) + (64 - w) + 1 < k → tithebarnref03_Width.l0 k l (w : Int) (j : Int) = some ((widthP l : Nat) : Int)) ∧
    (∀ j w : Nat, j < l.length → widthP (l.take j) ≤ w → w ≤ widthP (l.take (j + 1)) → w ≤ 64 → 2 * (l.length - j) + (64 - w) < k → tithebarnref03_Width.l1 k l (w : Int) (j : Int) = some ((widthP l : Nat) : Int)) := by
  intro k
  induction k with
  | zero => exact ⟨fun j w _ _ _ h => absurd h (Nat.not_lt_zero _), fun j w _ _ _ _ h => absurd h (Nat.not_lt_zero _)⟩
  | succ k ih =>
    refine ⟨fun j w hj hw h64 hk => ?_, fun j w hj h1 h2 h64 hk => ?_⟩
    · rw [tithebarnref03_Width.l0]
      by_cases h : j < l.length
      · rw [if_pos (by omega)]
        exact ih.2 j w h (by omega) (by rw [hw]; exact widthP_take_le l j (j + 1) (by omega)) h64 (by omega)
      · rw [if_neg (by omega), hw, List.take_of_length_le (by omega)]
    · have m1 : 2 * (l.length - (j + 1)) + (64 - w) + 1 < k := by omega
      have m2 : w < 64 → 2 * (l.length - j) + (64 - (w + 1)) < k := by omega
      have hx := hl l[j] (List.getElem_mem _)
      have hrd : rd l (j : Int) = l[j] := by
        unfold rd
        rw [Int.toNat_natCast, List.getD, List.getElem?_eq_getElem hj]
        rfl
      have c1 : (0 : Int) ≤ (j : Int) := Int.natCast_nonneg j
      have c2 : (j : Int) < (l.length : Int) := Int.ofNat_lt.2 hj
      have hfit := fits3_f l[j] w hx.1 hx.2 h64
      have e1 : wrap64 ((j : Int) + 1) = ((j + 1 : Nat) : Int) := by unfold wrap64; omega
      have e2 : wrap64 ((w : Int) + 1) = ((w + 1 : Nat) : Int) := by unfold wrap64; omega
      have hmem : l[j] ∈ l.take (j + 1) := by rw [List.take_succ_eq_append_getElem hj]; exact List.mem_append.2 (.inr (List.mem_singleton.2 rfl))
      have hnat : (l[j] < 2 ^ w) ↔ l[j].toNat < 2 ^ w := by
        have : ((2 ^ w : Nat) : Int) = (2 : Int) ^ w := by simp
        omega
      rw [tithebarnref03_Width.l1, if_pos c1, if_pos c2, hrd, hfit, Option.bind_some, e1, e2]
      by_cases hf : l[j] < 2 ^ w
      · rw [decide_eq_true hf, if_pos (rfl : true = true)]
        refine ih.1 (j + 1) w hj ?_ h64 m1
        refine Nat.le_antisymm h2 ((widthP_le _ _).2 fun x hx2 => ?_)
        rw [List.take_succ_eq_append_getElem hj, List.mem_append, List.mem_singleton] at hx2
        rcases hx2 with hx2 | rfl
        · exact (widthP_le _ _).1 h1 x hx2
        · exact hnat.1 hf
      · rw [decide_eq_false hf, if_neg (by decide)]
        have hlt : w < widthP (l.take (j + 1)) := by
          refine Decidable.byContradiction fun hn => hf (hnat.2 ?_)
          exact (widthP_le _ _).1 (Nat.le_of_not_lt hn) l[j] hmem
        have hle : widthP (l.take (j + 1)) ≤ 64 := (widthP_le _ _).2 fun x hx2 => by
          have := hl x (List.mem_of_mem_take hx2)
          show x.toNat < 18446744073709551616
          omega
        exact ih.2 j (w + 1) hj (Nat.le_succ_of_le h1) hlt (Nat.lt_of_lt_of_le hlt hle) (m2 (Nat.lt_of_lt_of_le hlt hle))
theorem width3_f (k : Nat) (l : List Int) (hl : U64 l) (hlen : l.length ≤ 1099511627776) (hk : 2 * l.length + 65 < k) : tithebarnref03_Width.f k l = some ((widthP l : Nat) : Int) :=
  (width3_l l hl hlen k).1 0 0 (Nat.zero_le _) rfl (by decide) (by omega)
end Go.Proofs.Ytimjafjicnlhfaa.A
