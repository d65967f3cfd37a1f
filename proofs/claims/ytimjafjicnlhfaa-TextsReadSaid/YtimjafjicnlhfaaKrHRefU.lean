/- The reference's bits of bytes: the same as the program's. Plain. -/
import Derived.Test.YtimjafjicnlhfaaKrAx0
import Derived.Test.YtimjafjicnlhfaaKrAx11
import Derived.Test.YtimjafjicnlhfaaKrAx8
import Derived.Test.YtimjafjicnlhfaaKrHRefI
namespace Go.Proofs.Ytimjafjicnlhfaa.A
open Go.RowKit Go.Proofs.YtimjafjicnlhfaaW.PrintWords Go.Proofs.YtimjafjicnlhfaaW.PrintLast Go.Proofs.YtimjafjicnlhfaaW.PrintMore
set_option linter.unusedVariables false
set_option linter.unusedSimpArgs false
theorem bit3_f (s : ByteArray) (hs : Fit s) (p : Nat) (hp : p < 8 * s.size) : tithebarnref03_Bit.f s (p : Int) = some ((bitsS s.data.toList).getD p false) := by
  have hs2 : s.size ≤ 140737488351232 := hs
  have hd : Int.tdiv (p : Int) 8 = ((p / 8 : Nat) : Int) := by rw [Int.tdiv_eq_ediv_of_nonneg (by omega)]; omega
  have hm : Int.tmod (p : Int) 8 = ((p % 8 : Nat) : Int) := by rw [Int.tmod_eq_emod_of_nonneg (by omega)]; omega
  have hw : wrap64 ((p / 8 : Nat) : Int) = ((p / 8 : Nat) : Int) := by unfold wrap64; omega
  have hu : IntKind.u64.wrap ((p % 8 : Nat) : Int) = ((p % 8 : Nat) : Int) := IntWalk.u64_in _ (by omega)
  have hsh : shr .u8 (bt s ((p / 8 : Nat) : Int)) ((p % 8 : Nat) : Int) = bt s ((p / 8 : Nat) : Int) / 2 ^ (p % 8) := by
    unfold shr
    rw [Int.toNat_natCast, Nat.min_eq_left (show p % 8 ≤ IntKind.u8.bits by show p % 8 ≤ 8; omega)]
  have hb := bt_range s ((p / 8 : Nat) : Int)
  have hp0 : (0 : Int) < 2 ^ (p % 8) := Int.pow_pos (by omega)
  have hq : 0 ≤ bt s ((p / 8 : Nat) : Int) / 2 ^ (p % 8) := Int.ediv_nonneg hb.1 (by omega)
  have ht := Int.tmod_eq_emod_of_nonneg (b := 2) hq
  have hat := bitsS_at s.data.toList p 1 (by rw [size_len]; omega) (by omega)
  have hlen : p < (bitsS s.data.toList).length := by rw [bitsS_length, size_len]; exact hp
  rw [← bt_getD] at hat
  rw [List.drop_eq_getElem_cons hlen, List.take_succ_cons] at hat
  have hget : (bitsS s.data.toList)[p] = decide (bt s ((p / 8 : Nat) : Int) / 2 ^ (p % 8) % 2 = 1) := (List.cons.inj hat).1
  unfold tithebarnref03_Bit.f
  rw [hd, hm, hw, hu, hsh, ht, if_pos (by omega), if_pos (by omega), if_pos (by omega), List.getD, List.getElem?_eq_getElem hlen, hget]
  rfl
theorem byteOf_zero : ∀ z : List Bool, byteOf z = 0 ↔ z.any id = false
  | [] => by simp [byteOf]
  | b :: z => by
    have ih := byteOf_zero z
    have hr := byteOf_range z
    rw [byteOf, List.any_cons]
    cases b with
    | true => simp; omega
    | false =>
      simp only [id, Bool.false_or]
      rw [if_neg (by decide), ← ih]
      omega
theorem unbits_l (s : ByteArray) (hs : Fit s) (n : Nat) (hn : n ≤ 8 * s.size) (h8 : 8 * s.size < 8796093022208) : ∀ (d k j : Nat), j + d = 8 * s.size → 2 * d < k →
    tithebarnref03_unbits.l0 k s (n : Int) (s.size : Int) ((bitsS s.data.toList).take (min j n)) (j : Int) = some (if ((bitsS s.data.toList).drop (max j n)).any id = true then ([], 5) else ((bitsS s.data.toList).take n, 0)) := by
  have hlen : (bitsS s.data.toList).length = 8 * s.size := by rw [bitsS_length, size_len]
  have hw : wrap64 (8 * (s.size : Int)) = 8 * (s.size : Int) := by unfold wrap64; omega
  intro d
  induction d with
  | zero =>
    intro k j hj hk
    obtain ⟨k, rfl⟩ : ∃ m, k = m + 1 := ⟨k - 1, by omega⟩
    rw [tithebarnref03_unbits.l0, hw, if_neg (by omega), List.drop_of_length_le (by omega), Nat.min_eq_right (by omega)]
    rfl
  | succ d ih =>
    intro k j hj hk
    obtain ⟨k, rfl⟩ : ∃ m, k = m + 2 := ⟨k - 2, by omega⟩
    have hjl : j < (bitsS s.data.toList).length := by omega
    have e1 : wrap64 ((j : Int) + 1) = ((j + 1 : Nat) : Int) := by unfold wrap64; omega
    have ih1 := ih k (j + 1) (by omega) (by omega)
    have hgd : (bitsS s.data.toList).getD j false = (bitsS s.data.toList)[j] := by rw [List.getD, List.getElem?_eq_getElem hjl]; rfl
    rw [tithebarnref03_unbits.l0, hw, if_pos (by omega), bit3_f s hs j (by omega), Option.bind_some, hgd]
    by_cases hjn : j < n
    · rw [if_neg (by omega), tithebarnref03_unbits.j1, if_neg (by decide), if_pos (by omega), if_pos (by rw [List.length_take]; omega), e1]
      rw [Nat.min_eq_left (by omega), Nat.max_eq_right (by omega)] at ih1
      rw [Nat.min_eq_left (by omega), Nat.max_eq_right (by omega), ← List.take_succ_eq_append_getElem hjl]
      exact ih1
    · rw [Nat.min_eq_right (by omega), Nat.max_eq_left (by omega)] at ih1
      rw [if_pos (by omega), tithebarnref03_unbits.j1, Nat.min_eq_right (by omega), Nat.max_eq_left (by omega), List.drop_eq_getElem_cons hjl, List.any_cons]
      cases hb : (bitsS s.data.toList)[j] with
      | true => rw [if_pos rfl]; rfl
      | false =>
        rw [if_neg (by decide), if_neg (by omega), e1]
        exact ih1
theorem unbits_f (k : Nat) (s : ByteArray) (hs : Fit s) (n : Nat) (hn : n ≤ 4194304) (hk : 2 * n + 16 < k) :
    tithebarnref03_unbits.f k s (n : Int) = some (if fitsP s n = 0 then ((bitsS s.data.toList).take n, 0) else ([], fitsP s n)) := by
  have h7 : wrap64 ((n : Int) + 7) = (n : Int) + 7 := by unfold wrap64; omega
  have hd : Int.tdiv ((n : Int) + 7) 8 = (((n + 7) / 8 : Nat) : Int) := by rw [Int.tdiv_eq_ediv_of_nonneg (by omega)]; omega
  have hw : wrap64 (((n + 7) / 8 : Nat) : Int) = (((n + 7) / 8 : Nat) : Int) := by unfold wrap64; omega
  unfold tithebarnref03_unbits.f fitsP
  rw [h7, hd, hw]
  by_cases h1 : s.size < (n + 7) / 8
  · rw [if_pos (by omega), if_pos h1]; rfl
  rw [if_neg (by omega), if_neg h1]
  by_cases h2 : (n + 7) / 8 < s.size
  · rw [if_pos (by omega), if_pos h2]; rfl
  rw [if_neg (by omega), if_neg h2]
  have hsz : s.size = (n + 7) / 8 := by omega
  have hl := unbits_l s hs n (by omega) (by omega) (8 * s.size) k 0 (Nat.zero_add _) (by omega)
  rw [Nat.min_eq_left (by omega), Nat.max_eq_right (by omega), List.take_zero] at hl
  rw [← hsz]
  refine hl.trans ?_
  congr 1
  by_cases h3 : n % 8 = 0
  · have hnil : (bitsS s.data.toList).drop n = [] := List.drop_of_length_le (by rw [bitsS_length, size_len]; omega)
    rw [if_pos h3, if_pos rfl, hnil]
    rfl
  · have hdl := drop_last s n hsz h3
    rw [← hsz] at hdl
    have hz := byteOf_zero ((bitsS s.data.toList).drop n)
    rw [if_neg h3]
    have hbr := bt_range s ((s.size - 1 : Nat) : Int)
    by_cases h4 : bt s ((s.size - 1 : Nat) : Int) / 2 ^ (n % 8) = 0
    · have hb0 : byteOf ((bitsS s.data.toList).drop n) = 0 := by rw [hdl, h4, byteOf_bitsI]; rfl
      rw [if_pos h4, if_pos rfl, hz.1 hb0]
      rfl
    · have hb0 : ¬ byteOf ((bitsS s.data.toList).drop n) = 0 := by
        rw [hdl, byteOf_bitsI]
        generalize bt s ((s.size - 1 : Nat) : Int) = x at *
        have h8 : n % 8 = 1 ∨ n % 8 = 2 ∨ n % 8 = 3 ∨ n % 8 = 4 ∨ n % 8 = 5 ∨ n % 8 = 6 ∨ n % 8 = 7 := by omega
        rcases h8 with e | e | e | e | e | e | e <;> (rw [e] at h4 ⊢; simp at h4 ⊢; omega)
      have hany : ((bitsS s.data.toList).drop n).any id = true := by
        cases ha : ((bitsS s.data.toList).drop n).any id with
        | true => rfl
        | false => exact absurd (hz.2 ha) hb0
      rw [if_neg h4, if_pos hany, if_neg (show ¬ (5 : Int) = 0 by decide)]
end Go.Proofs.Ytimjafjicnlhfaa.A
