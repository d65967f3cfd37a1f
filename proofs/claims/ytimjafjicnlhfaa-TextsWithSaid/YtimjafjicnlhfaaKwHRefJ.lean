/- The reference's bytes of bits, and its packed numbers: the same as the program's. Plain. -/
import Derived.Test.YtimjafjicnlhfaaKwAx0
import Derived.Test.YtimjafjicnlhfaaKwAx8
import Derived.Test.YtimjafjicnlhfaaKwHRefI
namespace Go.Proofs.Ytimjafjicnlhfaa.A
open Go.RowKit Go.Proofs.YtimjafjicnlhfaaW.PrintWords Go.Proofs.YtimjafjicnlhfaaW.PrintLast Go.Proofs.YtimjafjicnlhfaaW.PrintMore
set_option linter.unusedVariables false
set_option linter.unusedSimpArgs false
theorem packB_cons (bs : List Bool) (h : bs ≠ []) : packB bs = byteOf (bs.take 8) :: packB (bs.drop 8) := by
  rw [packB, dif_neg h]
theorem packB_true : ∀ (n : Nat) (xs zs : List Bool), xs.length ≤ n →
    packB (xs ++ true :: zs) = (packB (xs ++ false :: zs)).set (xs.length / 8) ((packB (xs ++ false :: zs)).getD (xs.length / 8) 0 + 2 ^ (xs.length % 8)) := by
  intro n
  induction n using Nat.strongRecOn with
  | ind n ih =>
    intro xs zs hn
    by_cases h8 : 8 ≤ xs.length
    · have e : xs = xs.take 8 ++ xs.drop 8 := (List.take_append_drop 8 xs).symm
      have ht : (xs.take 8).length = 8 := by rw [List.length_take]; omega
      have hd : (xs.drop 8).length = xs.length - 8 := List.length_drop
      have h1 := ih (n - 8) (by omega) (xs.drop 8) zs (by omega)
      have hq : xs.length / 8 = (xs.drop 8).length / 8 + 1 := by omega
      have hm : xs.length % 8 = (xs.drop 8).length % 8 := by omega
      rw [hq, hm]
      have e1 : ∀ b, packB (xs ++ b :: zs) = byteOf (xs.take 8) :: packB (xs.drop 8 ++ b :: zs) := fun b => by
        conv => lhs; rw [e, List.append_assoc]
        exact packB_chunk _ _ ht
      rw [e1, e1, h1]
      rfl
    · have hr : ∀ b, packB (xs ++ b :: zs) = (byteOf xs + 2 ^ xs.length * ((if b = true then 1 else 0) + 2 * byteOf (zs.take (7 - xs.length)))) :: packB (zs.drop (7 - xs.length)) := fun b => by
        rw [packB_cons _ (by simp)]
        have e1 : (xs ++ b :: zs).take 8 = xs ++ b :: zs.take (7 - xs.length) := by
          rw [List.take_append, List.take_of_length_le (by omega), show 8 - xs.length = (7 - xs.length) + 1 by omega, List.take_succ_cons]
        have e2 : (xs ++ b :: zs).drop 8 = zs.drop (7 - xs.length) := by
          rw [List.drop_append, List.drop_of_length_le (by omega), show 8 - xs.length = (7 - xs.length) + 1 by omega, List.drop_succ_cons]
          rfl
        rw [e1, e2, byteOf_append]
        rfl
      rw [hr, hr, Nat.div_eq_of_lt (by omega), Nat.mod_eq_of_lt (by omega)]
      simp only [List.set_cons_zero, List.getD_cons_zero, if_pos, if_neg Bool.false_ne_true]
      congr 1
      rw [Int.mul_add, Int.mul_add, Int.mul_one, Int.mul_zero]
      omega
theorem IsB.pack (bs : List Bool) : IsB (packB bs) := by
  rw [← bytes_packB bs]
  exact IsB.bytes _
theorem packB_none : ∀ (q n : Nat), n ≤ q → packB (List.replicate n false) = List.replicate ((n + 7) / 8) 0 := by
  intro q
  induction q using Nat.strongRecOn with
  | ind q ih =>
    intro n hn
    by_cases h0 : n = 0
    · subst h0; exact packB_nil
    · have hz : ∀ m, byteOf (List.replicate m false) = 0 := by
        intro m
        induction m with
        | zero => rfl
        | succ m ih => rw [List.replicate_succ, byteOf, ih]; rfl
      rw [packB_cons _ (by intro e; have := congrArg List.length e; rw [List.length_replicate] at this; exact h0 this), List.take_replicate, List.drop_replicate, hz, ih (n - 8) (by omega) (n - 8) (Nat.le_refl _)]
      rw [← List.replicate_succ]
      congr 1
      omega
theorem bytes3_l (bs : List Bool) (hl : bs.length ≤ 4398046511104) : ∀ (d k j : Nat), j + d = bs.length → d < k →
    tithebarnref03_Bytes.l0 k bs (packB (bs.take j ++ List.replicate (bs.length - j) false)) (j : Int) = some (strOfNums (packB bs)) := by
  intro d
  induction d with
  | zero =>
    intro k j hj hk
    obtain ⟨k, rfl⟩ : ∃ m, k = m + 1 := ⟨k - 1, by omega⟩
    have hjj : j = bs.length := by omega
    rw [tithebarnref03_Bytes.l0, if_neg (by omega), hjj, List.take_length, Nat.sub_self, List.replicate_zero, List.append_nil]
  | succ d ih =>
    intro k j hj hk
    obtain ⟨k, rfl⟩ : ∃ m, k = m + 1 := ⟨k - 1, by omega⟩
    have hjl : j < bs.length := by omega
    have e1 : wrap64 ((j : Int) + 1) = ((j + 1 : Nat) : Int) := by unfold wrap64; omega
    have hrd : rdOf false bs (j : Int) = bs[j] := by
      unfold rdOf
      rw [Int.toNat_natCast, List.getD, List.getElem?_eq_getElem hjl]
      rfl
    have hsp : bs.take j ++ List.replicate (bs.length - j) false = bs.take j ++ false :: List.replicate (bs.length - (j + 1)) false := by
      rw [show bs.length - j = (bs.length - (j + 1)) + 1 by omega, List.replicate_succ]
    have hnx : bs.take (j + 1) ++ List.replicate (bs.length - (j + 1)) false = bs.take j ++ bs[j] :: List.replicate (bs.length - (j + 1)) false := by
      rw [List.take_succ_eq_append_getElem hjl, List.append_assoc]
      rfl
    have ih1 := ih k (j + 1) (by omega) (by omega)
    rw [hnx] at ih1
    rw [tithebarnref03_Bytes.l0, if_pos (by omega), if_pos (by omega), hrd, e1, hsp]
    cases hb : bs[j] with
    | false =>
      rw [if_neg (by decide)]
      rw [hb] at ih1
      exact ih1
    | true =>
      rw [hb] at ih1
      have htl : (bs.take j).length = j := by rw [List.length_take]; omega
      have hd : Int.tdiv (j : Int) 8 = ((j / 8 : Nat) : Int) := by rw [Int.tdiv_eq_ediv_of_nonneg (by omega)]; omega
      have hm : Int.tmod (j : Int) 8 = ((j % 8 : Nat) : Int) := by rw [Int.tmod_eq_emod_of_nonneg (by omega)]; omega
      have hw : wrap64 ((j / 8 : Nat) : Int) = ((j / 8 : Nat) : Int) := by unfold wrap64; omega
      have hu : IntKind.u64.wrap ((j % 8 : Nat) : Int) = ((j % 8 : Nat) : Int) := IntWalk.u64_in _ (by omega)
      have hp := packB_true j (bs.take j) (List.replicate (bs.length - (j + 1)) false) (by omega)
      rw [htl] at hp
      have hlen : (packB (bs.take j ++ false :: List.replicate (bs.length - (j + 1)) false)).length = (bs.length + 7) / 8 := by
        rw [packB_length, List.length_append, htl, List.length_cons, List.length_replicate]
        congr 1
        omega
      have hs : shl .u8 1 ((j % 8 : Nat) : Int) = 2 ^ (j % 8) := by
        have h8 : j % 8 = 0 ∨ j % 8 = 1 ∨ j % 8 = 2 ∨ j % 8 = 3 ∨ j % 8 = 4 ∨ j % 8 = 5 ∨ j % 8 = 6 ∨ j % 8 = 7 := by omega
        rcases h8 with e | e | e | e | e | e | e | e <;> (rw [e]; rfl)
      have hB := IsB.pack (bs.take j ++ true :: List.replicate (bs.length - (j + 1)) false)
      rw [hp] at hB ih1
      generalize packB (bs.take j ++ false :: List.replicate (bs.length - (j + 1)) false) = out at *
      have hidx : j / 8 < out.length := by omega
      have hx := hB _ (List.mem_iff_getElem.2 ⟨j / 8, by rw [List.length_set]; exact hidx, List.getElem_set_self _⟩)
      have hrd2 : rd out ((j / 8 : Nat) : Int) = out.getD (j / 8) 0 := rfl
      rw [if_pos rfl, hd, hm, hw, hu, if_pos (by omega), if_pos (by omega), if_pos (by omega), hs, hrd2, Int.emod_eq_of_lt hx.1 hx.2, Int.toNat_natCast]
      exact ih1
theorem bytes3_f (k : Nat) (bs : List Bool) (hl : bs.length ≤ 4398046511104) (hk : bs.length < k) : tithebarnref03_Bytes.f k bs = some (strOfNums (packB bs)) := by
  have h1 : wrap64 ((bs.length : Int) + 7) = (bs.length : Int) + 7 := by unfold wrap64; omega
  have h2 : Int.tdiv ((bs.length : Int) + 7) 8 = (((bs.length + 7) / 8 : Nat) : Int) := by rw [Int.tdiv_eq_ediv_of_nonneg (by omega)]; omega
  have h3 : wrap64 (((bs.length + 7) / 8 : Nat) : Int) = (((bs.length + 7) / 8 : Nat) : Int) := by unfold wrap64; omega
  have h := bytes3_l bs hl bs.length k 0 (Nat.zero_add _) hk
  rw [List.take_zero, List.nil_append, Nat.sub_zero, packB_none _ _ (Nat.le_refl _)] at h
  unfold tithebarnref03_Bytes.f
  rw [h1, h2, h3, Int.toNat_natCast, if_pos (by omega), if_pos (by omega)]
  exact h
theorem pack3_l1 (l : List Int) (w : Nat) (hw : w ≤ 64) (i : Nat) (hi : i < l.length) (hil : l.length ≤ 1099511627776) (hx : 0 ≤ l[i]) : ∀ (d k j : Nat) (acc : List Bool), j + d = w → acc.length + d ≤ 4398046511104 →
    tithebarnref03_Pack.l1 (k + d + 1) l (w : Int) acc (i : Int) (j : Int) = tithebarnref03_Pack.l0 k l (w : Int) (acc ++ bitsI (l[i] / 2 ^ j) d) ((i + 1 : Nat) : Int) := by
  intro d
  induction d with
  | zero =>
    intro k j acc hj hacc
    have e1 : wrap64 ((i : Int) + 1) = ((i + 1 : Nat) : Int) := by unfold wrap64; omega
    rw [tithebarnref03_Pack.l1, if_neg (by omega), e1]
    show _ = tithebarnref03_Pack.l0 k l (w : Int) (acc ++ []) _
    rw [List.append_nil]
  | succ d ih =>
    intro k j acc hj hacc
    have e1 : wrap64 ((j : Int) + 1) = ((j + 1 : Nat) : Int) := by unfold wrap64; omega
    have hu : IntKind.u64.wrap (j : Int) = (j : Int) := IntWalk.u64_in _ (by omega)
    have hrd : rd l (i : Int) = l[i] := by
      unfold rd
      rw [Int.toNat_natCast, List.getD, List.getElem?_eq_getElem hi]
      rfl
    have hs : shr .u64 l[i] (j : Int) = l[i] / 2 ^ j := by
      unfold shr
      rw [Int.toNat_natCast, Nat.min_eq_left (show j ≤ IntKind.u64.bits by show j ≤ 64; omega)]
    have hp : (0 : Int) < 2 ^ j := Int.pow_pos (by omega)
    have hq : 0 ≤ l[i] / 2 ^ j := Int.ediv_nonneg hx (by omega)
    have ht : Int.tmod (l[i] / 2 ^ j) 2 = l[i] / 2 ^ j % 2 := Int.tmod_eq_emod_of_nonneg hq
    have hh : l[i] / 2 ^ j / 2 = l[i] / 2 ^ (j + 1) := by
      rw [Int.ediv_ediv_of_nonneg (by omega), Int.pow_succ]
    have hb : bitsI (l[i] / 2 ^ j) (d + 1) = (l[i] / 2 ^ j % 2 == 1) :: bitsI (l[i] / 2 ^ (j + 1)) d := by
      rw [bitsI, hh]
      rfl
    have h1 := ih k (j + 1) (acc ++ [(l[i] / 2 ^ j % 2 == 1)]) (by omega) (by rw [List.length_append, List.length_singleton]; omega)
    rw [List.append_assoc] at h1
    rw [show k + (d + 1) + 1 = (k + d + 1) + 1 by omega, tithebarnref03_Pack.l1, if_pos (by omega), if_pos (by omega), if_pos (by omega), hu, if_pos (by omega), if_pos (by omega), hrd, hs, ht, e1, hb]
    exact h1
theorem pack3_l (l : List Int) (w : Nat) (hw : w ≤ 64) (hl : ∀ x ∈ l, 0 ≤ x ∧ x < 2 ^ w) (hll : l.length ≤ 1099511627776) : ∀ (m k i : Nat) (acc : List Bool), i + m = l.length → acc.length + m * w ≤ 4398046511104 → acc.length + m * w + m * (w + 2) + 2 ≤ k →
    tithebarnref03_Pack.l0 k l (w : Int) acc (i : Int) = some (strOfNums (packB (acc ++ allBits w (l.drop i))), 0) := by
  intro m
  induction m with
  | zero =>
    intro k i acc hi hacc hk
    obtain ⟨k, rfl⟩ : ∃ m, k = m + 1 := ⟨k - 1, by omega⟩
    rw [tithebarnref03_Pack.l0, if_neg (by omega), bytes3_f k acc (by omega) (by omega), Option.bind_some, List.drop_of_length_le (by omega)]
    show _ = some (strOfNums (packB (acc ++ [])), (0 : Int))
    rw [List.append_nil]
  | succ m ih =>
    intro k i acc hi hacc hk
    rw [Nat.succ_mul] at hacc
    rw [Nat.succ_mul, Nat.succ_mul] at hk
    have hil : i < l.length := by omega
    obtain ⟨k2, rfl⟩ : ∃ n, k = (n + w + 1) + 1 := ⟨k - w - 2, by omega⟩
    have hx := hl l[i] (List.getElem_mem _)
    have hp64 : (2 : Int) ^ w ≤ 18446744073709551616 := by
      have := Nat.pow_le_pow_right (show 0 < 2 by decide) hw
      have h2 := Int.ofNat_le.2 this
      simpa using h2
    have hrd : rd l (i : Int) = l[i] := by
      unfold rd
      rw [Int.toNat_natCast, List.getD, List.getElem?_eq_getElem hil]
      rfl
    have hfit := fits3_f l[i] w hx.1 (Int.lt_of_lt_of_le hx.2 hp64) hw
    rw [decide_eq_true hx.2] at hfit
    have h1 := pack3_l1 l w hw i hil hll hx.1 w k2 0 acc (Nat.zero_add _) (by omega)
    have h2 := ih k2 (i + 1) (acc ++ bitsI (l[i] / 2 ^ 0) w) (by omega) (by rw [List.length_append, bitsI_length]; omega) (by rw [List.length_append, bitsI_length]; omega)
    rw [tithebarnref03_Pack.l0, if_pos (by omega), if_pos (by omega), hrd, hfit, Option.bind_some, if_pos (rfl : true = true)]
    refine h1.trans (h2.trans ?_)
    have e : allBits w (l.drop i) = bitsI l[i] w ++ allBits w (l.drop (i + 1)) := by
      rw [List.drop_eq_getElem_cons hil]
      rfl
    rw [e, List.append_assoc, Int.pow_zero, Int.ediv_one]
theorem pack3_f (k : Nat) (l : List Int) (w : Nat) (hw : w ≤ 64) (hl : ∀ x ∈ l, 0 ≤ x ∧ x < 2 ^ w) (hll : l.length ≤ 1048576) (hk : l.length * w + l.length * (w + 2) + 3 ≤ k) : tithebarnref03_Pack.f k l (w : Int) = some (strOfNums (packB (allBits w l)), 0) := by
  obtain ⟨k, rfl⟩ : ∃ m, k = m + 1 := ⟨k - 1, by omega⟩
  have hm : l.length * w ≤ 1048576 * 64 := Nat.mul_le_mul hll hw
  have h := pack3_l l w hw hl (by omega) l.length k 0 [] (Nat.zero_add _) (by simp; omega) (by simp; omega)
  unfold tithebarnref03_Pack.f
  rw [if_neg (by omega), decide_eq_false (by omega), tithebarnref03_Pack.j0, if_neg (by decide)]
  exact h
end Go.Proofs.Ytimjafjicnlhfaa.A
