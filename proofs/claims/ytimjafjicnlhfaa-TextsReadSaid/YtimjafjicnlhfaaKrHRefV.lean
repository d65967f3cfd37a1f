/- The reference's Unpack: the same as the program's. Plain. -/
import Derived.Test.YtimjafjicnlhfaaKrAx0
import Derived.Test.YtimjafjicnlhfaaKrAx12
import Derived.Test.YtimjafjicnlhfaaKrHRefU
namespace Go.Proofs.Ytimjafjicnlhfaa.A
open Go.RowKit Go.Proofs.YtimjafjicnlhfaaW.PrintWords Go.Proofs.YtimjafjicnlhfaaW.PrintLast Go.Proofs.YtimjafjicnlhfaaW.PrintMore
set_option linter.unusedVariables false
set_option linter.unusedSimpArgs false
theorem wr_two (m j : Nat) (h : m ≤ 4194304) (hj : j ≤ 64) : wrap64 (wrap64 (m : Int) + (j : Int)) = ((m + j : Nat) : Int) := by unfold wrap64; omega
theorem wr_one (j : Nat) (hj : j ≤ 4194304) : wrap64 ((j : Int) + 1) = ((j + 1 : Nat) : Int) := by unfold wrap64; omega
theorem u64_small (j : Nat) (hj : j ≤ 64) : IntKind.u64.wrap (j : Int) = (j : Int) := IntWalk.u64_in _ (by omega)
theorem shl_small64 (j : Nat) (hj : j ≤ 64) (hpj : (2 : Int) ^ j < 18446744073709551616) : shl .u64 1 (j : Int) = 2 ^ j := by
  have hpj0 : (0 : Int) < 2 ^ j := Int.pow_pos (by decide)
  unfold shl
  rw [Int.toNat_natCast, Nat.min_eq_left (show j ≤ IntKind.u64.bits from hj), Int.one_mul]
  exact IntWalk.u64_in _ ⟨Int.le_of_lt hpj0, Int.le_sub_one_of_lt hpj⟩
theorem pow_u64 (j : Nat) (hj : j ≤ 64) : (2 : Int) ^ j ≤ 18446744073709551616 := by
  have := Nat.pow_le_pow_right (show 0 < 2 by decide) hj
  have h2 := Int.ofNat_le.2 this
  simpa using h2
theorem unpack3_l1 (B : List Bool) (n w : Nat) (hw : w ≤ 64) (hn : n ≤ 65536) (hB : B.length = n * w) (i : Nat) (hi : i < n) (acc : List Int) (hacc : acc.length = i) : ∀ (d k j : Nat), j + d = w →
    tithebarnref03_Unpack.l1 (k + d + 1) (n : Int) (w : Int) B acc (i : Int) (byteOf ((B.drop (i * w)).take j)) (j : Int) = tithebarnref03_Unpack.l0 k (n : Int) (w : Int) B (acc ++ [byteOf ((B.drop (i * w)).take w)]) ((i + 1 : Nat) : Int) := by
  have hiw : i * w + w ≤ n * w := by rw [← Nat.succ_mul]; exact Nat.mul_le_mul_right w hi
  have hnw : n * w ≤ 4194304 := Nat.mul_le_mul hn hw
  have e9 : wrap64 ((i : Int) + 1) = ((i + 1 : Nat) : Int) := wr_one i (Nat.le_trans (Nat.le_of_lt hi) (Nat.le_trans hn (by decide)))
  have hal : acc.length < 17592186044416 := by rw [hacc]; clear hiw hnw hB hacc; omega
  intro d
  induction d with
  | zero =>
    intro k j hj
    have e1 := e9
    have hjw : j = w := by omega
    rw [tithebarnref03_Unpack.l1, if_neg (by clear hiw hnw hB; omega), if_pos hal, e1, hjw]
  | succ d ih =>
    intro k j hj
    have hjlt : j < w := hj ▸ Nat.lt_add_of_pos_right (Nat.succ_pos d)
    have hj64' : j ≤ 64 := Nat.le_trans (Nat.le_of_lt hjlt) hw
    have e1 : wrap64 ((j : Int) + 1) = ((j + 1 : Nat) : Int) := wr_one j (Nat.le_trans hj64' (by decide))
    have e0 : (i : Int) * (w : Int) = ((i * w : Nat) : Int) := (Int.natCast_mul i w).symm
    have e2 : wrap64 (wrap64 ((i : Int) * (w : Int)) + (j : Int)) = ((i * w + j : Nat) : Int) := by rw [e0]; exact wr_two (i * w) j (Nat.le_trans (Nat.le_add_right _ _) (Nat.le_trans hiw hnw)) hj64'
    have hu : IntKind.u64.wrap (j : Int) = (j : Int) := u64_small j hj64'
    have hp : i * w + j < B.length := by rw [hB]; exact Nat.lt_of_lt_of_le (Nat.add_lt_add_left hjlt _) hiw
    have hp1 : (0 : Int) ≤ ((i * w + j : Nat) : Int) := Int.natCast_nonneg _
    have hp2 : ((i * w + j : Nat) : Int) < (B.length : Int) := Int.ofNat_lt.2 hp
    have hjw2 : (j : Int) < (w : Int) := Int.ofNat_lt.2 hjlt
    have hj0 : (0 : Int) ≤ (j : Int) := Int.natCast_nonneg _
    have hj64 : j + 1 ≤ 64 := Nat.le_trans hjlt hw
    have hrd : rdOf false B ((i * w + j : Nat) : Int) = B[i * w + j] := by
      unfold rdOf
      rw [Int.toNat_natCast, List.getD, List.getElem?_eq_getElem hp]
      rfl
    have hdl : j < (B.drop (i * w)).length := by rw [List.length_drop]; exact Nat.lt_sub_of_add_lt (by rw [Nat.add_comm]; exact hp)
    have hlj : ((B.drop (i * w)).take j).length = j := by rw [List.length_take]; exact Nat.min_eq_left (Nat.le_of_lt hdl)
    have hnx : byteOf ((B.drop (i * w)).take (j + 1)) = byteOf ((B.drop (i * w)).take j) + 2 ^ j * (if B[i * w + j] = true then 1 else 0) := by
      rw [List.take_succ_eq_append_getElem hdl, byteOf_append, hlj, List.getElem_drop]
      show _ + 2 ^ j * ((if B[i * w + j] = true then 1 else 0) + 2 * 0) = _
      rw [Int.mul_zero, Int.add_zero]
    have hr1 := byteOf_range ((B.drop (i * w)).take (j + 1))
    rw [List.length_take, Nat.min_eq_left (show j + 1 ≤ (B.drop (i * w)).length from hdl)] at hr1
    have hp64 : (2 : Int) ^ (j + 1) ≤ 18446744073709551616 := pow_u64 (j + 1) hj64
    have ih1 := ih k (j + 1) (by omega)
    rw [show k + (d + 1) + 1 = (k + d + 1) + 1 by omega, tithebarnref03_Unpack.l1, if_pos hjw2, e2, if_pos hp1, if_pos hp2, hrd, hu, e1]
    cases hb : B[i * w + j] with
    | false =>
      rw [hb, if_neg (by decide), Int.mul_zero, Int.add_zero] at hnx
      rw [if_neg (by decide), ← hnx]
      exact ih1
    | true =>
      rw [hb, if_pos rfl, Int.mul_one] at hnx
      have hpj : (2 : Int) ^ j < 18446744073709551616 := by
        have h0 := pow_u64 (j + 1) hj64
        rw [Int.pow_succ] at h0
        have h1 : (0 : Int) < 2 ^ j := Int.pow_pos (by decide)
        clear ih hiw hB hr1 hnx
        omega
      have hpj0 : (0 : Int) < 2 ^ j := Int.pow_pos (by omega)
      have hs : shl .u64 1 (j : Int) = 2 ^ j := shl_small64 j hj64' hpj
      have hx : IntKind.u64.wrap (byteOf ((B.drop (i * w)).take j) + 2 ^ j) = byteOf ((B.drop (i * w)).take (j + 1)) := by
        rw [← hnx]
        exact IntWalk.u64_in _ ⟨hr1.1, Int.le_sub_one_of_lt (Int.lt_of_lt_of_le hr1.2 hp64)⟩
      rw [if_pos rfl, if_pos hj0, hs, hx]
      exact ih1
theorem unpack3_l (B : List Bool) (n w : Nat) (hw : w ≤ 64) (hn : n ≤ 65536) (hB : B.length = n * w) : ∀ (d k i : Nat), i + d = n → d * (w + 2) + 1 ≤ k →
    tithebarnref03_Unpack.l0 k (n : Int) (w : Int) B ((List.range i).map (fun i => byteOf ((B.drop (i * w)).take w))) (i : Int) = some ((List.range n).map (fun i => byteOf ((B.drop (i * w)).take w)), 0) := by
  intro d
  induction d with
  | zero =>
    intro k i hi hk
    obtain ⟨k, rfl⟩ : ∃ m, k = m + 1 := ⟨k - 1, by omega⟩
    rw [tithebarnref03_Unpack.l0, if_neg (by omega), show i = n by omega]
  | succ d ih =>
    intro k i hi hk
    rw [Nat.succ_mul] at hk
    obtain ⟨k2, rfl⟩ : ∃ m, k = (m + w + 1) + 1 := ⟨k - w - 2, by omega⟩
    have h1 := unpack3_l1 B n w hw hn hB i (by omega) ((List.range i).map (fun i => byteOf ((B.drop (i * w)).take w))) (by simp) w k2 0 (Nat.zero_add _)
    have h2 := ih k2 (i + 1) (by omega) (by omega)
    rw [tithebarnref03_Unpack.l0, if_pos (by omega)]
    refine h1.trans ?_
    rw [List.range_succ, List.map_append] at h2
    exact h2
theorem unpack3_f (k : Nat) (s : ByteArray) (hs : Fit s) (n w : Nat) (hn : n ≤ 65536) (hw : w ≤ 64) (hk : 2 * (n * w) + n * (w + 2) + 20 < k) : tithebarnref03_Unpack.f k s (n : Int) (w : Int) = some (unpackP s n w) := by
  obtain ⟨k, rfl⟩ : ∃ m, k = m + 1 := ⟨k - 1, by omega⟩
  have hnw : n * w ≤ 4194304 := Nat.mul_le_mul hn hw
  have e0 : wrap64 ((n : Int) * (w : Int)) = ((n * w : Nat) : Int) := by rw [← Int.natCast_mul]; unfold wrap64; omega
  unfold tithebarnref03_Unpack.f unpackP
  rw [if_neg (by omega), if_neg (by omega), if_neg (by omega), decide_eq_false (by omega), tithebarnref03_Unpack.j0, if_neg (by decide), e0, unbits_f k s hs (n * w) (by omega) (by omega), Option.bind_some]
  by_cases h : fitsP s (n * w) = 0
  · rw [if_pos h, if_pos h, if_pos rfl]
    have hf := fitsP_only s n w h
    have hB : ((bitsS s.data.toList).take (n * w)).length = n * w := by rw [List.length_take, bitsS_length, size_len]; omega
    have hl := unpack3_l _ n w hw hn hB n k 0 (Nat.zero_add _) (by omega)
    refine hl.trans ?_
    congr 2
    unfold getAll
    apply List.map_congr_left
    intro i hi
    rw [List.mem_range] at hi
    have hiw : i * w + w ≤ n * w := by rw [← Nat.succ_mul]; exact Nat.mul_le_mul_right w hi
    unfold getI
    rw [List.drop_take, List.take_take, Nat.min_eq_left (by omega)]
  · rw [if_neg h, if_neg h, if_neg h]
end Go.Proofs.Ytimjafjicnlhfaa.A
