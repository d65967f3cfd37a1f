/- What texts.numbers computes: plain. · What texts.numbers computes: plain, the last part. -/
import Derived.Test.YtimjafjicnlhfaaKrAx0
import Derived.Test.YtimjafjicnlhfaaKrAx5
import Derived.Test.YtimjafjicnlhfaaKrHCur
namespace Go.Proofs.Ytimjafjicnlhfaa.A
open Go.RowKit Go.Proofs.YtimjafjicnlhfaaW.PrintWords Go.Proofs.YtimjafjicnlhfaaW.PrintLast Go.Proofs.YtimjafjicnlhfaaW.PrintMore
set_option linter.unusedVariables false
set_option linter.unusedSimpArgs false
theorem ba_ext {s t : ByteArray} (h : s.data.toList = t.data.toList) : s = t := by
  cases s; cases t
  congr 1
  exact Array.toList_inj.1 h
theorem ext_list (s : ByteArray) (a b : Nat) : (s.extract a b).data.toList = (s.data.toList.take b).drop a := by
  rw [ByteArray.data_extract, Array.toList_extract, List.extract_eq_drop_take', List.drop_take]
theorem size_len (s : ByteArray) : s.data.toList.length = s.size := rfl
def fitsP (s : ByteArray) (m : Nat) : Int :=
  if s.size < (m + 7) / 8 then 2 else if (m + 7) / 8 < s.size then 3 else if m % 8 = 0 then 0 else if bt s ((m + 7) / 8 - 1 : Nat) / 2 ^ (m % 8) = 0 then 0 else 5
theorem fits_f (s : ByteArray) (m : Nat) (hm : m ≤ 4194304) : bits_fits.f s (m : Int) = some (fitsP s m) := by
  have h7 : wrap64 ((m : Int) + 7) = (m : Int) + 7 := by unfold wrap64; omega
  have hd : Int.tdiv ((m : Int) + 7) 8 = ((m : Int) + 7) / 8 := Int.tdiv_eq_ediv_of_nonneg (by omega)
  have hw : wrap64 (((m : Int) + 7) / 8) = ((m : Int) + 7) / 8 := by unfold wrap64; omega
  have hc : ((m : Int) + 7) / 8 = (((m + 7) / 8 : Nat) : Int) := by omega
  have hr : Int.tmod (m : Int) 8 = ((m % 8 : Nat) : Int) := by rw [Int.tmod_eq_emod_of_nonneg (by omega)]; omega
  unfold bits_fits.f fitsP
  rw [h7, hd, hw, hc, hr]
  by_cases h1 : s.size < (m + 7) / 8
  · rw [if_pos (by omega), if_pos h1]
  · rw [if_neg (by omega), if_neg h1]
    by_cases h2 : (m + 7) / 8 < s.size
    · rw [if_pos (by omega), if_pos h2]
    · rw [if_neg (by omega), if_neg h2]
      by_cases h3 : m % 8 = 0
      · rw [if_pos (by omega), if_pos h3]
      · have hwk : wrap64 ((((m + 7) / 8 : Nat) : Int) - 1) = (((m + 7) / 8 - 1 : Nat) : Int) := by unfold wrap64; omega
        rw [if_neg (by omega), if_neg h3, hwk, if_pos (by omega), if_pos (by omega), if_pos (by omega)]
        have hs : shr .u8 (bt s (((m + 7) / 8 - 1 : Nat) : Int)) ((m % 8 : Nat) : Int) = bt s (((m + 7) / 8 - 1 : Nat) : Int) / 2 ^ (m % 8) := by
          unfold shr
          rw [Int.toNat_natCast, Nat.min_eq_left (show m % 8 ≤ IntKind.u8.bits by show m % 8 ≤ 8; omega)]
        rw [hs]
        by_cases h4 : bt s (((m + 7) / 8 - 1 : Nat) : Int) / 2 ^ (m % 8) = 0
        · rw [if_pos h4, if_pos h4]
        · rw [if_neg h4, if_neg h4]
def unpackP (s : ByteArray) (n w : Nat) : List Int × Int := if fitsP s (n * w) = 0 then (getAll s w n, 0) else ([], fitsP s (n * w))
theorem unpack_f (s : ByteArray) (n w : Nat) (hn : n ≤ 65536) (hw : w ≤ 64) : bits_Unpack.f s (n : Int) (w : Int) = some (unpackP s n w) := by
  have hmul : n * w ≤ 4194304 := Nat.le_trans (Nat.mul_le_mul hn hw) (by decide)
  unfold bits_Unpack.f unpackP
  rw [if_neg (by omega), ← Int.natCast_mul, fits_f s (n * w) hmul]
  simp only [Option.bind_some, Int.toNat_natCast]
  by_cases h : fitsP s (n * w) = 0
  · rw [if_pos h, if_pos h]
  · rw [if_neg h, if_neg h]
def needP (n w : Nat) : Nat := (n * w + 7) / 8
def numP (n : Nat) (c : Cur) : (List Int × Int × Int) × Cur :=
  if (byteP c).2.2 = 0 then
    if (byteP c).1 > 64 then (([], 0, 4), (byteP c).2) else
    if (byteP c).2.1.size < needP n (byteP c).1.toNat then (([], 0, 2), (byteP c).2) else
    (((unpackP ((byteP c).2.1.extract 0 (needP n (byteP c).1.toNat)) n (byteP c).1.toNat).1, (byteP c).1, (unpackP ((byteP c).2.1.extract 0 (needP n (byteP c).1.toNat)) n (byteP c).1.toNat).2), ((byteP c).2.1.extract (needP n (byteP c).1.toNat) (byteP c).2.1.size, 0))
  else (([], 0, (byteP c).2.2), (byteP c).2)
theorem byteP_range (c : Cur) : 0 ≤ (byteP c).1 ∧ (byteP c).1 ≤ 255 := by
  unfold byteP
  have := bt_range c.1 0
  repeat' split
  all_goals simp <;> omega
theorem ext_ext_one (r : ByteArray) (j : Nat) (hj : j < r.size) : (r.extract j r.size).extract 1 (r.extract j r.size).size = r.extract (j + 1) r.size := by
  apply ba_ext
  rw [ext_list, ext_list, ext_list, ByteArray.size_extract]
  rw [← size_len r, List.take_length]
  have : (min r.data.toList.length r.data.toList.length - j) = (r.data.toList.drop j).length := by rw [List.length_drop]; omega
  rw [this, List.take_length, List.drop_drop]
theorem bt_getD (s : ByteArray) (k : Nat) : bt s (k : Int) = ((s.data.toList.getD k 0).toNat : Int) := by
  by_cases h : k < s.size
  · rw [← bt_at s (k : Int) h, List.getD_eq_getElem?_getD, Array.getElem?_toList, Array.getElem?_eq_getElem h]
    rfl
  · unfold bt
    rw [dif_neg (show ¬ (k : Int).toNat < s.size from h), List.getD_eq_getElem?_getD, List.getElem?_eq_none (Nat.le_of_not_lt h)]
    rfl
theorem bt_ext (r : ByteArray) (j : Nat) (hj : j < r.size) : bt (r.extract j r.size) 0 = ((r.data.toList.getD j 0).toNat : Int) := by
  have h := bt_getD (r.extract j r.size) 0
  rw [ext_list, ← size_len r, List.take_length] at h
  rw [← size_len r]
  refine h.trans ?_
  simp [List.getD]
theorem str_snoc (l : List Int) (r : ByteArray) (j : Nat) (hj : j < r.size) (h : strOfNums l = r.extract 0 j) : strOfNums (l ++ [((r.data.toList.getD j 0).toNat : Int) % 256]) = r.extract 0 (j + 1) := by
  apply ba_ext
  have h2 : (strOfNums l).data.toList = (r.extract 0 j).data.toList := by rw [h]
  rw [strOfNums_data] at h2 ⊢
  rw [List.map_append, h2, ext_list, ext_list, List.drop_zero, List.drop_zero, List.take_add_one]
  have hjl : j < r.data.toList.length := hj
  rw [List.getElem?_eq_getElem hjl]
  have : (r.data.toList.getD j 0) = r.data.toList[j] := by rw [List.getD_eq_getElem?_getD, List.getElem?_eq_getElem hjl]; rfl
  rw [this]
  congr 1
  simp only [List.map_cons, List.map_nil, Option.toList]
  congr 1
  have hlt := (r.data.toList[j]).toNat_lt
  rw [show ((r.data.toList[j].toNat : Int) % 256) = (r.data.toList[j].toNat : Int) by omega, Int.toNat_natCast]
  simp
theorem num_l (n w : Nat) (hn : n ≤ 65536) (hw : w ≤ 64) (r : ByteArray) (need : Nat) (hN : need = needP n w) (hs : need ≤ r.size) (hf : Fit r) : ∀ (d k j : Nat) (l : List Int), j + d = need → d + 1 < k → l.length = j → strOfNums l = r.extract 0 j →
    texts_numbers.l0 k (n : Int) (w : Int) l (need : Int) (j : Int) (r.extract j r.size) 0 = some ((unpackP (r.extract 0 need) n w).1, (w : Int), (unpackP (r.extract 0 need) n w).2, r.extract need r.size, 0) := by
  intro d
  unfold Fit at hf
  induction d with
  | zero =>
    intro k j l hj hk hl hst
    obtain ⟨k, rfl⟩ : ∃ m, k = m + 1 := ⟨k - 1, by omega⟩
    simp only [texts_numbers.l0]
    rw [if_neg (by omega), hst, show j = need by omega, unpack_f _ n w hn hw]
    rfl
  | succ d ih =>
    intro k j l hj hk hl hst
    obtain ⟨k, rfl⟩ : ∃ m, k = m + 1 := ⟨k - 1, by omega⟩
    simp only [texts_numbers.l0]
    have hjs : j < r.size := by omega
    have hb := byte_f (r.extract j r.size, 0)
    have hbp : byteP (r.extract j r.size, 0) = (((r.data.toList.getD j 0).toNat : Int), (r.extract (j + 1) r.size, 0)) := by
      unfold byteP
      rw [if_pos rfl, if_neg (by rw [ByteArray.size_extract]; omega)]
      simp only
      rw [bt_ext r j hjs, ext_ext_one r j hjs]
    rw [hbp] at hb
    simp only at hb
    rw [if_pos (by omega), hb]
    simp only [withC, Option.bind_some]
    rw [if_pos (by rw [hl]; omega), show wrap64 ((j : Int) + 1) = ((j + 1 : Nat) : Int) by unfold wrap64; omega]
    exact ih k (j + 1) _ (by omega) (by omega) (by rw [List.length_append, hl]; rfl) (str_snoc l r j hjs hst)
theorem need_wrap (m : Nat) (hm : m ≤ 4194304) : wrap64 (Int.tdiv (wrap64 ((wrap64 (m : Int)) + 7)) 8) = (((m + 7) / 8 : Nat) : Int) := by
  have h1 : wrap64 (m : Int) = (m : Int) := by unfold wrap64; omega
  have h2 : wrap64 ((m : Int) + 7) = (m : Int) + 7 := by unfold wrap64; omega
  have h3 : Int.tdiv ((m : Int) + 7) 8 = ((m : Int) + 7) / 8 := Int.tdiv_eq_ediv_of_nonneg (by omega)
  have h4 : wrap64 (((m : Int) + 7) / 8) = ((m : Int) + 7) / 8 := by unfold wrap64; omega
  rw [h1, h2, h3, h4]
  omega
theorem need_le (n w : Nat) (h : n * w ≤ 4194304) : needP n w ≤ 524288 := by unfold needP; omega
end Go.Proofs.Ytimjafjicnlhfaa.A
namespace Go.Proofs.Ytimjafjicnlhfaa.A
open Go.RowKit Go.Proofs.YtimjafjicnlhfaaW.PrintWords Go.Proofs.YtimjafjicnlhfaaW.PrintLast Go.Proofs.YtimjafjicnlhfaaW.PrintMore
set_option linter.unusedVariables false
set_option linter.unusedSimpArgs false
theorem num_f (k n : Nat) (c : Cur) (hn : n ≤ 65536) (hk : 524290 < k) (hs : Fit c.1) : texts_numbers.f k c.1 c.2 (n : Int) = some ((numP n c).1.1, (numP n c).1.2.1, (numP n c).1.2.2, (numP n c).2.1, (numP n c).2.2) := by
  unfold texts_numbers.f numP
  have hr := byteP_range c
  have hfit := byteP_fit c hs
  rw [byte_f]
  simp only [withC, Option.bind_some]
  rw [err_f]
  simp only [withC, Option.bind_some]
  by_cases h : (byteP c).2.2 = 0
  · rw [if_pos h, if_pos h]
    by_cases h2 : (byteP c).1 > 64
    · rw [if_pos h2, if_pos h2]
    · rw [if_neg h2, if_neg h2]
      obtain ⟨w, hw⟩ : ∃ w : Nat, (byteP c).1 = (w : Int) := ⟨(byteP c).1.toNat, by omega⟩
      generalize hcc : (byteP c).2 = cc at *
      generalize (byteP c).1 = b at *
      subst hw
      rw [Int.toNat_natCast]
      have hw64 : w ≤ 64 := by omega
      have hmul : n * w ≤ 4194304 := Nat.le_trans (Nat.mul_le_mul hn hw64) (by decide)
      have hnd : wrap64 (Int.tdiv (wrap64 ((wrap64 ((n : Int) * (w : Int))) + 7)) 8) = ((needP n w : Nat) : Int) := by
        rw [← Int.natCast_mul]
        exact need_wrap (n * w) hmul
      have hnl : needP n w ≤ 524288 := need_le n w hmul
      clear hmul
      rw [hnd, show tally_Cursor_Left.f cc.1 cc.2 = some ((cc.1.size : Int), cc.1, cc.2) from rfl, Option.bind_some]
      show (if (cc.1.size : Int) < ((needP n w : Nat) : Int) then some (([] : List Int), (0 : Int), (2 : Int), cc.1, cc.2) else texts_numbers.l0 k (n : Int) (w : Int) ([] : List Int) ((needP n w : Nat) : Int) 0 cc.1 cc.2) = _
      clear hnd
      by_cases h3 : cc.1.size < needP n w
      · rw [if_pos (Int.ofNat_lt.2 h3), if_pos h3]
      · rw [if_neg (fun e => h3 (Int.ofNat_lt.1 e)), if_neg h3]
        have hx : cc.1.extract 0 cc.1.size = cc.1 := by
          apply ba_ext
          rw [ext_list, List.drop_zero, ← size_len, List.take_length]
        have he0 : strOfNums ([] : List Int) = cc.1.extract 0 0 := by
          apply ba_ext
          rw [strOfNums_data, ext_list]
          simp
        have hl := num_l n w hn hw64 cc.1 (needP n w) rfl (Nat.le_of_not_lt h3) hfit (needP n w) k 0 [] (Nat.zero_add _) (Nat.lt_of_le_of_lt (Nat.add_le_add_right hnl 1) (Nat.lt_trans (by decide) hk)) rfl he0
        rw [hx] at hl
        rw [h]
        exact hl
  · rw [if_neg h, if_neg h, err_f]
    simp only [withC, Option.bind_some]
end Go.Proofs.Ytimjafjicnlhfaa.A
