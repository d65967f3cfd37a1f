/- What texts.numbers computes: plain, the last part. -/
import Derived.Test.YtimjafjicnlhfaaKbAx0
import Derived.Test.YtimjafjicnlhfaaKbAx5
import Derived.Test.YtimjafjicnlhfaaKbHNumP
namespace Go.Proofs.Ytimjafjicnlhfaa.A
open Go.RowKit Go.Proofs.YtimjafjicnlhfaaW.PrintWords Go.Proofs.YtimjafjicnlhfaaW.PrintLast Go.Proofs.YtimjafjicnlhfaaW.PrintMore
set_option linter.unusedVariables false
set_option linter.unusedSimpArgs false
theorem num_f (k n : Nat) (c : Cur) (hn : n ≤ 65536) (hk : 524290 < k) (hs : Fit c.1) : texts_numbers.f k c.1 c.2 (n : Int) = some ((numP n c).1.1, (numP n c).1.2.1, (numP n c).1.2.2, (numP n c).2.1, (numP n c).2.2) := by
  unfold texts_numbers.f numP
  have hr := byteP_range c
  have hfit := byteP_fit c hs
  rw [byte_f]
  simp only [withC, Option.bind_some]
  rw [err_f]
  simp only [withC, Option.bind_some]
  by_cases h : (byteP c).2.2 = 0
  · rw [if_pos h, if_pos h]
    by_cases h2 : (byteP c).1 > 64
    · rw [if_pos h2, if_pos h2]
    · rw [if_neg h2, if_neg h2]
      obtain ⟨w, hw⟩ : ∃ w : Nat, (byteP c).1 = (w : Int) := ⟨(byteP c).1.toNat, by omega⟩
      generalize hcc : (byteP c).2 = cc at *
      generalize (byteP c).1 = b at *
      subst hw
      rw [Int.toNat_natCast]
      have hw64 : w ≤ 64 := by omega
      have hmul : n * w ≤ 4194304 := Nat.le_trans (Nat.mul_le_mul hn hw64) (by decide)
      have hnd : wrap64 (Int.tdiv (wrap64 ((wrap64 ((n : Int) * (w : Int))) + 7)) 8) = ((needP n w : Nat) : Int) := by
        rw [← Int.natCast_mul]
        exact need_wrap (n * w) hmul
      have hnl : needP n w ≤ 524288 := need_le n w hmul
      clear hmul
      rw [hnd, show tally_Cursor_Left.f cc.1 cc.2 = some ((cc.1.size : Int), cc.1, cc.2) from rfl, Option.bind_some]
      show (if (cc.1.size : Int) < ((needP n w : Nat) : Int) then some (([] : List Int), (0 : Int), (2 : Int), cc.1, cc.2) else texts_numbers.l0 k (n : Int) (w : Int) ([] : List Int) ((needP n w : Nat) : Int) 0 cc.1 cc.2) = _
      clear hnd
      by_cases h3 : cc.1.size < needP n w
      · rw [if_pos (Int.ofNat_lt.2 h3), if_pos h3]
      · rw [if_neg (fun e => h3 (Int.ofNat_lt.1 e)), if_neg h3]
        have hx : cc.1.extract 0 cc.1.size = cc.1 := by
          apply ba_ext
          rw [ext_list, List.drop_zero, ← size_len, List.take_length]
        have he0 : strOfNums ([] : List Int) = cc.1.extract 0 0 := by
          apply ba_ext
          rw [strOfNums_data, ext_list]
          simp
        have hl := num_l n w hn hw64 cc.1 (needP n w) rfl (Nat.le_of_not_lt h3) hfit (needP n w) k 0 [] (Nat.zero_add _) (Nat.lt_of_le_of_lt (Nat.add_le_add_right hnl 1) (Nat.lt_trans (by decide) hk)) rfl he0
        rw [hx] at hl
        rw [h]
        exact hl
  · rw [if_neg h, if_neg h, err_f]
    simp only [withC, Option.bind_some]
end Go.Proofs.Ytimjafjicnlhfaa.A
