/- The laws' Right is the disk's right; plain. -/
import Derived.Test.YtephblclhojffaaAx0
import Derived.Test.YtephblclhojffaaAx1
import Derived.Test.YtephblclhojffaaHRight
import Derived.Test.YtephblclhojffaaHHeld
namespace Go.Proofs.Ytephblclhojffaa.A
open Go.RowKit Go.Proofs.YtephblclhojffaaW.PrintWords Go.Proofs.YtephblclhojffaaW.PrintLast Go.Proofs.YtephblclhojffaaW.PrintMore
set_option linter.unusedVariables false
set_option linter.unusedSimpArgs false

theorem bt_getD (s : ByteArray) (k : Nat) (hk : k < s.size) : bt s (k : Int) = ((s.data.toList.getD k 0).toNat : Int) := by
  unfold bt
  rw [dif_pos (by simpa using hk)]
  have hl : k < s.data.toList.length := by simpa using hk
  rw [List.getD_eq_getElem?_getD, List.getElem?_eq_getElem hl]
  simp
  rfl
theorem right_go (s : ByteArray) (hs : s.size ≤ 9223372036854775806) : ∀ (n k : Nat), k + n = s.size → FirstOk s k → tithebarnref09_Right.l0 (n + 1) s (k : Int) = some (rightB s.data.toList)
  | 0, k, hn, hF => by
    obtain rfl : k = s.size := by omega
    unfold tithebarnref09_Right.l0
    rw [if_neg (by omega)]
    have hl : s.data.toList.length = s.size := by simp
    unfold rightB
    rw [hF.all, hl, Bool.true_and]
    by_cases h1 : 1 ≤ s.size
    · rw [if_pos (by omega)]; simp [h1]; omega
    · rw [if_neg (by omega)]; simp [h1]
  | n + 1, k, hn, hF => by
    unfold tithebarnref09_Right.l0
    have hk : k < s.size := by omega
    rw [if_pos (by omega), if_pos (by omega), bt_getD s k hk]
    have ih := right_go s hs n (k + 1) (by omega)
    have hw : wrap64 ((k : Int) + 1) = ((k + 1 : Nat) : Int) := by rw [Int.natCast_add]; exact by unfold wrap64; omega
    rw [hw]
    have hri := rightC_iff (s.data.toList.getD k 0)
    have hyes : rightC (s.data.toList.getD k 0) = true → FirstOk s (k + 1) := fun h j hj => by
      rcases Nat.lt_or_ge j k with h1 | h1
      · exact hF j h1
      · obtain rfl : j = k := by omega
        exact h
    have hno : rightC (s.data.toList.getD k 0) = false → rightB s.data.toList = false := not_all hk
    generalize hc : (s.data.toList.getD k 0) = c at *
    generalize hm : c.toNat = m at *
    have Y : rightC c = true → tithebarnref09_Right.l0 (n + 1) s ((k + 1 : Nat) : Int) = some (rightB s.data.toList) := fun h => ih (hyes h)
    have Z : rightC c = false → some false = some (rightB s.data.toList) := fun h => by rw [hno h]
    have e1 : ∀ b : Bool, (decide (97 ≤ m) && decide (m ≤ 122) || decide (48 ≤ m) && decide (m ≤ 57) || decide (m = 46)) = b → rightC c = b := fun b h => hri.trans h
    split
    · split
      · split
        · exact Y (e1 _ (by simp; omega))
        · exact Z (e1 _ (by simp; omega))
      · split
        · split
          · exact Y (e1 _ (by simp; omega))
          · exact Z (e1 _ (by simp; omega))
        · exact Y (e1 _ (by simp; omega))
    · split
      · split
        · split
          · exact Y (e1 _ (by simp; omega))
          · exact Z (e1 _ (by simp; omega))
        · split
          · split
            · exact Y (e1 _ (by simp; omega))
            · exact Z (e1 _ (by simp; omega))
          · exact Y (e1 _ (by simp; omega))
      · exact Y (e1 _ (by simp; omega))
theorem right_plain (s : ByteArray) (hs : s.size ≤ 9223372036854775806) : tithebarnref09_Right.f (s.size + 1) s = some (rightB s.data.toList) := right_go s hs s.size 0 (by omega) (fun j h => absurd h (Nat.not_lt_zero _))
/-- Names next to one another. -/
theorem bytes_less (a b : List UInt8) : Op.bytesLess a b = decide (a < b) := Go.Proofs.bytesLess_eq a b
theorem rising_at {d : Dir} (h : Rising d) (k : Nat) (hk : k + 1 < d.length) : d[k].1 < d[k + 1].1 := by
  have := List.pairwise_iff_getElem.1 h k (k + 1) (by omega) hk (by omega)
  exact this
end Go.Proofs.Ytephblclhojffaa.A
