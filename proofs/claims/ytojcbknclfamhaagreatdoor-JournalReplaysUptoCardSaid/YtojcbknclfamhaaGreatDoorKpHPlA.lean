/- Numbers' and texts' bytes, written and read again: plain (lemmas of chapter 05's texts, picked by pick.py). -/
import Derived.Test.YtojcbknclfamhaaGreatDoorKpAx0
import Derived.Test.YtojcbknclfamhaaGreatDoorKpAx9
import Derived.Test.YtojcbknclfamhaaGreatDoorKpHNext
import Derived.Test.YtojcbknclfamhaaGreatDoorKpHText
namespace Go.Proofs.YtojcbknclfamhaaGreatDoor.A
open Go.RowKit Go.Proofs.YtojcbknclfamhaaGreatDoorW.PrintWords Go.Proofs.YtojcbknclfamhaaGreatDoorW.PrintLast Go.Proofs.YtojcbknclfamhaaGreatDoorW.PrintMore
set_option linter.unusedVariables false
set_option linter.unusedSimpArgs false
def bigB (x : Int) : Nat → List Int
  | 0 => []
  | m + 1 => (x / 2 ^ (8 * m) % 256) :: bigB x m
def uintB (n : Int) : List Int := if n < 64 then [n] else if n < 16384 then bigB (n + 16384) 2 else if n < 1073741824 then bigB (n + 2147483648) 4 else 192 :: bigB n 8
theorem bigB_length (x : Int) : ∀ m, (bigB x m).length = m
  | 0 => rfl
  | m + 1 => by rw [bigB, List.length_cons, bigB_length x m]
theorem ba_ext {s t : ByteArray} (h : s.data.toList = t.data.toList) : s = t := by
  cases s; cases t
  congr 1
  exact Array.toList_inj.1 h
theorem ext_list (s : ByteArray) (a b : Nat) : (s.extract a b).data.toList = (s.data.toList.take b).drop a := by
  rw [ByteArray.data_extract, Array.toList_extract, List.extract_eq_drop_take', List.drop_take]
theorem size_len (s : ByteArray) : s.data.toList.length = s.size := rfl
theorem bt_getD (s : ByteArray) (k : Nat) : bt s (k : Int) = ((s.data.toList.getD k 0).toNat : Int) := by
  by_cases h : k < s.size
  · rw [← bt_at s (k : Int) h, List.getD_eq_getElem?_getD, Array.getElem?_toList, Array.getElem?_eq_getElem h]
    rfl
  · unfold bt
    rw [dif_neg (show ¬ (k : Int).toNat < s.size from h), List.getD_eq_getElem?_getD, List.getElem?_eq_none (Nat.le_of_not_lt h)]
    rfl
theorem bytesOf_take (s : ByteArray) (k : Nat) : bytesOf (s.extract 0 k) = (bytesOf s).take k := by
  unfold bytesOf
  rw [ext_list, List.drop_zero, List.map_take]
def IsB (X : List Int) : Prop := ∀ x ∈ X, 0 ≤ x ∧ x < 256
theorem IsB.bytes (s : ByteArray) : IsB (bytesOf s) := fun x hx => by
  unfold bytesOf at hx
  rw [List.mem_map] at hx
  obtain ⟨b, _, rfl⟩ := hx
  exact byte_range b
end Go.Proofs.YtojcbknclfamhaaGreatDoor.A
