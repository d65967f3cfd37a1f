/- Names and numbers: what journal.Name and journal.Number tell, and the document's; plain. -/
import Derived.Test.YteddgkkggjfmpaaDoorKnAx0
import Derived.Test.YteddgkkggjfmpaaDoorKnShelf
import Derived.Lib.AtoiAll
import Derived.Lib.ItoaNum
import Derived.Lib.AtoiAllCases
namespace Go.Proofs.YteddgkkggjfmpaaDoor.A
open Go.RowKit Go.Proofs.YteddgkkggjfmpaaDoorW.PrintWords Go.Proofs.YteddgkkggjfmpaaDoorW.PrintLast Go.Proofs.YteddgkkggjfmpaaDoorW.PrintMore
open Go.Shelf Go.Lib Go.Sort
set_option linter.unusedVariables false
set_option linter.unusedSimpArgs false
theorem u8_nat (n : Nat) (h : n < 256) : (UInt8.ofNat n).toNat = n := by rw [UInt8.toNat_ofNat']; omega
theorem decDigits_parse : ∀ (u : Nat) (r : List UInt8), u < 18446744073709551616 → parseUint10 0 (decDigits u ++ r) = parseUint10 u r := by
  intro u
  induction u using Nat.strongRecOn with
  | _ u ih =>
  intro r hu
  rw [decDigits]
  split
  · rename_i h
    have e : (UInt8.ofNat (48 + u)).toNat = 48 + u := u8_nat _ (by omega)
    rw [List.cons_append, List.nil_append, parseUint10, e, if_pos (by omega), if_neg (by omega), if_neg (by omega)]
    congr 1; omega
  · rename_i h
    have e : (UInt8.ofNat (48 + u % 10)).toNat = 48 + u % 10 := u8_nat _ (by omega)
    rw [List.append_assoc, ih (u / 10) (by omega) _ (by omega), List.cons_append, List.nil_append, parseUint10, e, if_pos (by omega), if_neg (by omega), if_neg (by omega)]
    congr 1; omega
theorem decDigits_mem : ∀ (u : Nat), ∀ c ∈ decDigits u, 48 ≤ c.toNat ∧ c.toNat ≤ 57 := by
  intro u
  induction u using Nat.strongRecOn with
  | _ u ih =>
  intro c hc
  rw [decDigits] at hc
  split at hc
  · rw [List.mem_singleton] at hc
    subst hc
    rw [u8_nat _ (by omega)]; omega
  · rcases List.mem_append.1 hc with hc | hc
    · exact ih (u / 10) (by omega) c hc
    · rw [List.mem_singleton] at hc
      subst hc
      rw [u8_nat _ (by omega)]; omega
theorem decDigits_ne (u : Nat) : decDigits u ≠ [] := by
  rw [decDigits]
  split <;> simp
theorem parseMag_dec (u : Nat) (h : u < 18446744073709551616) : parseMag (decDigits u) = .ok u := by
  unfold parseMag
  rw [if_neg (decDigits_ne u)]
  have := decDigits_parse u [] h
  rw [List.append_nil] at this
  rw [this, parseUint10]
theorem atoi_itoa (n : Int) (h : -9223372036854775808 ≤ n ∧ n ≤ 9223372036854775807) : atoiAll (itoa n) = .ok n := by
  unfold itoa
  split
  · rw [atoiAll_minus, parseMag_dec _ (by omega), signed, if_neg (by omega)]
    congr 1; omega
  · have hm := decDigits_mem n.toNat
    have hp := parseMag_dec n.toNat (by omega)
    cases hd : decDigits n.toNat with
    | nil => exact absurd hd (decDigits_ne _)
    | cons c r =>
      rw [hd] at hm hp
      have hc := hm c (List.mem_cons_self ..)
      rw [atoiAll_plain c r (by omega) (by omega), hp, signless, if_neg (by omega)]
      congr 1; omega
def digVal (m : List UInt8) : Nat := m.foldl (fun a c => a * 10 + (c.toNat - 48)) 0
theorem digVal_snoc (m : List UInt8) (d : UInt8) : digVal (m ++ [d]) = digVal m * 10 + (d.toNat - 48) := by simp [digVal]
def isDg (c : UInt8) : Prop := 48 ≤ c.toNat ∧ c.toNat ≤ 57
instance (c : UInt8) : Decidable (isDg c) := by unfold isDg; infer_instance
theorem digVal_of_dec : ∀ (u : Nat), digVal (decDigits u) = u := by
  intro u
  induction u using Nat.strongRecOn with
  | _ u ih =>
  rw [decDigits]
  split
  · rename_i h
    have e : digVal [UInt8.ofNat (48 + u)] = (UInt8.ofNat (48 + u)).toNat - 48 := by simp [digVal]
    rw [e, u8_nat _ (by omega)]
    omega
  · rw [digVal_snoc, ih (u / 10) (by omega), u8_nat _ (by omega)]
    omega
theorem decDigits_le : ∀ (k u : Nat), u < 10 ^ (k + 1) → (decDigits u).length ≤ k + 1
  | 0, u, h => by rw [decDigits, dif_pos (by omega)]; simp
  | k + 1, u, h => by
    rw [decDigits]
    split
    · simp
    · have := decDigits_le k (u / 10) (by rw [Nat.pow_succ] at h; omega)
      simp only [List.length_append, List.length_cons, List.length_nil]
      omega
def nameP (letter : ByteArray) (n : Int) : ByteArray := if n < 0 ∨ 999999999 < n then ⟨#[]⟩ else letter ++ ⟨(itoa n).toArray⟩
def numberD (ours : Bool) (d : ByteArray) : Int × Bool :=
  match atoiAll d.data.toList with
  | .ok n => if ours = true ∧ 0 ≤ n ∧ n ≤ 999999999 ∧ itoa n = d.data.toList then (n, true) else (0, false)
  | _ => (0, false)
def oursP (letter name : ByteArray) : Bool := decide (name.data.toList.take letter.size = letter.data.toList)
def cutP (letter name : ByteArray) : ByteArray := if oursP letter name = true then name.extract letter.size name.size else name
def numberP (letter name : ByteArray) : Int × Bool := numberD (oursP letter name) (cutP letter name)
def refNumP (letter name : ByteArray) : Int × Bool :=
  if name.size ≤ letter.size ∨ letter.size + 9 < name.size ∨ oursP letter name = false then (0, false)
  else if ∀ c ∈ name.data.toList.drop letter.size, isDg c then ((digVal (name.data.toList.drop letter.size) : Int), decide (nameP letter (digVal (name.data.toList.drop letter.size) : Int) = name)) else (0, false)
theorem ba_ext' {s t : ByteArray} (h : s.data.toList = t.data.toList) : s = t := by
  cases s; cases t
  congr 1
  exact Array.toList_inj.1 h
theorem ext_list' (s : ByteArray) (a : Nat) : (s.extract a s.size).data.toList = s.data.toList.drop a := by
  rw [ByteArray.data_extract, Array.toList_extract]
  rw [List.extract_eq_take_drop, List.take_of_length_le]
  rw [List.length_drop]
  exact Nat.le_refl _
theorem numberD_true {ours : Bool} {d : ByteArray} (h : (numberD ours d).2 = true) : ours = true ∧ 0 ≤ (numberD ours d).1 ∧ (numberD ours d).1 ≤ 999999999 ∧ itoa (numberD ours d).1 = d.data.toList := by
  unfold numberD at h ⊢
  split at h
  · split at h
    · rename_i v hv hc
      simp only [hv, if_pos hc]
      exact hc
    · cases h
  · cases h
theorem numberD_zero {ours : Bool} {d : ByteArray} (h : (numberD ours d).2 = false) : (numberD ours d).1 = 0 := by
  unfold numberD at h ⊢
  cases ha : atoiAll d.data.toList with
  | ok v =>
    rw [ha] at h
    simp only [] at h ⊢
    by_cases hc : ours = true ∧ 0 ≤ v ∧ v ≤ 999999999 ∧ itoa v = d.data.toList
    · rw [if_pos hc] at h; cases h
    · rw [if_neg hc]
  | _ => rfl
theorem numberD_itoa (n : Int) (d : ByteArray) (h0 : 0 ≤ n) (h1 : n ≤ 999999999) (hd : itoa n = d.data.toList) : numberD true d = (n, true) := by
  unfold numberD
  rw [← hd, atoi_itoa n (by omega)]
  show (if true = true ∧ 0 ≤ n ∧ n ≤ 999999999 ∧ itoa n = itoa n then (n, true) else (0, false)) = _
  rw [if_pos ⟨rfl, h0, h1, rfl⟩]
theorem itoa_nat (n : Int) (h : 0 ≤ n) : itoa n = decDigits n.toNat := by unfold itoa; rw [if_neg (by omega)]
theorem cut_list {letter name : ByteArray} (h : oursP letter name = true) : (cutP letter name).data.toList = name.data.toList.drop letter.size := by
  unfold cutP
  rw [if_pos h, ext_list']
theorem ours_split {letter name : ByteArray} (h : oursP letter name = true) : name.data.toList = letter.data.toList ++ name.data.toList.drop letter.size := by
  have := of_decide_eq_true h
  conv => lhs; rw [← List.take_append_drop letter.size name.data.toList, this]
theorem name_list (letter : ByteArray) (n : Int) (h0 : 0 ≤ n) (h1 : n ≤ 999999999) : (nameP letter n).data.toList = letter.data.toList ++ itoa n := by
  unfold nameP
  rw [if_neg (by omega), ByteArray.data_append, Array.toList_append]
theorem sz_len (s : ByteArray) : s.data.toList.length = s.size := rfl
theorem ours_name (letter : ByteArray) (n : Int) (h0 : 0 ≤ n) (h1 : n ≤ 999999999) : oursP letter (nameP letter n) = true := by
  unfold oursP
  rw [name_list letter n h0 h1, ← sz_len letter, List.take_left]
  exact decide_eq_true rfl
theorem number_name (letter : ByteArray) (n : Int) (h0 : 0 ≤ n) (h1 : n ≤ 999999999) : numberP letter (nameP letter n) = (n, true) := by
  have ho := ours_name letter n h0 h1
  unfold numberP
  rw [ho]
  refine numberD_itoa n _ h0 h1 ?_
  rw [cut_list ho, name_list letter n h0 h1, ← sz_len letter, List.drop_left]
theorem name_number (letter name : ByteArray) (h : (numberP letter name).2 = true) : nameP letter (numberP letter name).1 = name := by
  obtain ⟨ho, h0, h1, hd⟩ := numberD_true h
  apply ba_ext'
  show (nameP letter (numberP letter name).1).data.toList = _
  rw [name_list letter (numberP letter name).1 h0 h1]
  conv => rhs; rw [ours_split ho]
  rw [show itoa (numberP letter name).1 = _ from hd, cut_list ho]
theorem number_agree (letter name : ByteArray) : (numberP letter name).2 = (refNumP letter name).2 ∧ (numberP letter name).1 = if (refNumP letter name).2 = true then (refNumP letter name).1 else 0 := by
  cases hr : (refNumP letter name).2 with
  | true =>
    have hr' := hr
    unfold refNumP at hr'
    split at hr'
    · cases hr'
    rename_i hc
    split at hr'
    · rename_i hd
      have hN := of_decide_eq_true hr'
      have e1 : (refNumP letter name).1 = (digVal (name.data.toList.drop letter.size) : Int) := by unfold refNumP; rw [if_neg hc, if_pos hd]
      rw [e1, if_pos rfl]
      have hb : (digVal (name.data.toList.drop letter.size) : Int) ≤ 999999999 := by
        by_cases hb : (digVal (name.data.toList.drop letter.size) : Int) ≤ 999999999
        · exact hb
        · unfold nameP at hN
          rw [if_pos (by omega)] at hN
          exact absurd (congrArg ByteArray.size hN) (by show ¬ (0 = name.size); omega)
      have hnm := number_name letter _ (Int.natCast_nonneg _) hb
      rw [hN] at hnm
      rw [hnm]
      exact ⟨rfl, rfl⟩
    · cases hr'
  | false =>
    cases hn : (numberP letter name).2 with
    | false => exact ⟨rfl, by rw [if_neg (by decide)]; exact numberD_zero hn⟩
    | true =>
      exfalso
      obtain ⟨ho, h0, h1, hd⟩ := numberD_true hn
      have hnm := name_number letter name hn
      change itoa (numberP letter name).1 = _ at hd
      change 0 ≤ (numberP letter name).1 at h0
      change (numberP letter name).1 ≤ _ at h1
      generalize (numberP letter name).1 = v at *
      rw [cut_list ho, itoa_nat v h0] at hd
      have hdl : (name.data.toList.drop letter.size).length ≤ 9 := by rw [← hd]; exact decDigits_le 8 _ (by omega)
      have hdn : name.data.toList.drop letter.size ≠ [] := by rw [← hd]; exact decDigits_ne _
      have hln : 0 < (name.data.toList.drop letter.size).length := List.length_pos_iff.2 hdn
      rw [List.length_drop, sz_len] at hdl hln
      unfold refNumP at hr
      rw [if_neg (by rw [ho]; simp; omega), if_pos (by rw [← hd]; exact decDigits_mem _), ← hd, digVal_of_dec, show ((v.toNat : Nat) : Int) = v by omega, hnm] at hr
      simp at hr
end Go.Proofs.YteddgkkggjfmpaaDoor.A
