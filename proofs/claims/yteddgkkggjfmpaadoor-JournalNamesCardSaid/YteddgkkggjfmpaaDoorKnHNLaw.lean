/- JournalNames' law is true of every letter, name and number: plain. -/
import Derived.Test.YteddgkkggjfmpaaDoorKnAx0
import Derived.Test.YteddgkkggjfmpaaDoorKnHNamesG
import Derived.Test.YteddgkkggjfmpaaDoorKnHLivesT
namespace Go.Proofs.YteddgkkggjfmpaaDoor.A
open Go.RowKit Go.Proofs.YteddgkkggjfmpaaDoorW.PrintWords Go.Proofs.YteddgkkggjfmpaaDoorW.PrintLast Go.Proofs.YteddgkkggjfmpaaDoorW.PrintMore
open Go.Lib
set_option linter.unusedVariables false
set_option linter.unusedSimpArgs false
theorem digVal_lt : ∀ (n : Nat) (m : List UInt8), m.length = n → (∀ c ∈ m, isDg c) → digVal m < 10 ^ n
  | 0, m, h, _ => by rw [List.eq_nil_of_length_eq_zero h]; decide
  | n + 1, m, h, hd => by
    obtain ⟨m', d, rfl⟩ : ∃ m' d, m = m' ++ [d] := ⟨m.dropLast, m.getLast (by intro h0; rw [h0] at h; simp at h), (List.dropLast_concat_getLast _).symm⟩
    have ih := digVal_lt n m' (by simp at h; omega) (fun c hc => hd c (List.mem_append_left _ hc))
    have h1 := hd d (by simp)
    unfold isDg at h1
    rw [digVal_snoc, Nat.pow_succ]
    omega
theorem name_size (letter : ByteArray) (n : Int) : (nameP letter n).size ≤ letter.size + 9 := by
  by_cases h : n < 0 ∨ 999999999 < n
  · unfold nameP; rw [if_pos h]; exact Nat.zero_le _
  · rw [← sz_len, name_list letter n (by omega) (by omega), List.length_append, sz_len, itoa_nat n (by omega)]
    have := decDigits_le 8 n.toNat (by omega)
    omega
theorem name_f (letter : ByteArray) (n : Int) (hs : letter.size ≤ 140737488351232) (h64 : -9223372036854775808 ≤ n ∧ n ≤ 9223372036854775807) : journal_NameG.f letter n = some (nameP letter n) := by
  unfold journal_NameG.f strconv_ItoaG.f
  rw [if_pos h64]
  simp only [Option.bind_some]
  by_cases h0 : n < 0
  · rw [if_pos h0]
    unfold nameP
    rw [if_pos (.inl h0)]
  · rw [if_neg h0]
    by_cases h1 : n > 999999999
    · rw [if_pos h1]
      unfold nameP
      rw [if_pos (.inr h1)]
    · have hz : (⟨(itoa n).toArray⟩ : ByteArray).size ≤ 9 := by
        show (itoa n).toArray.size ≤ 9
        rw [List.size_toArray, itoa_nat n (by omega)]
        exact decDigits_le 8 n.toNat (by omega)
      rw [if_neg h1, if_pos (by omega)]
      unfold nameP
      rw [if_neg (by omega)]
theorem rname_f (letter : ByteArray) (n : Int) (hs : letter.size ≤ 140737488351232) (h64 : -9223372036854775808 ≤ n ∧ n ≤ 9223372036854775807) : tithebarnref15_NameG.f letter n = some (nameP letter n) := name_f letter n hs h64
theorem bt_drop (name : ByteArray) (a j : Nat) (h : a + j < name.size) : bt name ((a + j : Nat) : Int) = (((name.data.toList.drop a)[j]'(by rw [List.length_drop, sz_len]; omega)).toNat : Int) := by
  have e : ((a + j : Nat) : Int).toNat = a + j := by omega
  unfold bt
  rw [dif_pos (by rw [e]; exact h)]
  congr 2
  rw [List.getElem_drop]
  simp only [e]
  rfl
theorem rnum_l (letter name : ByteArray) (hs : letter.size ≤ 140737488351232) (h9 : name.size ≤ letter.size + 9) (hle : letter.size ≤ name.size) : ∀ d j k, letter.size + j + d = name.size → d + 1 < k → (∀ c ∈ (name.data.toList.drop letter.size).take j, isDg c) →
    tithebarnref15_NumberG.l0 k letter name (digVal ((name.data.toList.drop letter.size).take j) : Int) ((letter.size + j : Nat) : Int) = some (if ∀ c ∈ name.data.toList.drop letter.size, isDg c then ((digVal (name.data.toList.drop letter.size) : Int), decide (nameP letter (digVal (name.data.toList.drop letter.size) : Int) = name)) else (0, false)) := by
  have hDl : (name.data.toList.drop letter.size).length = name.size - letter.size := by rw [List.length_drop, sz_len]
  intro d
  induction d with
  | zero =>
    intro j k hj hk hd
    obtain ⟨k, rfl⟩ : ∃ m, k = m + 1 := ⟨k - 1, by omega⟩
    rw [List.take_of_length_le (show (name.data.toList.drop letter.size).length ≤ j by omega)] at hd ⊢
    have hlt := digVal_lt _ _ rfl hd
    have h10 : digVal (name.data.toList.drop letter.size) < 10 ^ 9 := Nat.lt_of_lt_of_le hlt (Nat.pow_le_pow_right (by decide) (by omega))
    have h10' : digVal (name.data.toList.drop letter.size) < 1000000000 := h10
    rw [tithebarnref15_NumberG.l0, if_neg (by omega), rname_f letter _ hs (by omega), if_pos hd]
    simp only [Option.bind_some]
    congr 2
    by_cases he : nameP letter (digVal (name.data.toList.drop letter.size) : Int) = name
    · rw [decide_eq_true he, he]; exact beq_self_eq_true _
    · rw [decide_eq_false he]
      refine beq_eq_false_iff_ne.2 (fun h => he (ba_ext' ?_))
      rw [ByteArray.toList_eq, ByteArray.toList_eq] at h
      exact h
  | succ d ih =>
    intro j k hj hk hd
    obtain ⟨k, rfl⟩ : ∃ m, k = m + 1 := ⟨k - 1, by omega⟩
    have hjl : j < (name.data.toList.drop letter.size).length := by omega
    rw [tithebarnref15_NumberG.l0, if_pos (by omega), if_pos (by omega), bt_drop name letter.size j (by omega)]
    have hmem := List.getElem_mem hjl
    have htk : (name.data.toList.drop letter.size).take (j + 1) = (name.data.toList.drop letter.size).take j ++ [(name.data.toList.drop letter.size)[j]] := by
      rw [List.take_add_one, List.getElem?_eq_getElem hjl]; rfl
    by_cases hdg : isDg (name.data.toList.drop letter.size)[j]
    · have hd' : ∀ c ∈ (name.data.toList.drop letter.size).take (j + 1), isDg c := by
        intro c hc
        rw [htk, List.mem_append] at hc
        rcases hc with hc | hc
        · exact hd c hc
        · rw [List.mem_singleton] at hc; rw [hc]; exact hdg
      have hlt := digVal_lt _ _ rfl hd
      rw [List.length_take] at hlt
      have h10 : digVal ((name.data.toList.drop letter.size).take j) < 1000000000 := Nat.lt_of_lt_of_le hlt (Nat.le_trans (Nat.pow_le_pow_right (by decide) (show min j _ ≤ 9 by omega)) (by decide))
      have hdv : digVal ((name.data.toList.drop letter.size).take (j + 1)) = digVal ((name.data.toList.drop letter.size).take j) * 10 + ((name.data.toList.drop letter.size)[j].toNat - 48) := by rw [htk, digVal_snoc]
      have ihj := ih (j + 1) k (by omega) (by omega) hd'
      clear hd hd' hlt htk hmem ih
      unfold isDg at hdg
      rw [hdv] at ihj
      generalize digVal ((name.data.toList.drop letter.size).take j) = v at *
      generalize (name.data.toList.drop letter.size)[j].toNat = c at *
      rw [if_neg (by omega), if_neg (by omega)]
      have e1 : wrap64 (wrap64 (10 * (v : Int)) + ((c : Int) - 48) % 256) = ((v * 10 + (c - 48) : Nat) : Int) := by
        rw [IntWalk.wrap64_in (10 * (v : Int)) (by omega), IntWalk.wrap64_in _ (by omega)]
        omega
      have e2 : wrap64 (((letter.size + j : Nat) : Int) + 1) = ((letter.size + (j + 1) : Nat) : Int) := by
        rw [IntWalk.wrap64_in _ (by omega)]
        omega
      rw [e1, e2]
      exact ihj
    · rw [if_neg (show ¬ ∀ c ∈ name.data.toList.drop letter.size, isDg c from fun h => hdg (h _ hmem))]
      unfold isDg at hdg
      by_cases h48 : (((name.data.toList.drop letter.size)[j].toNat : Nat) : Int) < 48
      · rw [if_pos h48]
      · rw [if_neg h48, if_pos (by omega)]
theorem rnum_f (k : Nat) (letter name : ByteArray) (hs : letter.size ≤ 140737488351232) (hn : name.size ≤ 140737488351232) (hk : 20 < k) : tithebarnref15_NumberG.f k letter name = some (refNumP letter name) := by
  obtain ⟨k, rfl⟩ : ∃ m, k = m + 1 := ⟨k - 1, by omega⟩
  have hw : wrap64 ((letter.size : Int) + 9) = (letter.size : Int) + 9 := IntWalk.wrap64_in _ (by omega)
  unfold tithebarnref15_NumberG.f refNumP
  rw [hw]
  by_cases h1 : name.size ≤ letter.size
  · rw [if_pos (by omega), if_pos (.inl h1), tithebarnref15_NumberG.j0, if_pos rfl]
  · rw [if_neg (by omega)]
    by_cases h2 : letter.size + 9 < name.size
    · rw [if_pos (by omega), if_pos (.inr (.inl h2)), tithebarnref15_NumberG.j0, if_pos rfl]
    · rw [if_neg (by omega), if_pos (by omega), if_pos (by omega), Int.toNat_natCast, tithebarnref15_NumberG.j0]
      have e : (name.extract 0 letter.size).toList = name.data.toList.take letter.size := by
        rw [ByteArray.toList_eq, ByteArray.data_extract, Array.toList_extract, List.extract_eq_take_drop, List.drop_zero, Nat.sub_zero]
      rw [e, ByteArray.toList_eq]
      cases ho : oursP letter name with
      | false =>
        have hne := of_decide_eq_false ho
        rw [if_pos (bne_iff_ne.2 hne), if_pos (.inr (.inr rfl))]
      | true =>
        have he := of_decide_eq_true ho
        rw [if_neg (by rw [he]; simp), if_neg (by simp; omega)]
        have := rnum_l letter name hs (by omega) (by omega) (name.size - letter.size) 0 k (by omega) (by omega) (by simp)
        rw [List.take_zero] at this
        exact this
theorem names_true (a0 a1 : ByteArray) (a2 : Int) (h0 : a0.size ≤ 140737488351232) (h1 : a1.size ≤ 140737488351232) (h64 : -9223372036854775808 ≤ a2 ∧ a2 ≤ 9223372036854775807) : tithebarnlaw15_JournalNamesG.f 3000 a0 a1 a2 = some true := by
  have hag := number_agree a0 a1
  have hns := name_size a0 a2
  have hnu := name_number a0 a1
  have hrange : -9223372036854775808 ≤ (numberP a0 a1).1 ∧ (numberP a0 a1).1 ≤ 9223372036854775807 := by
    cases hx : (numberP a0 a1).2 with
    | true =>
      obtain ⟨_, p1, p2, _⟩ := numberD_true hx
      change 0 ≤ (numberP a0 a1).1 at p1
      change (numberP a0 a1).1 ≤ 999999999 at p2
      omega
    | false => have : (numberP a0 a1).1 = 0 := numberD_zero hx; omega
  unfold tithebarnlaw15_JournalNamesG.f
  rw [lives_T]
  simp only [Option.bind_some]
  rw [if_pos trivial]
  unfold journal_NumberG.f
  rw [if_pos ⟨by omega, by omega⟩, rnum_f 3000 a0 a1 (by omega) h1 (by omega)]
  simp only [Option.bind_some]
  have hj : ∀ x9, (numberP a0 a1).1 = x9 → tithebarnlaw15_JournalNamesG.j0 3000 a0 a1 a2 (numberP a0 a1).1 (numberP a0 a1).2 x9 (refNumP a0 a1).2 = some true := by
    intro x9 hx
    rw [tithebarnlaw15_JournalNamesG.j0, name_f a0 a2 (by omega) h64, rname_f a0 a2 (by omega) h64]
    simp only [Option.bind_some]
    unfold journal_NumberG.f
    rw [if_pos ⟨by omega, by omega⟩]
    simp only [Option.bind_some]
    rw [if_pos hx, if_pos (by rw [hag.1]; exact beq_self_eq_true _), if_pos trivial, name_f a0 _ (by omega) hrange]
    simp only [Option.bind_some]
    have hlast : (if (nameP a0 a2).toList = ([] : List UInt8) then some true else if (numberP a0 (nameP a0 a2)).2 = true then some ((numberP a0 (nameP a0 a2)).1 == a2) else some false) = some true := by
      by_cases hr : 0 ≤ a2 ∧ a2 ≤ 999999999
      · rw [number_name a0 a2 hr.1 hr.2]
        split
        · rfl
        · simp
      · rw [if_pos]
        unfold nameP
        rw [if_pos (by omega), ByteArray.toList_eq]
    by_cases h8 : (numberP a0 a1).2 = true
    · rw [if_pos h8, if_pos (by rw [hnu h8])]
      exact hlast
    · rw [if_neg h8]
      exact hlast
  by_cases h2 : (refNumP a0 a1).2 = true
  · rw [if_pos h2]
    exact hj _ (by rw [hag.2, if_pos h2])
  · rw [if_neg h2]
    exact hj _ (by rw [hag.2, if_neg h2])
end Go.Proofs.YteddgkkggjfmpaaDoor.A
