/- What the cursor's functions and those of texts that read by it compute: plain. -/
import Derived.Test.YtimjafjicnlhfaaKrAx0
import Derived.Test.YtimjafjicnlhfaaKrAx4
import Derived.Test.YtimjafjicnlhfaaKrAx5
namespace Go.Proofs.Ytimjafjicnlhfaa.A
open Go.RowKit Go.Proofs.YtimjafjicnlhfaaW.PrintWords Go.Proofs.YtimjafjicnlhfaaW.PrintLast Go.Proofs.YtimjafjicnlhfaaW.PrintMore
set_option linter.unusedVariables false
set_option linter.unusedSimpArgs false
abbrev Cur := ByteArray × Int
abbrev Fit (s : ByteArray) : Prop := s.size ≤ 140737488351232
def byteP (c : Cur) : Int × Cur := if c.2 = 0 then (if c.1.size = 0 then (0, (c.1, 2)) else (bt c.1 0, (c.1.extract 1 c.1.size, 0))) else (0, c)
def uintP (c : Cur) : Int × Cur := if c.2 = 0 then ((nextP c.1).1, ((nextP c.1).2.1, (nextP c.1).2.2)) else (0, c)
def textP (c : Cur) : ByteArray × Cur :=
  if c.2 = 0 then
    if (nextP c.1).2.2 = 0 then
      if (nextP c.1).1 > 64 then (⟨#[]⟩, (c.1, 3)) else
      if ((nextP c.1).2.1.size : Int) < (nextP c.1).1 then (⟨#[]⟩, (c.1, 2)) else
      ((nextP c.1).2.1.extract 0 (nextP c.1).1.toNat, ((nextP c.1).2.1.extract (nextP c.1).1.toNat (nextP c.1).2.1.size, 0))
    else (⟨#[]⟩, (c.1, (nextP c.1).2.2))
  else (⟨#[]⟩, c)
def withC {α : Type} (x : α × Cur) : Option (α × ByteArray × Int) := some (x.1, x.2.1, x.2.2)
theorem toList_nil (s : ByteArray) : (s.toList = ([] : List UInt8)) ↔ s.size = 0 := by
  rw [ByteArray.toList_eq]
  exact ⟨fun e => congrArg List.length e, fun e => List.eq_nil_of_length_eq_zero e⟩
theorem foldB_nonneg (x : Int) (l : List UInt8) (h : 0 ≤ x) : 0 ≤ foldB x l := (foldB_le l x h).1
theorem nextP_nonneg (s : ByteArray) : 0 ≤ (nextP s).1 := by
  have hb := bt_range s 0
  have hx : 0 ≤ (if bt s 0 = 192 then (0 : Int) else bt s 0 % 64) := by split <;> omega
  unfold nextP
  repeat' split
  all_goals first | exact Int.le_refl _ | exact foldB_nonneg _ _ (by first | exact hx | exact Int.le_refl _ | omega)
theorem extract_le (s : ByteArray) (a b : Nat) : (s.extract a b).size ≤ s.size := by rw [ByteArray.size_extract]; omega
theorem nextP_size (s : ByteArray) : (nextP s).2.1.size ≤ s.size := by
  unfold nextP
  repeat' split
  all_goals first | exact Nat.le_refl _ | exact extract_le _ _ _
theorem ok_f (c : Cur) : tally_Cursor_ok.f c.1 c.2 = withC ((c.2 == 0), c) := rfl
theorem err_f (c : Cur) : tally_Cursor_Err.f c.1 c.2 = withC (c.2, c) := rfl
theorem byte_f (c : Cur) : tally_Cursor_Byte.f c.1 c.2 = withC (byteP c) := by
  unfold tally_Cursor_Byte.f byteP
  rw [ok_f]
  simp only [withC, Option.bind_some, beq_iff_eq, toList_nil]
  by_cases h : c.2 = 0
  · rw [if_pos h, if_pos h]
    by_cases h0 : c.1.size = 0
    · rw [if_pos h0, if_pos h0]
    · have hb := bt_range c.1 0
      rw [if_neg h0, if_neg h0, if_pos (by omega), if_pos (by omega), h]
      rw [show wrap64 (bt c.1 0) = bt c.1 0 by unfold wrap64; omega]
  · rw [if_neg h, if_neg h]
theorem uint_f (c : Cur) : tally_Cursor_Uint.f c.1 c.2 = withC (uintP c) := by
  unfold tally_Cursor_Uint.f uintP
  rw [ok_f]
  simp only [withC, Option.bind_some, beq_iff_eq, tally_next.f]
  by_cases h : c.2 = 0
  · rw [if_pos h, if_pos h]
  · rw [if_neg h, if_neg h]
theorem text_f (k : Nat) (c : Cur) (hs : Fit c.1) : tally_Cursor_Text.f (k + 1) c.1 c.2 64 = withC (textP c) := by
  unfold tally_Cursor_Text.f textP
  rw [ok_f]
  simp only [withC, Option.bind_some, beq_iff_eq, tally_next.f]
  by_cases h : c.2 = 0
  · rw [if_pos h, if_pos h]
    by_cases h1 : (nextP c.1).2.2 = 0
    · rw [if_pos h1, if_pos h1, if_neg (by omega)]
      have h0 := nextP_nonneg c.1
      have hz : Fit (nextP c.1).2.1 := Nat.le_trans (nextP_size c.1) hs
      unfold Fit at hz
      simp only [tally_Cursor_Text.j0]
      rw [show IntKind.u64.wrap 64 = 64 from rfl]
      by_cases h2 : (nextP c.1).1 > 64
      · rw [if_pos (by simpa using h2), if_pos h2]
      · rw [if_neg (by simpa using h2), if_neg h2, show IntKind.u64.wrap (((nextP c.1).2.1.size : Nat) : Int) = ((nextP c.1).2.1.size : Int) from IntWalk.u64_in _ (by omega)]
        by_cases h3 : ((nextP c.1).2.1.size : Int) < (nextP c.1).1
        · rw [if_pos h3, if_pos h3]
        · rw [if_neg h3, if_neg h3, if_pos h0, if_pos (by omega), h]
    · rw [if_neg h1, if_neg h1]
  · rw [if_neg h, if_neg h]
theorem byteP_fit (c : Cur) (h : Fit c.1) : Fit (byteP c).2.1 := by
  unfold byteP
  repeat' split
  all_goals first | exact h | exact Nat.le_trans (extract_le _ _ _) h
theorem uintP_fit (c : Cur) (h : Fit c.1) : Fit (uintP c).2.1 := by
  unfold uintP
  split
  · exact Nat.le_trans (nextP_size _) h
  · exact h
theorem textP_fit (c : Cur) (h : Fit c.1) : Fit (textP c).2.1 := by
  unfold textP
  repeat' split
  all_goals first | exact h | exact Nat.le_trans (extract_le _ _ _) (Nat.le_trans (nextP_size _) h)
def countP (c : Cur) : (Int × Int) × Cur := if (uintP c).1 > 65536 then ((0, 3), (uintP c).2) else (((uintP c).1, (uintP c).2.2), (uintP c).2)
theorem uintP_nonneg (c : Cur) : 0 ≤ (uintP c).1 := by
  unfold uintP
  split
  · exact nextP_nonneg _
  · exact Int.le_refl _
theorem count_f (c : Cur) : texts_count.f c.1 c.2 = some ((countP c).1.1, (countP c).1.2, (countP c).2.1, (countP c).2.2) := by
  unfold texts_count.f countP
  rw [uint_f]
  simp only [withC, Option.bind_some]
  by_cases h : (uintP c).1 > 65536
  · rw [if_pos h, if_pos h]
  · have h0 := uintP_nonneg c
    rw [if_neg h, if_neg h, err_f]
    simp only [withC, Option.bind_some]
    rw [show wrap64 (uintP c).1 = (uintP c).1 by unfold wrap64; omega]
theorem countP_range (c : Cur) : 0 ≤ (countP c).1.1 ∧ (countP c).1.1 ≤ 65536 := by
  unfold countP
  have h0 := uintP_nonneg c
  split <;> simp <;> omega
def getP : Nat → List ByteArray → Cur → (List ByteArray × Int) × Cur
  | 0, l, c => ((l, 0), c)
  | n + 1, l, c => if (textP c).2.2 = 0 then getP n (l ++ [(textP c).1]) (textP c).2 else (([], (textP c).2.2), (textP c).2)
theorem get_l (n : Int) (hn : n ≤ 65536) : ∀ (d k : Nat) (l : List ByteArray) (j : Int) (c : Cur), 0 ≤ j → n - j = d → d + 1 < k → l.length = j.toNat → Fit c.1 →
    texts_get.l0 k l n j c.1 c.2 = some ((getP d l c).1.1, (getP d l c).1.2, (getP d l c).2.1, (getP d l c).2.2) := by
  intro d
  induction d with
  | zero =>
    intro k l j c hj hd hk hl hs
    obtain ⟨k, rfl⟩ : ∃ m, k = m + 1 := ⟨k - 1, by omega⟩
    simp only [texts_get.l0]
    rw [if_neg (by omega)]
    rfl
  | succ d ih =>
    intro k l j c hj hd hk hl hs
    obtain ⟨k, rfl⟩ : ∃ m, k = m + 1 := ⟨k - 1, by omega⟩
    obtain ⟨k', rfl⟩ : ∃ m, k = m + 1 := ⟨k - 1, by omega⟩
    rw [texts_get.l0.eq_def]
    simp only
    rw [if_pos (by omega), text_f k' c hs]
    simp only [withC, Option.bind_some]
    rw [err_f]
    simp only [withC, Option.bind_some, getP]
    by_cases h : (textP c).2.2 = 0
    · rw [if_pos h, if_pos h, if_pos (by omega), show wrap64 (j + 1) = j + 1 by unfold wrap64; omega]
      exact ih (k' + 1) (l ++ [(textP c).1]) (j + 1) (textP c).2 (by omega) (by omega) (by omega) (by rw [List.length_append, hl, List.length_singleton]; omega) (textP_fit c hs)
    · rw [if_neg h, if_neg h, err_f]
      simp only [withC, Option.bind_some]
theorem get_f (k n : Nat) (c : Cur) (hn : n ≤ 65536) (hk : n + 1 < k) (hs : Fit c.1) : texts_get.f k c.1 c.2 (n : Int) = some ((getP n [] c).1.1, (getP n [] c).1.2, (getP n [] c).2.1, (getP n [] c).2.2) :=
  get_l n (by omega) n k [] 0 c (by omega) (by omega) hk rfl hs
def afterP (l : List ByteArray) (t : ByteArray) : Bool := match l.getLast? with
  | none => true
  | some x => !(Op.bytesLess t.toList x.toList || t.toList == x.toList)
def ordP : Nat → List ByteArray → Cur → (List ByteArray × Int) × Cur
  | 0, l, c => ((l, 0), c)
  | n + 1, l, c => if (textP c).2.2 = 0 then (if afterP l (textP c).1 = true then ordP n (l ++ [(textP c).1]) (textP c).2 else (([], 4), (textP c).2)) else (([], (textP c).2.2), (textP c).2)
theorem ord_l (n : Int) (hn : n ≤ 65536) : ∀ (d k : Nat) (l : List ByteArray) (j : Int) (c : Cur), 0 ≤ j → n - j = d → d + 1 < k → l.length = j.toNat → Fit c.1 →
    texts_getOrdered.l0 k l n j c.1 c.2 = some ((ordP d l c).1.1, (ordP d l c).1.2, (ordP d l c).2.1, (ordP d l c).2.2) := by
  intro d
  induction d with
  | zero =>
    intro k l j c hj hd hk hl hs
    obtain ⟨k, rfl⟩ : ∃ m, k = m + 1 := ⟨k - 1, by omega⟩
    simp only [texts_getOrdered.l0]
    rw [if_neg (by omega)]
    rfl
  | succ d ih =>
    intro k l j c hj hd hk hl hs
    obtain ⟨k, rfl⟩ : ∃ m, k = m + 1 := ⟨k - 1, by omega⟩
    obtain ⟨k', rfl⟩ : ∃ m, k = m + 1 := ⟨k - 1, by omega⟩
    rw [texts_getOrdered.l0.eq_def]
    simp only
    rw [if_pos (by omega), text_f k' c hs]
    simp only [withC, Option.bind_some]
    rw [err_f]
    simp only [withC, Option.bind_some, ordP]
    by_cases h : (textP c).2.2 = 0
    · have hgo := ih (k' + 1) (l ++ [(textP c).1]) (j + 1) (textP c).2 (by omega) (by omega) (by omega) (by rw [List.length_append, hl, List.length_singleton]; omega) (textP_fit c hs)
      rw [if_pos h, if_pos h, show wrap64 (j + 1) = j + 1 by unfold wrap64; omega]
      by_cases h0 : (l.length : Int) > 0
      · have hlast : l.getLast? = some (rdOf ByteArray.empty l (wrap64 ((l.length : Int) - 1))) := by
          rw [show wrap64 ((l.length : Int) - 1) = (l.length : Int) - 1 by unfold wrap64; omega, List.getLast?_eq_getElem?]
          have : ((l.length : Int) - 1).toNat = l.length - 1 := by omega
          simp only [rdOf, this]
          rw [List.getD_eq_getElem?_getD, List.getElem?_eq_getElem (show l.length - 1 < l.length by omega)]
          rfl
        have haf : afterP l (textP c).1 = !(Op.bytesLess (textP c).1.toList (rdOf ByteArray.empty l (wrap64 ((l.length : Int) - 1))).toList || (textP c).1.toList == (rdOf ByteArray.empty l (wrap64 ((l.length : Int) - 1))).toList) := by
          unfold afterP; rw [hlast]
        rw [if_pos h0, if_pos (by unfold wrap64; omega), if_pos (by unfold wrap64; omega), haf]
        cases (Op.bytesLess (textP c).1.toList (rdOf ByteArray.empty l (wrap64 ((l.length : Int) - 1))).toList || (textP c).1.toList == (rdOf ByteArray.empty l (wrap64 ((l.length : Int) - 1))).toList) with
        | true => rw [if_pos rfl, if_neg (by decide)]
        | false => rw [if_neg (by decide), if_pos (by omega), if_pos (by decide)]; exact hgo
      · have : l = [] := List.eq_nil_of_length_eq_zero (by omega)
        subst this
        rw [if_neg h0, if_pos (show ([] : List ByteArray).length < 8796093022208 by decide), if_pos (show afterP [] _ = true from rfl)]
        exact hgo
    · rw [if_neg h, if_neg h, err_f]
      simp only [withC, Option.bind_some]
def getOrdP (c : Cur) : (List ByteArray × Int) × Cur := if (countP c).1.2 = 0 then ordP (countP c).1.1.toNat [] (countP c).2 else (([], (countP c).1.2), (countP c).2)
theorem countP_fit (c : Cur) (h : Fit c.1) : Fit (countP c).2.1 := by
  unfold countP
  split <;> exact uintP_fit c h
theorem getOrd_f (k : Nat) (c : Cur) (hk : 65537 < k) (hs : Fit c.1) : texts_getOrdered.f k c.1 c.2 = some ((getOrdP c).1.1, (getOrdP c).1.2, (getOrdP c).2.1, (getOrdP c).2.2) := by
  unfold texts_getOrdered.f getOrdP
  have hr := countP_range c
  rw [count_f]
  simp only [Option.bind_some]
  by_cases h : (countP c).1.2 = 0
  · rw [if_pos h, if_pos h]
    exact ord_l _ hr.2 _ k [] 0 (countP c).2 (by omega) (by omega) (by omega) rfl (countP_fit c hs)
  · rw [if_neg h, if_neg h]
end Go.Proofs.Ytimjafjicnlhfaa.A
