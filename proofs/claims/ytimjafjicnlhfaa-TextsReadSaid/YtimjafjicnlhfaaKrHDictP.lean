/- The words of texts in order, each once, and where a text stands among them: plain. -/
import Derived.Test.YtimjafjicnlhfaaKrAx0
import Derived.Test.YtimjafjicnlhfaaKrAx2
import Derived.Test.YtimjafjicnlhfaaKrHSortJ
namespace Go.Proofs.Ytimjafjicnlhfaa.A
open Go.RowKit Go.Proofs.YtimjafjicnlhfaaW.PrintWords Go.Proofs.YtimjafjicnlhfaaW.PrintLast Go.Proofs.YtimjafjicnlhfaaW.PrintMore
open Go.Sort
set_option linter.unusedVariables false
set_option linter.unusedSimpArgs false
theorem less_lt : ∀ a b : List UInt8, Op.bytesLess a b = true ↔ a < b
  | [], [] => by simp [Op.bytesLess]
  | [], _ :: _ => by simp [Op.bytesLess]
  | _ :: _, [] => by simp [Op.bytesLess]
  | x :: r, y :: s => by
    rw [List.cons_lt_cons_iff, ← less_lt r s]
    simp [Op.bytesLess]
theorem compact_props (zs : List (List UInt8)) (hs : zs.Pairwise (· ≤ ·)) : ∀ m, m ≤ zs.length →
    (Lib.compactUpTo zs.toArray m).Pairwise (· < ·) ∧ (∀ x, x ∈ Lib.compactUpTo zs.toArray m ↔ x ∈ zs.take m) := by
  intro m
  induction m with
  | zero => intro _; simp [Lib.compactUpTo]
  | succ m ih =>
    intro hm
    obtain ⟨h1, h2⟩ := ih (by omega)
    have hml : m < zs.length := by omega
    have hget : zs.toArray[m]! = zs[m] := by simp [hml]
    have htk : zs.take (m + 1) = zs.take m ++ [zs[m]] := by rw [List.take_add_one, List.getElem?_eq_getElem hml]; rfl
    rw [Lib.compactUpTo_succ, hget]
    by_cases hk : Lib.keeps zs.toArray m = true
    · rw [if_pos hk]
      refine ⟨List.pairwise_append.2 ⟨h1, by simp, ?_⟩, ?_⟩
      · intro a ha b hb
        rw [List.mem_singleton] at hb
        subst hb
        rw [h2, List.mem_take_iff_getElem] at ha
        obtain ⟨i, hi, rfl⟩ := ha
        have him : i < m := by omega
        have hle : zs[i] ≤ zs[m - 1] := by
          rcases Nat.lt_or_ge i (m - 1) with h | h
          · exact List.pairwise_iff_getElem.1 hs i (m - 1) (by omega) (by omega) h
          · have : i = m - 1 := by omega
            subst this
            exact List.le_refl _
        have hle2 : zs[m - 1] ≤ zs[m] := List.pairwise_iff_getElem.1 hs (m - 1) m (by omega) hml (by omega)
        have hne : zs[m] ≠ zs[m - 1] := by
          have := of_decide_eq_true hk
          rcases this with h0 | h0
          · omega
          · have e1 : zs.toArray[m - 1]! = zs[m - 1] := by simp [show m - 1 < zs.length by omega]
            rw [hget, e1] at h0
            exact h0
        rcases List.le_iff_lt_or_eq.1 (List.le_trans hle hle2) with h | h
        · exact h
        · exact absurd (List.le_antisymm (h ▸ hle) hle2) (fun e => hne e)
      · intro x
        rw [List.mem_append, h2, htk, List.mem_append]
    · rw [if_neg hk, List.append_nil]
      refine ⟨h1, fun x => ?_⟩
      rw [h2, htk, List.mem_append, List.mem_singleton]
      refine ⟨.inl, fun h => h.elim id (fun e => ?_)⟩
      have hk0 : ¬ (m = 0 ∨ zs.toArray[m]! ≠ zs.toArray[m - 1]!) := fun h => hk (decide_eq_true h)
      have hm0 : m ≠ 0 := fun e => hk0 (.inl e)
      have e1 : zs.toArray[m - 1]! = zs[m - 1] := by simp [show m - 1 < zs.length by omega]
      have e2 : zs[m] = zs[m - 1] := by
        rw [hget, e1] at hk0
        exact Classical.not_not.1 (fun h => hk0 (.inr h))
      rw [e, e2, List.mem_take_iff_getElem]
      exact ⟨m - 1, by omega, rfl⟩
def wordsB (l : List ByteArray) : List (List UInt8) := Lib.compact ((strsOf l).mergeSort (fun x y => decide (x ≤ y)))
def ofB (x : List UInt8) : ByteArray := ⟨x.toArray⟩
def wordsP (l : List ByteArray) : List ByteArray := (wordsB l).map ofB
theorem wordsB_props (l : List ByteArray) : (wordsB l).Pairwise (· < ·) ∧ ∀ x, x ∈ wordsB l ↔ x ∈ strsOf l := by
  have hs : ((strsOf l).mergeSort (fun x y => decide (x ≤ y))).Pairwise (· ≤ ·) := by
    have := List.pairwise_mergeSort (le := fun (x y : List UInt8) => decide (x ≤ y)) (fun a b c h1 h2 => decide_eq_true (List.le_trans (of_decide_eq_true h1) (of_decide_eq_true h2)))
      (fun a b => by rcases List.le_total a b with h | h <;> simp [h]) (strsOf l)
    exact this.imp (fun h => of_decide_eq_true h)
  have h := compact_props _ hs _ (Nat.le_refl _)
  refine ⟨h.1, fun x => (h.2 x).trans ?_⟩
  rw [List.take_length]
  exact List.mem_mergeSort
theorem wordsB_le (l : List ByteArray) : (wordsB l).length ≤ l.length := by
  have := compact_le ((strsOf l).mergeSort (fun x y => decide (x ≤ y)))
  rw [List.length_mergeSort] at this
  unfold strsOf at this
  rw [List.length_map] at this
  exact this
theorem mem_words (l : List ByteArray) (s : ByteArray) : s ∈ wordsP l ↔ s ∈ l := by
  unfold wordsP
  rw [List.mem_map]
  constructor
  · rintro ⟨x, hx, rfl⟩
    rw [(wordsB_props l).2] at hx
    unfold strsOf at hx
    obtain ⟨t, ht, rfl⟩ := List.mem_map.1 hx
    exact ht
  · intro h
    exact ⟨s.data.toList, ((wordsB_props l).2 _).2 (List.mem_map_of_mem h), rfl⟩
def Risen (ws : List ByteArray) : Prop := ws.Pairwise (fun a b => a.data.toList < b.data.toList)
theorem words_risen (l : List ByteArray) : Risen (wordsP l) := by
  unfold Risen wordsP
  rw [List.pairwise_map]
  exact (wordsB_props l).1
theorem wordsP_le (l : List ByteArray) : (wordsP l).length ≤ l.length := by unfold wordsP; rw [List.length_map]; exact wordsB_le l
theorem cmpless_f (a b : ByteArray) : cmp_Less_string.f a b = some (Op.bytesLess a.toList b.toList) := by
  simp [cmp_Less_string.f, cmp_isNaN_string.f]
theorem risen_at {ws : List ByteArray} (h : Risen ws) (i j : Nat) (hi : i < ws.length) (hj : j < ws.length) : (ws[i]).data.toList < (ws[j]).data.toList ↔ i < j := by
  constructor
  · intro hlt
    rcases Nat.lt_trichotomy i j with h1 | h1 | h1
    · exact h1
    · subst h1
      exact absurd hlt (List.lt_irrefl _)
    · exact absurd (List.lt_trans hlt (List.pairwise_iff_getElem.1 h j i hj hi h1)) (List.lt_irrefl _)
  · exact fun h1 => List.pairwise_iff_getElem.1 h i j hi hj h1
theorem bs_l {ws : List ByteArray} (h : Risen ws) (hl : ws.length ≤ 65536) (q : Nat) (hq : q < ws.length) : ∀ (d k i j : Nat), j - i ≤ d → d + 1 < k → i ≤ q → q < j + 1 → j ≤ ws.length → i ≤ j →
    slices_BinarySearch_string_string.l0 k ws ws[q] (ws.length : Int) (i : Int) (j : Int) = some ((q : Int), true) := by
  intro d
  induction d with
  | zero =>
    intro k i j hd hk hi hj hjl hij
    obtain ⟨k, rfl⟩ : ∃ m, k = m + 1 := ⟨k - 1, by omega⟩
    have e : i = q := by omega
    subst e
    have e2 : j = i := by omega
    subst e2
    simp only [slices_BinarySearch_string_string.l0]
    have hrd : rdOf ByteArray.empty ws (j : Int) = ws[j] := by simp [rdOf, hq]
    rw [if_neg (by omega), if_pos (by omega), if_pos (by omega), if_pos (by omega), hrd, if_pos rfl]
  | succ d ih =>
    intro k i j hd hk hi hj hjl hij
    obtain ⟨k, rfl⟩ : ∃ m, k = m + 1 := ⟨k - 1, by omega⟩
    by_cases hlt : i < j
    · obtain ⟨m, hm⟩ : ∃ m : Nat, m = (i + j) / 2 := ⟨_, rfl⟩
      have hmid : wrap64 ((IntKind.u64.wrap (wrap64 ((i : Int) + (j : Int)))) / 2) = (m : Int) := by
        have h1 : wrap64 ((i : Int) + (j : Int)) = (i : Int) + j := by unfold wrap64; omega
        rw [h1, IntWalk.u64_in _ (by omega)]
        unfold wrap64
        omega
      have hml : m < ws.length := by omega
      have hrd : rdOf ByteArray.empty ws (m : Int) = ws[m] := by simp [rdOf, hml]
      have hmw : wrap64 ((m : Int) + 1) = ((m + 1 : Nat) : Int) := by unfold wrap64; omega
      simp only [slices_BinarySearch_string_string.l0]
      rw [hmid, hmw]
      clear hmid hmw
      rw [if_pos (by omega), if_pos (by omega), if_pos (by omega), hrd, cmpless_f]
      simp only [Option.bind_some]
      have hless : Op.bytesLess (ws[m]).toList (ws[q]).toList = true ↔ m < q := by
        rw [ByteArray.toList_eq, ByteArray.toList_eq, less_lt]
        exact risen_at h m q hml hq
      by_cases hmq : m < q
      · rw [if_pos (hless.2 hmq)]
        exact ih k (m + 1) j (by omega) (by omega) (by omega) hj hjl (by omega)
      · rw [if_neg (fun e => hmq (hless.1 e))]
        exact ih k i m (by omega) (by omega) hi (by omega) (by omega) (by omega)
    · have e : i = q := by omega
      subst e
      have e2 : j = i := by omega
      subst e2
      simp only [slices_BinarySearch_string_string.l0]
      have hrd : rdOf ByteArray.empty ws (j : Int) = ws[j] := by simp [rdOf, hq]
      rw [if_neg (by omega), if_pos (by omega), if_pos (by omega), if_pos (by omega), hrd, if_pos rfl]
theorem bs_f (k : Nat) {ws : List ByteArray} (h : Risen ws) (hl : ws.length ≤ 65536) (q : Nat) (hq : q < ws.length) (hk : 65540 < k) : slices_BinarySearch_string_string.f k ws ws[q] = some ((q : Int), true) :=
  bs_l h hl q hq ws.length k 0 ws.length (by omega) (by omega) (by omega) (by omega) (Nat.le_refl _) (by omega)
def posP (ws : List ByteArray) (s : ByteArray) : Nat := ws.findIdx (fun x => decide (x = s))
theorem posP_lt {ws : List ByteArray} {s : ByteArray} (h : s ∈ ws) : posP ws s < ws.length := List.findIdx_lt_length_of_exists ⟨s, h, by simp⟩
theorem posP_get {ws : List ByteArray} {s : ByteArray} (h : s ∈ ws) : ws[posP ws s]'(posP_lt h) = s := by
  have := List.findIdx_getElem (p := fun x => decide (x = s)) (xs := ws) (w := posP_lt h)
  exact of_decide_eq_true this
theorem bs_pos (k : Nat) {ws : List ByteArray} (h : Risen ws) (hl : ws.length ≤ 65536) {s : ByteArray} (hs : s ∈ ws) (hk : 65540 < k) : slices_BinarySearch_string_string.f k ws s = some ((posP ws s : Int), true) := by
  have := bs_f k h hl (posP ws s) (posP_lt hs) hk
  rw [posP_get hs] at this
  exact this
def numsP (ws l : List ByteArray) : List Int := l.map (fun s => (posP ws s : Int))
end Go.Proofs.Ytimjafjicnlhfaa.A
