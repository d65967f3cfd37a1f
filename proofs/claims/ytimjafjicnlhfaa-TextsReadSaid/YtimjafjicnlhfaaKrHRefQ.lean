/- What the reference reads is what the program reads. Plain, and the contract joined. -/
import Derived.Test.YtimjafjicnlhfaaKrAx0
import Derived.Test.YtimjafjicnlhfaaKrHRefRead
namespace Go.Proofs.Ytimjafjicnlhfaa.A
open Go.RowKit Go.Proofs.YtimjafjicnlhfaaW.PrintWords Go.Proofs.YtimjafjicnlhfaaW.PrintLast Go.Proofs.YtimjafjicnlhfaaW.PrintMore
set_option linter.unusedVariables false
set_option linter.unusedSimpArgs false
theorem nextP_zero (s : ByteArray) (h : ¬ (nextP s).2.2 = 0) : (nextP s).1 = 0 := by
  unfold nextP at h ⊢
  by_cases h0 : s.size = 0
  · rw [if_pos h0]
  rw [if_neg h0] at h ⊢
  by_cases h1 : 192 < bt s 0
  · rw [if_pos h1]
  rw [if_neg h1] at h ⊢
  by_cases h2 : s.size < sizeN (bt s 0)
  · rw [if_pos h2]
  rw [if_neg h2] at h ⊢
  by_cases h3 : foldB (if bt s 0 = 192 then 0 else bt s 0 % 64) ((s.data.toList.take (sizeN (bt s 0))).drop 1) < leastN (sizeN (bt s 0))
  · rw [if_pos h3]
  · rw [if_neg h3] at h
    exact absurd rfl h
theorem uintP_zero (c : Cur) (h : ¬ (uintP c).2.2 = 0) : (uintP c).1 = 0 := by
  unfold uintP at h ⊢
  by_cases hc : c.2 = 0
  · rw [if_pos hc] at h ⊢
    exact nextP_zero _ h
  · rw [if_neg hc]
theorem uintP_stop (c : Cur) (h : ¬ c.2 = 0) : uintP c = (0, c) := if_neg h
theorem countP_long (c : Cur) (h : (uintP c).1 > 65536) : countP c = ((0, 3), (uintP c).2) := if_pos h
theorem countP_fine (c : Cur) (h : ¬ (uintP c).1 > 65536) : countP c = (((uintP c).1, (uintP c).2.2), (uintP c).2) := if_neg h
theorem readP_eq (s : ByteArray) : readP s = if (byteP (s, 0)).2.2 = 0 ∧ (byteP (s, 0)).1 ≥ 2 then ([], 4) else
    if (countP (byteP (s, 0)).2).1.2 = 0 then
      (if (bodyP (byteP (s, 0)).1 (countP (byteP (s, 0)).2).1.1.toNat (countP (byteP (s, 0)).2).2).1.2 = 0 then endP (bodyP (byteP (s, 0)).1 (countP (byteP (s, 0)).2).1.1.toNat (countP (byteP (s, 0)).2).2).1.1 (bodyP (byteP (s, 0)).1 (countP (byteP (s, 0)).2).1.1.toNat (countP (byteP (s, 0)).2).2).2
      else ([], (bodyP (byteP (s, 0)).1 (countP (byteP (s, 0)).2).1.1.toNat (countP (byteP (s, 0)).2).2).1.2))
    else ([], (countP (byteP (s, 0)).2).1.2) := rfl
theorem chosen_ref3 (n : Nat) (c : Cur) : (if (chosenP n c).1.2 = 0 then endP (chosenP n c).1.1 (chosenP n c).2 else ([], (chosenP n c).1.2)) = if (getOrdP c).1.2 = 0 then ref3 1 n (getOrdP c) else ([], (getOrdP c).1.2) := by
  unfold chosenP ref3 pickP
  generalize getOrdP c = T
  by_cases h1 : T.1.2 = 0
  · simp only [if_pos h1]
    by_cases h2 : (numP n T.2).1.2.2 = 0
    · simp only [if_pos h2, if_true]
    · simp only [if_neg h2, if_true]
  · simp only [if_neg h1]
theorem ref3_err (b : Int) (n : Nat) (T : (List ByteArray × Int) × Cur) (h : ¬ T.1.2 = 0) : ref3 b n T = ([], T.1.2) := if_neg h
theorem get_ref3 (b : Int) (hb : ¬ b = 1) (n : Nat) (c : Cur) : (if (getP n [] c).1.2 = 0 then endP (getP n [] c).1.1 (getP n [] c).2 else ([], (getP n [] c).1.2)) = ref3 b n (takeP (decide (b = 1)) n [] c) := by
  have ht : takeP (decide (b = 1)) n [] c = getP n [] c := by
    unfold takeP
    rw [decide_eq_false hb, if_neg (by decide)]
  rw [ht]
  unfold ref3
  rw [if_neg hb]
theorem refR_readP (s : ByteArray) : refR s = readP s := by
  rw [readP_eq]
  unfold refR
  generalize byteP (s, 0) = B
  obtain ⟨b, c⟩ := B
  unfold ref1
  simp only
  by_cases h0 : c.2 = 0 ∧ b > 1
  · rw [if_pos h0, if_pos ⟨h0.1, by have := h0.2; omega⟩]
  rw [if_neg h0, if_neg (fun (h : c.2 = 0 ∧ b ≥ 2) => h0 ⟨h.1, by have := h.2; omega⟩)]
  by_cases hn : (uintP c).1 > 65536
  · rw [countP_long c hn]
    simp only
    have hl : ∀ (x : Int) (M : Int × Cur), ref2 x (uintP c).1 M = ([], 3) := fun x M => if_pos hn
    by_cases hb : b = 1
    · rw [if_pos hb]; exact (hl _ _).trans (if_neg (by decide : ¬ (3 : Int) = 0)).symm
    · rw [if_neg hb]; exact (hl _ _).trans (if_neg (by decide : ¬ (3 : Int) = 0)).symm
  rw [countP_fine c hn]
  simp only
  by_cases he : (uintP c).2.2 = 0
  · rw [if_pos he]
    by_cases hb : b = 1
    · rw [if_pos hb]
      subst hb
      have hbody : bodyP 1 (uintP c).1.toNat (uintP c).2 = chosenP (uintP c).1.toNat (uintP c).2 := if_pos rfl
      rw [hbody, chosen_ref3]
      unfold ref2
      rw [if_neg hn]
      generalize (uintP c).1.toNat = n
      generalize (uintP c).2 = c2 at he ⊢
      unfold getOrdP
      by_cases hm : (uintP c2).1 > 65536
      · have he3 : (uintP c2).2.2 = 0 := Decidable.byContradiction fun h => by rw [uintP_zero c2 h] at hm; exact absurd hm (by decide)
        rw [countP_long c2 hm, if_pos he3, if_pos hm]
        rfl
      · rw [countP_fine c2 hm]
        simp only
        by_cases he3 : (uintP c2).2.2 = 0
        · rw [if_pos he3, if_neg hm]
          simp only [if_pos he3]
          have ht : takeP (decide True) (uintP c2).1.toNat [] (uintP c2).2 = ordP (uintP c2).1.toNat [] (uintP c2).2 := by
            unfold takeP
            exact if_pos (by simp)
          rw [ht]
          split
          · rfl
          · rename_i h5
            exact ref3_err 1 n _ h5
        · rw [if_neg he3]
          simp only [if_neg he3]
    · rw [if_neg hb]
      have hbody : bodyP b (uintP c).1.toNat (uintP c).2 = getP (uintP c).1.toNat [] (uintP c).2 := if_neg hb
      rw [hbody, get_ref3 b hb]
      unfold ref2
      rw [if_neg hn, if_pos he, if_neg hn]
  · rw [if_neg he]
    unfold ref2
    by_cases hb : b = 1
    · rw [if_pos hb, if_neg hn, uintP_stop _ he]
      exact if_neg he
    · rw [if_neg hb, if_neg hn]
      exact if_neg he
def tithebarnref05_Read.f (a0 : ByteArray) : Option (List ByteArray × Int) := if Fit a0 then some (readP a0) else none
theorem tithebarnref05_Read.calls (a0 : ByteArray) (r1 : List ByteArray) (r2 : Int) (w : World) (h : tithebarnref05_Read.f a0 = some (r1, r2)) :
    Calls Try.prog 13 #[.string a0] w fun e w' => ∃ v0_ : Value, e = .returned (.tuple #[v0_, .int .i64 r2]) ∧ Kd.R Kd.string 9 w' w.heap.size (fun _ => True) v0_ r1 ∧ Below w.heap.size w w' := by
  unfold tithebarnref05_Read.f at h
  by_cases hf : Fit a0
  · rw [if_pos hf] at h
    have h := Option.some.inj h
    have hc := refRead.calls a0 hf w
    rw [refR_readP, h] at hc
    exact hc
  · rw [if_neg hf] at h
    exact absurd h (by simp)
end Go.Proofs.Ytimjafjicnlhfaa.A
