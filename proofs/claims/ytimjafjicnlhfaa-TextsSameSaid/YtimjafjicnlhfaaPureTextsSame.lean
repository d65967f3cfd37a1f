/- TextsSame: one text over and over needs few bytes. Plain. -/
import Derived.Test.YtimjafjicnlhfaaAx0
import Derived.Test.YtimjafjicnlhfaaAx11
import Derived.Test.YtimjafjicnlhfaaHLivesI
namespace Go.Proofs.Ytimjafjicnlhfaa.A
open Go.RowKit Go.Proofs.YtimjafjicnlhfaaW.PrintWords Go.Proofs.YtimjafjicnlhfaaW.PrintLast Go.Proofs.YtimjafjicnlhfaaW.PrintMore
set_option linter.unusedVariables false
set_option linter.unusedSimpArgs false

theorem uintB_one (n : Int) (h : n < 64) : (uintB n).length = 1 := by unfold uintB; rw [if_pos h]; rfl
theorem uintB_two (n : Int) (h : n < 16384) : (uintB n).length ≤ 2 := by
  unfold uintB
  by_cases h1 : n < 64
  · rw [if_pos h1]; simp
  · rw [if_neg h1, if_pos h, bigB_length]; omega
theorem words_same (n : Nat) (s : ByteArray) : wordsP (List.replicate n s) = if n = 0 then [] else [s] := by
  apply risen_ext _ _ (words_risen _)
  · by_cases h : n = 0
    · rw [if_pos h]; exact List.Pairwise.nil
    · rw [if_neg h]; exact List.pairwise_singleton _ _
  · intro x
    rw [mem_words, List.mem_replicate]
    by_cases h : n = 0
    · rw [if_pos h]; simp [h]
    · rw [if_neg h, List.mem_singleton]; exact ⟨fun e => e.2, fun e => ⟨h, e⟩⟩
theorem same_size (n : Nat) (s : ByteArray) (hn : n < 2000) (hs : s.size ≤ 64) : (withP (List.replicate n s) 1).2 = 0 ∧ (withP (List.replicate n s) 0).2 = 0 ∧ (withP (List.replicate n s) 1).1.size ≤ s.size + 8 := by
  have hlong : longP (List.replicate n s) = false := (longP_iff _).2 ⟨by rw [List.length_replicate]; omega, fun t ht => by rw [List.mem_replicate] at ht; rw [ht.2]; exact hs⟩
  have h1 : withP (List.replicate n s) 1 = (strOfNums ([1] ++ uintB (List.replicate n s).length ++ dictB (List.replicate n s)), 0) := by
    unfold withP
    rw [if_neg (by decide), hlong, if_neg (by decide), if_neg (by decide)]
  have h0 : withP (List.replicate n s) 0 = (strOfNums ([0] ++ uintB (List.replicate n s).length ++ putB (List.replicate n s)), 0) := by
    unfold withP
    rw [if_neg (by decide), hlong, if_neg (by decide), if_pos rfl]
  refine ⟨by rw [h1], by rw [h0], ?_⟩
  rw [h1]
  show (strOfNums ([1] ++ uintB (List.replicate n s).length ++ dictB (List.replicate n s))).size ≤ s.size + 8
  have hw : widthP (numsP (wordsP (List.replicate n s)) (List.replicate n s)) = 0 := by
    have hr := numsP_range (wordsP (List.replicate n s)) (List.replicate n s) (fun t ht => (mem_words _ t).2 ht)
    have := (widthP_le (numsP (wordsP (List.replicate n s)) (List.replicate n s)) 0).2 (fun x hx => by
      have h := hr x hx
      rw [words_same] at h
      by_cases e : n = 0
      · rw [if_pos e] at h; simp at h; omega
      · rw [if_neg e] at h; simp at h; simp; omega)
    omega
  have hu := uintB_two ((List.replicate n s).length : Int) (by rw [List.length_replicate]; omega)
  have hp : (packB (allBits 0 (numsP (wordsP (List.replicate n s)) (List.replicate n s)))).length = 0 := by
    rw [packB_length, allBits_length, Nat.mul_zero]
  rw [strOfNums_size, List.length_append, List.length_append, dictB_eq _ _ _ _ rfl rfl hw (by decide), List.length_append, List.length_append, List.length_append, hp, words_same]
  by_cases e : n = 0
  · rw [if_pos e]
    have := uintB_one (([] : List ByteArray).length : Int) (by decide)
    rw [this]
    show 1 + _ + (1 + 0 + 1 + 0) ≤ _
    omega
  · rw [if_neg e]
    have h2 := uintB_one (([s] : List ByteArray).length : Int) (by show (1 : Int) < 64; decide)
    have h3 := uintB_two (s.size : Int) (by omega)
    have h4 : (putB [s]).length ≤ 2 + s.size := by
      rw [putB_cons]
      unfold textB
      rw [List.length_append, List.length_append, bytesOf_length]
      show _ + 0 ≤ _
      omega
    rw [h2]
    show 1 + _ + (1 + _ + 1 + 0) ≤ _
    omega
theorem same_best (n : Nat) (s : ByteArray) (hn : n < 2000) (hs : s.size ≤ 64) : ∃ b, texts_Best.f (List.replicate n s) = some (b, 0) ∧ b.size ≤ s.size + 8 := by
  have h := same_size n s hn hs
  unfold texts_Best.f texts_With.f
  rw [Option.bind_some, Option.bind_some, if_pos h.2.1]
  by_cases hl : ((withP (List.replicate n s) 1).1.size : Int) < ((withP (List.replicate n s) 0).1.size : Int)
  · rw [if_pos hl, h.2.1]; exact ⟨_, rfl, h.2.2⟩
  · rw [if_neg hl, h.2.1]; exact ⟨_, rfl, by omega⟩
theorem same_l (s : ByteArray) (a1 : Int) (n : Nat) (hn : wrap64 (Int.tmod (IntKind.u64.wrap a1) 2000) = n) (hn2 : n < 2000) (hs : s.size ≤ 64) : ∀ (d k j : Nat), j + d = n → d < k →
    tithebarnlaw05_TextsSame.l0 k s a1 (List.replicate j s) (j : Int) = some true := by
  intro d
  induction d with
  | zero =>
    intro k j hj hk
    obtain ⟨k, rfl⟩ : ∃ m, k = m + 1 := ⟨k - 1, by omega⟩
    obtain ⟨b, hb, hbs⟩ := same_best n s hn2 hs
    have e1 : wrap64 ((s.size : Int) + 2) = (s.size : Int) + 2 := by unfold wrap64; omega
    have e2 : wrap64 ((s.size : Int) + 2 + 6) = (s.size : Int) + 2 + 6 := by unfold wrap64; omega
    rw [tithebarnlaw05_TextsSame.l0, hn, if_neg (by omega), show j = n by omega, hb, Option.bind_some, if_pos rfl, e1, e2]
    exact congrArg some (decide_eq_true (show (b.size : Int) ≤ (s.size : Int) + 2 + 6 by omega))
  | succ d ih =>
    intro k j hj hk
    obtain ⟨k, rfl⟩ : ∃ m, k = m + 1 := ⟨k - 1, by omega⟩
    have e1 : wrap64 ((j : Int) + 1) = ((j + 1 : Nat) : Int) := by unfold wrap64; omega
    rw [tithebarnlaw05_TextsSame.l0, hn, if_pos (by omega), if_pos (by rw [List.length_replicate]; omega), e1, ← List.replicate_succ']
    exact ih k (j + 1) (by omega) (by omega)
theorem textsSame_true (a0 : ByteArray) (a1 : Int) : ∃ k, tithebarnlaw05_TextsSame.f k a0 a1 = some true := by
  refine ⟨2002, ?_⟩
  unfold tithebarnlaw05_TextsSame.f
  rw [lives_true, Option.bind_some, if_pos rfl, tithebarnlaw05_TextsSame.j0]
  by_cases h : a0.size > 64
  · rw [decide_eq_true (by omega), if_pos rfl, lives_true]; rfl
  · rw [decide_eq_false (by omega), if_neg (by decide)]
    have hr : 0 ≤ IntKind.u64.wrap a1 := by show 0 ≤ a1 % _; exact Int.emod_nonneg _ (by decide)
    have ht : Int.tmod (IntKind.u64.wrap a1) 2000 = (((IntKind.u64.wrap a1 % 2000).toNat : Nat) : Int) := by
      rw [Int.tmod_eq_emod_of_nonneg hr, Int.toNat_of_nonneg (by omega)]
    have hlt : (IntKind.u64.wrap a1 % 2000).toNat < 2000 := by omega
    have hwr : wrap64 (Int.tmod (IntKind.u64.wrap a1) 2000) = (((IntKind.u64.wrap a1 % 2000).toNat : Nat) : Int) := by
      rw [ht]; unfold wrap64; omega
    have := same_l a0 a1 _ hwr hlt (by omega) _ 2001 0 (Nat.zero_add _) (by omega)
    exact this
end Go.Proofs.Ytimjafjicnlhfaa.A
namespace Go.Proofs.Ytimjafjicnlhfaa
theorem Pure.TextsSame : A.tithebarnlaw05_TextsSame.Pure := fun a0 a1 _ _ => A.textsSame_true a0 a1
end Go.Proofs.Ytimjafjicnlhfaa
