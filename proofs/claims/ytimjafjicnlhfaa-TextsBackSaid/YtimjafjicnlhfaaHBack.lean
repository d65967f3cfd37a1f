/- TextsBack: what is written is read again. Plain, and the walk joined. -/
import Derived.Test.YtimjafjicnlhfaaAx0
import Derived.Test.YtimjafjicnlhfaaAx11
import Derived.Test.YtimjafjicnlhfaaHLivesI
namespace Go.Proofs.Ytimjafjicnlhfaa.A
open Go.RowKit Go.Proofs.YtimjafjicnlhfaaW.PrintWords Go.Proofs.YtimjafjicnlhfaaW.PrintLast Go.Proofs.YtimjafjicnlhfaaW.PrintMore
set_option linter.unusedVariables false
set_option linter.unusedSimpArgs false

theorem dictB_length (l : List ByteArray) (hl : l.length ≤ 65536) (hs : ∀ t ∈ l, t.size ≤ 64) : (dictB l).length ≤ 6000000 := by
  have hf := nums_facts l hl
  have hw := wordsP_le l
  have hp := putB_length (wordsP l) (fun t ht => hs t ((mem_words l t).1 ht))
  have hu := uintB_length ((wordsP l).length : Int)
  have hn : (numsP (wordsP l) l).length = l.length := by unfold numsP; rw [List.length_map]
  have hm : l.length * widthP (numsP (wordsP l) l) ≤ 65536 * 64 := Nat.mul_le_mul hl hf.1
  rw [dictB_eq l _ _ _ rfl rfl rfl hf.1, List.length_append, List.length_append, List.length_append, packB_length, allBits_length, hn]
  simp only [List.length_cons, List.length_nil]
  omega
theorem with_fit (l : List ByteArray) (codec : Int) : Fit (withP l codec).1 := by
  unfold Fit withP
  by_cases h0 : codec < 0 ∨ 1 < codec
  · rw [if_pos h0]; decide
  rw [if_neg h0]
  by_cases h1 : longP l = true
  · rw [if_pos h1]; decide
  rw [if_neg h1]
  have hlong := (longP_iff l).1 (by simpa using h1)
  have hu := uintB_length (l.length : Int)
  by_cases h2 : codec = 0
  · rw [if_pos h2]
    have hp := putB_length l hlong.2
    show (strOfNums _).size ≤ _
    rw [strOfNums_size, List.length_append, List.length_append, List.length_singleton]
    omega
  · rw [if_neg h2]
    have hd := dictB_length l hlong.1 hlong.2
    show (strOfNums _).size ≤ _
    rw [strOfNums_size, List.length_append, List.length_append, List.length_singleton]
    omega
/-- What texts.With says, by either codec that there is. -/
theorem with_err (l : List ByteArray) (codec : Int) (hc : codec = 0 ∨ codec = 1) : (withP l codec).2 = 0 ∧ longP l = false ∨ withP l codec = (⟨#[]⟩, 3) ∧ longP l = true := by
  unfold withP
  rw [if_neg (by omega)]
  by_cases h1 : longP l = true
  · rw [if_pos h1]; exact .inr ⟨rfl, h1⟩
  · rw [if_neg h1]
    left
    refine ⟨?_, by simpa using h1⟩
    by_cases h2 : codec = 0
    · rw [if_pos h2]
    · rw [if_neg h2]
theorem best_with (l : List ByteArray) : ∃ c : Int, (c = 0 ∨ c = 1) ∧ texts_Best.f l = some (withP l c) := by
  unfold texts_Best.f texts_With.f
  rw [Option.bind_some, Option.bind_some]
  by_cases h : (withP l 0).2 = 0
  · rw [if_pos h]
    have h1 : (withP l 1).2 = 0 := by
      rcases with_err l 1 (.inr rfl) with e | e
      · exact e.1
      · rcases with_err l 0 (.inl rfl) with e2 | e2
        · rw [e2.2] at e; cases e.2
        · rw [e2.1] at h; cases h
    by_cases hl : ((withP l 1).1.size : Int) < ((withP l 0).1.size : Int)
    · rw [if_pos hl]; exact ⟨1, .inr rfl, by rw [h, ← h1]⟩
    · rw [if_neg hl]; exact ⟨0, .inl rfl, rfl⟩
  · rw [if_neg h]; exact ⟨0, .inl rfl, rfl⟩
theorem same_true (l : List ByteArray) (hl : l.length ≤ 65536) : ∀ (d k j : Nat), j + d = l.length → d < k → tithebarnref05_Same.l0 k l l (j : Int) = some true := by
  intro d
  induction d with
  | zero =>
    intro k j hj hk
    obtain ⟨k, rfl⟩ : ∃ m, k = m + 1 := ⟨k - 1, by omega⟩
    rw [tithebarnref05_Same.l0, if_neg (by omega)]
  | succ d ih =>
    intro k j hj hk
    obtain ⟨k, rfl⟩ : ∃ m, k = m + 1 := ⟨k - 1, by omega⟩
    have e1 : wrap64 ((j : Int) + 1) = ((j + 1 : Nat) : Int) := by unfold wrap64; omega
    rw [tithebarnref05_Same.l0, if_pos (by omega), if_pos (by omega), if_pos (by omega), if_pos rfl, e1]
    exact ih k (j + 1) (by omega) (by omega)
theorem same_f (l : List ByteArray) (hl : l.length ≤ 65536) (k : Nat) (hk : l.length < k) : tithebarnref05_Same.f k l l = some true := by
  unfold tithebarnref05_Same.f
  rw [if_pos rfl]
  exact same_true l hl l.length k 0 (Nat.zero_add _) hk
theorem back_j (l : List ByteArray) (x3 c : Int) (hc : c = 0 ∨ c = 1) (k : Nat) (hk : 65536 < k) (h : tithebarnlaw05_TextsBack.l0 k l (wrap64 (x3 + 1)) = some true) : tithebarnlaw05_TextsBack.j1 (k + 1) l x3 (withP l c).1 (withP l c).2 = some true := by
  rw [tithebarnlaw05_TextsBack.j1]
  rcases with_err l c hc with e | e
  · have hlong := (longP_iff l).1 e.2
    have hr := readP_back l c e.1
    have hf : texts_Read.f (withP l c).1 = some (l, 0) := by
      unfold texts_Read.f
      rw [if_pos (with_fit l c), hr]
    rw [if_pos e.1, hf, Option.bind_some, if_pos rfl, same_f l hlong.1 k (by omega), Option.bind_some, if_pos rfl, h]
  · rw [e.1, if_neg (by decide), if_pos rfl, ByteArray.toList_eq]
    rfl
theorem back_step (l : List ByteArray) (x3 : Int) (hx : 0 ≤ x3 ∧ x3 < 3) (k : Nat) (hk : 65536 < k) (h : tithebarnlaw05_TextsBack.l0 k l (wrap64 (x3 + 1)) = some true) : tithebarnlaw05_TextsBack.l0 (k + 2) l x3 = some true := by
  obtain ⟨c, hc, hb⟩ := best_with l
  rw [tithebarnlaw05_TextsBack.l0, if_pos hx.2, hb, Option.bind_some]
  by_cases h2 : x3 < 2
  · rw [if_pos h2]
    unfold texts_With.f
    rw [Option.bind_some]
    exact back_j l x3 x3 (by omega) k hk h
  · rw [if_neg h2]
    exact back_j l x3 c hc k hk h
theorem textsBack_true (l : List ByteArray) : tithebarnlaw05_TextsBack.f 70010 l = some true := by
  unfold tithebarnlaw05_TextsBack.f
  rw [lives_true, Option.bind_some, if_pos rfl]
  refine back_step l 0 (by decide) 70008 (by decide) ?_
  rw [show wrap64 ((0 : Int) + 1) = 1 by unfold wrap64; omega]
  refine back_step l 1 (by decide) 70006 (by decide) ?_
  rw [show wrap64 ((1 : Int) + 1) = 2 by unfold wrap64; omega]
  refine back_step l 2 (by decide) 70004 (by decide) ?_
  rw [show wrap64 ((2 : Int) + 1) = 3 by unfold wrap64; omega, tithebarnlaw05_TextsBack.l0, if_neg (by decide)]
theorem TextsBack.walk (l : List ByteArray) (A : Option Addr) (c : Nat) (w : World) (hC : Kd.C Kd.string w A l.length l) (hc : l.length ≤ c) :
    Calls Try.prog 7 #[.slice A l.length c] w fun e w' => e = .returned (.bool true) ∧ Below w.heap.size w w' :=
  tithebarnlaw05_TextsBack.calls 70010 A c l true w hC hc (textsBack_true l)
end Go.Proofs.Ytimjafjicnlhfaa.A
