/- The example that the laws begin with. Plain. -/
import Derived.Test.YtimjafjicnlhfaaKrAx0
import Derived.Test.YtimjafjicnlhfaaKrAx6
import Derived.Test.YtimjafjicnlhfaaKrHRound
namespace Go.Proofs.Ytimjafjicnlhfaa.A
open Go.RowKit Go.Proofs.YtimjafjicnlhfaaW.PrintWords Go.Proofs.YtimjafjicnlhfaaW.PrintLast Go.Proofs.YtimjafjicnlhfaaW.PrintMore
set_option linter.unusedVariables false
set_option linter.unusedSimpArgs false
def exA : ByteArray := ⟨#[97]⟩
def exB : ByteArray := ⟨#[98]⟩
def exL : List ByteArray := [exB, exA, exB]
def exS : ByteArray := ⟨#[1, 3, 2, 1, 97, 1, 98, 1, 5]⟩
theorem ex_words : wordsP exL = [exA, exB] := by
  apply risen_ext _ _ (words_risen _)
  · unfold Risen
    rw [List.pairwise_cons]
    refine ⟨?_, List.pairwise_singleton _ _⟩
    intro a ha
    rw [List.mem_singleton] at ha
    subst ha
    show [(97 : UInt8)] < [98]
    decide
  · intro x
    rw [mem_words]
    simp [exL]
    exact .inr
theorem exAB : ¬ exA = exB := by
  intro e
  have := congrArg (fun s : ByteArray => s.data.toList) e
  revert this
  show ¬ [(97 : UInt8)] = [98]
  decide
theorem ex_nums : numsP [exA, exB] exL = [1, 0, 1] := by
  unfold numsP posP exL
  simp [List.findIdx_cons, exAB]
theorem ex_width : widthP [1, 0, 1] = 1 := by kernel_rfl
theorem ex_long : longP exL = false := by kernel_rfl
theorem ex_with : withP exL 1 = (exS, 0) := by
  unfold withP
  rw [if_neg (by decide), ex_long, if_neg (by decide), if_neg (by decide), dictB_eq exL _ _ 1 ex_words ex_nums ex_width (by decide)]
  have hp : packB (allBits 1 [1, 0, 1]) = [5] := by
    rw [packB_small _ (by rw [allBits_length]; decide) (by rw [allBits_length]; decide)]
    kernel_rfl
  rw [hp]
  rfl
theorem ex_read : readP exS = (exL, 0) := by
  have h := readP_back exL 1 (by rw [ex_with])
  rw [ex_with] at h
  exact h
theorem lives_true : tithebarnlaw05_lives.f = some true := by
  unfold tithebarnlaw05_lives.f texts_With.f texts_Read.f
  have e1 : ([(⟨#[98]⟩ : ByteArray), (⟨#[97]⟩ : ByteArray), (⟨#[98]⟩ : ByteArray)] : List ByteArray) = exL := rfl
  have e2 : (⟨#[1, 3, 2, 1, 97, 1, 98, 1, 5]⟩ : ByteArray) = exS := rfl
  rw [e1, e2, ex_with, ex_read, if_pos (by decide), Option.bind_some, Option.bind_some, if_pos rfl, if_pos (by rw [ByteArray.toList_eq]; rfl), if_pos rfl, if_pos (by decide), if_pos (by decide)]
  rw [ByteArray.toList_eq]
  rfl
end Go.Proofs.Ytimjafjicnlhfaa.A
