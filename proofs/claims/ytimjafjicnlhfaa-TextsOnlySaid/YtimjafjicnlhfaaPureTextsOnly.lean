/- TextsOnly: what is read is just what is written. Plain. -/
import Derived.Test.YtimjafjicnlhfaaAx0
import Derived.Test.YtimjafjicnlhfaaAx11
import Derived.Test.YtimjafjicnlhfaaHLivesI
namespace Go.Proofs.Ytimjafjicnlhfaa.A
open Go.RowKit Go.Proofs.YtimjafjicnlhfaaW.PrintWords Go.Proofs.YtimjafjicnlhfaaW.PrintLast Go.Proofs.YtimjafjicnlhfaaW.PrintMore
set_option linter.unusedVariables false
set_option linter.unusedSimpArgs false

theorem textsOnly_true (a0 : ByteArray) (h0 : a0.size ≤ 140737488351232) : tithebarnlaw05_TextsOnly.f a0 = some true := by
  unfold tithebarnlaw05_TextsOnly.f texts_Read.f texts_With.f
  rw [lives_true, Option.bind_some, if_pos rfl, if_pos h0, Option.bind_some]
  by_cases h : (readP a0).2 = 0
  · obtain ⟨h1, h2, h3⟩ := readP_only a0 h
    have hs : a0.size ≠ 0 := fun e => h3 (size_nil e)
    have hb : wrap64 (bt a0 0) = (byteP (a0, 0)).1 := by
      have hr := bt_range a0 0
      unfold byteP
      rw [if_pos rfl, if_neg hs]
      show wrap64 (bt a0 0) = bt a0 0
      unfold wrap64
      omega
    rw [if_pos h, if_pos (by omega), Option.bind_some, hb, h1, if_pos rfl]
    simp
  · rw [if_neg h, readP_nil a0 h]
    rfl
end Go.Proofs.Ytimjafjicnlhfaa.A
namespace Go.Proofs.Ytimjafjicnlhfaa
theorem Pure.TextsOnly : A.tithebarnlaw05_TextsOnly.Pure := fun a0 h0 => A.textsOnly_true a0 h0
end Go.Proofs.Ytimjafjicnlhfaa
