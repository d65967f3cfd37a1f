/- TextsRead: what bytes are read as is what the document says. -/
import Derived.Test.YtimjafjicnlhfaaKrAx0
import Derived.Test.YtimjafjicnlhfaaKrAx13
import Derived.Test.YtimjafjicnlhfaaKrBxRead
import Derived.Test.YtimjafjicnlhfaaKrHLivesI
import Derived.Test.YtimjafjicnlhfaaKrHRefQ
namespace Go.Proofs.Ytimjafjicnlhfaa.A
open Go.RowKit Go.Proofs.YtimjafjicnlhfaaW.PrintWords Go.Proofs.YtimjafjicnlhfaaW.PrintLast Go.Proofs.YtimjafjicnlhfaaW.PrintMore
set_option linter.unusedVariables false
set_option linter.unusedSimpArgs false
theorem sameR_true (l : List ByteArray) (hl : l.length ≤ 65536) : ∀ (d k j : Nat), j + d = l.length → d < k → tithebarnref05_Same.l0 k l l (j : Int) = some true := by
  intro d
  induction d with
  | zero =>
    intro k j hj hk
    obtain ⟨k, rfl⟩ : ∃ m, k = m + 1 := ⟨k - 1, by omega⟩
    rw [tithebarnref05_Same.l0, if_neg (by omega)]
  | succ d ih =>
    intro k j hj hk
    obtain ⟨k, rfl⟩ : ∃ m, k = m + 1 := ⟨k - 1, by omega⟩
    have e1 : wrap64 ((j : Int) + 1) = ((j + 1 : Nat) : Int) := by unfold wrap64; omega
    rw [tithebarnref05_Same.l0, if_pos (by omega), if_pos (by omega), if_pos (by omega), if_pos rfl, e1]
    exact ih k (j + 1) (by omega) (by omega)
theorem sameR_f (l : List ByteArray) (hl : l.length ≤ 65536) (k : Nat) (hk : l.length < k) : tithebarnref05_Same.f k l l = some true := by
  unfold tithebarnref05_Same.f
  rw [if_pos rfl]
  exact sameR_true l hl l.length k 0 (Nat.zero_add _) hk
theorem readP_len (s : ByteArray) : (readP s).1.length ≤ 65536 := by
  by_cases h : (readP s).2 = 0
  · obtain ⟨h1, h2, h3⟩ := readP_only s h
    have hw : (withP (readP s).1 (byteP (s, 0)).1).2 = 0 := by rw [h1]
    unfold withP at hw
    split at hw
    · exact absurd hw (by decide)
    split at hw
    · exact absurd hw (by decide)
    · rename_i hl
      exact (longP_false (by simpa using hl)).1
  · rw [readP_nil s h]
    exact Nat.zero_le _
theorem textsRead_true (a0 : ByteArray) (h0 : a0.size ≤ 140737488351232) : tithebarnlaw05_TextsRead.f 65600 a0 = some true := by
  unfold tithebarnlaw05_TextsRead.f texts_Read.f tithebarnref05_Read.f
  rw [lives_true, Option.bind_some, if_pos (rfl : true = true), if_pos h0, Option.bind_some, Option.bind_some, if_pos rfl, sameR_f _ (readP_len a0) _ (by have := readP_len a0; omega)]
  rfl
end Go.Proofs.Ytimjafjicnlhfaa.A
namespace Go.Proofs.Ytimjafjicnlhfaa
theorem Pure.TextsRead : A.tithebarnlaw05_TextsRead.Pure := fun a0 h0 => ⟨65600, A.textsRead_true a0 h0⟩
end Go.Proofs.Ytimjafjicnlhfaa
