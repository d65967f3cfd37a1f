/- TextsWith and TextsBest: what the program writes is what the document says, by either codec and by the better one. Plain, and the walks joined. -/
import Derived.Test.YtimjafjicnlhfaaKbAx0
import Derived.Test.YtimjafjicnlhfaaKbAx13
import Derived.Test.YtimjafjicnlhfaaKbAx14
import Derived.Test.YtimjafjicnlhfaaKbAx15
import Derived.Test.YtimjafjicnlhfaaKbAx6
import Derived.Test.YtimjafjicnlhfaaKbHRefW
import Derived.Test.YtimjafjicnlhfaaKbHWith
import Derived.Test.YtimjafjicnlhfaaKbHBack
namespace Go.Proofs.Ytimjafjicnlhfaa.A
open Go.RowKit Go.Proofs.YtimjafjicnlhfaaW.PrintWords Go.Proofs.YtimjafjicnlhfaaW.PrintLast Go.Proofs.YtimjafjicnlhfaaW.PrintMore
set_option linter.unusedVariables false
set_option linter.unusedSimpArgs false
theorem both_err (l : List ByteArray) : (withP l 0).2 = 0 ∧ (withP l 1).2 = 0 ∨ withP l 0 = (⟨#[]⟩, 3) ∧ withP l 1 = (⟨#[]⟩, 3) := by
  rcases with_err l 0 (.inl rfl) with e | e
  · rcases with_err l 1 (.inr rfl) with e1 | e1
    · exact .inl ⟨e.1, e1.1⟩
    · rw [e.2] at e1; cases e1.2
  · rcases with_err l 1 (.inr rfl) with e1 | e1
    · rw [e.2] at e1; cases e1.2
    · exact .inr ⟨e.1, e1.1⟩
theorem refBest_same (l : List ByteArray) : tithebarnref05_Best.f l = texts_Best.f l := by
  unfold tithebarnref05_Best.f texts_Best.f tithebarnref05_With.f texts_With.f
  rw [Option.bind_some, Option.bind_some, Option.bind_some, Option.bind_some]
  by_cases h : (withP l 0).2 = 0
  · rw [if_pos h, if_pos h]
    by_cases hl : ((withP l 1).1.size : Int) < ((withP l 0).1.size : Int)
    · rw [if_pos hl, if_pos hl, h]
    · rw [if_neg hl, if_neg hl]
  · rw [if_neg h, if_neg h]
theorem best_small (l : List ByteArray) : ∃ r, texts_Best.f l = some r ∧ ((withP l 0).2 = 0 → (r.1.size : Int) ≤ ((withP l 0).1.size : Int)) ∧ ((withP l 1).2 = 0 → (r.1.size : Int) ≤ ((withP l 1).1.size : Int)) := by
  unfold texts_Best.f texts_With.f
  rw [Option.bind_some, Option.bind_some]
  rcases both_err l with ⟨h0, h1⟩ | ⟨h0, h1⟩
  · rw [if_pos h0]
    by_cases hl : ((withP l 1).1.size : Int) < ((withP l 0).1.size : Int)
    · rw [if_pos hl]
      exact ⟨_, rfl, fun _ => Int.le_of_lt hl, fun _ => Int.le_refl _⟩
    · rw [if_neg hl]
      exact ⟨_, rfl, fun _ => Int.le_refl _, fun _ => Int.not_lt.1 hl⟩
  · rw [h0, h1, if_neg (by decide)]
    exact ⟨_, rfl, fun h => absurd h (by decide), fun h => absurd h (by decide)⟩
theorem textsBest_true (l : List ByteArray) : tithebarnlaw05_TextsBest.f l = some true := by
  obtain ⟨r, hr, hr0, hr1⟩ := best_small l
  unfold tithebarnlaw05_TextsBest.f
  rw [lives_true, Option.bind_some, if_pos (rfl : true = true), refBest_same, hr, Option.bind_some, Option.bind_some]
  unfold texts_With.f
  rw [Option.bind_some, Option.bind_some, if_pos rfl, if_pos rfl]
  by_cases h0 : (withP l 0).2 = 0
  · rw [if_pos h0, if_pos (hr0 h0)]
    by_cases h1 : (withP l 1).2 = 0
    · rw [if_pos h1, decide_eq_true (hr1 h1)]
    · rw [if_neg h1]
  · rw [if_neg h0]
    by_cases h1 : (withP l 1).2 = 0
    · rw [if_pos h1, decide_eq_true (hr1 h1)]
    · rw [if_neg h1]
theorem TextsBest.walk (l : List ByteArray) (A : Option Addr) (c : Nat) (w : World) (hC : Kd.C Kd.string w A l.length l) (hc : l.length ≤ c) :
    Calls Try.prog 6 #[.slice A l.length c] w fun e w' => e = .returned (.bool true) ∧ Below w.heap.size w w' :=
  tithebarnlaw05_TextsBest.calls A c l true w hC hc (textsBest_true l)
end Go.Proofs.Ytimjafjicnlhfaa.A
