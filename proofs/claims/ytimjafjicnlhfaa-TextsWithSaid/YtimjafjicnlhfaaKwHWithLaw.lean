/- TextsWith and TextsBest: what the program writes is what the document says, by either codec and by the better one. Plain, and the walks joined. -/
import Derived.Test.YtimjafjicnlhfaaKwAx0
import Derived.Test.YtimjafjicnlhfaaKwAx6
import Derived.Test.YtimjafjicnlhfaaKwHRUint
import Derived.Test.YtimjafjicnlhfaaKwHRead
import Derived.Test.YtimjafjicnlhfaaKwHWith
import Derived.Test.YtimjafjicnlhfaaKwHRefW
import Derived.Test.YtimjafjicnlhfaaKwAx9
import Derived.Test.YtimjafjicnlhfaaKwHLivesI
namespace Go.Proofs.Ytimjafjicnlhfaa.A
open Go.RowKit Go.Proofs.YtimjafjicnlhfaaW.PrintWords Go.Proofs.YtimjafjicnlhfaaW.PrintLast Go.Proofs.YtimjafjicnlhfaaW.PrintMore
set_option linter.unusedVariables false
set_option linter.unusedSimpArgs false
theorem textsWith_true (l : List ByteArray) (c : Int) : tithebarnlaw05_TextsWith.f l c = some true := by
  unfold tithebarnlaw05_TextsWith.f texts_With.f tithebarnref05_With.f
  rw [lives_true, Option.bind_some, if_pos (rfl : true = true), Option.bind_some, Option.bind_some, if_pos rfl]
  simp
theorem TextsWith.walk (l : List ByteArray) (a1 : Int) (A : Option Addr) (c : Nat) (w : World) (hC : Kd.C Kd.string w A l.length l) (hc : l.length ≤ c) :
    Calls Try.prog 3 #[.slice A l.length c, .int .i64 a1] w fun e w' => e = .returned (.bool true) ∧ Below w.heap.size w w' :=
  tithebarnlaw05_TextsWith.calls A c l a1 true w hC hc (textsWith_true l a1)
end Go.Proofs.Ytimjafjicnlhfaa.A
