/- Words and walks that the print wrote for this claim: those that the claim leans on (wip/shake.py). -/
import Derived.Test.YtglcajijmkianaaDoorKWWords
import Derived.Test.YtglcajijmkianaaDoorKWLast
namespace Go.Proofs.YtglcajijmkianaaDoorW.PrintWords
open Go.RowKit
namespace Kd
section
variable {α : Type} {d : Kd α} {e base g n c : Nat} {ok : Nat → Prop} {w w0 W : World} {A : Option Addr} {xs : List α}
theorem C_foot_own (h : d.R e W base ok (.slice A n c) xs) (hok : ∀ k, ok k → k ≠ g) : ∀ W', KeepBut W W' g none → d.C W' A n xs := fun W' hk => by
  have h2 := R_reads' (R_keep h hk hok)
  rw [h2.1]
  exact h2.2.2
end
end Kd
end Go.Proofs.YtglcajijmkianaaDoorW.PrintWords
