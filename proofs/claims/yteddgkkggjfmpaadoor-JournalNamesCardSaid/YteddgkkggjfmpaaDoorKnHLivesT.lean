/- Nothing is asked of a program that lives: lives() by the kernel. -/
import Derived.Test.YteddgkkggjfmpaaDoorKnAx0
import Derived.Test.YteddgkkggjfmpaaDoorKnAx14
namespace Go.Proofs.YteddgkkggjfmpaaDoor.A
open Go.RowKit Go.Proofs.YteddgkkggjfmpaaDoorW.PrintWords Go.Proofs.YteddgkkggjfmpaaDoorW.PrintLast Go.Proofs.YteddgkkggjfmpaaDoorW.PrintMore
set_option maxRecDepth 100000 in
theorem lives_T : tithebarnlaw15_lives.f 3000 = some true := by kernel_rfl
end Go.Proofs.YteddgkkggjfmpaaDoor.A
