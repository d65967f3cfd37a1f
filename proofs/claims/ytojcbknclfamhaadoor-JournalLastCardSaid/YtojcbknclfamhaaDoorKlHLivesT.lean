/- Nothing is asked of a program that lives: lives() by the kernel. -/
import Derived.Test.YtojcbknclfamhaaDoorKlAx0
import Derived.Test.YtojcbknclfamhaaDoorKlAx14
namespace Go.Proofs.YtojcbknclfamhaaDoor.A
open Go.RowKit Go.Proofs.YtojcbknclfamhaaDoorW.PrintWords Go.Proofs.YtojcbknclfamhaaDoorW.PrintLast Go.Proofs.YtojcbknclfamhaaDoorW.PrintMore
set_option maxRecDepth 100000 in
theorem lives_T : tithebarnlaw15_lives.f 3000 = some true := by kernel_rfl
end Go.Proofs.YtojcbknclfamhaaDoor.A
