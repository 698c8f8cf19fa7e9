/- The sum of nothing, reckoned by the kernel; keys and marks. No program here. -/
import Derived.KernelRfl
import Derived.Test.YtkmokcfnfhabgaaDoorMsg
set_option linter.unusedVariables false
set_option linter.unusedSimpArgs false
namespace Go.Proofs.YtkmokcfnfhabgaaDoor.X
open Go.RowKit Go.Proofs.YtkmokcfnfhabgaaDoorW.PrintWords Go.Proofs.YtkmokcfnfhabgaaDoorW.PrintMore
end Go.Proofs.YtkmokcfnfhabgaaDoor.X
