/- Part of the proofs about this seat's program (module SHead). -/
import Derived.Test.YtbkabnhkclbepaaCBase
set_option linter.unusedSectionVars false
set_option linter.unusedSimpArgs false
set_option linter.unusedVariables false
namespace Go.Proofs.Ytbkabnhkclbepaa.K
open Go.Ev
theorem law18_head_ev : callZ (evL T) n_law18_head [] = some (.v (.bool true)) := callZ_of_F 30 (by kernel_rfl)
end Go.Proofs.Ytbkabnhkclbepaa.K
