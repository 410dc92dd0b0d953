/- Part of the proofs about this seat's program (module SHead). -/
import Derived.Test.YtlcakphdkpdenaaCCfgs
set_option linter.unusedSectionVars false
set_option linter.unusedSimpArgs false
set_option linter.unusedVariables false
namespace Go.Proofs.Ytlcakphdkpdenaa.K
open Go.Ev
theorem law19_head_ev : callZ (evL T) n_law19_head [] = some (.v (.bool true)) := callZ_of_F 40 (by kernel_rfl)
end Go.Proofs.Ytlcakphdkpdenaa.K
