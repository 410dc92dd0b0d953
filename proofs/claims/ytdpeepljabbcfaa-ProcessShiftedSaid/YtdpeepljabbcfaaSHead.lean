/- Part of the proofs about this seat's program (module SHead). -/
import Derived.Test.YtdpeepljabbcfaaCBase
set_option linter.unusedSectionVars false
set_option linter.unusedSimpArgs false
set_option linter.unusedVariables false
namespace Go.Proofs.Ytdpeepljabbcfaa.K
open Go.Ev
theorem law20_head_ev : callZ (evL T) n_law20_head [] = some (.v (.bool true)) := callZ_of_F 60 (by kernel_rfl)
end Go.Proofs.Ytdpeepljabbcfaa.K
