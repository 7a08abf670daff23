/- size, large (law 05). -/
import Derived.Test.YtenmeiplglbafaaTaskD
import Derived.LoopTactic
import Derived.Deep.LoopGhost
import Derived.Deep.DeepCutAuto
namespace Go.Proofs.Ytenmeiplglbafaa
set_option linter.unusedSimpArgs false
set_option linter.unusedVariables false
open Go.RowKit
set_option linter.unusedVariables false

end Go.Proofs.Ytenmeiplglbafaa
