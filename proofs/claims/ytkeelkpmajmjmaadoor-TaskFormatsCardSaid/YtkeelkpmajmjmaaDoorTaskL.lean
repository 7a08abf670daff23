/- base.Apply (an operator of the task, a proper state). -/
import Derived.Test.YtkeelkpmajmjmaaDoorTaskK
import Derived.Laws.AppendOwnNone
namespace Go.Proofs.YtkeelkpmajmjmaaDoor
set_option linter.unusedSimpArgs false
set_option linter.unusedVariables false
open Go.RowKit
set_option linter.unusedVariables false

end Go.Proofs.YtkeelkpmajmjmaaDoor
