/- The reference's Check of costs and cuts. -/
import Derived.Test.YtaampjhdgeoicaaPartA
namespace Go.Proofs.Ytaampjhdgeoicaa
set_option linter.unusedSimpArgs false
set_option linter.unusedVariables false
open Go.RowKit
set_option linter.unusedVariables false

end Go.Proofs.Ytaampjhdgeoicaa
