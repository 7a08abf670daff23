/- simplex: the law's helpers: same, large, fracs. -/
import Derived.Test.YtaampjhdgeoicaaSxG
namespace Go.Proofs.Ytaampjhdgeoicaa
set_option linter.unusedSimpArgs false
set_option linter.unusedVariables false
open Go Go.RowKit
set_option linter.unusedVariables false

end Go.Proofs.Ytaampjhdgeoicaa
