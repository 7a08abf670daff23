/- The reference's in, Uniform. -/
import Derived.Test.YtaampjhdgeoicaaPartAR
import Derived.Test.YtaampjhdgeoicaaPartC
import Derived.Test.YtaampjhdgeoicaaMfA
import Derived.Test.YtaampjhdgeoicaaMfB
namespace Go.Proofs.Ytaampjhdgeoicaa
set_option linter.unusedSimpArgs false
set_option linter.unusedVariables false
open Go.RowKit
set_option linter.unusedVariables false

end Go.Proofs.Ytaampjhdgeoicaa
