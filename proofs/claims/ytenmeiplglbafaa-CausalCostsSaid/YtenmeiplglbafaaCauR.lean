/- The reference's on, Arc, Arcs. -/
import Derived.Test.YtenmeiplglbafaaCauB
namespace Go.Proofs.Ytenmeiplglbafaa
set_option linter.unusedSimpArgs false
set_option linter.unusedVariables false
open Go.RowKit
set_option linter.unusedVariables false

/-- Where the loop over the effects stands. -/
def maN (o : Opr) (u v : Int) (k : Nat) : Bool := onB o.pre u || anyB k fun i => maE (eff o.effs i) u v

end Go.Proofs.Ytenmeiplglbafaa
