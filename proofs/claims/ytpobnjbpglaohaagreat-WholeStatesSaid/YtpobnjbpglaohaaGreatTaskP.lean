/- Goal, Applicable, base.Ints. -/
import Derived.Test.YtpobnjbpglaohaaGreatWgB
namespace Go.Proofs.YtpobnjbpglaohaaGreat
set_option linter.unusedSimpArgs false
set_option linter.unusedVariables false
open Go.RowKit
set_option linter.unusedVariables false

def goB (t : Tsk) (s : List Int) : Bool := decide (chkC t = 0) && (stB t.vars s && hoB t.goal s)

end Go.Proofs.YtpobnjbpglaohaaGreat
