/- simplex: the law's helpers: same, large, fracs. -/
import Derived.Test.YtaampjhdgeoicaaGreatSxG
namespace Go.Proofs.YtaampjhdgeoicaaGreat
set_option linter.unusedSimpArgs false
set_option linter.unusedVariables false
open Go Go.RowKit
set_option linter.unusedVariables false

theorem neqF (a b c d : Int) (w : World) : (binOp .neq 45 (.agg #[.int .i64 a, .int .i64 b]) (.agg #[.int .i64 c, .int .i64 d])).run Tryz.prog w = .ok (.bool (!(decide (a = c) && decide (b = d)))) w := by
 by_cases e1 : a = c
 ·by_cases e2 : b = d
  ·simp [go_sem, e1, e2]
  ·simp [go_sem, e1, e2]
 ·simp [go_sem, e1]
/-- Two lists of fractions differ at i. -/
def dfB (a b : List (Int × Int)) (i : Nat) : Bool := !(decide (fv a i = fv b i) && decide (fx a i = fx b i))
def smB (a b : List (Int × Int)) : Bool := decide (a.length = b.length) && !anyB a.length (dfB a b)

end Go.Proofs.YtaampjhdgeoicaaGreat
