/- The law CausalConnected: joined. -/
import Derived.Test.YtdkighaddldmcaaConD
import Derived.Test.YtdkighaddldmcaaConE
namespace Go.Proofs.Ytdkighaddldmcaa
set_option linter.unusedSimpArgs false
set_option linter.unusedVariables false
open Go Go.RowKit

theorem causalConnected_any (t : Tsk) (p : Lies) (a b : Int) (w : World) (ht : TaskAt w w.heap.size t p) (ha : 0 ≤ a ∧ a ≤ 255) (hb : 0 ≤ b ∧ b ≤ 255) :
    Calls Try.prog 4 #[TaskV t p, .int .u8 a, .int .u8 b] w fun e w' => e = .returned (.bool true) ∧ Below w.heap.size w w' := by
  by_cases h8 : (8 : Int) ≤ (t.vars.length : Int)
  · exact causalConnected_D t p a b w ht ha hb h8
  · exact causalConnected_E t p a b w ht ha hb h8

end Go.Proofs.Ytdkighaddldmcaa
