/- malformed, Check (ref 05). -/
import Derived.Test.YtenmeiplglbafaaTaskA
import Derived.Test.YtenmeiplglbafaaTaskB
import Derived.Test.YtenmeiplglbafaaTaskC
namespace Go.Proofs.Ytenmeiplglbafaa
set_option linter.unusedSimpArgs false
set_option linter.unusedVariables false
open Go.RowKit
set_option linter.unusedVariables false

theorem factsAt_one {w : World} {B b : Nat} {v x : Int} (hb : b < B) (h0 : w.cell? ⟨b, 0, none⟩ = some (.int .i64 v)) (h1 : w.cell? ⟨b, 1, none⟩ = some (.int .i64 x)) : FactsAt w B (some ⟨b, 0, none⟩) [(v, x)] :=
  ⟨by simp, fun _ => ⟨b, 0, rfl, hb, fun k hk => by
    have : k = 0 := by simp at hk; omega
    subst this
    exact ⟨h0, h1⟩⟩⟩

end Go.Proofs.Ytenmeiplglbafaa
