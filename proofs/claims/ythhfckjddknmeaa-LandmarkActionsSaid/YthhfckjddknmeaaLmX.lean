/- The law LandmarkPlans. -/
import Derived.Test.YthhfckjddknmeaaLmW
namespace Go.Proofs.Ythhfckjddknmeaa
set_option linter.unusedSimpArgs false
set_option linter.unusedVariables false
open Go Go.RowKit
set_option linter.unusedVariables false

theorem lmC_cases {t : Tsk} {s : List Int} (hst : stB t.vars s = true) : (lmC t s = 0 ∧ hsM t.goal (rcB t s noF) = true) ∨ (lmC t s = 3 ∧ hsM t.goal (rcB t s noF) = false) := by
  unfold lmC
  rw [hst]
  cases h : hsM t.goal (rcB t s noF)
  · exact .inr ⟨rfl, rfl⟩
  · exact .inl ⟨rfl, rfl⟩

end Go.Proofs.Ythhfckjddknmeaa
