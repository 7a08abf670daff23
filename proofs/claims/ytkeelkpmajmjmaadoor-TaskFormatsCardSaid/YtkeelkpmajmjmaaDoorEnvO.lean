/- What the listed variables and the world's shape give. -/
import Derived.Test.YtkeelkpmajmjmaaDoorShlE
import Derived.Shelf.Vars
namespace Go.Proofs.YtkeelkpmajmjmaaDoor
set_option linter.unusedSimpArgs false
set_option linter.unusedVariables false
open Go Go.RowKit Go.Lib
set_option linter.unusedVariables false

theorem envT_of {w : World} {r : List (String × DataW Unit)} (h : laidMet Tryd.prog (("internal/strconv.uint64pow10", tabData .u64 pow10Tab) :: r) w) : EnvT w :=
  ⟨tabIs_of_head (g := 0) (t := 88) (e := 81) (n := 20) (by kernel_rfl) (by kernel_rfl) Tryd.underlying88 Tryd.underlying81 (by kernel_rfl) (by kernel_rfl) h⟩
end Go.Proofs.YtkeelkpmajmjmaaDoor
