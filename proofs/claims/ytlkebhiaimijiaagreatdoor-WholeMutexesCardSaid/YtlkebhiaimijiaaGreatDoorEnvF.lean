/- What the listed variables and the world's shape give. -/
import Derived.Test.YtlkebhiaimijiaaGreatDoorShlF
import Derived.Shelf.Vars
import Derived.Stop.LaidErr
namespace Go.Proofs.YtlkebhiaimijiaaGreatDoor
set_option linter.unusedSimpArgs false
set_option linter.unusedVariables false
open Go Go.RowKit Go.Lib
set_option linter.unusedVariables false

theorem envM_of {w : World} (h : w.ShapedOpen Tryz.prog) : EnvM w := ⟨cell_of_shapedOpen_int (t := 3) (zero := #[.int .i64 0]) h (of_decide_eq_true (by kernel_rfl)) (by kernel_rfl) rfl (by kernel_rfl) (by kernel_rfl) Tryz.underlying3⟩
theorem envT_of {w : World} {r : List (String × DataW Unit)} (h : laidMet Tryz.prog (("internal/strconv.uint64pow10", tabData .u64 pow10Tab) :: r) w) : EnvT w :=
 ⟨tabIs_of_head (g := 0) (t := 237) (e := 210) (n := 20) (by kernel_rfl) (by kernel_rfl) Tryz.underlying237 Tryz.underlying210 (by kernel_rfl) (by kernel_rfl) h⟩
end Go.Proofs.YtlkebhiaimijiaaGreatDoor
