/- What the listed variables give. -/
import Derived.Test.YtebgaicapjpohaaDoorSfD
import Derived.Shelf.Vars
import Derived.Stop.LaidErr
namespace Go.Proofs.YtebgaicapjpohaaDoor
set_option linter.unusedSimpArgs false
set_option linter.unusedVariables false
open Go Go.RowKit Go.Lib
set_option linter.unusedVariables false

theorem envS_of {w : World} {r : List (String × DataW Unit)} (h : laidMet Tryd.prog (("internal/strconv.uint64pow10", tabData .u64 pow10Tab) :: r) w) : EnvS w :=
  ⟨tabIs_of_head (g := 1) (t := 85) (e := 74) (n := 20) (by kernel_rfl) (by kernel_rfl) Tryd.underlying85 Tryd.underlying74 (by kernel_rfl) (by kernel_rfl) h⟩
end Go.Proofs.YtebgaicapjpohaaDoor
