/- math/bits.Mul64, by the library's contract laid at this translation. -/
import Derived.Shelf.Bits.Mul64
import Derived.Test.YtmdkchoepcjahaaDoorBase
namespace Go.Proofs.YtmdkchoepcjahaaDoor
set_option linter.unusedSimpArgs false
set_option linter.unusedVariables false
open Go.Shelf Go.RowKit Go.Lib
def mulHi (x y : Int) : Int := x * y / 18446744073709551616
def mulLo (x y : Int) : Int := x * y % 18446744073709551616
theorem mul_small (x y : Int) (h0 : 0 ≤ x * y) (h : x * y ≤ 18446744073709551615) : mulHi x y = 0 ∧ mulLo x y = x * y := by
  unfold mulHi mulLo; omega
theorem mul_large (x y : Int) (h : 18446744073709551615 < x * y) : 0 < mulHi x y := by
  unfold mulHi; omega
end Go.Proofs.YtmdkchoepcjahaaDoor
