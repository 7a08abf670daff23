/- strconv.Itoa, by the library's contract laid at this translation. -/
import Derived.Test.YtmdkchoepcjahaaDoorShl
namespace Go.Proofs.YtmdkchoepcjahaaDoor
set_option linter.unusedSimpArgs false
set_option linter.unusedVariables false
open Go Go.RowKit
theorem itoa0_any (w : World) : Calls Tryd.prog 26 #[.int .i64 0] w fun e w' => e = .returned (.string ⟨#[48]⟩) ∧ w = w' :=
  (Tryd.strconv_Itoa_small 0 (by decide) w).mono fun e w' ⟨he, hw⟩ => ⟨by rw [he, show Lib.decDigits 0 = [48] by decide +kernel], hw.symm⟩
end Go.Proofs.YtmdkchoepcjahaaDoor
