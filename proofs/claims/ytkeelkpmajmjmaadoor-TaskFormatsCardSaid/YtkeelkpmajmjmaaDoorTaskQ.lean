/- base.Ints. -/
import Derived.Test.YtkeelkpmajmjmaaDoorData
import Derived.LoopTactic
namespace Go.Proofs.YtkeelkpmajmjmaaDoor
set_option linter.unusedSimpArgs false
set_option linter.unusedVariables false
open Go.RowKit
set_option linter.unusedVariables false

theorem nth_ext {a b : List Int} (hl : a.length = b.length) (h : ∀ k, k < a.length → nth a k = nth b k) : a = b := by
  apply List.ext_getElem hl
  intro k h1 h2
  have := h k h1
  unfold nth at this
  simpa [List.getD, List.getElem?_eq_getElem h1, List.getElem?_eq_getElem h2] using this

end Go.Proofs.YtkeelkpmajmjmaaDoor
