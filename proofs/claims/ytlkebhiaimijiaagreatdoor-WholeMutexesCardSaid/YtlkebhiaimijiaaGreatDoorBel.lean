/- Short forms: what is kept below a mark; sizes. -/
import Derived.Test.YtlkebhiaimijiaaGreatDoorBase
namespace Go.Proofs.YtlkebhiaimijiaaGreatDoor
set_option linter.unusedSimpArgs false
set_option linter.unusedVariables false
open Go Go.RowKit
set_option linter.unusedVariables false

theorem bel {p : Prop} (h : p := by (repeat (first | exact Below.refl _ _ | refine below_dN ?_ _ | refine Below.drew ?_ | refine Below.alloc ?_ (by first | omega | (simp; done) | (simp; omega)) _ | refine Below.setCell ?_ (by first | omega | (simp; done) | (simp; omega)) _ | refine below_step (by assumption) (by first | omega | (simp; done) | (simp; omega)) ?_))) : p := h
section
variable (w v : World)
theorem s00 (h : w.heap.size < v.heap.size := by omega) : w.heap.size < v.heap.size := h
theorem s01 (h : w.heap.size < v.heap.size + 1 := by omega) : w.heap.size < v.heap.size + 1 := h
theorem s02 (h : w.heap.size < v.heap.size + 1 + 1 := by omega) : w.heap.size < v.heap.size + 1 + 1 := h
theorem s10 (h : w.heap.size + 1 < v.heap.size := by omega) : w.heap.size + 1 < v.heap.size := h
theorem s11 (h : w.heap.size + 1 < v.heap.size + 1 := by omega) : w.heap.size + 1 < v.heap.size + 1 := h
theorem s12 (h : w.heap.size + 1 < v.heap.size + 1 + 1 := by omega) : w.heap.size + 1 < v.heap.size + 1 + 1 := h
theorem s20 (h : w.heap.size + 1 + 1 < v.heap.size := by omega) : w.heap.size + 1 + 1 < v.heap.size := h
theorem s21 (h : w.heap.size + 1 + 1 < v.heap.size + 1 := by omega) : w.heap.size + 1 + 1 < v.heap.size + 1 := h
theorem s22 (h : w.heap.size + 1 + 1 < v.heap.size + 1 + 1 := by omega) : w.heap.size + 1 + 1 < v.heap.size + 1 + 1 := h
end

end Go.Proofs.YtlkebhiaimijiaaGreatDoor
