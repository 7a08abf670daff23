/- base.Apply where the precondition holds. -/
import Derived.Test.YtkeelkpmajmjmaaDoorTaskL
namespace Go.Proofs.YtkeelkpmajmjmaaDoor
set_option linter.unusedSimpArgs false
set_option linter.unusedVariables false
open Go.RowKit
set_option linter.unusedVariables false

/-- The cells of a list of numbers at an address. -/
theorem ints_src {w : World} {ad : Addr} {s : List Int} (h : IntsAt w w.heap.size (some ad) s) {w1 : World} (hb : Below w.heap.size w w1) : ∀ (j : Nat) (u : Value), (ic s)[j]? = some u → w1.cell? (ad.add j) = some u := fun j u hj => by
  have hlt : j < s.length := by have := (List.getElem?_eq_some_iff.1 hj).1; simpa [ic] using this
  obtain ⟨b, off, e2, hb2, hc⟩ := h.2 (by omega)
  rw [ic_get hlt] at hj
  cases hj
  cases e2
  have := (hb.cell (p := ⟨b, off + j, none⟩) hb2).trans (hc j hlt)
  simp [Addr.add]
  split
  · rename_i h0; subst h0; simpa using this
  · simpa using this

end Go.Proofs.YtkeelkpmajmjmaaDoor
