/- Arguments opened: fractions by value, strings. -/
import Derived.Test.YtebgaicapjpohaaDoorOpenG
import Derived.ChangeMaps5
namespace Go.Proofs.YtebgaicapjpohaaDoor
set_option linter.unusedSimpArgs false
set_option linter.unusedVariables false
open Go Go.RowKit Go.ChangeShapes Go.WideShapes Go.Deep Go.Joins
set_option linter.unusedVariables false

section
variable {H : Type} {enc : TypeId × Value → H} {W : World} {v : Value} {d : DataW H} {p : List MemPlace} {base : Nat}
theorem arg_string (hv : Value.okWide Tryd.prog W .any base 9 v) (h : DataW.Trod enc Tryd.prog W 0 (fun _ => true) true 9 v d p) (hf : Fits Tryd.prog 9 d) : ∃ s : ByteArray, v = .string s ∧ s.size ≤ 140737488351232 := by
  obtain ⟨s, rfl, rfl, rfl, hs⟩ := ChangeMaps.open_string Tryd.underlying9 hv h
  refine ⟨s, rfl, ?_⟩
  have := hf s.data.toList.length (by simp [DataW.weights, Tryd.underlying9])
  have hr : reachBytes = 140737488351232 := rfl
  have e : s.size = s.data.size := rfl
  simp at this
  omega
end

end Go.Proofs.YtebgaicapjpohaaDoor
