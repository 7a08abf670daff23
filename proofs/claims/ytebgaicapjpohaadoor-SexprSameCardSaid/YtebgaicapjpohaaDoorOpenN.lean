/- Arguments opened: bytes, numbers of 32 bits. -/
import Derived.Test.YtebgaicapjpohaaDoorOpenG
namespace Go.Proofs.YtebgaicapjpohaaDoor
set_option linter.unusedSimpArgs false
set_option linter.unusedVariables false
open Go.RowKit Go.ChangeShapes Go.WideShapes Go.Deep Go.Joins

section
variable {H : Type} {enc : TypeId × Value → H} {W : World} {v : Value} {d : DataW H} {p : List MemPlace} {base : Nat}
theorem bounds_n8 {x : Int} (h : (Lit.int .u8 x).wf = true) : 0 ≤ x ∧ x ≤ 255 := by
  simp [Lit.wf, IntKind.min, IntKind.max, IntKind.signed, IntKind.bits] at h
  exact ⟨by omega, by omega⟩
set_option maxRecDepth 100000 in
theorem arg_u8 (hv : Value.okWide Tryd.prog W .any base 5 v) (h : DataW.Trod enc Tryd.prog W 0 (fun _ => true) true 5 v d p) : ∃ x : Int, v = .int .u8 x ∧ 0 ≤ x ∧ x ≤ 255 := by
  obtain ⟨x, rfl, _, _, wx⟩ := open_int Tryd.underlying5 hv h
  exact ⟨x, rfl, bounds_n8 wx⟩
set_option maxRecDepth 100000 in
theorem arg_u32 (hv : Value.okWide Tryd.prog W .any base 86 v) (h : DataW.Trod enc Tryd.prog W 0 (fun _ => true) true 86 v d p) : ∃ x : Int, v = .int .u32 x := by
  obtain ⟨x, rfl, _, _, wx⟩ := open_int Tryd.underlying86 hv h
  exact ⟨x, rfl⟩
end

end Go.Proofs.YtebgaicapjpohaaDoor
