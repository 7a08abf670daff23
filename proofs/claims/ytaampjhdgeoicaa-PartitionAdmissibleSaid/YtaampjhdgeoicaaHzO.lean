/- Arguments opened: numbers of 16 bits. -/
import Derived.Test.YtaampjhdgeoicaaOpenG
namespace Go.Proofs.Ytaampjhdgeoicaa
set_option linter.unusedSimpArgs false
set_option linter.unusedVariables false
open Go.RowKit Go.ChangeShapes Go.WideShapes Go.Deep Go.Joins

section
variable {H : Type} {enc : TypeId × Value → H} {W : World} {v : Value} {d : DataW H} {p : List MemPlace} {base : Nat}
theorem bounds_n16 {x : Int} (h : (Lit.int .u16 x).wf = true) : 0 ≤ x ∧ x ≤ 65535 := by
  simp [Lit.wf, IntKind.min, IntKind.max, IntKind.signed, IntKind.bits] at h
  exact ⟨by omega, by omega⟩
set_option maxRecDepth 100000 in
theorem arg_u16 (hv : Value.okWide Try.prog W .any base 50 v) (h : DataW.Trod enc Try.prog W 0 (fun _ => true) true 50 v d p) : ∃ x : Int, v = .int .u16 x ∧ 0 ≤ x ∧ x ≤ 65535 := by
  obtain ⟨x, rfl, _, _, wx⟩ := open_int Try.underlying50 hv h
  exact ⟨x, rfl, bounds_n16 wx⟩
end

end Go.Proofs.Ytaampjhdgeoicaa
