/- Arguments opened: arrays of three small numbers. -/
import Derived.Test.YtmbbojpghliaaaaOpenG
import Derived.Laws.IdiomArrays
namespace Go.Proofs.Ytmbbojpghliaaaa
set_option linter.unusedSimpArgs false
set_option linter.unusedVariables false
open Go.RowKit Go.ChangeShapes Go.WideShapes Go.Deep Go.Joins

theorem okWide_array {P : Program} {w : World} {r : Reach} {base : Nat} {t e : TypeId} {n : Nat} {v : Value} (ht : P.underlying t = some (.array n e)) (h : Value.okWide P w r base t v) : ∃ cs, v = .agg cs ∧ cs.size = P.cellsOf t := by
  simp only [Value.okWide, ht] at h
  obtain ⟨cs, h1, h2, _⟩ := h
  exact ⟨cs, h1, h2⟩
theorem bound_i8 {x : Int} (h : (Lit.int .i8 x).wf = true) : -128 ≤ x ∧ x ≤ 127 := by
  simp [Lit.wf, IntKind.min, IntKind.max, IntKind.signed, IntKind.bits] at h
  exact ⟨by omega, by omega⟩
theorem bound_u8 {x : Int} (h : (Lit.int .u8 x).wf = true) : 0 ≤ x ∧ x ≤ 255 := by
  simp [Lit.wf, IntKind.min, IntKind.max, IntKind.signed, IntKind.bits] at h
  exact ⟨by omega, by omega⟩

section
variable {H : Type} {enc : TypeId × Value → H} {W : World} {base : Nat} {v : Value} {d : DataW H} {p : List MemPlace}
set_option maxRecDepth 100000 in
theorem arg_i8x3 (hv : Value.okWide Try.prog W .any base 50 v) (h : DataW.Trod enc Try.prog W 0 (fun _ => true) true 50 v d p) : ∃ x y z : Int, v = .agg #[.int .i8 x, .int .i8 y, .int .i8 z] ∧ (-128 ≤ x ∧ x ≤ 127) ∧ (-128 ≤ y ∧ y ≤ 127) ∧ (-128 ≤ z ∧ z ≤ 127) := by
  obtain ⟨cs, rfl, hsz⟩ := okWide_array Try.underlying50 hv
  rw [show Try.prog.cellsOf 50 = 3 by kernel_rfl] at hsz
  obtain ⟨l⟩ := cs
  match l, hsz with
  | [c0, c1, c2], _ =>
    obtain ⟨fuel, hf⟩ := h
    obtain ⟨y0, y1, y2, m, hx, hy0, hy1, hy2⟩ := trod_array3 Try.underlying50 (show Try.prog.cellsOf 49 = 1 by kernel_rfl) hf
    obtain ⟨x, e0, _, w0⟩ := DataW.trod_int Try.underlying49 hy0
    obtain ⟨y, e1, _, w1⟩ := DataW.trod_int Try.underlying49 hy1
    obtain ⟨z, e2, _, w2⟩ := DataW.trod_int Try.underlying49 hy2
    simp at e0 e1 e2
    subst e0 e1 e2
    exact ⟨x, y, z, rfl, bound_i8 w0, bound_i8 w1, bound_i8 w2⟩
set_option maxRecDepth 100000 in
theorem arg_u8x3 (hv : Value.okWide Try.prog W .any base 51 v) (h : DataW.Trod enc Try.prog W 0 (fun _ => true) true 51 v d p) : ∃ x y z : Int, v = .agg #[.int .u8 x, .int .u8 y, .int .u8 z] ∧ (0 ≤ x ∧ x ≤ 255) ∧ (0 ≤ y ∧ y ≤ 255) ∧ (0 ≤ z ∧ z ≤ 255) := by
  obtain ⟨cs, rfl, hsz⟩ := okWide_array Try.underlying51 hv
  rw [show Try.prog.cellsOf 51 = 3 by kernel_rfl] at hsz
  obtain ⟨l⟩ := cs
  match l, hsz with
  | [c0, c1, c2], _ =>
    obtain ⟨fuel, hf⟩ := h
    obtain ⟨y0, y1, y2, m, hx, hy0, hy1, hy2⟩ := trod_array3 Try.underlying51 (show Try.prog.cellsOf 5 = 1 by kernel_rfl) hf
    obtain ⟨x, e0, _, w0⟩ := DataW.trod_int Try.underlying5 hy0
    obtain ⟨y, e1, _, w1⟩ := DataW.trod_int Try.underlying5 hy1
    obtain ⟨z, e2, _, w2⟩ := DataW.trod_int Try.underlying5 hy2
    simp at e0 e1 e2
    subst e0 e1 e2
    exact ⟨x, y, z, rfl, bound_u8 w0, bound_u8 w1, bound_u8 w2⟩
end

end Go.Proofs.Ytmbbojpghliaaaa
