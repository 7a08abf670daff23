/- The argument of a linear program, opened; nil slices have no capacity. -/
import Derived.Test.YtaampjhdgeoicaaOpenP
namespace Go.Proofs.Ytaampjhdgeoicaa
set_option linter.unusedSimpArgs false
set_option linter.unusedVariables false
open Go.RowKit Go.ChangeShapes Go.WideShapes Go.Deep Go.Joins
set_option linter.unusedVariables false

section
variable {H : Type} {enc : TypeId × Value → H} {W : World} {base : Nat} {v : Value} {d : DataW H} {p : List MemPlace}
set_option maxRecDepth 100000 in
theorem arg_progz (hv : Value.okWide Try.prog W .any base 25 v) (h : DataW.Trod enc Try.prog W 0 (fun _ => true) true 25 v d p) (hf : Fits Try.prog 25 d) : ∃ c R b Ac AR Ab cc cR cb, v = PrgV c R b Ac AR Ab cc cR cb ∧ FactsAt W W.heap.size Ac c ∧ MxAt W AR R ∧ FactsAt W W.heap.size Ab b ∧ (Ac = none → cc = 0) ∧ (AR = none → cR = 0) ∧ (Ab = none → cb = 0) := by
  obtain ⟨cs, rfl, hsz⟩ := okWide_struct Try.underlying25 hv
  rw [show Try.prog.cellsOf 25 = 3 by kernel_rfl] at hsz
  obtain ⟨fuel, h⟩ := h
  have hl : cs.toList.length = 3 := by simpa using hsz
  have hR : Reads enc Try.prog W 25 cs.toList d := ⟨fuel, p, h⟩
  obtain ⟨l, hcl⟩ : ∃ l, l = cs.toList := ⟨_, rfl⟩
  rw [← hcl] at hl hR
  match l, hl with
  | [c0, c1, c2], _ =>
    obtain ⟨D0, r0, f0⟩ := open_fields Try.underlying25 (by kernel_rfl) hR hf 0 _ c0 rfl rfl
    obtain ⟨D1, r1, f1⟩ := open_fields Try.underlying25 (by kernel_rfl) hR hf 1 _ c1 rfl rfl
    obtain ⟨D2, r2, f2⟩ := open_fields Try.underlying25 (by kernel_rfl) hR hf 2 _ c2 rfl rfl
    obtain ⟨A0, l0, k0, e0, z0, F0⟩ := open_FracsAt r0 f0
    obtain ⟨A1, l1, k1, e1, z1, F1⟩ := open_MxAt r1 f1
    obtain ⟨A2, l2, k2, e2, z2, F2⟩ := open_FracsAt r2 f2
    simp at e0 e1 e2
    subst e0 e1 e2
    have hcs : cs = #[.slice A0 l0.length k0, .slice A1 l1.length k1, .slice A2 l2.length k2] := Array.toList_inj.1 hcl.symm
    exact ⟨l0, l1, l2, A0, A1, A2, k0, k1, k2, by rw [hcs]; rfl, F0, F1, F2, z0, z1, z2⟩
end

end Go.Proofs.Ytaampjhdgeoicaa
