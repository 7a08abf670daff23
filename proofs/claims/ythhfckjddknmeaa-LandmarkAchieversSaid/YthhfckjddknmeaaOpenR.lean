/- Arguments opened: a task with what is said of nil parts; a fact; bytes. -/
import Derived.Test.YthhfckjddknmeaaOpen
namespace Go.Proofs.Ythhfckjddknmeaa
set_option linter.unusedSimpArgs false
set_option linter.unusedVariables false
open Go.RowKit Go.ChangeShapes Go.WideShapes Go.Deep Go.Joins

section
variable {H : Type} {enc : TypeId × Value → H} {w : World}
theorem open_TaskR {cs : List Value} {d : DataW H} (hl : cs.length = 4) (h : Reads enc Try.prog w 26 cs d) (hf : Fits Try.prog 26 d) : ∃ t p, Value.agg cs.toArray = TaskV t p ∧ TaskAt w w.heap.size t p ∧ (p.ai = none → p.ci = 0) ∧ (p.ag = none → p.cg = 0) ∧ (p.av = none → p.cv = 0) ∧ (p.ao = none → p.co = 0) := by
  match cs, hl with
  | [c0, c1, c2, c3], _ =>
    obtain ⟨D0, r0, f0⟩ := open_fields Try.underlying26 (by kernel_rfl) h hf 0 _ c0 rfl rfl
    obtain ⟨D1, r1, f1⟩ := open_fields Try.underlying26 (by kernel_rfl) h hf 1 _ c1 rfl rfl
    obtain ⟨D2, r2, f2⟩ := open_fields Try.underlying26 (by kernel_rfl) h hf 2 _ c2 rfl rfl
    obtain ⟨D3, r3, f3⟩ := open_fields Try.underlying26 (by kernel_rfl) h hf 3 _ c3 rfl rfl
    obtain ⟨A0, l0, n0, e0, z0, g0, _⟩ := open_IntsAt r0 f0
    obtain ⟨A1, l1, n1, e1, z1, g1, _⟩ := open_IntsAt r1 f1
    obtain ⟨A2, l2, n2, e2, z2, g2⟩ := open_FactsAt r2 f2
    obtain ⟨A3, l3, n3, e3, z3, g3⟩ := open_OpsAt r3 f3
    simp at e0 e1 e2 e3
    subst e0 e1 e2 e3
    exact ⟨⟨l0, l1, l2, l3⟩, ⟨A0, A1, A2, A3, n0, n1, n2, n3⟩, rfl, ⟨g0, g1, g2, g3⟩, z1, z2, z0, z3⟩
end

section
variable {H : Type} {enc : TypeId × Value → H} {W : World} {base : Nat} {v : Value} {d : DataW H} {p : List MemPlace}
set_option maxRecDepth 100000 in
theorem arg_taskr (hv : Value.okWide Try.prog W .any base 26 v) (h : DataW.Trod enc Try.prog W 0 (fun _ => true) true 26 v d p) (hf : Fits Try.prog 26 d) : ∃ t p, v = TaskV t p ∧ TaskAt W W.heap.size t p ∧ (p.ai = none → p.ci = 0) ∧ (p.ag = none → p.cg = 0) ∧ (p.av = none → p.cv = 0) ∧ (p.ao = none → p.co = 0) := by
  obtain ⟨cs, rfl, hsz⟩ := okWide_struct Try.underlying26 hv
  rw [show Try.prog.cellsOf 26 = 4 by kernel_rfl] at hsz
  obtain ⟨fuel, h⟩ := h
  obtain ⟨t, q, e, r⟩ := open_TaskR (cs := cs.toList) (by simpa using hsz) ⟨fuel, p, h⟩ hf
  exact ⟨t, q, by simpa using e, r⟩
set_option maxRecDepth 100000 in
theorem arg_fact (hv : Value.okWide Try.prog W .any base 28 v) (h : DataW.Trod enc Try.prog W 0 (fun _ => true) true 28 v d p) (hf : Fits Try.prog 28 d) : ∃ x y : Int, v = .agg #[.int .i64 x, .int .i64 y] := by
  obtain ⟨cs, rfl, hsz⟩ := okWide_struct Try.underlying28 hv
  rw [show Try.prog.cellsOf 28 = 2 by kernel_rfl] at hsz
  obtain ⟨fuel, h⟩ := h
  obtain ⟨x, y, e⟩ := open_Fact (cs := cs.toList) (by simpa using hsz) ⟨fuel, p, h⟩ hf
  exact ⟨x, y, by rw [show cs = [.int .i64 x, .int .i64 y].toArray by rw [← e]]⟩
end

end Go.Proofs.Ythhfckjddknmeaa
