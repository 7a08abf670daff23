/- Arguments opened: an array of two facts. -/
import Derived.Test.YthhfckjddknmeaaOpen
namespace Go.Proofs.Ythhfckjddknmeaa
set_option linter.unusedSimpArgs false
set_option linter.unusedVariables false
open Go.RowKit Go.ChangeShapes Go.WideShapes Go.Deep Go.Joins
theorem okWide_arr2 {P : Program} {w : World} {r : Reach} {base : Nat} {t e : TypeId} {n : Nat} {v : Value} (ht : P.underlying t = some (.array n e)) (h : Value.okWide P w r base t v) : ∃ cs, v = .agg cs ∧ cs.size = P.cellsOf t := by
  simp only [Value.okWide, ht] at h
  obtain ⟨cs, h1, h2, _⟩ := h
  exact ⟨cs, h1, h2⟩
section
variable {H : Type} {enc : TypeId × Value → H} {P : Program} {w : World} {base : Nat} {spare : Nat → Bool} {held : Bool}
theorem trod_twoF {t e : TypeId} {fuel : Nat} {c0 c1 c2 c3 : Value} {x : DataW H × List MemPlace} (ht : P.underlying t = some (.array 2 e)) (hce : P.cellsOf e = 2)
    (h : DataW.trod enc P w base spare held fuel t [c0, c1, c2, c3] = some x) :
    ∃ y0 y1 n, x = (.agg [y0.1, y1.1], y0.2 ++ y1.2) ∧ DataW.trod enc P w base spare held n e [c0, c1] = some y0 ∧ DataW.trod enc P w base spare held n e [c2, c3] = some y1 := by
  cases fuel with
  | zero => simp [DataW.trod] at h
  | succ n =>
    unfold DataW.trod at h
    rw [ht] at h
    have r2 : List.range 2 = [0, 1] := rfl
    simp [r2, hce] at h
    obtain ⟨_, h⟩ := h
    cases h0 : DataW.trod enc P w base spare held n e [c0, c1] with
    | none => simp [h0] at h
    | some y0 =>
      cases h1 : DataW.trod enc P w base spare held n e [c2, c3] with
      | none => simp [h0, h1] at h
      | some y1 =>
        simp [h0, h1] at h
        exact ⟨y0, y1, n, h.symm, h0, h1⟩
end
section
variable {H : Type} {enc : TypeId × Value → H} {W : World} {base : Nat} {v : Value} {d : DataW H} {p : List MemPlace}
set_option maxRecDepth 100000 in
theorem arg_fact2 (hv : Value.okWide Try.prog W .any base 29 v) (h : DataW.Trod enc Try.prog W 0 (fun _ => true) true 29 v d p) (hf : Fits Try.prog 29 d) : ∃ x0 y0 x1 y1 : Int, v = .agg #[.int .i64 x0, .int .i64 y0, .int .i64 x1, .int .i64 y1] := by
  obtain ⟨cs, rfl, hsz⟩ := okWide_arr2 Try.underlying29 hv
  rw [show Try.prog.cellsOf 29 = 4 by kernel_rfl] at hsz
  obtain ⟨l⟩ := cs
  match l, hsz with
  | [c0, c1, c2, c3], _ =>
    obtain ⟨fuel, hx⟩ := h
    obtain ⟨y0, y1, m, hy, hy0, hy1⟩ := trod_twoF Try.underlying29 (show Try.prog.cellsOf 28 = 2 by kernel_rfl) hx
    simp only [Prod.mk.injEq] at hy
    obtain ⟨rfl, rfl⟩ := hy
    have f0 : Fits Try.prog 28 y0.1 := fun y hy => hf y (by simp only [DataW.weights, Try.underlying29]; exact weights_all (by simp) y hy)
    have f1 : Fits Try.prog 28 y1.1 := fun y hy => hf y (by simp only [DataW.weights, Try.underlying29]; exact weights_all (by simp) y hy)
    obtain ⟨x0, z0, e0⟩ := open_Fact (cs := [c0, c1]) rfl ⟨m, y0.2, hy0⟩ f0
    obtain ⟨x1, z1, e1⟩ := open_Fact (cs := [c2, c3]) rfl ⟨m, y1.2, hy1⟩ f1
    simp only [List.cons.injEq, and_true] at e0 e1
    obtain ⟨rfl, rfl⟩ := e0
    obtain ⟨rfl, rfl⟩ := e1
    exact ⟨x0, z0, x1, z1, rfl⟩
end

end Go.Proofs.Ythhfckjddknmeaa
