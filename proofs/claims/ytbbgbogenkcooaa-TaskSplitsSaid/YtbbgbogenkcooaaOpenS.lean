/- Arguments opened: arrays of two lists of numbers. -/
import Derived.Test.YtbbgbogenkcooaaOpen
namespace Go.Proofs.Ytbbgbogenkcooaa
set_option linter.unusedSimpArgs false
set_option linter.unusedVariables false
open Go.RowKit Go.ChangeShapes Go.WideShapes Go.Deep Go.Joins

theorem okWide_arr {P : Program} {w : World} {r : Reach} {base : Nat} {t e : TypeId} {n : Nat} {v : Value} (ht : P.underlying t = some (.array n e)) (h : Value.okWide P w r base t v) : ∃ cs, v = .agg cs ∧ cs.size = P.cellsOf t := by
  simp only [Value.okWide, ht] at h
  obtain ⟨cs, h1, h2, _⟩ := h
  exact ⟨cs, h1, h2⟩
section
variable {H : Type} {enc : TypeId × Value → H} {P : Program} {w : World} {base : Nat} {spare : Nat → Bool} {held : Bool}
theorem trod_two {t e : TypeId} {fuel : Nat} {c0 c1 : Value} {x : DataW H × List MemPlace} (ht : P.underlying t = some (.array 2 e)) (hce : P.cellsOf e = 1)
    (h : DataW.trod enc P w base spare held fuel t [c0, c1] = some x) :
    ∃ y0 y1 n, x = (.agg [y0.1, y1.1], y0.2 ++ y1.2) ∧ DataW.trod enc P w base spare held n e [c0] = some y0 ∧ DataW.trod enc P w base spare held n e [c1] = some y1 := by
  cases fuel with
  | zero => simp [DataW.trod] at h
  | succ n =>
    unfold DataW.trod at h
    rw [ht] at h
    have r2 : List.range 2 = [0, 1] := rfl
    simp [r2, hce] at h
    obtain ⟨_, h⟩ := h
    cases h0 : DataW.trod enc P w base spare held n e [c0] with
    | none => simp [h0] at h
    | some y0 =>
      cases h1 : DataW.trod enc P w base spare held n e [c1] with
      | none => simp [h0, h1] at h
      | some y1 =>
        simp [h0, h1] at h
        exact ⟨y0, y1, n, h.symm, h0, h1⟩
end
section
variable {H : Type} {enc : TypeId × Value → H} {W : World} {base : Nat} {v : Value} {d : DataW H} {p : List MemPlace}
set_option maxRecDepth 100000 in
theorem arg_ints2 (hv : Value.okWide Try.prog W .any base 78 v) (h : DataW.Trod enc Try.prog W 0 (fun _ => true) true 78 v d p) (hf : Fits Try.prog 78 d) : ∃ A l c B m b, v = .agg #[.slice A l.length c, .slice B m.length b] ∧ ((A = none → c = 0) ∧ IntsAt W W.heap.size A l) ∧ ((B = none → b = 0) ∧ IntsAt W W.heap.size B m) := by
  obtain ⟨cs, rfl, hsz⟩ := okWide_arr Try.underlying78 hv
  rw [show Try.prog.cellsOf 78 = 2 by kernel_rfl] at hsz
  obtain ⟨l⟩ := cs
  match l, hsz with
  | [c0, c1], _ =>
    obtain ⟨fuel, hx⟩ := h
    obtain ⟨y0, y1, m, hy, hy0, hy1⟩ := trod_two Try.underlying78 (show Try.prog.cellsOf 22 = 1 by kernel_rfl) hx
    simp only [Prod.mk.injEq] at hy
    obtain ⟨rfl, rfl⟩ := hy
    have f0 : Fits Try.prog 22 y0.1 := fun y hy => hf y (by simp only [DataW.weights, Try.underlying78]; exact weights_all (by simp) y hy)
    have f1 : Fits Try.prog 22 y1.1 := fun y hy => hf y (by simp only [DataW.weights, Try.underlying78]; exact weights_all (by simp) y hy)
    obtain ⟨A, l, c, e, hA, iA, _⟩ := open_IntsAt (cs := [c0]) ⟨m, y0.2, hy0⟩ f0
    obtain ⟨B, m, b, e', hB, iB, _⟩ := open_IntsAt (cs := [c1]) ⟨m, y1.2, hy1⟩ f1
    simp only [List.cons.injEq, and_true] at e e'
    subst e e'
    exact ⟨A, l, c, B, m, b, rfl, ⟨hA, iA⟩, ⟨hB, iB⟩⟩
end

end Go.Proofs.Ytbbgbogenkcooaa
