/- How long a list of numbers can be that is an argument. -/
import Derived.Test.YtbcbmpnikgeoeaaDoorMpD
namespace Go.Proofs.YtbcbmpnikgeoeaaDoor
set_option linter.unusedSimpArgs false
set_option linter.unusedVariables false
open Go Go.RowKit Go.ChangeShapes Go.WideShapes Go.Deep Go.Joins
set_option linter.unusedVariables false

section
variable {H : Type} {enc : TypeId × Value → H} {P : Program} {w : World}
theorem row_fit {t e : TypeId} {cs : List Value} {d : DataW H} (ht : P.underlying t = some (.slice e)) (h : Reads enc P w t cs d) (hf : Fits P t d) : ∀ A len c, cs = [.slice A len c] → len * P.bytesOf e ≤ 140737488351232 := by
  intro A n c hcs
  obtain ⟨fuel, ps, h⟩ := h
  rcases open_slice ht h with ⟨rfl, _⟩ | ⟨a, len, cap, m, k, D, Pl, rfl, _, hlc, _, hm, hx, hi⟩
  · simp at hcs
    rw [← hcs.2.1]
    simp
  · simp only [ite_true] at hm
    subst hm
    simp only [Prod.mk.injEq] at hx
    obtain ⟨rfl, rfl⟩ := hx
    have hw : (len + (m - len)) * P.bytesOf e ≤ reachBytes := hf _ (by simp [DataW.weights, ht])
    have hr : reachBytes = 140737488351232 := rfl
    simp at hcs
    rw [← hcs.2.1]
    have h2 : len * P.bytesOf e ≤ (len + (m - len)) * P.bytesOf e := Nat.mul_le_mul (by omega) (Nat.le_refl _)
    omega
theorem ints_fit {v : Value} {d : DataW H} {p : List MemPlace} {W : World} (h : DataW.Trod enc Tryd.prog W 0 (fun _ => true) true 23 v d p) (hf : Fits Tryd.prog 23 d) : ∀ A n c, v = .slice A n c → n * 8 ≤ 140737488351232 := by
  intro A n c hv
  obtain ⟨fuel, h⟩ := h
  subst hv
  have := row_fit (cs := [.slice A n c]) Tryd.underlying23 ⟨fuel, p, h⟩ hf A n c rfl
  rw [show Tryd.prog.bytesOf 3 = 8 by kernel_rfl] at this
  exact this
end
end Go.Proofs.YtbcbmpnikgeoeaaDoor
