/- Proper fractions, plain: one value, one fraction. No program in sight. -/
import Derived.Test.YtmdkchoepcjahaaDoorFracH
namespace Go.Proofs.YtmdkchoepcjahaaDoor
set_option linter.unusedSimpArgs false
set_option linter.unusedVariables false
open Go.RowKit
set_option linter.unusedVariables false

/-- Two proper fractions with one value are one. -/
theorem proper_eq {n d m e : Int} (h1 : prB n d = true) (h2 : prB m e = true) (h : n * e = m * d) : n = m ∧ d = e := by
  obtain ⟨a1, a2⟩ := prB_rat h1
  obtain ⟨b1, b2⟩ := prB_rat h2
  have := (Rat.divInt_eq_divInt_iff (by have := prB_bounds h1; omega) (by have := prB_bounds h2; omega)).2 h
  rw [this] at a1 a2
  exact ⟨a1.symm.trans b1, a2.symm.trans b2⟩
theorem valNP {n d : Int} (h : prB n d = true) : valN n d = n ∧ valD n d = d := by unfold valN valD; rw [if_pos h, if_pos h]; exact ⟨rfl, rfl⟩
theorem cmpF_lt {n d m e : Int} (h1 : prB n d = true) (h2 : prB m e = true) : cmpF n d m e < 0 ↔ n * e < m * d := by
  unfold cmpF
  rw [(valNP h1).1, (valNP h1).2, (valNP h2).1, (valNP h2).2]
  split
  · simp_all
  · split <;> simp_all
theorem cmpF_gt {n d m e : Int} (h1 : prB n d = true) (h2 : prB m e = true) : 0 < cmpF n d m e ↔ m * d < n * e := by
  unfold cmpF
  rw [(valNP h1).1, (valNP h1).2, (valNP h2).1, (valNP h2).2]
  split
  · simp_all; omega
  · split <;> simp_all

end Go.Proofs.YtmdkchoepcjahaaDoor
