/- Plain laws: the fractions as rational numbers. No program in sight. -/
import Derived.Test.YtmdkchoepcjahaaDoorFracE
namespace Go.Proofs.YtmdkchoepcjahaaDoor
set_option linter.unusedSimpArgs false
set_option linter.unusedVariables false

/-- A rational number as a fraction, or ErrLarge. -/
def toF (r : Rat) : Int × Int × Int :=
  if aI r.num > 1099511627776 ∨ (r.den : Int) > 1048576 then (0, 0, 5) else (r.num, r.den, 0)

theorem num_pos (n d : Int) (hd : 1 ≤ d) : (Rat.divInt n d).num = n.tdiv (gI n d) := by
  rw [Rat.num_divInt, Int.sign_eq_one_of_pos (by omega), Int.one_mul]
  unfold gI
  rw [Int.gcd_comm d n, Int.tdiv_eq_ediv_of_dvd (Int.gcd_dvd_left n d)]
theorem den_pos (n d : Int) (hd : 1 ≤ d) : ((Rat.divInt n d).den : Int) = d / gI n d := by
  rw [Rat.den_divInt, if_neg (by omega)]
  unfold gI
  rw [Int.gcd_comm d n, Int.natCast_ediv, Int.natAbs_of_nonneg (by omega)]
theorem newG_rat (n d : Int) (hd : 1 ≤ d) : newG n d = toF (Rat.divInt n d) := by
  unfold newG toF
  rw [num_pos n d hd, den_pos n d hd]
theorem newF_rat (n d : Int) (h0 : d ≠ 0) (h1 : n ≠ -9223372036854775808) (h2 : d ≠ -9223372036854775808) : newF n d = toF (Rat.divInt n d) := by
  unfold newF
  rw [if_neg h0, if_neg (by omega)]
  by_cases h : d < 0
  · rw [if_pos h, newG_rat _ _ (by omega), Rat.neg_divInt_neg]
  · rw [if_neg h, newG_rat _ _ (by omega)]
theorem red_gI (r : Rat) : gI r.num r.den = 1 := by
  unfold gI
  have := r.reduced
  unfold Nat.Coprime at this
  simp [Int.gcd, this]
theorem toF_ok (r : Rat) (h1 : aI r.num ≤ 1099511627776) (h2 : (r.den : Int) ≤ 1048576) : toF r = (r.num, (r.den : Int), 0) ∧ prB r.num r.den = true := by
  have := r.den_pos
  refine ⟨by unfold toF; rw [if_neg (by omega)], ?_⟩
  have := red_gI r
  unfold aI at h1
  unfold prB; simp only [decide_eq_true_eq]; omega
theorem toF_large (r : Rat) (h : ¬ (aI r.num ≤ 1099511627776 ∧ (r.den : Int) ≤ 1048576)) : toF r = (0, 0, 5) := by
  unfold toF; rw [if_pos (by omega)]
theorem toF_cases (r : Rat) : (toF r = (r.num, (r.den : Int), 0) ∧ prB r.num r.den = true) ∨ toF r = (0, 0, 5) := by
  by_cases h : aI r.num ≤ 1099511627776 ∧ (r.den : Int) ≤ 1048576
  · exact .inl (toF_ok r h.1 h.2)
  · exact .inr (toF_large r h)
/-- A proper fraction is its rational number. -/
theorem prB_rat {n d : Int} (h : prB n d = true) : (Rat.divInt n d).num = n ∧ ((Rat.divInt n d).den : Int) = d := by
  unfold prB at h; simp only [decide_eq_true_eq] at h
  obtain ⟨h1, _, _, _, hg⟩ := h
  rw [num_pos n d h1, den_pos n d h1, hg]
  simp
theorem prB_toF {n d : Int} (h : prB n d = true) : toF (Rat.divInt n d) = (n, d, 0) := by
  obtain ⟨h1, h2⟩ := prB_rat h
  unfold prB at h; simp only [decide_eq_true_eq] at h
  unfold toF; rw [h1, h2, if_neg (by unfold aI; omega)]
theorem newF_cases (n d : Int) : (∃ p q, newF n d = (p, q, 0) ∧ prB p q = true) ∨ ∃ c, (c = 22 ∨ c = 5) ∧ newF n d = (0, 0, c) := by
  by_cases h0 : d = 0
  · exact .inr ⟨22, .inl rfl, by unfold newF; rw [if_pos h0]⟩
  by_cases h1 : n = -9223372036854775808 ∨ d = -9223372036854775808
  · exact .inr ⟨5, .inr rfl, by unfold newF; rw [if_neg h0, if_pos h1]⟩
  rw [newF_rat n d h0 (by omega) (by omega)]
  rcases toF_cases (Rat.divInt n d) with h | h
  · exact .inl ⟨_, _, h⟩
  · exact .inr ⟨5, .inr rfl, h⟩

theorem addF_cases (n d m e : Int) : (∃ p q, addF n d m e = (p, q, 0) ∧ prB p q = true) ∨ ∃ c, (c = 22 ∨ c = 5 ∨ c = 2) ∧ addF n d m e = (0, 0, c) := by
  unfold addF
  split
  · rcases newF_cases (n * e + m * d) (d * e) with h | ⟨c, hc, h⟩
    · exact .inl h
    · exact .inr ⟨c, by omega, h⟩
  · exact .inr ⟨2, by omega, rfl⟩
theorem subF_cases (n d m e : Int) : (∃ p q, subF n d m e = (p, q, 0) ∧ prB p q = true) ∨ ∃ c, (c = 22 ∨ c = 5 ∨ c = 2) ∧ subF n d m e = (0, 0, c) := by
  unfold subF
  split
  · rcases newF_cases (n * e - m * d) (d * e) with h | ⟨c, hc, h⟩
    · exact .inl h
    · exact .inr ⟨c, by omega, h⟩
  · exact .inr ⟨2, by omega, rfl⟩
theorem addF_rat {n d m e : Int} (h1 : prB n d = true) (h2 : prB m e = true) : addF n d m e = toF (Rat.divInt n d + Rat.divInt m e) := by
  obtain ⟨a1, a2, a3, a4, _⟩ := prB_bounds h1
  obtain ⟨b1, b2, b3, b4, _⟩ := prB_bounds h2
  obtain ⟨k1, k2, k3, k4, k5, k6⟩ := sum_bounds h1 h2
  unfold addF
  rw [h1, h2, Rat.divInt_add_divInt _ _ (by omega) (by omega)]
  exact newF_rat _ _ (by omega) (by omega) (by omega)
theorem subF_rat {n d m e : Int} (h1 : prB n d = true) (h2 : prB m e = true) : subF n d m e = toF (Rat.divInt n d - Rat.divInt m e) := by
  obtain ⟨a1, a2, a3, a4, _⟩ := prB_bounds h1
  obtain ⟨b1, b2, b3, b4, _⟩ := prB_bounds h2
  obtain ⟨k1, k2, k3, k4, k5, k6⟩ := sum_bounds h1 h2
  unfold subF
  rw [h1, h2, Rat.divInt_sub_divInt _ _ (by omega) (by omega)]
  exact newF_rat _ _ (by omega) (by omega) (by omega)

end Go.Proofs.YtmdkchoepcjahaaDoor
