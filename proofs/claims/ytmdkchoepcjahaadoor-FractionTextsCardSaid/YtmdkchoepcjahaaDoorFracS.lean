/- Plain laws: products and quotients of fractions as rational numbers. -/
import Derived.Test.YtmdkchoepcjahaaDoorFracR
namespace Go.Proofs.YtmdkchoepcjahaaDoor
set_option linter.unusedSimpArgs false
set_option linter.unusedVariables false

theorem divInt_red {n d : Int} (hd : 1 ≤ d) (hg : gI n d = 1) : (Rat.divInt n d).num = n ∧ ((Rat.divInt n d).den : Int) = d := by
  rw [num_pos n d hd, den_pos n d hd, hg]; simp
theorem toF_red {n d : Int} (hd : 1 ≤ d) (hg : gI n d = 1) : toF (Rat.divInt n d) = if aI n > 1099511627776 ∨ d > 1048576 then (0, 0, 5) else (n, d, 0) := by
  obtain ⟨h1, h2⟩ := divInt_red hd hg
  unfold toF; rw [h1, h2]
theorem madeF_rat (minus : Bool) (x y : Int) (hx : 0 ≤ x) (hy : 1 ≤ y) : madeF minus x y = toF (Rat.divInt (if minus then -x else x) y) := by
  rw [← newG_rat _ _ hy, newG_made _ _ hy]
  by_cases h0 : x = 0
  · subst h0; cases minus <;> simp [madeF, aI]
  · cases minus
    · have e1 : aI x = x := by unfold aI; omega
      have e2 : decide (x < 0) = false := by simp; omega
      simp [e1, e2]
    · have e1 : aI (-x) = x := by unfold aI; omega
      have e2 : decide (-x < 0) = true := by simp; omega
      rw [if_pos rfl, e1, e2]
/-- A number and a positive one by their greatest common divisor. -/
theorem gcd_parts (a b : Int) (hb : 1 ≤ b) : ∃ u v, a = gI a b * u ∧ b = gI a b * v ∧ gI u v = 1 ∧ 1 ≤ v ∧ a.tdiv (gI a b) = u ∧ b / gI a b = v := by
  have hg := gI_pos a b hb
  have h1 : gI a b ∣ a := by unfold gI; exact Int.gcd_dvd_left a b
  have h2 : gI a b ∣ b := by unfold gI; exact Int.gcd_dvd_right a b
  obtain ⟨u, hu⟩ := h1
  obtain ⟨v, hv⟩ := h2
  have e1 : a / gI a b = u := Int.ediv_eq_of_eq_mul_right (by omega) hu
  have e2 : b / gI a b = v := Int.ediv_eq_of_eq_mul_right (by omega) hv
  refine ⟨u, v, hu, hv, ?_, ?_, ?_, e2⟩
  · rw [← e1, ← e2]
    unfold gI at hg ⊢
    have := Int.gcd_ediv_gcd_ediv_gcd (i := a) (j := b) (by omega)
    omega
  · rcases Int.lt_or_le v 1 with h | h
    · have : gI a b * v ≤ 0 := Int.mul_nonpos_of_nonneg_of_nonpos (by omega) (by omega)
      omega
    · exact h
  · rw [Int.tdiv_eq_ediv_of_dvd ⟨u, hu⟩, e1]
theorem gI_mul (a b c : Int) (h1 : gI a c = 1) (h2 : gI b c = 1) : gI (a * b) c = 1 := by
  unfold gI Int.gcd at *
  have h1' : Nat.Coprime a.natAbs c.natAbs := by unfold Nat.Coprime; omega
  have h2' : Nat.Coprime b.natAbs c.natAbs := by unfold Nat.Coprime; omega
  have := Nat.Coprime.mul_left h1' h2'
  rw [Int.natAbs_mul]
  unfold Nat.Coprime at this; omega
theorem gI_comm (a b : Int) : gI a b = gI b a := by unfold gI; rw [Int.gcd_comm]
theorem gI_of_mul (k a b l : Int) (h : gI (k * a) (l * b) = 1) : gI a b = 1 := by
  unfold gI Int.gcd at *
  rw [Int.natAbs_mul, Int.natAbs_mul] at h
  have h' : Nat.Coprime (k.natAbs * a.natAbs) (l.natAbs * b.natAbs) := by unfold Nat.Coprime; omega
  have := (h'.coprime_mul_left).coprime_mul_left_right
  unfold Nat.Coprime at this; omega
theorem lt_div_iff (a b M : Int) (hb : 1 ≤ b) : (M / b < a) ↔ (M < a * b) := by
  exact Int.ediv_lt_iff_lt_mul (by omega)
theorem aI_mul (a b : Int) : aI (a * b) = aI a * aI b := by unfold aI; rw [Int.natAbs_mul]; simp

/-- times. -/
def timesF (n d m e : Int) : Int × Int × Int :=
  if n = 0 ∨ m = 0 then (0, 1, 0)
  else if aI (n.tdiv (gI n e)) > 1099511627776 / aI (m.tdiv (gI m d)) ∨ d / gI m d > 1048576 / (e / gI n e) then (0, 0, 5)
  else (n.tdiv (gI n e) * m.tdiv (gI m d), d / gI m d * (e / gI n e), 0)
theorem timesF_rat (n d m e : Int) (hd : 1 ≤ d) (he : 1 ≤ e) (h1 : gI n d = 1) (h2 : gI m e = 1) : timesF n d m e = toF (Rat.divInt n d * Rat.divInt m e) := by
  unfold timesF
  by_cases h0 : n = 0 ∨ m = 0
  · rw [if_pos h0]
    rcases h0 with h0 | h0
    · subst h0; simp; decide
    · subst h0; simp; decide
  rw [if_neg h0]
  obtain ⟨u, v, hn, hev, c1, hv, t1, t2⟩ := gcd_parts n e he
  obtain ⟨s, t, hm, hdt, c2, ht, t3, t4⟩ := gcd_parts m d hd
  rw [t1, t2, t3, t4]
  have hs : s ≠ 0 := by intro h; rw [h] at hm; simp at hm; omega
  have has : 1 ≤ aI s := by unfold aI; omega
  have c3 : gI u t = 1 := by rw [hn, hdt] at h1; exact gI_of_mul _ _ _ _ h1
  have c4 : gI s v = 1 := by rw [hm, hev] at h2; exact gI_of_mul _ _ _ _ h2
  have c5 : gI (u * s) (t * v) = 1 := by
    rw [gI_comm]
    refine gI_mul _ _ _ ?_ ?_
    · rw [gI_comm]; exact gI_mul _ _ _ c3 c2
    · rw [gI_comm]; exact gI_mul _ _ _ c1 c4
  have htv : 1 * 1 ≤ t * v := Int.mul_le_mul ht hv (by omega) (by omega)
  have hr : Rat.divInt n d * Rat.divInt m e = Rat.divInt (u * s) (t * v) := by
    rw [Rat.divInt_mul_divInt, Rat.divInt_eq_divInt_iff (by have : 1 * 1 ≤ d * e := Int.mul_le_mul hd he (by omega) (by omega); omega) (by omega)]
    generalize gI n e = g at *
    generalize gI m d = h at *
    subst hn hev hm hdt
    grind
  rw [hr, toF_red (by omega) c5, aI_mul]
  have k1 := lt_div_iff (aI u) (aI s) 1099511627776 has
  have k2 := lt_div_iff t v 1048576 hv
  by_cases g1 : 1099511627776 / aI s < aI u ∨ 1048576 / v < t
  · rw [if_pos g1, if_pos (by omega)]
  · rw [if_neg g1, if_neg (by omega)]
/-- The reference's product: sign, numerator, denominator. -/
theorem rmul_rat (n d m e : Int) (hd : 1 ≤ d) (he : 1 ≤ e) :
    Rat.divInt n d * Rat.divInt m e = Rat.divInt (if decide (n < 0) != decide (m < 0) then -(aI n / gI (aI n) e * (aI m / gI (aI m) d)) else aI n / gI (aI n) e * (aI m / gI (aI m) d)) (d / gI (aI m) d * (e / gI (aI n) e)) := by
  obtain ⟨u, v, hn, hev, c1, hv, t1, t2⟩ := gcd_parts (aI n) e he
  obtain ⟨s, t, hm, hdt, c2, ht, t3, t4⟩ := gcd_parts (aI m) d hd
  have a1 : 0 ≤ aI n := by unfold aI; omega
  have a2 : 0 ≤ aI m := by unfold aI; omega
  rw [Int.tdiv_eq_ediv_of_nonneg a1] at t1
  rw [Int.tdiv_eq_ediv_of_nonneg a2] at t3
  rw [t1, t2, t3, t4]
  have htv : 1 * 1 ≤ t * v := Int.mul_le_mul ht hv (by omega) (by omega)
  rw [Rat.divInt_mul_divInt, Rat.divInt_eq_divInt_iff (by have : 1 * 1 ≤ d * e := Int.mul_le_mul hd he (by omega) (by omega); omega) (by omega)]
  have sn : n = if n < 0 then -aI n else aI n := by unfold aI; split <;> omega
  have sm : m = if m < 0 then -aI m else aI m := by unfold aI; split <;> omega
  generalize aI n = n' at *
  generalize aI m = m' at *
  generalize gI n' e = g at *
  generalize gI m' d = h at *
  by_cases p1 : n < 0 <;> by_cases p2 : m < 0 <;> simp only [p1, p2, if_true, if_false, decide_true, decide_false] at sn sm ⊢ <;> simp <;> grind
/-- The reference's quotient. -/
theorem rdiv_rat (n d m e : Int) (hd : 1 ≤ d) (he : 1 ≤ e) (hm0 : m ≠ 0) :
    Rat.divInt n d * Rat.divInt e m = Rat.divInt (if decide (n < 0) != decide (m < 0) then -(aI n / gI (aI n) (aI m) * (e / gI e d)) else aI n / gI (aI n) (aI m) * (e / gI e d)) (d / gI e d * (aI m / gI (aI n) (aI m))) := by
  have am : 1 ≤ aI m := by unfold aI; omega
  obtain ⟨u, v, hn, hev, c1, hv, t1, t2⟩ := gcd_parts (aI n) (aI m) am
  obtain ⟨s, t, hm, hdt, c2, ht, t3, t4⟩ := gcd_parts e d hd
  have a1 : 0 ≤ aI n := by unfold aI; omega
  rw [Int.tdiv_eq_ediv_of_nonneg a1] at t1
  rw [Int.tdiv_eq_ediv_of_nonneg (by omega)] at t3
  rw [t1, t2, t3, t4]
  have htv : 1 * 1 ≤ t * v := Int.mul_le_mul ht hv (by omega) (by omega)
  rw [Rat.divInt_mul_divInt, Rat.divInt_eq_divInt_iff (by intro h; rcases Int.mul_eq_zero.1 h with h | h <;> omega) (by omega)]
  have sn : n = if n < 0 then -aI n else aI n := by unfold aI; split <;> omega
  have sm : m = if m < 0 then -aI m else aI m := by unfold aI; split <;> omega
  generalize aI n = n' at *
  generalize aI m = m' at *
  generalize gI n' m' = g at *
  generalize gI e d = h at *
  by_cases p1 : n < 0 <;> by_cases p2 : m < 0 <;> simp only [p1, p2, if_true, if_false, decide_true, decide_false] at sn sm ⊢ <;> simp <;> grind

def mulF (n d m e : Int) : Int × Int × Int := if prB n d && prB m e then toF (Rat.divInt n d * Rat.divInt m e) else (0, 0, 2)
def divF (n d m e : Int) : Int × Int × Int := if prB n d && prB m e then (if m = 0 then (0, 0, 22) else toF (Rat.divInt n d * Rat.divInt e m)) else (0, 0, 2)
theorem times_mul {n d m e : Int} (h1 : prB n d = true) (h2 : prB m e = true) : timesF n d m e = mulF n d m e := by
  obtain ⟨a1, a2, a3, a4, a5⟩ := prB_bounds h1
  obtain ⟨b1, b2, b3, b4, b5⟩ := prB_bounds h2
  unfold mulF; rw [h1, h2, timesF_rat n d m e a1 b1 a5 b5]; rfl
theorem times_div_neg {n d m e : Int} (h1 : prB n d = true) (h2 : prB m e = true) (hm : m < 0) : timesF (-n) d e (-m) = divF n d m e := by
  obtain ⟨a1, a2, a3, a4, a5⟩ := prB_bounds h1
  obtain ⟨b1, b2, b3, b4, b5⟩ := prB_bounds h2
  have g1 : gI (-n) d = 1 := by unfold gI at *; simp; omega
  have g2 : gI e (-m) = 1 := by rw [gI_comm]; unfold gI at *; simp; omega
  have e1 : Rat.divInt e (-m) = Rat.divInt (-e) m := by rw [← Rat.neg_divInt_neg, Int.neg_neg]
  unfold divF; rw [h1, h2, timesF_rat (-n) d e (-m) a1 (by omega) g1 g2, e1, Rat.divInt_mul_divInt, Rat.divInt_mul_divInt, Int.neg_mul_neg]; simp [show m ≠ 0 by omega]
theorem times_div_pos {n d m e : Int} (h1 : prB n d = true) (h2 : prB m e = true) (hm : 0 < m) : timesF n d e m = divF n d m e := by
  obtain ⟨a1, a2, a3, a4, a5⟩ := prB_bounds h1
  obtain ⟨b1, b2, b3, b4, b5⟩ := prB_bounds h2
  unfold divF; rw [h1, h2, timesF_rat n d e m a1 (by omega) a5 (by rw [gI_comm]; exact b5)]; simp [show m ≠ 0 by omega]

end Go.Proofs.YtmdkchoepcjahaaDoor
