/- FractionField, plain: small fractions as rationals. -/
import Derived.Test.YtmbbojpghliaaaaFracV
import Derived.Test.YtmbbojpghliaaaaFracS
namespace Go.Proofs.Ytmbbojpghliaaaa
set_option linter.unusedSimpArgs false
set_option linter.unusedVariables false
set_option linter.unusedVariables false

/-- A rational with a numerator up to N and a denominator up to D. -/
def Bd (r : Rat) (N D : Int) : Prop := ∃ n d : Int, 1 ≤ d ∧ d ≤ D ∧ -N ≤ n ∧ n ≤ N ∧ r = Rat.divInt n d
/-- A proper fraction and its value. -/
def Fr (p q : Int) (r : Rat) : Prop := prB p q = true ∧ Rat.divInt p q = r
theorem mul_bd {a b A B : Int} (h1 : -A ≤ a) (h2 : a ≤ A) (h3 : -B ≤ b) (h4 : b ≤ B) : -(A * B) ≤ a * b ∧ a * b ≤ A * B := by
  have hA : 0 ≤ A := by omega
  have hB : 0 ≤ B := by omega
  have h5 : (a * b).natAbs ≤ (A * B).natAbs := by
    rw [Int.natAbs_mul, Int.natAbs_mul]
    exact Nat.mul_le_mul (by omega) (by omega)
  have h6 : 0 ≤ A * B := Int.mul_nonneg hA hB
  omega
theorem Bd.add {r s : Rat} {N D M E : Int} (h1 : Bd r N D) (h2 : Bd s M E) : Bd (r + s) (N * E + M * D) (D * E) := by
  obtain ⟨n, d, a1, a2, a3, a4, rfl⟩ := h1
  obtain ⟨m, e, b1, b2, b3, b4, rfl⟩ := h2
  refine ⟨n * e + m * d, d * e, ?_, ?_, ?_, ?_, Rat.divInt_add_divInt _ _ (by omega) (by omega)⟩
  · have := Int.mul_le_mul a1 b1 (by omega) (by omega); omega
  · exact Int.mul_le_mul a2 b2 (by omega) (by omega)
  · have := (mul_bd (B := E) a3 a4 (show -E ≤ e by omega) b2).1; have := (mul_bd (B := D) b3 b4 (show -D ≤ d by omega) a2).1; omega
  · have := (mul_bd (B := E) a3 a4 (show -E ≤ e by omega) b2).2; have := (mul_bd (B := D) b3 b4 (show -D ≤ d by omega) a2).2; omega
theorem Bd.mul {r s : Rat} {N D M E : Int} (h1 : Bd r N D) (h2 : Bd s M E) : Bd (r * s) (N * M) (D * E) := by
  obtain ⟨n, d, a1, a2, a3, a4, rfl⟩ := h1
  obtain ⟨m, e, b1, b2, b3, b4, rfl⟩ := h2
  refine ⟨n * m, d * e, ?_, ?_, (mul_bd a3 a4 b3 b4).1, (mul_bd a3 a4 b3 b4).2, Rat.divInt_mul_divInt _ _⟩
  · have := Int.mul_le_mul a1 b1 (by omega) (by omega); omega
  · exact Int.mul_le_mul a2 b2 (by omega) (by omega)
theorem Bd.inv {r : Rat} {N D : Int} (h1 : Bd r N D) (h0 : r ≠ 0) : Bd r⁻¹ D N := by
  obtain ⟨n, d, a1, a2, a3, a4, rfl⟩ := h1
  rw [Rat.inv_divInt]
  have hn : n ≠ 0 := by rintro rfl; exact h0 (Rat.zero_divInt _)
  by_cases h : 0 < n
  · exact ⟨d, n, by omega, by omega, by omega, by omega, rfl⟩
  · exact ⟨-d, -n, by omega, by omega, by omega, by omega, (Rat.neg_divInt_neg _ _).symm⟩
theorem Bd.toF {r : Rat} {N D : Int} (h : Bd r N D) (hN : N ≤ 1099511627776) (hD : D ≤ 1048576) : ∃ p q, toF r = (p, q, 0) ∧ Fr p q r := by
  obtain ⟨n, d, a1, a2, a3, a4, rfl⟩ := h
  obtain ⟨p, q, e1, e2, e3⟩ := newF_small (n := n) (d := d) (by omega) (by omega) a1 (by omega)
  rw [newF_rat _ _ (by omega) (by omega) (by omega)] at e1
  exact ⟨p, q, e1, e2, e3⟩
theorem Fr.add {p q m e : Int} {r s : Rat} (h1 : Fr p q r) (h2 : Fr m e s) : addF p q m e = toF (r + s) := by rw [addF_rat h1.1 h2.1, h1.2, h2.2]
theorem Fr.sub {p q m e : Int} {r s : Rat} (h1 : Fr p q r) (h2 : Fr m e s) : subF p q m e = toF (r - s) := by rw [subF_rat h1.1 h2.1, h1.2, h2.2]
theorem Fr.mul {p q m e : Int} {r s : Rat} (h1 : Fr p q r) (h2 : Fr m e s) : mulF p q m e = toF (r * s) := by unfold mulF; rw [h1.1, h2.1, h1.2, h2.2]; rfl
theorem Fr.zero {p q : Int} {r : Rat} (h : Fr p q r) : p = 0 ↔ r = 0 := by
  have hb := prB_bounds h.1
  have hr := (prB_rat h.1).1
  rw [h.2] at hr
  constructor
  · rintro rfl; rw [← h.2]; exact Rat.zero_divInt _
  · rintro rfl; rw [← hr]; rfl
theorem Fr.div {p q m e : Int} {r s : Rat} (h1 : Fr p q r) (h2 : Fr m e s) : divF p q m e = if m = 0 then (0, 0, 22) else toF (r * s⁻¹) := by
  unfold divF
  rw [h1.1, h2.1, h1.2, ← h2.2, Rat.inv_divInt]
  rfl

structure Field3 where
  (a1 a2 b1 b2 c1 c2 x1 x2 y1 y2 l1 l2 p1 p2 r1 r2 s1 s2 u1 u2 : Int)
structure Field3.Ok (f : Field3) (n0 n1 n2 e0 e1 e2 : Int) : Prop where
  n0 : newF n0 e0 = (f.a1, f.a2, 0)
  n1 : newF n1 e1 = (f.b1, f.b2, 0)
  n2 : newF n2 e2 = (f.c1, f.c2, 0)
  ab : addF f.a1 f.a2 f.b1 f.b2 = (f.x1, f.x2, 0)
  ba : addF f.b1 f.b2 f.a1 f.a2 = (f.x1, f.x2, 0)
  bc : addF f.b1 f.b2 f.c1 f.c2 = (f.y1, f.y2, 0)
  le : addF f.x1 f.x2 f.c1 f.c2 = (f.l1, f.l2, 0)
  ri : addF f.a1 f.a2 f.y1 f.y2 = (f.l1, f.l2, 0)
  p : mulF f.a1 f.a2 f.b1 f.b2 = (f.p1, f.p2, 0)
  q : mulF f.b1 f.b2 f.a1 f.a2 = (f.p1, f.p2, 0)
  r : mulF f.a1 f.a2 f.c1 f.c2 = (f.r1, f.r2, 0)
  s : mulF f.a1 f.a2 f.y1 f.y2 = (f.s1, f.s2, 0)
  t : addF f.p1 f.p2 f.r1 f.r2 = (f.s1, f.s2, 0)
  back : subF f.x1 f.x2 f.b1 f.b2 = (f.a1, f.a2, 0)
  div0 : f.b1 = 0 → divF f.a1 f.a2 f.b1 f.b2 = (0, 0, 22)
  div1 : f.b1 ≠ 0 → divF f.a1 f.a2 f.b1 f.b2 = (f.u1, f.u2, 0) ∧ mulF f.u1 f.u2 f.b1 f.b2 = (f.a1, f.a2, 0)

theorem field_facts (n0 n1 n2 e0 e1 e2 : Int) (h0 : -128 ≤ n0 ∧ n0 ≤ 127) (h1 : -128 ≤ n1 ∧ n1 ≤ 127) (h2 : -128 ≤ n2 ∧ n2 ≤ 127) (g0 : 1 ≤ e0 ∧ e0 ≤ 60) (g1 : 1 ≤ e1 ∧ e1 ≤ 60) (g2 : 1 ≤ e2 ∧ e2 ≤ 60) :
    ∃ f : Field3, f.Ok n0 n1 n2 e0 e1 e2 := by
  have A : Bd (Rat.divInt n0 e0) 128 60 := ⟨n0, e0, g0.1, g0.2, by omega, by omega, rfl⟩
  have B : Bd (Rat.divInt n1 e1) 128 60 := ⟨n1, e1, g1.1, g1.2, by omega, by omega, rfl⟩
  have C : Bd (Rat.divInt n2 e2) 128 60 := ⟨n2, e2, g2.1, g2.2, by omega, by omega, rfl⟩
  have fa := newF_rat n0 e0 (by omega) (by omega) (by omega)
  have fb := newF_rat n1 e1 (by omega) (by omega) (by omega)
  have fc := newF_rat n2 e2 (by omega) (by omega) (by omega)
  generalize Rat.divInt n0 e0 = a at *
  generalize Rat.divInt n1 e1 = b at *
  generalize Rat.divInt n2 e2 = c at *
  obtain ⟨a1, a2, ta, Fa⟩ := A.toF (by omega) (by omega)
  obtain ⟨b1, b2, tb, Fb⟩ := B.toF (by omega) (by omega)
  obtain ⟨c1, c2, tc, Fc⟩ := C.toF (by omega) (by omega)
  obtain ⟨x1, x2, tx, Fx⟩ := (A.add B).toF (by omega) (by omega)
  obtain ⟨y1, y2, ty, Fy⟩ := (B.add C).toF (by omega) (by omega)
  obtain ⟨l1, l2, tl, Fl⟩ := ((A.add B).add C).toF (by omega) (by omega)
  obtain ⟨p1, p2, tp, Fp⟩ := (A.mul B).toF (by omega) (by omega)
  obtain ⟨r1, r2, tr, Fr⟩ := (A.mul C).toF (by omega) (by omega)
  obtain ⟨s1, s2, ts, Fs⟩ := (A.mul (B.add C)).toF (by omega) (by omega)
  have hu : ∃ u1 u2, b1 ≠ 0 → divF a1 a2 b1 b2 = (u1, u2, 0) ∧ mulF u1 u2 b1 b2 = (a1, a2, 0) := by
    by_cases hb : b1 = 0
    · exact ⟨0, 0, fun h => absurd hb h⟩
    · have hb' : b ≠ 0 := fun h => hb (Fb.zero.2 h)
      obtain ⟨u1, u2, tu, Fu⟩ := (A.mul (B.inv hb')).toF (by omega) (by omega)
      refine ⟨u1, u2, fun _ => ⟨by rw [Fa.div Fb, if_neg hb, tu], ?_⟩⟩
      rw [Fu.mul Fb, Rat.mul_assoc, Rat.inv_mul_cancel _ hb', Rat.mul_one, ta]
  obtain ⟨u1, u2, hu⟩ := hu
  refine ⟨⟨a1, a2, b1, b2, c1, c2, x1, x2, y1, y2, l1, l2, p1, p2, r1, r2, s1, s2, u1, u2⟩, ⟨fa.trans ta, fb.trans tb, fc.trans tc, ?_, ?_, ?_, ?_, ?_, ?_, ?_, ?_, ?_, ?_, ?_, ?_, hu⟩⟩
  · exact (Fa.add Fb).trans tx
  · exact (Fb.add Fa).trans (by rw [Rat.add_comm]; exact tx)
  · exact (Fb.add Fc).trans ty
  · exact (Fx.add Fc).trans tl
  · exact (Fa.add Fy).trans (by rw [← Rat.add_assoc]; exact tl)
  · exact (Fa.mul Fb).trans tp
  · exact (Fb.mul Fa).trans (by rw [Rat.mul_comm]; exact tp)
  · exact (Fa.mul Fc).trans tr
  · exact (Fa.mul Fy).trans ts
  · exact (Fp.add Fr).trans (by rw [← Rat.mul_add]; exact ts)
  · exact (Fx.sub Fb).trans (by rw [Rat.add_sub_cancel]; exact ta)
  · intro h; show divF a1 a2 b1 b2 = _; rw [Fa.div Fb, if_pos h]

end Go.Proofs.Ytmbbojpghliaaaa
