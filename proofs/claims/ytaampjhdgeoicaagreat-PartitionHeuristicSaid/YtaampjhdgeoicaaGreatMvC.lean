/- Texts laid together: SxX, SxI, SxJ, SxK, LpU, LpL, SxUa. -/
import Derived.Test.YtaampjhdgeoicaaGreatSxW
import Derived.Test.YtaampjhdgeoicaaGreatMfC
import Derived.Test.YtaampjhdgeoicaaGreatSxUl
namespace Go.Proofs.YtaampjhdgeoicaaGreat
set_option linter.unusedSimpArgs false
set_option linter.unusedVariables false
section
open Go Go.RowKit
set_option linter.unusedVariables false

theorem smB_self (l : List (Int × Int)) : smB l l = true := by
 unfold smB
 rw [decide_eq_true rfl, Bool.true_and]
 cases h : anyB l.length (dfB l l)
 ·rfl
 ·obtain ⟨k, _, hk⟩ := anyB_true.1 h
  unfold dfB at hk
  simp at hk
end

section
open Go Go.RowKit
set_option linter.unusedVariables false

section
variable {a b : List (Int × Int)} {k : Nat} {n d p q r s c : Int}
end

end

section
open Go Go.RowKit
set_option linter.unusedVariables false

/-- What a program's last tableau gives. -/
structure SolIs (n m : Nat) (A : Nat → Nat → Rat) (b c : Nat → Rat) (T : TB) : Prop where
 pf : PF n m A b (xB m T)
 cx : obj n c (xB m T) = T.z
 df : DF n m A c (fun i => -T.c (n + i))
 by' : obj m b (fun i => -T.c (n + i)) = T.z
 sml : Sml m (n + m) T
 tab : Tab m (n + m) T
def fr37 (R : List (List (Int × Int))) (i j : Nat) : Rat := rl (mr R i) j
theorem xB_rep {m N : Nat} {T : TB} (ht : Tab m N T) (hs : Sml m N T) (j : Nat) : Rep (xB m T j) := by
 by_cases h : ∃ i, i < m ∧ T.B i = j
 ·obtain ⟨i, hi, rfl⟩ := h
  rw [xB_at ht hi]; exact hs.b i hi
 ·rw [xB_no fun i hi e => h ⟨i, hi, e⟩]; exact rep_zero
theorem fin_sol {c : List (Int × Int)} {R : List (List (Int × Int))} {b : List (Int × Int)} {T : TB} (h0 : chk37 c R b = 0) (h : Fin R.length (c.length + R.length) (T37 c R b) (.ok T)) : SolIs c.length R.length (fr37 R) (rl b) (rl c) T := by
 have hz := chk_zero h0
 have hb : ∀ i, i < R.length → 0 ≤ rl b i := fun i hi => rl_nn (prL_iff.1 hz.2.2.2.2.2.1 i (by have := hz.2.2.1; omega)) (hz.2.2.2.2.2.2.2 i (by have := hz.2.2.1; omega))
 have hsm : Sml R.length (c.length + R.length) T := by
  obtain ⟨q, U, h1, h2⟩ := h
  cases h2 with
  | done _ => exact rn_sml (t37_sml h0) h1
 obtain ⟨h1, h2, h3⟩ := fin_ok (A := fr37 R) hb h
 obtain ⟨a1, a2, a3⟩ := opt_of h1 h2 h3
 exact ⟨a1, a2, dual_df h2 h3, (dual_of h2).1, hsm, h1⟩
theorem SolIs.xr {n m : Nat} {A : Nat → Nat → Rat} {b c : Nat → Rat} {T : TB} (h : SolIs n m A b c T) (j : Nat) : Rep (xB m T j) := xB_rep h.tab h.sml j
end

section
open Go Go.RowKit
set_option linter.unusedVariables false

end

section
set_option linter.unusedVariables false

section
variable {n m : Nat} {A A' : Nat → Nat → Rat} {b b' c c' : Nat → Rat}
theorem obj_lin (f x d : Nat → Rat) (y : Rat) : obj n f (fun j => x j + y * d j) = obj n f x + y * obj n f d := by
 unfold obj
 rw [← sg_mul, ← sg_add]
 exact sg_congr n fun j _ => by grind
theorem ray_nn {u v : Rat} (h : ∀ y : Rat, 0 ≤ y → 0 ≤ u + y * v) : 0 ≤ v := by
 by_cases h1 : 0 ≤ v
 ·exact h1
 ·have h0 := h 0 Rat.le_refl
  have h2 : 0 < -v := by grind
  have h3 := h ((u + 1) / -v) (div_nonneg' (by grind) h2)
  have h4 : (u + 1) / -v * -v = u + 1 := by grind
  grind
/-- A direction in which the objective grows without end. -/
structure Ray (n m : Nat) (A : Nat → Nat → Rat) (c d : Nat → Rat) : Prop where
 nn : ∀ j, j < n → 0 ≤ d j
 le : ∀ i, i < m → obj n (A i) d ≤ 0
 pos : 0 < obj n c d
theorem unb_ray (h : Unb n m A b c) : ∃ d, Ray n m A c d := by
 obtain ⟨x, d, h1, h2⟩ := h
 refine ⟨d, fun j hj => ray_nn (u := x j) fun y hy => (h1 y hy).1 j hj, fun i hi => ?_, h2⟩
 have := ray_nn (u := b i - obj n (A i) x) (v := -obj n (A i) d) fun y hy => by
  have h3 := (h1 y hy).2 i hi
  rw [obj_lin] at h3
  grind
 grind
theorem sg_ge_one {f : Nat → Rat} : ∀ {n k : Nat}, (∀ i, i < n → 0 ≤ f i) → k < n → f k ≤ sg n f
 | n + 1, k, h, hk => by
  show f k ≤ sg n f + f n
  have h0 := sg_nonneg n (fun i hi => h i (by omega))
  by_cases e : k = n
  ·subst e; grind
  ·have h1 := sg_ge_one (f := f) (n := n) (k := k) (fun i hi => h i (by omega)) (by omega)
   have h2 := h n (by omega)
   grind
end
end

section
set_option linter.unusedVariables false

section
variable {n : Nat} {c : Nat → Rat}
variable {p : Nat → Bool} {T : TB}
end
end

section
open Go Go.RowKit
set_option linter.unusedVariables false

section
variable {c b o : List (Int × Int)} {R : List (List (Int × Int))} {p q : Int}
theorem chk_mk (h : c.length ≤ 24 ∧ R.length ≤ 24 ∧ R.length = b.length ∧ (∀ i, i < R.length → (mr R i).length = c.length) ∧ prL c = true ∧ prL b = true ∧ (∀ i, i < R.length → prL (mr R i) = true) ∧ ∀ i, i < b.length → 0 ≤ fv b i) : chk37 c R b = 0 := by
 obtain ⟨h1, h2, h3, h4, h5, h6, h7, h8⟩ := h
 unfold chk37
 rw [if_neg (by omega), if_neg (by omega), anyB_false.2 fun i hi => by simp [h4 i hi], h5, h6, anyB_false.2 fun i hi => by rw [h7 i hi]; rfl, anyB_false.2 fun i hi => decide_eq_false (by have := h8 i hi; omega)]
 rfl
theorem fv_lt {i : Nat} (h : i < b.length) : fv (b ++ [(p, q)]) i = fv b i ∧ fx (b ++ [(p, q)]) i = fx b i := by unfold fv fx; simp [List.getD, List.getElem?_append_left h]
theorem fv_eq : fv (b ++ [(p, q)]) b.length = p ∧ fx (b ++ [(p, q)]) b.length = q := by unfold fv fx; simp [List.getD]
end
def onL (n : Nat) : List (Int × Int) := List.replicate n (1, 1)
theorem onL_len (n : Nat) : (onL n).length = n := by unfold onL; simp
theorem onL_succ (n : Nat) : onL (n + 1) = onL n ++ [(1, 1)] := by unfold onL; rw [List.replicate_succ']
theorem onL_at {n j : Nat} (h : j < n) : fv (onL n) j = 1 ∧ fx (onL n) j = 1 := by unfold onL fv fx; simp [List.getD, h]
theorem onL_pr (n : Nat) : prL (onL n) = true := prL_iff.2 fun j hj => by
 rw [onL_len] at hj
 rw [(onL_at hj).1, (onL_at hj).2]; decide
theorem onL_rl {n j : Nat} (h : j < n) : rl (onL n) j = 1 := by unfold rl; rw [(onL_at h).1, (onL_at h).2]; rfl
end

end Go.Proofs.YtaampjhdgeoicaaGreat
