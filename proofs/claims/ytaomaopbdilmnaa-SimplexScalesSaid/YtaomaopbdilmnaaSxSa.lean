/- simplex: multiples of the objective and of the right-hand sides, a row that occurs twice: plain. -/
import Derived.Test.YtaomaopbdilmnaaSxUa
namespace Go.Proofs.Ytaomaopbdilmnaa
set_option linter.unusedSimpArgs false
set_option linter.unusedVariables false
open Go Go.RowKit
set_option linter.unusedVariables false

/-- The products of a list. -/
def mll (l : List (Int × Int)) (F : Int) (k : Nat) : List (Int × Int) := (List.range k).map fun j => ((mulF (fv l j) (fx l j) F 1).1, (mulF (fv l j) (fx l j) F 1).2.1)
def MulOK (l : List (Int × Int)) (F : Int) (k : Nat) : Prop := ∀ j, j < k → (mulF (fv l j) (fx l j) F 1).2.2 = 0
def Val2 (p0 q0 p q cd : Int) : Prop := cd = 5 ∨ (cd = 0 ∧ p = p0 ∧ q = q0)
section
variable {l : List (Int × Int)} {F : Int} {k j : Nat} {n d m e p q : Int}
theorem mll_len : (mll l F k).length = k := by unfold mll; simp
theorem mll_succ : mll l F (k + 1) = mll l F k ++ [((mulF (fv l k) (fx l k) F 1).1, (mulF (fv l k) (fx l k) F 1).2.1)] := by unfold mll; rw [List.range_succ, List.map_append]; rfl
theorem mll_at (h : j < k) : fv (mll l F k) j = (mulF (fv l j) (fx l j) F 1).1 ∧ fx (mll l F k) j = (mulF (fv l j) (fx l j) F 1).2.1 := by unfold mll fv fx; simp [List.getD, h]
theorem mulOK_succ (h : MulOK l F k) (h1 : (mulF (fv l k) (fx l k) F 1).2.2 = 0) : MulOK l F (k + 1) := fun j hj => by
  by_cases e : j = k
  · subst e; exact h1
  · exact h j (by omega)
theorem mul_ok (h : (mulF n d m e).2.2 = 0) : Rep (Rat.divInt n d * Rat.divInt m e) ∧ (mulF n d m e).1 = (Rat.divInt n d * Rat.divInt m e).num ∧ (mulF n d m e).2.1 = ((Rat.divInt n d * Rat.divInt m e).den : Int) := by
  unfold mulF at h ⊢
  split at h
  · rename_i h1
    rw [if_pos h1]
    by_cases hr : Rep (Rat.divInt n d * Rat.divInt m e)
    · rw [rep_toF hr]; exact ⟨hr, rfl, rfl⟩
    · rw [not_rep hr] at h; exact absurd h (by decide)
  · exact absurd h (by decide)
theorem mll_rl (h : MulOK l F k) (hj : j < k) : rl (mll l F k) j = rl l j * Rat.divInt F 1 ∧ prB (fv (mll l F k) j) (fx (mll l F k) j) = true := by
  obtain ⟨h1, h2, h3⟩ := mul_ok (h j hj)
  have e1 := mll_at (l := l) (F := F) hj
  refine ⟨?_, ?_⟩
  · unfold rl
    rw [e1.1, e1.2, h2, h3]
    exact num_divInt _
  · rw [e1.1, e1.2, h2, h3]
    exact rep_pr h1
theorem mll_pr (h : MulOK l F k) : prL (mll l F k) = true := prL_iff.2 fun j hj => (mll_rl h (by rwa [mll_len] at hj)).2
theorem f_pos {G : Nat} (h : 1 ≤ G) : 0 < Rat.divInt (G : Int) 1 := by
  have := num_divInt (G : Rat)
  rw [Rat.num_natCast, Rat.den_natCast] at this
  show 0 < Rat.divInt (G : Int) ((1 : Nat) : Int)
  rw [this, ← rep_pos, Rat.num_natCast]
  omega
theorem val_known {n m : Nat} {A : Nat → Nat → Rat} {b c : Nat → Rat} {p q cd : Int} {v : Rat} (h : ValR n m A b c p q cd) (o : OptV n m A b c v) : Val2 v.num v.den p q cd := by
  rcases h with h | ⟨h, v', _, hp, hq, o'⟩
  · exact .inl h
  · rw [opt_uni o o']
    exact .inr ⟨h, hp, hq⟩
end
section
variable {c b : List (Int × Int)} {R : List (List (Int × Int))} {e : Ending} {w' : World} {v : Rat} {G : Nat}
theorem opt_c (hG : 1 ≤ G) (h0 : chk37 c R b = 0) (o : OptV c.length R.length (fr37 R) (rl b) (rl c) v) (hm : MulOK c G c.length) (hv : (mulF v.num v.den G 1).2.2 = 0) (h : SolRet (mll c G c.length) R b e w') :
    ∃ p q cd x y, e = .returned (.tuple #[.agg #[.int .i64 p, .int .i64 q], x, y, errV cd]) ∧ Val2 (mulF v.num v.den G 1).1 (mulF v.num v.den G 1).2.1 p q cd := by
  obtain ⟨h1, h2, h3, h4, h5, h6, h7, h8⟩ := chk_zero h0
  have hc : chk37 (mll c G c.length) R b = 0 := chk_mk ⟨by rw [mll_len]; exact h1, h2, h3, fun i hi => by rw [mll_len]; exact h4 i hi, mll_pr hm, h6, h7, h8⟩
  obtain ⟨o1, hu⟩ := scale_c (f_pos hG) (fun j hj => (mll_rl hm hj).1) o
  have h' := val_res h hc (by rw [mll_len]; exact hu)
  rw [mll_len] at h'
  obtain ⟨p, q, cd, x, y, he, hr⟩ := h'
  obtain ⟨_, e1, e2⟩ := mul_ok hv
  rw [num_divInt] at e1 e2
  refine ⟨p, q, cd, x, y, he, ?_⟩
  rw [e1, e2]
  exact val_known hr o1
theorem opt_b (hG : 1 ≤ G) (h0 : chk37 c R b = 0) (o : OptV c.length R.length (fr37 R) (rl b) (rl c) v) (hm : MulOK b G b.length) (hv : (mulF v.num v.den G 1).2.2 = 0) (h : SolRet c R (mll b G b.length) e w') :
    ∃ p q cd x y, e = .returned (.tuple #[.agg #[.int .i64 p, .int .i64 q], x, y, errV cd]) ∧ Val2 (mulF v.num v.den G 1).1 (mulF v.num v.den G 1).2.1 p q cd := by
  obtain ⟨h1, h2, h3, h4, h5, h6, h7, h8⟩ := chk_zero h0
  have hc : chk37 c R (mll b G b.length) = 0 := chk_mk ⟨h1, h2, by rw [mll_len]; exact h3, h4, h5, mll_pr hm, h7, fun i hi => by
    rw [mll_len] at hi
    have e1 := mll_rl hm hi
    have e2 := (rl_num e1.2).1
    rw [← e2]
    refine Rat.num_nonneg.2 ?_
    rw [e1.1]
    refine Rat.mul_nonneg (Rat.num_nonneg.1 ?_) (by have := f_pos hG; grind)
    rw [(rl_num (prL_iff.1 h6 i hi)).1]
    exact h8 i hi⟩
  obtain ⟨o1, hu⟩ := scale_b (f_pos hG) (fun i hi => (mll_rl hm (show i < b.length by omega)).1) o
  obtain ⟨p, q, cd, x, y, he, hr⟩ := val_res h hc hu
  obtain ⟨_, e1, e2⟩ := mul_ok hv
  rw [num_divInt] at e1 e2
  refine ⟨p, q, cd, x, y, he, ?_⟩
  rw [e1, e2]
  exact val_known hr o1
theorem opt_more {i0 : Nat} (hi : i0 < R.length) (hm : R.length ≤ 23) (h0 : chk37 c R b = 0) (o : OptV c.length R.length (fr37 R) (rl b) (rl c) v) (h : SolRet c (R ++ [mr R i0]) (b ++ [(fv b i0, fx b i0)]) e w') :
    ∃ p q cd x y, e = .returned (.tuple #[.agg #[.int .i64 p, .int .i64 q], x, y, errV cd]) ∧ Val2 v.num v.den p q cd := by
  obtain ⟨h1, h2, h3, h4, h5, h6, h7, h8⟩ := chk_zero h0
  have hc := chk_more (o := mr R i0) h0 hm (h4 i0 hi) (h7 i0 hi) (prL_iff.1 h6 i0 (by omega)) (h8 i0 (by omega))
  have e1 : (R ++ [mr R i0]).length = R.length + 1 := by rw [List.length_append]; rfl
  obtain ⟨o1, hu⟩ := more_same hi (more_of (c := c) (o := mr R i0) (p := fv b i0) (q := fx b i0) h3) o
  obtain ⟨p, q, cd, x, y, he, hr⟩ := val_res h hc (by rw [e1]; exact hu)
  rw [e1] at hr
  exact ⟨p, q, cd, x, y, he, val_known hr o1⟩
end

end Go.Proofs.Ytaomaopbdilmnaa
