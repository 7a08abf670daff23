/- The reference's Step: plain laws; what it answers. -/
import Derived.Test.YtaampjhdgeoicaaGreatRfF
namespace Go.Proofs.YtaampjhdgeoicaaGreat
set_option linter.unusedSimpArgs false
set_option linter.unusedVariables false
open Go Go.RowKit
set_option linter.unusedVariables false

/-- The best row so far, or -1. -/
def BestAt (T : TB) (k i : Nat) (v : Int) : Prop := (v = -1 ∧ ∀ j, j < i → ¬ 0 < T.a j k) ∨ ∃ r : Nat, v = r ∧ Lea i T k r ∧ RatOK i T k
section
variable {T : TB} {k i m N r : Nat} {v : Int}
theorem best_zero : BestAt T k 0 (-1) := .inl ⟨rfl, fun j hj => absurd hj (by omega)⟩
theorem best_skip (h : BestAt T k i v) (hn : ¬ 0 < T.a i k) : BestAt T k (i + 1) v := by
 rcases h with ⟨rfl, h⟩ | ⟨r, rfl, ⟨h1, h2, h3⟩, h4⟩
 ·exact .inl ⟨rfl, fun j hj => by
   by_cases e : j = i
   ·subst e; exact hn
   ·exact h j (by omega)⟩
 ·refine .inr ⟨r, rfl, ⟨by omega, h2, fun j hj hp => ?_⟩, fun a b ha hb hab hpa hpb => ?_⟩
  ·by_cases e : j = i
   ·subst e; exact absurd hp hn
   ·exact h3 j (by omega) hp
  ·by_cases e : a = i
   ·subst e; exact absurd hpa hn
   ·by_cases e2 : b = i
    ·subst e2; exact absurd hpb hn
    ·exact h4 a b (by omega) (by omega) hab hpa hpb
theorem best_first (h : ∀ j, j < i → ¬ 0 < T.a j k) (hp : 0 < T.a i k) : BestAt T k (i + 1) (i : Nat) := by
 refine .inr ⟨i, rfl, ⟨by omega, hp, fun j hj hpj => ?_⟩, fun a b ha hb hab hpa hpb => ?_⟩
 ·by_cases e : j = i
  ·subst e; exact .inr ⟨rfl, Nat.le_refl _⟩
  ·exact absurd hpj (h j (by omega))
 ·by_cases e : a = i
  ·exact absurd hpb (h b (by omega))
  ·exact absurd hpa (h a (by omega))
theorem best_rat (h : Lea i T k r) (hR : RatOK i T k) (hp : 0 < T.a i k) (h1 : Rep (T.b i / T.a i k)) (h2 : Rep (T.b r / T.a r k)) : RatOK (i + 1) T k := fun a b ha hb hab hpa hpb => by
 by_cases e : a = i
 ·subst e; exact h1
 ·by_cases e2 : a = r
  ·subst e2; exact h2
  ·exact hR a r (by omega) h.1 e2 hpa h.2.1
theorem best_new (h : Lea i T k r) (hR : RatOK i T k) (hp : 0 < T.a i k) (h1 : Rep (T.b i / T.a i k)) (h2 : Rep (T.b r / T.a r k)) (hl : T.b i / T.a i k < T.b r / T.a r k ∨ (T.b i / T.a i k = T.b r / T.a r k ∧ T.B i < T.B r)) : BestAt T k (i + 1) (i : Nat) := by
 refine .inr ⟨i, rfl, ⟨by omega, hp, fun j hj hpj => ?_⟩, best_rat h hR hp h1 h2⟩
 by_cases e : j = i
 ·subst e; exact .inr ⟨rfl, Nat.le_refl _⟩
 ·have h3 := h.2.2 j (by omega) hpj
  rcases hl with hl | ⟨hl, hB⟩ <;> rcases h3 with h3 | ⟨h3, hB3⟩
  ·exact .inl (by grind)
  ·exact .inl (by grind)
  ·exact .inl (by grind)
  ·exact .inr ⟨by grind, by omega⟩
theorem best_keep (h : Lea i T k r) (hR : RatOK i T k) (hp : 0 < T.a i k) (h1 : Rep (T.b i / T.a i k)) (h2 : Rep (T.b r / T.a r k)) (hl : T.b r / T.a r k < T.b i / T.a i k ∨ (T.b i / T.a i k = T.b r / T.a r k ∧ ¬ T.B i < T.B r)) : BestAt T k (i + 1) (r : Nat) := by
 refine .inr ⟨r, rfl, ⟨by have := h.1; omega, h.2.1, fun j hj hpj => ?_⟩, best_rat h hR hp h1 h2⟩
 by_cases e : j = i
 ·subst e
  rcases hl with hl | ⟨hl, hB⟩
  ·exact .inl hl
  ·exact .inr ⟨hl.symm, by omega⟩
 ·exact h.2.2 j (by omega) hpj
theorem rat_bad (h : Lea i T k r) (hi : i < m) (hp : 0 < T.a i k) (hn : ¬ (Rep (T.b i / T.a i k) ∧ Rep (T.b r / T.a r k))) : ¬ RatOK m T k := fun hR => hn ⟨hR i r hi (by have := h.1; omega) (by have := h.1; omega) hp h.2.1, hR r i (by have := h.1; omega) hi (by have := h.1; omega) h.2.1 hp⟩

/-- The pivot's row. -/
def pvF (T : TB) (N r k j : Nat) : Rat := rowF T N r j / T.a r k
theorem pivok_row (h : PivOK m N T r k) : ∀ j, j < N + 1 → Rep (rowF T N r j / T.a r k) := fun j hj => by
 unfold rowF
 split
 ·exact h.row j (by assumption)
 ·exact h.rhs
theorem pivok_el (h : PivOK m N T r k) (hi : i < m) (hne : i ≠ r) : ElOK (N + 1) (rowF T N i) (pvF T N r k) (T.a i k) := fun j hj => by
 unfold pvF rowF
 by_cases e : j < N
 ·rw [if_pos e, if_pos e]; exact h.pa i hi hne j e
 ·rw [if_neg e, if_neg e]; exact h.pb i hi hne
theorem objF_last (T : TB) (N : Nat) : objF T N N = -T.z := if_neg (by omega)
theorem neg_sub_neg (z p : Rat) : -z - p = -(z + p) := by grind
theorem pivok_obj (h : PivOK m N T r k) : ElOK (N + 1) (objF T N) (pvF T N r k) (T.c k) := fun j hj => by
 unfold pvF rowF objF
 by_cases e : j < N
 ·rw [if_pos e, if_pos e]; exact h.pc j e
 ·rw [if_neg e, if_neg e, neg_sub_neg, rep_neg]; exact h.pz
theorem pivok_mk (h1 : ∀ j, j < N + 1 → Rep (rowF T N r j / T.a r k)) (h2 : ∀ i, i < m → i ≠ r → ElOK (N + 1) (rowF T N i) (pvF T N r k) (T.a i k)) (h3 : ElOK (N + 1) (objF T N) (pvF T N r k) (T.c k)) : PivOK m N T r k where
 row := fun j hj => by have := h1 j (by omega); unfold rowF at this; rw [if_pos hj] at this; exact this
 rhs := by have := h1 N (by omega); unfold rowF at this; rw [if_neg (by omega)] at this; exact this
 pa := fun i hi hne j hj => by have := h2 i hi hne j (by omega); unfold pvF rowF at this; rw [if_pos hj, if_pos hj] at this; exact this
 pb := fun i hi hne => by have := h2 i hi hne N (by omega); unfold pvF rowF at this; rw [if_neg (by omega), if_neg (by omega)] at this; exact this
 pc := fun j hj => by have := h3 j (by omega); unfold pvF rowF objF at this; rw [if_pos hj, if_pos hj] at this; exact this
 pz := by have := h3 N (by omega); unfold pvF rowF objF at this; rw [if_neg (by omega), if_neg (by omega), neg_sub_neg, rep_neg] at this; exact this
theorem rowF_piv_r : rowF (piv T r k) N r = pvF T N r k := funext fun j => by
 show (if j < N then (if r = r then T.a r j / T.a r k else _) else (if r = r then T.b r / T.a r k else _)) = (if j < N then T.a r j else T.b r) / T.a r k
 rw [if_pos rfl, if_pos rfl]
 split <;> rfl
theorem rowF_piv (hne : i ≠ r) : rowF (piv T r k) N i = fun j => rowF T N i j - T.a i k * pvF T N r k j := funext fun j => by
 show (if j < N then (if i = r then _ else T.a i j - T.a i k * (T.a r j / T.a r k)) else (if i = r then _ else T.b i - T.a i k * (T.b r / T.a r k))) = (if j < N then T.a i j else T.b i) - T.a i k * ((if j < N then T.a r j else T.b r) / T.a r k)
 rw [if_neg hne, if_neg hne]
 split <;> rfl
theorem objF_piv : objF (piv T r k) N = fun j => objF T N j - T.c k * pvF T N r k j := funext fun j => by
 show (if j < N then T.c j - T.c k * (T.a r j / T.a r k) else -(T.z + T.c k * (T.b r / T.a r k))) = (if j < N then T.c j else -T.z) - T.c k * ((if j < N then T.a r j else T.b r) / T.a r k)
 split
 ·rfl
 ·rw [neg_sub_neg]
theorem rowF_lt {j : Nat} (h : j < N) : rowF T N i j = T.a i j := if_pos h
theorem rowF_last : rowF T N i N = T.b i := if_neg (by omega)
theorem objF_lt {j : Nat} (h : j < N) : objF T N j = T.c j := if_pos h
theorem rowF_rep (h : Sml m N T) (hi : i < m) : ∀ j, j < N + 1 → Rep (rowF T N i j) := fun j hj => by
 unfold rowF
 split
 ·exact h.a i hi j (by assumption)
 ·exact h.b i hi
theorem objF_rep (h : Sml m N T) : ∀ j, j < N + 1 → Rep (objF T N j) := fun j hj => by
 unfold objF
 split
 ·exact h.c j (by assumption)
 ·exact rep_neg.2 h.z
end
/-- What Step answers. -/
def StRet (m N : Nat) (T : TB) (e : Ending) (w' : World) : Prop := ∃ v' g cd, e = .returned (.tuple #[v', .bool g, .int .i64 cd]) ∧
 ((g = false ∧ cd = 0 ∧ TabR w' T m N v' ∧ Last m N T (.ok T)) ∨ (g = true ∧ cd = 0 ∧ ∃ k r, Ent N T k ∧ RatOK m T k ∧ Lea m T k r ∧ PivOK m N T r k ∧ TabR w' (piv T r k) m N v') ∨ (g = false ∧ cd ≠ 0 ∧ TabR w' T m N v' ∧ Last m N T (.err cd)))

end Go.Proofs.YtaampjhdgeoicaaGreat
