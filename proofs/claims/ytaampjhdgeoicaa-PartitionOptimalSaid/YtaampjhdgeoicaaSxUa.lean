/- simplex: a program with one row more: its lists in memory, its result. -/
import Derived.Test.YtaampjhdgeoicaaSxK
import Derived.Test.YtaampjhdgeoicaaLpU
import Derived.Test.YtaampjhdgeoicaaLpL
import Derived.Test.YtaampjhdgeoicaaSxUl
namespace Go.Proofs.Ytaampjhdgeoicaa
set_option linter.unusedSimpArgs false
set_option linter.unusedVariables false
open Go Go.RowKit
set_option linter.unusedVariables false

section
variable {c b o : List (Int × Int)} {R : List (List (Int × Int))} {p q : Int}
theorem chk_mk (h : c.length ≤ 24 ∧ R.length ≤ 24 ∧ R.length = b.length ∧ (∀ i, i < R.length → (mr R i).length = c.length) ∧ prL c = true ∧ prL b = true ∧ (∀ i, i < R.length → prL (mr R i) = true) ∧ ∀ i, i < b.length → 0 ≤ fv b i) : chk37 c R b = 0 := by
  obtain ⟨h1, h2, h3, h4, h5, h6, h7, h8⟩ := h
  unfold chk37
  rw [if_neg (by omega), if_neg (by omega), anyB_false.2 fun i hi => by simp [h4 i hi], h5, h6, anyB_false.2 fun i hi => by rw [h7 i hi]; rfl, anyB_false.2 fun i hi => decide_eq_false (by have := h8 i hi; omega)]
  rfl
theorem fv_lt {i : Nat} (h : i < b.length) : fv (b ++ [(p, q)]) i = fv b i ∧ fx (b ++ [(p, q)]) i = fx b i := by unfold fv fx; simp [List.getD, List.getElem?_append_left h]
theorem fv_eq : fv (b ++ [(p, q)]) b.length = p ∧ fx (b ++ [(p, q)]) b.length = q := by unfold fv fx; simp [List.getD]
theorem prL_push (h : prL b = true) (h1 : prB p q = true) : prL (b ++ [(p, q)]) = true := prL_iff.2 fun j hj => by
  rw [List.length_append] at hj
  have hj2 : j < b.length + 1 := hj
  by_cases e : j < b.length
  · rw [(fv_lt e).1, (fv_lt e).2]; exact prL_iff.1 h j e
  · obtain rfl : j = b.length := by omega
    rw [fv_eq.1, fv_eq.2]; exact h1
theorem chk_more (h : chk37 c R b = 0) (hm : R.length ≤ 23) (ho : o.length = c.length) (hp : prL o = true) (hb : prB p q = true) (h0 : 0 ≤ p) : chk37 c (R ++ [o]) (b ++ [(p, q)]) = 0 := by
  obtain ⟨h1, h2, h3, h4, h5, h6, h7, h8⟩ := chk_zero h
  refine chk_mk ⟨h1, by rw [List.length_append]; show R.length + 1 ≤ 24; omega, by rw [List.length_append, List.length_append, h3]; rfl, fun i hi => ?_, h5, prL_push h6 hb, fun i hi => ?_, fun i hi => ?_⟩
  · rw [List.length_append] at hi
    have hi2 : i < R.length + 1 := hi
    by_cases e : i < R.length
    · rw [mr_lt e]; exact h4 i e
    · obtain rfl : i = R.length := by omega
      rw [mr_eq]; exact ho
  · rw [List.length_append] at hi
    have hi2 : i < R.length + 1 := hi
    by_cases e : i < R.length
    · rw [mr_lt e]; exact h7 i e
    · obtain rfl : i = R.length := by omega
      rw [mr_eq]; exact hp
  · rw [List.length_append] at hi
    have hi2 : i < b.length + 1 := hi
    by_cases e : i < b.length
    · rw [(fv_lt e).1]; exact h8 i e
    · obtain rfl : i = b.length := by omega
      rw [fv_eq.1]; exact h0
theorem more_of (hl : R.length = b.length) : More c.length R.length (fr37 R) (rl b) (fr37 (R ++ [o])) (rl (b ++ [(p, q)])) (rl o) (Rat.divInt p q) where
  a := fun i hi j hj => by unfold fr37; rw [mr_lt hi]
  b := fun i hi => by unfold rl; rw [(fv_lt (by omega)).1, (fv_lt (by omega)).2]
  a1 := fun j hj => by unfold fr37; rw [mr_eq]
  b1 := by unfold rl; rw [hl, fv_eq.1, fv_eq.2]
/-- The value of a program, or its error. -/
def ValR (n m : Nat) (A : Nat → Nat → Rat) (b c : Nat → Rat) (p q cd : Int) : Prop := cd = 5 ∨ (cd = 0 ∧ ∃ v : Rat, Rep v ∧ p = v.num ∧ q = (v.den : Int) ∧ OptV n m A b c v)
/-- What Solve returns where the program has an optimum, or is too large. -/
theorem val_res {e : Ending} {w' : World} (h : SolRet c R b e w') (h0 : chk37 c R b = 0) (hu : ¬ Unb c.length R.length (fr37 R) (rl b) (rl c)) :
    ∃ p q cd x y, e = .returned (.tuple #[.agg #[.int .i64 p, .int .i64 q], x, y, errV cd]) ∧ ValR c.length R.length (fr37 R) (rl b) (rl c) p q cd := by
  have hb : ∀ i, i < R.length → 0 ≤ rl b i := fun i hi => by
    obtain ⟨_, _, h3, _, _, h6, _, h8⟩ := chk_zero h0
    have := (rl_num (prL_iff.1 h6 i (by omega))).1
    exact Rat.num_nonneg.1 (by rw [this]; exact h8 i (by omega))
  rcases h with ⟨hne, _⟩ | ⟨_, ⟨cd, hf, he⟩ | ⟨T, hf, bx, bY, he, _, _⟩⟩
  · exact absurd h0 hne
  · have h5 : cd = 5 := by
      rcases fin_cases hf with ⟨T, h⟩ | h | h
      · cases h
      · injection h with h
        subst h
        exact absurd (fin_unb (A := fr37 R) (b := rl b) (c := rl c) hb hf) hu
      · injection h
    subst h5
    exact ⟨0, 0, 5, _, _, he, .inl rfl⟩
  · exact ⟨_, _, 0, _, _, he, .inr ⟨rfl, T.z, (fin_sol h0 hf).sml.z, rfl, rfl, fin_opt hb hf⟩⟩
end
def onL (n : Nat) : List (Int × Int) := List.replicate n (1, 1)
theorem onL_len (n : Nat) : (onL n).length = n := by unfold onL; simp
theorem onL_succ (n : Nat) : onL (n + 1) = onL n ++ [(1, 1)] := by unfold onL; rw [List.replicate_succ']
theorem onL_at {n j : Nat} (h : j < n) : fv (onL n) j = 1 ∧ fx (onL n) j = 1 := by unfold onL fv fx; simp [List.getD, h]
theorem onL_pr (n : Nat) : prL (onL n) = true := prL_iff.2 fun j hj => by
  rw [onL_len] at hj
  rw [(onL_at hj).1, (onL_at hj).2]; decide
theorem onL_rl {n j : Nat} (h : j < n) : rl (onL n) j = 1 := by unfold rl; rw [(onL_at h).1, (onL_at h).2]; rfl
theorem More.congr {n m : Nat} {A A' : Nat → Nat → Rat} {b b' r r' : Nat → Rat} {β β' : Rat} (h : More n m A b A' b' r β) (hr : ∀ j, j < n → r j = r' j) (hβ : β = β') : More n m A b A' b' r' β' := ⟨h.a, h.b, fun j hj => (h.a1 j hj).trans (hr j hj), h.b1.trans hβ⟩
/-- The program with a bound on the sum of the variables. -/
theorem bnd_res {c b : List (Int × Int)} {R : List (List (Int × Int))} {β : Nat} {e : Ending} {w' : World} (h0 : chk37 c R b = 0) (hm : R.length ≤ 23) (hβ : β ≤ 1000) (h : SolRet c (R ++ [onL c.length]) (b ++ [((β : Int), 1)]) e w') :
    ∃ p q cd x y, e = .returned (.tuple #[.agg #[.int .i64 p, .int .i64 q], x, y, errV cd]) ∧ ValR c.length (R.length + 1) (fr37 (R ++ [onL c.length])) (rl (b ++ [((β : Int), 1)])) (rl c) p q cd := by
  have hl : R.length = b.length := (chk_zero h0).2.2.1
  have hr := rep_pr (rep_nat (k := β) hβ)
  rw [Rat.num_natCast, Rat.den_natCast] at hr
  have hc := chk_more (o := onL c.length) h0 hm (onL_len _) (onL_pr _) hr (by omega)
  have e1 : (R ++ [onL c.length]).length = R.length + 1 := by rw [List.length_append]; rfl
  have hM := (more_of (c := c) (o := onL c.length) (p := (β : Int)) (q := 1) hl).congr (fun j hj => onL_rl hj) rfl
  have := val_res h hc (by rw [e1]; exact more_unb hM)
  rw [e1] at this
  exact this
theorem bnd_grow {c b : List (Int × Int)} {R : List (List (Int × Int))} {β : Nat} {p q p' q' : Int} (h0 : chk37 c R b = 0) (hu : Unb c.length R.length (fr37 R) (rl b) (rl c)) (h1 : ValR c.length (R.length + 1) (fr37 (R ++ [onL c.length])) (rl (b ++ [((β : Int), 1)])) (rl c) p q 0) (h2 : ValR c.length (R.length + 1) (fr37 (R ++ [onL c.length])) (rl (b ++ [(((β + 1 : Nat) : Int), 1)])) (rl c) p' q' 0) : cmpF p q p' q' < 0 := by
  have hl : R.length = b.length := (chk_zero h0).2.2.1
  rcases h1 with h | ⟨_, v1, r1, rfl, rfl, o1⟩
  · exact absurd h (by decide)
  rcases h2 with h | ⟨_, v2, r2, rfl, rfl, o2⟩
  · exact absurd h (by decide)
  have e : ∀ k : Nat, Rat.divInt (k : Int) 1 = (k : Rat) := fun k => by
    have := num_divInt (k : Rat)
    rwa [Rat.num_natCast, Rat.den_natCast] at this
  have M1 := (more_of (c := c) (o := onL c.length) (p := (β : Int)) (q := 1) hl).congr (fun j hj => onL_rl hj) (e β)
  have M2 := (more_of (c := c) (o := onL c.length) (p := ((β + 1 : Nat) : Int)) (q := 1) hl).congr (fun j hj => onL_rl hj) ((e (β + 1)).trans (Rat.natCast_add β 1))
  have h := more_grow M1 M2 hu o1 o2
  rw [cmp_rat r1 r2, if_pos h]
  decide

end Go.Proofs.Ytaampjhdgeoicaa
