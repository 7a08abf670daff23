/- Breadth-first marking of the relevant variables, plain. No program in sight. -/
import Derived.Test.YtenmeiplglbafaaCauP
import Derived.Test.YtenmeiplglbafaaGoodP
namespace Go.Proofs.Ytenmeiplglbafaa
set_option linter.unusedSimpArgs false
set_option linter.unusedVariables false
open Go.RowKit
set_option linter.unusedVariables false

/-- The variables of the first k goal facts. -/
def goN (t : Tsk) (v k : Nat) : Bool := anyB k fun i => fv t.goal i == (v : Int)
def goQ (t : Tsk) (k : Nat) : List Int := (List.range k).map fun i => fv t.goal i
theorem goQ_succ (t : Tsk) (k : Nat) : goQ t (k + 1) = goQ t k ++ [fv t.goal k] := by unfold goQ; rw [List.range_succ, List.map_append]; rfl
theorem goQ_len (t : Tsk) (k : Nat) : (goQ t k).length = k := by unfold goQ; simp
/-- How many of the first n are not marked. -/
def cntF (f : Nat → Bool) : Nat → Nat
  | 0 => 0
  | n + 1 => cntF f n + if f n then 0 else 1
theorem cntF_le (f : Nat → Bool) : ∀ n, cntF f n ≤ n
  | 0 => Nat.le_refl _
  | n + 1 => by have := cntF_le f n; unfold cntF; split <;> omega
def setF (f : Nat → Bool) (j : Nat) (v : Nat) : Bool := if v = j then true else f v
theorem cntF_same {f g : Nat → Bool} : ∀ {n : Nat}, (∀ v, v < n → f v = g v) → cntF f n = cntF g n
  | 0, _ => rfl
  | n + 1, h => by unfold cntF; rw [cntF_same fun v hv => h v (by omega), h n (by omega)]
theorem cntF_set {f : Nat → Bool} {j : Nat} (h : f j = false) : ∀ {n : Nat}, j < n → cntF (setF f j) n + 1 = cntF f n
  | 0, hj => absurd hj (by omega)
  | n + 1, hj => by
    show cntF (setF f j) n + (if setF f j n then 0 else 1) + 1 = cntF f n + if f n then 0 else 1
    by_cases e : j = n
    · subst e
      rw [cntF_same (f := setF f j) (g := f) fun v hv => by unfold setF; rw [if_neg (by omega)]]
      have : setF f j j = true := by unfold setF; rw [if_pos rfl]
      rw [this, h]; rfl
    · have := cntF_set h (n := n) (by omega)
      have e2 : setF f j n = f n := by unfold setF; rw [if_neg (by omega)]
      rw [e2]; omega
/-- What holds while the queue is worked off. -/
structure BfI (t : Tsk) (f : Nat → Bool) (q : List Int) (X : Nat → Nat → Prop) : Prop where
  a : ∀ x ∈ q, ∃ v : Nat, x = (v : Int) ∧ v < t.vars.length ∧ f v = true
  b : ∀ k, k < t.goal.length → ∃ v : Nat, fv t.goal k = (v : Int) ∧ f v = true
  c : ∀ v, v < t.vars.length → f v = true → Rel t v
  d : ∀ u v, u < t.vars.length → v < t.vars.length → f v = true → arB t u v = true → f u = true ∨ (v : Int) ∈ q ∨ X u v
def noX (u v : Nat) : Prop := False
def frX (v0 j : Nat) (u v : Nat) : Prop := v = v0 ∧ j ≤ u
theorem bf_start {t : Tsk} (hr : Right t) : BfI t (fun v => goN t v t.goal.length) (goQ t t.goal.length) noX := by
  refine ⟨fun x hx => ?_, fun k hk => ?_, fun v hv h => ?_, fun u v hu hv h ha => ?_⟩
  · unfold goQ at hx
    simp only [List.mem_map, List.mem_range] at hx
    obtain ⟨i, hi, rfl⟩ := hx
    have := fa_at hr.goal hi
    exact ⟨(fv t.goal i).toNat, by omega, by omega, anyB_true.2 ⟨i, hi, by simp; omega⟩⟩
  · have := fa_at hr.goal hk
    exact ⟨(fv t.goal k).toNat, by omega, anyB_true.2 ⟨k, hk, by simp; omega⟩⟩
  · obtain ⟨k, hk, e⟩ := anyB_true.1 h
    exact Rel.goal hk (by simpa using e)
  · obtain ⟨k, hk, e⟩ := anyB_true.1 h
    refine .inr (.inl ?_)
    unfold goQ
    simp only [List.mem_map, List.mem_range]
    exact ⟨k, hk, by simpa using e⟩
theorem bf_pop {t : Tsk} {f : Nat → Bool} {q : List Int} {v0 : Nat} (h : BfI t f q noX) (hq : 0 < q.length) (hv : nth q 0 = (v0 : Int)) : BfI t f q.tail (frX v0 0) ∧ v0 < t.vars.length ∧ Rel t v0 := by
  cases q with
  | nil => simp at hq
  | cons x q =>
    have hx : x = (v0 : Int) := hv
    subst hx
    obtain ⟨v, e, h1, h2⟩ := h.a (v0 : Int) (by simp)
    have : v = v0 := by omega
    subst this
    refine ⟨⟨fun y hy => h.a y (by simp at hy; simp [hy]), h.b, h.c, fun u w hu hw hf ha => ?_⟩, h1, h.c v h1 h2⟩
    rcases h.d u w hu hw hf ha with g | g | g
    · exact .inl g
    · simp only [List.mem_cons] at g
      rcases g with g | g
      · exact .inr (.inr ⟨by omega, by omega⟩)
      · exact .inr (.inl g)
    · exact absurd g id
theorem bf_skip {t : Tsk} {f : Nat → Bool} {q : List Int} {v0 j : Nat} (h : BfI t f q (frX v0 j)) (hs : arB t j v0 = false ∨ f j = true) : BfI t f q (frX v0 (j + 1)) :=
  ⟨h.a, h.b, h.c, fun u v hu hv hf ha => by
    rcases h.d u v hu hv hf ha with g | g | ⟨g1, g2⟩
    · exact .inl g
    · exact .inr (.inl g)
    · by_cases e : u = j
      · subst e
        rcases hs with hs | hs
        · rw [g1, hs] at ha; cases ha
        · exact .inl hs
      · exact .inr (.inr ⟨g1, by omega⟩)⟩
theorem bf_mark {t : Tsk} {f : Nat → Bool} {q : List Int} {v0 j : Nat} (h : BfI t f q (frX v0 j)) (hj : j < t.vars.length) (hv0 : v0 < t.vars.length) (hr : Rel t v0) (ha : arB t j v0 = true) : BfI t (setF f j) (q ++ [(j : Int)]) (frX v0 (j + 1)) := by
  have hset : ∀ v, f v = true → setF f j v = true := fun v hv => by unfold setF; split <;> simp [hv]
  refine ⟨fun x hx => ?_, fun k hk => ?_, fun v hv hf => ?_, fun u v hu hv hf hau => ?_⟩
  · simp only [List.mem_append, List.mem_singleton] at hx
    rcases hx with hx | rfl
    · obtain ⟨v, e, h1, h2⟩ := h.a x hx
      exact ⟨v, e, h1, hset v h2⟩
    · exact ⟨j, rfl, hj, by unfold setF; rw [if_pos rfl]⟩
  · obtain ⟨v, e, h1⟩ := h.b k hk
    exact ⟨v, e, hset v h1⟩
  · unfold setF at hf
    split at hf
    · rename_i e; rw [e]; exact Rel.step hr hj hv0 ha
    · exact h.c v hv hf
  · by_cases e : v = j
    · subst e; exact .inr (.inl (by simp))
    · have hf2 : f v = true := by unfold setF at hf; rwa [if_neg e] at hf
      rcases h.d u v hu hv hf2 hau with g | g | ⟨g1, g2⟩
      · exact .inl (hset u g)
      · exact .inr (.inl (by simp [g]))
      · by_cases e2 : u = j
        · exact .inl (by unfold setF; rw [if_pos e2])
        · exact .inr (.inr ⟨g1, by omega⟩)
theorem bf_done {t : Tsk} {f : Nat → Bool} {q : List Int} {v0 : Nat} (h : BfI t f q (frX v0 t.vars.length)) : BfI t f q noX :=
  ⟨h.a, h.b, h.c, fun u v hu hv hf ha => by
    rcases h.d u v hu hv hf ha with g | g | ⟨g1, g2⟩
    · exact .inl g
    · exact .inr (.inl g)
    · omega⟩
theorem bf_end {t : Tsk} {f : Nat → Bool} {q : List Int} (h : BfI t f q noX) (hq : q.length = 0) : ∀ v, v < t.vars.length → f v = relB t v := by
  have hq0 : q = [] := List.length_eq_zero_iff.1 hq
  subst hq0
  refine rel_eq h.b (fun u v hu hv hf ha => ?_) h.c
  rcases h.d u v hu hv hf ha with g | g | g
  · exact g
  · cases g
  · exact absurd g id

end Go.Proofs.Ytenmeiplglbafaa
