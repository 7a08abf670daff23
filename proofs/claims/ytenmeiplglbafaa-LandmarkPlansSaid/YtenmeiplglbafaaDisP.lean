/- Least costs, plain: what a table of distances is when no edge makes one less. No program in sight. -/
import Derived.Test.YtenmeiplglbafaaStaP
import Derived.Test.YtenmeiplglbafaaEdgW
namespace Go.Proofs.Ytenmeiplglbafaa
set_option linter.unusedSimpArgs false
set_option linter.unusedVariables false
open Go.RowKit
set_option linter.unusedVariables false

def INF : Int := 1125899906842624
/-- A plan from a state to the goal, and its cost. -/
inductive PlanC (t : Tsk) : List Int → Int → Prop
  | goal {s : List Int} : hoB t.goal s = true → PlanC t s 0
  | step {s : List Int} {k : Nat} {c : Int} : k < t.ops.length → hoB (opr t.ops k).pre s = true → PlanC t (nxt t s k) c → PlanC t s ((opr t.ops k).cost + c)
/-- The least cost, at most INF. -/
structure IsBest (t : Tsk) (s : List Int) (d : Int) : Prop where
  lo : 0 ≤ d
  hi : d ≤ INF
  real : d = INF ∨ PlanC t s d
  least : ∀ c, PlanC t s c → d ≤ c
theorem best_le {t t' : Tsk} {s s' : List Int} {d d' : Int} (h : IsBest t s d) (h' : IsBest t' s' d') (hp : ∀ c, PlanC t s c → ∃ c', c' ≤ c ∧ PlanC t' s' c') : d' ≤ d := by
  rcases h.real with e | e
  · rw [e]; exact h'.hi
  · obtain ⟨c', h1, h2⟩ := hp _ e
    have := h'.least _ h2
    omega
/-- A sum of a function's first values. -/
def sumF (D : Nat → Int) : Nat → Nat
  | 0 => 0
  | n + 1 => sumF D n + (D n).toNat
def setD (D : Nat → Int) (j : Nat) (x : Int) (v : Nat) : Int := if v = j then x else D v
theorem sumF_same {D D' : Nat → Int} : ∀ {n : Nat}, (∀ v, v < n → D v = D' v) → sumF D n = sumF D' n
  | 0, _ => rfl
  | n + 1, h => by show sumF D n + _ = sumF D' n + _; rw [sumF_same (n := n) fun v hv => h v (by omega), h n (by omega)]
theorem sumF_set {D : Nat → Int} {j : Nat} {x : Int} : ∀ {n : Nat}, j < n → sumF (setD D j x) n + (D j).toNat = sumF D n + x.toNat
  | 0, h => absurd h (by omega)
  | n + 1, h => by
    show sumF (setD D j x) n + (setD D j x n).toNat + (D j).toNat = sumF D n + (D n).toNat + x.toNat
    by_cases e : j = n
    · subst e
      have h1 : sumF (setD D j x) j = sumF D j := sumF_same fun v hv => by unfold setD; rw [if_neg (by omega)]
      have h2 : setD D j x j = x := by unfold setD; rw [if_pos rfl]
      rw [h1, h2]; omega
    · have h1 := sumF_set (D := D) (x := x) (show j < n by omega)
      have h2 : setD D j x n = D n := by unfold setD; rw [if_neg (by omega)]
      rw [h2]; omega
def flN (c : Bool) : Nat := if c then 1 else 0
/-- What holds of the table. -/
structure Dst (t : Tsk) (D : Nat → Int) : Prop where
  rng : ∀ i, i < (sts t.vars).length → 0 ≤ D i ∧ D i ≤ INF
  real : ∀ i, i < (sts t.vars).length → D i = INF ∨ PlanC t (row (sts t.vars) i) (D i)
  goal : ∀ i, i < (sts t.vars).length → hoB t.goal (row (sts t.vars) i) = true → D i = 0
def EdC (t : Tsk) (D : Nat → Int) (e : Nat × Nat × Nat) : Prop := D e.2.2 < INF → D e.1 ≤ D e.2.2 + (opr t.ops e.2.1).cost
/-- The first k places as they are to be. -/
def dsN (t : Tsk) (k : Nat) (v : Nat) : Int := if v < k then (if hoB t.goal (row (sts t.vars) v) then 0 else INF) else 0
section
variable {t : Tsk} {D : Nat → Int}
theorem dst_start : Dst t (dsN t (sts t.vars).length) where
  rng := fun i hi => by unfold dsN; rw [if_pos hi]; split <;> unfold INF <;> omega
  real := fun i hi => by
    unfold dsN; rw [if_pos hi]
    split
    · exact .inr (PlanC.goal (by assumption))
    · exact .inl rfl
  goal := fun i hi h => by unfold dsN; rw [if_pos hi, if_pos h]
theorem egd_facts (hr : Right t) {e : Nat × Nat × Nat} (he : e ∈ edges t) : e.1 < (sts t.vars).length ∧ e.2.1 < t.ops.length ∧ e.2.2 < (sts t.vars).length ∧ hoB (opr t.ops e.2.1).pre (row (sts t.vars) e.1) = true ∧ row (sts t.vars) e.2.2 = nxt t (row (sts t.vars) e.1) e.2.1 := by
  obtain ⟨h1, h2, h3, h4⟩ := mem_edges.1 he
  have hst := st_nxt' hr (sts_st hr h1) h2
  refine ⟨h1, h2, ?_, h3, ?_⟩
  · rw [h4]; exact (num_eq hr hst).2
  · rw [h4]; exact sts_num hr hst
theorem dst_mark (hr : Right t) (h : Dst t D) {e : Nat × Nat × Nat} (he : e ∈ edges t) (h1 : D e.2.2 < INF) (h2 : D e.2.2 + (opr t.ops e.2.1).cost < D e.1) : Dst t (setD D e.1 (D e.2.2 + (opr t.ops e.2.1).cost)) := by
  obtain ⟨a1, a2, a3, a4, a5⟩ := egd_facts hr he
  have hc := hr.cost _ a2
  have r1 := h.rng _ a3
  have r2 := h.rng _ a1
  refine ⟨fun i hi => ?_, fun i hi => ?_, fun i hi hg => ?_⟩
  · unfold setD
    split
    · exact ⟨by omega, by omega⟩
    · exact h.rng i hi
  · unfold setD
    split
    · rename_i e; subst e
      rcases h.real _ a3 with e | e
      · omega
      · rw [a5] at e
        have := PlanC.step a2 a4 e
        rw [Int.add_comm] at this
        exact .inr this
    · exact h.real i hi
  · unfold setD
    split
    · rename_i e; subst e
      have := h.goal _ hi hg
      omega
    · exact h.goal i hi hg
theorem dst_best (hr : Right t) (h : Dst t D) (hc : ∀ e ∈ edges t, EdC t D e) {s : List Int} (hs : stB t.vars s = true) : IsBest t s (D (num t s)) := by
  have key : ∀ s c, PlanC t s c → stB t.vars s = true → D (num t s) ≤ c := by
    intro s c hp
    induction hp with
    | @goal s hg =>
      intro hs
      have := h.goal _ (num_eq hr hs).2 (by rw [sts_num hr hs]; exact hg)
      omega
    | @step s k c hk hpre _ ih =>
      intro hs
      have hs2 := st_nxt' hr hs hk
      have h1 := ih hs2
      have hm : (num t s, k, num t (nxt t s k)) ∈ edges t := mem_edges.2 ⟨(num_eq hr hs).2, hk, by dsimp only; rw [sts_num hr hs]; exact hpre, by dsimp only; rw [sts_num hr hs]⟩
      have h2 := hc _ hm
      unfold EdC at h2
      dsimp only at h2
      have r1 := h.rng _ (num_eq hr hs).2
      have r2 := h.rng _ (num_eq hr hs2).2
      have hcst := hr.cost _ hk
      by_cases e : D (num t (nxt t s k)) < INF
      · have := h2 e; omega
      · omega
  have hn := num_eq hr hs
  refine ⟨(h.rng _ hn.2).1, (h.rng _ hn.2).2, ?_, fun c hp => key s c hp hs⟩
  have := h.real _ hn.2
  rwa [sts_num hr hs] at this
end

end Go.Proofs.Ytenmeiplglbafaa
