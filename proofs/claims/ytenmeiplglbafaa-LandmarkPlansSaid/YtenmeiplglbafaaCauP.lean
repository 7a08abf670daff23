/- The causal graph, plain: arcs, relevant variables. No program in sight. -/
import Derived.Test.YtenmeiplglbafaaTaskD
namespace Go.Proofs.Ytenmeiplglbafaa
set_option linter.unusedSimpArgs false
set_option linter.unusedVariables false
open Go.RowKit
set_option linter.unusedVariables false

/-- A fact of variable u; an effect on variable u. -/
def onB (l : List (Int × Int)) (u : Int) : Bool := anyB l.length fun k => fv l k == u
def seB (o : Opr) (u : Int) : Bool := anyB o.effs.length fun k => (eff o.effs k).var == u
def dpE (o : Opr) (e : Eff) (v u : Int) : Bool := e.var == v && ((onB o.pre u || onB e.whn u) || seB o u)
def dpO (o : Opr) (v u : Int) : Bool := anyB o.effs.length fun k => dpE o (eff o.effs k) v u
def dpT (t : Tsk) (v u : Int) : Bool := anyB t.ops.length fun k => dpO (opr t.ops k) v u
/-- An arc from u to v. -/
def arB (t : Tsk) (u v : Nat) : Bool := decide (u ≠ v) && dpT t v u
/-- As the reference says it. -/
def maE (e : Eff) (u v : Int) : Bool := e.var == u || (e.var == v && onB e.whn u)
def raO (o : Opr) (u v : Int) : Bool := seB o v && (onB o.pre u || anyB o.effs.length fun k => maE (eff o.effs k) u v)
theorem raO_eq (o : Opr) (u v : Int) : raO o u v = dpO o v u := by
  unfold raO dpO dpE maE seB
  rw [Bool.eq_iff_iff]
  simp only [Bool.and_eq_true, Bool.or_eq_true, anyB_true, beq_iff_eq]
  constructor
  · rintro ⟨⟨k, hk, h1⟩, h | ⟨j, hj, h | ⟨h2, h3⟩⟩⟩
    · exact ⟨k, hk, h1, .inl (.inl h)⟩
    · exact ⟨k, hk, h1, .inr ⟨j, hj, h⟩⟩
    · exact ⟨j, hj, h2, .inl (.inr h3)⟩
  · rintro ⟨k, hk, h1, (h | h) | ⟨j, hj, h⟩⟩
    · exact ⟨⟨k, hk, h1⟩, .inl h⟩
    · exact ⟨⟨k, hk, h1⟩, .inr ⟨k, hk, .inr ⟨h1, h⟩⟩⟩
    · exact ⟨⟨k, hk, h1⟩, .inr ⟨j, hj, .inl h⟩⟩

/-- The arcs from u to the first k variables; from the first k variables. -/
def arR (t : Tsk) (u k : Nat) : List (Nat × Nat) := ((List.range k).filter (arB t u)).map fun v => (u, v)
theorem arR_yes {t : Tsk} {u k : Nat} (h : arB t u k = true) : arR t u (k + 1) = arR t u k ++ [(u, k)] := by unfold arR; simp [List.range_succ, List.filter_append, List.filter_cons, h]
theorem arR_no {t : Tsk} {u k : Nat} (h : arB t u k = false) : arR t u (k + 1) = arR t u k := by unfold arR; simp [List.range_succ, List.filter_append, List.filter_cons, h]
theorem arR_len (t : Tsk) (u k : Nat) : (arR t u k).length ≤ k := by
  unfold arR; rw [List.length_map]; have := List.length_filter_le (arB t u) (List.range k); simpa using this
def arL (t : Tsk) (k : Nat) : List (Nat × Nat) := (List.range k).flatMap fun u => arR t u t.vars.length
theorem arL_succ (t : Tsk) (k : Nat) : arL t (k + 1) = arL t k ++ arR t k t.vars.length := by unfold arL; simp [List.range_succ, List.flatMap_append]
theorem arL_len (t : Tsk) : ∀ k, (arL t k).length ≤ k * t.vars.length
  | 0 => by simp [arL]
  | k + 1 => by
    have := arL_len t k
    have := arR_len t k t.vars.length
    rw [arL_succ, List.length_append, Nat.add_mul]; omega
theorem arL_mem {t : Tsk} {u v : Nat} : (u, v) ∈ arL t t.vars.length ↔ u < t.vars.length ∧ v < t.vars.length ∧ arB t u v = true := by
  unfold arL arR
  simp only [List.mem_flatMap, List.mem_map, List.mem_filter, List.mem_range, Prod.mk.injEq]
  constructor
  · rintro ⟨a, ha, b, ⟨hb, hab⟩, rfl, rfl⟩; exact ⟨ha, hb, hab⟩
  · rintro ⟨ha, hb, hab⟩; exact ⟨u, ha, v, ⟨hb, hab⟩, rfl, rfl⟩
/-- All arcs. -/
def arcs (t : Tsk) : List (Nat × Nat) := arL t t.vars.length

/-- Relevant variables: those of the goal, and those with an arc to a relevant one. -/
inductive Rel (t : Tsk) : Nat → Prop
  | goal {k v : Nat} : k < t.goal.length → fv t.goal k = (v : Int) → Rel t v
  | step {u v : Nat} : Rel t v → u < t.vars.length → v < t.vars.length → arB t u v = true → Rel t u
open Classical in
noncomputable def relB (t : Tsk) (v : Nat) : Bool := decide (Rel t v)
theorem relB_iff {t : Tsk} {v : Nat} : relB t v = true ↔ Rel t v := by unfold relB; simp
/-- A set that has the goal's variables, is closed under the arcs, and has no others than relevant ones is that of the relevant ones. -/
theorem rel_eq {t : Tsk} {f : Nat → Bool} (h1 : ∀ k, k < t.goal.length → ∃ v : Nat, fv t.goal k = (v : Int) ∧ f v = true) (h2 : ∀ u v, u < t.vars.length → v < t.vars.length → f v = true → arB t u v = true → f u = true) (h3 : ∀ v, v < t.vars.length → f v = true → Rel t v) :
    ∀ v, v < t.vars.length → f v = relB t v := by
  intro v hv
  rw [Bool.eq_iff_iff, relB_iff]
  refine ⟨h3 v hv, fun h => ?_⟩
  induction h with
  | @goal k v hk he =>
    obtain ⟨v', e1, e2⟩ := h1 k hk
    have : v' = v := by omega
    rw [← this]; exact e2
  | @step u v hr hu hv' ha ih => exact h2 u v hu hv' (ih hv') ha

end Go.Proofs.Ytenmeiplglbafaa
