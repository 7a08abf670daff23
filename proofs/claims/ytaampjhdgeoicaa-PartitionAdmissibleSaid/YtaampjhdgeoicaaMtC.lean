/- Texts laid together: GoodP, CauP, CauQ. -/
import Derived.Test.YtaampjhdgeoicaaMtB
import Derived.Test.YtaampjhdgeoicaaMtA
namespace Go.Proofs.Ytaampjhdgeoicaa
set_option linter.unusedSimpArgs false
set_option linter.unusedVariables false
section
open Go.RowKit
set_option linter.unusedVariables false

theorem fa_lt {vars : List Int} {f : List (Int × Int)} (h : FaP vars f) : ∀ k, k < f.length → (k : Int) ≤ fv f k
  | 0, hk => by have := (h 0 hk).1; omega
  | k + 1, hk => by
    have h1 := fa_lt h k (by omega)
    have h2 := (h (k + 1) hk).2.2.2.2 (by omega)
    simp only [Nat.add_sub_cancel] at h2
    omega
theorem fa_len {vars : List Int} {f : List (Int × Int)} (h : faB vars f = true) : f.length ≤ vars.length := by
  unfold faB at h
  simp only [decide_eq_true_eq] at h
  rcases Nat.eq_zero_or_pos f.length with h0 | h0
  · omega
  · have h1 := fa_lt h (f.length - 1) (by omega)
    have h2 := (h (f.length - 1) (by omega)).2.1
    omega
/-- An operator that is right. -/
def goO (vars : List Int) (o : Opr) : Bool :=
  (((!decide (o.cost < 0) && !decide (1048576 < o.cost)) && !decide ((64 : Int) < o.effs.length)) && !decide ((256 : Int) < o.name.size)) && (faB vars o.pre && (!anyB o.name.size (bad o.name) && !anyB o.effs.length fun k => malE vars (eff o.effs k)))
def goT (t : Tsk) : Bool := (!decide ((64 : Int) < t.vars.length) && !decide ((4096 : Int) < t.ops.length)) && ((!anyB t.vars.length fun k => decide (nth t.vars k < 1) || decide (64 < nth t.vars k)) && ((stB t.vars t.init && faB t.vars t.goal) && !anyB t.ops.length fun k => !goO t.vars (opr t.ops k)))
theorem goT_chk (t : Tsk) : goT t = true ↔ chkC t = 0 := by
  constructor
  · intro h
    unfold goT at h
    simp only [Bool.and_eq_true, Bool.not_eq_true', decide_eq_false_iff_not, anyB_false, Bool.or_eq_false_iff, Bool.not_eq_false'] at h
    obtain ⟨⟨h1, h2⟩, h3, ⟨h4, h5⟩, h6⟩ := h
    have ho : ∀ k, k < t.ops.length → (¬ (opr t.ops k).cost < 0 ∧ ¬ 1048576 < (opr t.ops k).cost) ∧ ¬ (64 : Int) < (opr t.ops k).effs.length ∧ ¬ (256 : Int) < (opr t.ops k).name.size ∧ faB t.vars (opr t.ops k).pre = true ∧ (∀ j, j < (opr t.ops k).name.size → bad (opr t.ops k).name j = false) ∧ ∀ j, j < (opr t.ops k).effs.length → malE t.vars (eff (opr t.ops k).effs j) = false := by
      intro k hk
      have := h6 k hk
      unfold goO at this
      simp only [Bool.and_eq_true, Bool.not_eq_true', decide_eq_false_iff_not, anyB_false] at this
      obtain ⟨⟨⟨⟨a, b⟩, c⟩, d⟩, e, f, g⟩ := this
      exact ⟨⟨a, b⟩, c, d, e, f, g⟩
    have hw : ∀ k, k < t.ops.length → ∀ j, j < (opr t.ops k).effs.length → faB t.vars (eff (opr t.ops k).effs j).whn = true := by
      intro k hk j hj
      have := (ho k hk).2.2.2.2.2 j hj
      unfold malE at this
      simp only [Bool.or_eq_false_iff, Bool.not_eq_false'] at this
      exact this.1
    have e1 : lgT t = false := by
      unfold lgT
      simp only [Bool.or_eq_false_iff, decide_eq_false_iff_not, anyB_false]
      refine ⟨⟨⟨h1, h2⟩, ?_⟩, fun k hk => ?_⟩
      · have := fa_len h5; omega
      · unfold lgO
        simp only [Bool.or_eq_false_iff, decide_eq_false_iff_not, anyB_false]
        refine ⟨⟨?_, (ho k hk).2.1⟩, fun j hj => ?_⟩
        · have := fa_len (ho k hk).2.2.2.1; omega
        · have := fa_len (hw k hk j hj); omega
    have e2 : outT t = false := by
      unfold outT
      simp only [Bool.or_eq_false_iff, decide_eq_false_iff_not, anyB_false]
      exact ⟨fun k hk => h3 k hk, fun k hk => (ho k hk).1⟩
    have e3 : malT t = false := by
      unfold malT
      simp only [Bool.or_eq_false_iff, Bool.not_eq_false', anyB_false]
      refine ⟨⟨h4, h5⟩, fun k hk => ?_⟩
      unfold malO
      simp only [Bool.or_eq_false_iff, Bool.not_eq_false', anyB_false]
      exact ⟨(ho k hk).2.2.2.1, (ho k hk).2.2.2.2.2⟩
    have e4 : misT t = false := by
      unfold misT
      simp only [anyB_false]
      intro k hk
      unfold misO
      simp only [Bool.or_eq_false_iff, decide_eq_false_iff_not, anyB_false]
      exact ⟨(ho k hk).2.2.1, (ho k hk).2.2.2.2.1⟩
    unfold chkC
    simp [e1, e2, e3, e4]
  · intro h
    obtain ⟨e1, e2, e3, e4⟩ := chk0 h
    unfold lgT at e1
    simp only [Bool.or_eq_false_iff, decide_eq_false_iff_not, anyB_false] at e1
    unfold outT at e2
    simp only [Bool.or_eq_false_iff, decide_eq_false_iff_not, anyB_false] at e2
    unfold malT at e3
    simp only [Bool.or_eq_false_iff, Bool.not_eq_false', anyB_false] at e3
    unfold misT at e4
    simp only [anyB_false] at e4
    unfold goT
    simp only [Bool.and_eq_true, Bool.not_eq_true', decide_eq_false_iff_not, anyB_false, Bool.or_eq_false_iff, Bool.not_eq_false']
    refine ⟨⟨e1.1.1.1, e1.1.1.2⟩, fun k hk => e2.1 k hk, e3.1, fun k hk => ?_⟩
    have a := e1.2 k hk
    unfold lgO at a
    simp only [Bool.or_eq_false_iff, decide_eq_false_iff_not, anyB_false] at a
    have b := e2.2 k hk
    have c := e3.2 k hk
    unfold malO at c
    simp only [Bool.or_eq_false_iff, Bool.not_eq_false', anyB_false] at c
    have d := e4 k hk
    unfold misO at d
    simp only [Bool.or_eq_false_iff, decide_eq_false_iff_not, anyB_false] at d
    unfold goO
    simp only [Bool.and_eq_true, Bool.not_eq_true', decide_eq_false_iff_not, anyB_false]
    exact ⟨⟨⟨b, a.1.2⟩, d.1⟩, c.1, d.2, c.2⟩

/-- What a right task is. -/
structure Right (t : Tsk) : Prop where
  nv : t.vars.length ≤ 64
  no : t.ops.length ≤ 4096
  ng : t.goal.length ≤ 64
  dom : ∀ k, k < t.vars.length → 1 ≤ nth t.vars k ∧ nth t.vars k ≤ 64
  init : stB t.vars t.init = true
  goal : faB t.vars t.goal = true
  np : ∀ k, k < t.ops.length → (opr t.ops k).pre.length ≤ 64
  ne : ∀ k, k < t.ops.length → (opr t.ops k).effs.length ≤ 64
  nw : ∀ k, k < t.ops.length → ∀ j, j < (opr t.ops k).effs.length → (eff (opr t.ops k).effs j).whn.length ≤ 64
  cost : ∀ k, k < t.ops.length → 0 ≤ (opr t.ops k).cost ∧ (opr t.ops k).cost ≤ 1048576
  pre : ∀ k, k < t.ops.length → faB t.vars (opr t.ops k).pre = true
  whn : ∀ k, k < t.ops.length → ∀ j, j < (opr t.ops k).effs.length → faB t.vars (eff (opr t.ops k).effs j).whn = true
  eff : ∀ k, k < t.ops.length → ∀ j, j < (opr t.ops k).effs.length → 0 ≤ (eff (opr t.ops k).effs j).var ∧ (eff (opr t.ops k).effs j).var < t.vars.length ∧ 0 ≤ (eff (opr t.ops k).effs j).val ∧ (eff (opr t.ops k).effs j).val < nth t.vars (eff (opr t.ops k).effs j).var.toNat
theorem right_of {t : Tsk} (h : chkC t = 0) : Right t := by
  obtain ⟨e1, e2, e3, e4⟩ := chk0 h
  unfold lgT at e1
  simp only [Bool.or_eq_false_iff, decide_eq_false_iff_not, anyB_false] at e1
  have a : ∀ k, k < t.ops.length → _ := fun k hk => by
    have := e1.2 k hk
    unfold lgO at this
    simp only [Bool.or_eq_false_iff, decide_eq_false_iff_not, anyB_false] at this
    exact this
  unfold outT at e2
  simp only [Bool.or_eq_false_iff, decide_eq_false_iff_not, anyB_false] at e2
  unfold malT at e3
  simp only [Bool.or_eq_false_iff, Bool.not_eq_false', anyB_false] at e3
  have c : ∀ k, k < t.ops.length → _ := fun k hk => by
    have := e3.2 k hk
    unfold malO at this
    simp only [Bool.or_eq_false_iff, Bool.not_eq_false', anyB_false] at this
    exact this
  have m : ∀ k, k < t.ops.length → ∀ j, j < (opr t.ops k).effs.length → _ := fun k hk j hj => by
    have := (c k hk).2 j hj
    unfold malE at this
    simp only [Bool.or_eq_false_iff, Bool.not_eq_false'] at this
    exact this
  refine ⟨by omega, by omega, by omega, fun k hk => by have := e2.1 k hk; omega, e3.1.1, e3.1.2, fun k hk => by have := (a k hk).1.1; omega, fun k hk => by have := (a k hk).1.2; omega, fun k hk j hj => by have := (a k hk).2 j hj; omega, fun k hk => by have := e2.2 k hk; omega, fun k hk => (c k hk).1, fun k hk j hj => (m k hk j hj).1, fun k hk j hj => ?_⟩
  have h1 := (m k hk j hj).2
  unfold faB at h1
  simp only [decide_eq_true_eq] at h1
  have h2 := h1 0 (by simp)
  exact ⟨h2.1, h2.2.1, h2.2.2.1, h2.2.2.2.1⟩
/-- The facts of a proper list. -/
theorem fa_at {vars : List Int} {f : List (Int × Int)} (h : faB vars f = true) {k : Nat} (hk : k < f.length) : 0 ≤ fv f k ∧ fv f k < vars.length ∧ 0 ≤ fx f k ∧ fx f k < nth vars (fv f k).toNat := by
  unfold faB at h
  simp only [decide_eq_true_eq] at h
  have := h k hk
  exact ⟨this.1, this.2.1, this.2.2.1, this.2.2.2.1⟩
end

section
open Go.RowKit
set_option linter.unusedVariables false

/-- A fact of variable u; an effect on variable u. -/
def onB (l : List (Int × Int)) (u : Int) : Bool := anyB l.length fun k => fv l k == u
def seB (o : Opr) (u : Int) : Bool := anyB o.effs.length fun k => (eff o.effs k).var == u
def dpE (o : Opr) (e : Eff) (v u : Int) : Bool := e.var == v && ((onB o.pre u || onB e.whn u) || seB o u)
def dpO (o : Opr) (v u : Int) : Bool := anyB o.effs.length fun k => dpE o (eff o.effs k) v u
def dpT (t : Tsk) (v u : Int) : Bool := anyB t.ops.length fun k => dpO (opr t.ops k) v u
/-- An arc from u to v. -/
def arB (t : Tsk) (u v : Nat) : Bool := decide (u ≠ v) && dpT t v u
/-- As the reference says it. -/
def maE (e : Eff) (u v : Int) : Bool := e.var == u || (e.var == v && onB e.whn u)
def raO (o : Opr) (u v : Int) : Bool := seB o v && (onB o.pre u || anyB o.effs.length fun k => maE (eff o.effs k) u v)
theorem raO_eq (o : Opr) (u v : Int) : raO o u v = dpO o v u := by
  unfold raO dpO dpE maE seB
  rw [Bool.eq_iff_iff]
  simp only [Bool.and_eq_true, Bool.or_eq_true, anyB_true, beq_iff_eq]
  constructor
  · rintro ⟨⟨k, hk, h1⟩, h | ⟨j, hj, h | ⟨h2, h3⟩⟩⟩
    · exact ⟨k, hk, h1, .inl (.inl h)⟩
    · exact ⟨k, hk, h1, .inr ⟨j, hj, h⟩⟩
    · exact ⟨j, hj, h2, .inl (.inr h3)⟩
  · rintro ⟨k, hk, h1, (h | h) | ⟨j, hj, h⟩⟩
    · exact ⟨⟨k, hk, h1⟩, .inl h⟩
    · exact ⟨⟨k, hk, h1⟩, .inr ⟨k, hk, .inr ⟨h1, h⟩⟩⟩
    · exact ⟨⟨k, hk, h1⟩, .inr ⟨j, hj, .inl h⟩⟩

/-- The arcs from u to the first k variables; from the first k variables. -/
def arR (t : Tsk) (u k : Nat) : List (Nat × Nat) := ((List.range k).filter (arB t u)).map fun v => (u, v)
theorem arR_yes {t : Tsk} {u k : Nat} (h : arB t u k = true) : arR t u (k + 1) = arR t u k ++ [(u, k)] := by unfold arR; simp [List.range_succ, List.filter_append, List.filter_cons, h]
theorem arR_no {t : Tsk} {u k : Nat} (h : arB t u k = false) : arR t u (k + 1) = arR t u k := by unfold arR; simp [List.range_succ, List.filter_append, List.filter_cons, h]
theorem arR_len (t : Tsk) (u k : Nat) : (arR t u k).length ≤ k := by
  unfold arR; rw [List.length_map]; have := List.length_filter_le (arB t u) (List.range k); simpa using this
def arL (t : Tsk) (k : Nat) : List (Nat × Nat) := (List.range k).flatMap fun u => arR t u t.vars.length
theorem arL_succ (t : Tsk) (k : Nat) : arL t (k + 1) = arL t k ++ arR t k t.vars.length := by unfold arL; simp [List.range_succ, List.flatMap_append]
theorem arL_len (t : Tsk) : ∀ k, (arL t k).length ≤ k * t.vars.length
  | 0 => by simp [arL]
  | k + 1 => by
    have := arL_len t k
    have := arR_len t k t.vars.length
    rw [arL_succ, List.length_append, Nat.add_mul]; omega
theorem arL_mem {t : Tsk} {u v : Nat} : (u, v) ∈ arL t t.vars.length ↔ u < t.vars.length ∧ v < t.vars.length ∧ arB t u v = true := by
  unfold arL arR
  simp only [List.mem_flatMap, List.mem_map, List.mem_filter, List.mem_range, Prod.mk.injEq]
  constructor
  · rintro ⟨a, ha, b, ⟨hb, hab⟩, rfl, rfl⟩; exact ⟨ha, hb, hab⟩
  · rintro ⟨ha, hb, hab⟩; exact ⟨u, ha, v, ⟨hb, hab⟩, rfl, rfl⟩
/-- All arcs. -/
def arcs (t : Tsk) : List (Nat × Nat) := arL t t.vars.length

/-- Relevant variables: those of the goal, and those with an arc to a relevant one. -/
inductive Rel (t : Tsk) : Nat → Prop
  | goal {k v : Nat} : k < t.goal.length → fv t.goal k = (v : Int) → Rel t v
  | step {u v : Nat} : Rel t v → u < t.vars.length → v < t.vars.length → arB t u v = true → Rel t u
open Classical in
noncomputable def relB (t : Tsk) (v : Nat) : Bool := decide (Rel t v)
theorem relB_iff {t : Tsk} {v : Nat} : relB t v = true ↔ Rel t v := by unfold relB; simp
/-- A set that has the goal's variables, is closed under the arcs, and has no others than relevant ones is that of the relevant ones. -/
theorem rel_eq {t : Tsk} {f : Nat → Bool} (h1 : ∀ k, k < t.goal.length → ∃ v : Nat, fv t.goal k = (v : Int) ∧ f v = true) (h2 : ∀ u v, u < t.vars.length → v < t.vars.length → f v = true → arB t u v = true → f u = true) (h3 : ∀ v, v < t.vars.length → f v = true → Rel t v) :
    ∀ v, v < t.vars.length → f v = relB t v := by
  intro v hv
  rw [Bool.eq_iff_iff, relB_iff]
  refine ⟨h3 v hv, fun h => ?_⟩
  induction h with
  | @goal k v hk he =>
    obtain ⟨v', e1, e2⟩ := h1 k hk
    have : v' = v := by omega
    rw [← this]; exact e2
  | @step u v hr hu hv' ha ih => exact h2 u v hu hv' (ih hv') ha
end

section
open Go.RowKit
set_option linter.unusedVariables false

/-- The variables of the first k goal facts. -/
def goN (t : Tsk) (v k : Nat) : Bool := anyB k fun i => fv t.goal i == (v : Int)
def goQ (t : Tsk) (k : Nat) : List Int := (List.range k).map fun i => fv t.goal i
theorem goQ_succ (t : Tsk) (k : Nat) : goQ t (k + 1) = goQ t k ++ [fv t.goal k] := by unfold goQ; rw [List.range_succ, List.map_append]; rfl
theorem goQ_len (t : Tsk) (k : Nat) : (goQ t k).length = k := by unfold goQ; simp
/-- How many of the first n are not marked. -/
def cntF (f : Nat → Bool) : Nat → Nat
  | 0 => 0
  | n + 1 => cntF f n + if f n then 0 else 1
theorem cntF_le (f : Nat → Bool) : ∀ n, cntF f n ≤ n
  | 0 => Nat.le_refl _
  | n + 1 => by have := cntF_le f n; unfold cntF; split <;> omega
def setF (f : Nat → Bool) (j : Nat) (v : Nat) : Bool := if v = j then true else f v
theorem cntF_same {f g : Nat → Bool} : ∀ {n : Nat}, (∀ v, v < n → f v = g v) → cntF f n = cntF g n
  | 0, _ => rfl
  | n + 1, h => by unfold cntF; rw [cntF_same fun v hv => h v (by omega), h n (by omega)]
theorem cntF_set {f : Nat → Bool} {j : Nat} (h : f j = false) : ∀ {n : Nat}, j < n → cntF (setF f j) n + 1 = cntF f n
  | 0, hj => absurd hj (by omega)
  | n + 1, hj => by
    show cntF (setF f j) n + (if setF f j n then 0 else 1) + 1 = cntF f n + if f n then 0 else 1
    by_cases e : j = n
    · subst e
      rw [cntF_same (f := setF f j) (g := f) fun v hv => by unfold setF; rw [if_neg (by omega)]]
      have : setF f j j = true := by unfold setF; rw [if_pos rfl]
      rw [this, h]; rfl
    · have := cntF_set h (n := n) (by omega)
      have e2 : setF f j n = f n := by unfold setF; rw [if_neg (by omega)]
      rw [e2]; omega
/-- What holds while the queue is worked off. -/
structure BfI (t : Tsk) (f : Nat → Bool) (q : List Int) (X : Nat → Nat → Prop) : Prop where
  a : ∀ x ∈ q, ∃ v : Nat, x = (v : Int) ∧ v < t.vars.length ∧ f v = true
  b : ∀ k, k < t.goal.length → ∃ v : Nat, fv t.goal k = (v : Int) ∧ f v = true
  c : ∀ v, v < t.vars.length → f v = true → Rel t v
  d : ∀ u v, u < t.vars.length → v < t.vars.length → f v = true → arB t u v = true → f u = true ∨ (v : Int) ∈ q ∨ X u v
def noX (u v : Nat) : Prop := False
def frX (v0 j : Nat) (u v : Nat) : Prop := v = v0 ∧ j ≤ u
theorem bf_start {t : Tsk} (hr : Right t) : BfI t (fun v => goN t v t.goal.length) (goQ t t.goal.length) noX := by
  refine ⟨fun x hx => ?_, fun k hk => ?_, fun v hv h => ?_, fun u v hu hv h ha => ?_⟩
  · unfold goQ at hx
    simp only [List.mem_map, List.mem_range] at hx
    obtain ⟨i, hi, rfl⟩ := hx
    have := fa_at hr.goal hi
    exact ⟨(fv t.goal i).toNat, by omega, by omega, anyB_true.2 ⟨i, hi, by simp; omega⟩⟩
  · have := fa_at hr.goal hk
    exact ⟨(fv t.goal k).toNat, by omega, anyB_true.2 ⟨k, hk, by simp; omega⟩⟩
  · obtain ⟨k, hk, e⟩ := anyB_true.1 h
    exact Rel.goal hk (by simpa using e)
  · obtain ⟨k, hk, e⟩ := anyB_true.1 h
    refine .inr (.inl ?_)
    unfold goQ
    simp only [List.mem_map, List.mem_range]
    exact ⟨k, hk, by simpa using e⟩
theorem bf_pop {t : Tsk} {f : Nat → Bool} {q : List Int} {v0 : Nat} (h : BfI t f q noX) (hq : 0 < q.length) (hv : nth q 0 = (v0 : Int)) : BfI t f q.tail (frX v0 0) ∧ v0 < t.vars.length ∧ Rel t v0 := by
  cases q with
  | nil => simp at hq
  | cons x q =>
    have hx : x = (v0 : Int) := hv
    subst hx
    obtain ⟨v, e, h1, h2⟩ := h.a (v0 : Int) (by simp)
    have : v = v0 := by omega
    subst this
    refine ⟨⟨fun y hy => h.a y (by simp at hy; simp [hy]), h.b, h.c, fun u w hu hw hf ha => ?_⟩, h1, h.c v h1 h2⟩
    rcases h.d u w hu hw hf ha with g | g | g
    · exact .inl g
    · simp only [List.mem_cons] at g
      rcases g with g | g
      · exact .inr (.inr ⟨by omega, by omega⟩)
      · exact .inr (.inl g)
    · exact absurd g id
theorem bf_skip {t : Tsk} {f : Nat → Bool} {q : List Int} {v0 j : Nat} (h : BfI t f q (frX v0 j)) (hs : arB t j v0 = false ∨ f j = true) : BfI t f q (frX v0 (j + 1)) :=
  ⟨h.a, h.b, h.c, fun u v hu hv hf ha => by
    rcases h.d u v hu hv hf ha with g | g | ⟨g1, g2⟩
    · exact .inl g
    · exact .inr (.inl g)
    · by_cases e : u = j
      · subst e
        rcases hs with hs | hs
        · rw [g1, hs] at ha; cases ha
        · exact .inl hs
      · exact .inr (.inr ⟨g1, by omega⟩)⟩
theorem bf_mark {t : Tsk} {f : Nat → Bool} {q : List Int} {v0 j : Nat} (h : BfI t f q (frX v0 j)) (hj : j < t.vars.length) (hv0 : v0 < t.vars.length) (hr : Rel t v0) (ha : arB t j v0 = true) : BfI t (setF f j) (q ++ [(j : Int)]) (frX v0 (j + 1)) := by
  have hset : ∀ v, f v = true → setF f j v = true := fun v hv => by unfold setF; split <;> simp [hv]
  refine ⟨fun x hx => ?_, fun k hk => ?_, fun v hv hf => ?_, fun u v hu hv hf hau => ?_⟩
  · simp only [List.mem_append, List.mem_singleton] at hx
    rcases hx with hx | rfl
    · obtain ⟨v, e, h1, h2⟩ := h.a x hx
      exact ⟨v, e, h1, hset v h2⟩
    · exact ⟨j, rfl, hj, by unfold setF; rw [if_pos rfl]⟩
  · obtain ⟨v, e, h1⟩ := h.b k hk
    exact ⟨v, e, hset v h1⟩
  · unfold setF at hf
    split at hf
    · rename_i e; rw [e]; exact Rel.step hr hj hv0 ha
    · exact h.c v hv hf
  · by_cases e : v = j
    · subst e; exact .inr (.inl (by simp))
    · have hf2 : f v = true := by unfold setF at hf; rwa [if_neg e] at hf
      rcases h.d u v hu hv hf2 hau with g | g | ⟨g1, g2⟩
      · exact .inl (hset u g)
      · exact .inr (.inl (by simp [g]))
      · by_cases e2 : u = j
        · exact .inl (by unfold setF; rw [if_pos e2])
        · exact .inr (.inr ⟨g1, by omega⟩)
theorem bf_done {t : Tsk} {f : Nat → Bool} {q : List Int} {v0 : Nat} (h : BfI t f q (frX v0 t.vars.length)) : BfI t f q noX :=
  ⟨h.a, h.b, h.c, fun u v hu hv hf ha => by
    rcases h.d u v hu hv hf ha with g | g | ⟨g1, g2⟩
    · exact .inl g
    · exact .inr (.inl g)
    · omega⟩
theorem bf_end {t : Tsk} {f : Nat → Bool} {q : List Int} (h : BfI t f q noX) (hq : q.length = 0) : ∀ v, v < t.vars.length → f v = relB t v := by
  have hq0 : q = [] := List.length_eq_zero_iff.1 hq
  subst hq0
  refine rel_eq h.b (fun u v hu hv hf ha => ?_) h.c
  rcases h.d u v hu hv hf ha with g | g | g
  · exact g
  · cases g
  · exact absurd g id
end

end Go.Proofs.Ytaampjhdgeoicaa
