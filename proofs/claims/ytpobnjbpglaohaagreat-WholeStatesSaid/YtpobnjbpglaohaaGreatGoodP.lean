/- Right tasks, small tasks: plain. -/
import Derived.Test.YtpobnjbpglaohaaGreatWgB
namespace Go.Proofs.YtpobnjbpglaohaaGreat
set_option linter.unusedSimpArgs false
set_option linter.unusedVariables false
open Go.RowKit
set_option linter.unusedVariables false

theorem fa_lt {vars : List Int} {f : List (Int × Int)} (h : FaP vars f) : ∀ k, k < f.length → (k : Int) ≤ fv f k
  | 0, hk => by have := (h 0 hk).1; omega
  | k + 1, hk => by
    have h1 := fa_lt h k (by omega)
    have h2 := (h (k + 1) hk).2.2.2.2 (by omega)
    simp only [Nat.add_sub_cancel] at h2
    omega
theorem fa_len {vars : List Int} {f : List (Int × Int)} (h : faB vars f = true) : f.length ≤ vars.length := by
  unfold faB at h
  simp only [decide_eq_true_eq] at h
  rcases Nat.eq_zero_or_pos f.length with h0 | h0
  · omega
  · have h1 := fa_lt h (f.length - 1) (by omega)
    have h2 := (h (f.length - 1) (by omega)).2.1
    omega
/-- An operator that is right. -/
def goO (vars : List Int) (o : Opr) : Bool :=
  (((!decide (o.cost < 0) && !decide (1048576 < o.cost)) && !decide ((64 : Int) < o.effs.length)) && !decide ((256 : Int) < o.name.size)) && (faB vars o.pre && (!anyB o.name.size (bad o.name) && !anyB o.effs.length fun k => malE vars (eff o.effs k)))
def goT (t : Tsk) : Bool := (!decide ((64 : Int) < t.vars.length) && !decide ((4096 : Int) < t.ops.length)) && ((!anyB t.vars.length fun k => decide (nth t.vars k < 1) || decide (64 < nth t.vars k)) && ((stB t.vars t.init && faB t.vars t.goal) && !anyB t.ops.length fun k => !goO t.vars (opr t.ops k)))
theorem goT_chk (t : Tsk) : goT t = true ↔ chkC t = 0 := by
  constructor
  · intro h
    unfold goT at h
    simp only [Bool.and_eq_true, Bool.not_eq_true', decide_eq_false_iff_not, anyB_false, Bool.or_eq_false_iff, Bool.not_eq_false'] at h
    obtain ⟨⟨h1, h2⟩, h3, ⟨h4, h5⟩, h6⟩ := h
    have ho : ∀ k, k < t.ops.length → (¬ (opr t.ops k).cost < 0 ∧ ¬ 1048576 < (opr t.ops k).cost) ∧ ¬ (64 : Int) < (opr t.ops k).effs.length ∧ ¬ (256 : Int) < (opr t.ops k).name.size ∧ faB t.vars (opr t.ops k).pre = true ∧ (∀ j, j < (opr t.ops k).name.size → bad (opr t.ops k).name j = false) ∧ ∀ j, j < (opr t.ops k).effs.length → malE t.vars (eff (opr t.ops k).effs j) = false := by
      intro k hk
      have := h6 k hk
      unfold goO at this
      simp only [Bool.and_eq_true, Bool.not_eq_true', decide_eq_false_iff_not, anyB_false] at this
      obtain ⟨⟨⟨⟨a, b⟩, c⟩, d⟩, e, f, g⟩ := this
      exact ⟨⟨a, b⟩, c, d, e, f, g⟩
    have hw : ∀ k, k < t.ops.length → ∀ j, j < (opr t.ops k).effs.length → faB t.vars (eff (opr t.ops k).effs j).whn = true := by
      intro k hk j hj
      have := (ho k hk).2.2.2.2.2 j hj
      unfold malE at this
      simp only [Bool.or_eq_false_iff, Bool.not_eq_false'] at this
      exact this.1
    have e1 : lgT t = false := by
      unfold lgT
      simp only [Bool.or_eq_false_iff, decide_eq_false_iff_not, anyB_false]
      refine ⟨⟨⟨h1, h2⟩, ?_⟩, fun k hk => ?_⟩
      · have := fa_len h5; omega
      · unfold lgO
        simp only [Bool.or_eq_false_iff, decide_eq_false_iff_not, anyB_false]
        refine ⟨⟨?_, (ho k hk).2.1⟩, fun j hj => ?_⟩
        · have := fa_len (ho k hk).2.2.2.1; omega
        · have := fa_len (hw k hk j hj); omega
    have e2 : outT t = false := by
      unfold outT
      simp only [Bool.or_eq_false_iff, decide_eq_false_iff_not, anyB_false]
      exact ⟨fun k hk => h3 k hk, fun k hk => (ho k hk).1⟩
    have e3 : malT t = false := by
      unfold malT
      simp only [Bool.or_eq_false_iff, Bool.not_eq_false', anyB_false]
      refine ⟨⟨h4, h5⟩, fun k hk => ?_⟩
      unfold malO
      simp only [Bool.or_eq_false_iff, Bool.not_eq_false', anyB_false]
      exact ⟨(ho k hk).2.2.2.1, (ho k hk).2.2.2.2.2⟩
    have e4 : misT t = false := by
      unfold misT
      simp only [anyB_false]
      intro k hk
      unfold misO
      simp only [Bool.or_eq_false_iff, decide_eq_false_iff_not, anyB_false]
      exact ⟨(ho k hk).2.2.1, (ho k hk).2.2.2.2.1⟩
    unfold chkC
    simp [e1, e2, e3, e4]
  · intro h
    obtain ⟨e1, e2, e3, e4⟩ := chk0 h
    unfold lgT at e1
    simp only [Bool.or_eq_false_iff, decide_eq_false_iff_not, anyB_false] at e1
    unfold outT at e2
    simp only [Bool.or_eq_false_iff, decide_eq_false_iff_not, anyB_false] at e2
    unfold malT at e3
    simp only [Bool.or_eq_false_iff, Bool.not_eq_false', anyB_false] at e3
    unfold misT at e4
    simp only [anyB_false] at e4
    unfold goT
    simp only [Bool.and_eq_true, Bool.not_eq_true', decide_eq_false_iff_not, anyB_false, Bool.or_eq_false_iff, Bool.not_eq_false']
    refine ⟨⟨e1.1.1.1, e1.1.1.2⟩, fun k hk => e2.1 k hk, e3.1, fun k hk => ?_⟩
    have a := e1.2 k hk
    unfold lgO at a
    simp only [Bool.or_eq_false_iff, decide_eq_false_iff_not, anyB_false] at a
    have b := e2.2 k hk
    have c := e3.2 k hk
    unfold malO at c
    simp only [Bool.or_eq_false_iff, Bool.not_eq_false', anyB_false] at c
    have d := e4 k hk
    unfold misO at d
    simp only [Bool.or_eq_false_iff, decide_eq_false_iff_not, anyB_false] at d
    unfold goO
    simp only [Bool.and_eq_true, Bool.not_eq_true', decide_eq_false_iff_not, anyB_false]
    exact ⟨⟨⟨b, a.1.2⟩, d.1⟩, c.1, d.2, c.2⟩

/-- What a right task is. -/
structure Right (t : Tsk) : Prop where
  nv : t.vars.length ≤ 64
  no : t.ops.length ≤ 4096
  ng : t.goal.length ≤ 64
  dom : ∀ k, k < t.vars.length → 1 ≤ nth t.vars k ∧ nth t.vars k ≤ 64
  init : stB t.vars t.init = true
  goal : faB t.vars t.goal = true
  np : ∀ k, k < t.ops.length → (opr t.ops k).pre.length ≤ 64
  ne : ∀ k, k < t.ops.length → (opr t.ops k).effs.length ≤ 64
  nw : ∀ k, k < t.ops.length → ∀ j, j < (opr t.ops k).effs.length → (eff (opr t.ops k).effs j).whn.length ≤ 64
  cost : ∀ k, k < t.ops.length → 0 ≤ (opr t.ops k).cost ∧ (opr t.ops k).cost ≤ 1048576
  pre : ∀ k, k < t.ops.length → faB t.vars (opr t.ops k).pre = true
  whn : ∀ k, k < t.ops.length → ∀ j, j < (opr t.ops k).effs.length → faB t.vars (eff (opr t.ops k).effs j).whn = true
  eff : ∀ k, k < t.ops.length → ∀ j, j < (opr t.ops k).effs.length → 0 ≤ (eff (opr t.ops k).effs j).var ∧ (eff (opr t.ops k).effs j).var < t.vars.length ∧ 0 ≤ (eff (opr t.ops k).effs j).val ∧ (eff (opr t.ops k).effs j).val < nth t.vars (eff (opr t.ops k).effs j).var.toNat
theorem right_of {t : Tsk} (h : chkC t = 0) : Right t := by
  obtain ⟨e1, e2, e3, e4⟩ := chk0 h
  unfold lgT at e1
  simp only [Bool.or_eq_false_iff, decide_eq_false_iff_not, anyB_false] at e1
  have a : ∀ k, k < t.ops.length → _ := fun k hk => by
    have := e1.2 k hk
    unfold lgO at this
    simp only [Bool.or_eq_false_iff, decide_eq_false_iff_not, anyB_false] at this
    exact this
  unfold outT at e2
  simp only [Bool.or_eq_false_iff, decide_eq_false_iff_not, anyB_false] at e2
  unfold malT at e3
  simp only [Bool.or_eq_false_iff, Bool.not_eq_false', anyB_false] at e3
  have c : ∀ k, k < t.ops.length → _ := fun k hk => by
    have := e3.2 k hk
    unfold malO at this
    simp only [Bool.or_eq_false_iff, Bool.not_eq_false', anyB_false] at this
    exact this
  have m : ∀ k, k < t.ops.length → ∀ j, j < (opr t.ops k).effs.length → _ := fun k hk j hj => by
    have := (c k hk).2 j hj
    unfold malE at this
    simp only [Bool.or_eq_false_iff, Bool.not_eq_false'] at this
    exact this
  refine ⟨by omega, by omega, by omega, fun k hk => by have := e2.1 k hk; omega, e3.1.1, e3.1.2, fun k hk => by have := (a k hk).1.1; omega, fun k hk => by have := (a k hk).1.2; omega, fun k hk j hj => by have := (a k hk).2 j hj; omega, fun k hk => by have := e2.2 k hk; omega, fun k hk => (c k hk).1, fun k hk j hj => (m k hk j hj).1, fun k hk j hj => ?_⟩
  have h1 := (m k hk j hj).2
  unfold faB at h1
  simp only [decide_eq_true_eq] at h1
  have h2 := h1 0 (by simp)
  exact ⟨h2.1, h2.2.1, h2.2.2.1, h2.2.2.2.1⟩
/-- The facts of a proper list. -/
theorem fa_at {vars : List Int} {f : List (Int × Int)} (h : faB vars f = true) {k : Nat} (hk : k < f.length) : 0 ≤ fv f k ∧ fv f k < vars.length ∧ 0 ≤ fx f k ∧ fx f k < nth vars (fv f k).toNat := by
  unfold faB at h
  simp only [decide_eq_true_eq] at h
  have := h k hk
  exact ⟨this.1, this.2.1, this.2.2.1, this.2.2.2.1⟩

end Go.Proofs.YtpobnjbpglaohaaGreat
