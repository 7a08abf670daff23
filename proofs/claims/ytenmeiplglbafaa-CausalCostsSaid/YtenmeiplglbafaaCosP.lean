/- The least cost stays the same in the restricted task: plain. -/
import Derived.Test.YtenmeiplglbafaaResQ
import Derived.Test.YtenmeiplglbafaaDisP
namespace Go.Proofs.Ytenmeiplglbafaa
set_option linter.unusedSimpArgs false
set_option linter.unusedVariables false
open Go.RowKit
set_option linter.unusedVariables false

theorem pr_cong {a b : List Int} : ∀ {k : Nat}, (∀ v, v < k → nth a v = nth b v) → pr a k = pr b k
  | 0, _ => rfl
  | k + 1, h => by show pr a k * nth a k = pr b k * nth b k; rw [pr_cong (k := k) fun v hv => h v (by omega), h k (by omega)]
theorem pr_ke {f : Nat → Bool} {vars : List Int} : ∀ {n : Nat}, (∀ k, k < n → 1 ≤ nth vars k) → 1 ≤ pr (keN f vars n) (keN f vars n).length ∧ pr (keN f vars n) (keN f vars n).length ≤ pr vars n
  | 0, _ => ⟨Int.le_refl _, Int.le_refl _⟩
  | n + 1, h => by
    obtain ⟨h1, h2⟩ := pr_ke (f := f) (n := n) fun k hk => h k (by omega)
    have h3 := h n (by omega)
    have h4 : pr vars (n + 1) = pr vars n * nth vars n := rfl
    cases hf : f n
    · rw [keN_no hf, h4]
      have := Int.mul_le_mul_of_nonneg_left h3 (show 0 ≤ pr vars n by omega)
      exact ⟨h1, by omega⟩
    · rw [keN_yes hf, h4, List.length_append]
      show 1 ≤ pr _ (_ + 1) ∧ pr _ (_ + 1) ≤ _
      have e : pr (keN f vars n ++ [nth vars n]) ((keN f vars n).length + 1) = pr (keN f vars n) (keN f vars n).length * nth vars n := by
        show pr _ _ * nth _ _ = _
        rw [pr_cong (b := keN f vars n) fun v hv => nth_app hv, nth_end]
      rw [e]
      have a := Int.mul_le_mul h1 h3 (by omega) (by omega)
      have b := Int.mul_le_mul_of_nonneg_right h2 (show 0 ≤ nth vars n by omega)
      exact ⟨by omega, b⟩
section
variable {t : Tsk}
theorem smll_res (hs : Smll t) : Smll (resT t) where
  nv := by have := (rel_len hs.right).1; have := hs.nv; omega
  no := by have := (rel_len hs.right).2; have := hs.no; omega
  ne := fun k hk => by
    have hk' : k < t.ops.length := by rw [← (rel_len hs.right).2]; exact hk
    rw [show opr (resT t).ops k = resO (resTo t) (opr t.ops k) from opr_res hk']
    have := resEN_len (resTo t) (opr t.ops k).effs (opr t.ops k).effs.length
    have := hs.ne k hk'
    show (resEN _ _ _).length ≤ 8
    omega
  right := right_of (good_res hs.chk)
  chk := good_res hs.chk
  many := by
    have := (pr_ke (f := relB t) (vars := t.vars) (n := t.vars.length) fun k hk => (hs.right.dom k hk).1).2
    have := hs.many
    show pr (keN _ _ _) (keN _ _ _).length ≤ 512
    omega
theorem cost_res {k : Nat} (hk : k < t.ops.length) : (opr (resT t).ops k).cost = (opr t.ops k).cost := by
  rw [show opr (resT t).ops k = resO (resTo t) (opr t.ops k) from opr_res hk]; rfl
theorem plan_down (hr : Right t) {s : List Int} {c : Int} (h : PlanC t s c) : s.length = t.vars.length → PlanC (resT t) (prj t s) c := by
  induction h with
  | goal hg => intro hs; exact PlanC.goal (by rw [goal_same hr hs]; exact hg)
  | @step s k c hk hp _ ih =>
    intro hs
    have h1 := ih (by rw [nxt_len]; exact hs)
    rw [← nxt_res hr hs hk] at h1
    have := PlanC.step (t := resT t) (k := k) (by rw [(rel_len hr).2]; exact hk) (app_down hr hs hk hp) h1
    rwa [cost_res hk] at this
theorem plan_up (hr : Right t) {s' : List Int} {c : Int} (h : PlanC (resT t) s' c) : ∀ s, s.length = t.vars.length → s' = prj t s → ∃ c', c' ≤ c ∧ PlanC t s c' := by
  induction h with
  | goal hg =>
    rintro s hs rfl
    exact ⟨0, Int.le_refl _, PlanC.goal (by rw [← goal_same hr hs]; exact hg)⟩
  | @step s' k c hk hp _ ih =>
    rintro s hs rfl
    have hk' : k < t.ops.length := by rw [← (rel_len hr).2]; exact hk
    have hc := hr.cost k hk'
    by_cases he : 0 < (opr (resT t).ops k).effs.length
    · obtain ⟨c', h1, h2⟩ := ih (nxt t s k) (by rw [nxt_len]; exact hs) (nxt_res hr hs hk')
      refine ⟨(opr t.ops k).cost + c', by rw [cost_res hk']; omega, PlanC.step hk' ?_ h2⟩
      rw [← app_up hr hs hk' he]; exact hp
    · obtain ⟨c', h1, h2⟩ := ih s hs (by
        unfold nxt
        rw [show (opr (resT t).ops k).effs.length = 0 by omega]
        rfl)
      exact ⟨c', by rw [cost_res hk']; omega, h2⟩
/-- The same least cost. -/
theorem best_same (hr : Right t) {d d' : Int} (h : IsBest t t.init d) (h' : IsBest (resT t) (resT t).init d') : d' = d := by
  have hl := stB_len hr.init
  have h1 : d' ≤ d := best_le h h' fun c hp => ⟨c, Int.le_refl _, plan_down hr hp hl⟩
  have h2 : d ≤ d' := best_le h' h fun c hp => plan_up hr hp t.init hl rfl
  omega
end

end Go.Proofs.Ytenmeiplglbafaa
