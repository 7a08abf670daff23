/- partition: what the optimum says of valid values: plain. -/
import Derived.Test.YtaomaopbdilmnaaPoC
namespace Go.Proofs.Ytaomaopbdilmnaa
set_option linter.unusedSimpArgs false
set_option linter.unusedVariables false
open Go Go.RowKit
set_option linter.unusedVariables false

theorem add_ok {n d m e p q : Int} {r : Rat} (h : Fr n d r) (ha : addF n d m e = (p, q, 0)) : Fr p q (r + Rat.divInt m e) := by
  by_cases hp : prB m e = true
  · have h1 := Fr.add h (⟨hp, rfl⟩ : Fr m e (Rat.divInt m e))
    rw [h1] at ha
    by_cases hr : Rep (r + Rat.divInt m e)
    · rw [rep_toF hr] at ha
      injection ha with e1 e2
      injection e2 with e2 _
      rw [← e1, ← e2]
      exact rep_fr hr
    · rw [not_rep hr] at ha
      injection ha with _ e2
      injection e2 with _ e2
      exact absurd e2 (by decide)
  · unfold addF at ha
    rw [if_neg (by simp [hp])] at ha
    injection ha with _ e2
    injection e2 with _ e2
    exact absurd e2 (by decide)
theorem sum_rat {l : List (Int × Int)} (h : (sumF l).2.2 = 0) : Rep (sg l.length (rl l)) ∧ sumF l = ((sg l.length (rl l)).num, ((sg l.length (rl l)).den : Int), 0) := by
  have key : ∀ k, k ≤ l.length → ∃ n d, SumIs l k n d ∧ Fr n d (sg k (rl l)) := by
    intro k
    induction k with
    | zero => exact fun _ => ⟨0, 1, rfl, rep_fr rep_zero⟩
    | succ k ih =>
      intro hk
      obtain ⟨n, d, h1, h2⟩ := ih (by omega)
      obtain ⟨⟨p, q, c⟩, ha⟩ : ∃ r, addF n d (fv l k) (fx l k) = r := ⟨_, rfl⟩
      by_cases hc : c = 0
      · subst hc
        exact ⟨p, q, sum_step h1 (by omega) ha, add_ok h2 ha⟩
      · rw [sum_stop h1 (by omega) ha hc] at h
        exact absurd h hc
  obtain ⟨n, d, h1, h2⟩ := key _ (Nat.le_refl _)
  obtain ⟨h3, h4, h5⟩ := fr_rep h2
  refine ⟨h3, ?_⟩
  rw [sum_end h1, h4, h5]
theorem rl_app_lt {a : List (Int × Int)} {x : Int × Int} {j : Nat} (h : j < a.length) : rl (a ++ [x]) j = rl a j := by
  obtain ⟨p, q⟩ := x
  unfold rl
  rw [(fv_lt h).1, (fv_lt h).2]
theorem rl_app_eq {a : List (Int × Int)} {p q : Int} : rl (a ++ [(p, q)]) a.length = Rat.divInt p q := by
  unfold rl
  rw [fv_eq.1, fv_eq.2]
theorem paid_sum (l : List Cut) (v : List (Int × Int)) (o : Nat) : ∀ k, sg (paidK l v o k).length (rl (paidK l v o k)) = sg k (fun j => if inF l o j then rl v j else 0)
  | 0 => rfl
  | k + 1 => by
    have ih := paid_sum l v o k
    show _ = sg k (fun j => if inF l o j then rl v j else 0) + (if inF l o k then rl v k else 0)
    cases h : inF l o k
    · rw [paidK_no h, ih, if_neg (by decide)]
      grind
    · rw [paidK_yes h, List.length_append]
      show sg ((paidK l v o k).length + 1) _ = _
      show sg (paidK l v o k).length _ + _ = _
      rw [rl_app_eq, sg_congr _ fun j hj => rl_app_lt hj, ih, if_pos rfl]
      rfl
section
variable {costs : List Int} {l : List Cut} {v : List (Int × Int)} {T : TB}
theorem cost_rep (g : Good38 costs l) {o : Nat} (h : o < costs.length) : Rep (Rat.divInt (nth costs o) 1) ∧ (Rat.divInt (nth costs o) 1).num = nth costs o ∧ ((Rat.divInt (nth costs o) 1).den : Int) = 1 := by
  have hc := g.cost o h
  have e : nth costs o = ((nth costs o).toNat : Int) := by omega
  have e2 : Rat.divInt (nth costs o) 1 = (((nth costs o).toNat : Nat) : Rat) := by
    have := num_divInt (((nth costs o).toNat : Nat) : Rat)
    rw [Rat.num_natCast, Rat.den_natCast] at this
    rw [e]
    exact this
  rw [e2, Rat.num_natCast, Rat.den_natCast]
  refine ⟨?_, e.symm, rfl⟩
  unfold Rep aI
  rw [Rat.num_natCast, Rat.den_natCast]
  omega
theorem vld_parts (hv : vldB costs l v = true) : chk38 costs l = 0 ∧ v.length = l.length ∧ (∀ j, j < v.length → prB (fv v j) (fx v j) = true ∧ 0 ≤ rl v j) ∧ ∀ o, o < costs.length → (sg l.length fun j => if inF l o j then rl v j else 0) ≤ Rat.divInt (nth costs o) 1 := by
  unfold vldB at hv
  simp only [Bool.and_eq_true, decide_eq_true_eq, Bool.not_eq_true', anyB_false] at hv
  obtain ⟨⟨h0, h1⟩, h2, h3⟩ := hv
  have g := good38 h0
  refine ⟨h0, h1, fun j hj => ?_, fun o ho => ?_⟩
  · have := h2 j hj
    unfold badF at this
    simp only [Bool.or_eq_false_iff, Bool.not_eq_false', decide_eq_false_iff_not] at this
    refine ⟨this.1, ?_⟩
    have e := (rl_num this.1).1
    exact Rat.num_nonneg.1 (by rw [e]; omega)
  · have := h3 o ho
    unfold overO at this
    simp only [Bool.or_eq_false_iff, decide_eq_false_iff_not, Decidable.not_not] at this
    obtain ⟨hr, hs⟩ := sum_rat this.1
    obtain ⟨c1, c2, c3⟩ := cost_rep g ho
    have h4 := this.2
    rw [hs, paid_sum] at h4
    rw [paid_sum] at hr
    dsimp only at h4
    have h5 := cmp_rat hr c1
    rw [c2, c3] at h5
    rw [h5] at h4
    split at h4
    · rename_i h6; grind
    · split at h4
      · exact absurd (show (0 : Int) < 1 by decide) h4
      · rename_i h6 h7; grind
theorem vld_pf (hv : vldB costs l v = true) : PF l.length (keptL costs l).length (fr37 (opR l (keptL costs l))) (rl (opB costs (keptL costs l))) (rl v) := by
  obtain ⟨h0, h1, h2, h3⟩ := vld_parts hv
  refine ⟨fun j hj => (h2 j (by omega)).2, fun i hi => ?_⟩
  have e : obj l.length (fr37 (opR l (keptL costs l)) i) (rl v) = sg l.length fun j => if inF l (opA (keptL costs l) i) j then rl v j else 0 := sg_congr _ fun j hj => by
    unfold fr37
    rw [opR_at hi]
    unfold rl
    rw [(lnL_at hj).1, (lnL_at hj).2]
    cases inF l (opA (keptL costs l) i) j
    · rw [if_neg (by decide), if_neg (by decide)]
      show Rat.divInt 0 1 * _ = 0
      rw [show Rat.divInt 0 1 = 0 from rfl, Rat.zero_mul]
    · rw [if_pos rfl, if_pos rfl]
      rw [show Rat.divInt 1 1 = 1 from rfl, Rat.one_mul]
  rw [e]
  have h4 := h3 _ (kept_lt hi)
  have e2 : rl (opB costs (keptL costs l)) i = Rat.divInt (nth costs (opA (keptL costs l) i)) 1 := by unfold rl; rw [(opB_at hi).1, (opB_at hi).2]
  rw [e2]
  exact h4
theorem onL_obj (n : Nat) (x : Nat → Rat) : obj n (rl (onL n)) x = sg n x := sg_congr n fun j hj => by rw [onL_rl hj, Rat.one_mul]
theorem opt_sol (g : Good38 costs l) (hn : costs.length ≤ 24) (hf : Fin (keptL costs l).length (l.length + (keptL costs l).length) (T37 (onL l.length) (opR l (keptL costs l)) (opB costs (keptL costs l))) (.ok T)) : SolIs l.length (keptL costs l).length (fr37 (opR l (keptL costs l))) (rl (opB costs (keptL costs l))) (rl (onL l.length)) T := by
  have h := fin_sol (opt_chk g hn) (T := T) (by rw [onL_len, opR_len]; exact hf)
  rw [onL_len, opR_len] at h
  exact h
theorem best_le (g : Good38 costs l) (hn : costs.length ≤ 24) (hf : Fin (keptL costs l).length (l.length + (keptL costs l).length) (T37 (onL l.length) (opR l (keptL costs l)) (opB costs (keptL costs l))) (.ok T)) (hv : vldB costs l v = true) (h0 : (sumF v).2.2 = 0) : cmpF (sumF v).1 (sumF v).2.1 T.z.num T.z.den ≤ 0 := by
  obtain ⟨hr, hs⟩ := sum_rat h0
  have hS := opt_sol g hn hf
  have hw := weak (vld_pf hv) hS.df
  rw [hS.by', onL_obj] at hw
  rw [hs]
  dsimp only
  rw [(vld_parts hv).2.1] at hr ⊢
  rw [cmp_rat hr hS.sml.z]
  split
  · decide
  · split
    · rename_i h3 h4; grind
    · decide
theorem top_eq (g : Good38 costs l) (hn : costs.length ≤ 24) (hf : Fin (keptL costs l).length (l.length + (keptL costs l).length) (T37 (onL l.length) (opR l (keptL costs l)) (opB costs (keptL costs l))) (.ok T)) (h0 : (sumF (frq (xB (keptL costs l).length T) l.length)).2.2 = 0) : sumF (frq (xB (keptL costs l).length T) l.length) = (T.z.num, (T.z.den : Int), 0) := by
  obtain ⟨hr, hs⟩ := sum_rat h0
  have hS := opt_sol g hn hf
  have e : sg (frq (xB (keptL costs l).length T) l.length).length (rl (frq (xB (keptL costs l).length T) l.length)) = T.z := by
    rw [frq_len, ← hS.cx, onL_obj]
    refine sg_congr _ fun j hj => ?_
    unfold rl
    rw [(frq_at hj).1, (frq_at hj).2]
    exact num_divInt _
  rw [e] at hs
  exact hs
end

end Go.Proofs.Ytaomaopbdilmnaa
