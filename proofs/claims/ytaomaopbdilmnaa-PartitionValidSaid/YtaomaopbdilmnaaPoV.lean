/- partition: the three partitions are valid, as rational numbers: plain. -/
import Derived.Test.YtaomaopbdilmnaaPoP
namespace Go.Proofs.Ytaomaopbdilmnaa
set_option linter.unusedSimpArgs false
set_option linter.unusedVariables false
open Go Go.RowKit
set_option linter.unusedVariables false

/-- Valid, as rational numbers. -/
structure VldQ (costs : List Int) (l : List Cut) (v : List (Int × Int)) : Prop where
  len : v.length = l.length
  pr : ∀ j, j < v.length → prB (fv v j) (fx v j) = true ∧ 0 ≤ fv v j
  le : ∀ o, o < costs.length → (sg l.length fun j => if inF l o j then rl v j else 0) ≤ Rat.divInt (nth costs o) 1
section
variable {costs : List Int} {l : List Cut} {v : List (Int × Int)} {T : TB} {o : Nat}
theorem opsK_has : ∀ k o, o < k → anyIn l o = true → ∃ t, t < (opsK l k).length ∧ opA (opsK l k) t = o
  | 0, o, h, _ => absurd h (by omega)
  | k + 1, o, h, ha => by
    cases hk : anyIn l k
    · have hne : o ≠ k := fun e => by rw [e, hk] at ha; cases ha
      rw [opsK_no hk]
      exact opsK_has k o (by omega) ha
    · rw [opsK_yes hk]
      by_cases e : o = k
      · subst e
        exact ⟨(opsK l o).length, by rw [List.length_append]; exact Nat.lt_succ_self _, opA_eq⟩
      · obtain ⟨t, h1, h2⟩ := opsK_has k o (by omega) ha
        exact ⟨t, by rw [List.length_append]; exact Nat.lt_succ_of_lt h1, by rw [opA_lt h1]; exact h2⟩
theorem kpK_has (ol : List Nat) : ∀ k t, t < k → btR costs l ol t = false → ∃ i, i < (kpK costs l ol k).length ∧ opA (kpK costs l ol k) i = opA ol t
  | 0, t, h, _ => absurd h (by omega)
  | k + 1, t, h, ht => by
    cases hk : btR costs l ol k
    · rw [kpK_yes hk]
      by_cases e : t = k
      · subst e
        exact ⟨(kpK costs l ol t).length, by rw [List.length_append]; exact Nat.lt_succ_self _, opA_eq⟩
      · obtain ⟨i, h1, h2⟩ := kpK_has ol k t (by omega) ht
        exact ⟨i, by rw [List.length_append]; exact Nat.lt_succ_of_lt h1, by rw [opA_lt h1]; exact h2⟩
    · have hne : t ≠ k := fun e => by rw [e, hk] at ht; cases ht
      rw [kpK_no hk]
      exact kpK_has ol k t (by omega) ht
theorem best_row (g : Good38 costs l) (ol : List Nat) (hol : ∀ t, t < ol.length → opA ol t < costs.length) : ∀ (N t : Nat), t < ol.length → (nth costs (opA ol t)).toNat * (ol.length + 1) + t < N → ∃ s, s < ol.length ∧ btR costs l ol s = false ∧ (∀ j, j < l.length → inF l (opA ol s) j = inF l (opA ol t) j) ∧ nth costs (opA ol s) ≤ nth costs (opA ol t)
  | 0, t, _, h => absurd h (by omega)
  | N + 1, t, ht, hN => by
    cases hb : btR costs l ol t
    · exact ⟨t, ht, hb, fun _ _ => rfl, Int.le_refl _⟩
    · obtain ⟨j, hj, hw⟩ := anyB_true.1 hb
      unfold bwR at hw
      simp only [Bool.and_eq_true, Bool.or_eq_true, decide_eq_true_eq, Bool.not_eq_true'] at hw
      obtain ⟨⟨_, hs⟩, hc⟩ := hw
      have hsame : ∀ i, i < l.length → inF l (opA ol j) i = inF l (opA ol t) i := fun i hi => by
        have := anyB_false.1 hs i hi
        unfold neB at this
        simp at this
        exact this.symm
      have c1 := (g.cost _ (hol t ht)).1
      have c2 := (g.cost _ (hol j hj)).1
      have hlt : (nth costs (opA ol j)).toNat * (ol.length + 1) + j < (nth costs (opA ol t)).toNat * (ol.length + 1) + t := by
        rcases hc with hc | ⟨hc, hjt⟩
        · have h1 : (nth costs (opA ol j)).toNat + 1 ≤ (nth costs (opA ol t)).toNat := by omega
          have h2 := Nat.mul_le_mul_right (ol.length + 1) h1
          rw [Nat.add_mul] at h2
          omega
        · rw [hc]; omega
      obtain ⟨s, h1, h2, h3, h4⟩ := best_row g ol hol N j hj (by omega)
      exact ⟨s, h1, h2, fun i hi => (h3 i hi).trans (hsame i hi), by rcases hc with hc | ⟨hc, _⟩ <;> omega⟩
theorem dom (g : Good38 costs l) (ho : o < costs.length) (ha : anyIn l o = true) : ∃ i, i < (keptL costs l).length ∧ (∀ j, j < l.length → inF l (opA (keptL costs l) i) j = inF l o j) ∧ nth costs (opA (keptL costs l) i) ≤ nth costs o := by
  obtain ⟨t, h1, h2⟩ := opsK_has costs.length o ho ha
  obtain ⟨s, h3, h4, h5, h6⟩ := best_row g (opsK l costs.length) (fun t ht => (opsK_mem _ t ht).1) _ t h1 (Nat.lt_succ_self _)
  obtain ⟨i, h7, h8⟩ := kpK_has (costs := costs) (l := l) (opsK l costs.length) (opsK l costs.length).length s h3 h4
  rw [h2] at h5 h6
  exact ⟨i, h7, fun j hj => by show inF l (opA (kpK _ _ _ _) i) j = _; rw [h8]; exact h5 j hj, by show nth costs (opA (kpK _ _ _ _) i : Nat) ≤ _; rw [h8]; exact h6⟩
theorem row_sum {i : Nat} (hi : i < (keptL costs l).length) (x : Nat → Rat) : obj l.length (fr37 (opR l (keptL costs l)) i) x = sg l.length fun j => if inF l (opA (keptL costs l) i) j then x j else 0 := sg_congr _ fun j hj => by
  unfold fr37
  rw [opR_at hi]
  unfold rl
  rw [(lnL_at hj).1, (lnL_at hj).2]
  cases inF l (opA (keptL costs l) i) j
  · rw [if_neg (by decide), if_neg (by decide)]
    show Rat.divInt 0 1 * _ = 0
    rw [show Rat.divInt 0 1 = 0 from rfl, Rat.zero_mul]
  · rw [if_pos rfl, if_pos rfl]
    rw [show Rat.divInt 1 1 = 1 from rfl, Rat.one_mul]
theorem int_rat (x : Int) : Rat.divInt x 1 = (x : Rat) := by
  have := num_divInt (x : Rat)
  rwa [Rat.num_intCast, Rat.den_intCast] at this
theorem int_le {x y : Int} (h : x ≤ y) : Rat.divInt x 1 ≤ Rat.divInt y 1 := by
  rw [int_rat, int_rat]
  exact Rat.intCast_le_intCast.2 h
theorem cost_nn (g : Good38 costs l) (ho : o < costs.length) : 0 ≤ Rat.divInt (nth costs o) 1 := by
  have := int_le (g.cost o ho).1
  rwa [show Rat.divInt 0 1 = 0 from rfl] at this
theorem none_sum (ha : anyIn l o = false) (x : Nat → Rat) : (sg l.length fun j => if inF l o j then x j else 0) = 0 := sg_zero' fun j hj => if_neg (by rw [anyB_false.1 ha j hj]; decide)
theorem opB_rl {i : Nat} (hi : i < (keptL costs l).length) : rl (opB costs (keptL costs l)) i = Rat.divInt (nth costs (opA (keptL costs l) i)) 1 := by unfold rl; rw [(opB_at hi).1, (opB_at hi).2]
theorem vq_opt (g : Good38 costs l) (hn : costs.length ≤ 24) (hf : Fin (keptL costs l).length (l.length + (keptL costs l).length) (T37 (onL l.length) (opR l (keptL costs l)) (opB costs (keptL costs l))) (.ok T)) : VldQ costs l (frq (xB (keptL costs l).length T) l.length) := by
  have hS := opt_sol g hn hf
  have er : ∀ j, j < l.length → rl (frq (xB (keptL costs l).length T) l.length) j = xB (keptL costs l).length T j := fun j hj => by
    unfold rl
    rw [(frq_at hj).1, (frq_at hj).2]
    exact num_divInt _
  refine ⟨frq_len _ _, fun j hj => ?_, fun o ho => ?_⟩
  · rw [frq_len] at hj
    rw [(frq_at hj).1, (frq_at hj).2]
    exact ⟨rep_pr (hS.xr j), Rat.num_nonneg.2 (hS.pf.1 j hj)⟩
  · have e1 : (sg l.length fun j => if inF l o j then rl (frq (xB (keptL costs l).length T) l.length) j else 0) = sg l.length fun j => if inF l o j then xB (keptL costs l).length T j else 0 := sg_congr _ fun j hj => by rw [er j hj]
    rw [e1]
    cases ha : anyIn l o
    · rw [none_sum ha]
      exact cost_nn g ho
    · obtain ⟨i, hi, hsame, hc⟩ := dom g ho ha
      have h1 := hS.pf.2 i hi
      rw [row_sum hi, opB_rl hi] at h1
      have e2 : (sg l.length fun j => if inF l (opA (keptL costs l) i) j then xB (keptL costs l).length T j else 0) = sg l.length fun j => if inF l o j then xB (keptL costs l).length T j else 0 := sg_congr _ fun j hj => by rw [hsame j hj]
      rw [e2] at h1
      have h2 := int_le hc
      grind
theorem sg_some {d : Nat → Rat} {n : Nat} (hd : ∀ j, j < n → 0 ≤ d j) (h : 0 < sg n d) : ∃ k, k < n ∧ 0 < d k := by
  refine Classical.byContradiction fun hc => ?_
  have h0 : sg n d = 0 := sg_zero' fun j hj => by
    have h1 := hd j hj
    by_cases h2 : 0 < d j
    · exact absurd ⟨j, hj, h2⟩ hc
    · grind
  rw [h0] at h
  exact absurd h (by decide)
theorem opt_bnd (g : Good38 costs l) : ¬ Unb l.length (keptL costs l).length (fr37 (opR l (keptL costs l))) (rl (opB costs (keptL costs l))) (rl (onL l.length)) := fun hu => by
  obtain ⟨d, hd⟩ := unb_ray hu
  have hp := hd.pos
  rw [onL_obj] at hp
  obtain ⟨k, hk, hdk⟩ := sg_some hd.nn hp
  have g1 := g.some k hk
  have g2 := g.op k hk 0 g1
  obtain ⟨o, ho⟩ : ∃ o : Nat, nth (cut l k).ops 0 = (o : Int) := ⟨(nth (cut l k).ops 0).toNat, by omega⟩
  have hin : inF l o k = true := anyB_true.2 ⟨0, g1, by rw [ho]; simp⟩
  obtain ⟨i, hi, hsame, _⟩ := dom g (show o < costs.length by omega) (anyB_true.2 ⟨k, hk, hin⟩)
  have h1 := hd.le i hi
  rw [row_sum hi] at h1
  have h2 := sg_ge_one (f := fun j => if inF l (opA (keptL costs l) i) j then d j else 0) (n := l.length) (k := k) (fun j hj => by
    have := hd.nn j hj
    split
    · exact this
    · exact Rat.le_refl) hk
  rw [hsame k hk, hin, if_pos rfl] at h2
  grind
theorem opt_five (g : Good38 costs l) (hn : costs.length ≤ 24) {cd : Int} (hf : Fin (keptL costs l).length (l.length + (keptL costs l).length) (T37 (onL l.length) (opR l (keptL costs l)) (opB costs (keptL costs l))) (.err cd)) : cd = 5 := by
  rcases fin_cases hf with ⟨T, h⟩ | h | h
  · cases h
  · injection h with h
    subst h
    have hf' : Fin (keptL costs l).length (l.length + (keptL costs l).length) (tb0 l.length (fr37 (opR l (keptL costs l))) (rl (opB costs (keptL costs l))) (rl (onL l.length))) (.err 3) := by
      have : T37 (onL l.length) (opR l (keptL costs l)) (opB costs (keptL costs l)) = tb0 l.length (fr37 (opR l (keptL costs l))) (rl (opB costs (keptL costs l))) (rl (onL l.length)) := by unfold T37; rw [onL_len]; rfl
      rw [← this]; exact hf
    exact absurd (fin_unb (fun i hi => by rw [opB_rl hi]; exact cost_nn g (kept_lt hi)) hf') (opt_bnd g)
  · injection h
/-- The greedy partition. -/
theorem gre_sum : ∀ k, ∀ o, (sg k fun j => if inF l o j then Rat.divInt (minK costs l j) 1 else 0) = Rat.divInt (nth costs o) 1 - Rat.divInt (lefK costs l k o) 1
  | 0, o => by
    show (0 : Rat) = _ - Rat.divInt (nth costs o) 1
    grind
  | k + 1, o => by
    have ih := gre_sum k o
    show (sg k fun j => if inF l o j then Rat.divInt (minK costs l j) 1 else 0) + (if inF l o k then Rat.divInt (minK costs l k) 1 else 0) = _
    rw [ih]
    have e : lefK costs l (k + 1) o = if inF l o k then lefK costs l k o - minK costs l k else lefK costs l k o := rfl
    rw [e]
    cases inF l o k
    · rw [if_neg (by decide), if_neg (by decide)]; grind
    · rw [if_pos rfl, if_pos rfl, int_rat (lefK costs l k o - _), Rat.intCast_sub, ← int_rat, ← int_rat]
      grind
theorem minK_bd (g : Good38 costs l) {k : Nat} (hk : k < l.length) : 0 ≤ minK costs l k ∧ minK costs l k ≤ 1048576 := by
  refine ⟨minO_ge fun j hj => ?_, minO_le _ _ _⟩
  have g1 := g.op k hk j hj
  exact (lefK_bd g k (by omega) _ (by omega)).1
theorem greL_at {k j : Nat} (h : j < k) : fv (greL costs l k) j = minK costs l j ∧ fx (greL costs l k) j = 1 := by unfold greL fv fx; simp [List.getD, h]
theorem vq_gre (g : Good38 costs l) : VldQ costs l (greL costs l l.length) := by
  refine ⟨greL_len _ _ _, fun j hj => ?_, fun o ho => ?_⟩
  · rw [greL_len] at hj
    rw [(greL_at hj).1, (greL_at hj).2]
    obtain ⟨h1, h2⟩ := minK_bd g hj
    refine ⟨?_, h1⟩
    have hr : Rep ((minK costs l j : Int) : Rat) := by
      unfold Rep aI
      rw [Rat.num_intCast, Rat.den_intCast]
      omega
    have := rep_pr hr
    rwa [Rat.num_intCast, Rat.den_intCast] at this
  · have e1 : (sg l.length fun j => if inF l o j then rl (greL costs l l.length) j else 0) = sg l.length fun j => if inF l o j then Rat.divInt (minK costs l j) 1 else 0 := sg_congr _ fun j hj => by unfold rl; rw [(greL_at hj).1, (greL_at hj).2]
    rw [e1, gre_sum]
    have h1 := int_le (lefK_bd g l.length (Nat.le_refl _) o ho).1
    rw [show Rat.divInt 0 1 = 0 from rfl] at h1
    grind
end

end Go.Proofs.Ytaomaopbdilmnaa
