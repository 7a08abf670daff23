/- Texts laid together: PoP, PoV, PoW, AdP, AdV. -/
import Derived.Test.YtaampjhdgeoicaaGreatPoC
import Derived.Test.YtaampjhdgeoicaaGreatMvE
import Derived.Test.YtaampjhdgeoicaaGreatMtD
import Derived.Test.YtaampjhdgeoicaaGreatPartH
namespace Go.Proofs.YtaampjhdgeoicaaGreat
set_option linter.unusedSimpArgs false
set_option linter.unusedVariables false
section
open Go Go.RowKit
set_option linter.unusedVariables false

theorem add_ok {n d m e p q : Int} {r : Rat} (h : Fr n d r) (ha : addF n d m e = (p, q, 0)) : Fr p q (r + Rat.divInt m e) := by
 by_cases hp : prB m e = true
 ·have h1 := Fr.add h (⟨hp, rfl⟩ : Fr m e (Rat.divInt m e))
  rw [h1] at ha
  by_cases hr : Rep (r + Rat.divInt m e)
  ·rw [rep_toF hr] at ha
   injection ha with e1 e2
   injection e2 with e2 _
   rw [← e1, ← e2]
   exact rep_fr hr
  ·rw [not_rep hr] at ha
   injection ha with _ e2
   injection e2 with _ e2
   exact absurd e2 (by decide)
 ·unfold addF at ha
  rw [if_neg (by simp [hp])] at ha
  injection ha with _ e2
  injection e2 with _ e2
  exact absurd e2 (by decide)
theorem sum_rat {l : List (Int × Int)} (h : (sumF l).2.2 = 0) : Rep (sg l.length (rl l)) ∧ sumF l = ((sg l.length (rl l)).num, ((sg l.length (rl l)).den : Int), 0) := by
 have key : ∀ k, k ≤ l.length → ∃ n d, SumIs l k n d ∧ Fr n d (sg k (rl l)) := by
  intro k
  induction k with
  | zero => exact fun _ => ⟨0, 1, rfl, rep_fr rep_zero⟩
  | succ k ih =>
   intro hk
   obtain ⟨n, d, h1, h2⟩ := ih (by omega)
   obtain ⟨⟨p, q, c⟩, ha⟩ : ∃ r, addF n d (fv l k) (fx l k) = r := ⟨_, rfl⟩
   by_cases hc : c = 0
   ·subst hc
    exact ⟨p, q, sum_step h1 (by omega) ha, add_ok h2 ha⟩
   ·rw [sum_stop h1 (by omega) ha hc] at h
    exact absurd h hc
 obtain ⟨n, d, h1, h2⟩ := key _ (Nat.le_refl _)
 obtain ⟨h3, h4, h5⟩ := fr_rep h2
 refine ⟨h3, ?_⟩
 rw [sum_end h1, h4, h5]
theorem rl_app_lt {a : List (Int × Int)} {x : Int × Int} {j : Nat} (h : j < a.length) : rl (a ++ [x]) j = rl a j := by
 obtain ⟨p, q⟩ := x
 unfold rl
 rw [(fv_lt h).1, (fv_lt h).2]
theorem rl_app_eq {a : List (Int × Int)} {p q : Int} : rl (a ++ [(p, q)]) a.length = Rat.divInt p q := by
 unfold rl
 rw [fv_eq.1, fv_eq.2]
theorem paid_sum (l : List Cut) (v : List (Int × Int)) (o : Nat) : ∀ k, sg (paidK l v o k).length (rl (paidK l v o k)) = sg k (fun j => if inF l o j then rl v j else 0)
 | 0 => rfl
 | k + 1 => by
  have ih := paid_sum l v o k
  show _ = sg k (fun j => if inF l o j then rl v j else 0) + (if inF l o k then rl v k else 0)
  cases h : inF l o k
  ·rw [paidK_no h, ih, if_neg (by decide)]
   grind
  ·rw [paidK_yes h, List.length_append]
   show sg ((paidK l v o k).length + 1) _ = _
   show sg (paidK l v o k).length _ + _ = _
   rw [rl_app_eq, sg_congr _ fun j hj => rl_app_lt hj, ih, if_pos rfl]
   rfl
section
variable {costs : List Int} {l : List Cut} {v : List (Int × Int)} {T : TB}
theorem cost_rep (g : Good38 costs l) {o : Nat} (h : o < costs.length) : Rep (Rat.divInt (nth costs o) 1) ∧ (Rat.divInt (nth costs o) 1).num = nth costs o ∧ ((Rat.divInt (nth costs o) 1).den : Int) = 1 := by
 have hc := g.cost o h
 have e : nth costs o = ((nth costs o).toNat : Int) := by omega
 have e2 : Rat.divInt (nth costs o) 1 = (((nth costs o).toNat : Nat) : Rat) := by
  have := num_divInt (((nth costs o).toNat : Nat) : Rat)
  rw [Rat.num_natCast, Rat.den_natCast] at this
  rw [e]
  exact this
 rw [e2, Rat.num_natCast, Rat.den_natCast]
 refine ⟨?_, e.symm, rfl⟩
 unfold Rep aI
 rw [Rat.num_natCast, Rat.den_natCast]
 omega
theorem vld_parts (hv : vldB costs l v = true) : chk38 costs l = 0 ∧ v.length = l.length ∧ (∀ j, j < v.length → prB (fv v j) (fx v j) = true ∧ 0 ≤ rl v j) ∧ ∀ o, o < costs.length → (sg l.length fun j => if inF l o j then rl v j else 0) ≤ Rat.divInt (nth costs o) 1 := by
 unfold vldB at hv
 simp only [Bool.and_eq_true, decide_eq_true_eq, Bool.not_eq_true', anyB_false] at hv
 obtain ⟨⟨h0, h1⟩, h2, h3⟩ := hv
 have g := good38 h0
 refine ⟨h0, h1, fun j hj => ?_, fun o ho => ?_⟩
 ·have := h2 j hj
  unfold badF at this
  simp only [Bool.or_eq_false_iff, Bool.not_eq_false', decide_eq_false_iff_not] at this
  refine ⟨this.1, ?_⟩
  have e := (rl_num this.1).1
  exact Rat.num_nonneg.1 (by rw [e]; omega)
 ·have := h3 o ho
  unfold overO at this
  simp only [Bool.or_eq_false_iff, decide_eq_false_iff_not, Decidable.not_not] at this
  obtain ⟨hr, hs⟩ := sum_rat this.1
  obtain ⟨c1, c2, c3⟩ := cost_rep g ho
  have h4 := this.2
  rw [hs, paid_sum] at h4
  rw [paid_sum] at hr
  dsimp only at h4
  have h5 := cmp_rat hr c1
  rw [c2, c3] at h5
  rw [h5] at h4
  split at h4
  ·rename_i h6; grind
  ·split at h4
   ·exact absurd (show (0 : Int) < 1 by decide) h4
   ·rename_i h6 h7; grind
theorem onL_obj (n : Nat) (x : Nat → Rat) : obj n (rl (onL n)) x = sg n x := sg_congr n fun j hj => by rw [onL_rl hj, Rat.one_mul]
theorem opt_sol (g : Good38 costs l) (hn : costs.length ≤ 24) (hf : Fin (keptL costs l).length (l.length + (keptL costs l).length) (T37 (onL l.length) (opR l (keptL costs l)) (opB costs (keptL costs l))) (.ok T)) : SolIs l.length (keptL costs l).length (fr37 (opR l (keptL costs l))) (rl (opB costs (keptL costs l))) (rl (onL l.length)) T := by
 have h := fin_sol (opt_chk g hn) (T := T) (by rw [onL_len, opR_len]; exact hf)
 rw [onL_len, opR_len] at h
 exact h
end
end

section
open Go Go.RowKit
set_option linter.unusedVariables false

/-- Valid, as rational numbers. -/
structure VldQ (costs : List Int) (l : List Cut) (v : List (Int × Int)) : Prop where
 len : v.length = l.length
 pr : ∀ j, j < v.length → prB (fv v j) (fx v j) = true ∧ 0 ≤ fv v j
 le : ∀ o, o < costs.length → (sg l.length fun j => if inF l o j then rl v j else 0) ≤ Rat.divInt (nth costs o) 1
section
variable {costs : List Int} {l : List Cut} {v : List (Int × Int)} {T : TB} {o : Nat}
theorem opsK_has : ∀ k o, o < k → anyIn l o = true → ∃ t, t < (opsK l k).length ∧ opA (opsK l k) t = o
 | 0, o, h, _ => absurd h (by omega)
 | k + 1, o, h, ha => by
  cases hk : anyIn l k
  ·have hne : o ≠ k := fun e => by rw [e, hk] at ha; cases ha
   rw [opsK_no hk]
   exact opsK_has k o (by omega) ha
  ·rw [opsK_yes hk]
   by_cases e : o = k
   ·subst e
    exact ⟨(opsK l o).length, by rw [List.length_append]; exact Nat.lt_succ_self _, opA_eq⟩
   ·obtain ⟨t, h1, h2⟩ := opsK_has k o (by omega) ha
    exact ⟨t, by rw [List.length_append]; exact Nat.lt_succ_of_lt h1, by rw [opA_lt h1]; exact h2⟩
theorem kpK_has (ol : List Nat) : ∀ k t, t < k → btR costs l ol t = false → ∃ i, i < (kpK costs l ol k).length ∧ opA (kpK costs l ol k) i = opA ol t
 | 0, t, h, _ => absurd h (by omega)
 | k + 1, t, h, ht => by
  cases hk : btR costs l ol k
  ·rw [kpK_yes hk]
   by_cases e : t = k
   ·subst e
    exact ⟨(kpK costs l ol t).length, by rw [List.length_append]; exact Nat.lt_succ_self _, opA_eq⟩
   ·obtain ⟨i, h1, h2⟩ := kpK_has ol k t (by omega) ht
    exact ⟨i, by rw [List.length_append]; exact Nat.lt_succ_of_lt h1, by rw [opA_lt h1]; exact h2⟩
  ·have hne : t ≠ k := fun e => by rw [e, hk] at ht; cases ht
   rw [kpK_no hk]
   exact kpK_has ol k t (by omega) ht
theorem best_row (g : Good38 costs l) (ol : List Nat) (hol : ∀ t, t < ol.length → opA ol t < costs.length) : ∀ (N t : Nat), t < ol.length → (nth costs (opA ol t)).toNat * (ol.length + 1) + t < N → ∃ s, s < ol.length ∧ btR costs l ol s = false ∧ (∀ j, j < l.length → inF l (opA ol s) j = inF l (opA ol t) j) ∧ nth costs (opA ol s) ≤ nth costs (opA ol t)
 | 0, t, _, h => absurd h (by omega)
 | N + 1, t, ht, hN => by
  cases hb : btR costs l ol t
  ·exact ⟨t, ht, hb, fun _ _ => rfl, Int.le_refl _⟩
  ·obtain ⟨j, hj, hw⟩ := anyB_true.1 hb
   unfold bwR at hw
   simp only [Bool.and_eq_true, Bool.or_eq_true, decide_eq_true_eq, Bool.not_eq_true'] at hw
   obtain ⟨⟨_, hs⟩, hc⟩ := hw
   have hsame : ∀ i, i < l.length → inF l (opA ol j) i = inF l (opA ol t) i := fun i hi => by
    have := anyB_false.1 hs i hi
    unfold neB at this
    simp at this
    exact this.symm
   have c1 := (g.cost _ (hol t ht)).1
   have c2 := (g.cost _ (hol j hj)).1
   have hlt : (nth costs (opA ol j)).toNat * (ol.length + 1) + j < (nth costs (opA ol t)).toNat * (ol.length + 1) + t := by
    rcases hc with hc | ⟨hc, hjt⟩
    ·have h1 : (nth costs (opA ol j)).toNat + 1 ≤ (nth costs (opA ol t)).toNat := by omega
     have h2 := Nat.mul_le_mul_right (ol.length + 1) h1
     rw [Nat.add_mul] at h2
     omega
    ·rw [hc]; omega
   obtain ⟨s, h1, h2, h3, h4⟩ := best_row g ol hol N j hj (by omega)
   exact ⟨s, h1, h2, fun i hi => (h3 i hi).trans (hsame i hi), by rcases hc with hc | ⟨hc, _⟩ <;> omega⟩
theorem dom (g : Good38 costs l) (ho : o < costs.length) (ha : anyIn l o = true) : ∃ i, i < (keptL costs l).length ∧ (∀ j, j < l.length → inF l (opA (keptL costs l) i) j = inF l o j) ∧ nth costs (opA (keptL costs l) i) ≤ nth costs o := by
 obtain ⟨t, h1, h2⟩ := opsK_has costs.length o ho ha
 obtain ⟨s, h3, h4, h5, h6⟩ := best_row g (opsK l costs.length) (fun t ht => (opsK_mem _ t ht).1) _ t h1 (Nat.lt_succ_self _)
 obtain ⟨i, h7, h8⟩ := kpK_has (costs := costs) (l := l) (opsK l costs.length) (opsK l costs.length).length s h3 h4
 rw [h2] at h5 h6
 exact ⟨i, h7, fun j hj => by show inF l (opA (kpK _ _ _ _) i) j = _; rw [h8]; exact h5 j hj, by show nth costs (opA (kpK _ _ _ _) i : Nat) ≤ _; rw [h8]; exact h6⟩
theorem row_sum {i : Nat} (hi : i < (keptL costs l).length) (x : Nat → Rat) : obj l.length (fr37 (opR l (keptL costs l)) i) x = sg l.length fun j => if inF l (opA (keptL costs l) i) j then x j else 0 := sg_congr _ fun j hj => by
 unfold fr37
 rw [opR_at hi]
 unfold rl
 rw [(lnL_at hj).1, (lnL_at hj).2]
 cases inF l (opA (keptL costs l) i) j
 ·rw [if_neg (by decide), if_neg (by decide)]
  show Rat.divInt 0 1 * _ = 0
  rw [show Rat.divInt 0 1 = 0 from rfl, Rat.zero_mul]
 ·rw [if_pos rfl, if_pos rfl]
  rw [show Rat.divInt 1 1 = 1 from rfl, Rat.one_mul]
theorem int_rat (x : Int) : Rat.divInt x 1 = (x : Rat) := by
 have := num_divInt (x : Rat)
 rwa [Rat.num_intCast, Rat.den_intCast] at this
theorem int_le {x y : Int} (h : x ≤ y) : Rat.divInt x 1 ≤ Rat.divInt y 1 := by
 rw [int_rat, int_rat]
 exact Rat.intCast_le_intCast.2 h
theorem cost_nn (g : Good38 costs l) (ho : o < costs.length) : 0 ≤ Rat.divInt (nth costs o) 1 := by
 have := int_le (g.cost o ho).1
 rwa [show Rat.divInt 0 1 = 0 from rfl] at this
theorem none_sum (ha : anyIn l o = false) (x : Nat → Rat) : (sg l.length fun j => if inF l o j then x j else 0) = 0 := sg_zero' fun j hj => if_neg (by rw [anyB_false.1 ha j hj]; decide)
theorem opB_rl {i : Nat} (hi : i < (keptL costs l).length) : rl (opB costs (keptL costs l)) i = Rat.divInt (nth costs (opA (keptL costs l) i)) 1 := by unfold rl; rw [(opB_at hi).1, (opB_at hi).2]
theorem vq_opt (g : Good38 costs l) (hn : costs.length ≤ 24) (hf : Fin (keptL costs l).length (l.length + (keptL costs l).length) (T37 (onL l.length) (opR l (keptL costs l)) (opB costs (keptL costs l))) (.ok T)) : VldQ costs l (frq (xB (keptL costs l).length T) l.length) := by
 have hS := opt_sol g hn hf
 have er : ∀ j, j < l.length → rl (frq (xB (keptL costs l).length T) l.length) j = xB (keptL costs l).length T j := fun j hj => by
  unfold rl
  rw [(frq_at hj).1, (frq_at hj).2]
  exact num_divInt _
 refine ⟨frq_len _ _, fun j hj => ?_, fun o ho => ?_⟩
 ·rw [frq_len] at hj
  rw [(frq_at hj).1, (frq_at hj).2]
  exact ⟨rep_pr (hS.xr j), Rat.num_nonneg.2 (hS.pf.1 j hj)⟩
 ·have e1 : (sg l.length fun j => if inF l o j then rl (frq (xB (keptL costs l).length T) l.length) j else 0) = sg l.length fun j => if inF l o j then xB (keptL costs l).length T j else 0 := sg_congr _ fun j hj => by rw [er j hj]
  rw [e1]
  cases ha : anyIn l o
  ·rw [none_sum ha]
   exact cost_nn g ho
  ·obtain ⟨i, hi, hsame, hc⟩ := dom g ho ha
   have h1 := hS.pf.2 i hi
   rw [row_sum hi, opB_rl hi] at h1
   have e2 : (sg l.length fun j => if inF l (opA (keptL costs l) i) j then xB (keptL costs l).length T j else 0) = sg l.length fun j => if inF l o j then xB (keptL costs l).length T j else 0 := sg_congr _ fun j hj => by rw [hsame j hj]
   rw [e2] at h1
   have h2 := int_le hc
   grind
theorem sg_some {d : Nat → Rat} {n : Nat} (hd : ∀ j, j < n → 0 ≤ d j) (h : 0 < sg n d) : ∃ k, k < n ∧ 0 < d k := by
 refine Classical.byContradiction fun hc => ?_
 have h0 : sg n d = 0 := sg_zero' fun j hj => by
  have h1 := hd j hj
  by_cases h2 : 0 < d j
  ·exact absurd ⟨j, hj, h2⟩ hc
  ·grind
 rw [h0] at h
 exact absurd h (by decide)
theorem opt_bnd (g : Good38 costs l) : ¬ Unb l.length (keptL costs l).length (fr37 (opR l (keptL costs l))) (rl (opB costs (keptL costs l))) (rl (onL l.length)) := fun hu => by
 obtain ⟨d, hd⟩ := unb_ray hu
 have hp := hd.pos
 rw [onL_obj] at hp
 obtain ⟨k, hk, hdk⟩ := sg_some hd.nn hp
 have g1 := g.some k hk
 have g2 := g.op k hk 0 g1
 obtain ⟨o, ho⟩ : ∃ o : Nat, nth (cut l k).ops 0 = (o : Int) := ⟨(nth (cut l k).ops 0).toNat, by omega⟩
 have hin : inF l o k = true := anyB_true.2 ⟨0, g1, by rw [ho]; simp⟩
 obtain ⟨i, hi, hsame, _⟩ := dom g (show o < costs.length by omega) (anyB_true.2 ⟨k, hk, hin⟩)
 have h1 := hd.le i hi
 rw [row_sum hi] at h1
 have h2 := sg_ge_one (f := fun j => if inF l (opA (keptL costs l) i) j then d j else 0) (n := l.length) (k := k) (fun j hj => by
  have := hd.nn j hj
  split
  ·exact this
  ·exact Rat.le_refl) hk
 rw [hsame k hk, hin, if_pos rfl] at h2
 grind
theorem opt_five (g : Good38 costs l) (hn : costs.length ≤ 24) {cd : Int} (hf : Fin (keptL costs l).length (l.length + (keptL costs l).length) (T37 (onL l.length) (opR l (keptL costs l)) (opB costs (keptL costs l))) (.err cd)) : cd = 5 := by
 rcases fin_cases hf with ⟨T, h⟩ | h | h
 ·cases h
 ·injection h with h
  subst h
  have hf' : Fin (keptL costs l).length (l.length + (keptL costs l).length) (tb0 l.length (fr37 (opR l (keptL costs l))) (rl (opB costs (keptL costs l))) (rl (onL l.length))) (.err 3) := by
   have : T37 (onL l.length) (opR l (keptL costs l)) (opB costs (keptL costs l)) = tb0 l.length (fr37 (opR l (keptL costs l))) (rl (opB costs (keptL costs l))) (rl (onL l.length)) := by unfold T37; rw [onL_len]; rfl
   rw [← this]; exact hf
  exact absurd (fin_unb (fun i hi => by rw [opB_rl hi]; exact cost_nn g (kept_lt hi)) hf') (opt_bnd g)
 ·injection h
/-- The greedy partition. -/
theorem gre_sum : ∀ k, ∀ o, (sg k fun j => if inF l o j then Rat.divInt (minK costs l j) 1 else 0) = Rat.divInt (nth costs o) 1 - Rat.divInt (lefK costs l k o) 1
 | 0, o => by
  show (0 : Rat) = _ - Rat.divInt (nth costs o) 1
  grind
 | k + 1, o => by
  have ih := gre_sum k o
  show (sg k fun j => if inF l o j then Rat.divInt (minK costs l j) 1 else 0) + (if inF l o k then Rat.divInt (minK costs l k) 1 else 0) = _
  rw [ih]
  have e : lefK costs l (k + 1) o = if inF l o k then lefK costs l k o - minK costs l k else lefK costs l k o := rfl
  rw [e]
  cases inF l o k
  ·rw [if_neg (by decide), if_neg (by decide)]; grind
  ·rw [if_pos rfl, if_pos rfl, int_rat (lefK costs l k o - _), Rat.intCast_sub, ← int_rat, ← int_rat]
   grind
theorem minK_bd (g : Good38 costs l) {k : Nat} (hk : k < l.length) : 0 ≤ minK costs l k ∧ minK costs l k ≤ 1048576 := by
 refine ⟨minO_ge fun j hj => ?_, minO_le _ _ _⟩
 have g1 := g.op k hk j hj
 exact (lefK_bd g k (by omega) _ (by omega)).1
theorem greL_at {k j : Nat} (h : j < k) : fv (greL costs l k) j = minK costs l j ∧ fx (greL costs l k) j = 1 := by unfold greL fv fx; simp [List.getD, h]
theorem vq_gre (g : Good38 costs l) : VldQ costs l (greL costs l l.length) := by
 refine ⟨greL_len _ _ _, fun j hj => ?_, fun o ho => ?_⟩
 ·rw [greL_len] at hj
  rw [(greL_at hj).1, (greL_at hj).2]
  obtain ⟨h1, h2⟩ := minK_bd g hj
  refine ⟨?_, h1⟩
  have hr : Rep ((minK costs l j : Int) : Rat) := by
   unfold Rep aI
   rw [Rat.num_intCast, Rat.den_intCast]
   omega
  have := rep_pr hr
  rwa [Rat.num_intCast, Rat.den_intCast] at this
 ·have e1 : (sg l.length fun j => if inF l o j then rl (greL costs l l.length) j else 0) = sg l.length fun j => if inF l o j then Rat.divInt (minK costs l j) 1 else 0 := sg_congr _ fun j hj => by unfold rl; rw [(greL_at hj).1, (greL_at hj).2]
  rw [e1, gre_sum]
  have h1 := int_le (lefK_bd g l.length (Nat.le_refl _) o ho).1
  rw [show Rat.divInt 0 1 = 0 from rfl] at h1
  grind
end
end

section
open Go Go.RowKit
set_option linter.unusedVariables false

section
variable {costs : List Int} {l : List Cut} {v : List (Int × Int)} {o : Nat}
/-- A share as a number. -/
def shV (costs : List Int) (l : List Cut) (o : Nat) : Rat := Rat.divInt (nth costs o) (cnt l o l.length)
theorem sh_val (g : Good38 costs l) {k i : Nat} (hk : k < l.length) (hi : i < (cut l k).ops.length) (ho : nth (cut l k).ops i = (o : Int)) : ∃ p q, shF costs l (o : Int) = (p, q, 0) ∧ prB p q = true ∧ Rat.divInt p q = shV costs l o ∧ 1 ≤ cnt l o l.length ∧ o < costs.length := by
 have g1 := g.op k hk i hi
 rw [ho] at g1
 have g2 := g.cost o (by omega)
 have c1 : 1 ≤ cnt l (o : Int) l.length := cnt_pos hk (anyB_true.2 ⟨i, hi, by rw [ho]; simp⟩)
 have c2 := cnt_le l (o : Int) l.length
 have c3 := g.many
 obtain ⟨p, q, e1, e2, e3⟩ := newF_small (n := nth costs o) (d := (cnt l (o : Int) l.length : Int)) (by omega) (by omega) (by omega) (by omega)
 exact ⟨p, q, e1, e2, e3, c1, by omega⟩
theorem shV_nn (g : Good38 costs l) (ho : o < costs.length) : 0 ≤ shV costs l o := by
 unfold shV
 rw [Rat.divInt_eq_div]
 have h1 : (0 : Rat) ≤ (nth costs o : Rat) := Rat.intCast_nonneg.2 (g.cost o ho).1
 rw [Rat.div_def]
 refine Rat.mul_nonneg h1 ?_
 have h2 : (0 : Rat) ≤ ((cnt l (o : Int) l.length : Int) : Rat) := Rat.intCast_nonneg.2 (by omega)
 rcases Rat.le_iff_lt_or_eq.1 h2 with h3 | h3
 ·exact Rat.le_of_lt (Rat.inv_pos.2 h3)
 ·rw [← h3, Rat.inv_zero]; exact Rat.le_refl
theorem lea_val (g : Good38 costs l) {k : Nat} (hk : k < l.length) : ∀ i, i ≤ (cut l k).ops.length → prB (leaR costs l (cut l k).ops i).1 (leaR costs l (cut l k).ops i).2 = true ∧ 0 ≤ Rat.divInt (leaR costs l (cut l k).ops i).1 (leaR costs l (cut l k).ops i).2 ∧ ∀ t, t < i → ∀ o : Nat, nth (cut l k).ops t = (o : Int) → Rat.divInt (leaR costs l (cut l k).ops i).1 (leaR costs l (cut l k).ops i).2 ≤ shV costs l o
 | 0, _ => ⟨by show prB 1048576 1 = true; decide +kernel, by show 0 ≤ Rat.divInt 1048576 1; decide +kernel, fun t ht => absurd ht (by omega)⟩
 | i + 1, hi => by
  obtain ⟨h1, h2, h3⟩ := lea_val g hk i (by omega)
  have g1 := g.op k hk i (by omega)
  obtain ⟨o, ho⟩ : ∃ o : Nat, nth (cut l k).ops i = (o : Int) := ⟨(nth (cut l k).ops i).toNat, by omega⟩
  obtain ⟨p, q, e1, e2, e3, e4, e5⟩ := sh_val g hk (by omega) ho
  have hu : leaR costs l (cut l k).ops (i + 1) = if cmpF p q (leaR costs l (cut l k).ops i).1 (leaR costs l (cut l k).ops i).2 < 0 then (p, q) else leaR costs l (cut l k).ops i := by
   conv => lhs; unfold leaR
   rw [ho, e1]
  obtain ⟨⟨a, b⟩, hab⟩ : ∃ r, leaR costs l (cut l k).ops i = r := ⟨_, rfl⟩
  rw [hab] at h1 h2 h3 hu
  dsimp only at h1 h2 h3 hu
  have hr1 := (fr_rep (⟨e2, rfl⟩ : Fr p q (Rat.divInt p q)))
  have hr2 := (fr_rep (⟨h1, rfl⟩ : Fr a b (Rat.divInt a b)))
  have hc := cmp_rat hr1.1 hr2.1
  rw [← hr1.2.1, ← hr1.2.2, ← hr2.2.1, ← hr2.2.2] at hc
  rw [hu, hc]
  by_cases hlt : Rat.divInt p q < Rat.divInt a b
  ·rw [if_pos hlt, if_pos (by decide)]
   refine ⟨e2, by rw [e3]; exact shV_nn g e5, fun t ht o' ho' => ?_⟩
   dsimp only
   by_cases e : t = i
   ·subst e
    have : o' = o := by omega
    subst this
    rw [e3]; exact Rat.le_refl
   ·have := h3 t (by omega) o' ho'
    grind
  ·rw [if_neg hlt]
   have hn : ¬ ((if Rat.divInt a b < Rat.divInt p q then (1 : Int) else 0) < 0) := by split <;> decide
   rw [if_neg hn]
   refine ⟨h1, h2, fun t ht o' ho' => ?_⟩
   by_cases e : t = i
   ·subst e
    have : o' = o := by omega
    subst this
    rw [← e3]
    dsimp only
    grind
   ·exact h3 t (by omega) o' ho'
theorem uniL_at {k j : Nat} (h : j < k) : fv (uniL costs l k) j = (leaR costs l (cut l j).ops (cut l j).ops.length).1 ∧ fx (uniL costs l k) j = (leaR costs l (cut l j).ops (cut l j).ops.length).2 := by unfold uniL fv fx; simp [List.getD, h]
theorem in_at {k : Nat} (h : inF l o k = true) : ∃ t, t < (cut l k).ops.length ∧ nth (cut l k).ops t = (o : Int) := by
 obtain ⟨t, h1, h2⟩ := anyB_true.1 h
 exact ⟨t, h1, by simpa using h2⟩
theorem cnt_succ (k : Nat) : cnt l (o : Int) (k + 1) = if inF l o k then cnt l o k + 1 else cnt l o k := rfl
theorem vq_uni (g : Good38 costs l) : VldQ costs l (uniL costs l l.length) := by
 have hv : ∀ j, j < l.length → prB (fv (uniL costs l l.length) j) (fx (uniL costs l l.length) j) = true ∧ 0 ≤ rl (uniL costs l l.length) j ∧ ∀ o : Nat, inF l o j = true → rl (uniL costs l l.length) j ≤ shV costs l o := fun j hj => by
  obtain ⟨h1, h2, h3⟩ := lea_val g hj _ (Nat.le_refl _)
  unfold rl
  rw [(uniL_at hj).1, (uniL_at hj).2]
  refine ⟨h1, h2, fun o ho => ?_⟩
  obtain ⟨t, h4, h5⟩ := in_at ho
  exact h3 t h4 o h5
 refine ⟨uniL_len _ _ _, fun j hj => ?_, fun o ho => ?_⟩
 ·rw [uniL_len] at hj
  obtain ⟨h1, h2, _⟩ := hv j hj
  refine ⟨h1, ?_⟩
  rw [← (rl_num h1).1]
  exact Rat.num_nonneg.2 h2
 ·have key : ∀ k, k ≤ l.length → (sg k fun j => if inF l o j then rl (uniL costs l l.length) j else 0) ≤ ((cnt l o k : Int) : Rat) * shV costs l o := by
   intro k
   induction k with
   | zero => intro _; show (0 : Rat) ≤ ((0 : Int) : Rat) * _; rw [show ((0 : Int) : Rat) = 0 from rfl, Rat.zero_mul]; exact Rat.le_refl
   | succ k ih =>
    intro hk
    have ih := ih (by omega)
    show (sg k fun j => if inF l o j then rl (uniL costs l l.length) j else 0) + (if inF l o k then rl (uniL costs l l.length) k else 0) ≤ _
    rw [cnt_succ]
    cases hin : inF l o k
    ·rw [if_neg (by decide), if_neg (by decide)]; grind
    ·rw [if_pos rfl, if_pos rfl]
     have h1 := (hv k (by omega)).2.2 o hin
     rw [Int.natCast_add, Rat.intCast_add]
     have e1 : (((1 : Nat) : Int) : Rat) = 1 := rfl
     rw [e1]
     grind
  have h1 := key _ (Nat.le_refl _)
  by_cases hc : cnt l (o : Int) l.length = 0
  ·rw [hc] at h1
   have h2 := cost_nn g ho
   rw [show (((0 : Nat) : Int) : Rat) = 0 from rfl, Rat.zero_mul] at h1
   grind
  ·have e : ((cnt l o l.length : Int) : Rat) * shV costs l o = Rat.divInt (nth costs o) 1 := by
    unfold shV
    rw [Rat.divInt_eq_div, int_rat]
    have h3 : ((cnt l (o : Int) l.length : Int) : Rat) ≠ 0 := fun h => hc (by
     have := Rat.intCast_inj.1 (h.trans (show (0 : Rat) = ((0 : Int) : Rat) from rfl))
     omega)
    generalize ((cnt l (o : Int) l.length : Int) : Rat) = x at *
    generalize ((nth costs o : Int) : Rat) = y at *
    grind
   rw [e] at h1
   exact h1
theorem cost_le (g : Good38 costs l) (ho : o < costs.length) : Rat.divInt (nth costs o) 1 ≤ 1048576 := int_le (g.cost o ho).2
end
end

section
open Go Go.RowKit
set_option linter.unusedVariables false

section
variable {t : Tsk} {s : List Int} {f : Int × Int}
theorem lm_ach' (hr : Right t) (hc : lmC t s = 0) (hf : f ∈ lmL t s) : ach t s f ≠ [] ∧ hsM t.goal (rcB t s f) = false := by
 unfold lmL at hf
 rw [if_pos hc] at hf
 have h1 := (mem_lmks.1 hf).2.2
 refine ⟨ach_ne hr ?_ h1, h1⟩
 unfold lmC at hc
 cases e : hsM t.goal (rcB t s noF)
 ·rw [e] at hc
  split at hc <;> cases hc
 ·rfl
/-- The cuts of a state: each is met by every plan. -/
theorem cut_facts (hr : Right t) (hc : lmC t s = 0) {u : Cut} (hu : u ∈ cuL t s) : ∃ f, u.ops = ach t s f ∧ ach t s f ≠ [] ∧ hsM t.goal (rcB t s f) = false := by
 obtain ⟨i, hi, e⟩ := mem_cuN _ _ hu
 refine ⟨fac (lmL t s) i, by rw [e]; rfl, ?_⟩
 exact lm_ach' hr hc (fac_mem hi)
theorem ach_pw (f : Int × Int) : ∀ k, (achN t s f k).Pairwise (· < ·) ∧ ∀ x ∈ achN t s f k, x < (k : Int)
 | 0 => ⟨List.Pairwise.nil, fun x hx => by cases hx⟩
 | k + 1 => by
  obtain ⟨h1, h2⟩ := ach_pw f k
  cases e : acB t s f k
  ·rw [achN_no e]
   exact ⟨h1, fun x hx => by have := h2 x hx; omega⟩
  ·rw [achN_yes e]
   refine ⟨List.pairwise_append.2 ⟨h1, List.pairwise_singleton _ _, fun a ha b hb => ?_⟩, fun x hx => ?_⟩
   ·rw [List.mem_singleton] at hb
    rw [hb]; exact h2 a ha
   ·rcases List.mem_append.1 hx with h | h
    ·have := h2 x h; omega
    ·rw [List.mem_singleton] at h; omega
end
/-- The costs of a task's operators. -/
theorem cos_nth {t : Tsk} {o : Nat} (h : o < t.ops.length) : nth (cosN t t.ops.length) o = (opr t.ops o).cost := cosN_nth h
/-- The cuts and the costs are good. -/
theorem cuts_good {t : Tsk} {s : List Int} {l : List Cut} (hr : Right t) (hc : lmC t s = 0) (hl : ∀ u ∈ l, u ∈ cuL t s) (h24 : l.length ≤ 24) : Good38 (cosN t t.ops.length) l where
 many := h24
 cost := fun o ho => by
  rw [cosN_len] at ho
  rw [cos_nth ho]
  exact hr.cost o ho
 some := fun k hk => by
  obtain ⟨f, e1, e2, _⟩ := cut_facts hr hc (hl _ (cut_mem hk))
  rw [e1]
  exact List.length_pos_iff.2 e2
 op := fun k hk i hi => by
  obtain ⟨f, e1, e2, _⟩ := cut_facts hr hc (hl _ (cut_mem hk))
  rw [e1] at hi ⊢
  rw [cosN_len]
  have hg := ach_rng hi
  refine ⟨hg.1, hg.2, fun h0 => ?_⟩
  have := List.pairwise_iff_getElem.1 (ach_pw (t := t) (s := s) f t.ops.length).1 (i - 1) i (by show _ < (ach t s f).length; omega) hi (by omega)
  unfold nth
  simp only [List.getD, List.getElem?_eq_getElem (show i - 1 < (ach t s f).length by omega), List.getElem?_eq_getElem hi, Option.getD_some]
  exact this
end

section
open Go Go.RowKit
set_option linter.unusedVariables false

theorem chk_of_good {costs : List Int} {l : List Cut} (g : Good38 costs l) : chk38 costs l = 0 := by
 unfold chk38
 have h1 : anyB costs.length (offC costs) = false := anyB_false.2 fun k hk => by
  have := g.cost k hk
  unfold offC
  simp only [Bool.or_eq_false_iff, decide_eq_false_iff_not]
  omega
 rw [h1, if_neg (by decide), if_neg (by have := g.many; omega)]
 exact cutsC_all fun j hj => cutC_good (by have := g.some j hj; omega) (anyB_false.2 fun i hi => by
  have := g.op j hj i hi
  unfold badK
  simp only [Bool.or_eq_false_iff, Bool.and_eq_false_iff, decide_eq_false_iff_not]
  omega)
theorem ceil_le {z : Rat} (hr : Rep z) {c : Int} (h : z ≤ (c : Rat)) : ceilF z.num z.den ≤ c := by
 obtain ⟨e1, e2⟩ := valNP (rep_pr hr)
 unfold ceilF
 rw [e1, e2]
 have hd := z.den_pos
 rw [Rat.le_iff, Rat.num_intCast, Rat.den_intCast] at h
 have h1 : -c ≤ -z.num / (z.den : Int) := (Int.le_ediv_iff_mul_le (by omega)).2 (by rw [Int.neg_mul]; omega)
 omega
theorem ceil_nn {z : Rat} (hr : Rep z) (h : 0 ≤ z) : 0 ≤ ceilF z.num z.den := by
 obtain ⟨e1, e2⟩ := valNP (rep_pr hr)
 unfold ceilF
 rw [e1, e2]
 have hd := z.den_pos
 have hn := Rat.num_nonneg.2 h
 have h1 : ¬ 1 ≤ -z.num / (z.den : Int) := fun h2 => by
  have := (Int.le_ediv_iff_mul_le (by omega)).1 h2
  omega
 omega
theorem val_bd {lv : List (Int × Int)} {c : Int} (h0 : (sumF lv).2.2 = 0) (hn : 0 ≤ sg lv.length (rl lv)) : (valR lv).2 = 0 ∧ 0 ≤ (valR lv).1 ∧ (sg lv.length (rl lv) ≤ (c : Rat) → (valR lv).1 ≤ c) := by
 obtain ⟨h1, h2⟩ := sum_rat h0
 unfold valR
 rw [if_pos h0, h2]
 exact ⟨rfl, ceil_nn h1 hn, fun hs => ceil_le h1 hs⟩
theorem sum_05 {p : List (Int × Int)} (h : ∀ t, t < p.length → prB (fv p t) (fx p t) = true) : (sumF p).2.2 = 0 ∨ (sumF p).2.2 = 5 := by
 have key : ∀ k, k ≤ p.length → (∃ n d, SumIs p k n d ∧ Fr n d (sg k (rl p))) ∨ (sumF p).2.2 = 5 := by
  intro k
  induction k with
  | zero => exact fun _ => .inl ⟨0, 1, rfl, rep_fr rep_zero⟩
  | succ k ih =>
   intro hk
   rcases ih (by omega) with ⟨n, d, h1, h2⟩ | h1
   ·have h3 := Fr.add h2 (⟨h k (by omega), rfl⟩ : Fr (fv p k) (fx p k) (rl p k))
    have e : sg k (rl p) + rl p k = sg (k + 1) (rl p) := rfl
    rw [e] at h3
    by_cases hr : Rep (sg (k + 1) (rl p))
    ·rw [rep_toF hr] at h3
     exact .inl ⟨_, _, sum_step h1 (by omega) h3, rep_fr hr⟩
    ·rw [not_rep hr] at h3
     exact .inr (by rw [sum_stop h1 (by omega) h3 (by decide)])
   ·exact .inr h1
 rcases key _ (Nat.le_refl _) with ⟨n, d, h1, _⟩ | h
 ·exact .inl (by rw [sum_end h1])
 ·exact .inr h
theorem rep_int {m : Int} (h1 : -1099511627776 ≤ m) (h2 : m ≤ 1099511627776) : Rep (m : Rat) := by
 unfold Rep aI
 rw [Rat.num_intCast, Rat.den_intCast]
 omega
theorem sum_ints {p : List (Int × Int)} (h : ∀ t, t < p.length → fx p t = 1 ∧ 0 ≤ fv p t ∧ fv p t ≤ 1048576) (hl : p.length ≤ 24) : (sumF p).2.2 = 0 := by
 have key : ∀ k, k ≤ p.length → ∃ m : Int, 0 ≤ m ∧ m ≤ k * 1048576 ∧ sg k (rl p) = (m : Rat) ∧ ∃ n d, SumIs p k n d ∧ Fr n d (sg k (rl p)) := by
  intro k
  induction k with
  | zero => exact fun _ => ⟨0, by omega, by omega, rfl, 0, 1, rfl, rep_fr rep_zero⟩
  | succ k ih =>
   intro hk
   obtain ⟨m, m0, m1, hm, n, d, h1, h2⟩ := ih (by omega)
   obtain ⟨e1, e2, e3⟩ := h k (by omega)
   have er : rl p k = ((fv p k : Int) : Rat) := by unfold rl; rw [e1, int_rat]
   have hs : sg (k + 1) (rl p) = ((m + fv p k : Int) : Rat) := by
    show sg k (rl p) + rl p k = _
    rw [hm, er, Rat.intCast_add]
   have hr : Rep (sg (k + 1) (rl p)) := by rw [hs]; exact rep_int (by omega) (by omega)
   have hp : prB (fv p k) (fx p k) = true := by
    have := rep_pr (rep_int (m := fv p k) (by omega) (by omega))
    rw [Rat.num_intCast, Rat.den_intCast] at this
    rw [e1]; exact this
   have h3 := Fr.add h2 (⟨hp, rfl⟩ : Fr (fv p k) (fx p k) (rl p k))
   have e : sg k (rl p) + rl p k = sg (k + 1) (rl p) := rfl
   rw [e, rep_toF hr] at h3
   exact ⟨m + fv p k, by omega, by omega, hs, _, _, sum_step h1 (by omega) h3, rep_fr hr⟩
 obtain ⟨_, _, _, _, n, d, h1, _⟩ := key _ (Nat.le_refl _)
 rw [sum_end h1]
theorem gre_code {costs : List Int} {l : List Cut} (g : Good38 costs l) : (sumF (greL costs l l.length)).2.2 = 0 := sum_ints (fun j hj => by
 rw [greL_len] at hj
 have h1 := (vq_gre g).pr j (by rw [greL_len]; exact hj)
 rw [(greL_at hj).1, (greL_at hj).2] at *
 exact ⟨rfl, h1.2, minO_le _ _ _⟩) (by rw [greL_len]; exact g.many)
/-- Values that are valid have a sum that is not great. -/
theorem vq_inf {costs : List Int} {l : List Cut} {v : List (Int × Int)} (g : Good38 costs l) (h : VldQ costs l v) : 0 ≤ sg v.length (rl v) ∧ sg v.length (rl v) ≤ ((25165824 : Int) : Rat) := by
 have hnn : ∀ j, j < l.length → 0 ≤ rl v j := fun j hj => by
  obtain ⟨h1, h2⟩ := h.pr j (by rw [h.len]; exact hj)
  exact rl_nn h1 h2
 rw [h.len]
 refine ⟨sg_nonneg _ hnn, ?_⟩
 have h1 : ∀ j, j < l.length → rl v j ≤ (1048576 : Rat) := fun j hj => by
  have g1 := g.some j hj
  have g2 := g.op j hj 0 g1
  obtain ⟨o, ho⟩ : ∃ o : Nat, nth (cut l j).ops 0 = (o : Int) := ⟨(nth (cut l j).ops 0).toNat, by omega⟩
  have hin : inF l o j = true := anyB_true.2 ⟨0, g1, by rw [ho]; simp⟩
  have h2 := h.le o (by omega)
  have h3 := sg_ge_one (f := fun j => if inF l o j then rl v j else 0) (n := l.length) (k := j) (fun i hi => by
   split
   ·exact hnn i hi
   ·exact Rat.le_refl) hj
  rw [hin, if_pos rfl] at h3
  have h4 := cost_le g (o := o) (by omega)
  grind
 have key : ∀ n, n ≤ l.length → sg n (rl v) ≤ ((n * 1048576 : Int) : Rat) := by
  intro n
  induction n with
  | zero => intro _; exact Rat.le_refl
  | succ n ih =>
   intro hn
   have h2 := ih (by omega)
   have h3 := h1 n (by omega)
   have e : (((n + 1 : Nat) : Int) * 1048576 : Int) = (n * 1048576 : Int) + 1048576 := by omega
   rw [e, Rat.intCast_add]
   show sg n (rl v) + rl v n ≤ _
   have e2 : ((1048576 : Int) : Rat) = (1048576 : Rat) := rfl
   rw [e2]
   grind
 have h2 := key l.length (Nat.le_refl _)
 have h3 : ((l.length * 1048576 : Int) : Rat) ≤ ((25165824 : Int) : Rat) := Rat.intCast_le_intCast.2 (by have := g.many; omega)
 grind

/-- The list of values of a kind, or its error. -/
def OptIs (costs : List Int) (l : List Cut) (lv : List (Int × Int)) (cd : Int) : Prop :=
 (cd = 0 ∧ ∃ T, Fin (keptL costs l).length (l.length + (keptL costs l).length) (T37 (onL l.length) (opR l (keptL costs l)) (opB costs (keptL costs l))) (.ok T) ∧ lv = frq (xB (keptL costs l).length T) l.length) ∨ (cd ≠ 0 ∧ lv = [] ∧ Fin (keptL costs l).length (l.length + (keptL costs l).length) (T37 (onL l.length) (opR l (keptL costs l)) (opB costs (keptL costs l))) (.err cd))
def LvIs (kind : Int) (costs : List Int) (l : List Cut) (lv : List (Int × Int)) (cd : Int) : Prop :=
 (kind = 1 ∧ lv = greL costs l l.length ∧ cd = 0) ∨ (kind = 2 ∧ lv = uniL costs l l.length ∧ cd = 0) ∨ (kind = 3 ∧ OptIs costs l lv cd)
def OfIs (kind : Int) (costs : List Int) (l : List Cut) (n cd : Int) : Prop := ∃ lv c0, LvIs kind costs l lv c0 ∧ ((c0 ≠ 0 ∧ n = 0 ∧ cd = c0) ∨ (c0 = 0 ∧ n = (valR lv).1 ∧ cd = (valR lv).2))
theorem lv_vq {kind : Int} {costs : List Int} {l : List Cut} {lv : List (Int × Int)} {cd : Int} (g : Good38 costs l) (hn : costs.length ≤ 24) (h : LvIs kind costs l lv cd) : (cd = 0 ∧ VldQ costs l lv) ∨ (kind = 3 ∧ cd = 5) := by
 rcases h with ⟨_, rfl, rfl⟩ | ⟨_, rfl, rfl⟩ | ⟨h3, ⟨rfl, T, hf, rfl⟩ | ⟨_, rfl, hf⟩⟩
 ·exact .inl ⟨rfl, vq_gre g⟩
 ·exact .inl ⟨rfl, vq_uni g⟩
 ·exact .inl ⟨rfl, vq_opt g hn hf⟩
 ·exact .inr ⟨h3, opt_five g hn hf⟩
/-- What 'of' answers: its error is 0 or 5; without one the value is a good bound. -/
theorem of_good {kind : Int} {costs : List Int} {l : List Cut} {n cd : Int} (g : Good38 costs l) (hn : costs.length ≤ 24) (h : OfIs kind costs l n cd) : (cd = 5 ∧ kind ≠ 1) ∨ (cd = 0 ∧ 0 ≤ n ∧ n ≤ 25165824 ∧ ∃ lv, VldQ costs l lv ∧ ∀ c : Int, sg lv.length (rl lv) ≤ (c : Rat) → n ≤ c) := by
 obtain ⟨lv, c0, hl, h⟩ := h
 rcases lv_vq g hn hl with ⟨rfl, hv⟩ | ⟨rfl, rfl⟩
 ·rcases h with ⟨h, _⟩ | ⟨_, rfl, rfl⟩
  ·exact absurd rfl h
  ·have hb := vq_inf g hv
   rcases sum_05 (fun t ht => (hv.pr t ht).1) with h0 | h5
   ·have h1 := fun c => val_bd (c := c) h0 hb.1
    exact .inr ⟨(h1 0).1, (h1 0).2.1, (h1 25165824).2.2 hb.2, lv, hv, fun c => (h1 c).2.2⟩
   ·refine .inl ⟨by unfold valR; rw [if_neg (by omega)]; exact h5, fun hk => ?_⟩
    rcases hl with ⟨_, rfl, _⟩ | ⟨h2, _⟩ | ⟨h2, _⟩
    ·have := gre_code g; omega
    ·omega
    ·omega
 ·rcases h with ⟨_, rfl, rfl⟩ | ⟨h, _⟩
  ·exact .inl ⟨rfl, by decide⟩
  ·exact absurd h (by decide)
/-- What Heuristic answers for a right task, a state and a kind. -/
def HeurIs (t : Tsk) (s : List Int) (kind n cd : Int) : Prop :=
 (lmC t s = 3 ∧ n = INF ∧ cd = 0) ∨ (lmC t s = 0 ∧ ∃ n1 cd1, OfIs kind (cosN t t.ops.length) ((cuL t s).take 24) n1 cd1 ∧ ((cd1 = 5 ∧ OfIs 1 (cosN t t.ops.length) ((cuL t s).take 24) n cd) ∨ (cd1 ≠ 5 ∧ n = n1 ∧ cd = cd1)))
end

end Go.Proofs.YtaampjhdgeoicaaGreat
