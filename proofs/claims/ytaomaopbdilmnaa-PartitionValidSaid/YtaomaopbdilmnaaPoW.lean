/- partition: the uniform partition is valid; a valid partition with known denominators passes Valid: plain. -/
import Derived.Test.YtaomaopbdilmnaaPoV
namespace Go.Proofs.Ytaomaopbdilmnaa
set_option linter.unusedSimpArgs false
set_option linter.unusedVariables false
open Go Go.RowKit
set_option linter.unusedVariables false

section
variable {costs : List Int} {l : List Cut} {v : List (Int × Int)} {o : Nat}
/-- A share as a number. -/
def shV (costs : List Int) (l : List Cut) (o : Nat) : Rat := Rat.divInt (nth costs o) (cnt l o l.length)
theorem sh_val (g : Good38 costs l) {k i : Nat} (hk : k < l.length) (hi : i < (cut l k).ops.length) (ho : nth (cut l k).ops i = (o : Int)) : ∃ p q, shF costs l (o : Int) = (p, q, 0) ∧ prB p q = true ∧ Rat.divInt p q = shV costs l o ∧ 1 ≤ cnt l o l.length ∧ o < costs.length := by
  have g1 := g.op k hk i hi
  rw [ho] at g1
  have g2 := g.cost o (by omega)
  have c1 : 1 ≤ cnt l (o : Int) l.length := cnt_pos hk (anyB_true.2 ⟨i, hi, by rw [ho]; simp⟩)
  have c2 := cnt_le l (o : Int) l.length
  have c3 := g.many
  obtain ⟨p, q, e1, e2, e3⟩ := newF_small (n := nth costs o) (d := (cnt l (o : Int) l.length : Int)) (by omega) (by omega) (by omega) (by omega)
  exact ⟨p, q, e1, e2, e3, c1, by omega⟩
theorem shV_nn (g : Good38 costs l) (ho : o < costs.length) : 0 ≤ shV costs l o := by
  unfold shV
  rw [Rat.divInt_eq_div]
  have h1 : (0 : Rat) ≤ (nth costs o : Rat) := Rat.intCast_nonneg.2 (g.cost o ho).1
  rw [Rat.div_def]
  refine Rat.mul_nonneg h1 ?_
  have h2 : (0 : Rat) ≤ ((cnt l (o : Int) l.length : Int) : Rat) := Rat.intCast_nonneg.2 (by omega)
  rcases Rat.le_iff_lt_or_eq.1 h2 with h3 | h3
  · exact Rat.le_of_lt (Rat.inv_pos.2 h3)
  · rw [← h3, Rat.inv_zero]; exact Rat.le_refl
theorem lea_val (g : Good38 costs l) {k : Nat} (hk : k < l.length) : ∀ i, i ≤ (cut l k).ops.length → prB (leaR costs l (cut l k).ops i).1 (leaR costs l (cut l k).ops i).2 = true ∧ 0 ≤ Rat.divInt (leaR costs l (cut l k).ops i).1 (leaR costs l (cut l k).ops i).2 ∧ ∀ t, t < i → ∀ o : Nat, nth (cut l k).ops t = (o : Int) → Rat.divInt (leaR costs l (cut l k).ops i).1 (leaR costs l (cut l k).ops i).2 ≤ shV costs l o
  | 0, _ => ⟨by show prB 1048576 1 = true; decide +kernel, by show 0 ≤ Rat.divInt 1048576 1; decide +kernel, fun t ht => absurd ht (by omega)⟩
  | i + 1, hi => by
    obtain ⟨h1, h2, h3⟩ := lea_val g hk i (by omega)
    have g1 := g.op k hk i (by omega)
    obtain ⟨o, ho⟩ : ∃ o : Nat, nth (cut l k).ops i = (o : Int) := ⟨(nth (cut l k).ops i).toNat, by omega⟩
    obtain ⟨p, q, e1, e2, e3, e4, e5⟩ := sh_val g hk (by omega) ho
    have hu : leaR costs l (cut l k).ops (i + 1) = if cmpF p q (leaR costs l (cut l k).ops i).1 (leaR costs l (cut l k).ops i).2 < 0 then (p, q) else leaR costs l (cut l k).ops i := by
      conv => lhs; unfold leaR
      rw [ho, e1]
    obtain ⟨⟨a, b⟩, hab⟩ : ∃ r, leaR costs l (cut l k).ops i = r := ⟨_, rfl⟩
    rw [hab] at h1 h2 h3 hu
    dsimp only at h1 h2 h3 hu
    have hr1 := (fr_rep (⟨e2, rfl⟩ : Fr p q (Rat.divInt p q)))
    have hr2 := (fr_rep (⟨h1, rfl⟩ : Fr a b (Rat.divInt a b)))
    have hc := cmp_rat hr1.1 hr2.1
    rw [← hr1.2.1, ← hr1.2.2, ← hr2.2.1, ← hr2.2.2] at hc
    rw [hu, hc]
    by_cases hlt : Rat.divInt p q < Rat.divInt a b
    · rw [if_pos hlt, if_pos (by decide)]
      refine ⟨e2, by rw [e3]; exact shV_nn g e5, fun t ht o' ho' => ?_⟩
      dsimp only
      by_cases e : t = i
      · subst e
        have : o' = o := by omega
        subst this
        rw [e3]; exact Rat.le_refl
      · have := h3 t (by omega) o' ho'
        grind
    · rw [if_neg hlt]
      have hn : ¬ ((if Rat.divInt a b < Rat.divInt p q then (1 : Int) else 0) < 0) := by split <;> decide
      rw [if_neg hn]
      refine ⟨h1, h2, fun t ht o' ho' => ?_⟩
      by_cases e : t = i
      · subst e
        have : o' = o := by omega
        subst this
        rw [← e3]
        dsimp only
        grind
      · exact h3 t (by omega) o' ho'
theorem uniL_at {k j : Nat} (h : j < k) : fv (uniL costs l k) j = (leaR costs l (cut l j).ops (cut l j).ops.length).1 ∧ fx (uniL costs l k) j = (leaR costs l (cut l j).ops (cut l j).ops.length).2 := by unfold uniL fv fx; simp [List.getD, h]
theorem in_at {k : Nat} (h : inF l o k = true) : ∃ t, t < (cut l k).ops.length ∧ nth (cut l k).ops t = (o : Int) := by
  obtain ⟨t, h1, h2⟩ := anyB_true.1 h
  exact ⟨t, h1, by simpa using h2⟩
theorem cnt_succ (k : Nat) : cnt l (o : Int) (k + 1) = if inF l o k then cnt l o k + 1 else cnt l o k := rfl
theorem vq_uni (g : Good38 costs l) : VldQ costs l (uniL costs l l.length) := by
  have hv : ∀ j, j < l.length → prB (fv (uniL costs l l.length) j) (fx (uniL costs l l.length) j) = true ∧ 0 ≤ rl (uniL costs l l.length) j ∧ ∀ o : Nat, inF l o j = true → rl (uniL costs l l.length) j ≤ shV costs l o := fun j hj => by
    obtain ⟨h1, h2, h3⟩ := lea_val g hj _ (Nat.le_refl _)
    unfold rl
    rw [(uniL_at hj).1, (uniL_at hj).2]
    refine ⟨h1, h2, fun o ho => ?_⟩
    obtain ⟨t, h4, h5⟩ := in_at ho
    exact h3 t h4 o h5
  refine ⟨uniL_len _ _ _, fun j hj => ?_, fun o ho => ?_⟩
  · rw [uniL_len] at hj
    obtain ⟨h1, h2, _⟩ := hv j hj
    refine ⟨h1, ?_⟩
    rw [← (rl_num h1).1]
    exact Rat.num_nonneg.2 h2
  · have key : ∀ k, k ≤ l.length → (sg k fun j => if inF l o j then rl (uniL costs l l.length) j else 0) ≤ ((cnt l o k : Int) : Rat) * shV costs l o := by
      intro k
      induction k with
      | zero => intro _; show (0 : Rat) ≤ ((0 : Int) : Rat) * _; rw [show ((0 : Int) : Rat) = 0 from rfl, Rat.zero_mul]; exact Rat.le_refl
      | succ k ih =>
        intro hk
        have ih := ih (by omega)
        show (sg k fun j => if inF l o j then rl (uniL costs l l.length) j else 0) + (if inF l o k then rl (uniL costs l l.length) k else 0) ≤ _
        rw [cnt_succ]
        cases hin : inF l o k
        · rw [if_neg (by decide), if_neg (by decide)]; grind
        · rw [if_pos rfl, if_pos rfl]
          have h1 := (hv k (by omega)).2.2 o hin
          rw [Int.natCast_add, Rat.intCast_add]
          have e1 : (((1 : Nat) : Int) : Rat) = 1 := rfl
          rw [e1]
          grind
    have h1 := key _ (Nat.le_refl _)
    by_cases hc : cnt l (o : Int) l.length = 0
    · rw [hc] at h1
      have h2 := cost_nn g ho
      rw [show (((0 : Nat) : Int) : Rat) = 0 from rfl, Rat.zero_mul] at h1
      grind
    · have e : ((cnt l o l.length : Int) : Rat) * shV costs l o = Rat.divInt (nth costs o) 1 := by
        unfold shV
        rw [Rat.divInt_eq_div, int_rat]
        have h3 : ((cnt l (o : Int) l.length : Int) : Rat) ≠ 0 := fun h => hc (by
          have := Rat.intCast_inj.1 (h.trans (show (0 : Rat) = ((0 : Int) : Rat) from rfl))
          omega)
        generalize ((cnt l (o : Int) l.length : Int) : Rat) = x at *
        generalize ((nth costs o : Int) : Rat) = y at *
        grind
      rw [e] at h1
      exact h1
/-- The denominators of the first n values are known. -/
def Known (v : List (Int × Int)) (n : Nat) : Prop := ∀ j, j < n → 1 ≤ fx v j ∧ (360360 : Int) % fx v j = 0
/-- A value by the common denominator. -/
def mV (v : List (Int × Int)) (j : Nat) : Int := fv v j * (360360 / fx v j)
theorem mV_rat {n j : Nat} (h : Known v n) (hj : j < n) : rl v j * 360360 = (mV v j : Rat) := by
  obtain ⟨h1, h2⟩ := h j hj
  obtain ⟨q, hq⟩ : ∃ q, q = (360360 : Int) / fx v j := ⟨_, rfl⟩
  have e : fx v j * q = 360360 := by
    have := Int.mul_ediv_add_emod 360360 (fx v j)
    rw [h2, ← hq] at this
    omega
  unfold rl mV
  rw [← hq, ← int_rat (fv v j * q), show (360360 : Rat) = Rat.divInt 360360 1 from rfl, Rat.divInt_mul_divInt]
  refine (Rat.divInt_eq_divInt_iff (by omega) (by decide)).2 ?_
  rw [← e]
  generalize fv v j = a
  generalize fx v j = d
  grind
theorem rep_of {r : Rat} {m : Int} (h0 : 0 ≤ r) (h1 : r ≤ 1048576) (h2 : r * 360360 = (m : Rat)) : Rep r := by
  have hd := r.den_pos
  have e1 : r.num * 360360 = m * r.den := by
    have h3 : Rat.divInt r.num r.den * Rat.divInt 360360 1 = Rat.divInt m 1 := by
      rw [num_divInt, int_rat m]; exact h2
    rw [Rat.divInt_mul_divInt] at h3
    have := (Rat.divInt_eq_divInt_iff (by omega) (by decide)).1 h3
    rw [Int.mul_one, Int.mul_one] at this
    exact this
  have e2 : (r.den : Int) ∣ 360360 := by
    have hn := Rat.num_nonneg.2 h0
    have h4 : r.den ∣ r.num.natAbs * 360360 := by
      have h5 : (r.den : Int) ∣ ((r.num.natAbs * 360360 : Nat) : Int) := ⟨m, by
        rw [Int.natCast_mul, Int.natAbs_of_nonneg hn, Int.mul_comm (r.den : Int)]
        exact e1⟩
      exact Int.natCast_dvd_natCast.1 h5
    have h6 := (Nat.Coprime.symm r.reduced).dvd_of_dvd_mul_left h4
    exact Int.natCast_dvd_natCast.2 h6
  have e3 := Int.le_of_dvd (by decide) e2
  have e4 := (Rat.le_iff _ _).1 h1
  have e5 : (1048576 : Rat).num = 1048576 := rfl
  have e6 : (1048576 : Rat).den = 1 := rfl
  rw [e5, e6] at e4
  have e7 := Rat.num_nonneg.2 h0
  unfold Rep aI
  have e8 : (1048576 : Int) * r.den ≤ 1048576 * 360360 := Int.mul_le_mul_of_nonneg_left e3 (by decide)
  omega
theorem cost_le (g : Good38 costs l) (ho : o < costs.length) : Rat.divInt (nth costs o) 1 ≤ 1048576 := int_le (g.cost o ho).2
/-- What the elements of a paid list are. -/
theorem paid_el (hk : Known v l.length) (hp : ∀ j, j < l.length → prB (fv v j) (fx v j) = true ∧ 0 ≤ rl v j) : ∀ k, k ≤ l.length → ∀ t, t < (paidK l v o k).length → prB (fv (paidK l v o k) t) (fx (paidK l v o k) t) = true ∧ 0 ≤ rl (paidK l v o k) t ∧ ∃ m : Int, rl (paidK l v o k) t * 360360 = (m : Rat)
  | 0, _, t, h => absurd h (by simp [paidK])
  | k + 1, hkl, t, h => by
    cases hin : inF l o k
    · rw [paidK_no hin] at h ⊢
      exact paid_el hk hp k (by omega) t h
    · rw [paidK_yes hin] at h ⊢
      rw [List.length_append] at h
      have h2 : t < (paidK l v o k).length + 1 := h
      by_cases e : t < (paidK l v o k).length
      · rw [(fv_lt e).1, (fv_lt e).2, rl_app_lt e]
        exact paid_el hk hp k (by omega) t e
      · obtain rfl : t = (paidK l v o k).length := by omega
        rw [fv_eq.1, fv_eq.2, rl_app_eq]
        obtain ⟨h3, h4⟩ := hp k (by omega)
        exact ⟨h3, h4, _, mV_rat hk (by omega)⟩
theorem sum_code {p : List (Int × Int)} (h : ∀ t, t < p.length → prB (fv p t) (fx p t) = true ∧ 0 ≤ rl p t ∧ ∃ m : Int, rl p t * 360360 = (m : Rat)) (hs : sg p.length (rl p) ≤ 1048576) : (sumF p).2.2 = 0 := by
  have hpart : ∀ k, k ≤ p.length → 0 ≤ sg k (rl p) ∧ sg k (rl p) ≤ sg p.length (rl p) ∧ ∃ m : Int, sg k (rl p) * 360360 = (m : Rat) := by
    intro k hk
    refine ⟨sg_nonneg k fun i hi => (h i (by omega)).2.1, ?_, ?_⟩
    · obtain ⟨d, hd⟩ : ∃ d, p.length = k + d := ⟨p.length - k, by omega⟩
      rw [hd, sg_split]
      have := sg_nonneg d (f := fun i => rl p (k + i)) fun i hi => (h _ (by omega)).2.1
      grind
    · induction k with
      | zero => exact ⟨0, by show (0 : Rat) * _ = _; rw [Rat.zero_mul]; rfl⟩
      | succ k ih =>
        obtain ⟨m, hm⟩ := ih (by omega)
        obtain ⟨_, _, m', hm'⟩ := h k (by omega)
        refine ⟨m + m', ?_⟩
        show (sg k (rl p) + rl p k) * 360360 = _
        rw [Rat.intCast_add, ← hm, ← hm']
        grind
  have key : ∀ k, k ≤ p.length → ∃ n d, SumIs p k n d ∧ Fr n d (sg k (rl p)) := by
    intro k
    induction k with
    | zero => exact fun _ => ⟨0, 1, rfl, rep_fr rep_zero⟩
    | succ k ih =>
      intro hk
      obtain ⟨n, d, h1, h2⟩ := ih (by omega)
      obtain ⟨a1, a2, m, a3⟩ := hpart (k + 1) hk
      have hr : Rep (sg (k + 1) (rl p)) := rep_of a1 (by grind) a3
      have h3 := Fr.add h2 (⟨(h k (by omega)).1, rfl⟩ : Fr (fv p k) (fx p k) (rl p k))
      have e : sg k (rl p) + rl p k = sg (k + 1) (rl p) := rfl
      rw [e, rep_toF hr] at h3
      exact ⟨_, _, sum_step h1 (by omega) h3, rep_fr hr⟩
  obtain ⟨n, d, h1, _⟩ := key _ (Nat.le_refl _)
  rw [sum_end h1]
theorem vq_vld (h0 : chk38 costs l = 0) (h : VldQ costs l v) (hk : costs.length = 0 ∨ Known v l.length) : vldB costs l v = true := by
  have g := good38 h0
  have hp : ∀ j, j < l.length → prB (fv v j) (fx v j) = true ∧ 0 ≤ rl v j := fun j hj => by
    obtain ⟨h1, h2⟩ := h.pr j (by rw [h.len]; exact hj)
    exact ⟨h1, Rat.num_nonneg.1 (by rw [(rl_num h1).1]; exact h2)⟩
  refine vld_good h0 h.len (anyB_false.2 fun j hj => ?_) (anyB_false.2 fun o ho => ?_)
  · obtain ⟨h1, h2⟩ := h.pr j hj
    unfold badF
    rw [h1, decide_eq_false (by omega)]; rfl
  · rcases hk with hk | hk
    · omega
    · have hle := h.le o ho
      have hs : sg (paidK l v o l.length).length (rl (paidK l v o l.length)) ≤ Rat.divInt (nth costs o) 1 := by rw [paid_sum]; exact hle
      have hc := sum_code (paid_el (o := o) hk hp l.length (Nat.le_refl _)) (by have := cost_le g ho; grind)
      obtain ⟨hr, he⟩ := sum_rat hc
      obtain ⟨c1, c2, c3⟩ := cost_rep g ho
      have h5 := cmp_rat hr c1
      rw [c2, c3] at h5
      unfold overO
      rw [he]
      dsimp only
      rw [h5]
      have hn : ¬ (0 : Int) < (if sg (paidK l v o l.length).length (rl (paidK l v o l.length)) < Rat.divInt (nth costs o) 1 then -1 else if Rat.divInt (nth costs o) 1 < sg (paidK l v o l.length).length (rl (paidK l v o l.length)) then 1 else 0) := by
        split
        · decide
        · split
          · rename_i h6 h7; grind
          · decide
      rw [decide_eq_false hn]
      rfl
/-- The sum of the values of the first k cuts that hold o, by the common denominator. -/
def isV (l : List Cut) (v : List (Int × Int)) (o : Nat) : Nat → Int
  | 0 => 0
  | k + 1 => isV l v o k + if inF l o k then mV v k else 0
theorem isV_rat {n : Nat} (h : Known v n) : ∀ k, k ≤ n → (isV l v o k : Rat) = (sg k fun j => if inF l o j then rl v j else 0) * 360360
  | 0, _ => by show ((0 : Int) : Rat) = 0 * _; rw [Rat.zero_mul]; rfl
  | k + 1, hk => by
    have ih := isV_rat h k (by omega)
    show ((isV l v o k + if inF l o k then mV v k else 0 : Int) : Rat) = ((sg k fun j => if inF l o j then rl v j else 0) + (if inF l o k then rl v k else 0)) * 360360
    rw [Rat.intCast_add, ih]
    cases inF l o k
    · rw [if_neg (by decide), if_neg (by decide)]
      show _ + ((0 : Int) : Rat) = _
      rw [show ((0 : Int) : Rat) = 0 from rfl]
      grind
    · rw [if_pos rfl, if_pos rfl, ← mV_rat h (show k < n by omega)]
      grind
theorem isV_le (g : Good38 costs l) (h : VldQ costs l v) (ho : o < costs.length) {k n : Nat} (hk : Known v n) (hkn : k ≤ n) (hkl : k ≤ l.length) : 0 ≤ isV l v o k ∧ isV l v o k ≤ nth costs o * 360360 := by
  have hp : ∀ j, j < l.length → 0 ≤ (if inF l o j then rl v j else 0) := fun j hj => by
    obtain ⟨h1, h2⟩ := h.pr j (by rw [h.len]; exact hj)
    split
    · exact Rat.num_nonneg.1 (by rw [(rl_num h1).1]; exact h2)
    · exact Rat.le_refl
  have e := isV_rat (l := l) (o := o) hk k hkn
  have h1 : 0 ≤ sg k fun j => if inF l o j then rl v j else 0 := sg_nonneg k fun j hj => hp j (by omega)
  have h2 : (sg k fun j => if inF l o j then rl v j else 0) ≤ sg l.length fun j => if inF l o j then rl v j else 0 := by
    obtain ⟨d, hd⟩ : ∃ d, l.length = k + d := ⟨l.length - k, by omega⟩
    rw [hd, sg_split]
    have := sg_nonneg d (f := fun i => if inF l o (k + i) then rl v (k + i) else 0) fun i hi => hp _ (by omega)
    grind
  have h3 := h.le o ho
  rw [int_rat] at h3
  refine ⟨Rat.intCast_le_intCast.1 ?_, Rat.intCast_le_intCast.1 ?_⟩
  · rw [e, show ((0 : Int) : Rat) = 0 from rfl]
    exact Rat.mul_nonneg h1 (by decide)
  · rw [e, Rat.intCast_mul, show ((360360 : Int) : Rat) = 360360 from rfl]
    have h4 : (sg k fun j => if inF l o j then rl v j else 0) ≤ (nth costs o : Rat) := by grind
    exact Rat.mul_le_mul_of_nonneg_right h4 (by decide)
end

end Go.Proofs.Ytaomaopbdilmnaa
