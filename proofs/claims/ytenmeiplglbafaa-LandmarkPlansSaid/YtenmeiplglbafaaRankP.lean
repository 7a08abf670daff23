/- Plain: products, ranks, the digits of a number. -/
import Derived.Test.YtenmeiplglbafaaData
namespace Go.Proofs.Ytenmeiplglbafaa
set_option linter.unusedSimpArgs false
set_option linter.unusedVariables false
set_option linter.unusedVariables false

/-- The product of the first k numbers; at most one more than 65536. -/
def pr (l : List Int) : Nat → Int
  | 0 => 1
  | k + 1 => pr l k * nth l k
def mny (l : List Int) : Int := if 65536 < pr l l.length then 65537 else pr l l.length
theorem pr_pos {l : List Int} {n : Nat} (h : ∀ k, k < n → 1 ≤ nth l k) : 1 ≤ pr l n := by
  induction n with
  | zero => exact Int.le_refl _
  | succ n ih =>
    have h1 := ih fun k hk => h k (by omega)
    have h2 := h n (by omega)
    unfold pr
    have := Int.mul_le_mul h1 h2 (by omega) (by omega)
    omega
theorem pr_mono {l : List Int} {n : Nat} (h : ∀ k, k < n → 1 ≤ nth l k) {j : Nat} (hj : j ≤ n) : pr l j ≤ pr l n := by
  induction n with
  | zero => rw [show j = 0 by omega]; exact Int.le_refl _
  | succ n ih =>
    rcases Nat.lt_or_ge n j with h1 | h1
    · rw [show j = n + 1 by omega]; exact Int.le_refl _
    · have h2 := ih (fun k hk => h k (by omega)) h1
      have h3 := pr_pos (l := l) (n := n) fun k hk => h k (by omega)
      have h4 := h n (by omega)
      have h5 : pr l (n + 1) = pr l n * nth l n := rfl
      have h6 := Int.mul_le_mul_of_nonneg_left h4 (show 0 ≤ pr l n by omega)
      omega
theorem pr_step {l : List Int} {k : Nat} {M : Int} (h0 : 1 ≤ pr l k) (h1 : pr l k ≤ M) (h2 : 1 ≤ nth l k) (h3 : nth l k ≤ 64) (hM : M ≤ 65537) : 1 ≤ pr l k * nth l k ∧ pr l k * nth l k ≤ 4194368 := by
  have a := Int.mul_le_mul h0 h2 (by omega) (by omega)
  have b := Int.mul_le_mul h1 h3 (by omega) (by omega)
  omega

/-- The rank: mixed radix. -/
def rk (vars s : List Int) : Nat → Int
  | 0 => 0
  | k + 1 => rk vars s k * nth vars k + nth s k
theorem rk_bd {vars s : List Int} {n : Nat} (h : ∀ k, k < n → 0 ≤ nth s k ∧ nth s k < nth vars k) : 0 ≤ rk vars s n ∧ rk vars s n < pr vars n := by
  induction n with
  | zero => exact ⟨Int.le_refl _, by unfold rk pr; omega⟩
  | succ n ih =>
    have ⟨h1, h2⟩ := ih fun k hk => h k (by omega)
    have ⟨h3, h4⟩ := h n (by omega)
    have e1 : rk vars s (n + 1) = rk vars s n * nth vars n + nth s n := rfl
    have e2 : pr vars (n + 1) = pr vars n * nth vars n := rfl
    have a := Int.mul_nonneg h1 (show 0 ≤ nth vars n by omega)
    have b := Int.mul_le_mul_of_nonneg_right (show rk vars s n ≤ pr vars n - 1 by omega) (show 0 ≤ nth vars n by omega)
    rw [Int.sub_mul] at b
    omega

/-- What is left of n behind d digits; the digits. -/
def nd (vars : List Int) (n : Int) : Nat → Int
  | 0 => n
  | d + 1 => nd vars n d / nth vars (vars.length - 1 - d)
def od (vars : List Int) (n : Int) : Nat → List Int
  | 0 => List.replicate vars.length 0
  | d + 1 => (od vars n d).set (vars.length - 1 - d) (nd vars n d % nth vars (vars.length - 1 - d))
theorem od_len (vars : List Int) (n : Int) (d : Nat) : (od vars n d).length = vars.length := by
  induction d with
  | zero => simp [od]
  | succ d ih => unfold od; simp [ih]
theorem nth_set {l : List Int} {i j : Nat} {x : Int} (hi : i < l.length) : nth (l.set i x) j = if i = j then x else nth l j := by
  unfold nth
  simp only [List.getD, List.getElem?_set]
  split
  · simp [hi]
  · rfl
theorem od_get {vars : List Int} {n : Int} : ∀ (d : Nat), d ≤ vars.length → ∀ v, v < vars.length → vars.length - d ≤ v → nth (od vars n d) v = nd vars n (vars.length - 1 - v) % nth vars v
  | 0, _, v, hv, hd => by omega
  | d + 1, hl, v, hv, hd => by
    unfold od
    rw [nth_set (by rw [od_len]; omega)]
    split
    · rename_i h
      rw [show vars.length - 1 - v = d by omega, h]
    · exact od_get d (by omega) v hv (by omega)
theorem nd_bd {vars : List Int} {n : Int} (h : ∀ k, k < vars.length → 1 ≤ nth vars k) (h0 : 0 ≤ n) (h1 : n < pr vars vars.length) : ∀ (d : Nat), d ≤ vars.length → 0 ≤ nd vars n d ∧ nd vars n d < pr vars (vars.length - d)
  | 0, _ => ⟨h0, h1⟩
  | d + 1, hd => by
    have ⟨a, b⟩ := nd_bd h h0 h1 d (by omega)
    have hv := h (vars.length - 1 - d) (by omega)
    have e : nd vars n (d + 1) = nd vars n d / nth vars (vars.length - 1 - d) := rfl
    rw [e]
    refine ⟨Int.ediv_nonneg a (by omega), Int.ediv_lt_of_lt_mul (by omega) ?_⟩
    have e2 : pr vars (vars.length - d) = pr vars (vars.length - (d + 1)) * nth vars (vars.length - 1 - d) := by
      rw [show vars.length - d = (vars.length - (d + 1)) + 1 by omega, show vars.length - 1 - d = vars.length - (d + 1) by omega]; rfl
    omega
theorem rk_od {vars : List Int} {n : Int} (h : ∀ k, k < vars.length → 1 ≤ nth vars k) (h0 : 0 ≤ n) (h1 : n < pr vars vars.length) : ∀ (v : Nat), v ≤ vars.length → rk vars (od vars n vars.length) v = nd vars n (vars.length - v)
  | 0, _ => by
    have ⟨a, b⟩ := nd_bd h h0 h1 vars.length (Nat.le_refl _)
    rw [show vars.length - vars.length = 0 by omega] at b
    have : pr vars 0 = 1 := rfl
    show (0 : Int) = nd vars n (vars.length - 0)
    rw [show vars.length - 0 = vars.length by omega]
    omega
  | v + 1, hv => by
    have ih := rk_od h h0 h1 v (by omega)
    show rk vars (od vars n vars.length) v * nth vars v + nth (od vars n vars.length) v = _
    rw [ih, od_get vars.length (Nat.le_refl _) v (by omega) (by omega), show vars.length - v = (vars.length - 1 - v) + 1 by omega]
    have e : nd vars n ((vars.length - 1 - v) + 1) = nd vars n (vars.length - 1 - v) / nth vars v := by
      show nd vars n (vars.length - 1 - v) / nth vars (vars.length - 1 - (vars.length - 1 - v)) = _
      rw [show vars.length - 1 - (vars.length - 1 - v) = v by omega]
    rw [e, show vars.length - (v + 1) = vars.length - 1 - v by omega, Int.mul_comm]
    exact Int.mul_ediv_add_emod _ _
theorem od_st {vars : List Int} {n : Int} (h : ∀ k, k < vars.length → 1 ≤ nth vars k) : StP vars (od vars n vars.length) := by
  refine ⟨od_len _ _ _, fun k hk => ?_⟩
  rw [od_len] at hk
  rw [od_get vars.length (Nat.le_refl _) k hk (by omega)]
  have := h k hk
  exact ⟨Int.emod_nonneg _ (by omega), Int.emod_lt_of_pos _ (by omega)⟩
theorem rank_unrank {vars : List Int} {n : Int} (h : ∀ k, k < vars.length → 1 ≤ nth vars k) (h0 : 0 ≤ n) (h1 : n < pr vars vars.length) : rk vars (od vars n vars.length) vars.length = n := by
  rw [rk_od h h0 h1 _ (Nat.le_refl _), show vars.length - vars.length = 0 by omega]; rfl

end Go.Proofs.Ytenmeiplglbafaa
