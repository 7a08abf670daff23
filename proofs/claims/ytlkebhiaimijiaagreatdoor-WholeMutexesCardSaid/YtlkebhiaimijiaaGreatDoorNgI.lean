/- Texts laid together: RankP, StaP, RowGe, StaW, RankB. -/
import Derived.Test.YtlkebhiaimijiaaGreatDoorBel
import Derived.Test.YtlkebhiaimijiaaGreatDoorNgA
import Derived.Test.YtlkebhiaimijiaaGreatDoorNgB
import Derived.Test.YtlkebhiaimijiaaGreatDoorNgC
import Derived.Test.YtlkebhiaimijiaaGreatDoorNgD
namespace Go.Proofs.YtlkebhiaimijiaaGreatDoor
set_option linter.unusedSimpArgs false
set_option linter.unusedVariables false
section
set_option linter.unusedVariables false

/-- The product of the first k numbers; at most one more than 65536. -/
def pr (l : List Int) : Nat → Int
 | 0 => 1
 | k + 1 => pr l k * nth l k
def mny (l : List Int) : Int := if 65536 < pr l l.length then 65537 else pr l l.length
theorem pr_pos {l : List Int} {n : Nat} (h : ∀ k, k < n → 1 ≤ nth l k) : 1 ≤ pr l n := by
 induction n with
 | zero => exact Int.le_refl _
 | succ n ih =>
  have h1 := ih fun k hk => h k (by omega)
  have h2 := h n (by omega)
  unfold pr
  have := Int.mul_le_mul h1 h2 (by omega) (by omega)
  omega
theorem pr_mono {l : List Int} {n : Nat} (h : ∀ k, k < n → 1 ≤ nth l k) {j : Nat} (hj : j ≤ n) : pr l j ≤ pr l n := by
 induction n with
 | zero => rw [show j = 0 by omega]; exact Int.le_refl _
 | succ n ih =>
  rcases Nat.lt_or_ge n j with h1 | h1
  ·rw [show j = n + 1 by omega]; exact Int.le_refl _
  ·have h2 := ih (fun k hk => h k (by omega)) h1
   have h3 := pr_pos (l := l) (n := n) fun k hk => h k (by omega)
   have h4 := h n (by omega)
   have h5 : pr l (n + 1) = pr l n * nth l n := rfl
   have h6 := Int.mul_le_mul_of_nonneg_left h4 (show 0 ≤ pr l n by omega)
   omega
theorem pr_step {l : List Int} {k : Nat} {M : Int} (h0 : 1 ≤ pr l k) (h1 : pr l k ≤ M) (h2 : 1 ≤ nth l k) (h3 : nth l k ≤ 64) (hM : M ≤ 65537) : 1 ≤ pr l k * nth l k ∧ pr l k * nth l k ≤ 4194368 := by
 have a := Int.mul_le_mul h0 h2 (by omega) (by omega)
 have b := Int.mul_le_mul h1 h3 (by omega) (by omega)
 omega

/-- The rank: mixed radix. -/
def rk (vars s : List Int) : Nat → Int
 | 0 => 0
 | k + 1 => rk vars s k * nth vars k + nth s k
theorem rk_bd {vars s : List Int} {n : Nat} (h : ∀ k, k < n → 0 ≤ nth s k ∧ nth s k < nth vars k) : 0 ≤ rk vars s n ∧ rk vars s n < pr vars n := by
 induction n with
 | zero => exact ⟨Int.le_refl _, by unfold rk pr; omega⟩
 | succ n ih =>
  have ⟨h1, h2⟩ := ih fun k hk => h k (by omega)
  have ⟨h3, h4⟩ := h n (by omega)
  have e1 : rk vars s (n + 1) = rk vars s n * nth vars n + nth s n := rfl
  have e2 : pr vars (n + 1) = pr vars n * nth vars n := rfl
  have a := Int.mul_nonneg h1 (show 0 ≤ nth vars n by omega)
  have b := Int.mul_le_mul_of_nonneg_right (show rk vars s n ≤ pr vars n - 1 by omega) (show 0 ≤ nth vars n by omega)
  rw [Int.sub_mul] at b
  omega

/-- What is left of n behind d digits; the digits. -/
def nd (vars : List Int) (n : Int) : Nat → Int
 | 0 => n
 | d + 1 => nd vars n d / nth vars (vars.length - 1 - d)
def od (vars : List Int) (n : Int) : Nat → List Int
 | 0 => List.replicate vars.length 0
 | d + 1 => (od vars n d).set (vars.length - 1 - d) (nd vars n d % nth vars (vars.length - 1 - d))
theorem od_len (vars : List Int) (n : Int) (d : Nat) : (od vars n d).length = vars.length := by
 induction d with
 | zero => simp [od]
 | succ d ih => unfold od; simp [ih]
theorem nth_set {l : List Int} {i j : Nat} {x : Int} (hi : i < l.length) : nth (l.set i x) j = if i = j then x else nth l j := by
 unfold nth
 simp only [List.getD, List.getElem?_set]
 split
 ·simp [hi]
 ·rfl
theorem od_get {vars : List Int} {n : Int} : ∀ (d : Nat), d ≤ vars.length → ∀ v, v < vars.length → vars.length - d ≤ v → nth (od vars n d) v = nd vars n (vars.length - 1 - v) % nth vars v
 | 0, _, v, hv, hd => by omega
 | d + 1, hl, v, hv, hd => by
  unfold od
  rw [nth_set (by rw [od_len]; omega)]
  split
  ·rename_i h
   rw [show vars.length - 1 - v = d by omega, h]
  ·exact od_get d (by omega) v hv (by omega)
theorem nd_bd {vars : List Int} {n : Int} (h : ∀ k, k < vars.length → 1 ≤ nth vars k) (h0 : 0 ≤ n) (h1 : n < pr vars vars.length) : ∀ (d : Nat), d ≤ vars.length → 0 ≤ nd vars n d ∧ nd vars n d < pr vars (vars.length - d)
 | 0, _ => ⟨h0, h1⟩
 | d + 1, hd => by
  have ⟨a, b⟩ := nd_bd h h0 h1 d (by omega)
  have hv := h (vars.length - 1 - d) (by omega)
  have e : nd vars n (d + 1) = nd vars n d / nth vars (vars.length - 1 - d) := rfl
  rw [e]
  refine ⟨Int.ediv_nonneg a (by omega), Int.ediv_lt_of_lt_mul (by omega) ?_⟩
  have e2 : pr vars (vars.length - d) = pr vars (vars.length - (d + 1)) * nth vars (vars.length - 1 - d) := by
   rw [show vars.length - d = (vars.length - (d + 1)) + 1 by omega, show vars.length - 1 - d = vars.length - (d + 1) by omega]; rfl
  omega
theorem rk_od {vars : List Int} {n : Int} (h : ∀ k, k < vars.length → 1 ≤ nth vars k) (h0 : 0 ≤ n) (h1 : n < pr vars vars.length) : ∀ (v : Nat), v ≤ vars.length → rk vars (od vars n vars.length) v = nd vars n (vars.length - v)
 | 0, _ => by
  have ⟨a, b⟩ := nd_bd h h0 h1 vars.length (Nat.le_refl _)
  rw [show vars.length - vars.length = 0 by omega] at b
  have : pr vars 0 = 1 := rfl
  show (0 : Int) = nd vars n (vars.length - 0)
  rw [show vars.length - 0 = vars.length by omega]
  omega
 | v + 1, hv => by
  have ih := rk_od h h0 h1 v (by omega)
  show rk vars (od vars n vars.length) v * nth vars v + nth (od vars n vars.length) v = _
  rw [ih, od_get vars.length (Nat.le_refl _) v (by omega) (by omega), show vars.length - v = (vars.length - 1 - v) + 1 by omega]
  have e : nd vars n ((vars.length - 1 - v) + 1) = nd vars n (vars.length - 1 - v) / nth vars v := by
   show nd vars n (vars.length - 1 - v) / nth vars (vars.length - 1 - (vars.length - 1 - v)) = _
   rw [show vars.length - 1 - (vars.length - 1 - v) = v by omega]
  rw [e, show vars.length - (v + 1) = vars.length - 1 - v by omega, Int.mul_comm]
  exact Int.mul_ediv_add_emod _ _
theorem od_st {vars : List Int} {n : Int} (h : ∀ k, k < vars.length → 1 ≤ nth vars k) : StP vars (od vars n vars.length) := by
 refine ⟨od_len _ _ _, fun k hk => ?_⟩
 rw [od_len] at hk
 rw [od_get vars.length (Nat.le_refl _) k hk (by omega)]
 have := h k hk
 exact ⟨Int.emod_nonneg _ (by omega), Int.emod_lt_of_pos _ (by omega)⟩
theorem rank_unrank {vars : List Int} {n : Int} (h : ∀ k, k < vars.length → 1 ≤ nth vars k) (h0 : 0 ≤ n) (h1 : n < pr vars vars.length) : rk vars (od vars n vars.length) vars.length = n := by
 rw [rk_od h h0 h1 _ (Nat.le_refl _), show vars.length - vars.length = 0 by omega]; rfl
end

section
open Go.RowKit
set_option linter.unusedVariables false

/-- Row k of a list of rows. -/
def row (L : List (List Int)) (k : Nat) : List Int := L.getD k []
/-- The first j of the rows that L's rows make with m values more. -/
def nxL (L : List (List Int)) (m j : Nat) : List (List Int) := (List.range j).map fun j => row L (j / m) ++ [((j % m : Nat) : Int)]
theorem nxL_succ (L : List (List Int)) (m j : Nat) : nxL L m (j + 1) = nxL L m j ++ [row L (j / m) ++ [((j % m : Nat) : Int)]] := by unfold nxL; rw [List.range_succ, List.map_append]; rfl
theorem nxL_len (L : List (List Int)) (m j : Nat) : (nxL L m j).length = j := by unfold nxL; simp
theorem nxL_at (L : List (List Int)) {m j i x : Nat} (hx : x < m) (hj : j = i * m + x) : nxL L m (j + 1) = nxL L m j ++ [row L i ++ [(x : Int)]] := by
 rw [nxL_succ]
 subst hj
 rw [show (i * m + x) / m = i by rw [Nat.mul_comm, Nat.mul_add_div (by omega), Nat.div_eq_of_lt hx]; rfl, show (i * m + x) % m = x by rw [Nat.mul_comm, Nat.mul_add_mod, Nat.mod_eq_of_lt hx]]
theorem nxL_row (L : List (List Int)) {m n i x : Nat} (hx : x < m) (hn : i * m + x < n) : row (nxL L m n) (i * m + x) = row L i ++ [(x : Int)] := by
 unfold nxL
 show (List.map _ _).getD _ _ = _
 rw [List.getD_eq_getElem?_getD, List.getElem?_map, List.getElem?_range hn]
 show row L ((i * m + x) / m) ++ [(((i * m + x) % m : Nat) : Int)] = _
 rw [show (i * m + x) / m = i by rw [Nat.mul_comm, Nat.mul_add_div (by omega), Nat.div_eq_of_lt hx]; rfl, show (i * m + x) % m = x by rw [Nat.mul_comm, Nat.mul_add_mod, Nat.mod_eq_of_lt hx]]
/-- The states of the first k variables. -/
def stN (vars : List Int) : Nat → List (List Int)
 | 0 => [[]]
 | k + 1 => nxL (stN vars k) (nth vars k).toNat ((stN vars k).length * (nth vars k).toNat)
def sts (vars : List Int) : List (List Int) := stN vars vars.length
theorem nth_app2 {a b : List Int} {i : Nat} (h : i < a.length) : nth (a ++ b) i = nth a i := by unfold nth; simp [List.getD, List.getElem?_append_left h]
theorem nth_end2 {a : List Int} {x : Int} : nth (a ++ [x]) a.length = x := by unfold nth; simp [List.getD]
theorem rk_cong {vars s s' : List Int} : ∀ {k : Nat}, (∀ v, v < k → nth s v = nth s' v) → rk vars s k = rk vars s' k
 | 0, _ => rfl
 | k + 1, h => by
  show rk vars s k * nth vars k + nth s k = rk vars s' k * nth vars k + nth s' k
  rw [rk_cong (k := k) (fun v hv => h v (by omega)), h k (by omega)]
section
variable {vars : List Int}
theorem stN_len (h : ∀ k, k < vars.length → 1 ≤ nth vars k) : ∀ k, k ≤ vars.length → ((stN vars k).length : Int) = pr vars k
 | 0, _ => rfl
 | k + 1, hk => by
  have ih := stN_len h k (by omega)
  have h1 := h k (by omega)
  show ((nxL _ _ _).length : Int) = pr vars k * nth vars k
  rw [nxL_len, ← ih]
  push_cast
  rw [show ((nth vars k).toNat : Int) = nth vars k by omega]
/-- Row i is a state of the first k variables, its rank i. -/
theorem stN_row (h : ∀ k, k < vars.length → 1 ≤ nth vars k) : ∀ k, k ≤ vars.length → ∀ i, i < (stN vars k).length →
  (row (stN vars k) i).length = k ∧ (∀ v, v < k → 0 ≤ nth (row (stN vars k) i) v ∧ nth (row (stN vars k) i) v < nth vars v) ∧ rk vars (row (stN vars k) i) k = (i : Int)
 | 0, _ => fun i hi => by
  have : i = 0 := by simp [stN] at hi; omega
  subst this
  exact ⟨rfl, fun v hv => absurd hv (by omega), rfl⟩
 | k + 1, hk => fun i hi => by
  have h1 := h k (by omega)
  obtain ⟨m, hm⟩ : ∃ m, m = (nth vars k).toNat := ⟨_, rfl⟩
  have hm1 : (m : Int) = nth vars k := by omega
  have hs : stN vars (k + 1) = nxL (stN vars k) m ((stN vars k).length * m) := by rw [hm]; rfl
  rw [hs, nxL_len] at hi
  have hmp : 0 < m := by omega
  have hi2 : i / m < (stN vars k).length := Nat.div_lt_of_lt_mul (by rw [Nat.mul_comm]; exact hi)
  have hx : i % m < m := Nat.mod_lt _ hmp
  have hd : i / m * m + i % m = i := by rw [Nat.mul_comm]; exact Nat.div_add_mod i m
  obtain ⟨a1, a2, a3⟩ := stN_row h k (by omega) (i / m) hi2
  have hr : row (stN vars (k + 1)) i = row (stN vars k) (i / m) ++ [((i % m : Nat) : Int)] := by
   have := nxL_row (stN vars k) (m := m) (n := (stN vars k).length * m) (i := i / m) hx (by rw [hd]; exact hi)
   rw [hd] at this
   rw [hs]; exact this
  generalize i / m = q at *
  generalize i % m = x at *
  rw [hr]
  refine ⟨by simp [a1], fun v hv => ?_, ?_⟩
  ·by_cases e : v < k
   ·rw [nth_app2 (by omega)]; exact a2 v e
   ·have : v = (row (stN vars k) q).length := by omega
    subst this
    rw [nth_end2, a1]; omega
  ·have e1 : rk vars (row (stN vars k) q ++ [(x : Int)]) k = (q : Int) := by
    rw [← a3]; exact rk_cong fun v hv => nth_app2 (by omega)
   have e2 : nth (row (stN vars k) q ++ [(x : Int)]) k = (x : Int) := by
    have := nth_end2 (a := row (stN vars k) q) (x := (x : Int))
    rwa [a1] at this
   show rk vars _ k * nth vars k + nth _ k = _
   rw [e1, e2, ← hm1, ← hd]
   push_cast
   rfl
/-- A state's rank is its place. -/
theorem stN_rk (h : ∀ k, k < vars.length → 1 ≤ nth vars k) {s : List Int} (hs : StP vars s) : ∀ k, k ≤ vars.length → row (stN vars k) (rk vars s k).toNat = s.take k
 | 0, _ => rfl
 | k + 1, hk => by
  have h1 := h k (by omega)
  have ih := stN_rk h hs k (by omega)
  have hb := rk_bd (vars := vars) (s := s) (n := k) fun v hv => hs.2 v (by rw [hs.1]; omega)
  have hl := stN_len h k (by omega)
  have hx := hs.2 k (by rw [hs.1]; omega)
  obtain ⟨m, hm⟩ : ∃ m, m = (nth vars k).toNat := ⟨_, rfl⟩
  have hm1 : (m : Int) = nth vars k := by omega
  obtain ⟨q, hq⟩ : ∃ q : Nat, rk vars s k = (q : Int) := ⟨(rk vars s k).toNat, by omega⟩
  obtain ⟨x, hx2⟩ : ∃ x : Nat, nth s k = (x : Int) := ⟨(nth s k).toNat, by omega⟩
  rw [hx2] at hx
  have e1 : (rk vars s (k + 1)).toNat = q * m + x := by
   have : rk vars s (k + 1) = rk vars s k * nth vars k + nth s k := rfl
   rw [this, hq, hx2, ← hm1, show (q : Int) * (m : Int) + (x : Int) = ((q * m + x : Nat) : Int) by push_cast; rfl]
   rfl
  have hql : q < (stN vars k).length := by omega
  have hqm : q * m + x < (stN vars k).length * m := by
   have h3 : (q + 1) * m ≤ (stN vars k).length * m := Nat.mul_le_mul_right _ hql
   rw [Nat.add_mul] at h3
   omega
  rw [e1, show stN vars (k + 1) = nxL (stN vars k) m ((stN vars k).length * m) by rw [hm]; rfl, nxL_row _ (by omega) hqm]
  rw [hq] at ih
  have ih' : row (stN vars k) q = s.take k := by simpa using ih
  rw [ih']
  have hkl : k < s.length := by rw [hs.1]; omega
  rw [← List.take_append_getElem hkl]
  have hxx : s[k] = (x : Int) := by rw [← hx2]; unfold nth; simp [List.getD, List.getElem?_eq_getElem hkl]
  rw [hxx]
end
section
variable {t : Tsk}
theorem dom1 (hr : Right t) : ∀ k, k < t.vars.length → 1 ≤ nth t.vars k := fun k hk => (hr.dom k hk).1
theorem sts_len (hr : Right t) : ((sts t.vars).length : Int) = pr t.vars t.vars.length := stN_len (dom1 hr) _ (Nat.le_refl _)
theorem sts_st (hr : Right t) {i : Nat} (hi : i < (sts t.vars).length) : stB t.vars (row (sts t.vars) i) = true := by
 obtain ⟨h1, h2, _⟩ := stN_row (dom1 hr) t.vars.length (Nat.le_refl _) i hi
 unfold stB
 simp only [decide_eq_true_eq]
 exact ⟨h1, fun k hk => h2 k (by rw [← h1]; exact hk)⟩
theorem sts_rk (hr : Right t) {i : Nat} (hi : i < (sts t.vars).length) : rk t.vars (row (sts t.vars) i) t.vars.length = (i : Int) := (stN_row (dom1 hr) t.vars.length (Nat.le_refl _) i hi).2.2
/-- The number of a state. -/
def num (t : Tsk) (s : List Int) : Nat := (rk t.vars s t.vars.length).toNat
theorem num_eq (hr : Right t) {s : List Int} (hs : stB t.vars s = true) : rk t.vars s t.vars.length = (num t s : Int) ∧ num t s < (sts t.vars).length := by
 have hs' : StP t.vars s := by unfold stB at hs; simpa using hs
 have hb := rk_bd (vars := t.vars) (s := s) (n := t.vars.length) fun v hv => hs'.2 v (by rw [hs'.1]; exact hv)
 have hl := sts_len hr
 unfold num
 omega
theorem sts_num (hr : Right t) {s : List Int} (hs : stB t.vars s = true) : row (sts t.vars) (num t s) = s := by
 have hs' : StP t.vars s := by unfold stB at hs; simpa using hs
 have := stN_rk (dom1 hr) hs' t.vars.length (Nat.le_refl _)
 rw [show s.take t.vars.length = s by rw [← hs'.1]; simp] at this
 exact this
theorem num_row (hr : Right t) {i : Nat} (hi : i < (sts t.vars).length) : num t (row (sts t.vars) i) = i := by
 have := sts_rk hr hi
 unfold num
 rw [this]; rfl
/-- The edges: by state, by operator. -/
def egO (t : Tsk) (s : List Int) (i j : Nat) : List (Nat × Nat × Nat) := (List.range j).filterMap fun op => if hoB (opr t.ops op).pre s then some (i, op, num t (nxt t s op)) else none
def egN (t : Tsk) (i : Nat) : List (Nat × Nat × Nat) := (List.range i).flatMap fun i => egO t (row (sts t.vars) i) i t.ops.length
def edges (t : Tsk) : List (Nat × Nat × Nat) := egN t (sts t.vars).length
theorem egO_yes {s : List Int} {i j : Nat} (h : hoB (opr t.ops j).pre s = true) : egO t s i (j + 1) = egO t s i j ++ [(i, j, num t (nxt t s j))] := by unfold egO; rw [List.range_succ, List.filterMap_append]; simp [h]
theorem egO_no {s : List Int} {i j : Nat} (h : hoB (opr t.ops j).pre s = false) : egO t s i (j + 1) = egO t s i j := by unfold egO; rw [List.range_succ, List.filterMap_append]; simp [h]
theorem egO_zero (s : List Int) (i : Nat) : egO t s i 0 = [] := rfl
theorem egN_succ (i : Nat) : egN t (i + 1) = egN t i ++ egO t (row (sts t.vars) i) i t.ops.length := by unfold egN; rw [List.range_succ, List.flatMap_append]; simp
theorem egO_len (s : List Int) (i j : Nat) : (egO t s i j).length ≤ j := by
 unfold egO
 have := List.length_filterMap_le (fun op => if hoB (opr t.ops op).pre s then some (i, op, num t (nxt t s op)) else none) (List.range j)
 simpa using this
theorem egN_len : ∀ i, (egN t i).length ≤ i * t.ops.length
 | 0 => Nat.zero_le _
 | i + 1 => by
  rw [egN_succ, List.length_append]
  have h1 := egN_len i
  have h2 := egO_len (t := t) (row (sts t.vars) i) i t.ops.length
  have h3 : (i + 1) * t.ops.length = i * t.ops.length + t.ops.length := Nat.succ_mul _ _
  omega
def egd (l : List (Nat × Nat × Nat)) (k : Nat) : Nat × Nat × Nat := l.getD k (0, 0, 0)
theorem egd_mem {l : List (Nat × Nat × Nat)} {k : Nat} (h : k < l.length) : egd l k ∈ l := by unfold egd; simp [List.getD, List.getElem?_eq_getElem h]
theorem mem_egd {l : List (Nat × Nat × Nat)} {e : Nat × Nat × Nat} (h : e ∈ l) : ∃ k, k < l.length ∧ egd l k = e := by
 obtain ⟨k, hk, rfl⟩ := List.mem_iff_getElem.1 h
 exact ⟨k, hk, by unfold egd; simp [List.getD, List.getElem?_eq_getElem hk]⟩
theorem mem_edges {e : Nat × Nat × Nat} : e ∈ edges t ↔ e.1 < (sts t.vars).length ∧ e.2.1 < t.ops.length ∧ hoB (opr t.ops e.2.1).pre (row (sts t.vars) e.1) = true ∧ e.2.2 = num t (nxt t (row (sts t.vars) e.1) e.2.1) := by
 obtain ⟨i, op, j⟩ := e
 unfold edges egN egO
 simp only [List.mem_flatMap, List.mem_range, List.mem_filterMap]
 constructor
 ·rintro ⟨i', hi, op', hop, h⟩
  split at h
  ·rename_i hh
   simp only [Option.some.injEq, Prod.mk.injEq] at h
   obtain ⟨rfl, rfl, rfl⟩ := h
   exact ⟨hi, hop, hh, rfl⟩
  ·cases h
 ·rintro ⟨h1, h2, h3, h4⟩
  refine ⟨i, h1, op, h2, ?_⟩
  rw [if_pos h3]
  exact congrArg some (Prod.ext rfl (Prod.ext rfl h4.symm))
end
end

section
open Go Go.RowKit
set_option linter.unusedVariables false

/-- Block b is a row of elements of one cell, type t; the first n cells hold f. -/
def rowGe (w : World) (b : Nat) (t : TypeId) (n : Nat) (f : Nat → Value) : Prop :=
 ∃ c : Array Value, w.heap[b]? = some (.cells c t (0, 0)) ∧ n ≤ c.size ∧ ∀ i, i < n → c[i]? = some (f i)
section
variable {w w' : World} {b : Nat} {t : TypeId} {n : Nat} {f g : Nat → Value}
theorem rowGe.cell (h : rowGe w b t n f) {i : Nat} (hi : i < n) : w.cell? ⟨b, i, none⟩ = some (f i) := by
 obtain ⟨c, hb, _, hc⟩ := h
 simp [World.cell?, hb, hc i hi]
theorem rowGe.frozen (h : rowGe w b t n f) (i : Nat) : w.frozen? ⟨b, i, none⟩ = false := by
 obtain ⟨c, hb, _, _⟩ := h
 simp [World.frozen?, hb]
theorem rowGe.lt (h : rowGe w b t n f) : b < w.heap.size := by
 obtain ⟨c, hb, _, _⟩ := h
 exact (Array.getElem?_eq_some_iff.1 hb).1
theorem rowGe.congr (h : rowGe w b t n f) (e : ∀ i, i < n → f i = g i) : rowGe w b t n g := by
 obtain ⟨c, hb, hn, hc⟩ := h
 exact ⟨c, hb, hn, fun i hi => by rw [hc i hi, e i hi]⟩
theorem rowGe.of_block (h : rowGe w b t n f) (e : w'.heap[b]? = w.heap[b]?) : rowGe w' b t n f := by
 obtain ⟨c, hb, hn, hc⟩ := h
 exact ⟨c, e.trans hb, hn, hc⟩
theorem rowGe.set (h : rowGe w b t n f) (i : Nat) (v : Value) : rowGe (w.setCell ⟨b, i, none⟩ v) b t n (fun j => if j = i then v else f j) := by
 obtain ⟨c, hb, hn, hc⟩ := h
 refine ⟨c.setIfInBounds i v, ?_, by simpa using hn, fun j hj => ?_⟩
 ·simp [World.setCell, Array.getElem?_modify, hb]
 ·rw [Array.getElem?_setIfInBounds]
  by_cases e : j = i
  ·subst e
   simp; omega
  ·rw [if_neg (fun h => e h.symm)]
   show c[j]? = some (if j = i then v else f j)
   rw [if_neg e]
   exact hc j hj
theorem rowGe.up (h : rowGe w b t n f) (hb : Below w.heap.size w w') : rowGe w' b t n f := h.of_block (hb.block b h.lt)
theorem rowGe.alloc (h : rowGe w b t n f) (o : Obj) : rowGe (w.alloc o) b t n f := h.up ((Below.refl _ _).alloc (Nat.le_refl _) _)
theorem rowGe.grown {row : Option Nat} (h : rowGe w b t n f) (hg : w.grownBy w' row) (hr : some b ≠ row) : rowGe w' b t n f := h.of_block (hg.block b h.lt hr)
theorem rowGe.ne {B : Nat} {e : TypeId} {s m : Nat} {v : Value} {xs : List Value} (hr : rowGe w b t n f) (h : w.ownsRow B e s v m xs) (hne : t ≠ e) : some b ≠ v.ownBlock := by
 obtain ⟨c, hb, _⟩ := hr
 rcases h.2 with ⟨rfl, _⟩ | ⟨g, cap, cur, rfl, _, hg, _⟩
 ·simp [Value.ownBlock]
 ·intro he
  have : g = b := by simpa [Value.ownBlock] using he.symm
  subst this
  rw [hb] at hg
  injection hg with hg
  injection hg with _ ht
  exact hne ht
theorem own_mono2 {B B' : Nat} {e : TypeId} {s m : Nat} {v : Value} {xs : List Value} (h : w.ownsRow B e s v m xs) (hb : B' ≤ B) : w.ownsRow B' e s v m xs :=
 ⟨h.1, h.2.imp id fun ⟨g, cap, cur, h1, h2, h3⟩ => ⟨g, cap, cur, h1, Nat.le_trans hb h2, h3⟩⟩
/-- An own row of elements of one cell: its address, and what its cells are. -/
theorem rowGe_own {B : Nat} {v : Value} {xs : List Value} (h : w.ownsRow B t 1 v n xs) (f : Nat → Value) (hf : ∀ i, i < n → xs[i]? = some (f i)) : ∃ A c, v = .slice A n c ∧ (0 < n → ∃ g, A = some ⟨g, 0, none⟩ ∧ B ≤ g ∧ rowGe w g t n f) := by
 have hl := h.1
 rcases h.2 with ⟨rfl, h0⟩ | ⟨g, cap, cur, rfl, hb, hg, hnc, hcm, hcs, htk⟩
 ·exact ⟨none, 0, by rw [h0], fun hp => absurd hp (by omega)⟩
 ·refine ⟨_, cap, rfl, fun _ => ⟨g, rfl, hb, cur, hg, by omega, fun i hi => ?_⟩⟩
  have h1 := hf i hi
  rw [← htk, List.getElem?_take, if_pos (by omega)] at h1
  simpa using h1
end
end

section
open Go Go.RowKit
set_option linter.unusedVariables false

/-- Rows of numbers, done: a slice of slices. -/
def RowsAt (w : World) (B : Nat) (A : Option Addr) (L : List (List Int)) : Prop :=
 0 < L.length → ∃ b, A = some ⟨b, 0, none⟩ ∧ b < B ∧ ∀ k, k < L.length → ∃ S c, w.cell? ⟨b, k, none⟩ = some (.slice S (row L k).length c) ∧ (S = none → c = 0) ∧ IntsAt w B S (row L k)
def GotRows (w : World) (v : Value) (L : List (List Int)) : Prop := ∃ A c, v = .slice A L.length c ∧ RowsAt w w.heap.size A L
/-- A row that lies at the beginning of a block of numbers. -/
def RwI (w : World) (S : Option Addr) (l : List Int) : Prop := l.length ≤ 1000 ∧ (0 < l.length → ∃ b, S = some ⟨b, 0, none⟩ ∧ rowGe w b 3 l.length (fun i => .int .i64 (nth l i)))
def RwS (w : World) (xs : List Value) (L : List (List Int)) : Prop := ∀ k, k < L.length → ∃ S c, xs[k]? = some (.slice S (row L k).length c) ∧ (S = none → c = 0) ∧ RwI w S (row L k)
/-- Rows being gathered. -/
def Bld (w : World) (base : Nat) (v : Value) (L : List (List Int)) : Prop := ∃ xs, w.ownsRow base 22 1 v L.length xs ∧ RwS w xs L
section
variable {w w' : World} {base : Nat} {v v' : Value} {L : List (List Int)} {xs : List Value}
theorem RowsAt.up {A : Option Addr} (h : RowsAt w w.heap.size A L) (hb : Below w.heap.size w w') : RowsAt w' w'.heap.size A L := fun h0 => by
 obtain ⟨b, e, hlt, hc⟩ := h h0
 refine ⟨b, e, Nat.lt_of_lt_of_le hlt hb.size, fun k hk => ?_⟩
 obtain ⟨S, c, h1, h2, h3⟩ := hc k hk
 exact ⟨S, c, (hb.cell (p := ⟨b, k, none⟩) hlt).trans h1, h2, h3.up hb⟩
theorem GotRows.up (h : GotRows w v L) (hb : Below w.heap.size w w') : GotRows w' v L := by
 obtain ⟨A, c, e, h⟩ := h
 exact ⟨A, c, e, h.up hb⟩
theorem RwI.of {S : Option Addr} {l : List Int} (h : RwI w S l) (hb : ∀ b n f, rowGe w b 3 n f → rowGe w' b 3 n f) : RwI w' S l := ⟨h.1, fun h0 => by
 obtain ⟨b, e, hr⟩ := h.2 h0
 exact ⟨b, e, hb _ _ _ hr⟩⟩
theorem RwS.of (h : RwS w xs L) (hb : ∀ b n f, rowGe w b 3 n f → rowGe w' b 3 n f) : RwS w' xs L := fun k hk => by
 obtain ⟨S, c, h1, h2, h3⟩ := h k hk
 exact ⟨S, c, h1, h2, h3.of hb⟩
theorem RwS.up (h : RwS w xs L) (hb : Below w.heap.size w w') : RwS w' xs L := h.of fun _ _ _ hr => hr.up hb
theorem Bld.nil (w : World) (base : Nat) : Bld w base (.slice none 0 0) [] := ⟨[], World.ownsRow_nil _ _ _ _, fun k hk => absurd hk (by simp)⟩
theorem Bld.up (h : Bld w base v L) (hb : Below w.heap.size w w') : Bld w' base v L := by
 obtain ⟨xs, h1, h2⟩ := h
 exact ⟨xs, own_below h1 hb, h2.up hb⟩
theorem row_left {a b : List (List Int)} {k : Nat} (h : k < a.length) : row (a ++ b) k = row a k := by unfold row; simp [List.getD, List.getElem?_append_left h]
theorem row_last {a : List (List Int)} {l : List Int} : row (a ++ [l]) a.length = l := by unfold row; simp [List.getD]
theorem bld_push {S : Option Addr} {c : Nat} {l : List Int} (hown : w.ownsRow base 22 1 v L.length xs) (hr : RwS w xs L) (hS : S = none → c = 0) (hl : RwI w S l) (hg : w.grownBy w' v.ownBlock) (hown' : w'.ownsRow base 22 1 v' (L.length + 1) (xs ++ [.slice S l.length c])) : Bld w' base v' (L ++ [l]) := by
 have key : ∀ b n f, rowGe w b 3 n f → rowGe w' b 3 n f := fun b n f h => h.grown hg (h.ne hown (by decide))
 refine ⟨_, by rw [List.length_append]; exact hown', fun k hk => ?_⟩
 have hxl : xs.length = L.length := by have := hown.1; simpa using this
 by_cases e : k < L.length
 ·obtain ⟨S', c', h1, h2, h3⟩ := hr k e
  rw [row_left e]
  exact ⟨S', c', by rw [List.getElem?_append_left (by omega)]; exact h1, h2, h3.of key⟩
 ·have : k = L.length := by simp at hk; omega
  subst this
  rw [row_last]
  exact ⟨S, c, by rw [← hxl, List.getElem?_append_right (Nat.le_refl _)]; simp, hS, hl.of key⟩
theorem Bld.done (h : Bld w base v L) : GotRows w v L := by
 obtain ⟨xs, hown, hr⟩ := h
 have hxl : xs.length = L.length := by have := hown.1; simpa using this
 obtain ⟨A, c, rfl, hA⟩ := rowGe_own hown (fun k => xs.getD k (.slice none 0 0)) fun i hi => by simp [List.getD, List.getElem?_eq_getElem (show i < xs.length by omega)]
 refine ⟨A, c, rfl, fun h0 => ?_⟩
 obtain ⟨g, e, hg, hrow⟩ := hA h0
 refine ⟨g, e, hrow.lt, fun k hk => ?_⟩
 obtain ⟨S, d, h1, h2, h3⟩ := hr k hk
 refine ⟨S, d, by rw [hrow.cell hk]; simp [List.getD, h1], h2, by have := h3.1; omega, fun hp => ?_⟩
 obtain ⟨b, e2, hb⟩ := h3.2 hp
 exact ⟨b, 0, e2, hb.lt, fun i hi => by simpa using hb.cell hi⟩
end
theorem infoIs : (Tryz.prog.info? 22).map (fun i => (i.zero, i.size, i.bytes)) = some (some (.slice none 0 0), 1, 24) := by kernel_rfl
theorem undIs : Tryz.prog.underlying 134 = some (.slice 22) := by kernel_rfl
theorem infoI6 : (Tryz.prog.info? 3).map (fun i => (i.zero, i.size, i.bytes)) = some (some (.int .i64 0), 1, 8) := by kernel_rfl
theorem undI6 : Tryz.prog.underlying 22 = some (.slice 3) := by kernel_rfl
theorem src_keep {w w1 : World} {A : Option Addr} {m c size : Nat} {news : List Value} (h : SrcAt w A m c size news) (hk : ∀ ad, A = some ad → ∀ j u, news[j]? = some u → w1.cell? (ad.add j) = w.cell? (ad.add j)) : SrcAt w1 A m c size news where
 none := h.none
 len := h.len
 cells := fun ad e j u hj => (hk ad e j u hj).trans (h.cells ad e j u hj)
 one := h.one
theorem grown_fresh {w w' : World} {v : Value} {B : Nat} (hg : w.grownBy w' v.ownBlock) (h : ∀ g, v.ownBlock = some g → B ≤ g) (hB : B ≤ w.heap.size) : Below B w w' := (Below.refl _ _).grown hg hB h

set_option maxRecDepth 100000 in
set_option maxHeartbeats 16000000 in
theorem bstates_any (vars : List Int) (A : Option Addr) (c : Nat) (w : World) (hv : IntsAt w w.heap.size A vars) (hd : ∀ k, k < vars.length → 1 ≤ nth vars k ∧ nth vars k ≤ 64) (hp : pr vars vars.length ≤ 65536) (hn : vars.length ≤ 64) :
  Calls Tryz.prog 64 #[.slice A vars.length c] w fun e w' => (∃ v, e = .returned v ∧ GotRows w' v (sts vars)) ∧ Below w.heap.size w w' := by
 obtain ⟨inf, hi, iz0, iz1, iz2⟩ := info_parts infoI6
 obtain ⟨ing, hj, jz0, jz1, jz2⟩ := info_parts infoIs
 have HD := Lib.hid hd
 have HP := Lib.hid hp
 clear hd hp
 go_enter Tryz.func64, Tryz.ntmps64
 go_wp2
 go_loopw [3, 14] (fun o i wr => ∃ (k : Nat), k ≤ vars.length ∧ i = .int .i64 k ∧ GotRows wr o (stN vars k) ∧ Below w.heap.size w wr) (fun _ i _ => vars.length - (intOf i).toNat)
 case atStart =>
  refine ⟨0, by omega, rfl, ⟨_, _, rfl, fun _ => ⟨w.heap.size + 1, rfl, by simp, fun k hk => ?_⟩⟩, by exact bel⟩
  have : k = 0 := by simp [stN] at hk; omega
  subst this
  exact ⟨some ⟨w.heap.size, 0, none⟩, 0, by simp [stN, row, World.cell?_alloc_at], (fun e => nomatch e), by simp [stN, row], fun h => absurd h (by simp [stN, row])⟩
 case round =>
  obtain ⟨k, hk, rfl, ⟨O, d, rfl, hrows⟩, hbel⟩ := hrel
  have hbz := hbel.size
  obtain ⟨wb, rfl⟩ : ∃ wb : World, wb = wr := ⟨_, rfl⟩
  by_cases hlt : k < vars.length
  ·obtain ⟨b1, o1, rfl, hb1, hc1⟩ := hv.at_ hlt
   have d1 := (hbel.cell (p := ⟨b1, o1 + k, none⟩) hb1).trans (hc1 k hlt)
   clear hc1
   have hdk := HD.out k hlt
   have g1 : b1 < wb.heap.size := by omega
   obtain ⟨m, hm⟩ : ∃ m : Nat, nth vars k = (m : Int) := ⟨(nth vars k).toNat, by omega⟩
   have hS : stN vars (k + 1) = nxL (stN vars k) m ((stN vars k).length * m) := by
    show nxL _ (nth vars k).toNat (_ * (nth vars k).toNat) = _
    rw [hm]; rfl
   have hlen : (stN vars k).length * m ≤ 65536 := by
    have h1 := stN_len (fun k hk => (HD.out k hk).1) (k + 1) (by omega)
    have h2 := pr_mono (fun k hk => (HD.out k hk).1) (show k + 1 ≤ vars.length by omega)
    have h3 := HP.out
    rw [hS, nxL_len] at h1
    omega
   have hrl : ∀ i, i < (stN vars k).length → (row (stN vars k) i).length = k := fun i hi => (stN_row (fun k hk => (HD.out k hk).1) k (by omega) i hi).1
   have HS := Lib.hid hS
   rw [hm] at d1 hdk
   have Hrl := Lib.hid hrl
   generalize stN vars k = L at *
   clear hm hS hrl
   have hll : L.length ≤ 65536 := by
    have : L.length * 1 ≤ L.length * m := Nat.mul_le_mul_left _ (by omega)
    omega
   have Hlen := Lib.hid hlen
   have Hrows := Lib.hid hrows
   clear hlen hrows
   go_wp2
   go_loopw [6, 20] (fun v i wr => ∃ (q : Nat), q ≤ L.length ∧ i = .int .i64 q ∧ Hid (Bld wr wb.heap.size v (nxL L m (q * m))) ∧ Below wb.heap.size wb wr) (fun _ i _ => L.length - (intOf i).toNat)
   case atStart => exact ⟨0, by omega, rfl, Lib.hid (by rw [Nat.zero_mul]; exact Bld.nil _ _), Below.refl _ _⟩
   case round =>
    obtain ⟨q, hq, rfl, hbld, hbx⟩ := hrel
    have hbxz := hbx.size
    by_cases hltq : q < L.length
    ·obtain ⟨b2, eO, hb2, hc2⟩ := Hrows.out (by omega)
     subst eO
     obtain ⟨S, cS, f1, f2, f3⟩ := hc2 q hltq
     have d2 := (hbx.cell (p := ⟨b2, q, none⟩) hb2).trans f1
     have g2 : b2 < wr.heap.size := by omega
     have hrq := Hrl.out q hltq
     obtain ⟨s, hs⟩ : ∃ s, s = row L q := ⟨_, rfl⟩
     have hsl : s.length ≤ 64 := by rw [hs, hrq]; omega
     rw [← hs] at d2 f3
     have Hs := Lib.hid hs
     have q0 : (0 : Int) ≤ (q : Int) := by omega
     have q1 : (q : Int) < (L.length : Int) := by omega
     clear hc2 f1 hrq hs
     have Hs3 := Lib.hid f3
     clear f3
     obtain ⟨wc, rfl⟩ : ∃ wc : World, wc = wr := ⟨_, rfl⟩
     have hqm : (q + 1) * m ≤ L.length * m := Nat.mul_le_mul_right _ (by omega)
     have hqm2 : (q + 1) * m = q * m + m := Nat.succ_mul _ _
     have hlen := Hlen.out
     generalize L.length * m = LM at hqm hlen
     go_wp2
     go_loopw [6, 25] (fun v i wr => ∃ (x : Nat), x ≤ m ∧ i = .int .i64 x ∧ Hid (Bld wr wb.heap.size v (nxL L m (q * m + x))) ∧ Below wb.heap.size wb wr) (fun _ i _ => m - (intOf i).toNat)
     case atStart => exact ⟨0, by omega, rfl, hbld, hbx⟩
     case round =>
      obtain ⟨x, hx, rfl, hbld2, hbyb⟩ := hrel
      have hbyz := hbyb.size
      by_cases hltx : x < m
      ·obtain ⟨xs, hown, hrs⟩ := hbld2.out
       rw [nxL_len] at hown
       have x0 : (0 : Int) ≤ (x : Int) := by omega
       have x1 : (x : Int) < (m : Int) := by omega
       have hqx : q * m + x ≤ 65536 := by omega
       have Hown := Lib.hid hown
       have Hrs := Lib.hid hrs
       have Hs4 := Lib.hid (Hs3.out.up hbyb)
       obtain ⟨N, hN⟩ : ∃ N, N = q * m + x := ⟨_, rfl⟩
       have HN := Lib.hid hN
       rw [← hN] at hown Hown hqx
       clear hN hown hrs hbld2
       go_wp2_with (first
        | (at_builtin; refine wpList_append_src rfl _ _ 22 rfl wr.heap.size 3 inf (.int .i64 0) 1 8 undI6 hi iz0 iz1 iz2 rfl (by decide) _ 0 [] rfl (World.ownsRow_made wr #[] 0 (Nat.le_refl _) (by simp [maxLen]) rfl) S s.length cS (s.map (.int .i64)) rfl (ints_srcAt (Hs4.out.up (by exact bel)) f2) (by unfold maxLen; omega) (by omega) (by simp) ?_; intro v3 w3 hown3 hgrow3 hat3; simp only [Nat.zero_add, List.nil_append] at hown3; have hb3 : Below wr.heap.size wr w3 := grown_below2 (s := 1) (Below.alloc (Below.refl _ _) (Nat.le_refl _) _) (Nat.le_refl _) (World.ownsRow_made wr #[] 0 (Nat.le_refl _) (by simp [maxLen]) rfl) hgrow3; have z3 := hb3.size; have Hown3 := Lib.hid hown3; clear hown3 hgrow3 hat3)
        | (at_builtin; refine wpList_push rfl _ _ 22 rfl wr.heap.size 3 inf (.int .i64 0) 1 8 undI6 hi iz0 iz1 iz2 rfl (by decide) (by decide) v3 s.length (s.map (.int .i64)) rfl (Hown3.out.alloc _) w3.heap.size 3 [.int .i64 (x : Int)] rfl rfl (heap_alloc_new _ _) (one_one rfl) (by omega) (by simp; omega) (B := wr.heap.size) (W := wr) (hb3.alloc z3 _) (Nat.le_refl _) ?_; intro v4 w4 hown4 hgrow4 hat4 hb4; obtain ⟨A4, c4, rfl, hA4⟩ := rowGe_own hown4 (fun i => .int .i64 (nth (s ++ [(x : Int)]) i)) (fun i hi => by have := ic_get (l := s ++ [(x : Int)]) (k := i) (by simp; omega); rwa [← ic_push] at this); have z4 := hb4.size; have HA4 := Lib.hid hA4; clear hown4 hgrow4 hat4 hA4)
        | (at_builtin; refine wpList_push rfl _ _ 134 rfl wb.heap.size 22 ing (.slice none 0 0) 1 24 undIs hj jz0 jz1 jz2 rfl (by decide) (by decide) u6 N xs rfl (own_below Hown.out (hb4.alloc z4 _)) w4.heap.size 22 [.slice A4 (s.length + 1) c4] rfl rfl (heap_alloc_new _ _) (one_one rfl) (by omega) (by simp; omega) (B := wb.heap.size) (W := wb) (hbyb.trans ((hb4.alloc z4 _).mono hbyb.size)) (Nat.le_refl _) ?_; intro v5 w5 hown5 hgrow5 hat5 hb5; have Hown5 := Lib.hid hown5; have Hgrow5 := Lib.hid hgrow5; clear hown5 hgrow5 hat5))
       go_roundw
       case rel =>
        refine ⟨x + 1, by omega, by go_num, Lib.hid ?_, hb5⟩
        ·have h1 : nxL L m (q * m + (x + 1)) = nxL L m N ++ [s ++ [(x : Int)]] := by
          rw [HN.out, ← Nat.add_assoc, nxL_at L hltx rfl, Hs.out]
         rw [h1]
         have hb4' := hb4.alloc z4 (.cells #[.slice A4 (s.length + 1) c4] 22)
         refine bld_push (xs := xs) (S := A4) (c := c4) (l := s ++ [(x : Int)]) (by rw [nxL_len]; exact own_below Hown.out hb4') ?_ ?_ ?_ Hgrow5.out (by rw [nxL_len, List.length_append]; exact Hown5.out)
         ·have := Hrs.out
          rw [← HN.out] at this
          exact this.up hb4'
         ·intro e
          obtain ⟨g, e2, _⟩ := HA4.out (by omega)
          rw [e] at e2; cases e2
         ·refine ⟨by simp; omega, fun _ => ?_⟩
          obtain ⟨g, e2, _, hg⟩ := HA4.out (by omega)
          exact ⟨g, e2, by rw [List.length_append]; exact hg.alloc _⟩
       case measure => simp [intOf]; omega
      ·obtain rfl : x = m := by omega
       have hb := hbld2.out
       rw [← hqm2] at hb
       have Hb := Lib.hid hb
       clear hb hbld2
       go_wp2
       go_roundw
       case rel => exact ⟨q + 1, by omega, by go_num, Hb, hbyb⟩
       case measure => simp [intOf]; omega
    ·obtain rfl : q = L.length := by omega
     have Hd := Lib.hid (show GotRows wr u6 (stN vars (k + 1)) by rw [HS.out]; exact hbld.out.done)
     go_wp2
     go_roundw
     case rel => exact ⟨k + 1, by omega, by go_num, Hd.out, hbel.trans (hbx.mono hbz)⟩
     case measure => simp [intOf]; omega
  ·obtain rfl : k = vars.length := by omega
   have Hr := Lib.hid hrows
   go_wp2
   go_ret
   exact ⟨⟨_, rfl, ⟨O, d, rfl, Hr.out⟩⟩, hbel⟩
end

section
open Go.RowKit
set_option linter.unusedVariables false

theorem pr_full {l : List Int} {k : Nat} (h : ∀ k, k < l.length → 1 ≤ nth l k ∧ nth l k ≤ 64) (hk : k ≤ l.length) : 1 ≤ pr l k ∧ pr l k ≤ pr l l.length :=
 ⟨pr_pos fun j hj => (h j (by omega)).1, pr_mono (fun j hj => (h j hj).1) hk⟩

set_option maxHeartbeats 1000000 in
theorem brank_any (vars s : List Int) (A1 A2 : Option Addr) (c1 c2 : Nat) (w : World) (h1 : IntsAt w w.heap.size A1 vars) (h2 : IntsAt w w.heap.size A2 s) (hst : StP vars s) (hv : ∀ k, k < vars.length → 1 ≤ nth vars k ∧ nth vars k ≤ 64) (hp : pr vars vars.length ≤ 65536) :
  Calls Tryz.prog 31 #[.slice A1 vars.length c1, .slice A2 s.length c2] w fun e w' => e = .returned (.int .i64 (rk vars s s.length)) ∧ Below w.heap.size w w' := by
 have l1 := h1.len
 have l2 := h2.len
 have Hv := Lib.hid hv
 have Hst := Lib.hid hst
 have Hp := Lib.hid hp
 clear hv hst hp
 go_enter Tryz.func31, Tryz.ntmps31
 go_wp2
 go_loopw [5, 9] (fun n i wr => ∃ k : Nat, k ≤ s.length ∧ i = .int .i64 k ∧ n = .int .i64 (rk vars s k) ∧ Below w.heap.size w wr) (fun _ i _ => s.length - (intOf i).toNat)
 case atStart => exact ⟨0, by omega, rfl, rfl, by exact bel⟩
 case round =>
  obtain ⟨k, hk, rfl, rfl, hbel⟩ := hrel
  by_cases hlt : k < s.length
  ·have hlt2 : k < vars.length := by have := Hst.out.1; omega
   obtain ⟨b1, o1, rfl, hb1, hc1⟩ := h1.at_ hlt2
   obtain ⟨b2, o2, rfl, hb2, hc2⟩ := h2.at_ hlt
   have d1 := (hbel.cell (p := ⟨b1, o1 + k, none⟩) hb1).trans (hc1 k hlt2)
   have d2 := (hbel.cell (p := ⟨b2, o2 + k, none⟩) hb2).trans (hc2 k hlt)
   clear hc1 hc2
   have g1 : (k : Int) < vars.length := by omega
   have g2 : (k : Int) < s.length := by omega
   have ha := rk_bd (vars := vars) (s := s) (n := k) fun j hj => Hst.out.2 j (by omega)
   have hb := rk_bd (vars := vars) (s := s) (n := k + 1) fun j hj => Hst.out.2 j (by omega)
   have hm := (pr_full Hv.out (show k + 1 ≤ vars.length by omega)).2
   have hs := Hst.out.2 k hlt
   have hq := Hp.out
   have He := Lib.hid (show rk vars s (k + 1) = rk vars s k * nth vars k + nth s k from rfl)
   have m0 : 0 ≤ rk vars s k * nth vars k := Int.mul_nonneg ha.1 (by omega)
   rw [He.out] at hb
   have x1 : IntKind.i64.wrap (rk vars s k * nth vars k) = rk vars s k * nth vars k := IntWalk.i64_in _ (by omega)
   have x2 : IntKind.i64.wrap (rk vars s k * nth vars k + nth s k) = rk vars s k * nth vars k + nth s k := IntWalk.i64_in _ (by omega)
   clear ha hb hm hs hq
   go_wp2_with fail
   go_quiet (fail)
   clear x1 x2
   go_wp2
   go_roundw
   case rel => exact ⟨k + 1, by omega, by go_num, by rw [He.out], by exact bel⟩
   case measure => simp [intOf]; omega
  ·obtain rfl : k = s.length := by omega
   go_wp2
   go_ret
   exact ⟨rfl, by exact bel⟩
end

end Go.Proofs.YtlkebhiaimijiaaGreatDoor
