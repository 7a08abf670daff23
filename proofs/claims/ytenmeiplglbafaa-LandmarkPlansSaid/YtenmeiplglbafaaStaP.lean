/- All states of a task in a list, by rank: plain. Edges. No program in sight. -/
import Derived.Test.YtenmeiplglbafaaRankP
import Derived.Test.YtenmeiplglbafaaTaskO
import Derived.Test.YtenmeiplglbafaaGoodP
namespace Go.Proofs.Ytenmeiplglbafaa
set_option linter.unusedSimpArgs false
set_option linter.unusedVariables false
open Go.RowKit
set_option linter.unusedVariables false

/-- Row k of a list of rows. -/
def row (L : List (List Int)) (k : Nat) : List Int := L.getD k []
/-- The first j of the rows that L's rows make with m values more. -/
def nxL (L : List (List Int)) (m j : Nat) : List (List Int) := (List.range j).map fun j => row L (j / m) ++ [((j % m : Nat) : Int)]
theorem nxL_succ (L : List (List Int)) (m j : Nat) : nxL L m (j + 1) = nxL L m j ++ [row L (j / m) ++ [((j % m : Nat) : Int)]] := by unfold nxL; rw [List.range_succ, List.map_append]; rfl
theorem nxL_len (L : List (List Int)) (m j : Nat) : (nxL L m j).length = j := by unfold nxL; simp
theorem nxL_at (L : List (List Int)) {m j i x : Nat} (hx : x < m) (hj : j = i * m + x) : nxL L m (j + 1) = nxL L m j ++ [row L i ++ [(x : Int)]] := by
  rw [nxL_succ]
  subst hj
  rw [show (i * m + x) / m = i by rw [Nat.mul_comm, Nat.mul_add_div (by omega), Nat.div_eq_of_lt hx]; rfl, show (i * m + x) % m = x by rw [Nat.mul_comm, Nat.mul_add_mod, Nat.mod_eq_of_lt hx]]
theorem nxL_row (L : List (List Int)) {m n i x : Nat} (hx : x < m) (hn : i * m + x < n) : row (nxL L m n) (i * m + x) = row L i ++ [(x : Int)] := by
  unfold nxL
  show (List.map _ _).getD _ _ = _
  rw [List.getD_eq_getElem?_getD, List.getElem?_map, List.getElem?_range hn]
  show row L ((i * m + x) / m) ++ [(((i * m + x) % m : Nat) : Int)] = _
  rw [show (i * m + x) / m = i by rw [Nat.mul_comm, Nat.mul_add_div (by omega), Nat.div_eq_of_lt hx]; rfl, show (i * m + x) % m = x by rw [Nat.mul_comm, Nat.mul_add_mod, Nat.mod_eq_of_lt hx]]
/-- The states of the first k variables. -/
def stN (vars : List Int) : Nat → List (List Int)
  | 0 => [[]]
  | k + 1 => nxL (stN vars k) (nth vars k).toNat ((stN vars k).length * (nth vars k).toNat)
def sts (vars : List Int) : List (List Int) := stN vars vars.length
theorem nth_app2 {a b : List Int} {i : Nat} (h : i < a.length) : nth (a ++ b) i = nth a i := by unfold nth; simp [List.getD, List.getElem?_append_left h]
theorem nth_end2 {a : List Int} {x : Int} : nth (a ++ [x]) a.length = x := by unfold nth; simp [List.getD]
theorem rk_cong {vars s s' : List Int} : ∀ {k : Nat}, (∀ v, v < k → nth s v = nth s' v) → rk vars s k = rk vars s' k
  | 0, _ => rfl
  | k + 1, h => by
    show rk vars s k * nth vars k + nth s k = rk vars s' k * nth vars k + nth s' k
    rw [rk_cong (k := k) (fun v hv => h v (by omega)), h k (by omega)]
section
variable {vars : List Int}
theorem stN_len (h : ∀ k, k < vars.length → 1 ≤ nth vars k) : ∀ k, k ≤ vars.length → ((stN vars k).length : Int) = pr vars k
  | 0, _ => rfl
  | k + 1, hk => by
    have ih := stN_len h k (by omega)
    have h1 := h k (by omega)
    show ((nxL _ _ _).length : Int) = pr vars k * nth vars k
    rw [nxL_len, ← ih]
    push_cast
    rw [show ((nth vars k).toNat : Int) = nth vars k by omega]
/-- Row i is a state of the first k variables, its rank i. -/
theorem stN_row (h : ∀ k, k < vars.length → 1 ≤ nth vars k) : ∀ k, k ≤ vars.length → ∀ i, i < (stN vars k).length →
    (row (stN vars k) i).length = k ∧ (∀ v, v < k → 0 ≤ nth (row (stN vars k) i) v ∧ nth (row (stN vars k) i) v < nth vars v) ∧ rk vars (row (stN vars k) i) k = (i : Int)
  | 0, _ => fun i hi => by
    have : i = 0 := by simp [stN] at hi; omega
    subst this
    exact ⟨rfl, fun v hv => absurd hv (by omega), rfl⟩
  | k + 1, hk => fun i hi => by
    have h1 := h k (by omega)
    obtain ⟨m, hm⟩ : ∃ m, m = (nth vars k).toNat := ⟨_, rfl⟩
    have hm1 : (m : Int) = nth vars k := by omega
    have hs : stN vars (k + 1) = nxL (stN vars k) m ((stN vars k).length * m) := by rw [hm]; rfl
    rw [hs, nxL_len] at hi
    have hmp : 0 < m := by omega
    have hi2 : i / m < (stN vars k).length := Nat.div_lt_of_lt_mul (by rw [Nat.mul_comm]; exact hi)
    have hx : i % m < m := Nat.mod_lt _ hmp
    have hd : i / m * m + i % m = i := by rw [Nat.mul_comm]; exact Nat.div_add_mod i m
    obtain ⟨a1, a2, a3⟩ := stN_row h k (by omega) (i / m) hi2
    have hr : row (stN vars (k + 1)) i = row (stN vars k) (i / m) ++ [((i % m : Nat) : Int)] := by
      have := nxL_row (stN vars k) (m := m) (n := (stN vars k).length * m) (i := i / m) hx (by rw [hd]; exact hi)
      rw [hd] at this
      rw [hs]; exact this
    generalize i / m = q at *
    generalize i % m = x at *
    rw [hr]
    refine ⟨by simp [a1], fun v hv => ?_, ?_⟩
    · by_cases e : v < k
      · rw [nth_app2 (by omega)]; exact a2 v e
      · have : v = (row (stN vars k) q).length := by omega
        subst this
        rw [nth_end2, a1]; omega
    · have e1 : rk vars (row (stN vars k) q ++ [(x : Int)]) k = (q : Int) := by
        rw [← a3]; exact rk_cong fun v hv => nth_app2 (by omega)
      have e2 : nth (row (stN vars k) q ++ [(x : Int)]) k = (x : Int) := by
        have := nth_end2 (a := row (stN vars k) q) (x := (x : Int))
        rwa [a1] at this
      show rk vars _ k * nth vars k + nth _ k = _
      rw [e1, e2, ← hm1, ← hd]
      push_cast
      rfl
/-- A state's rank is its place. -/
theorem stN_rk (h : ∀ k, k < vars.length → 1 ≤ nth vars k) {s : List Int} (hs : StP vars s) : ∀ k, k ≤ vars.length → row (stN vars k) (rk vars s k).toNat = s.take k
  | 0, _ => rfl
  | k + 1, hk => by
    have h1 := h k (by omega)
    have ih := stN_rk h hs k (by omega)
    have hb := rk_bd (vars := vars) (s := s) (n := k) fun v hv => hs.2 v (by rw [hs.1]; omega)
    have hl := stN_len h k (by omega)
    have hx := hs.2 k (by rw [hs.1]; omega)
    obtain ⟨m, hm⟩ : ∃ m, m = (nth vars k).toNat := ⟨_, rfl⟩
    have hm1 : (m : Int) = nth vars k := by omega
    obtain ⟨q, hq⟩ : ∃ q : Nat, rk vars s k = (q : Int) := ⟨(rk vars s k).toNat, by omega⟩
    obtain ⟨x, hx2⟩ : ∃ x : Nat, nth s k = (x : Int) := ⟨(nth s k).toNat, by omega⟩
    rw [hx2] at hx
    have e1 : (rk vars s (k + 1)).toNat = q * m + x := by
      have : rk vars s (k + 1) = rk vars s k * nth vars k + nth s k := rfl
      rw [this, hq, hx2, ← hm1, show (q : Int) * (m : Int) + (x : Int) = ((q * m + x : Nat) : Int) by push_cast; rfl]
      rfl
    have hql : q < (stN vars k).length := by omega
    have hqm : q * m + x < (stN vars k).length * m := by
      have h3 : (q + 1) * m ≤ (stN vars k).length * m := Nat.mul_le_mul_right _ hql
      rw [Nat.add_mul] at h3
      omega
    rw [e1, show stN vars (k + 1) = nxL (stN vars k) m ((stN vars k).length * m) by rw [hm]; rfl, nxL_row _ (by omega) hqm]
    rw [hq] at ih
    have ih' : row (stN vars k) q = s.take k := by simpa using ih
    rw [ih']
    have hkl : k < s.length := by rw [hs.1]; omega
    rw [← List.take_append_getElem hkl]
    have hxx : s[k] = (x : Int) := by rw [← hx2]; unfold nth; simp [List.getD, List.getElem?_eq_getElem hkl]
    rw [hxx]
end
section
variable {t : Tsk}
theorem dom1 (hr : Right t) : ∀ k, k < t.vars.length → 1 ≤ nth t.vars k := fun k hk => (hr.dom k hk).1
theorem sts_len (hr : Right t) : ((sts t.vars).length : Int) = pr t.vars t.vars.length := stN_len (dom1 hr) _ (Nat.le_refl _)
theorem sts_st (hr : Right t) {i : Nat} (hi : i < (sts t.vars).length) : stB t.vars (row (sts t.vars) i) = true := by
  obtain ⟨h1, h2, _⟩ := stN_row (dom1 hr) t.vars.length (Nat.le_refl _) i hi
  unfold stB
  simp only [decide_eq_true_eq]
  exact ⟨h1, fun k hk => h2 k (by rw [← h1]; exact hk)⟩
theorem sts_rk (hr : Right t) {i : Nat} (hi : i < (sts t.vars).length) : rk t.vars (row (sts t.vars) i) t.vars.length = (i : Int) := (stN_row (dom1 hr) t.vars.length (Nat.le_refl _) i hi).2.2
/-- The number of a state. -/
def num (t : Tsk) (s : List Int) : Nat := (rk t.vars s t.vars.length).toNat
theorem num_eq (hr : Right t) {s : List Int} (hs : stB t.vars s = true) : rk t.vars s t.vars.length = (num t s : Int) ∧ num t s < (sts t.vars).length := by
  have hs' : StP t.vars s := by unfold stB at hs; simpa using hs
  have hb := rk_bd (vars := t.vars) (s := s) (n := t.vars.length) fun v hv => hs'.2 v (by rw [hs'.1]; exact hv)
  have hl := sts_len hr
  unfold num
  omega
theorem sts_num (hr : Right t) {s : List Int} (hs : stB t.vars s = true) : row (sts t.vars) (num t s) = s := by
  have hs' : StP t.vars s := by unfold stB at hs; simpa using hs
  have := stN_rk (dom1 hr) hs' t.vars.length (Nat.le_refl _)
  rw [show s.take t.vars.length = s by rw [← hs'.1]; simp] at this
  exact this
theorem num_row (hr : Right t) {i : Nat} (hi : i < (sts t.vars).length) : num t (row (sts t.vars) i) = i := by
  have := sts_rk hr hi
  unfold num
  rw [this]; rfl
/-- The edges: by state, by operator. -/
def egO (t : Tsk) (s : List Int) (i j : Nat) : List (Nat × Nat × Nat) := (List.range j).filterMap fun op => if hoB (opr t.ops op).pre s then some (i, op, num t (nxt t s op)) else none
def egN (t : Tsk) (i : Nat) : List (Nat × Nat × Nat) := (List.range i).flatMap fun i => egO t (row (sts t.vars) i) i t.ops.length
def edges (t : Tsk) : List (Nat × Nat × Nat) := egN t (sts t.vars).length
theorem egO_yes {s : List Int} {i j : Nat} (h : hoB (opr t.ops j).pre s = true) : egO t s i (j + 1) = egO t s i j ++ [(i, j, num t (nxt t s j))] := by unfold egO; rw [List.range_succ, List.filterMap_append]; simp [h]
theorem egO_no {s : List Int} {i j : Nat} (h : hoB (opr t.ops j).pre s = false) : egO t s i (j + 1) = egO t s i j := by unfold egO; rw [List.range_succ, List.filterMap_append]; simp [h]
theorem egO_zero (s : List Int) (i : Nat) : egO t s i 0 = [] := rfl
theorem egN_succ (i : Nat) : egN t (i + 1) = egN t i ++ egO t (row (sts t.vars) i) i t.ops.length := by unfold egN; rw [List.range_succ, List.flatMap_append]; simp
theorem egO_len (s : List Int) (i j : Nat) : (egO t s i j).length ≤ j := by
  unfold egO
  have := List.length_filterMap_le (fun op => if hoB (opr t.ops op).pre s then some (i, op, num t (nxt t s op)) else none) (List.range j)
  simpa using this
theorem egN_len : ∀ i, (egN t i).length ≤ i * t.ops.length
  | 0 => Nat.zero_le _
  | i + 1 => by
    rw [egN_succ, List.length_append]
    have h1 := egN_len i
    have h2 := egO_len (t := t) (row (sts t.vars) i) i t.ops.length
    have h3 : (i + 1) * t.ops.length = i * t.ops.length + t.ops.length := Nat.succ_mul _ _
    omega
def egd (l : List (Nat × Nat × Nat)) (k : Nat) : Nat × Nat × Nat := l.getD k (0, 0, 0)
theorem egd_mem {l : List (Nat × Nat × Nat)} {k : Nat} (h : k < l.length) : egd l k ∈ l := by unfold egd; simp [List.getD, List.getElem?_eq_getElem h]
theorem mem_egd {l : List (Nat × Nat × Nat)} {e : Nat × Nat × Nat} (h : e ∈ l) : ∃ k, k < l.length ∧ egd l k = e := by
  obtain ⟨k, hk, rfl⟩ := List.mem_iff_getElem.1 h
  exact ⟨k, hk, by unfold egd; simp [List.getD, List.getElem?_eq_getElem hk]⟩
theorem mem_edges {e : Nat × Nat × Nat} : e ∈ edges t ↔ e.1 < (sts t.vars).length ∧ e.2.1 < t.ops.length ∧ hoB (opr t.ops e.2.1).pre (row (sts t.vars) e.1) = true ∧ e.2.2 = num t (nxt t (row (sts t.vars) e.1) e.2.1) := by
  obtain ⟨i, op, j⟩ := e
  unfold edges egN egO
  simp only [List.mem_flatMap, List.mem_range, List.mem_filterMap]
  constructor
  · rintro ⟨i', hi, op', hop, h⟩
    split at h
    · rename_i hh
      simp only [Option.some.injEq, Prod.mk.injEq] at h
      obtain ⟨rfl, rfl, rfl⟩ := h
      exact ⟨hi, hop, hh, rfl⟩
    · cases h
  · rintro ⟨h1, h2, h3, h4⟩
    refine ⟨i, h1, op, h2, ?_⟩
    rw [if_pos h3]
    exact congrArg some (Prod.ext rfl (Prod.ext rfl h4.symm))
end

end Go.Proofs.Ytenmeiplglbafaa
