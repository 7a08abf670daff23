/- Uniform and Greedy, plain. No program in sight. -/
import Derived.Test.YtaampjhdgeoicaaMfC
import Derived.Test.YtaampjhdgeoicaaMfB
namespace Go.Proofs.Ytaampjhdgeoicaa
set_option linter.unusedSimpArgs false
set_option linter.unusedVariables false
open Go.RowKit
set_option linter.unusedVariables false

/-- One of the first i operators of a cut is o. -/
def inN (ops : List Int) (o : Int) (i : Nat) : Bool := anyB i fun t => nth ops t == o
theorem inN_succ (ops : List Int) (o : Int) (i : Nat) : inN ops o (i + 1) = (inN ops o i || nth ops i == o) := anyB_succ _ _
def inB (x : Cut) (o : Int) : Bool := inN x.ops o x.ops.length
/-- How many of the first k cuts contain an operator. -/
def cnt (l : List Cut) (o : Int) : Nat → Nat
  | 0 => 0
  | k + 1 => if inB (cut l k) o then cnt l o k + 1 else cnt l o k
theorem cnt_le (l : List Cut) (o : Int) : ∀ k, cnt l o k ≤ k
  | 0 => Nat.le_refl _
  | k + 1 => by have := cnt_le l o k; show (if inB (cut l k) o then cnt l o k + 1 else cnt l o k) ≤ _; split <;> omega
theorem cnt_mono (l : List Cut) (o : Int) {k : Nat} : ∀ {n : Nat}, k ≤ n → cnt l o k ≤ cnt l o n
  | 0, h => by obtain rfl : k = 0 := by omega
               exact Nat.le_refl _
  | n + 1, h => by
    by_cases e : k = n + 1
    · subst e; exact Nat.le_refl _
    · have := cnt_mono l o (k := k) (n := n) (by omega)
      show _ ≤ (if inB (cut l n) o then cnt l o n + 1 else cnt l o n); split <;> omega
theorem cnt_pos {l : List Cut} {o : Int} {k n : Nat} (hk : k < n) (h : inB (cut l k) o = true) : 1 ≤ cnt l o n := by
  have h1 := cnt_mono l o (k := k + 1) (n := n) (by omega)
  have h2 : cnt l o (k + 1) = cnt l o k + 1 := by show (if inB (cut l k) o then _ else _) = _; rw [if_pos h]
  omega
/-- .. and of the next one's first i operators. -/
def manyV (l : List Cut) (k i j : Nat) : Int := if inN (cut l k).ops j i then (cnt l j k : Int) + 1 else (cnt l j k : Int)
theorem manyV_zero (l : List Cut) (k j : Nat) : manyV l k 0 j = cnt l j k := rfl
theorem manyV_end (l : List Cut) (k j : Nat) : manyV l k (cut l k).ops.length j = cnt l j (k + 1) := by
  unfold manyV
  show _ = (((if inB (cut l k) j then cnt l j k + 1 else cnt l j k) : Nat) : Int)
  unfold inB
  split <;> omega
theorem asc_lt {ops : List Int} (h : ∀ i, i < ops.length → 0 < i → nth ops (i - 1) < nth ops i) : ∀ {j i : Nat}, i < j → j < ops.length → nth ops i < nth ops j
  | 0, i, hi, _ => absurd hi (by omega)
  | j + 1, i, hi, hj => by
    have h1 := h (j + 1) hj (by omega)
    simp only [Nat.add_sub_cancel] at h1
    by_cases e : i = j
    · subst e; exact h1
    · have := asc_lt h (i := i) (j := j) (by omega) (by omega); omega
theorem inN_new {ops : List Int} (h : ∀ i, i < ops.length → 0 < i → nth ops (i - 1) < nth ops i) {i : Nat} (hi : i < ops.length) : inN ops (nth ops i) i = false := by
  unfold inN
  rw [anyB_false]
  intro t ht
  have := asc_lt h ht hi
  simp; omega
theorem manyV_succ {l : List Cut} {k i o : Nat} (h : ∀ i, i < (cut l k).ops.length → 0 < i → nth (cut l k).ops (i - 1) < nth (cut l k).ops i) (hi : i < (cut l k).ops.length) (ho : nth (cut l k).ops i = (o : Int)) (j : Nat) :
    manyV l k (i + 1) j = if j = o then manyV l k i o + 1 else manyV l k i j := by
  have h1 := inN_new h hi
  rw [ho] at h1
  unfold manyV
  rw [inN_succ, ho]
  by_cases e : j = o
  · subst e; rw [h1]; simp
  · have : ((o : Int) == (j : Int)) = false := by simp; omega
    rw [this, if_neg e]; simp

/-- An operator's share. -/
def shF (costs : List Int) (l : List Cut) (o : Int) : Int × Int × Int := newF (nth costs o.toNat) (cnt l o l.length)
theorem shF_ok {costs : List Int} {l : List Cut} (g : Good38 costs l) {k i : Nat} (hk : k < l.length) (hi : i < (cut l k).ops.length) :
    ∃ p q, shF costs l (nth (cut l k).ops i) = (p, q, 0) ∧ prB p q = true ∧ p * 1 ≤ 1048576 * q := by
  have g1 := g.op k hk i hi
  have g2 := g.cost (nth (cut l k).ops i).toNat (by omega)
  have c1 : 1 ≤ cnt l (nth (cut l k).ops i) l.length := cnt_pos hk (anyB_true.2 ⟨i, hi, by simp⟩)
  have c2 := cnt_le l (nth (cut l k).ops i) l.length
  have c3 := g.many
  obtain ⟨p, q, e1, e2, e3⟩ := newF_small (n := nth costs (nth (cut l k).ops i).toNat) (d := (cnt l (nth (cut l k).ops i) l.length : Int)) (by omega) (by omega) (by omega) (by omega)
  refine ⟨p, q, e1, e2, ?_⟩
  have b := prB_bounds e2
  have e4 := (Rat.divInt_eq_divInt_iff (by omega) (by omega)).1 e3
  generalize hC : (cnt l (nth (cut l k).ops i) l.length : Int) = C at *
  generalize nth costs (nth (cut l k).ops i).toNat = N at *
  have h1 : p * C ≤ 1048576 * q * C := by
    have t1 : N * q ≤ 1048576 * q := Int.mul_le_mul_of_nonneg_right g2.2 (by omega)
    have t2 : 1048576 * q * 1 ≤ 1048576 * q * C := Int.mul_le_mul_of_nonneg_left (by omega) (by omega)
    omega
  rw [Int.mul_one]
  exact Int.le_of_mul_le_mul_right h1 (by omega)

/-- The least share of the first i operators: the reference's, the program's. -/
def leaR (costs : List Int) (l : List Cut) (ops : List Int) : Nat → Int × Int
  | 0 => (1048576, 1)
  | i + 1 => if cmpF (shF costs l (nth ops i)).1 (shF costs l (nth ops i)).2.1 (leaR costs l ops i).1 (leaR costs l ops i).2 < 0 then ((shF costs l (nth ops i)).1, (shF costs l (nth ops i)).2.1) else leaR costs l ops i
def leaP (costs : List Int) (l : List Cut) (ops : List Int) : Nat → Int × Int
  | 0 => (0, 0)
  | i + 1 => if i = 0 ∨ cmpF (shF costs l (nth ops i)).1 (shF costs l (nth ops i)).2.1 (leaP costs l ops i).1 (leaP costs l ops i).2 < 0 then ((shF costs l (nth ops i)).1, (shF costs l (nth ops i)).2.1) else leaP costs l ops i
theorem lea_eq {costs : List Int} {l : List Cut} (g : Good38 costs l) {k : Nat} (hk : k < l.length) : ∀ i, 0 < i → i ≤ (cut l k).ops.length → leaP costs l (cut l k).ops i = leaR costs l (cut l k).ops i
  | 0, h, _ => absurd h (by omega)
  | i + 1, _, hi => by
    obtain ⟨p, q, e1, e2, e3⟩ := shF_ok g hk (i := i) (by omega)
    by_cases h0 : i = 0
    · subst h0
      unfold leaP leaR
      rw [e1, if_pos (.inl rfl)]
      show (p, q) = if cmpF p q 1048576 1 < 0 then (p, q) else (1048576, 1)
      split
      · rfl
      · rename_i h
        have h2 : prB 1048576 1 = true := by decide +kernel
        rw [cmpF_lt e2 h2] at h
        obtain ⟨a, b⟩ := proper_eq e2 h2 (by omega)
        rw [a, b]
    · have ih := lea_eq g hk i (by omega) (by omega)
      unfold leaP leaR
      rw [ih]
      simp only [h0, false_or]
/-- The uniform partition of the first k cuts. -/
def uniL (costs : List Int) (l : List Cut) (k : Nat) : List (Int × Int) := (List.range k).map fun j => leaR costs l (cut l j).ops (cut l j).ops.length
theorem uniL_succ (costs : List Int) (l : List Cut) (k : Nat) : uniL costs l (k + 1) = uniL costs l k ++ [leaR costs l (cut l k).ops (cut l k).ops.length] := by unfold uniL; rw [List.range_succ, List.map_append]; rfl
theorem uniL_len (costs : List Int) (l : List Cut) (k : Nat) : (uniL costs l k).length = k := by unfold uniL; simp
def uniR (costs : List Int) (l : List Cut) : List (Int × Int) := if chk38 costs l = 0 then uniL costs l l.length else []

/-- The least remaining cost of the first i operators; what remains. -/
def minO (f : Nat → Int) (ops : List Int) : Nat → Int
  | 0 => 1048576
  | i + 1 => min (minO f ops i) (f (nth ops i).toNat)
def subO (f : Nat → Int) (ops : List Int) (m : Int) (i j : Nat) : Int := if inN ops j i then f j - m else f j
theorem subO_zero (f : Nat → Int) (ops : List Int) (m : Int) (j : Nat) : subO f ops m 0 j = f j := rfl
theorem subO_succ {f : Nat → Int} {ops : List Int} {m : Int} {i o : Nat} (h : ∀ i, i < ops.length → 0 < i → nth ops (i - 1) < nth ops i) (hi : i < ops.length) (ho : nth ops i = (o : Int)) (j : Nat) :
    subO f ops m (i + 1) j = if j = o then subO f ops m i o - m else subO f ops m i j := by
  have h1 := inN_new h hi
  rw [ho] at h1
  unfold subO
  rw [inN_succ, ho]
  by_cases e : j = o
  · subst e; rw [h1]; simp
  · have : ((o : Int) == (j : Int)) = false := by simp; omega
    rw [this, if_neg e]; simp
def lefK (costs : List Int) (l : List Cut) : Nat → Nat → Int
  | 0 => nth costs
  | k + 1 => subO (lefK costs l k) (cut l k).ops (minO (lefK costs l k) (cut l k).ops (cut l k).ops.length) (cut l k).ops.length
def minK (costs : List Int) (l : List Cut) (k : Nat) : Int := minO (lefK costs l k) (cut l k).ops (cut l k).ops.length
theorem minO_le (f : Nat → Int) (ops : List Int) : ∀ i, minO f ops i ≤ 1048576
  | 0 => Int.le_refl _
  | i + 1 => by have := minO_le f ops i; unfold minO; omega
theorem minO_at (f : Nat → Int) (ops : List Int) : ∀ {i j : Nat}, j < i → minO f ops i ≤ f (nth ops j).toNat
  | 0, j, h => absurd h (by omega)
  | i + 1, j, h => by
    unfold minO
    by_cases e : j = i
    · subst e; omega
    · have := minO_at f ops (i := i) (j := j) (by omega); omega
theorem minO_ge {f : Nat → Int} {ops : List Int} : ∀ {i : Nat}, (∀ j, j < i → 0 ≤ f (nth ops j).toNat) → 0 ≤ minO f ops i
  | 0, _ => by unfold minO; omega
  | i + 1, h => by have := minO_ge (f := f) (ops := ops) (i := i) (fun j hj => h j (by omega)); have := h i (by omega); unfold minO; omega
/-- What remains is between 0 and the cost. -/
theorem lefK_bd {costs : List Int} {l : List Cut} (g : Good38 costs l) : ∀ (k : Nat), k ≤ l.length → ∀ j, j < costs.length → 0 ≤ lefK costs l k j ∧ lefK costs l k j ≤ 1048576
  | 0, _, j, hj => g.cost j hj
  | k + 1, hk, j, hj => by
    have ih := lefK_bd g k (by omega)
    have hf : ∀ t, t < (cut l k).ops.length → 0 ≤ lefK costs l k (nth (cut l k).ops t).toNat := fun t ht => by
      have := g.op k (by omega) t ht
      exact (ih _ (by omega)).1
    show 0 ≤ subO (lefK costs l k) (cut l k).ops (minO (lefK costs l k) (cut l k).ops (cut l k).ops.length) (cut l k).ops.length j ∧ subO (lefK costs l k) (cut l k).ops (minO (lefK costs l k) (cut l k).ops (cut l k).ops.length) (cut l k).ops.length j ≤ _
    unfold subO
    have h0 := minO_ge hf
    have h1 := ih j hj
    split
    · rename_i h
      obtain ⟨t, ht, e⟩ := anyB_true.1 h
      have h2 := minO_at (lefK costs l k) (cut l k).ops ht
      simp only [beq_iff_eq] at e
      rw [e] at h2
      simp only [Int.toNat_natCast] at h2
      omega
    · exact h1
def greL (costs : List Int) (l : List Cut) (k : Nat) : List (Int × Int) := (List.range k).map fun j => (minK costs l j, 1)
theorem greL_succ (costs : List Int) (l : List Cut) (k : Nat) : greL costs l (k + 1) = greL costs l k ++ [(minK costs l k, 1)] := by unfold greL; rw [List.range_succ, List.map_append]; rfl
theorem greL_len (costs : List Int) (l : List Cut) (k : Nat) : (greL costs l k).length = k := by unfold greL; simp
def greR (costs : List Int) (l : List Cut) : List (Int × Int) := if chk38 costs l = 0 then greL costs l l.length else []

end Go.Proofs.Ytaampjhdgeoicaa
