/- The texts at the limits: what is read of them; plain. -/
import Derived.Test.YtebgaicapjpohaaDoorSeB
namespace Go.Proofs.YtebgaicapjpohaaDoor
set_option linter.unusedSimpArgs false
set_option linter.unusedVariables false
open Go
set_option linter.unusedVariables false

def isOkL (x : List Sx ⊕ (Int × Int × Int)) : Bool := match x with
  | .inl l => decide (0 < l.length)
  | .inr _ => false
theorem okL_of {x : List Sx ⊕ (Int × Int × Int)} (h : isOkL x = true) : ∃ l, x = .inl l ∧ 0 < l.length := by
  cases x with
  | inl l => exact ⟨l, rfl, of_decide_eq_true h⟩
  | inr _ => cases h
/-- What the law asks of a text. -/
def LimOk (k : Int) (T : List UInt8) (want l c : Int) : Prop := T.length ≤ 1000000 ∧ ((want = 0 ∧ ∃ L, readP T = .inl L ∧ (0 < L.length ∨ k = 3)) ∨ (want ≠ 0 ∧ readP T = .inr (l, c, want)))
theorem seven {m : Int} (h1 : -3 ≤ m) (h2 : m ≤ 3) : m = -3 ∨ m = -2 ∨ m = -1 ∨ m = 0 ∨ m = 1 ∨ m = 2 ∨ m = 3 := by omega
def limA (m : Int) : List UInt8 := repP [40] (32 + m).toNat ++ repP [41] (32 + m).toNat
def limC (m : Int) : List UInt8 := repP [97] (32 + m).toNat
def numT (d : UInt8) : List UInt8 := [49, 48, 57, 57, 53, 49, 49, 54, 50, 55, 55, 55, d]
theorem lenA {m : Int} (h2 : m ≤ 3) : (limA m).length ≤ 1000000 := by
  unfold limA
  rw [List.length_append, repP_len, repP_len]
  simp; omega
theorem lenC {m : Int} (h2 : m ≤ 3) : (limC m).length ≤ 1000000 := by
  unfold limC
  rw [repP_len]
  simp; omega
theorem limA_le {m : Int} (h1 : -3 ≤ m) (h2 : m ≤ 0) : LimOk 0 (limA m) 0 1 1 := by
  refine ⟨lenA (by omega), .inl ⟨rfl, ?_⟩⟩
  have e0 : isOkL (readP (limA (-3))) = true := by kernel_rfl
  have e1 : isOkL (readP (limA (-2))) = true := by kernel_rfl
  have e2 : isOkL (readP (limA (-1))) = true := by kernel_rfl
  have e3 : isOkL (readP (limA (0))) = true := by kernel_rfl
  have h : isOkL (readP (limA m)) = true := by
    have : m = -3 ∨ m = -2 ∨ m = -1 ∨ m = 0 := by omega
    rcases this with rfl | rfl | rfl | rfl <;> assumption
  obtain ⟨L, h1, h2⟩ := okL_of h
  exact ⟨L, h1, .inl h2⟩
theorem limA_gt {m : Int} (h1 : 0 < m) (h2 : m ≤ 3) : LimOk 0 (limA m) 5 1 33 := by
  refine ⟨lenA h2, .inr ⟨by decide, ?_⟩⟩
  have e1 : readP (limA 1) = .inr (1, 33, 5) := by kernel_rfl
  have e2 : readP (limA 2) = .inr (1, 33, 5) := by kernel_rfl
  have e3 : readP (limA 3) = .inr (1, 33, 5) := by kernel_rfl
  have : m = 1 ∨ m = 2 ∨ m = 3 := by omega
  rcases this with rfl | rfl | rfl <;> assumption
theorem limB_le {m : Int} (h1 : -3 ≤ m) (h2 : m ≤ 0) : LimOk 1 (repP [97, 32] (4096 + m).toNat) 0 1 1 := by
  refine ⟨by rw [repP_len]; simp; omega, .inl ⟨rfl, ?_⟩⟩
  obtain ⟨l, h3, h4⟩ := read_as (4096 + m).toNat (by omega)
  exact ⟨l, h3, .inl (by omega)⟩
theorem limB_gt {m : Int} (h1 : 0 < m) (h2 : m ≤ 3) : LimOk 1 (repP [97, 32] (4096 + m).toNat) 5 1 8193 :=
  ⟨by rw [repP_len]; simp; omega, .inr ⟨by decide, read_over (4096 + m).toNat (by omega) (by omega)⟩⟩
theorem limC_le {m : Int} (h1 : -3 ≤ m) (h2 : m ≤ 0) : LimOk 2 (limC m) 0 1 1 := by
  refine ⟨lenC (by omega), .inl ⟨rfl, ?_⟩⟩
  have e0 : isOkL (readP (limC (-3))) = true := by kernel_rfl
  have e1 : isOkL (readP (limC (-2))) = true := by kernel_rfl
  have e2 : isOkL (readP (limC (-1))) = true := by kernel_rfl
  have e3 : isOkL (readP (limC (0))) = true := by kernel_rfl
  have h : isOkL (readP (limC m)) = true := by
    have : m = -3 ∨ m = -2 ∨ m = -1 ∨ m = 0 := by omega
    rcases this with rfl | rfl | rfl | rfl <;> assumption
  obtain ⟨L, h1, h2⟩ := okL_of h
  exact ⟨L, h1, .inl h2⟩
theorem limC_gt {m : Int} (h1 : 0 < m) (h2 : m ≤ 3) : LimOk 2 (limC m) 8 1 1 := by
  refine ⟨lenC h2, .inr ⟨by decide, ?_⟩⟩
  have e1 : readP (limC 1) = .inr (1, 1, 8) := by kernel_rfl
  have e2 : readP (limC 2) = .inr (1, 1, 8) := by kernel_rfl
  have e3 : readP (limC 3) = .inr (1, 1, 8) := by kernel_rfl
  have : m = 1 ∨ m = 2 ∨ m = 3 := by omega
  rcases this with rfl | rfl | rfl <;> assumption
theorem limD_le {m : Int} (h1 : -3 ≤ m) (h2 : m ≤ 0) : LimOk 3 (repP [32] (65536 + m).toNat) 0 1 1 := by
  refine ⟨by rw [repP_len]; simp; omega, .inl ⟨rfl, ?_⟩⟩
  rw [repP_one]
  exact ⟨[], read_blanks _ (by omega), .inr rfl⟩
theorem limD_gt {m : Int} (h1 : 0 < m) (h2 : m ≤ 3) : LimOk 3 (repP [32] (65536 + m).toNat) 5 0 0 :=
  ⟨by rw [repP_len]; simp; omega, .inr ⟨by decide, read_long _ (by rw [repP_len]; simp; omega)⟩⟩
theorem limE_le : ∀ d : UInt8, d = 51 ∨ d = 52 ∨ d = 53 ∨ d = 54 → LimOk 4 (45 :: numT d) 0 1 1 := by
  intro d hd
  refine ⟨by show 14 ≤ 1000000; decide, .inl ⟨rfl, ?_⟩⟩
  have h : isOkL (readP (45 :: numT d)) = true := by
    rcases hd with rfl | rfl | rfl | rfl <;> kernel_rfl
  obtain ⟨L, h1, h2⟩ := okL_of h
  exact ⟨L, h1, .inl h2⟩
theorem limE_gt : ∀ d : UInt8, d = 55 ∨ d = 56 ∨ d = 57 → LimOk 4 (45 :: numT d) 1 1 1 := by
  intro d hd
  refine ⟨by show 14 ≤ 1000000; decide, .inr ⟨by decide, ?_⟩⟩
  rcases hd with rfl | rfl | rfl <;> kernel_rfl
end Go.Proofs.YtebgaicapjpohaaDoor
