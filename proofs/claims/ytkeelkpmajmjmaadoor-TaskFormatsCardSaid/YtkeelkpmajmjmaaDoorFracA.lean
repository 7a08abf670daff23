/- Contracts of the fraction package's small functions: gcd, abs, Proper (the program's and the reference's). -/
import Derived.Test.YtkeelkpmajmjmaaDoorBase
namespace Go.Proofs.YtkeelkpmajmjmaaDoor
set_option linter.unusedSimpArgs false
set_option linter.unusedVariables false
open Go.RowKit

/-- Int.gcd as an Int. -/
def gI (a b : Int) : Int := ((Int.gcd a b : Nat) : Int)

theorem gI_zero (a : Int) (h : 0 ≤ a) : gI a 0 = a := by
  unfold gI; simp; omega
theorem gI_step (a b : Int) : gI b (a % b) = gI a b := by
  unfold gI
  have h := Int.gcd_add_mul_right_left b (a % b) (a / b)
  have e : a % b + a / b * b = a := by have := Int.emod_add_mul_ediv a b; rw [Int.mul_comm]; exact this
  rw [e] at h
  rw [h, Int.gcd_comm]

/-- The absolute value. -/
def aI (n : Int) : Int := (n.natAbs : Int)
theorem aI_nonneg (n : Int) : 0 ≤ aI n := by unfold aI; omega
theorem aI_le (n b : Int) (h1 : -b ≤ n) (h2 : n ≤ b) : aI n ≤ b := by unfold aI; omega
theorem gI_aI (n d : Int) : gI (aI n) d = gI n d := by
  unfold gI aI; simp [Int.gcd]

/-- Proper. -/
def prB (n d : Int) : Bool := decide (1 ≤ d ∧ d ≤ 1048576 ∧ -1099511627776 ≤ n ∧ n ≤ 1099511627776 ∧ gI n d = 1)

end Go.Proofs.YtkeelkpmajmjmaaDoor
