/- Contracts of the reference's made and New. -/
import Derived.Test.YtmdkchoepcjahaaDoorFracC
namespace Go.Proofs.YtmdkchoepcjahaaDoor
set_option linter.unusedSimpArgs false
set_option linter.unusedVariables false
open Go.RowKit
set_option linter.unusedVariables false

/-- made. -/
def madeF (minus : Bool) (num den : Int) : Int × Int × Int :=
  if num / gI num den > 1099511627776 ∨ den / gI num den > 1048576 then (0, 0, 5)
  else (if minus then -(num / gI num den) else num / gI num den, den / gI num den, 0)

/-- What a call leaves: a fraction, a code. -/
def RetFC (r : Int × Int × Int) (w : World) (e : Ending) (w' : World) : Prop :=
  e = .returned (.tuple #[.agg #[.int .i64 r.1, .int .i64 r.2.1], .int .i64 r.2.2]) ∧ Below w.heap.size w w'
theorem RetFC.mk {r : Int × Int × Int} {w : World} {e : Ending} {w' : World} (h : e = .returned (.tuple #[.agg #[.int .i64 r.1, .int .i64 r.2.1], .int .i64 r.2.2])) (hb : Below w.heap.size w w') : RetFC r w e w' := ⟨h, hb⟩

theorem below_of_dN {w w' : World} {n : Nat} (h : Below (w.drewN n).heap.size (w.drewN n) w') : Below w.heap.size w w' := ⟨h.os, h.tape, h.output, h.size, h.block⟩

theorem tdiv_neg_case (n g : Int) (h : n < 0) : n.tdiv g = -((-n) / g) := by
  have : n = -(-n) := by omega
  rw [this, Int.neg_tdiv, Int.tdiv_eq_ediv_of_nonneg (by omega)]
  simp
theorem newG_made (n d : Int) (hd : 1 ≤ d) : newG n d = madeF (decide (n < 0)) (aI n) d := by
  unfold newG madeF
  rw [gI_aI]
  have g1 := gI_pos n d hd
  by_cases h : n < 0
  · have e : aI n = -n := by unfold aI; omega
    have e2 := tdiv_neg_case n (gI n d) h
    have b := ediv_bound (-n) (gI n d) g1 (by omega)
    have e3 : aI (n.tdiv (gI n d)) = (-n) / gI n d := by rw [e2]; unfold aI; omega
    rw [e3, e2, e]
    simp [h]
  · have e : aI n = n := by unfold aI; omega
    have e2 : n.tdiv (gI n d) = n / gI n d := Int.tdiv_eq_ediv_of_nonneg (by omega)
    have b := ediv_bound n (gI n d) g1 (by omega)
    have e3 : aI (n.tdiv (gI n d)) = n / gI n d := by rw [e2]; unfold aI; omega
    rw [e3, e2, e]
    simp [h]
theorem newF_made (n d : Int) (h0 : d ≠ 0) (h1 : n ≠ -9223372036854775808) (h2 : d ≠ -9223372036854775808) :
    newF n d = madeF (decide (n < 0) != decide (d < 0)) (aI n) (aI d) := by
  unfold newF
  rw [if_neg h0, if_neg (by omega)]
  by_cases h : d < 0
  · rw [if_pos h, newG_made _ _ (by omega)]
    have e1 : aI d = -d := by unfold aI; omega
    have e2 : aI (-n) = aI n := by unfold aI; omega
    rw [e1, e2]
    by_cases hn : n = 0
    · subst hn
      simp [h, madeF, aI]
    · congr 1
      rw [Bool.eq_iff_iff]; simp; omega
  · rw [if_neg h, newG_made _ _ (by omega)]
    have e1 : aI d = d := by unfold aI; omega
    rw [e1]; simp [h]

end Go.Proofs.YtmdkchoepcjahaaDoor
