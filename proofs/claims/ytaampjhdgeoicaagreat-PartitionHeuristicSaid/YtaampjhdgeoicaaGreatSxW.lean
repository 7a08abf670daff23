/- simplex: the chapter's example. -/
import Derived.Test.YtaampjhdgeoicaaGreatSxH
namespace Go.Proofs.YtaampjhdgeoicaaGreat
set_option linter.unusedSimpArgs false
set_option linter.unusedVariables false
open Go Go.RowKit
set_option linter.unusedVariables false

/-- The fractions of a row of numbers. -/
def frq (f : Nat → Rat) (N : Nat) : List (Int × Int) := (List.range N).map fun j => ((f j).num, ((f j).den : Int))
theorem frq_len (f : Nat → Rat) (N : Nat) : (frq f N).length = N := by unfold frq; simp
theorem frq_at {f : Nat → Rat} {N j : Nat} (h : j < N) : fv (frq f N) j = (f j).num ∧ fx (frq f N) j = (f j).den := by unfold frq fv fx; simp [List.getD, h]
theorem fr_facts {w : World} {b N : Nat} {f : Nat → Rat} (h : FrRow w b N f) (hN : N ≤ 1000) : FactsAt w w.heap.size (some ⟨b, 0, none⟩) (frq f N) :=
 ⟨by rw [frq_len]; omega, fun _ => ⟨b, 0, rfl, h.lt, fun k hk => by
  rw [frq_len] at hk
  obtain ⟨h1, h2⟩ := frq_at (f := f) hk
  rw [h1, h2, Nat.zero_add]
  exact ⟨h.num hk, h.den hk⟩⟩⟩
instance {r : Rat} : Decidable (Rep r) := by unfold Rep; infer_instance
end Go.Proofs.YtaampjhdgeoicaaGreat
