/- simplex: lists of rows in memory. -/
import Derived.Test.YtaampjhdgeoicaaSxW
import Derived.Test.YtaampjhdgeoicaaSxQ
import Derived.Test.YtaampjhdgeoicaaOpenG
namespace Go.Proofs.Ytaampjhdgeoicaa
set_option linter.unusedSimpArgs false
set_option linter.unusedVariables false
open Go Go.RowKit
set_option linter.unusedVariables false

/-- The rows' slices as a list of values. -/
structure Sls (w : World) (R : List (List (Int × Int))) (xs : List Value) : Prop where
  len : xs.length = R.length
  at_ : ∀ i, i < R.length → ∃ S cS, xs[i]? = some (.slice S (mr R i).length cS) ∧ (S = none → cS = 0) ∧ FactsAt w w.heap.size S (mr R i)
theorem mr_lt {R : List (List (Int × Int))} {o : List (Int × Int)} {i : Nat} (h : i < R.length) : mr (R ++ [o]) i = mr R i := by unfold mr; simp [List.getD, List.getElem?_append_left h]
theorem mr_eq {R : List (List (Int × Int))} {o : List (Int × Int)} : mr (R ++ [o]) R.length = o := by unfold mr; simp [List.getD]
theorem mx_of_own {w : World} {B : Nat} {v : Value} {R : List (List (Int × Int))} {xs : List Value} (h : w.ownsRow B 22 1 v R.length xs) (hx : Sls w R xs) (hl : R.length ≤ 1000) : ∃ A c, v = .slice A R.length c ∧ MxAt w A R := by
  rcases h.2 with ⟨rfl, h0⟩ | ⟨b, cap, cur, rfl, hb, hg, hh⟩
  · exact ⟨none, 0, by rw [h0], by omega, fun hp => by omega⟩
  · refine ⟨_, cap, rfl, by omega, fun _ => ⟨b, 0, rfl, (Array.getElem?_eq_some_iff.1 hg).1, fun i hi => ?_⟩⟩
    obtain ⟨S, cS, h1, h2, h3⟩ := hx.at_ i hi
    exact ⟨S, cS, by rw [Nat.zero_add]; exact (World.ownsRow.cellAt h i (by omega)).trans h1, h2, h3⟩


end Go.Proofs.Ytaampjhdgeoicaa
