/- base.Facts, base.Effects, base.Tasks at equal tasks. -/
import Derived.Test.YthhfckjddknmeaaMgB
import Derived.Test.YthhfckjddknmeaaMgA
import Derived.Test.YthhfckjddknmeaaMgD
import Derived.Deep.DeepCutAuto
namespace Go.Proofs.Ythhfckjddknmeaa
set_option linter.unusedSimpArgs false
set_option linter.unusedVariables false
open Go Go.RowKit
set_option linter.unusedVariables false

set_option maxRecDepth 100000 in
set_option maxHeartbeats 2000000 in
theorem bfacts_same (l : List (Int × Int)) (A1 A2 : Option Addr) (c1 c2 : Nat) (w : World) (h1 : FactsAt w w.heap.size A1 l) (h2 : FactsAt w w.heap.size A2 l) :
    Calls Try.prog 26 #[.slice A1 l.length c1, .slice A2 l.length c2] w fun e w' => e = .returned (.bool true) ∧ Below w.heap.size w w' := by
  have l1 := h1.len
  go_enter Try.func26, Try.ntmps26
  go_wp2
  go_loopw [13] (fun i wr => ∃ k : Nat, k ≤ l.length ∧ i = .int .i64 k ∧ Below w.heap.size w wr) (fun i _ => l.length - (intOf i).toNat)
  case atStart => exact ⟨0, by omega, rfl, Below.refl _ _⟩
  case round =>
    obtain ⟨k, hk, rfl, hbel⟩ := hrel
    by_cases hlt : k < l.length
    · obtain ⟨b1, o1, e1, hb1, hc1⟩ := h1.at_ hlt
      obtain ⟨b2, o2, e2, hb2, hc2⟩ := h2.at_ hlt
      subst e1 e2
      have d1 := (hbel.cell (p := ⟨b1, o1 + k * 2, none⟩) hb1).trans (hc1 k hlt).1
      have d2 := (hbel.cell (p := ⟨b1, o1 + k * 2 + 1, none⟩) hb1).trans (hc1 k hlt).2
      have d3 := (hbel.cell (p := ⟨b2, o2 + k * 2, none⟩) hb2).trans (hc2 k hlt).1
      have d4 := (hbel.cell (p := ⟨b2, o2 + k * 2 + 1, none⟩) hb2).trans (hc2 k hlt).2
      have g1 : (k : Int) < l.length := by omega
      have g0 : (0 : Int) ≤ (k : Int) := by omega
      clear hc1 hc2
      have hne : ∀ w, (binOp .neq 28 (.agg #[.int .i64 (fv l k), .int .i64 (fx l k)]) (.agg #[.int .i64 (fv l k), .int .i64 (fx l k)])).run Try.prog w = .ok (.bool false) w := by
        intro w; simp [go_sem]
      go_wp2_with fail
      go_quiet (fail)
      go_wp2
      go_roundw
      case rel => exact ⟨k + 1, by omega, by go_num, by repeat (first | exact Below.refl _ _ | refine below_dN ?_ _ | refine Below.drew ?_ | refine Below.alloc ?_ (by first | omega | (simp; done) | (simp; omega)) _ | refine Below.setCell ?_ (by first | omega | (simp; done) | (simp; omega)) _ | refine below_step (by assumption) (by first | omega | (simp; done) | (simp; omega)) ?_)⟩
      case measure => simp [intOf]; omega
    · go_wp2
      go_ret
      exact ⟨rfl, hbel⟩

end Go.Proofs.Ythhfckjddknmeaa
