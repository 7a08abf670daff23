/- awake; FractionNew. -/
import Derived.Test.YtmdkchoepcjahaaDoorFracR
namespace Go.Proofs.YtmdkchoepcjahaaDoor
set_option linter.unusedSimpArgs false
set_option linter.unusedVariables false
open Go.RowKit
set_option linter.unusedVariables false

set_option maxHeartbeats 1000000 in
theorem awake_any (w : World) : Calls Tryd.prog 5 #[] w fun e w' => e = .returned (.bool true) ∧ Below w.heap.size w w' := by
  have h1 := fun W => new_any 6 (-4) W (by omega) (by omega) (by omega) (by omega)
  have e1 : newF 6 (-4) = (-3, 2, 0) := by decide +kernel
  rw [e1] at h1
  have h2 := fun W => add_any 1 3 1 6 W
  have e2 : addF 1 3 1 6 = (1, 2, 0) := by decide +kernel
  rw [e2] at h2
  have H1 := Lib.hid h1
  have H2 := Lib.hid h2
  clear h1 h2 e1 e2
  have ev := errV_0
  go_enter Tryd.func5, Tryd.ntmps5
  go_wp2_with (first | (go_at_call 20; refine (H1.out _).mono ?_; rintro e w' ⟨rfl, hb⟩; obtain ⟨hc, hf, hz, hlt, hle⟩ := cellsIf hb (by (try simp); exact rfl)) | (go_at_call 7; refine (H2.out _).mono ?_; rintro e w' ⟨rfl, hb⟩; obtain ⟨hc, hf, hz, hlt, hle⟩ := cellsIf hb (by (try simp); exact rfl)))
  go_ret
  refine ⟨rfl, ?_⟩
  repeat (first | exact Below.refl _ _ | refine below_dN ?_ _ | refine Below.drew ?_ | refine Below.alloc ?_ (by first | omega | (simp; done) | (simp; omega)) _ | refine Below.setCell ?_ (by first | omega | (simp; done) | (simp; omega)) _ | refine below_step (by assumption) (by first | omega | (simp; done) | (simp; omega)) ?_)

end Go.Proofs.YtmdkchoepcjahaaDoor
