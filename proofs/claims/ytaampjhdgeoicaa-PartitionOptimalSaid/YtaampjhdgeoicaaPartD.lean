/- The reference's in, Uniform. -/
import Derived.Test.YtaampjhdgeoicaaPartAR
import Derived.Test.YtaampjhdgeoicaaPartC
import Derived.Test.YtaampjhdgeoicaaMfA
import Derived.Test.YtaampjhdgeoicaaMfB
namespace Go.Proofs.Ytaampjhdgeoicaa
set_option linter.unusedSimpArgs false
set_option linter.unusedVariables false
open Go.RowKit
set_option linter.unusedVariables false

set_option maxRecDepth 4000 in
set_option maxHeartbeats 1000000 in
theorem rin_any (ops : List Int) (S : Option Addr) (c : Nat) (q o : Int) (w : World) (h : IntsAt w w.heap.size S ops) :
    Calls Try.prog 69 #[.agg #[.slice S ops.length c, .int .i64 q], .int .i64 o] w fun e w' => e = .returned (.bool (inN ops o ops.length)) ∧ Below w.heap.size w w' := by
  have l1 := h.len
  go_enter Try.func69, Try.ntmps69
  go_wp2
  go_loopw [10] (fun i wr => ∃ k : Nat, k ≤ ops.length ∧ i = .int .i64 k ∧ inN ops o k = false ∧ Below w.heap.size w wr) (fun i _ => ops.length - (intOf i).toNat)
  case atStart => exact ⟨0, by omega, rfl, rfl, by repeat (first | exact Below.refl _ _ | refine below_dN ?_ _ | refine Below.drew ?_ | refine Below.alloc ?_ (by first | omega | (simp; done) | (simp; omega)) _ | refine Below.setCell ?_ (by first | omega | (simp; done) | (simp; omega)) _ | refine below_step (by assumption) (by first | omega | (simp; done) | (simp; omega)) ?_)⟩
  case round =>
    obtain ⟨k, hk, rfl, hB, hbel⟩ := hrel
    have HB := Lib.hid hB
    clear hB
    by_cases hlt : k < ops.length
    · obtain ⟨b, o', ea, hb, d1⟩ := h.at2 hbel hlt
      subst ea
      have hbz := hbel.size
      cases e1 : (nth ops k == o)
      · go_wp2
        go_roundw
        case rel => exact ⟨k + 1, by omega, by go_num, (by rw [inN_succ, HB.out, e1]; rfl), hbel⟩
        case measure => simp [intOf]; omega
      · have He := Lib.hid (show inN ops o ops.length = true from anyB_true.2 ⟨k, hlt, e1⟩)
        go_wp2
        go_ret
        exact ⟨bool_ret He.out.symm, hbel⟩
    · obtain rfl : k = ops.length := by omega
      go_wp2
      go_ret
      exact ⟨bool_ret HB.out.symm, hbel⟩

theorem leaR_succ (costs : List Int) (l : List Cut) (ops : List Int) (i : Nat) : leaR costs l ops (i + 1) = if cmpF (shF costs l (nth ops i)).1 (shF costs l (nth ops i)).2.1 (leaR costs l ops i).1 (leaR costs l ops i).2 < 0 then ((shF costs l (nth ops i)).1, (shF costs l (nth ops i)).2.1) else leaR costs l ops i := rfl

def RetFk (l : List (Int × Int)) (c : Int) (w : World) (e : Ending) (w' : World) : Prop := (∃ v, e = .returned (.tuple #[v, .int .i64 c]) ∧ GotFs w' v l) ∧ Below w.heap.size w w'

end Go.Proofs.Ytaampjhdgeoicaa
