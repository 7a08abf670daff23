/- base.Apply (an operator of the task, a proper state). -/
import Derived.Test.YtenmeiplglbafaaTaskK
import Derived.Laws.AppendOwnNone
namespace Go.Proofs.Ytenmeiplglbafaa
set_option linter.unusedSimpArgs false
set_option linter.unusedVariables false
open Go.RowKit
set_option linter.unusedVariables false

set_option maxRecDepth 4000 in
set_option maxHeartbeats 2000000 in
theorem bapply_no (t : Tsk) (p : Lies) (s : List Int) (A : Option Addr) (c : Nat) (k : Nat) (w : World) (ht : TaskAt w w.heap.size t p) (hs : IntsAt w w.heap.size A s) (hlt : k < t.ops.length) (e4 : hoB (opr t.ops k).pre s = false) :
    Calls Try.prog 70 #[TaskV t p, .slice A s.length c, .int .i64 k] w fun e w' => e = .returned (.tuple #[.slice none 0 0, .bool false]) ∧ Below w.heap.size w w' := by
  obtain ⟨av, ai, ag, ao, cv, ci, cg, co⟩ := p
  unfold TaskV at *
  dsimp only at *
  have l4 := ht.ops.len
  have ls := hs.len
  obtain ⟨b, o, S, d, T, d2, ea, hb, q0, qs, q1, q2, f2, q3, e5⟩ := ht.ops.at2 (Below.refl _ w) hlt
  dsimp only at ea
  subst ea
  have g2 : b < w.heap.size := hb
  have j1 := f2.len
  have j2 := e5.len
  have k2 := fun w1 (hb : Below w.heap.size w w1) => bholds_any (opr t.ops k).pre s S A d c w1 (f2.up hb) (hs.up hb)
  go_enter Try.func70, Try.ntmps70
  go_wp2_with fail; refine (k2 _ (by repeat (first | exact Below.refl _ _ | refine below_dN ?_ _ | refine Below.drew ?_ | refine Below.alloc ?_ (by first | omega | (simp; done) | (simp; omega)) _ | refine Below.setCell ?_ (by first | omega | (simp; done) | (simp; omega)) _ | refine below_step (by assumption) (by first | omega | (simp; done) | (simp; omega)) ?_))).mono ?_; rintro e w1 ⟨rfl, hb1⟩; obtain ⟨hc1, hf1, hz1, hlt1, hle1⟩ := cellsIf hb1 (by (try simp); exact rfl); (try have : w.heap.size < w1.heap.size := (by omega)); (try have : w.heap.size < w1.heap.size + 1 := (by omega)); (try have : w.heap.size < w1.heap.size + 1 + 1 := (by omega)); (try have : w.heap.size + 1 < w1.heap.size := (by omega)); (try have : w.heap.size + 1 < w1.heap.size + 1 := (by omega)); (try have : w.heap.size + 1 < w1.heap.size + 1 + 1 := (by omega)); (try have : w.heap.size + 1 + 1 < w1.heap.size := (by omega)); (try have : w.heap.size + 1 + 1 < w1.heap.size + 1 := (by omega)); (try have : w.heap.size + 1 + 1 < w1.heap.size + 1 + 1 := (by omega))
  go_wp2
  refine bodyPost_ret (v := .tuple #[.slice none 0 0, .bool false]) (by simp [results, Try.results70, go_sem]) rfl ⟨rfl, by repeat (first | exact Below.refl _ _ | refine below_dN ?_ _ | refine Below.drew ?_ | refine Below.alloc ?_ (by first | omega | (simp; done) | (simp; omega)) _ | refine Below.setCell ?_ (by first | omega | (simp; done) | (simp; omega)) _ | refine below_step (by assumption) (by first | omega | (simp; done) | (simp; omega)) ?_)⟩

end Go.Proofs.Ytenmeiplglbafaa
