/- Contract of Floor. -/
import Derived.Test.YtmdkchoepcjahaaDoorFracH
namespace Go.Proofs.YtmdkchoepcjahaaDoor
set_option linter.unusedSimpArgs false
set_option linter.unusedVariables false
open Go.RowKit
set_option linter.unusedVariables false

set_option maxHeartbeats 1000000 in
theorem floor_any (n d : Int) (w : World) :
    Calls Tryd.prog 13 #[.agg #[.int .i64 n, .int .i64 d]] w fun e' w' => e' = .returned (.int .i64 (floorF n d)) ∧ Below w.heap.size w w' := by
  have h1 := valP n d
  obtain ⟨b1, b2, b3, b4, _⟩ := prB_bounds h1
  have v1 := fun W => value_any n d W
  obtain ⟨t1, t2, t3, t4, t5, t6⟩ := tdiv_facts _ _ b1 b3 b4
  have hc : floorF n d = valN n d / valD n d := rfl
  rw [t5] at hc
  generalize valN n d = N at *
  generalize valD n d = D at *
  have V1 := Lib.hid v1
  have Hc := Lib.hid hc
  clear v1 hc h1 t5 t6
  by_cases q1 : N < N.tdiv D * D
  · have q2 : decide (N < N.tdiv D * D) = true := by simpa using q1
    have Q := Lib.hid q1
    go_enter Tryd.func13, Tryd.ntmps13
    go_wp2_with fail; refine (V1.out _).mono ?_; rintro e w1 ⟨rfl, hb1⟩; obtain ⟨hc1, hf1, hz1, hlt1, hle1⟩ := cellsIf hb1 (by (try simp); exact rfl); (try have : w.heap.size < w1.heap.size := (by omega)); (try have : w.heap.size < w1.heap.size + 1 := (by omega)); (try have : w.heap.size < w1.heap.size + 1 + 1 := (by omega)); (try have : w.heap.size + 1 < w1.heap.size := (by omega)); (try have : w.heap.size + 1 < w1.heap.size + 1 := (by omega)); (try have : w.heap.size + 1 < w1.heap.size + 1 + 1 := (by omega)); (try have : w.heap.size + 1 + 1 < w1.heap.size := (by omega)); (try have : w.heap.size + 1 + 1 < w1.heap.size + 1 := (by omega)); (try have : w.heap.size + 1 + 1 < w1.heap.size + 1 + 1 := (by omega))
    go_wp2
    go_ret
    refine ⟨ret_int (by rw [Hc.out, if_pos (by have := Q.out; omega)]), ?_⟩
    repeat (first | exact Below.refl _ _ | refine below_dN ?_ _ | refine Below.drew ?_ | refine Below.alloc ?_ (by first | omega | (simp; done) | (simp; omega)) _ | refine Below.setCell ?_ (by first | omega | (simp; done) | (simp; omega)) _ | refine below_step (by assumption) (by first | omega | (simp; done) | (simp; omega)) ?_)
  · have q2 : decide (N < N.tdiv D * D) = false := by simpa using q1
    have Q := Lib.hid q1
    go_enter Tryd.func13, Tryd.ntmps13
    go_wp2_with fail; refine (V1.out _).mono ?_; rintro e w1 ⟨rfl, hb1⟩; obtain ⟨hc1, hf1, hz1, hlt1, hle1⟩ := cellsIf hb1 (by (try simp); exact rfl); (try have : w.heap.size < w1.heap.size := (by omega)); (try have : w.heap.size < w1.heap.size + 1 := (by omega)); (try have : w.heap.size < w1.heap.size + 1 + 1 := (by omega)); (try have : w.heap.size + 1 < w1.heap.size := (by omega)); (try have : w.heap.size + 1 < w1.heap.size + 1 := (by omega)); (try have : w.heap.size + 1 < w1.heap.size + 1 + 1 := (by omega)); (try have : w.heap.size + 1 + 1 < w1.heap.size := (by omega)); (try have : w.heap.size + 1 + 1 < w1.heap.size + 1 := (by omega)); (try have : w.heap.size + 1 + 1 < w1.heap.size + 1 + 1 := (by omega))
    go_wp2
    go_ret
    refine ⟨ret_int (by rw [Hc.out, if_neg (by have := Q.out; omega)]), ?_⟩
    repeat (first | exact Below.refl _ _ | refine below_dN ?_ _ | refine Below.drew ?_ | refine Below.alloc ?_ (by first | omega | (simp; done) | (simp; omega)) _ | refine Below.setCell ?_ (by first | omega | (simp; done) | (simp; omega)) _ | refine below_step (by assumption) (by first | omega | (simp; done) | (simp; omega)) ?_)

end Go.Proofs.YtmdkchoepcjahaaDoor
