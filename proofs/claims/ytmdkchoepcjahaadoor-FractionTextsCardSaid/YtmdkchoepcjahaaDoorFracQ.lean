/- Contracts of the reference's plain, Cmp, Floor, Ceil. -/
import Derived.Test.YtmdkchoepcjahaaDoorFracH
import Derived.Test.YtmdkchoepcjahaaDoorFracP
namespace Go.Proofs.YtmdkchoepcjahaaDoor
set_option linter.unusedSimpArgs false
set_option linter.unusedVariables false
open Go.RowKit
set_option linter.unusedVariables false

set_option maxHeartbeats 1000000 in
theorem rplain_any (n d : Int) (w : World) :
    Calls Tryd.prog 27 #[.agg #[.int .i64 n, .int .i64 d]] w fun e w' => e = .returned (.agg #[.int .i64 (valN n d), .int .i64 (valD n d)]) ∧ Below w.heap.size w w' := by
  by_cases p : prB n d = true
  · have e1 : valN n d = n := by unfold valN; rw [if_pos p]
    have e2 : valD n d = d := by unfold valD; rw [if_pos p]
    rw [e1, e2]
    clear e1 e2
    go_enter Tryd.func27, Tryd.ntmps27
    go_wp2_with fail; refine (rproper_any _ _ _).mono ?_; rintro e w1 ⟨rfl, hb1⟩; obtain ⟨hc1, hf1, hz1, hlt1, hle1⟩ := cellsIf hb1 (by (try simp); exact rfl); (try have : w.heap.size < w1.heap.size := (by omega)); (try have : w.heap.size < w1.heap.size + 1 := (by omega)); (try have : w.heap.size < w1.heap.size + 1 + 1 := (by omega)); (try have : w.heap.size + 1 < w1.heap.size := (by omega)); (try have : w.heap.size + 1 < w1.heap.size + 1 := (by omega)); (try have : w.heap.size + 1 < w1.heap.size + 1 + 1 := (by omega)); (try have : w.heap.size + 1 + 1 < w1.heap.size := (by omega)); (try have : w.heap.size + 1 + 1 < w1.heap.size + 1 := (by omega)); (try have : w.heap.size + 1 + 1 < w1.heap.size + 1 + 1 := (by omega))
    go_wp2
    refine bodyPost_ret (v := .agg #[.int .i64 n, .int .i64 d]) (by simp [results, Tryd.results27, go_sem, ↓IntWalk.iteOmega, *]) rfl ⟨rfl, ?_⟩
    repeat (first | exact Below.refl _ _ | refine below_dN ?_ _ | refine Below.drew ?_ | refine Below.alloc ?_ (by first | omega | (simp; done) | (simp; omega)) _ | refine Below.setCell ?_ (by first | omega | (simp; done) | (simp; omega)) _ | refine below_step (by assumption) (by first | omega | (simp; done) | (simp; omega)) ?_)
  · have pf : prB n d = false := by simpa using p
    have e1 : valN n d = 0 := by unfold valN; rw [if_neg p]
    have e2 : valD n d = 1 := by unfold valD; rw [if_neg p]
    rw [e1, e2]
    clear e1 e2 p
    go_enter Tryd.func27, Tryd.ntmps27
    go_wp2_with fail; refine (rproper_any _ _ _).mono ?_; rintro e w1 ⟨rfl, hb1⟩; obtain ⟨hc1, hf1, hz1, hlt1, hle1⟩ := cellsIf hb1 (by (try simp); exact rfl); (try have : w.heap.size < w1.heap.size := (by omega)); (try have : w.heap.size < w1.heap.size + 1 := (by omega)); (try have : w.heap.size < w1.heap.size + 1 + 1 := (by omega)); (try have : w.heap.size + 1 < w1.heap.size := (by omega)); (try have : w.heap.size + 1 < w1.heap.size + 1 := (by omega)); (try have : w.heap.size + 1 < w1.heap.size + 1 + 1 := (by omega)); (try have : w.heap.size + 1 + 1 < w1.heap.size := (by omega)); (try have : w.heap.size + 1 + 1 < w1.heap.size + 1 := (by omega)); (try have : w.heap.size + 1 + 1 < w1.heap.size + 1 + 1 := (by omega))
    go_wp2
    refine bodyPost_ret (v := .agg #[.int .i64 0, .int .i64 1]) (by simp [results, Tryd.results27, go_sem, ↓IntWalk.iteOmega, *]) rfl ⟨rfl, ?_⟩
    repeat (first | exact Below.refl _ _ | refine below_dN ?_ _ | refine Below.drew ?_ | refine Below.alloc ?_ (by first | omega | (simp; done) | (simp; omega)) _ | refine Below.setCell ?_ (by first | omega | (simp; done) | (simp; omega)) _ | refine below_step (by assumption) (by first | omega | (simp; done) | (simp; omega)) ?_)

theorem prB_neg {n d : Int} (h : prB n d = true) : prB (-n) d = true := by
  obtain ⟨h1, h2, h3, h4, h5⟩ := prB_bounds h
  unfold prB
  simp only [decide_eq_true_eq]
  refine ⟨h1, h2, by omega, by omega, ?_⟩
  unfold gI at *
  rw [Int.neg_gcd]; exact h5
theorem floor_neg (n d : Int) : floorF (-valN n d) (valD n d) = -ceilF n d := by
  unfold floorF ceilF
  obtain ⟨h1, h2⟩ := valNP (prB_neg (valP n d))
  rw [h1, h2]; omega

end Go.Proofs.YtmdkchoepcjahaaDoor
