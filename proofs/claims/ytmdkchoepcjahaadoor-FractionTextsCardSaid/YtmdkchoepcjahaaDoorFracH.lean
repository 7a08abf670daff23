/- Contracts of value, Cmp, Floor, Ceil. -/
import Derived.Test.YtmdkchoepcjahaaDoorFracS
import Derived.Test.YtmdkchoepcjahaaDoorTail
import Derived.Test.YtmdkchoepcjahaaDoorFracR
namespace Go.Proofs.YtmdkchoepcjahaaDoor
set_option linter.unusedSimpArgs false
set_option linter.unusedVariables false
open Go.RowKit
set_option linter.unusedVariables false

/-- value: 0/1 for a fraction that is not proper. -/
def valN (n d : Int) : Int := if prB n d then n else 0
def valD (n d : Int) : Int := if prB n d then d else 1
theorem valP (n d : Int) : prB (valN n d) (valD n d) = true := by
  unfold valN valD; split
  · assumption
  · decide +kernel

set_option maxHeartbeats 1000000 in
theorem value_any (n d : Int) (w : World) :
    Calls Tryd.prog 25 #[.agg #[.int .i64 n, .int .i64 d]] w fun e w' => e = .returned (.agg #[.int .i64 (valN n d), .int .i64 (valD n d)]) ∧ Below w.heap.size w w' := by
  by_cases p : prB n d = true
  · have e1 : valN n d = n := by unfold valN; rw [if_pos p]
    have e2 : valD n d = d := by unfold valD; rw [if_pos p]
    rw [e1, e2]
    clear e1 e2
    go_enter Tryd.func25, Tryd.ntmps25
    go_wp2_with fail; refine (proper_any _ _ _).mono ?_; rintro e w1 ⟨rfl, hb1⟩; obtain ⟨hc1, hf1, hz1, hlt1, hle1⟩ := cellsIf hb1 (by (try simp); exact rfl); (try have : w.heap.size < w1.heap.size := (by omega)); (try have : w.heap.size < w1.heap.size + 1 := (by omega)); (try have : w.heap.size < w1.heap.size + 1 + 1 := (by omega)); (try have : w.heap.size + 1 < w1.heap.size := (by omega)); (try have : w.heap.size + 1 < w1.heap.size + 1 := (by omega)); (try have : w.heap.size + 1 < w1.heap.size + 1 + 1 := (by omega)); (try have : w.heap.size + 1 + 1 < w1.heap.size := (by omega)); (try have : w.heap.size + 1 + 1 < w1.heap.size + 1 := (by omega)); (try have : w.heap.size + 1 + 1 < w1.heap.size + 1 + 1 := (by omega))
    go_wp2
    refine bodyPost_ret (v := .agg #[.int .i64 n, .int .i64 d]) (by simp [results, Tryd.results25, go_sem, ↓IntWalk.iteOmega, *]) rfl ⟨rfl, ?_⟩
    repeat (first | exact Below.refl _ _ | refine below_dN ?_ _ | refine Below.drew ?_ | refine Below.alloc ?_ (by first | omega | (simp; done) | (simp; omega)) _ | refine Below.setCell ?_ (by first | omega | (simp; done) | (simp; omega)) _ | refine below_step (by assumption) (by first | omega | (simp; done) | (simp; omega)) ?_)
  · have pf : prB n d = false := by simpa using p
    have e1 : valN n d = 0 := by unfold valN; rw [if_neg p]
    have e2 : valD n d = 1 := by unfold valD; rw [if_neg p]
    rw [e1, e2]
    clear e1 e2 p
    go_enter Tryd.func25, Tryd.ntmps25
    go_wp2_with fail; refine (proper_any _ _ _).mono ?_; rintro e w1 ⟨rfl, hb1⟩; obtain ⟨hc1, hf1, hz1, hlt1, hle1⟩ := cellsIf hb1 (by (try simp); exact rfl); (try have : w.heap.size < w1.heap.size := (by omega)); (try have : w.heap.size < w1.heap.size + 1 := (by omega)); (try have : w.heap.size < w1.heap.size + 1 + 1 := (by omega)); (try have : w.heap.size + 1 < w1.heap.size := (by omega)); (try have : w.heap.size + 1 < w1.heap.size + 1 := (by omega)); (try have : w.heap.size + 1 < w1.heap.size + 1 + 1 := (by omega)); (try have : w.heap.size + 1 + 1 < w1.heap.size := (by omega)); (try have : w.heap.size + 1 + 1 < w1.heap.size + 1 := (by omega)); (try have : w.heap.size + 1 + 1 < w1.heap.size + 1 + 1 := (by omega))
    go_wp2
    refine bodyPost_ret (v := .agg #[.int .i64 0, .int .i64 1]) (by simp [results, Tryd.results25, go_sem, ↓IntWalk.iteOmega, *]) rfl ⟨rfl, ?_⟩
    repeat (first | exact Below.refl _ _ | refine below_dN ?_ _ | refine Below.drew ?_ | refine Below.alloc ?_ (by first | omega | (simp; done) | (simp; omega)) _ | refine Below.setCell ?_ (by first | omega | (simp; done) | (simp; omega)) _ | refine below_step (by assumption) (by first | omega | (simp; done) | (simp; omega)) ?_)

/-- The order of the values. -/
def cmpF (n d m e : Int) : Int := if valN n d * valD m e < valN m e * valD n d then -1 else if valN n d * valD m e > valN m e * valD n d then 1 else 0

set_option maxHeartbeats 1000000 in
theorem cmp_any (n d m e : Int) (w : World) :
    Calls Tryd.prog 16 #[.agg #[.int .i64 n, .int .i64 d], .agg #[.int .i64 m, .int .i64 e]] w fun e' w' => e' = .returned (.int .i64 (cmpF n d m e)) ∧ Below w.heap.size w w' := by
  have h1 := valP n d
  have h2 := valP m e
  obtain ⟨k1, k2, k3, k4, k5, k6⟩ := sum_bounds h1 h2
  have v1 := fun W => value_any n d W
  have v2 := fun W => value_any m e W
  have hc : cmpF n d m e = if valN n d * valD m e < valN m e * valD n d then -1 else if valN n d * valD m e > valN m e * valD n d then 1 else 0 := rfl
  generalize valN n d = n' at *
  generalize valD n d = d' at *
  generalize valN m e = m' at *
  generalize valD m e = e' at *
  have V1 := Lib.hid v1
  have V2 := Lib.hid v2
  have Hc := Lib.hid hc
  clear v1 v2 hc h1 h2
  go_enter Tryd.func16, Tryd.ntmps16
  go_wp2
  refine wp_region_aft_tail 4 (by kernel_rfl) (by kernel_rfl) (by (try simp); exact rfl) ?_; intro haft; simp only [List.take_succ_cons, List.take_zero, List.drop_succ_cons, List.drop_zero]; (repeat (go_big_quiet_step ((go_at_call 25; first | (with_reducible exact aft_of (V1.out _)) | (with_reducible exact aft_of (V2.out _)))))); refine wpQuiet_nil ?_; intro w1 hwx; have hb1 := aft_below hwx; clear hwx; obtain ⟨hc1, hf1, hz1, hlt1, hle1⟩ := cellsIf hb1 (by (try simp); exact rfl); (try have : w.heap.size < w1.heap.size := (by omega)); (try have : w.heap.size < w1.heap.size + 1 := (by omega)); (try have : w.heap.size < w1.heap.size + 1 + 1 := (by omega)); (try have : w.heap.size + 1 < w1.heap.size := (by omega)); (try have : w.heap.size + 1 < w1.heap.size + 1 := (by omega)); (try have : w.heap.size + 1 < w1.heap.size + 1 + 1 := (by omega)); (try have : w.heap.size + 1 + 1 < w1.heap.size := (by omega)); (try have : w.heap.size + 1 + 1 < w1.heap.size + 1 := (by omega)); (try have : w.heap.size + 1 + 1 < w1.heap.size + 1 + 1 := (by omega)); clear haft
  go_wp2
  go_quiet (fail)
  by_cases q1 : n' * e' < m' * d'
  · have b1 : decide (n' * e' < m' * d') = true := by simpa using q1
    go_wp2
    go_ret
    refine ⟨ret_int (by rw [Hc.out, if_pos q1]), ?_⟩
    repeat (first | exact Below.refl _ _ | refine below_dN ?_ _ | refine Below.drew ?_ | refine Below.alloc ?_ (by first | omega | (simp; done) | (simp; omega)) _ | refine Below.setCell ?_ (by first | omega | (simp; done) | (simp; omega)) _ | refine below_step (by assumption) (by first | omega | (simp; done) | (simp; omega)) ?_)
  · have b1 : decide (n' * e' < m' * d') = false := by simpa using q1
    by_cases q2 : m' * d' < n' * e'
    · have b2 : decide (m' * d' < n' * e') = true := by simpa using q2
      go_wp2
      go_ret
      refine ⟨ret_int (by rw [Hc.out, if_neg (by omega), if_pos q2]), ?_⟩
      repeat (first | exact Below.refl _ _ | refine below_dN ?_ _ | refine Below.drew ?_ | refine Below.alloc ?_ (by first | omega | (simp; done) | (simp; omega)) _ | refine Below.setCell ?_ (by first | omega | (simp; done) | (simp; omega)) _ | refine below_step (by assumption) (by first | omega | (simp; done) | (simp; omega)) ?_)
    · have b2 : decide (m' * d' < n' * e') = false := by simpa using q2
      go_wp2
      go_ret
      refine ⟨ret_int (by rw [Hc.out, if_neg (by omega), if_neg (by omega)]), ?_⟩
      repeat (first | exact Below.refl _ _ | refine below_dN ?_ _ | refine Below.drew ?_ | refine Below.alloc ?_ (by first | omega | (simp; done) | (simp; omega)) _ | refine Below.setCell ?_ (by first | omega | (simp; done) | (simp; omega)) _ | refine below_step (by assumption) (by first | omega | (simp; done) | (simp; omega)) ?_)

/-- The integers next to a fraction. -/
def floorF (n d : Int) : Int := valN n d / valD n d
def ceilF (n d : Int) : Int := -(-valN n d / valD n d)
theorem tdiv_facts (N D : Int) (hD : 1 ≤ D) (h1 : -1099511627776 ≤ N) (h2 : N ≤ 1099511627776) :
    -1099511627776 ≤ N.tdiv D ∧ N.tdiv D ≤ 1099511627776 ∧ -1099511627776 ≤ N.tdiv D * D ∧ N.tdiv D * D ≤ 1099511627776 ∧
    N / D = (if N < N.tdiv D * D then N.tdiv D - 1 else N.tdiv D) ∧ -(-N / D) = (if N.tdiv D * D < N then N.tdiv D + 1 else N.tdiv D) := by
  obtain ⟨a1, a2⟩ := tdiv_bound N D 1099511627776 hD h1 h2
  have e := Int.tmod_add_tdiv_mul N D
  have m1 := Int.tmod_lt_of_pos N (by omega : 0 < D)
  rcases Int.lt_or_le N 0 with hN | hN
  · have e1 := tdiv_neg_case N D hN
    have f1 : 0 ≤ (-N) / D := Int.ediv_nonneg (by omega) (by omega)
    have f2 := Int.emod_add_mul_ediv (-N) D
    have f3 := Int.emod_nonneg (-N) (by omega : D ≠ 0)
    have f4 := Int.emod_lt_of_pos (-N) (by omega : 0 < D)
    have e2 : N.tdiv D * D = -(D * ((-N) / D)) := by rw [e1]; grind
    have g2 := Int.emod_add_mul_ediv N D
    have g3 := Int.emod_nonneg N (by omega : D ≠ 0)
    have g4 := Int.emod_lt_of_pos N (by omega : 0 < D)
    have e3 : N / D = if N < N.tdiv D * D then N.tdiv D - 1 else N.tdiv D := by
      split
      · refine (Int.ediv_eq_iff_of_pos (by omega)).2 ?_
        rw [Int.sub_mul, e2]; omega
      · refine (Int.ediv_eq_iff_of_pos (by omega)).2 ?_
        rw [e2]; omega
    have k0 : 0 ≤ D * ((-N) / D) := Int.mul_nonneg (by omega) f1
    refine ⟨a1, a2, by omega, by omega, e3, ?_⟩
    rw [if_neg (by omega), e1]
  · have e1 : N.tdiv D = N / D := Int.tdiv_eq_ediv_of_nonneg hN
    have g2 := Int.emod_add_mul_ediv N D
    have g3 := Int.emod_nonneg N (by omega : D ≠ 0)
    have g4 := Int.emod_lt_of_pos N (by omega : 0 < D)
    have e2 : N.tdiv D * D = D * (N / D) := by rw [e1, Int.mul_comm]
    have k0 : 0 ≤ D * (N / D) := Int.mul_nonneg (by omega) (Int.ediv_nonneg hN (by omega))
    refine ⟨a1, a2, by omega, by omega, by rw [if_neg (by omega), e1], ?_⟩
    split
    · have : (-N) / D = -(N.tdiv D + 1) := by
        refine (Int.ediv_eq_iff_of_pos (by omega)).2 ?_
        rw [Int.neg_mul, Int.add_mul, e2]; omega
      omega
    · have : (-N) / D = -(N.tdiv D) := by
        refine (Int.ediv_eq_iff_of_pos (by omega)).2 ?_
        rw [Int.neg_mul, e2]; omega
      omega

set_option maxHeartbeats 1000000 in
theorem ceil_any (n d : Int) (w : World) :
    Calls Tryd.prog 14 #[.agg #[.int .i64 n, .int .i64 d]] w fun e' w' => e' = .returned (.int .i64 (ceilF n d)) ∧ Below w.heap.size w w' := by
  have h1 := valP n d
  obtain ⟨b1, b2, b3, b4, _⟩ := prB_bounds h1
  have v1 := fun W => value_any n d W
  obtain ⟨t1, t2, t3, t4, t5, t6⟩ := tdiv_facts _ _ b1 b3 b4
  have hc : ceilF n d = -(-valN n d / valD n d) := rfl
  rw [t6] at hc
  generalize valN n d = N at *
  generalize valD n d = D at *
  have V1 := Lib.hid v1
  have Hc := Lib.hid hc
  clear v1 hc h1 t5 t6
  by_cases q1 : N.tdiv D * D < N
  · have q2 : decide (N.tdiv D * D < N) = true := by simpa using q1
    have Q := Lib.hid q1
    go_enter Tryd.func14, Tryd.ntmps14
    go_wp2_with fail; refine (V1.out _).mono ?_; rintro e w1 ⟨rfl, hb1⟩; obtain ⟨hc1, hf1, hz1, hlt1, hle1⟩ := cellsIf hb1 (by (try simp); exact rfl); (try have : w.heap.size < w1.heap.size := (by omega)); (try have : w.heap.size < w1.heap.size + 1 := (by omega)); (try have : w.heap.size < w1.heap.size + 1 + 1 := (by omega)); (try have : w.heap.size + 1 < w1.heap.size := (by omega)); (try have : w.heap.size + 1 < w1.heap.size + 1 := (by omega)); (try have : w.heap.size + 1 < w1.heap.size + 1 + 1 := (by omega)); (try have : w.heap.size + 1 + 1 < w1.heap.size := (by omega)); (try have : w.heap.size + 1 + 1 < w1.heap.size + 1 := (by omega)); (try have : w.heap.size + 1 + 1 < w1.heap.size + 1 + 1 := (by omega))
    go_wp2
    go_ret
    refine ⟨ret_int (by rw [Hc.out, if_pos (by have := Q.out; omega)]), ?_⟩
    repeat (first | exact Below.refl _ _ | refine below_dN ?_ _ | refine Below.drew ?_ | refine Below.alloc ?_ (by first | omega | (simp; done) | (simp; omega)) _ | refine Below.setCell ?_ (by first | omega | (simp; done) | (simp; omega)) _ | refine below_step (by assumption) (by first | omega | (simp; done) | (simp; omega)) ?_)
  · have q2 : decide (N.tdiv D * D < N) = false := by simpa using q1
    have Q := Lib.hid q1
    go_enter Tryd.func14, Tryd.ntmps14
    go_wp2_with fail; refine (V1.out _).mono ?_; rintro e w1 ⟨rfl, hb1⟩; obtain ⟨hc1, hf1, hz1, hlt1, hle1⟩ := cellsIf hb1 (by (try simp); exact rfl); (try have : w.heap.size < w1.heap.size := (by omega)); (try have : w.heap.size < w1.heap.size + 1 := (by omega)); (try have : w.heap.size < w1.heap.size + 1 + 1 := (by omega)); (try have : w.heap.size + 1 < w1.heap.size := (by omega)); (try have : w.heap.size + 1 < w1.heap.size + 1 := (by omega)); (try have : w.heap.size + 1 < w1.heap.size + 1 + 1 := (by omega)); (try have : w.heap.size + 1 + 1 < w1.heap.size := (by omega)); (try have : w.heap.size + 1 + 1 < w1.heap.size + 1 := (by omega)); (try have : w.heap.size + 1 + 1 < w1.heap.size + 1 + 1 := (by omega))
    go_wp2
    go_ret
    refine ⟨ret_int (by rw [Hc.out, if_neg (by have := Q.out; omega)]), ?_⟩
    repeat (first | exact Below.refl _ _ | refine below_dN ?_ _ | refine Below.drew ?_ | refine Below.alloc ?_ (by first | omega | (simp; done) | (simp; omega)) _ | refine Below.setCell ?_ (by first | omega | (simp; done) | (simp; omega)) _ | refine below_step (by assumption) (by first | omega | (simp; done) | (simp; omega)) ?_)

end Go.Proofs.YtmdkchoepcjahaaDoor
