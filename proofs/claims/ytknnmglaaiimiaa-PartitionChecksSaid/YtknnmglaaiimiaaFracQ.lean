/- Contracts of the reference's plain, Cmp, Floor, Ceil. -/
import Derived.Test.YtknnmglaaiimiaaFracH
import Derived.Test.YtknnmglaaiimiaaFracP
namespace Go.Proofs.Ytknnmglaaiimiaa
set_option linter.unusedSimpArgs false
set_option linter.unusedVariables false
open Go.RowKit
set_option linter.unusedVariables false

set_option maxHeartbeats 1000000 in
theorem rplain_any (n d : Int) (w : World) :
    Calls Try.prog 90 #[.agg #[.int .i64 n, .int .i64 d]] w fun e w' => e = .returned (.agg #[.int .i64 (valN n d), .int .i64 (valD n d)]) ∧ Below w.heap.size w w' := by
  by_cases p : prB n d = true
  · have e1 : valN n d = n := by unfold valN; rw [if_pos p]
    have e2 : valD n d = d := by unfold valD; rw [if_pos p]
    rw [e1, e2]
    clear e1 e2
    go_enter Try.func90, Try.ntmps90
    go_wp2_with fail; refine (rproper_any _ _ _).mono ?_; rintro e w1 ⟨rfl, hb1⟩; obtain ⟨hc1, hf1, hz1, hlt1, hle1⟩ := cellsIf hb1 (by (try simp); exact rfl); (try have : w.heap.size < w1.heap.size := (by omega)); (try have : w.heap.size < w1.heap.size + 1 := (by omega)); (try have : w.heap.size < w1.heap.size + 1 + 1 := (by omega)); (try have : w.heap.size + 1 < w1.heap.size := (by omega)); (try have : w.heap.size + 1 < w1.heap.size + 1 := (by omega)); (try have : w.heap.size + 1 < w1.heap.size + 1 + 1 := (by omega)); (try have : w.heap.size + 1 + 1 < w1.heap.size := (by omega)); (try have : w.heap.size + 1 + 1 < w1.heap.size + 1 := (by omega)); (try have : w.heap.size + 1 + 1 < w1.heap.size + 1 + 1 := (by omega))
    go_wp2
    refine bodyPost_ret (v := .agg #[.int .i64 n, .int .i64 d]) (by simp [results, Try.results90, go_sem, ↓IntWalk.iteOmega, *]) rfl ⟨rfl, ?_⟩
    repeat (first | exact Below.refl _ _ | refine below_dN ?_ _ | refine Below.drew ?_ | refine Below.alloc ?_ (by first | omega | (simp; done) | (simp; omega)) _ | refine Below.setCell ?_ (by first | omega | (simp; done) | (simp; omega)) _ | refine below_step (by assumption) (by first | omega | (simp; done) | (simp; omega)) ?_)
  · have pf : prB n d = false := by simpa using p
    have e1 : valN n d = 0 := by unfold valN; rw [if_neg p]
    have e2 : valD n d = 1 := by unfold valD; rw [if_neg p]
    rw [e1, e2]
    clear e1 e2 p
    go_enter Try.func90, Try.ntmps90
    go_wp2_with fail; refine (rproper_any _ _ _).mono ?_; rintro e w1 ⟨rfl, hb1⟩; obtain ⟨hc1, hf1, hz1, hlt1, hle1⟩ := cellsIf hb1 (by (try simp); exact rfl); (try have : w.heap.size < w1.heap.size := (by omega)); (try have : w.heap.size < w1.heap.size + 1 := (by omega)); (try have : w.heap.size < w1.heap.size + 1 + 1 := (by omega)); (try have : w.heap.size + 1 < w1.heap.size := (by omega)); (try have : w.heap.size + 1 < w1.heap.size + 1 := (by omega)); (try have : w.heap.size + 1 < w1.heap.size + 1 + 1 := (by omega)); (try have : w.heap.size + 1 + 1 < w1.heap.size := (by omega)); (try have : w.heap.size + 1 + 1 < w1.heap.size + 1 := (by omega)); (try have : w.heap.size + 1 + 1 < w1.heap.size + 1 + 1 := (by omega))
    go_wp2
    refine bodyPost_ret (v := .agg #[.int .i64 0, .int .i64 1]) (by simp [results, Try.results90, go_sem, ↓IntWalk.iteOmega, *]) rfl ⟨rfl, ?_⟩
    repeat (first | exact Below.refl _ _ | refine below_dN ?_ _ | refine Below.drew ?_ | refine Below.alloc ?_ (by first | omega | (simp; done) | (simp; omega)) _ | refine Below.setCell ?_ (by first | omega | (simp; done) | (simp; omega)) _ | refine below_step (by assumption) (by first | omega | (simp; done) | (simp; omega)) ?_)

set_option maxHeartbeats 1000000 in
theorem rcmp_any (n d m e : Int) (w : World) :
    Calls Try.prog 53 #[.agg #[.int .i64 n, .int .i64 d], .agg #[.int .i64 m, .int .i64 e]] w fun e' w' => e' = .returned (.int .i64 (cmpF n d m e)) ∧ Below w.heap.size w w' := by
  have h1 := valP n d
  have h2 := valP m e
  obtain ⟨k1, k2, k3, k4, k5, k6⟩ := sum_bounds h1 h2
  have v1 := fun W => rplain_any n d W
  have v2 := fun W => rplain_any m e W
  have hc : cmpF n d m e = if valN n d * valD m e < valN m e * valD n d then -1 else if valN n d * valD m e > valN m e * valD n d then 1 else 0 := rfl
  generalize valN n d = n' at *
  generalize valD n d = d' at *
  generalize valN m e = m' at *
  generalize valD m e = e' at *
  have V1 := Lib.hid v1
  have V2 := Lib.hid v2
  have Hc := Lib.hid hc
  clear v1 v2 hc h1 h2
  go_enter Try.func53, Try.ntmps53
  go_wp2
  refine wp_region_aft_tail 4 (by kernel_rfl) (by kernel_rfl) (by (try simp); exact rfl) ?_; intro haft; simp only [List.take_succ_cons, List.take_zero, List.drop_succ_cons, List.drop_zero]; (repeat (go_big_quiet_step ((go_at_call 90; first | (with_reducible exact aft_of (V1.out _)) | (with_reducible exact aft_of (V2.out _)))))); refine wpQuiet_nil ?_; intro w1 hwx; have hb1 := aft_below hwx; clear hwx; obtain ⟨hc1, hf1, hz1, hlt1, hle1⟩ := cellsIf hb1 (by (try simp); exact rfl); (try have : w.heap.size < w1.heap.size := (by omega)); (try have : w.heap.size < w1.heap.size + 1 := (by omega)); (try have : w.heap.size < w1.heap.size + 1 + 1 := (by omega)); (try have : w.heap.size + 1 < w1.heap.size := (by omega)); (try have : w.heap.size + 1 < w1.heap.size + 1 := (by omega)); (try have : w.heap.size + 1 < w1.heap.size + 1 + 1 := (by omega)); (try have : w.heap.size + 1 + 1 < w1.heap.size := (by omega)); (try have : w.heap.size + 1 + 1 < w1.heap.size + 1 := (by omega)); (try have : w.heap.size + 1 + 1 < w1.heap.size + 1 + 1 := (by omega)); clear haft
  go_wp2
  go_quiet (fail)
  by_cases q1 : n' * e' < m' * d'
  · have b1 : decide (n' * e' < m' * d') = true := by simpa using q1
    go_wp2
    go_ret
    refine ⟨ret_int (by rw [Hc.out, if_pos q1]), ?_⟩
    repeat (first | exact Below.refl _ _ | refine below_dN ?_ _ | refine Below.drew ?_ | refine Below.alloc ?_ (by first | omega | (simp; done) | (simp; omega)) _ | refine Below.setCell ?_ (by first | omega | (simp; done) | (simp; omega)) _ | refine below_step (by assumption) (by first | omega | (simp; done) | (simp; omega)) ?_)
  · have b1 : decide (n' * e' < m' * d') = false := by simpa using q1
    by_cases q2 : m' * d' < n' * e'
    · have b2 : decide (m' * d' < n' * e') = true := by simpa using q2
      go_wp2
      go_ret
      refine ⟨ret_int (by rw [Hc.out, if_neg (by omega), if_pos q2]), ?_⟩
      repeat (first | exact Below.refl _ _ | refine below_dN ?_ _ | refine Below.drew ?_ | refine Below.alloc ?_ (by first | omega | (simp; done) | (simp; omega)) _ | refine Below.setCell ?_ (by first | omega | (simp; done) | (simp; omega)) _ | refine below_step (by assumption) (by first | omega | (simp; done) | (simp; omega)) ?_)
    · have b2 : decide (m' * d' < n' * e') = false := by simpa using q2
      go_wp2
      go_ret
      refine ⟨ret_int (by rw [Hc.out, if_neg (by omega), if_neg (by omega)]), ?_⟩
      repeat (first | exact Below.refl _ _ | refine below_dN ?_ _ | refine Below.drew ?_ | refine Below.alloc ?_ (by first | omega | (simp; done) | (simp; omega)) _ | refine Below.setCell ?_ (by first | omega | (simp; done) | (simp; omega)) _ | refine below_step (by assumption) (by first | omega | (simp; done) | (simp; omega)) ?_)

set_option maxHeartbeats 1000000 in
theorem rfloor_any (n d : Int) (w : World) :
    Calls Try.prog 91 #[.agg #[.int .i64 n, .int .i64 d]] w fun e' w' => e' = .returned (.int .i64 (floorF n d)) ∧ Below w.heap.size w w' := by
  have h1 := valP n d
  obtain ⟨b1, b2, b3, b4, _⟩ := prB_bounds h1
  have v1 := fun W => rplain_any n d W
  obtain ⟨t1, t2, t3, t4, t5, t6⟩ := tdiv_facts _ _ b1 b3 b4
  have hc : floorF n d = valN n d / valD n d := rfl
  rw [t5] at hc
  generalize valN n d = N at *
  generalize valD n d = D at *
  have V1 := Lib.hid v1
  have Hc := Lib.hid hc
  clear v1 hc h1 t5 t6
  by_cases q1 : N < N.tdiv D * D
  · have q2 : decide (N < N.tdiv D * D) = true := by simpa using q1
    have Q := Lib.hid q1
    go_enter Try.func91, Try.ntmps91
    go_wp2_with fail; refine (V1.out _).mono ?_; rintro e w1 ⟨rfl, hb1⟩; obtain ⟨hc1, hf1, hz1, hlt1, hle1⟩ := cellsIf hb1 (by (try simp); exact rfl); (try have : w.heap.size < w1.heap.size := (by omega)); (try have : w.heap.size < w1.heap.size + 1 := (by omega)); (try have : w.heap.size < w1.heap.size + 1 + 1 := (by omega)); (try have : w.heap.size + 1 < w1.heap.size := (by omega)); (try have : w.heap.size + 1 < w1.heap.size + 1 := (by omega)); (try have : w.heap.size + 1 < w1.heap.size + 1 + 1 := (by omega)); (try have : w.heap.size + 1 + 1 < w1.heap.size := (by omega)); (try have : w.heap.size + 1 + 1 < w1.heap.size + 1 := (by omega)); (try have : w.heap.size + 1 + 1 < w1.heap.size + 1 + 1 := (by omega))
    go_wp2
    go_ret
    refine ⟨ret_int (by rw [Hc.out, if_pos (by have := Q.out; omega)]), ?_⟩
    repeat (first | exact Below.refl _ _ | refine below_dN ?_ _ | refine Below.drew ?_ | refine Below.alloc ?_ (by first | omega | (simp; done) | (simp; omega)) _ | refine Below.setCell ?_ (by first | omega | (simp; done) | (simp; omega)) _ | refine below_step (by assumption) (by first | omega | (simp; done) | (simp; omega)) ?_)
  · have q2 : decide (N < N.tdiv D * D) = false := by simpa using q1
    have Q := Lib.hid q1
    go_enter Try.func91, Try.ntmps91
    go_wp2_with fail; refine (V1.out _).mono ?_; rintro e w1 ⟨rfl, hb1⟩; obtain ⟨hc1, hf1, hz1, hlt1, hle1⟩ := cellsIf hb1 (by (try simp); exact rfl); (try have : w.heap.size < w1.heap.size := (by omega)); (try have : w.heap.size < w1.heap.size + 1 := (by omega)); (try have : w.heap.size < w1.heap.size + 1 + 1 := (by omega)); (try have : w.heap.size + 1 < w1.heap.size := (by omega)); (try have : w.heap.size + 1 < w1.heap.size + 1 := (by omega)); (try have : w.heap.size + 1 < w1.heap.size + 1 + 1 := (by omega)); (try have : w.heap.size + 1 + 1 < w1.heap.size := (by omega)); (try have : w.heap.size + 1 + 1 < w1.heap.size + 1 := (by omega)); (try have : w.heap.size + 1 + 1 < w1.heap.size + 1 + 1 := (by omega))
    go_wp2
    go_ret
    refine ⟨ret_int (by rw [Hc.out, if_neg (by have := Q.out; omega)]), ?_⟩
    repeat (first | exact Below.refl _ _ | refine below_dN ?_ _ | refine Below.drew ?_ | refine Below.alloc ?_ (by first | omega | (simp; done) | (simp; omega)) _ | refine Below.setCell ?_ (by first | omega | (simp; done) | (simp; omega)) _ | refine below_step (by assumption) (by first | omega | (simp; done) | (simp; omega)) ?_)


theorem prB_neg {n d : Int} (h : prB n d = true) : prB (-n) d = true := by
  obtain ⟨h1, h2, h3, h4, h5⟩ := prB_bounds h
  unfold prB
  simp only [decide_eq_true_eq]
  refine ⟨h1, h2, by omega, by omega, ?_⟩
  unfold gI at *
  rw [Int.neg_gcd]; exact h5
theorem floor_neg (n d : Int) : floorF (-valN n d) (valD n d) = -ceilF n d := by
  unfold floorF ceilF
  obtain ⟨h1, h2⟩ := valNP (prB_neg (valP n d))
  rw [h1, h2]; omega

set_option maxHeartbeats 1000000 in
theorem rceil_any (n d : Int) (w : World) :
    Calls Try.prog 58 #[.agg #[.int .i64 n, .int .i64 d]] w fun e' w' => e' = .returned (.int .i64 (ceilF n d)) ∧ Below w.heap.size w w' := by
  have h1 := valP n d
  obtain ⟨b1, b2, b3, b4, _⟩ := prB_bounds h1
  have hv1 := fun W => rplain_any n d W
  have hv2 := fun W => neg_any (valN n d) (valD n d) W (by omega) (by omega)
  have hv3 := fun W => rfloor_any (-valN n d) (valD n d) W
  have hf := floor_neg n d
  rw [hf] at hv3
  have hc : -1099511627776 ≤ ceilF n d ∧ ceilF n d ≤ 1099511627776 := by
    unfold ceilF
    have u1 : -valN n d / valD n d ≤ 1099511627776 := Int.ediv_le_of_le_mul (by omega) (by omega)
    have u2 : -1099511627776 ≤ -valN n d / valD n d := Int.le_ediv_of_mul_le (by omega) (by omega)
    omega
  obtain ⟨u1, u2⟩ := hc
  generalize ceilF n d = C at *
  generalize valN n d = N at *
  generalize valD n d = D at *
  clear hf h1 b1 b2 b3 b4
  have H1 := Lib.hid hv1
  have H2 := Lib.hid hv2
  have H3 := Lib.hid hv3
  clear hv1 hv2 hv3
  go_enter Try.func58, Try.ntmps58
  go_wp2_with fail; refine (H1.out _).mono ?_; rintro e w1 ⟨rfl, hb1⟩; obtain ⟨hc1, hf1, hz1, hlt1, hle1⟩ := cellsIf hb1 (by (try simp); exact rfl); (try have : w.heap.size < w1.heap.size := (by omega)); (try have : w.heap.size < w1.heap.size + 1 := (by omega)); (try have : w.heap.size < w1.heap.size + 1 + 1 := (by omega)); (try have : w.heap.size + 1 < w1.heap.size := (by omega)); (try have : w.heap.size + 1 < w1.heap.size + 1 := (by omega)); (try have : w.heap.size + 1 < w1.heap.size + 1 + 1 := (by omega)); (try have : w.heap.size + 1 + 1 < w1.heap.size := (by omega)); (try have : w.heap.size + 1 + 1 < w1.heap.size + 1 := (by omega)); (try have : w.heap.size + 1 + 1 < w1.heap.size + 1 + 1 := (by omega))
  go_wp2_with fail; refine (H2.out _).mono ?_; rintro e w2 ⟨rfl, hb2⟩; obtain ⟨hc2, hf2, hz2, hlt2, hle2⟩ := cellsIf hb2 (by (try simp); exact rfl); (try have : w.heap.size < w2.heap.size := (by omega)); (try have : w.heap.size < w2.heap.size + 1 := (by omega)); (try have : w.heap.size < w2.heap.size + 1 + 1 := (by omega)); (try have : w.heap.size + 1 < w2.heap.size := (by omega)); (try have : w.heap.size + 1 < w2.heap.size + 1 := (by omega)); (try have : w.heap.size + 1 < w2.heap.size + 1 + 1 := (by omega)); (try have : w.heap.size + 1 + 1 < w2.heap.size := (by omega)); (try have : w.heap.size + 1 + 1 < w2.heap.size + 1 := (by omega)); (try have : w.heap.size + 1 + 1 < w2.heap.size + 1 + 1 := (by omega)); (try have : w1.heap.size < w2.heap.size := (by omega)); (try have : w1.heap.size < w2.heap.size + 1 := (by omega)); (try have : w1.heap.size < w2.heap.size + 1 + 1 := (by omega)); (try have : w1.heap.size + 1 < w2.heap.size := (by omega)); (try have : w1.heap.size + 1 < w2.heap.size + 1 := (by omega)); (try have : w1.heap.size + 1 < w2.heap.size + 1 + 1 := (by omega)); (try have : w1.heap.size + 1 + 1 < w2.heap.size := (by omega)); (try have : w1.heap.size + 1 + 1 < w2.heap.size + 1 := (by omega)); (try have : w1.heap.size + 1 + 1 < w2.heap.size + 1 + 1 := (by omega))
  go_wp2_with fail; refine (H3.out _).mono ?_; rintro e w3 ⟨rfl, hb3⟩; obtain ⟨hc3, hf3, hz3, hlt3, hle3⟩ := cellsIf hb3 (by (try simp); exact rfl); (try have : w.heap.size < w3.heap.size := (by omega)); (try have : w.heap.size < w3.heap.size + 1 := (by omega)); (try have : w.heap.size < w3.heap.size + 1 + 1 := (by omega)); (try have : w.heap.size + 1 < w3.heap.size := (by omega)); (try have : w.heap.size + 1 < w3.heap.size + 1 := (by omega)); (try have : w.heap.size + 1 < w3.heap.size + 1 + 1 := (by omega)); (try have : w.heap.size + 1 + 1 < w3.heap.size := (by omega)); (try have : w.heap.size + 1 + 1 < w3.heap.size + 1 := (by omega)); (try have : w.heap.size + 1 + 1 < w3.heap.size + 1 + 1 := (by omega)); (try have : w1.heap.size < w3.heap.size := (by omega)); (try have : w1.heap.size < w3.heap.size + 1 := (by omega)); (try have : w1.heap.size < w3.heap.size + 1 + 1 := (by omega)); (try have : w1.heap.size + 1 < w3.heap.size := (by omega)); (try have : w1.heap.size + 1 < w3.heap.size + 1 := (by omega)); (try have : w1.heap.size + 1 < w3.heap.size + 1 + 1 := (by omega)); (try have : w1.heap.size + 1 + 1 < w3.heap.size := (by omega)); (try have : w1.heap.size + 1 + 1 < w3.heap.size + 1 := (by omega)); (try have : w1.heap.size + 1 + 1 < w3.heap.size + 1 + 1 := (by omega)); (try have : w2.heap.size < w3.heap.size := (by omega)); (try have : w2.heap.size < w3.heap.size + 1 := (by omega)); (try have : w2.heap.size < w3.heap.size + 1 + 1 := (by omega)); (try have : w2.heap.size + 1 < w3.heap.size := (by omega)); (try have : w2.heap.size + 1 < w3.heap.size + 1 := (by omega)); (try have : w2.heap.size + 1 < w3.heap.size + 1 + 1 := (by omega)); (try have : w2.heap.size + 1 + 1 < w3.heap.size := (by omega)); (try have : w2.heap.size + 1 + 1 < w3.heap.size + 1 := (by omega)); (try have : w2.heap.size + 1 + 1 < w3.heap.size + 1 + 1 := (by omega))
  go_wp2
  go_ret
  exact ⟨ret_int (by omega), by repeat (first | exact Below.refl _ _ | refine below_dN ?_ _ | refine Below.drew ?_ | refine Below.alloc ?_ (by first | omega | (simp; done) | (simp; omega)) _ | refine Below.setCell ?_ (by first | omega | (simp; done) | (simp; omega)) _ | refine below_step (by assumption) (by first | omega | (simp; done) | (simp; omega)) ?_)⟩

end Go.Proofs.Ytknnmglaaiimiaa
