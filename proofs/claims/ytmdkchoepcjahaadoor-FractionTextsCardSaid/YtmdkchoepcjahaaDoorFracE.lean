/- Contracts of fraction.Add, fraction.Sub, the reference's Add and Neg. -/
import Derived.Test.YtmdkchoepcjahaaDoorFracD
namespace Go.Proofs.YtmdkchoepcjahaaDoor
set_option linter.unusedSimpArgs false
set_option linter.unusedVariables false
open Go.RowKit
set_option linter.unusedVariables false

theorem prB_bounds {n d : Int} (h : prB n d = true) : 1 ≤ d ∧ d ≤ 1048576 ∧ -1099511627776 ≤ n ∧ n ≤ 1099511627776 ∧ gI n d = 1 := by
  unfold prB at h; simpa using h
theorem mul_le (n e a b : Int) (h1 : -a ≤ n) (h2 : n ≤ a) (h3 : 0 ≤ e) (h4 : e ≤ b) : -(a * b) ≤ n * e ∧ n * e ≤ a * b := by
  have ha : 0 ≤ a := by omega
  constructor
  · have k1 : n * e ≥ (-a) * e := Int.mul_le_mul_of_nonneg_right h1 h3
    have k2 : a * e ≤ a * b := Int.mul_le_mul_of_nonneg_left h4 ha
    rw [Int.neg_mul] at k1
    omega
  · exact Int.le_trans (Int.mul_le_mul_of_nonneg_right h2 h3) (Int.mul_le_mul_of_nonneg_left h4 ha)
/-- The bounds of a sum's parts. -/
theorem sum_bounds {n d m e : Int} (h1 : prB n d = true) (h2 : prB m e = true) :
    -1152921504606846976 ≤ n * e ∧ n * e ≤ 1152921504606846976 ∧ -1152921504606846976 ≤ m * d ∧ m * d ≤ 1152921504606846976 ∧ 1 ≤ d * e ∧ d * e ≤ 1099511627776 := by
  obtain ⟨a1, a2, a3, a4, _⟩ := prB_bounds h1
  obtain ⟨b1, b2, b3, b4, _⟩ := prB_bounds h2
  have k1 := mul_le n e 1099511627776 1048576 a3 a4 (by omega) b2
  have k2 := mul_le m d 1099511627776 1048576 b3 b4 (by omega) a2
  have k3 := mul_le d e 1048576 1048576 (by omega) a2 (by omega) b2
  have k4 : 1 * 1 ≤ d * e := Int.mul_le_mul a1 b1 (by omega) (by omega)
  omega

def addF (n d m e : Int) : Int × Int × Int := if prB n d && prB m e then newF (n * e + m * d) (d * e) else (0, 0, 2)
def subF (n d m e : Int) : Int × Int × Int := if prB n d && prB m e then newF (n * e - m * d) (d * e) else (0, 0, 2)

set_option maxHeartbeats 1000000 in
theorem add_any (n d m e : Int) (w : World) :
    Calls Tryd.prog 7 #[.agg #[.int .i64 n, .int .i64 d], .agg #[.int .i64 m, .int .i64 e]] w (RetFE (addF n d m e) w) := by
  by_cases p1 : prB n d = true
  · by_cases p2 : prB m e = true
    · obtain ⟨k1, k2, k3, k4, k5, k6⟩ := sum_bounds p1 p2
      have hn := fun W => new_any (n * e + m * d) (d * e) W (by omega) (by omega) (by omega) (by omega)
      have Hn := Lib.hid hn
      clear hn
      have es : addF n d m e = newF (n * e + m * d) (d * e) := by unfold addF; rw [p1, p2]; rfl
      rw [es]
      clear es
      obtain ⟨r, hr⟩ : ∃ r, newF (n * e + m * d) (d * e) = r := ⟨_, rfl⟩
      rw [hr] at Hn ⊢
      clear hr
      go_enter Tryd.func7, Tryd.ntmps7
      go_wp2_with (first | (go_at_call 6; refine (proper_any _ _ _).mono ?_; rintro e w' ⟨rfl, hb⟩; obtain ⟨hc, hf, hz, hlt, hle⟩ := cellsIf hb (by (try simp); exact rfl)) | (go_at_call 20; refine (Hn.out _).mono ?_; rintro e w' ⟨rfl, hb⟩; obtain ⟨hc, hf, hz, hlt, hle⟩ := cellsIf hb (by (try simp); exact rfl)))
      refine bodyPost_ret (v := .tuple #[.agg #[.int .i64 r.1, .int .i64 r.2.1], errV r.2.2]) (by simp [results, Tryd.results7, go_sem, ↓IntWalk.iteOmega, *]) rfl (RetFE.mk rfl ?_)
      repeat (first | exact Below.refl _ _ | refine below_dN ?_ _ | refine Below.drew ?_ | refine Below.alloc ?_ (by first | omega | (simp; done) | (simp; omega)) _ | refine Below.setCell ?_ (by first | omega | (simp; done) | (simp; omega)) _ | refine below_step (by assumption) (by first | omega | (simp; done) | (simp; omega)) ?_)
    · have p3 : prB m e = false := by simpa using p2
      have H := Lib.hid (show addF n d m e = (0, 0, 2) by unfold addF; rw [p1, p3]; rfl)
      go_enter Tryd.func7, Tryd.ntmps7
      go_wp2_with (go_at_call 6; refine (proper_any _ _ _).mono ?_; rintro e w' ⟨rfl, hb⟩; obtain ⟨hc, hf, hz, hlt, hle⟩ := cellsIf hb (by (try simp); exact rfl))
      refine bodyPost_ret (v := .tuple #[.agg #[.int .i64 0, .int .i64 0], .iface 34 (.int .i64 2)]) (by simp [results, Tryd.results7, go_sem, ↓IntWalk.iteOmega, *]) rfl (RetFE.mk (by rw [H.out]; rfl) ?_)
      repeat (first | exact Below.refl _ _ | refine below_dN ?_ _ | refine Below.drew ?_ | refine Below.alloc ?_ (by first | omega | (simp; done) | (simp; omega)) _ | refine Below.setCell ?_ (by first | omega | (simp; done) | (simp; omega)) _ | refine below_step (by assumption) (by first | omega | (simp; done) | (simp; omega)) ?_)
  · have p3 : prB n d = false := by simpa using p1
    have H := Lib.hid (show addF n d m e = (0, 0, 2) by unfold addF; rw [p3]; rfl)
    go_enter Tryd.func7, Tryd.ntmps7
    go_wp2_with (go_at_call 6; refine (proper_any _ _ _).mono ?_; rintro e w' ⟨rfl, hb⟩; obtain ⟨hc, hf, hz, hlt, hle⟩ := cellsIf hb (by (try simp); exact rfl))
    refine bodyPost_ret (v := .tuple #[.agg #[.int .i64 0, .int .i64 0], .iface 34 (.int .i64 2)]) (by simp [results, Tryd.results7, go_sem, ↓IntWalk.iteOmega, *]) rfl (RetFE.mk (by rw [H.out]; rfl) ?_)
    repeat (first | exact Below.refl _ _ | refine below_dN ?_ _ | refine Below.drew ?_ | refine Below.alloc ?_ (by first | omega | (simp; done) | (simp; omega)) _ | refine Below.setCell ?_ (by first | omega | (simp; done) | (simp; omega)) _ | refine below_step (by assumption) (by first | omega | (simp; done) | (simp; omega)) ?_)

set_option maxHeartbeats 1000000 in
theorem sub_any (n d m e : Int) (w : World) :
    Calls Tryd.prog 8 #[.agg #[.int .i64 n, .int .i64 d], .agg #[.int .i64 m, .int .i64 e]] w (RetFE (subF n d m e) w) := by
  by_cases p1 : prB n d = true
  · by_cases p2 : prB m e = true
    · obtain ⟨k1, k2, k3, k4, k5, k6⟩ := sum_bounds p1 p2
      have hn := fun W => new_any (n * e - m * d) (d * e) W (by omega) (by omega) (by omega) (by omega)
      have Hn := Lib.hid hn
      clear hn
      have es : subF n d m e = newF (n * e - m * d) (d * e) := by unfold subF; rw [p1, p2]; rfl
      rw [es]
      clear es
      obtain ⟨r, hr⟩ : ∃ r, newF (n * e - m * d) (d * e) = r := ⟨_, rfl⟩
      rw [hr] at Hn ⊢
      clear hr
      go_enter Tryd.func8, Tryd.ntmps8
      go_wp2_with (first | (go_at_call 6; refine (proper_any _ _ _).mono ?_; rintro e w' ⟨rfl, hb⟩; obtain ⟨hc, hf, hz, hlt, hle⟩ := cellsIf hb (by (try simp); exact rfl)) | (go_at_call 20; refine (Hn.out _).mono ?_; rintro e w' ⟨rfl, hb⟩; obtain ⟨hc, hf, hz, hlt, hle⟩ := cellsIf hb (by (try simp); exact rfl)))
      refine bodyPost_ret (v := .tuple #[.agg #[.int .i64 r.1, .int .i64 r.2.1], errV r.2.2]) (by simp [results, Tryd.results8, go_sem, ↓IntWalk.iteOmega, *]) rfl (RetFE.mk rfl ?_)
      repeat (first | exact Below.refl _ _ | refine below_dN ?_ _ | refine Below.drew ?_ | refine Below.alloc ?_ (by first | omega | (simp; done) | (simp; omega)) _ | refine Below.setCell ?_ (by first | omega | (simp; done) | (simp; omega)) _ | refine below_step (by assumption) (by first | omega | (simp; done) | (simp; omega)) ?_)
    · have p3 : prB m e = false := by simpa using p2
      have H := Lib.hid (show subF n d m e = (0, 0, 2) by unfold subF; rw [p1, p3]; rfl)
      go_enter Tryd.func8, Tryd.ntmps8
      go_wp2_with (go_at_call 6; refine (proper_any _ _ _).mono ?_; rintro e w' ⟨rfl, hb⟩; obtain ⟨hc, hf, hz, hlt, hle⟩ := cellsIf hb (by (try simp); exact rfl))
      refine bodyPost_ret (v := .tuple #[.agg #[.int .i64 0, .int .i64 0], .iface 34 (.int .i64 2)]) (by simp [results, Tryd.results8, go_sem, ↓IntWalk.iteOmega, *]) rfl (RetFE.mk (by rw [H.out]; rfl) ?_)
      repeat (first | exact Below.refl _ _ | refine below_dN ?_ _ | refine Below.drew ?_ | refine Below.alloc ?_ (by first | omega | (simp; done) | (simp; omega)) _ | refine Below.setCell ?_ (by first | omega | (simp; done) | (simp; omega)) _ | refine below_step (by assumption) (by first | omega | (simp; done) | (simp; omega)) ?_)
  · have p3 : prB n d = false := by simpa using p1
    have H := Lib.hid (show subF n d m e = (0, 0, 2) by unfold subF; rw [p3]; rfl)
    go_enter Tryd.func8, Tryd.ntmps8
    go_wp2_with (go_at_call 6; refine (proper_any _ _ _).mono ?_; rintro e w' ⟨rfl, hb⟩; obtain ⟨hc, hf, hz, hlt, hle⟩ := cellsIf hb (by (try simp); exact rfl))
    refine bodyPost_ret (v := .tuple #[.agg #[.int .i64 0, .int .i64 0], .iface 34 (.int .i64 2)]) (by simp [results, Tryd.results8, go_sem, ↓IntWalk.iteOmega, *]) rfl (RetFE.mk (by rw [H.out]; rfl) ?_)
    repeat (first | exact Below.refl _ _ | refine below_dN ?_ _ | refine Below.drew ?_ | refine Below.alloc ?_ (by first | omega | (simp; done) | (simp; omega)) _ | refine Below.setCell ?_ (by first | omega | (simp; done) | (simp; omega)) _ | refine below_step (by assumption) (by first | omega | (simp; done) | (simp; omega)) ?_)

end Go.Proofs.YtmdkchoepcjahaaDoor
