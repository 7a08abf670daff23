/- Contracts of times, Mul, Div (the program's and the reference's). -/
import Derived.Test.YtmdkchoepcjahaaDoorFracH
import Derived.Test.YtmdkchoepcjahaaDoorMul64
namespace Go.Proofs.YtmdkchoepcjahaaDoor
set_option linter.unusedSimpArgs false
set_option linter.unusedVariables false
open Go.RowKit
set_option linter.unusedVariables false

theorem tdiv_pos_ne (n g : Int) (hg : g ∣ n) (h0 : n ≠ 0) : n.tdiv g ≠ 0 := by
  obtain ⟨k, rfl⟩ := hg
  intro h
  rw [Int.tdiv_eq_ediv_of_dvd ⟨k, rfl⟩] at h
  by_cases g0 : g = 0
  · subst g0; simp at h0
  · rw [Int.mul_ediv_cancel_left _ g0] at h
    subst h; simp at h0
theorem quot_pos (a b : Int) (hb : 1 ≤ b) : 1 ≤ b / gI a b := by
  obtain ⟨_, _, _, _, _, q1, _, q2⟩ := gcd_parts a b hb
  rw [q2]; exact q1

set_option maxHeartbeats 1000000 in
theorem times_any (n d m e : Int) (w : World) (hn1 : -1099511627776 ≤ n) (hn2 : n ≤ 1099511627776) (hm1 : -1099511627776 ≤ m) (hm2 : m ≤ 1099511627776) (hd1 : 1 ≤ d) (hd2 : d ≤ 1099511627776) (he1 : 1 ≤ e) (he2 : e ≤ 1099511627776) :
    Calls Tryd.prog 23 #[.int .i64 n, .int .i64 d, .int .i64 m, .int .i64 e] w (RetFE (timesF n d m e) w) := by
  by_cases h0 : n = 0
  · have H := Lib.hid (show timesF n d m e = (0, 1, 0) by unfold timesF; rw [if_pos (Or.inl h0)])
    have b1 : (n == 0) = true := by simp [h0]
    clear h0 hn1 hn2
    go_enter Tryd.func23, Tryd.ntmps23
    go_wp2
    refine bodyPost_ret (v := .tuple #[.agg #[.int .i64 0, .int .i64 1], .nilIface]) (by simp [results, Tryd.results23, go_sem]) rfl (RetFE.mk (by rw [H.out]; rfl) ?_)
    repeat (first | exact Below.refl _ _ | refine below_dN ?_ _ | refine Below.drew ?_ | refine Below.alloc ?_ (by first | omega | (simp; done) | (simp; omega)) _ | refine Below.setCell ?_ (by first | omega | (simp; done) | (simp; omega)) _ | refine below_step (by assumption) (by first | omega | (simp; done) | (simp; omega)) ?_)
  by_cases h00 : m = 0
  · have H := Lib.hid (show timesF n d m e = (0, 1, 0) by unfold timesF; rw [if_pos (Or.inr h00)])
    have b1 : (n == 0) = false := by simp [h0]
    have b2 : (m == 0) = true := by simp [h00]
    clear h0 h00 hm1 hm2
    go_enter Tryd.func23, Tryd.ntmps23
    go_wp2
    refine bodyPost_ret (v := .tuple #[.agg #[.int .i64 0, .int .i64 1], .nilIface]) (by simp [results, Tryd.results23, go_sem]) rfl (RetFE.mk (by rw [H.out]; rfl) ?_)
    repeat (first | exact Below.refl _ _ | refine below_dN ?_ _ | refine Below.drew ?_ | refine Below.alloc ?_ (by first | omega | (simp; done) | (simp; omega)) _ | refine Below.setCell ?_ (by first | omega | (simp; done) | (simp; omega)) _ | refine below_step (by assumption) (by first | omega | (simp; done) | (simp; omega)) ?_)
  have b1 : (n == 0) = false := by simp; omega
  have b2 : (m == 0) = false := by simp; omega
  have a1 := aI_nonneg n
  have a2 := aI_le n 1099511627776 hn1 hn2
  have a3 := aI_nonneg m
  have a4 := aI_le m 1099511627776 hm1 hm2
  have g1 := gI_pos n e he1
  have g2 := gI_le n e he1
  have h1 := gI_pos m d hd1
  have h2 := gI_le m d hd1
  have hgn := gI_aI n e
  have hgm := gI_aI m d
  have dn : n.tdiv (gI n e) ≠ 0 := tdiv_pos_ne _ _ (by unfold gI; exact Int.gcd_dvd_left n e) h0
  have dm : m.tdiv (gI m d) ≠ 0 := tdiv_pos_ne _ _ (by unfold gI; exact Int.gcd_dvd_left m d) h00
  obtain ⟨t1, t2⟩ := tdiv_bound n (gI n e) 1099511627776 g1 hn1 hn2
  obtain ⟨t3, t4⟩ := tdiv_bound m (gI m d) 1099511627776 h1 hm1 hm2
  have q1 := quot_pos n e he1
  have q3 := quot_pos m d hd1
  obtain ⟨_, e2⟩ := ediv_bound e (gI n e) g1 (by omega)
  obtain ⟨_, e4⟩ := ediv_bound d (gI m d) h1 (by omega)
  have an : 1 ≤ aI (n.tdiv (gI n e)) := by unfold aI; omega
  have am : 1 ≤ aI (m.tdiv (gI m d)) := by unfold aI; omega
  have an2 := aI_le (n.tdiv (gI n e)) 1099511627776 t1 t2
  have am2 := aI_le (m.tdiv (gI m d)) 1099511627776 t3 t4
  obtain ⟨u1, u2⟩ := ediv_bound 1099511627776 (aI (m.tdiv (gI m d))) am (by omega)
  obtain ⟨u3, u4⟩ := ediv_bound 1048576 (e / gI n e) q1 (by omega)
  have k1 := lt_div_iff (aI (n.tdiv (gI n e))) (aI (m.tdiv (gI m d))) 1099511627776 am
  have k2 := lt_div_iff (d / gI m d) (e / gI n e) 1048576 q1
  rw [← aI_mul] at k1
  have hT : timesF n d m e = if aI (n.tdiv (gI n e)) > 1099511627776 / aI (m.tdiv (gI m d)) ∨ d / gI m d > 1048576 / (e / gI n e) then (0, 0, 5) else (n.tdiv (gI n e) * m.tdiv (gI m d), d / gI m d * (e / gI n e), 0) := by unfold timesF; rw [if_neg (by omega)]
  clear h0 h00
  by_cases l1 : 1099511627776 / aI (m.tdiv (gI m d)) < aI (n.tdiv (gI n e))
  · have H := Lib.hid (show timesF n d m e = (0, 0, 5) by rw [hT, if_pos (Or.inl l1)])
    have c1 : decide (1099511627776 / aI (m.tdiv (gI m d)) < aI (n.tdiv (gI n e))) = true := by simpa using l1
    clear hT k1 k2
    go_enter Tryd.func23, Tryd.ntmps23
    go_wp2_with (first | (go_at_call 22; refine (abs_any _ _ (by omega) (by omega)).mono ?_; rintro e' w' ⟨rfl, rfl⟩) | (go_at_call 21; refine (gcd_any _ _ _ (by omega) (by omega) (by omega) (by omega)).mono ?_; rintro e' w' ⟨rfl, nq1, rfl⟩))
    go_quiet (fail)
    go_wp2_with (first | (go_at_call 22; refine (abs_any _ _ (by omega) (by omega)).mono ?_; rintro e' w' ⟨rfl, rfl⟩) | (go_at_call 21; refine (gcd_any _ _ _ (by omega) (by omega) (by omega) (by omega)).mono ?_; rintro e' w' ⟨rfl, nq1, rfl⟩))
    refine bodyPost_ret (v := .tuple #[.agg #[.int .i64 0, .int .i64 0], .iface 34 (.int .i64 5)]) (by simp [results, Tryd.results23, go_sem, ↓IntWalk.iteOmega, *]) rfl (RetFE.mk (by rw [H.out]; rfl) ?_)
    repeat (first | exact Below.refl _ _ | refine below_dN ?_ _ | refine Below.drew ?_ | refine Below.alloc ?_ (by first | omega | (simp; done) | (simp; omega)) _ | refine Below.setCell ?_ (by first | omega | (simp; done) | (simp; omega)) _ | refine below_step (by assumption) (by first | omega | (simp; done) | (simp; omega)) ?_)
  · by_cases l2 : 1048576 / (e / gI n e) < d / gI m d
    · have H := Lib.hid (show timesF n d m e = (0, 0, 5) by rw [hT, if_pos (Or.inr l2)])
      have c1 : decide (1099511627776 / aI (m.tdiv (gI m d)) < aI (n.tdiv (gI n e))) = false := by simpa using l1
      have c2 : decide (1048576 / (e / gI n e) < d / gI m d) = true := by simpa using l2
      clear hT k1 k2
      go_enter Tryd.func23, Tryd.ntmps23
      go_wp2_with (first | (go_at_call 22; refine (abs_any _ _ (by omega) (by omega)).mono ?_; rintro e' w' ⟨rfl, rfl⟩) | (go_at_call 21; refine (gcd_any _ _ _ (by omega) (by omega) (by omega) (by omega)).mono ?_; rintro e' w' ⟨rfl, nq1, rfl⟩))
      go_quiet (fail)
      go_wp2_with (first | (go_at_call 22; refine (abs_any _ _ (by omega) (by omega)).mono ?_; rintro e' w' ⟨rfl, rfl⟩) | (go_at_call 21; refine (gcd_any _ _ _ (by omega) (by omega) (by omega) (by omega)).mono ?_; rintro e' w' ⟨rfl, nq1, rfl⟩))
      refine bodyPost_ret (v := .tuple #[.agg #[.int .i64 0, .int .i64 0], .iface 34 (.int .i64 5)]) (by simp [results, Tryd.results23, go_sem, ↓IntWalk.iteOmega, *]) rfl (RetFE.mk (by rw [H.out]; rfl) ?_)
      repeat (first | exact Below.refl _ _ | refine below_dN ?_ _ | refine Below.drew ?_ | refine Below.alloc ?_ (by first | omega | (simp; done) | (simp; omega)) _ | refine Below.setCell ?_ (by first | omega | (simp; done) | (simp; omega)) _ | refine below_step (by assumption) (by first | omega | (simp; done) | (simp; omega)) ?_)
    · have H := Lib.hid (show timesF n d m e = (n.tdiv (gI n e) * m.tdiv (gI m d), d / gI m d * (e / gI n e), 0) by rw [hT, if_neg (by omega)])
      have c1 : decide (1099511627776 / aI (m.tdiv (gI m d)) < aI (n.tdiv (gI n e))) = false := by simpa using l1
      have c2 : decide (1048576 / (e / gI n e) < d / gI m d) = false := by simpa using l2
      have f1 : aI (n.tdiv (gI n e) * m.tdiv (gI m d)) ≤ 1099511627776 := by omega
      have f2 : d / gI m d * (e / gI n e) ≤ 1048576 := by omega
      have f3 : -1099511627776 ≤ n.tdiv (gI n e) * m.tdiv (gI m d) ∧ n.tdiv (gI n e) * m.tdiv (gI m d) ≤ 1099511627776 := by unfold aI at f1; omega
      have f4 : 1 * 1 ≤ d / gI m d * (e / gI n e) := Int.mul_le_mul q3 q1 (by omega) (by omega)
      obtain ⟨f5, f6⟩ := f3
      clear hT k1 k2 f1
      go_enter Tryd.func23, Tryd.ntmps23
      go_wp2_with (first | (go_at_call 22; refine (abs_any _ _ (by omega) (by omega)).mono ?_; rintro e' w' ⟨rfl, rfl⟩) | (go_at_call 21; refine (gcd_any _ _ _ (by omega) (by omega) (by omega) (by omega)).mono ?_; rintro e' w' ⟨rfl, nq1, rfl⟩))
      go_quiet (fail)
      go_wp2_with (first | (go_at_call 22; refine (abs_any _ _ (by omega) (by omega)).mono ?_; rintro e' w' ⟨rfl, rfl⟩) | (go_at_call 21; refine (gcd_any _ _ _ (by omega) (by omega) (by omega) (by omega)).mono ?_; rintro e' w' ⟨rfl, nq1, rfl⟩))
      refine bodyPost_ret (v := .tuple #[.agg #[.int .i64 (n.tdiv (gI n e) * m.tdiv (gI m d)), .int .i64 (d / gI m d * (e / gI n e))], .nilIface]) (by simp [results, Tryd.results23, go_sem, ↓IntWalk.iteOmega, *]) rfl (RetFE.mk (by rw [H.out]; rfl) ?_)
      repeat (first | exact Below.refl _ _ | refine below_dN ?_ _ | refine Below.drew ?_ | refine Below.alloc ?_ (by first | omega | (simp; done) | (simp; omega)) _ | refine Below.setCell ?_ (by first | omega | (simp; done) | (simp; omega)) _ | refine below_step (by assumption) (by first | omega | (simp; done) | (simp; omega)) ?_)

end Go.Proofs.YtmdkchoepcjahaaDoor
