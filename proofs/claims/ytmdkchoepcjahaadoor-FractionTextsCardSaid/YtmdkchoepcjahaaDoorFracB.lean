/- Contract of fraction.New. -/
import Derived.Test.YtmdkchoepcjahaaDoorFracA
namespace Go.Proofs.YtmdkchoepcjahaaDoor
set_option linter.unusedSimpArgs false
set_option linter.unusedVariables false
open Go.RowKit
set_option linter.unusedVariables false

/-- An error's value: 0 is nil. -/
def errV (c : Int) : Value := if c = 0 then .nilIface else .iface 34 (.int .i64 c)
theorem errV_0 : errV 0 = .nilIface := rfl
theorem errV_22 : errV 22 = .iface 34 (.int .i64 22) := rfl
theorem errV_5 : errV 5 = .iface 34 (.int .i64 5) := rfl
theorem errV_2 : errV 2 = .iface 34 (.int .i64 2) := rfl

/-- The last step of New: a numerator, a positive denominator. -/
def newG (n d : Int) : Int × Int × Int :=
  if aI (n.tdiv (gI n d)) > 1099511627776 ∨ d / gI n d > 1048576 then (0, 0, 5) else (n.tdiv (gI n d), d / gI n d, 0)
/-- New. -/
def newF (n d : Int) : Int × Int × Int :=
  if d = 0 then (0, 0, 22)
  else if n = -9223372036854775808 ∨ d = -9223372036854775808 then (0, 0, 5)
  else if d < 0 then newG (-n) (-d) else newG n d

theorem gI_pos (a b : Int) (h : 1 ≤ b) : 1 ≤ gI a b := by
  unfold gI
  have : 0 < Int.gcd a b := Int.gcd_pos_of_ne_zero_right a (by omega)
  omega
theorem gI_le (a b : Int) (h : 1 ≤ b) : gI a b ≤ b := by
  unfold gI
  have := Int.le_of_dvd (by omega : 0 < b) (Int.gcd_dvd_right a b)
  omega
theorem tdiv_bound (n g b : Int) (hg : 1 ≤ g) (h1 : -b ≤ n) (h2 : n ≤ b) : -b ≤ n.tdiv g ∧ n.tdiv g ≤ b := by
  have h := Int.natAbs_tdiv_le_natAbs n g
  omega
theorem ediv_bound (d g : Int) (hg : 1 ≤ g) (h1 : 0 ≤ d) : 0 ≤ d / g ∧ d / g ≤ d := by
  exact ⟨Int.ediv_nonneg h1 (by omega), Int.ediv_le_self g h1⟩

/-- What a call leaves: a fraction, an error. -/
def RetFE (r : Int × Int × Int) (w : World) (e : Ending) (w' : World) : Prop :=
  e = .returned (.tuple #[.agg #[.int .i64 r.1, .int .i64 r.2.1], errV r.2.2]) ∧ Below w.heap.size w w'

theorem RetFE.mk {r : Int × Int × Int} {w : World} {e : Ending} {w' : World} (h : e = .returned (.tuple #[.agg #[.int .i64 r.1, .int .i64 r.2.1], errV r.2.2])) (hb : Below w.heap.size w w') : RetFE r w e w' := ⟨h, hb⟩

set_option maxHeartbeats 1000000 in
theorem new_pos (n d : Int) (w : World) (hn1 : -9223372036854775807 ≤ n) (hn2 : n ≤ 9223372036854775807) (hd1 : 1 ≤ d) (hd2 : d ≤ 9223372036854775807) :
    Calls Tryd.prog 20 #[.int .i64 n, .int .i64 d] w (RetFE (newG n d) w) := by
  have b0 : (d == 0) = false := by simp; omega
  have b1 : (n == -9223372036854775808) = false := by simp; omega
  have b2 : (d == -9223372036854775808) = false := by simp; omega
  have b3 : decide (d < 0) = false := by simp; omega
  have a1 := aI_nonneg n
  have a2 := aI_le n 9223372036854775807 (by omega) hn2
  have g1 := gI_pos n d hd1
  have g2 := gI_le n d hd1
  obtain ⟨t1, t2⟩ := tdiv_bound n (gI n d) 9223372036854775807 g1 hn1 hn2
  obtain ⟨e1, e2⟩ := ediv_bound d (gI n d) g1 (by omega)
  have hg := gI_aI n d
  by_cases l1 : 1099511627776 < aI (n.tdiv (gI n d))
  · have H := Lib.hid (show newG n d = (0, 0, 5) by unfold newG; rw [if_pos (Or.inl l1)])
    have hl : decide (1099511627776 < aI (n.tdiv (gI n d))) = true := by simpa using l1
    go_enter Tryd.func20, Tryd.ntmps20
    go_wp2_with (first | (go_at_call 22; refine (abs_any _ _ (by omega) (by omega)).mono ?_; rintro e w' ⟨rfl, rfl⟩) | (go_at_call 21; refine (gcd_any _ _ _ (by omega) (by omega) (by omega) (by omega)).mono ?_; rintro e w' ⟨rfl, nq, rfl⟩))
    go_region
    go_wp2_with (go_at_call 22; refine (abs_any _ _ (by omega) (by omega)).mono ?_; rintro e w' ⟨rfl, rfl⟩)
    refine bodyPost_ret (v := .tuple #[.agg #[.int .i64 0, .int .i64 0], .iface 34 (.int .i64 5)]) (by simp [results, Tryd.results20, go_sem]) rfl (RetFE.mk (by rw [H.out]; rfl) ?_)
    repeat (first | exact Below.refl _ _ | refine below_dN ?_ _ | refine Below.alloc ?_ (by simp) _ | refine Below.setCell ?_ (by simp) _)
  · by_cases l2 : 1048576 < d / gI n d
    · have H := Lib.hid (show newG n d = (0, 0, 5) by unfold newG; rw [if_pos (Or.inr l2)])
      have hl : decide (1099511627776 < aI (n.tdiv (gI n d))) = false := by simpa using l1
      have hl2 : decide (1048576 < d / gI n d) = true := by simpa using l2
      go_enter Tryd.func20, Tryd.ntmps20
      go_wp2_with (first | (go_at_call 22; refine (abs_any _ _ (by omega) (by omega)).mono ?_; rintro e w' ⟨rfl, rfl⟩) | (go_at_call 21; refine (gcd_any _ _ _ (by omega) (by omega) (by omega) (by omega)).mono ?_; rintro e w' ⟨rfl, nq, rfl⟩))
      go_region
      go_wp2_with (go_at_call 22; refine (abs_any _ _ (by omega) (by omega)).mono ?_; rintro e w' ⟨rfl, rfl⟩)
      refine bodyPost_ret (v := .tuple #[.agg #[.int .i64 0, .int .i64 0], .iface 34 (.int .i64 5)]) (by simp [results, Tryd.results20, go_sem]) rfl (RetFE.mk (by rw [H.out]; rfl) ?_)
      repeat (first | exact Below.refl _ _ | refine below_dN ?_ _ | refine Below.alloc ?_ (by simp) _ | refine Below.setCell ?_ (by simp) _)
    · have H := Lib.hid (show newG n d = (n.tdiv (gI n d), d / gI n d, 0) by unfold newG; rw [if_neg (by omega)])
      have hl : decide (1099511627776 < aI (n.tdiv (gI n d))) = false := by simpa using l1
      have hl2 : decide (1048576 < d / gI n d) = false := by simpa using l2
      go_enter Tryd.func20, Tryd.ntmps20
      go_wp2_with (first | (go_at_call 22; refine (abs_any _ _ (by omega) (by omega)).mono ?_; rintro e w' ⟨rfl, rfl⟩) | (go_at_call 21; refine (gcd_any _ _ _ (by omega) (by omega) (by omega) (by omega)).mono ?_; rintro e w' ⟨rfl, nq, rfl⟩))
      go_region
      go_wp2_with (go_at_call 22; refine (abs_any _ _ (by omega) (by omega)).mono ?_; rintro e w' ⟨rfl, rfl⟩)
      refine bodyPost_ret (v := .tuple #[.agg #[.int .i64 (n.tdiv (gI n d)), .int .i64 (d / gI n d)], .nilIface]) (by simp [results, Tryd.results20, go_sem]) rfl (RetFE.mk (by rw [H.out]; rfl) ?_)
      repeat (first | exact Below.refl _ _ | refine below_dN ?_ _ | refine Below.alloc ?_ (by simp) _ | refine Below.setCell ?_ (by simp) _)

set_option maxHeartbeats 1000000 in
theorem new_neg (n d m e : Int) (w : World) (hm : -n = m) (he : -d = e) (hn1 : -9223372036854775807 ≤ n) (hn2 : n ≤ 9223372036854775807) (hd1 : -9223372036854775807 ≤ d) (hd2 : d ≤ -1) :
    Calls Tryd.prog 20 #[.int .i64 n, .int .i64 d] w (RetFE (newG m e) w) := by
  have b0 : (d == 0) = false := by simp; omega
  have b1 : (n == -9223372036854775808) = false := by simp; omega
  have b2 : (d == -9223372036854775808) = false := by simp; omega
  have b3 : decide (d < 0) = true := by simp; omega
  have a1 := aI_nonneg m
  have a2 := aI_le m 9223372036854775807 (by omega) (by omega)
  have g1 := gI_pos m e (by omega)
  have g2 := gI_le m e (by omega)
  obtain ⟨t1, t2⟩ := tdiv_bound m (gI m e) 9223372036854775807 g1 (by omega) (by omega)
  obtain ⟨e1, e2⟩ := ediv_bound e (gI m e) g1 (by omega)
  have hg := gI_aI m e
  by_cases l1 : 1099511627776 < aI (m.tdiv (gI m e))
  · have H := Lib.hid (show newG m e = (0, 0, 5) by unfold newG; rw [if_pos (Or.inl l1)])
    have hl : decide (1099511627776 < aI (m.tdiv (gI m e))) = true := by simpa using l1
    go_enter Tryd.func20, Tryd.ntmps20
    go_wp2_with (first | (go_at_call 22; refine (abs_any _ _ (by omega) (by omega)).mono ?_; rintro _ w' ⟨rfl, rfl⟩) | (go_at_call 21; refine (gcd_any _ _ _ (by omega) (by omega) (by omega) (by omega)).mono ?_; rintro _ w' ⟨rfl, nq, rfl⟩))
    go_region
    go_wp2_with (go_at_call 22; refine (abs_any _ _ (by omega) (by omega)).mono ?_; rintro _ w' ⟨rfl, rfl⟩)
    refine bodyPost_ret (v := .tuple #[.agg #[.int .i64 0, .int .i64 0], .iface 34 (.int .i64 5)]) (by simp [results, Tryd.results20, go_sem]) rfl (RetFE.mk (by rw [H.out]; rfl) ?_)
    repeat (first | exact Below.refl _ _ | refine below_dN ?_ _ | refine Below.alloc ?_ (by simp) _ | refine Below.setCell ?_ (by simp) _)
  · by_cases l2 : 1048576 < e / gI m e
    · have H := Lib.hid (show newG m e = (0, 0, 5) by unfold newG; rw [if_pos (Or.inr l2)])
      have hl : decide (1099511627776 < aI (m.tdiv (gI m e))) = false := by simpa using l1
      have hl2 : decide (1048576 < e / gI m e) = true := by simpa using l2
      go_enter Tryd.func20, Tryd.ntmps20
      go_wp2_with (first | (go_at_call 22; refine (abs_any _ _ (by omega) (by omega)).mono ?_; rintro _ w' ⟨rfl, rfl⟩) | (go_at_call 21; refine (gcd_any _ _ _ (by omega) (by omega) (by omega) (by omega)).mono ?_; rintro _ w' ⟨rfl, nq, rfl⟩))
      go_region
      go_wp2_with (go_at_call 22; refine (abs_any _ _ (by omega) (by omega)).mono ?_; rintro _ w' ⟨rfl, rfl⟩)
      refine bodyPost_ret (v := .tuple #[.agg #[.int .i64 0, .int .i64 0], .iface 34 (.int .i64 5)]) (by simp [results, Tryd.results20, go_sem]) rfl (RetFE.mk (by rw [H.out]; rfl) ?_)
      repeat (first | exact Below.refl _ _ | refine below_dN ?_ _ | refine Below.alloc ?_ (by simp) _ | refine Below.setCell ?_ (by simp) _)
    · have H := Lib.hid (show newG m e = (m.tdiv (gI m e), e / gI m e, 0) by unfold newG; rw [if_neg (by omega)])
      have hl : decide (1099511627776 < aI (m.tdiv (gI m e))) = false := by simpa using l1
      have hl2 : decide (1048576 < e / gI m e) = false := by simpa using l2
      go_enter Tryd.func20, Tryd.ntmps20
      go_wp2_with (first | (go_at_call 22; refine (abs_any _ _ (by omega) (by omega)).mono ?_; rintro _ w' ⟨rfl, rfl⟩) | (go_at_call 21; refine (gcd_any _ _ _ (by omega) (by omega) (by omega) (by omega)).mono ?_; rintro _ w' ⟨rfl, nq, rfl⟩))
      go_region
      go_wp2_with (go_at_call 22; refine (abs_any _ _ (by omega) (by omega)).mono ?_; rintro _ w' ⟨rfl, rfl⟩)
      refine bodyPost_ret (v := .tuple #[.agg #[.int .i64 (m.tdiv (gI m e)), .int .i64 (e / gI m e)], .nilIface]) (by simp [results, Tryd.results20, go_sem]) rfl (RetFE.mk (by rw [H.out]; rfl) ?_)
      repeat (first | exact Below.refl _ _ | refine below_dN ?_ _ | refine Below.alloc ?_ (by simp) _ | refine Below.setCell ?_ (by simp) _)


set_option maxHeartbeats 1000000 in
theorem new_any (n d : Int) (w : World) (hn1 : -9223372036854775808 ≤ n) (hn2 : n ≤ 9223372036854775807) (hd1 : -9223372036854775808 ≤ d) (hd2 : d ≤ 9223372036854775807) :
    Calls Tryd.prog 20 #[.int .i64 n, .int .i64 d] w (RetFE (newF n d) w) := by
  by_cases c0 : d = 0
  · have H := Lib.hid (show newF n d = (0, 0, 22) by unfold newF; rw [if_pos c0])
    have b0 : (d == 0) = true := by simp [c0]
    clear c0 hd1 hd2
    go_enter Tryd.func20, Tryd.ntmps20
    go_wp2
    refine bodyPost_ret (v := .tuple #[.agg #[.int .i64 0, .int .i64 0], .iface 34 (.int .i64 22)]) (by simp [results, Tryd.results20, go_sem]) rfl (RetFE.mk (by rw [H.out]; rfl) ?_)
    repeat (first | exact Below.refl _ _ | refine below_dN ?_ _ | refine Below.alloc ?_ (by simp) _ | refine Below.setCell ?_ (by simp) _)
  by_cases c1 : n = -9223372036854775808
  · have H := Lib.hid (show newF n d = (0, 0, 5) by unfold newF; rw [if_neg c0, if_pos (Or.inl c1)])
    have b0 : (d == 0) = false := by simp [c0]
    have b1 : (n == -9223372036854775808) = true := by simp [c1]
    clear c0 c1 hn1 hn2
    go_enter Tryd.func20, Tryd.ntmps20
    go_wp2
    refine bodyPost_ret (v := .tuple #[.agg #[.int .i64 0, .int .i64 0], .iface 34 (.int .i64 5)]) (by simp [results, Tryd.results20, go_sem]) rfl (RetFE.mk (by rw [H.out]; rfl) ?_)
    repeat (first | exact Below.refl _ _ | refine below_dN ?_ _ | refine Below.alloc ?_ (by simp) _ | refine Below.setCell ?_ (by simp) _)
  by_cases c2 : d = -9223372036854775808
  · have H := Lib.hid (show newF n d = (0, 0, 5) by unfold newF; rw [if_neg c0, if_pos (Or.inr c2)])
    have b0 : (d == 0) = false := by simp [c0]
    have b1 : (n == -9223372036854775808) = false := by simp [c1]
    have b2 : (d == -9223372036854775808) = true := by simp [c2]
    clear c0 c2 hd1 hd2
    go_enter Tryd.func20, Tryd.ntmps20
    go_wp2
    refine bodyPost_ret (v := .tuple #[.agg #[.int .i64 0, .int .i64 0], .iface 34 (.int .i64 5)]) (by simp [results, Tryd.results20, go_sem]) rfl (RetFE.mk (by rw [H.out]; rfl) ?_)
    repeat (first | exact Below.refl _ _ | refine below_dN ?_ _ | refine Below.alloc ?_ (by simp) _ | refine Below.setCell ?_ (by simp) _)
  by_cases c3 : d < 0
  · have e : newF n d = newG (-n) (-d) := by unfold newF; rw [if_neg c0, if_neg (by omega), if_pos c3]
    rw [e]; exact new_neg n d _ _ w rfl rfl (by omega) hn2 (by omega) (by omega)
  · have e : newF n d = newG n d := by unfold newF; rw [if_neg c0, if_neg (by omega), if_neg c3]
    rw [e]; exact new_pos n d w (by omega) hn2 (by omega) hd2

end Go.Proofs.YtmdkchoepcjahaaDoor
