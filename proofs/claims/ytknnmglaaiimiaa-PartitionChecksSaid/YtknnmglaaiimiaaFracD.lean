/- Contracts of the reference's made and New. -/
import Derived.Test.YtknnmglaaiimiaaFracC
namespace Go.Proofs.Ytknnmglaaiimiaa
set_option linter.unusedSimpArgs false
set_option linter.unusedVariables false
open Go.RowKit
set_option linter.unusedVariables false

/-- made. -/
def madeF (minus : Bool) (num den : Int) : Int × Int × Int :=
  if num / gI num den > 1099511627776 ∨ den / gI num den > 1048576 then (0, 0, 5)
  else (if minus then -(num / gI num den) else num / gI num den, den / gI num den, 0)

/-- What a call leaves: a fraction, a code. -/
def RetFC (r : Int × Int × Int) (w : World) (e : Ending) (w' : World) : Prop :=
  e = .returned (.tuple #[.agg #[.int .i64 r.1, .int .i64 r.2.1], .int .i64 r.2.2]) ∧ Below w.heap.size w w'
theorem RetFC.mk {r : Int × Int × Int} {w : World} {e : Ending} {w' : World} (h : e = .returned (.tuple #[.agg #[.int .i64 r.1, .int .i64 r.2.1], .int .i64 r.2.2])) (hb : Below w.heap.size w w') : RetFC r w e w' := ⟨h, hb⟩

theorem below_of_dN {w w' : World} {n : Nat} (h : Below (w.drewN n).heap.size (w.drewN n) w') : Below w.heap.size w w' := ⟨h.os, h.tape, h.output, h.size, h.block⟩

set_option maxHeartbeats 1000000 in
theorem made_any (minus : Bool) (n d : Int) (w : World) (hn1 : 0 ≤ n) (hn2 : n ≤ 18446744073709551615) (hd1 : 1 ≤ d) (hd2 : d ≤ 18446744073709551615) :
    Calls Try.prog 89 #[.bool minus, .int .u64 n, .int .u64 d] w (RetFC (madeF minus n d) w) := by
  have g1 := gI_pos n d hd1
  have g2 := gI_le n d hd1
  obtain ⟨t1, t2⟩ := ediv_bound n (gI n d) g1 hn1
  obtain ⟨e1, e2⟩ := ediv_bound d (gI n d) g1 (by omega)
  by_cases l1 : 1099511627776 < n / gI n d
  · have H := Lib.hid (show madeF minus n d = (0, 0, 5) by unfold madeF; rw [if_pos (Or.inl l1)])
    have hl : decide (1099511627776 < n / gI n d) = true := by simpa using l1
    go_enter Try.func89, Try.ntmps89
    go_wp2_with (go_at_call 67; refine (rgcd_any _ _ _ (by omega) (by omega) (by omega) (by omega)).mono ?_; rintro e w' ⟨rfl, nq, rfl⟩)
    go_quiet (fail)
    go_wp2
    refine bodyPost_ret (v := .tuple #[.agg #[.int .i64 0, .int .i64 0], .int .i64 5]) (by simp [results, Try.results89, go_sem]) rfl (RetFC.mk (by rw [H.out]) ?_)
    repeat (first | exact Below.refl _ _ | refine below_dN ?_ _ | refine Below.alloc ?_ (by simp) _ | refine Below.setCell ?_ (by simp) _)
  · by_cases l2 : 1048576 < d / gI n d
    · have H := Lib.hid (show madeF minus n d = (0, 0, 5) by unfold madeF; rw [if_pos (Or.inr l2)])
      have hl : decide (1099511627776 < n / gI n d) = false := by simpa using l1
      have hl2 : decide (1048576 < d / gI n d) = true := by simpa using l2
      go_enter Try.func89, Try.ntmps89
      go_wp2_with (go_at_call 67; refine (rgcd_any _ _ _ (by omega) (by omega) (by omega) (by omega)).mono ?_; rintro e w' ⟨rfl, nq, rfl⟩)
      go_quiet (fail)
      go_wp2
      refine bodyPost_ret (v := .tuple #[.agg #[.int .i64 0, .int .i64 0], .int .i64 5]) (by simp [results, Try.results89, go_sem]) rfl (RetFC.mk (by rw [H.out]) ?_)
      repeat (first | exact Below.refl _ _ | refine below_dN ?_ _ | refine Below.alloc ?_ (by simp) _ | refine Below.setCell ?_ (by simp) _)
    · have hl : decide (1099511627776 < n / gI n d) = false := by simpa using l1
      have hl2 : decide (1048576 < d / gI n d) = false := by simpa using l2
      cases minus
      · have H := Lib.hid (show madeF false n d = (n / gI n d, d / gI n d, 0) by unfold madeF; rw [if_neg (by omega)]; rfl)
        go_enter Try.func89, Try.ntmps89
        go_wp2_with (go_at_call 67; refine (rgcd_any _ _ _ (by omega) (by omega) (by omega) (by omega)).mono ?_; rintro e w' ⟨rfl, nq, rfl⟩)
        go_quiet (fail)
        go_wp2
        refine bodyPost_ret (v := .tuple #[.agg #[.int .i64 (n / gI n d), .int .i64 (d / gI n d)], .int .i64 0]) (by simp [results, Try.results89, go_sem]) rfl (RetFC.mk (by rw [H.out]) ?_)
        repeat (first | exact Below.refl _ _ | refine below_dN ?_ _ | refine Below.alloc ?_ (by simp) _ | refine Below.setCell ?_ (by simp) _)
      · have H := Lib.hid (show madeF true n d = (-(n / gI n d), d / gI n d, 0) by unfold madeF; rw [if_neg (by omega)]; rfl)
        go_enter Try.func89, Try.ntmps89
        go_wp2_with (go_at_call 67; refine (rgcd_any _ _ _ (by omega) (by omega) (by omega) (by omega)).mono ?_; rintro e w' ⟨rfl, nq, rfl⟩)
        go_quiet (fail)
        go_wp2
        refine bodyPost_ret (v := .tuple #[.agg #[.int .i64 (-(n / gI n d)), .int .i64 (d / gI n d)], .int .i64 0]) (by simp [results, Try.results89, go_sem]) rfl (RetFC.mk (by rw [H.out]) ?_)
        repeat (first | exact Below.refl _ _ | refine below_dN ?_ _ | refine Below.alloc ?_ (by simp) _ | refine Below.setCell ?_ (by simp) _)

theorem tdiv_neg_case (n g : Int) (h : n < 0) : n.tdiv g = -((-n) / g) := by
  have : n = -(-n) := by omega
  rw [this, Int.neg_tdiv, Int.tdiv_eq_ediv_of_nonneg (by omega)]
  simp
theorem newG_made (n d : Int) (hd : 1 ≤ d) : newG n d = madeF (decide (n < 0)) (aI n) d := by
  unfold newG madeF
  rw [gI_aI]
  have g1 := gI_pos n d hd
  by_cases h : n < 0
  · have e : aI n = -n := by unfold aI; omega
    have e2 := tdiv_neg_case n (gI n d) h
    have b := ediv_bound (-n) (gI n d) g1 (by omega)
    have e3 : aI (n.tdiv (gI n d)) = (-n) / gI n d := by rw [e2]; unfold aI; omega
    rw [e3, e2, e]
    simp [h]
  · have e : aI n = n := by unfold aI; omega
    have e2 : n.tdiv (gI n d) = n / gI n d := Int.tdiv_eq_ediv_of_nonneg (by omega)
    have b := ediv_bound n (gI n d) g1 (by omega)
    have e3 : aI (n.tdiv (gI n d)) = n / gI n d := by rw [e2]; unfold aI; omega
    rw [e3, e2, e]
    simp [h]
theorem newF_made (n d : Int) (h0 : d ≠ 0) (h1 : n ≠ -9223372036854775808) (h2 : d ≠ -9223372036854775808) :
    newF n d = madeF (decide (n < 0) != decide (d < 0)) (aI n) (aI d) := by
  unfold newF
  rw [if_neg h0, if_neg (by omega)]
  by_cases h : d < 0
  · rw [if_pos h, newG_made _ _ (by omega)]
    have e1 : aI d = -d := by unfold aI; omega
    have e2 : aI (-n) = aI n := by unfold aI; omega
    rw [e1, e2]
    by_cases hn : n = 0
    · subst hn
      simp [h, madeF, aI]
    · congr 1
      rw [Bool.eq_iff_iff]; simp; omega
  · rw [if_neg h, newG_made _ _ (by omega)]
    have e1 : aI d = d := by unfold aI; omega
    rw [e1]; simp [h]

set_option maxHeartbeats 1000000 in
theorem rnew_any (n d : Int) (w : World) (hn1 : -9223372036854775808 ≤ n) (hn2 : n ≤ 9223372036854775807) (hd1 : -9223372036854775808 ≤ d) (hd2 : d ≤ 9223372036854775807) :
    Calls Try.prog 52 #[.int .i64 n, .int .i64 d] w (RetFC (newF n d) w) := by
  by_cases c0 : d = 0
  · have H := Lib.hid (show newF n d = (0, 0, 22) by unfold newF; rw [if_pos c0])
    have b0 : (d == 0) = true := by simp [c0]
    clear c0 hd1 hd2
    go_enter Try.func52, Try.ntmps52
    go_wp2
    refine bodyPost_ret (v := .tuple #[.agg #[.int .i64 0, .int .i64 0], .int .i64 22]) (by simp [results, Try.results52, go_sem]) rfl (RetFC.mk (by rw [H.out]) ?_)
    repeat (first | exact Below.refl _ _ | refine below_dN ?_ _ | refine Below.alloc ?_ (by simp) _ | refine Below.setCell ?_ (by simp) _)
  by_cases c1 : n = -9223372036854775808
  · have H := Lib.hid (show newF n d = (0, 0, 5) by unfold newF; rw [if_neg c0, if_pos (Or.inl c1)])
    have b0 : (d == 0) = false := by simp [c0]
    have b1 : (n == -9223372036854775808) = true := by simp [c1]
    clear c0 c1 hn1 hn2
    go_enter Try.func52, Try.ntmps52
    go_wp2
    refine bodyPost_ret (v := .tuple #[.agg #[.int .i64 0, .int .i64 0], .int .i64 5]) (by simp [results, Try.results52, go_sem]) rfl (RetFC.mk (by rw [H.out]) ?_)
    repeat (first | exact Below.refl _ _ | refine below_dN ?_ _ | refine Below.alloc ?_ (by simp) _ | refine Below.setCell ?_ (by simp) _)
  by_cases c2 : d = -9223372036854775808
  · have H := Lib.hid (show newF n d = (0, 0, 5) by unfold newF; rw [if_neg c0, if_pos (Or.inr c2)])
    have b0 : (d == 0) = false := by simp [c0]
    have b1 : (n == -9223372036854775808) = false := by simp [c1]
    have b2 : (d == -9223372036854775808) = true := by simp [c2]
    clear c0 c2 hd1 hd2
    go_enter Try.func52, Try.ntmps52
    go_wp2
    refine bodyPost_ret (v := .tuple #[.agg #[.int .i64 0, .int .i64 0], .int .i64 5]) (by simp [results, Try.results52, go_sem]) rfl (RetFC.mk (by rw [H.out]) ?_)
    repeat (first | exact Below.refl _ _ | refine below_dN ?_ _ | refine Below.alloc ?_ (by simp) _ | refine Below.setCell ?_ (by simp) _)
  have b0 : (d == 0) = false := by simp [c0]
  have b1 : (n == -9223372036854775808) = false := by simp [c1]
  have b2 : (d == -9223372036854775808) = false := by simp [c2]
  have H := Lib.hid (newF_made n d c0 c1 c2)
  have a1 := aI_nonneg n
  have a2 := aI_le n 9223372036854775807 (by omega) hn2
  have a3 : 1 ≤ aI d := by unfold aI; omega
  have a4 := aI_le d 9223372036854775807 (by omega) hd2
  have hm := fun W => made_any (decide (n < 0) != decide (d < 0)) (aI n) (aI d) W a1 (by omega) a3 (by omega)
  rw [← H.out] at hm
  have Hm := Lib.hid hm
  clear hm
  obtain ⟨r, hr⟩ : ∃ r, newF n d = r := ⟨_, rfl⟩
  rw [hr] at Hm ⊢
  clear hr H
  go_enter Try.func52, Try.ntmps52
  go_wp2_with (first | (go_at_call 68; refine (size_any _ _ (by omega) (by omega)).mono ?_; rintro e w' ⟨rfl, rfl⟩) | (go_at_call 89; refine (Hm.out _).mono ?_; rintro e w' ⟨rfl, hb⟩; obtain ⟨hc, hf, hz, hlt, hle⟩ := cellsIf hb (by (try simp); exact rfl)))
  refine bodyPost_ret (v := .tuple #[.agg #[.int .i64 r.1, .int .i64 r.2.1], .int .i64 r.2.2]) (by simp [results, Try.results52, go_sem, hc]) rfl (RetFC.mk rfl ?_)
  repeat (first | exact Below.refl _ _ | refine below_dN ?_ _ | refine Below.drew ?_ | refine Below.alloc ?_ (by first | omega | (simp; done) | (simp; omega)) _ | refine Below.setCell ?_ (by first | omega | (simp; done) | (simp; omega)) _ | refine below_step (by assumption) (by first | omega | (simp; done) | (simp; omega)) ?_)

end Go.Proofs.Ytknnmglaaiimiaa
