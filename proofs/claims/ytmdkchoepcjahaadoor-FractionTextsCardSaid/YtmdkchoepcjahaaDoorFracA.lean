/- Contracts of the fraction package's small functions: gcd, abs, Proper (the program's and the reference's). -/
import Derived.Test.YtmdkchoepcjahaaDoorBase
namespace Go.Proofs.YtmdkchoepcjahaaDoor
set_option linter.unusedSimpArgs false
set_option linter.unusedVariables false
open Go.RowKit

/-- Int.gcd as an Int. -/
def gI (a b : Int) : Int := ((Int.gcd a b : Nat) : Int)

theorem gI_zero (a : Int) (h : 0 ≤ a) : gI a 0 = a := by
  unfold gI; simp; omega
theorem gI_step (a b : Int) : gI b (a % b) = gI a b := by
  unfold gI
  have h := Int.gcd_add_mul_right_left b (a % b) (a / b)
  have e : a % b + a / b * b = a := by have := Int.emod_add_mul_ediv a b; rw [Int.mul_comm]; exact this
  rw [e] at h
  rw [h, Int.gcd_comm]

set_option maxHeartbeats 400000 in
theorem gcd_any (a b : Int) (w : World) (ha : 0 ≤ a) (hb : 0 ≤ b) (ha' : a ≤ 9223372036854775807) (hb' : b ≤ 9223372036854775807) :
    Calls Tryd.prog 21 #[.int .i64 a, .int .i64 b] w fun e w' => e = .returned (.int .i64 (gI a b)) ∧ ∃ n, w' = w.drewN n := by
  go_enter Tryd.func21, Tryd.ntmps21
  go_wp2
  go_loopw [0, 1] (fun x y wr => ∃ (p q : Int) (n : Nat), 0 ≤ p ∧ 0 ≤ q ∧ p ≤ 9223372036854775807 ∧ q ≤ 9223372036854775807 ∧ x = .int .i64 p ∧ y = .int .i64 q ∧ gI p q = gI a b ∧ wr = w.drewN n) (fun _ y _ => (intOf y).toNat)
  case atStart => exact ⟨a, b, 0, ha, hb, ha', hb', rfl, rfl, rfl, rfl⟩
  case round =>
    obtain ⟨p, q, n, hp, hq, hp', hq', rfl, rfl, hg, rfl⟩ := hrel
    have Hg := Lib.hid hg
    clear hg
    by_cases h0 : q = 0
    · have hd : (q != 0) = false := by simp [h0]
      have hfin : gI a b = p := by rw [← Hg.out, h0, gI_zero _ hp]
      have Hf := Lib.hid hfin
      clear hfin h0
      go_wp2
      go_ret
      exact ⟨by rw [Hf.out]; rfl, _, rfl⟩
    · have hd : (q != 0) = true := by simp [h0]
      have hq1 : 1 ≤ q := by omega
      have hm := Int.emod_lt_of_pos p (by omega : 0 < q)
      have hm0 := Int.emod_nonneg p (by omega : q ≠ 0)
      go_wp2
      go_quiet (fail)
      go_wp2
      go_roundw
      case rel => exact ⟨q, p % q, _, by omega, by omega, by omega, by omega, rfl, rfl, by rw [gI_step]; exact Hg.out, World.drewN_drewN _ _ _⟩
      case measure => simp [intOf]; omega

/-- The absolute value. -/
def aI (n : Int) : Int := (n.natAbs : Int)
theorem aI_nonneg (n : Int) : 0 ≤ aI n := by unfold aI; omega
theorem aI_le (n b : Int) (h1 : -b ≤ n) (h2 : n ≤ b) : aI n ≤ b := by unfold aI; omega
theorem gI_aI (n d : Int) : gI (aI n) d = gI n d := by
  unfold gI aI; simp [Int.gcd]

set_option maxHeartbeats 400000 in
theorem abs_any (n : Int) (w : World) (h1 : -9223372036854775807 ≤ n) (h2 : n ≤ 9223372036854775807) :
    Calls Tryd.prog 22 #[.int .i64 n] w fun e w' => e = .returned (.int .i64 (aI n)) ∧ w = w' := by
  go_enter Tryd.func22, Tryd.ntmps22
  go_wp2
  all_goals (go_ret; exact ⟨ret_int (by unfold aI; omega), rfl⟩)

/-- Proper. -/
def prB (n d : Int) : Bool := decide (1 ≤ d ∧ d ≤ 1048576 ∧ -1099511627776 ≤ n ∧ n ≤ 1099511627776 ∧ gI n d = 1)

set_option maxHeartbeats 1000000 in
theorem proper_any (n d : Int) (w : World) :
    Calls Tryd.prog 6 #[.agg #[.int .i64 n, .int .i64 d]] w fun e w' => e = .returned (.bool (prB n d)) ∧ Below w.heap.size w w' := by
  by_cases c1 : 1 ≤ d
  · by_cases c2 : d ≤ 1048576
    · by_cases c3 : -1099511627776 ≤ n
      · by_cases c4 : n ≤ 1099511627776
        · have H := Lib.hid (show prB n d = (gI n d == 1) by unfold prB; rw [Bool.eq_iff_iff]; simp; omega)
          have a1 := aI_nonneg n
          have a2 := aI_le n 1099511627776 (by omega) c4
          have hg := gI_aI n d
          go_enter Tryd.func6, Tryd.ntmps6
          go_wp2
          go_quiet ((first | (go_at_call 22; exact quiet_left (abs_any _ _ (by omega) (by omega))) | (go_at_call 21; exact quiet_n (gcd_any _ _ _ (by omega) (by omega) (by omega) (by omega)))))
          go_wp2
          go_ret
          exact ⟨by rw [H.out]; rfl, below_dN ((Below.refl _ _).alloc (Nat.le_refl _) _) _⟩
        · have H := Lib.hid (show prB n d = false by unfold prB; simp; omega)
          have hd : decide (n ≤ 1099511627776) = false := by simpa using c4
          go_enter Tryd.func6, Tryd.ntmps6
          go_wp2
          go_quiet (fail)
          go_wp2
          go_ret
          exact ⟨by rw [H.out]; rfl, below_dN ((Below.refl _ _).alloc (Nat.le_refl _) _) _⟩
      · have H := Lib.hid (show prB n d = false by unfold prB; simp; omega)
        have hd : decide (-1099511627776 ≤ n) = false := by simpa using c3
        go_enter Tryd.func6, Tryd.ntmps6
        go_wp2
        go_quiet (fail)
        go_wp2
        go_ret
        exact ⟨by rw [H.out]; rfl, below_dN ((Below.refl _ _).alloc (Nat.le_refl _) _) _⟩
    · have H := Lib.hid (show prB n d = false by unfold prB; simp; omega)
      have hd : decide (d ≤ 1048576) = false := by simpa using c2
      go_enter Tryd.func6, Tryd.ntmps6
      go_wp2
      go_quiet (fail)
      go_wp2
      go_ret
      exact ⟨by rw [H.out]; rfl, below_dN ((Below.refl _ _).alloc (Nat.le_refl _) _) _⟩
  · have H := Lib.hid (show prB n d = false by unfold prB; simp; omega)
    have hd : decide (1 ≤ d) = false := by simpa using c1
    go_enter Tryd.func6, Tryd.ntmps6
    go_wp2
    go_quiet (fail)
    go_wp2
    go_ret
    exact ⟨by rw [H.out]; rfl, below_dN ((Below.refl _ _).alloc (Nat.le_refl _) _) _⟩

end Go.Proofs.YtmdkchoepcjahaaDoor
