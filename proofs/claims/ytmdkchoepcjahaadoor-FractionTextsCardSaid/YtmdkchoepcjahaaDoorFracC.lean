/- Contracts of the reference's fraction functions: size, gcd, Proper, made, New; base: Num, Is. -/
import Derived.Test.YtmdkchoepcjahaaDoorFracB
namespace Go.Proofs.YtmdkchoepcjahaaDoor
set_option linter.unusedSimpArgs false
set_option linter.unusedVariables false
open Go.RowKit
set_option linter.unusedVariables false

set_option maxHeartbeats 400000 in
theorem size_any (n : Int) (w : World) (h1 : -9223372036854775808 ≤ n) (h2 : n ≤ 9223372036854775807) :
    Calls Tryd.prog 34 #[.int .i64 n] w fun e w' => e = .returned (.int .u64 (aI n)) ∧ w = w' := by
  go_enter Tryd.func34, Tryd.ntmps34
  go_wp2
  all_goals (go_ret; refine ⟨ret_int ?_, rfl⟩; unfold aI; (try simp only [IntKind.wrap_u64]); omega)

set_option maxHeartbeats 400000 in
theorem rgcd_any (a b : Int) (w : World) (ha : 0 ≤ a) (hb : 0 ≤ b) (ha' : a ≤ 18446744073709551615) (hb' : b ≤ 18446744073709551615) :
    Calls Tryd.prog 38 #[.int .u64 a, .int .u64 b] w fun e w' => e = .returned (.int .u64 (gI a b)) ∧ ∃ n, w' = w.drewN n := by
  go_enter Tryd.func38, Tryd.ntmps38
  go_wp2
  go_loopw [0, 1] (fun x y wr => ∃ (p q : Int) (n : Nat), 0 ≤ p ∧ 0 ≤ q ∧ p ≤ 18446744073709551615 ∧ q ≤ 18446744073709551615 ∧ x = .int .u64 p ∧ y = .int .u64 q ∧ gI p q = gI a b ∧ wr = w.drewN n) (fun _ y _ => (intOf y).toNat)
  case atStart => exact ⟨a, b, 0, ha, hb, ha', hb', rfl, rfl, rfl, rfl⟩
  case round =>
    obtain ⟨p, q, n, hp, hq, hp', hq', rfl, rfl, hg, rfl⟩ := hrel
    have Hg := Lib.hid hg
    clear hg
    by_cases h0 : q = 0
    · have hd : decide (0 < q) = false := by simp [h0]
      have hfin : gI a b = p := by rw [← Hg.out, h0, gI_zero _ hp]
      have Hf := Lib.hid hfin
      clear hfin h0
      go_wp2
      go_ret
      exact ⟨by rw [Hf.out]; rfl, _, rfl⟩
    · have hd : decide (0 < q) = true := by simp; omega
      have hq1 : 1 ≤ q := by omega
      have hm := Int.emod_lt_of_pos p (by omega : 0 < q)
      have hm0 := Int.emod_nonneg p (by omega : q ≠ 0)
      go_wp2
      go_quiet (fail)
      go_wp2
      go_roundw
      case rel => exact ⟨q, p % q, _, by omega, by omega, by omega, by omega, rfl, rfl, by rw [gI_step]; exact Hg.out, World.drewN_drewN _ _ _⟩
      case measure => simp [intOf]; omega

theorem assert_errno (v : Value) (w : World) : (Instr.typeAssert (.iface 34 v) 27 34 true).run Tryd.prog w = .ok (.tuple #[v, .bool true]) w := by kernel_rfl

set_option maxHeartbeats 400000 in
theorem num_any (c : Int) (w : World) :
    Calls Tryd.prog 24 #[errV c] w fun e w' => e = .returned (.int .i64 c) ∧ w = w' := by
  by_cases h : c = 0
  · subst h
    rw [errV_0]
    go_enter Tryd.func24, Tryd.ntmps24
    go_wp2
    go_ret
    exact ⟨rfl, rfl⟩
  · have e : errV c = .iface 34 (.int .i64 c) := by unfold errV; rw [if_neg h]
    rw [e]
    clear e
    have ta := assert_errno
    go_enter Tryd.func24, Tryd.ntmps24
    go_wp2
    go_ret
    exact ⟨rfl, rfl⟩

/-- Is, of an error code that is not 0. -/
theorem is_any (c k : Int) (w : World) (hk : k ≠ 0) :
    Calls Tryd.prog 12 #[errV c, .int .i64 k] w fun e w' => e = .returned (.bool (decide (c = k))) ∧ w = w' := by
  by_cases h : c = 0
  · subst h
    rw [errV_0]
    have hd : decide (0 = k) = false := by simp; omega
    go_enter Tryd.func12, Tryd.ntmps12
    go_wp2
    go_ret
    exact ⟨bool_ret hd.symm, rfl⟩
  · have e : errV c = .iface 34 (.int .i64 c) := by unfold errV; rw [if_neg h]
    have hn := num_any c
    rw [e] at hn ⊢
    clear e
    have Hn := Lib.hid hn
    clear hn
    go_enter Tryd.func12, Tryd.ntmps12
    go_wp2_with (go_at_call 24; refine (Hn.out _).mono ?_; rintro e w' ⟨rfl, rfl⟩)
    go_ret
    exact ⟨bool_ret (by rw [Bool.eq_iff_iff]; simp), rfl⟩

set_option maxHeartbeats 1000000 in
theorem rproper_any (n d : Int) (w : World) :
    Calls Tryd.prog 32 #[.agg #[.int .i64 n, .int .i64 d]] w fun e w' => e = .returned (.bool (prB n d)) ∧ Below w.heap.size w w' := by
  by_cases c1 : 1 ≤ d
  · by_cases c2 : d ≤ 1048576
    · by_cases c3 : -1099511627776 ≤ n
      · by_cases c4 : n ≤ 1099511627776
        · have H := Lib.hid (show prB n d = (gI n d == 1) by unfold prB; rw [Bool.eq_iff_iff]; simp; omega)
          have a1 := aI_nonneg n
          have a2 := aI_le n 1099511627776 (by omega) c4
          have hg := gI_aI n d
          go_enter Tryd.func32, Tryd.ntmps32
          go_wp2
          go_quiet ((first | (go_at_call 34; exact quiet_left (size_any _ _ (by omega) (by omega))) | (go_at_call 38; exact quiet_n (rgcd_any _ _ _ (by omega) (by omega) (by omega) (by omega)))))
          go_wp2
          go_ret
          exact ⟨by rw [H.out]; rfl, below_dN ((Below.refl _ _).alloc (Nat.le_refl _) _) _⟩
        · have H := Lib.hid (show prB n d = false by unfold prB; simp; omega)
          have hd : decide (n ≤ 1099511627776) = false := by simpa using c4
          go_enter Tryd.func32, Tryd.ntmps32
          go_wp2
          go_quiet (fail)
          go_wp2
          go_ret
          exact ⟨by rw [H.out]; rfl, below_dN ((Below.refl _ _).alloc (Nat.le_refl _) _) _⟩
      · have H := Lib.hid (show prB n d = false by unfold prB; simp; omega)
        have hd : decide (-1099511627776 ≤ n) = false := by simpa using c3
        go_enter Tryd.func32, Tryd.ntmps32
        go_wp2
        go_quiet (fail)
        go_wp2
        go_ret
        exact ⟨by rw [H.out]; rfl, below_dN ((Below.refl _ _).alloc (Nat.le_refl _) _) _⟩
    · have H := Lib.hid (show prB n d = false by unfold prB; simp; omega)
      have hd : decide (d ≤ 1048576) = false := by simpa using c2
      go_enter Tryd.func32, Tryd.ntmps32
      go_wp2
      go_quiet (fail)
      go_wp2
      go_ret
      exact ⟨by rw [H.out]; rfl, below_dN ((Below.refl _ _).alloc (Nat.le_refl _) _) _⟩
  · have H := Lib.hid (show prB n d = false by unfold prB; simp; omega)
    have hd : decide (1 ≤ d) = false := by simpa using c1
    go_enter Tryd.func32, Tryd.ntmps32
    go_wp2
    go_quiet (fail)
    go_wp2
    go_ret
    exact ⟨by rw [H.out]; rfl, below_dN ((Below.refl _ _).alloc (Nat.le_refl _) _) _⟩

end Go.Proofs.YtmdkchoepcjahaaDoor
