/- base.Num, base.Is. -/
import Derived.Test.YthgngocblgacoaaTaskH
import Derived.Test.YthgngocblgacoaaTaskI
namespace Go.Proofs.Ythgngocblgacoaa
set_option linter.unusedSimpArgs false
set_option linter.unusedVariables false
open Go.RowKit
set_option linter.unusedVariables false

theorem erV_0 : erV 0 = .nilIface := rfl
theorem assert_errno (v : Value) (w : World) : (Instr.typeAssert (.iface 77 v) 31 77 true).run Try.prog w = .ok (.tuple #[v, .bool true]) w := by kernel_rfl

set_option maxHeartbeats 400000 in
theorem num_any (c : Int) (w : World) :
    Calls Try.prog 35 #[erV c] w fun e w' => e = .returned (.int .i64 c) ∧ w = w' := by
  by_cases h : c = 0
  · subst h
    rw [erV_0]
    go_enter Try.func35, Try.ntmps35
    go_wp2
    go_ret
    exact ⟨rfl, rfl⟩
  · have e : erV c = .iface 77 (.int .i64 c) := by unfold erV; rw [if_neg h]
    rw [e]
    clear e
    have ta := assert_errno
    go_enter Try.func35, Try.ntmps35
    go_wp2
    go_ret
    exact ⟨rfl, rfl⟩

/-- Is, of an error code that is not 0. -/
theorem is_any (c k : Int) (w : World) (hk : k ≠ 0) :
    Calls Try.prog 43 #[erV c, .int .i64 k] w fun e w' => e = .returned (.bool (decide (c = k))) ∧ w = w' := by
  by_cases h : c = 0
  · subst h
    rw [erV_0]
    have hd : decide (0 = k) = false := by simp; omega
    go_enter Try.func43, Try.ntmps43
    go_wp2
    go_ret
    exact ⟨bool_ret hd.symm, rfl⟩
  · have e : erV c = .iface 77 (.int .i64 c) := by unfold erV; rw [if_neg h]
    have hn := num_any c
    rw [e] at hn ⊢
    clear e
    have Hn := Lib.hid hn
    clear hn
    go_enter Try.func43, Try.ntmps43
    go_wp2_with (go_at_call 35; refine (Hn.out _).mono ?_; rintro e w' ⟨rfl, rfl⟩)
    go_ret
    exact ⟨bool_ret (by rw [Bool.eq_iff_iff]; simp), rfl⟩


end Go.Proofs.Ythgngocblgacoaa
