/- base.Num, base.Is. -/
import Derived.Test.YtkeelkpmajmjmaaDoorTaskH
import Derived.Test.YtkeelkpmajmjmaaDoorTaskI
namespace Go.Proofs.YtkeelkpmajmjmaaDoor
set_option linter.unusedSimpArgs false
set_option linter.unusedVariables false
open Go.RowKit
set_option linter.unusedVariables false

theorem erV_0 : erV 0 = .nilIface := rfl
theorem assert_errno (v : Value) (w : World) : (Instr.typeAssert (.iface 37 v) 30 37 true).run Tryd.prog w = .ok (.tuple #[v, .bool true]) w := by kernel_rfl

set_option maxHeartbeats 400000 in
theorem num_any (c : Int) (w : World) :
    Calls Tryd.prog 8 #[erV c] w fun e w' => e = .returned (.int .i64 c) ∧ w = w' := by
  by_cases h : c = 0
  · subst h
    rw [erV_0]
    go_enter Tryd.func8, Tryd.ntmps8
    go_wp2
    go_ret
    exact ⟨rfl, rfl⟩
  · have e : erV c = .iface 37 (.int .i64 c) := by unfold erV; rw [if_neg h]
    rw [e]
    clear e
    have ta := assert_errno
    go_enter Tryd.func8, Tryd.ntmps8
    go_wp2
    go_ret
    exact ⟨rfl, rfl⟩

/-- Is, of an error code that is not 0. -/
theorem is_any (c k : Int) (w : World) (hk : k ≠ 0) :
    Calls Tryd.prog 10 #[erV c, .int .i64 k] w fun e w' => e = .returned (.bool (decide (c = k))) ∧ w = w' := by
  by_cases h : c = 0
  · subst h
    rw [erV_0]
    have hd : decide (0 = k) = false := by simp; omega
    go_enter Tryd.func10, Tryd.ntmps10
    go_wp2
    go_ret
    exact ⟨bool_ret hd.symm, rfl⟩
  · have e : erV c = .iface 37 (.int .i64 c) := by unfold erV; rw [if_neg h]
    have hn := num_any c
    rw [e] at hn ⊢
    clear e
    have Hn := Lib.hid hn
    clear hn
    go_enter Tryd.func10, Tryd.ntmps10
    go_wp2_with (go_at_call 8; refine (Hn.out _).mono ?_; rintro e w' ⟨rfl, rfl⟩)
    go_ret
    exact ⟨bool_ret (by rw [Bool.eq_iff_iff]; simp), rfl⟩


end Go.Proofs.YtkeelkpmajmjmaaDoor
