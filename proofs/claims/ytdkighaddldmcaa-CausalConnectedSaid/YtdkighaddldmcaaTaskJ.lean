/- base.Num, base.Is. -/
import Derived.Test.YtdkighaddldmcaaTaskH
import Derived.Test.YtdkighaddldmcaaTaskI
namespace Go.Proofs.Ytdkighaddldmcaa
set_option linter.unusedSimpArgs false
set_option linter.unusedVariables false
open Go.RowKit
set_option linter.unusedVariables false

theorem erV_0 : erV 0 = .nilIface := rfl
theorem assert_errno (v : Value) (w : World) : (Instr.typeAssert (.iface 72 v) 33 72 true).run Try.prog w = .ok (.tuple #[v, .bool true]) w := by kernel_rfl

set_option maxHeartbeats 400000 in
theorem num_any (c : Int) (w : World) :
    Calls Try.prog 24 #[erV c] w fun e w' => e = .returned (.int .i64 c) ∧ w = w' := by
  by_cases h : c = 0
  · subst h
    rw [erV_0]
    go_enter Try.func24, Try.ntmps24
    go_wp2
    go_ret
    exact ⟨rfl, rfl⟩
  · have e : erV c = .iface 72 (.int .i64 c) := by unfold erV; rw [if_neg h]
    rw [e]
    clear e
    have ta := assert_errno
    go_enter Try.func24, Try.ntmps24
    go_wp2
    go_ret
    exact ⟨rfl, rfl⟩

end Go.Proofs.Ytdkighaddldmcaa
