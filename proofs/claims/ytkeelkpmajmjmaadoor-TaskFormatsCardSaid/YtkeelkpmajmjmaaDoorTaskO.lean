/- ref05.Apply, task.Apply. -/
import Derived.Test.YtkeelkpmajmjmaaDoorTaskN
namespace Go.Proofs.YtkeelkpmajmjmaaDoor
set_option linter.unusedSimpArgs false
set_option linter.unusedVariables false
open Go.RowKit
set_option linter.unusedVariables false

theorem chk0 {t : Tsk} (h : chkC t = 0) : lgT t = false ∧ outT t = false ∧ malT t = false ∧ misT t = false := by
  unfold chkC at h
  cases e1 : lgT t <;> cases e2 : outT t <;> cases e3 : malT t <;> cases e4 : misT t <;> simp_all
/-- The number of Apply's error. -/
def rapC (t : Tsk) (s : List Int) (op : Int) : Int := if chkC t = 0 then apC t s op else chkC t
def rapL (t : Tsk) (s : List Int) (op : Int) : List Int := if rapC t s op = 0 then nxt t s op.toNat else []
/-- What Apply returns. -/
def RapRet (t : Tsk) (s : List Int) (op : Int) (e : Ending) (w' : World) : Prop := ∃ v, e = .returned (.tuple #[v, .int .i64 (rapC t s op)]) ∧ GotInts w' v (rapL t s op)
def TapRet (t : Tsk) (s : List Int) (op : Int) (e : Ending) (w' : World) : Prop := ∃ v, e = .returned (.tuple #[v, erV (rapC t s op)]) ∧ GotInts w' v (rapL t s op)
theorem rap_err {t : Tsk} {s : List Int} {op c : Int} {w' : World} (hc : rapC t s op = c) (h0 : c ≠ 0) : RapRet t s op (.returned (.tuple #[.slice none 0 0, .int .i64 c])) w' :=
  ⟨_, by rw [hc], by unfold rapL; rw [hc, if_neg h0]; exact got_nil w'⟩

end Go.Proofs.YtkeelkpmajmjmaaDoor
