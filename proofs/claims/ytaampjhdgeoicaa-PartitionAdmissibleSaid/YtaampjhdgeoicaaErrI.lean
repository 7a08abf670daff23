/- errors.Is of error codes. -/
import Derived.Test.YtaampjhdgeoicaaMfA
import Derived.WalkKit
import Derived.LaidEql
import Derived.Stop.Asserts
import Derived.RowKitTokens
namespace Go.Proofs.Ytaampjhdgeoicaa
set_option linter.unusedSimpArgs false
set_option linter.unusedVariables false
open Go.RowKit Go.Extern.Stop Go.Stop Go.Extern
set_option linter.unusedVariables false

theorem ei_typeOf (v : Value) (w : World) : (callFunc 83 #[.iface 68 v]).run Try.prog w = .ok (.value (.iface 175 (.agg #[typeHandle Try.prog 68]))) w := by kernel_rfl
theorem ei_comparable (w : World) : (callFunc 141 #[.agg #[typeHandle Try.prog 68]]).run Try.prog w = .ok (.value (.bool true)) w := by kernel_rfl
theorem ei_comp : (Try.prog.info? 68).map (·.comparable) = some true := by kernel_rfl
theorem ei_method (v : Value) (w : World) : (Go.method 327 175 v "Comparable").run Try.prog w = .ok (141, v) w := by kernel_rfl
theorem ei_noIs (v : Value) (xT : TypeId) (w : World) : (Instr.typeAssert (.iface 68 v) xT 177 true).run Try.prog w = .ok (.tuple #[.nilIface, .bool false]) w := run_typeAssert_lacksB Try.underlying177 (by kernel_rfl) (by kernel_rfl) v xT w
theorem ei_noUn (v : Value) (xT : TypeId) (w : World) : (Instr.typeAssert (.iface 68 v) xT 180 true).run Try.prog w = .ok (.tuple #[.nilIface, .bool false]) w := run_typeAssert_lacksB Try.underlying180 (by kernel_rfl) (by kernel_rfl) v xT w
theorem ei_noUns (v : Value) (xT : TypeId) (w : World) : (Instr.typeAssert (.iface 68 v) xT 182 true).run Try.prog w = .ok (.tuple #[.nilIface, .bool false]) w := run_typeAssert_lacksB Try.underlying182 (by kernel_rfl) (by kernel_rfl) v xT w
theorem ei_eql (c k : Int) (w : World) : (binOp .eql 31 (.iface 68 (.int .i64 c)) (.iface 68 (.int .i64 k))).run Try.prog w = .ok (.bool (decide (c = k))) w := by
  obtain ⟨i, hi, hcmp⟩ := Option.map_eq_some_iff.1 ei_comp
  have h : ∀ d : Nat, (Op.equalIn (d + 2) 31 (.iface 68 (.int .i64 c)) (.iface 68 (.int .i64 k))).run Try.prog w = .ok (decide (c = k)) w := fun d => by
    by_cases e : c = k <;> simp [Op.equalIn, run_underlying Try.underlying31, run_underlying Try.underlying68, typeInfo, hi, hcmp, e]
  simp only [binOp]
  simp [Op.equal, Op.maxDepth, h 9998]

set_option maxRecDepth 20000 in
set_option maxHeartbeats 1000000 in
/-- errors.Is, of error codes. -/
theorem errIs_any (c k : Int) (w : World) : Calls Try.prog 48 #[errV c, .iface 68 (.int .i64 k)] w fun e w' => e = .returned (.bool (decide (c ≠ 0 ∧ c = k))) ∧ w' = w := by
  by_cases h : c = 0
  · subst h
    rw [errV_0]
    have hn := run_eql_iface_nil_left (P := Try.prog) w 68 (.int .i64 k) Try.underlying31
    go_enter Try.func48, Try.ntmps48
    go_wp2
    go_ret
    exact ⟨by simp, rfl⟩
  · have e : errV c = .iface 68 (.int .i64 c) := by unfold errV; rw [if_neg h]
    rw [e]
    have hd : decide (c ≠ 0 ∧ c = k) = decide (c = k) := by simp [h]
    rw [hd]
    clear e hd
    have tT := ei_typeOf
    have cT := ei_comparable
    have mR := ei_method
    have nE := ei_noIs
    have uE := ei_noUn
    have vE := ei_noUns
    have heq := ei_eql c k
    by_cases hk : c = k
    · rw [decide_eq_true hk] at heq ⊢
      clear h hk
      go_enter Try.func48, Try.ntmps48
      go_wp2
      refine wp_loop_rounds 1 ?_
      rw [rounds_succ]
      go_wp2
      go_ret
      exact ⟨rfl, rfl⟩
    · rw [decide_eq_false hk] at heq ⊢
      clear hk h
      go_enter Try.func48, Try.ntmps48
      go_wp2
      refine wp_loop_rounds 1 ?_
      rw [rounds_succ]
      go_wp2
      refine bodyPost_ret (v := .bool false) (by first | (simp [results, Try.results48, go_sem]; done) | kernel_rfl) rfl ⟨rfl, rfl⟩

end Go.Proofs.Ytaampjhdgeoicaa
