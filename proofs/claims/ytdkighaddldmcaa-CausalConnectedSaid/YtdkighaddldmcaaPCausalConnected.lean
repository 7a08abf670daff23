/- CausalConnected returns true for every input. No condition. -/
import Derived.Test.YtdkighaddldmcaaConF
import Derived.Test.YtdkighaddldmcaaOpenV
namespace Go.Proofs.Ytdkighaddldmcaa
set_option linter.unusedSimpArgs false
set_option linter.unusedVariables false
open Go.ChangeShapes Go.WideShapes Go.ChangeAt Go.RowKit
set_option linter.unusedVariables false

set_option maxRecDepth 100000 in
theorem causalConnected_lifted (os : Os) (started : os.Started) (H : Type) (enc : TypeId × Value → H) :
    ReturnsInHanded {} Try.checked os 4 .any (Rows.causalConnectedSpec.pre6 enc Try.prog Try.f4 Rows.causalConnectedRow.domain false) (Rows.causalConnectedSpec.post enc Try.prog Try.f4 false true false false) := by
  refine returnsInHanded_of_change_sized (C := Try.checked) own started (by kernel_rfl) Try.func4
    (ChangeSpec.witness6 (enc := enc) (C := Try.checked) false ⟨#[], #[.agg #[.slice none 0 0, .slice none 0 0, .slice none 0 0, .slice none 0 0], .int .u8 0, .int .u8 0], []⟩ 8 (by kernel_rfl) (by kernel_rfl) (by kernel_rfl) (by kernel_rfl)) ?_
  intro W base args ds gs before hval0 hW hcnd hsz0 _
  have hval : ∀ (j : Nat) t v, Try.f4.params[j]? = some t → args[j]? = some v → Value.okWide Try.prog W .any base t v := hval0
  have hW' := hW
  obtain ⟨p, q, hA0, hV, rfl, hfz, hnd⟩ := hW
  have hA : DataW.TrodAll enc Try.prog W 0 (fun _ => true) true Try.f4.params.toList args.toList ds p := hA0
  have hA' := hA
  rw [Try.params4] at hA' hval
  obtain ⟨v0, v1, v2, d0, d1, d2, p0, p1, p2, rfl, rfl, rfl, h0, h1, h2⟩ := trodAll_three hA'
  obtain ⟨rfl, rfl⟩ := trodVars_none hV
  have hsz : (DataW.weightsEach Try.prog (Try.f4.params.toList ++ Rows.causalConnectedSpec.plain.varTypes Try.prog) ([d0, d1, d2] ++ [])).all (fun x => decide (x ≤ reachBytes)) = true := hsz0
  rw [Try.params4] at hsz
  clear hA0 hval0 hsz0
  simp only [List.append_nil] at hW'
  obtain ⟨t0, q0, rfl, r0, z0⟩ := arg_task (hval 0 26 v0 rfl rfl) h0 (fits_at hsz (j := 0) (t := 26) rfl rfl)
  obtain ⟨x1, rfl, i1⟩ := arg_u8 (hval 1 5 v1 rfl rfl) h1
  obtain ⟨x2, rfl, i2⟩ := arg_u8 (hval 2 5 v2 rfl rfl) h2
  refine (causalConnected_any t0 q0 x1 x2 W r0 i1 i2).mono fun e W' ⟨he, hg⟩ => ?_
  subst he
  exact ⟨_, rfl, law_post laidOut (by kernel_rfl) (by kernel_rfl) Try.underlying4 rfl hW' hA rfl rfl rfl hg⟩

theorem causalConnected_holds : Rows.CausalConnectedSaid :=
  OpenClaim.holds_of_wide 4 Try.f4 rfl rfl rfl rfl rfl rfl rfl ⟨rfl, rfl, rfl, rfl, rfl⟩ rfl rfl rfl rfl rfl (by kernel_rfl) Try.func4 (by kernel_rfl)
    (of_decide_eq_true (by kernel_rfl)) (by unfold Func.isWrapper; first | (rw [if_pos (by decide +kernel)]; kernel_rfl) | (rw [if_neg (by decide +kernel)]; exact ⟨rfl, rfl⟩))
    (fun os started H enc _ => causalConnected_lifted os started H enc)
#print axioms causalConnected_holds

end Go.Proofs.Ytdkighaddldmcaa
