/- WholeStates returns true for every input. No condition. -/
import Derived.Test.YtpobnjbpglaohaaGreatWuF
import Derived.Test.YtpobnjbpglaohaaGreatOpen
namespace Go.Proofs.YtpobnjbpglaohaaGreat
set_option linter.unusedSimpArgs false
set_option linter.unusedVariables false
open Go.ChangeShapes Go.WideShapes Go.ChangeAt Go.RowKit
set_option linter.unusedVariables false

set_option maxRecDepth 100000 in
theorem wholeStates_lifted (os : Os) (started : os.Started) (H : Type) (enc : TypeId × Value → H) :
    ReturnsInHanded {} Tryz.checked os 3 .any (Rows.wholeStatesSpec.pre6 enc Tryz.prog Tryz.f3 Rows.wholeStatesRow.domain false) (Rows.wholeStatesSpec.post enc Tryz.prog Tryz.f3 false true false false) := by
  refine returnsInHanded_of_change_sized (C := Tryz.checked) own started (by kernel_rfl) Tryz.func3
    (ChangeSpec.witness6 (enc := enc) (C := Tryz.checked) false ⟨#[], #[.agg #[.slice none 0 0, .slice none 0 0, .slice none 0 0, .slice none 0 0]], []⟩ 8 (by kernel_rfl) (by kernel_rfl) (by kernel_rfl) (by kernel_rfl)) ?_
  intro W base args ds gs before hval0 hW hcnd hsz0 _
  have hval : ∀ (j : Nat) t v, Tryz.f3.params[j]? = some t → args[j]? = some v → Value.okWide Tryz.prog W .any base t v := hval0
  have hW' := hW
  obtain ⟨p, q, hA0, hV, rfl, hfz, hnd⟩ := hW
  have hA : DataW.TrodAll enc Tryz.prog W 0 (fun _ => true) true Tryz.f3.params.toList args.toList ds p := hA0
  have hA' := hA
  rw [Tryz.params3] at hA' hval
  obtain ⟨v0, d0, rfl, rfl, h0⟩ := trodAll_one hA'
  obtain ⟨rfl, rfl⟩ := trodVars_none hV
  have hsz : (DataW.weightsEach Tryz.prog (Tryz.f3.params.toList ++ Rows.wholeStatesSpec.plain.varTypes Tryz.prog) ([d0] ++ [])).all (fun x => decide (x ≤ reachBytes)) = true := hsz0
  rw [Tryz.params3] at hsz
  clear hA0 hval0 hsz0
  simp only [List.append_nil] at hW'
  obtain ⟨t0, q0, rfl, r0, z0⟩ := arg_task (hval 0 26 v0 rfl rfl) h0 (fits_at hsz (j := 0) (t := 26) rfl rfl)
  refine (wholeStates_any t0 q0 W r0).mono fun e W' ⟨he, hg⟩ => ?_
  subst he
  exact ⟨_, rfl, law_post laidOut (by kernel_rfl) (by kernel_rfl) Tryz.underlying4 rfl hW' hA rfl rfl rfl hg⟩

theorem wholeStates_holds : Rows.WholeStatesSaid :=
  OpenClaim.holds_of_wide 3 Tryz.f3 rfl rfl rfl rfl rfl rfl rfl ⟨rfl, rfl, rfl, rfl, rfl⟩ rfl rfl rfl rfl rfl (by kernel_rfl) Tryz.func3 (by kernel_rfl)
    (of_decide_eq_true (by kernel_rfl)) (by unfold Func.isWrapper; first | (rw [if_pos (by decide +kernel)]; kernel_rfl) | (rw [if_neg (by decide +kernel)]; exact ⟨rfl, rfl⟩))
    (fun os started H enc _ => wholeStates_lifted os started H enc)
#print axioms wholeStates_holds

end Go.Proofs.YtpobnjbpglaohaaGreat
