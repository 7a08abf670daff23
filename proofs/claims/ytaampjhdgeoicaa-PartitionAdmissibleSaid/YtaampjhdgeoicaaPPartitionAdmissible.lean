/- PartitionAdmissible returns true for every input. No condition. -/
import Derived.Test.YtaampjhdgeoicaaAdL
import Derived.Test.YtaampjhdgeoicaaHzO
import Derived.Test.YtaampjhdgeoicaaOpen
namespace Go.Proofs.Ytaampjhdgeoicaa
set_option linter.unusedSimpArgs false
set_option linter.unusedVariables false
open Go.ChangeShapes Go.WideShapes Go.ChangeAt Go.RowKit
set_option linter.unusedVariables false

set_option maxRecDepth 100000 in
theorem partitionAdmissible_lifted (os : Os) (started : os.Started) (H : Type) (enc : TypeId × Value → H) :
    ReturnsInHanded {} Try.checked os 5 .any (Rows.partitionAdmissibleSpec.pre6 enc Try.prog Try.f5 Rows.partitionAdmissibleRow.domain false) (Rows.partitionAdmissibleSpec.post enc Try.prog Try.f5 false true false false) := by
  refine returnsInHanded_of_change_sized (C := Try.checked) own started (by kernel_rfl) Try.func5
    (ChangeSpec.witness6 (enc := enc) (C := Try.checked) false ⟨#[], #[.agg #[.slice none 0 0, .slice none 0 0, .slice none 0 0, .slice none 0 0], .int .u16 0], []⟩ 8 (by kernel_rfl) (by kernel_rfl) (by kernel_rfl) (by kernel_rfl)) ?_
  intro W base args ds gs before hval0 hW hcnd hsz0 _
  have hval : ∀ (j : Nat) t v, Try.f5.params[j]? = some t → args[j]? = some v → Value.okWide Try.prog W .any base t v := hval0
  have hW' := hW
  obtain ⟨p, q, hA0, hV, rfl, hfz, hnd⟩ := hW
  have hA : DataW.TrodAll enc Try.prog W 0 (fun _ => true) true Try.f5.params.toList args.toList ds p := hA0
  have hA' := hA
  rw [Try.params5] at hA' hval
  obtain ⟨v0, v1, d0, d1, p0, p1, rfl, rfl, rfl, h0, h1⟩ := trodAll_two hA'
  obtain ⟨rfl, rfl⟩ := trodVars_none hV
  have hsz : (DataW.weightsEach Try.prog (Try.f5.params.toList ++ Rows.partitionAdmissibleSpec.plain.varTypes Try.prog) ([d0, d1] ++ [])).all (fun x => decide (x ≤ reachBytes)) = true := hsz0
  rw [Try.params5] at hsz
  clear hA0 hval0 hsz0
  simp only [List.append_nil] at hW'
  obtain ⟨t0, q0, rfl, r0, z0⟩ := arg_task (hval 0 49 v0 rfl rfl) h0 (fits_at hsz (j := 0) (t := 49) rfl rfl)
  obtain ⟨x1, rfl, i1⟩ := arg_u16 (hval 1 50 v1 rfl rfl) h1
  refine (partitionAdmissible_any t0 q0 x1 W r0 i1.1 i1.2).mono fun e W' ⟨he, hg⟩ => ?_
  subst he
  exact ⟨_, rfl, law_post laidOut (by kernel_rfl) (by kernel_rfl) Try.underlying4 rfl hW' hA rfl rfl rfl hg⟩

theorem partitionAdmissible_holds : Rows.PartitionAdmissibleSaid :=
  OpenClaim.holds_of_wide 5 Try.f5 rfl rfl rfl rfl rfl rfl rfl ⟨rfl, rfl, rfl, rfl, rfl⟩ rfl rfl rfl rfl rfl (by kernel_rfl) Try.func5 (by kernel_rfl)
    (of_decide_eq_true (by kernel_rfl)) (by unfold Func.isWrapper; first | (rw [if_pos (by decide +kernel)]; kernel_rfl) | (rw [if_neg (by decide +kernel)]; exact ⟨rfl, rfl⟩))
    (fun os started H enc _ => partitionAdmissible_lifted os started H enc)
#print axioms partitionAdmissible_holds

end Go.Proofs.Ytaampjhdgeoicaa
