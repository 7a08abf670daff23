/- SimplexSolves returns true for every input. No condition. -/
import Derived.Test.YtaampjhdgeoicaaSxSv
import Derived.Test.YtaampjhdgeoicaaOpenQ
namespace Go.Proofs.Ytaampjhdgeoicaa
set_option linter.unusedSimpArgs false
set_option linter.unusedVariables false
open Go.ChangeShapes Go.WideShapes Go.ChangeAt Go.RowKit
set_option linter.unusedVariables false

set_option maxRecDepth 100000 in
theorem simplexSolves_lifted (os : Os) (started : os.Started) (H : Type) (enc : TypeId × Value → H) :
    ReturnsInHanded {} Try.checked os 3 .any (Rows.simplexSolvesSpec.pre6 enc Try.prog Try.f3 Rows.simplexSolvesRow.domain false) (Rows.simplexSolvesSpec.post enc Try.prog Try.f3 false true false false) := by
  refine returnsInHanded_of_change_sized (C := Try.checked) own started (by kernel_rfl) Try.func3
    (ChangeSpec.witness6 (enc := enc) (C := Try.checked) false ⟨#[], #[.agg #[.slice none 0 0, .slice none 0 0, .slice none 0 0]], []⟩ 8 (by kernel_rfl) (by kernel_rfl) (by kernel_rfl) (by kernel_rfl)) ?_
  intro W base args ds gs before hval0 hW hcnd hsz0 _
  have hval : ∀ (j : Nat) t v, Try.f3.params[j]? = some t → args[j]? = some v → Value.okWide Try.prog W .any base t v := hval0
  have hW' := hW
  obtain ⟨p, q, hA0, hV, rfl, hfz, hnd⟩ := hW
  have hA : DataW.TrodAll enc Try.prog W 0 (fun _ => true) true Try.f3.params.toList args.toList ds p := hA0
  have hA' := hA
  rw [Try.params3] at hA' hval
  obtain ⟨v0, d0, rfl, rfl, h0⟩ := trodAll_one hA'
  obtain ⟨rfl, rfl⟩ := trodVars_none hV
  have hsz : (DataW.weightsEach Try.prog (Try.f3.params.toList ++ Rows.simplexSolvesSpec.plain.varTypes Try.prog) ([d0] ++ [])).all (fun x => decide (x ≤ reachBytes)) = true := hsz0
  rw [Try.params3] at hsz
  clear hA0 hval0 hsz0
  simp only [List.append_nil] at hW'
  obtain ⟨lc0, lR0, lb0, Ac0, AR0, Ab0, cc0, cR0, cb0, rfl, rc0, rR0, rb0, zc0, zR0, zb0⟩ := arg_progz (hval 0 25 v0 rfl rfl) h0 (fits_at hsz (j := 0) (t := 25) rfl rfl)
  refine (simplexSolves_any lc0 lR0 lb0 Ac0 AR0 Ab0 cc0 cR0 cb0 W rc0 rR0 rb0 zc0 zR0 zb0).mono fun e W' ⟨he, hg⟩ => ?_
  subst he
  exact ⟨_, rfl, law_post laidOut (by kernel_rfl) (by kernel_rfl) Try.underlying4 rfl hW' hA rfl rfl rfl hg⟩

theorem simplexSolves_holds : Rows.SimplexSolvesSaid :=
  OpenClaim.holds_of_wide 3 Try.f3 rfl rfl rfl rfl rfl rfl rfl ⟨rfl, rfl, rfl, rfl, rfl⟩ rfl rfl rfl rfl rfl (by kernel_rfl) Try.func3 (by kernel_rfl)
    (of_decide_eq_true (by kernel_rfl)) (by unfold Func.isWrapper; first | (rw [if_pos (by decide +kernel)]; kernel_rfl) | (rw [if_neg (by decide +kernel)]; exact ⟨rfl, rfl⟩))
    (fun os started H enc _ => simplexSolves_lifted os started H enc)
#print axioms simplexSolves_holds

end Go.Proofs.Ytaampjhdgeoicaa
