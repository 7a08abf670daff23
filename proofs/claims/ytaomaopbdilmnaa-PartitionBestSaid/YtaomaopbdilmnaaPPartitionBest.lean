/- PartitionBest returns true for every input. No condition. -/
import Derived.Test.YtaomaopbdilmnaaPoQ
import Derived.Test.YtaomaopbdilmnaaOpenC
namespace Go.Proofs.Ytaomaopbdilmnaa
set_option linter.unusedSimpArgs false
set_option linter.unusedVariables false
open Go.ChangeShapes Go.WideShapes Go.ChangeAt Go.RowKit
set_option linter.unusedVariables false

set_option maxRecDepth 100000 in
theorem partitionBest_lifted (os : Os) (started : os.Started) (H : Type) (enc : TypeId × Value → H) :
    ReturnsInHanded {} Try.checked os 11 .any (Rows.partitionBestSpec.pre6 enc Try.prog Try.f11 Rows.partitionBestRow.domain false) (Rows.partitionBestSpec.post enc Try.prog Try.f11 false true false false) := by
  refine returnsInHanded_of_change_sized (C := Try.checked) own started (by kernel_rfl) Try.func11
    (ChangeSpec.witness6 (enc := enc) (C := Try.checked) false ⟨#[], #[.slice none 0 0, .slice none 0 0, .slice none 0 0], []⟩ 8 (by kernel_rfl) (by kernel_rfl) (by kernel_rfl) (by kernel_rfl)) ?_
  intro W base args ds gs before hval0 hW hcnd hsz0 _
  have hval : ∀ (j : Nat) t v, Try.f11.params[j]? = some t → args[j]? = some v → Value.okWide Try.prog W .any base t v := hval0
  have hW' := hW
  obtain ⟨p, q, hA0, hV, rfl, hfz, hnd⟩ := hW
  have hA : DataW.TrodAll enc Try.prog W 0 (fun _ => true) true Try.f11.params.toList args.toList ds p := hA0
  have hA' := hA
  rw [Try.params11] at hA' hval
  obtain ⟨v0, v1, v2, d0, d1, d2, p0, p1, p2, rfl, rfl, rfl, h0, h1, h2⟩ := trodAll_three hA'
  obtain ⟨rfl, rfl⟩ := trodVars_none hV
  have hsz : (DataW.weightsEach Try.prog (Try.f11.params.toList ++ Rows.partitionBestSpec.plain.varTypes Try.prog) ([d0, d1, d2] ++ [])).all (fun x => decide (x ≤ reachBytes)) = true := hsz0
  rw [Try.params11] at hsz
  clear hA0 hval0 hsz0
  simp only [List.append_nil] at hW'
  obtain ⟨A0, l0, c0, rfl, z0, r0, i0⟩ := arg_ints (hval 0 55 v0 rfl rfl) h0 (fits_at hsz (j := 0) (t := 55) rfl rfl)
  obtain ⟨A1, l1, c1, rfl, z1, r1⟩ := arg_cuts (hval 1 56 v1 rfl rfl) h1 (fits_at hsz (j := 1) (t := 56) rfl rfl)
  obtain ⟨A2, l2, c2, rfl, z2, r2⟩ := arg_fracs (hval 2 22 v2 rfl rfl) h2 (fits_at hsz (j := 2) (t := 22) rfl rfl)
  refine (partitionBest_any l0 l1 l2 A0 A1 A2 c0 c1 c2 W r0 r1 r2).mono fun e W' ⟨he, hg⟩ => ?_
  subst he
  exact ⟨_, rfl, law_post laidOut (by kernel_rfl) (by kernel_rfl) Try.underlying4 rfl hW' hA rfl rfl rfl hg⟩

theorem partitionBest_holds : Rows.PartitionBestSaid :=
  OpenClaim.holds_of_wide 11 Try.f11 rfl rfl rfl rfl rfl rfl rfl ⟨rfl, rfl, rfl, rfl, rfl⟩ rfl rfl rfl rfl rfl (by kernel_rfl) Try.func11 (by kernel_rfl)
    (of_decide_eq_true (by kernel_rfl)) (by unfold Func.isWrapper; first | (rw [if_pos (by decide +kernel)]; kernel_rfl) | (rw [if_neg (by decide +kernel)]; exact ⟨rfl, rfl⟩))
    (fun os started H enc _ => partitionBest_lifted os started H enc)
#print axioms partitionBest_holds

end Go.Proofs.Ytaomaopbdilmnaa
