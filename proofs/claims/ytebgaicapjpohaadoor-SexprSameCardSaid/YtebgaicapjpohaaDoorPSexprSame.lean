/- SexprSame returns true for every input, the listed package-level variables holding what the program's text lays; and its tied card. -/
import Derived.Test.YtebgaicapjpohaaDoorSgE
import Derived.Test.YtebgaicapjpohaaDoorEnvS
import Derived.Test.YtebgaicapjpohaaDoorSgD
import Derived.Test.YtebgaicapjpohaaDoorOpenN
import Derived.Test.YtebgaicapjpohaaDoorCards
import Derived.Test.YtebgaicapjpohaaDoorTie
import Derived.LaidMore
import Derived.LaidHandle
import Derived.MakeChecks
import Derived.SevenTiedAt
namespace Go.Proofs.YtebgaicapjpohaaDoor
set_option linter.unusedSimpArgs false
set_option linter.unusedVariables false
open Go Go.ChangeShapes Go.WideShapes Go.ChangeAt Go.RowKit
set_option linter.unusedVariables false

theorem sexprSame_door (os : Os) (args : Array Value) : laidMetH Tryd.prog Rows.sexprSameRow.laid ((World.doorLaid Tryd.prog 4000 os).forCall (fun _ _ => 0) ⟨#[], args, []⟩).memory :=
  laidMetH_of_parts3 (fuel := 8) (laidMet_of_run' 8 (by kernel_rfl) (by kernel_rfl)) (by kernel_rfl) (by kernel_rfl)

set_option maxRecDepth 100000 in
theorem sexprSame_lifted (os : Os) (started : os.Started) (H : Type) (enc : TypeId × Value → H) :
    ReturnsInHanded {} Tryd.checked os 4 .any (fun w args => (Rows.sexprSameSpec.pre enc Tryd.prog Tryd.f4 Rows.sexprSameRow.domain false w args ∧ laidMetH Tryd.prog Rows.sexprSameRow.laid w) ∧ sizedMet enc Tryd.prog Tryd.f4 (OpenSpec.ofChange Rows.sexprSameSpec) false w args) (Rows.sexprSameSpec.post enc Tryd.prog Tryd.f4 false true false false) := by
  refine returnsInHanded_of_change_and (C := Tryd.checked) (X := fun w _ => laidMetH Tryd.prog Rows.sexprSameRow.laid w) (fun _ _ _ hh h => h.of_heap hh) own started (by kernel_rfl) Tryd.func4
    (ChangeSpec.witness_shaped (enc := enc) (C := Tryd.checked) (os := os) (X := fun w _ => laidMetH Tryd.prog Rows.sexprSameRow.laid w) false (World.doorLaid Tryd.prog 4000 os) #[.agg #[.int .i64 0, .int .i64 0, .int .i64 0, .int .i64 0, .string ⟨#[]⟩, .slice none 0 0], .agg #[.int .i64 0, .int .i64 0, .int .i64 0, .int .i64 0, .string ⟨#[]⟩, .slice none 0 0], .int .i64 0] 8 rfl (World.shaped_of_RefB (by kernel_rfl) (by kernel_rfl)) (by kernel_rfl) (by kernel_rfl) (by kernel_rfl) (sexprSame_door os _)) ?_
  intro W base args ds gs before hval0 hW hcnd hsz0 hL _
  have hval : ∀ (j : Nat) t v, Tryd.f4.params[j]? = some t → args[j]? = some v → Value.okWide Tryd.prog W .any base t v := hval0
  have hW' := hW
  obtain ⟨p, q, hA0, hV, rfl, hfz, hnd⟩ := hW
  have hA : DataW.TrodAll enc Tryd.prog W 0 (fun _ => true) true Tryd.f4.params.toList args.toList ds p := hA0
  have hA' := hA
  rw [Tryd.params4] at hA' hval
  obtain ⟨v0, v1, v2, d0, d1, d2, p0, p1, p2, rfl, rfl, rfl, h0, h1, h2⟩ := trodAll_three hA'
  obtain ⟨rfl, rfl⟩ := trodVars_none hV
  have hsz : (DataW.weightsEach Tryd.prog (Tryd.f4.params.toList ++ Rows.sexprSameSpec.plain.varTypes Tryd.prog) ([d0, d1, d2] ++ [])).all (fun x => decide (x ≤ reachBytes)) = true := hsz0
  rw [Tryd.params4] at hsz
  clear hA0 hval0 hsz0
  simp only [List.append_nil] at hW'
  rw [MakeChecks.laidMetH_plain _ _ _ (by kernel_rfl)] at hL
  obtain ⟨x0, l0, rfl, r0, b0⟩ := arg_sx (hval 0 34 v0 rfl rfl) h0 (fits_at hsz (j := 0) (t := 34) rfl rfl)
  obtain ⟨x1, l1, rfl, r1, b1⟩ := arg_sx (hval 1 34 v1 rfl rfl) h1 (fits_at hsz (j := 1) (t := 34) rfl rfl)
  obtain ⟨x2, rfl, i2⟩ := arg_int (hval 2 3 v2 rfl rfl) h2
  refine (sexprSame_any x0 x1 l0 l1 x2 W r0 r1 b0 b1 (envS_of hL.tail.tail)).mono fun e W' ⟨he, hg⟩ => ?_
  subst he
  exact ⟨_, rfl, law_post laidOut (by kernel_rfl) (by kernel_rfl) Tryd.underlying4 rfl hW' hA rfl rfl rfl hg⟩

theorem sexprSame_holds : Rows.SexprSameSaid :=
  OpenClaim.holds_of_wide 4 Tryd.f4 rfl rfl rfl rfl rfl rfl rfl ⟨rfl, rfl, rfl, rfl, rfl⟩ rfl rfl rfl rfl rfl (by kernel_rfl) Tryd.func4 (by kernel_rfl)
    (of_decide_eq_true (by kernel_rfl)) (by unfold Func.isWrapper; first | (rw [if_pos (by decide +kernel)]; kernel_rfl) | (rw [if_neg (by decide +kernel)]; exact ⟨rfl, rfl⟩))
    (fun os started H enc _ => sexprSame_lifted os started H enc)
theorem sexprSame_card_holds : Rows.SexprSameCardSaid :=
  Claim7.holds_tied_plain_at .later [] [.data, .data, .data] true Rows.sexprSameCard.stood.harness true
    sexprSame_holds (fun _ h => by cases h) (by kernel_rfl) (fun _ h => by cases h) sexprSame_row_tie rfl ⟨rfl, rfl⟩ (by kernel_rfl) rfl
    (fun f fn hf hfn => by
      obtain rfl : f = 4 := Option.some.inj ((show Tryd.prog.funcNamed Tryd.f4.name = some 4 by kernel_rfl).symm.trans hf) |>.symm
      obtain rfl : fn = Tryd.f4 := (Option.some.inj (Tryd.func4.symm.trans hfn)).symm
      exact ⟨by kernel_rfl, fun j t ht => by
        rw [Tryd.params4] at ht
        have hm : t ∈ [34, 34, 3] := by simpa using Array.mem_of_getElem? ht
        have hall : ([34, 34, 3].all fun u => !Tryd.prog.wantsStandIn u) = true := by kernel_rfl
        exact (show Tryd.prog.wantsStandIn t = false by simpa using List.all_eq_true.1 hall t hm)⟩)
    (by kernel_rfl)
#print axioms sexprSame_card_holds

end Go.Proofs.YtebgaicapjpohaaDoor
