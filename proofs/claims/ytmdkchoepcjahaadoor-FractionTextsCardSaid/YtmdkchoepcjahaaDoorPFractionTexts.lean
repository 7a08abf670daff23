/- FractionTexts returns true for every input, the listed package-level variables holding what the program's text lays; and its tied card. -/
import Derived.Test.YtmdkchoepcjahaaDoorFtxH
import Derived.Test.YtmdkchoepcjahaaDoorEnvO
import Derived.Test.YtmdkchoepcjahaaDoorRowS
import Derived.Test.YtmdkchoepcjahaaDoorOpenT
import Derived.Test.YtmdkchoepcjahaaDoorCards
import Derived.Test.YtmdkchoepcjahaaDoorTie
import Derived.LaidMore
import Derived.LaidHandle
import Derived.MakeChecks
import Derived.SevenTiedAt
namespace Go.Proofs.YtmdkchoepcjahaaDoor
set_option linter.unusedSimpArgs false
set_option linter.unusedVariables false
open Go Go.ChangeShapes Go.WideShapes Go.ChangeAt Go.RowKit
set_option linter.unusedVariables false

theorem fractionTexts_door (os : Os) (args : Array Value) : laidMetH Tryd.prog Rows.fractionTextsRow.laid ((World.doorLaid Tryd.prog 4000 os).forCall (fun _ _ => 0) ⟨#[], args, []⟩).memory :=
  laidMetH_of_parts3 (fuel := 8) (laidMet_of_run' 8 (by kernel_rfl) (by kernel_rfl)) (by kernel_rfl) (by kernel_rfl)

set_option maxRecDepth 100000 in
theorem fractionTexts_lifted (os : Os) (started : os.Started) (H : Type) (enc : TypeId × Value → H) :
    ReturnsInHanded {} Tryd.checked os 4 .any (fun w args => (Rows.fractionTextsSpec.pre enc Tryd.prog Tryd.f4 Rows.fractionTextsRow.domain false w args ∧ laidMetH Tryd.prog Rows.fractionTextsRow.laid w) ∧ sizedMet enc Tryd.prog Tryd.f4 (OpenSpec.ofChange Rows.fractionTextsSpec) false w args) (Rows.fractionTextsSpec.post enc Tryd.prog Tryd.f4 false true false false) := by
  refine returnsInHanded_of_change_andS (C := Tryd.checked) (X := fun w _ => laidMetH Tryd.prog Rows.fractionTextsRow.laid w) (fun _ _ _ hh h => h.of_heap hh) own started (by kernel_rfl) Tryd.func4
    (ChangeSpec.witness_shaped (enc := enc) (C := Tryd.checked) (os := os) (X := fun w _ => laidMetH Tryd.prog Rows.fractionTextsRow.laid w) false (World.doorLaid Tryd.prog 4000 os) #[.agg #[.int .i64 0, .int .i64 0], .string ⟨#[]⟩] 8 rfl (World.shaped_of_RefB (by kernel_rfl) (by kernel_rfl)) (by kernel_rfl) (by kernel_rfl) (by kernel_rfl) (fractionTexts_door os _)) ?_
  intro W base args ds gs before hval0 hW hcnd hsz0 hL hSh _
  have hval : ∀ (j : Nat) t v, Tryd.f4.params[j]? = some t → args[j]? = some v → Value.okWide Tryd.prog W .any base t v := hval0
  have hW' := hW
  obtain ⟨p, q, hA0, hV, rfl, hfz, hnd⟩ := hW
  have hA : DataW.TrodAll enc Tryd.prog W 0 (fun _ => true) true Tryd.f4.params.toList args.toList ds p := hA0
  have hA' := hA
  rw [Tryd.params4] at hA' hval
  obtain ⟨v0, v1, d0, d1, p0, p1, rfl, rfl, rfl, h0, h1⟩ := trodAll_two hA'
  obtain ⟨rfl, rfl⟩ := trodVars_none hV
  have hsz : (DataW.weightsEach Tryd.prog (Tryd.f4.params.toList ++ Rows.fractionTextsSpec.plain.varTypes Tryd.prog) ([d0, d1] ++ [])).all (fun x => decide (x ≤ reachBytes)) = true := hsz0
  rw [Tryd.params4] at hsz
  clear hA0 hval0 hsz0
  simp only [List.append_nil] at hW'
  rw [MakeChecks.laidMetH_plain _ _ _ (by kernel_rfl)] at hL
  obtain ⟨x0, y0, rfl⟩ := arg_frac (hval 0 23 v0 rfl rfl) h0
  obtain ⟨x1, rfl, z1⟩ := arg_string (hval 1 9 v1 rfl rfl) h1 (fits_at hsz (j := 1) (t := 9) rfl rfl)
  refine (fractionTexts_any x0 y0 x1 W (envT_of hL.tail.tail) (envM_of hSh) (envA_of hL.tail.tail.tail.tail hL.tail.tail.tail)).mono fun e W' ⟨he, hg⟩ => ?_
  subst he
  exact ⟨_, rfl, law_post laidOut (by kernel_rfl) (by kernel_rfl) Tryd.underlying4 rfl hW' hA rfl rfl rfl hg⟩

theorem fractionTexts_holds : Rows.FractionTextsSaid :=
  OpenClaim.holds_of_wide 4 Tryd.f4 rfl rfl rfl rfl rfl rfl rfl ⟨rfl, rfl, rfl, rfl, rfl⟩ rfl rfl rfl rfl rfl (by kernel_rfl) Tryd.func4 (by kernel_rfl)
    (of_decide_eq_true (by kernel_rfl)) (by unfold Func.isWrapper; first | (rw [if_pos (by decide +kernel)]; kernel_rfl) | (rw [if_neg (by decide +kernel)]; exact ⟨rfl, rfl⟩))
    (fun os started H enc _ => fractionTexts_lifted os started H enc)
theorem fractionTexts_card_holds : Rows.FractionTextsCardSaid :=
  Claim7.holds_tied_plain_at .later [] [.data, .data, .data, .sentinel, .sentinel] true Rows.fractionTextsCard.stood.harness true
    fractionTexts_holds (fun _ h => by cases h) (by kernel_rfl) (fun _ h => by cases h) fractionTexts_row_tie rfl ⟨rfl, rfl⟩ (by kernel_rfl) rfl
    (fun f fn hf hfn => by
      obtain rfl : f = 4 := Option.some.inj ((show Tryd.prog.funcNamed Tryd.f4.name = some 4 by kernel_rfl).symm.trans hf) |>.symm
      obtain rfl : fn = Tryd.f4 := (Option.some.inj (Tryd.func4.symm.trans hfn)).symm
      exact ⟨by kernel_rfl, fun j t ht => by
        rw [Tryd.params4] at ht
        have hm : t ∈ [23, 9] := by simpa using Array.mem_of_getElem? ht
        have hall : ([23, 9].all fun u => !Tryd.prog.wantsStandIn u) = true := by kernel_rfl
        exact (show Tryd.prog.wantsStandIn t = false by simpa using List.all_eq_true.1 hall t hm)⟩)
    (by kernel_rfl)
#print axioms fractionTexts_card_holds

end Go.Proofs.YtmdkchoepcjahaaDoor
