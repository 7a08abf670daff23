/- TaskParses returns true for every input, the listed package-level variables holding what the program's text lays; and its tied card. -/
import Derived.Test.YtbcbmpnikgeoeaaDoorTrH
import Derived.Test.YtbcbmpnikgeoeaaDoorMpD
import Derived.Lay
import Derived.Test.YtbcbmpnikgeoeaaDoorOpenX
import Derived.Test.YtbcbmpnikgeoeaaDoorCards
import Derived.Test.YtbcbmpnikgeoeaaDoorTie
import Derived.LaidMore
import Derived.LaidHandle
import Derived.MakeChecks
import Derived.SevenTiedAt
namespace Go.Proofs.YtbcbmpnikgeoeaaDoor
set_option linter.unusedSimpArgs false
set_option linter.unusedVariables false
open Go Go.ChangeShapes Go.WideShapes Go.ChangeAt Go.RowKit
set_option linter.unusedVariables false

set_option maxRecDepth 100000 in
theorem taskParses_lifted (os : Os) (started : os.Started) (H : Type) (enc : TypeId × Value → H) :
    ReturnsInHanded {} Tryd.checked os 3 .any (fun w args => (Rows.taskParsesSpec.pre enc Tryd.prog Tryd.f3 Rows.taskParsesRow.domain false w args ∧ laidMetH Tryd.prog Rows.taskParsesRow.laid w) ∧ sizedMet enc Tryd.prog Tryd.f3 (OpenSpec.ofChange Rows.taskParsesSpec) false w args) (Rows.taskParsesSpec.post enc Tryd.prog Tryd.f3 false true false false) := by
  refine returnsInHanded_of_change_andS (C := Tryd.checked) (X := fun w _ => laidMetH Tryd.prog Rows.taskParsesRow.laid w) (fun _ _ _ hh h => h.of_heap hh) own started (by kernel_rfl) Tryd.func3
    (ChangeSpec.witness_shaped (enc := enc) (C := Tryd.checked) (os := os) (X := fun w _ => laidMetH Tryd.prog Rows.taskParsesRow.laid w) false (World.laidAll Tryd.prog os Rows.taskParsesRow.laid) #[.string ⟨#[]⟩] 8 (World.laidAll_os _ _ _) (World.shaped_of_ZipB (by kernel_rfl) (by kernel_rfl)) (by kernel_rfl) (by kernel_rfl) (by kernel_rfl) (by rw [MakeChecks.laidMetH_plain _ _ _ (by kernel_rfl)]; exact laidMet_laidAll _ (by kernel_rfl) (by kernel_rfl))) ?_
  intro W base args ds gs before hval0 hW hcnd hsz0 hL hSh _
  have hval : ∀ (j : Nat) t v, Tryd.f3.params[j]? = some t → args[j]? = some v → Value.okWide Tryd.prog W .any base t v := hval0
  have hW' := hW
  obtain ⟨p, q, hA0, hV, rfl, hfz, hnd⟩ := hW
  have hA : DataW.TrodAll enc Tryd.prog W 0 (fun _ => true) true Tryd.f3.params.toList args.toList ds p := hA0
  have hA' := hA
  rw [Tryd.params3] at hA' hval
  obtain ⟨v0, d0, rfl, rfl, h0⟩ := trodAll_one hA'
  obtain ⟨rfl, rfl⟩ := trodVars_none hV
  have hsz : (DataW.weightsEach Tryd.prog (Tryd.f3.params.toList ++ Rows.taskParsesSpec.plain.varTypes Tryd.prog) ([d0] ++ [])).all (fun x => decide (x ≤ reachBytes)) = true := hsz0
  rw [Tryd.params3] at hsz
  clear hA0 hval0 hsz0
  simp only [List.append_nil] at hW'
  rw [MakeChecks.laidMetH_plain _ _ _ (by kernel_rfl)] at hL
  obtain ⟨x0, rfl, z0⟩ := arg_string (hval 0 9 v0 rfl rfl) h0 (fits_at hsz (j := 0) (t := 9) rfl rfl)
  refine (taskParses_any x0 W ⟨envT_of hL.tail.tail, envM_of hSh, envA_of hL.tail.tail.tail.tail.tail hL.tail.tail.tail.tail⟩).mono fun e W' ⟨he, hg⟩ => ?_
  subst he
  exact ⟨_, rfl, law_post laidOut (by kernel_rfl) (by kernel_rfl) Tryd.underlying4 rfl hW' hA rfl rfl rfl hg⟩

theorem taskParses_holds : Rows.TaskParsesSaid :=
  OpenClaim.holds_of_wide 3 Tryd.f3 rfl rfl rfl rfl rfl rfl rfl ⟨rfl, rfl, rfl, rfl, rfl⟩ rfl rfl rfl rfl rfl (by kernel_rfl) Tryd.func3 (by kernel_rfl)
    (of_decide_eq_true (by kernel_rfl)) (by unfold Func.isWrapper; first | (rw [if_pos (by decide +kernel)]; kernel_rfl) | (rw [if_neg (by decide +kernel)]; exact ⟨rfl, rfl⟩))
    (fun os started H enc _ => taskParses_lifted os started H enc)
theorem taskParses_card_holds : Rows.TaskParsesCardSaid :=
  Claim7.holds_tied_plain_at .later [] [.data, .data, .data, .data, .sentinel, .sentinel, .pinned] true Rows.taskParsesCard.stood.harness true
    taskParses_holds (fun _ h => by cases h) (by kernel_rfl) (fun _ h => by cases h) taskParses_row_tie rfl ⟨rfl, rfl⟩ (by kernel_rfl) rfl
    (fun f fn hf hfn => by
      obtain rfl : f = 3 := Option.some.inj ((show Tryd.prog.funcNamed Tryd.f3.name = some 3 by kernel_rfl).symm.trans hf) |>.symm
      obtain rfl : fn = Tryd.f3 := (Option.some.inj (Tryd.func3.symm.trans hfn)).symm
      exact ⟨by kernel_rfl, fun j t ht => by
        rw [Tryd.params3] at ht
        have hm : t ∈ [9] := by simpa using Array.mem_of_getElem? ht
        have hall : ([9].all fun u => !Tryd.prog.wantsStandIn u) = true := by kernel_rfl
        exact (show Tryd.prog.wantsStandIn t = false by simpa using List.all_eq_true.1 hall t hm)⟩)
    (by kernel_rfl)
#print axioms taskParses_card_holds

end Go.Proofs.YtbcbmpnikgeoeaaDoor
