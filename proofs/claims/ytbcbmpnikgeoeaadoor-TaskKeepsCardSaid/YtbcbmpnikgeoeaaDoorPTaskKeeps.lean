/- TaskKeeps returns true for every input, the listed package-level variables holding what the program's text lays; and its tied card. -/
import Derived.Test.YtbcbmpnikgeoeaaDoorTqL
import Derived.Test.YtbcbmpnikgeoeaaDoorMpD
import Derived.Test.YtbcbmpnikgeoeaaDoorOpenY
import Derived.Lay
import Derived.Test.YtbcbmpnikgeoeaaDoorOpen
import Derived.Test.YtbcbmpnikgeoeaaDoorCards
import Derived.Test.YtbcbmpnikgeoeaaDoorTie
import Derived.LaidMore
import Derived.LaidHandle
import Derived.MakeChecks
import Derived.SevenTiedAt
namespace Go.Proofs.YtbcbmpnikgeoeaaDoor
set_option linter.unusedSimpArgs false
set_option linter.unusedVariables false
open Go Go.ChangeShapes Go.WideShapes Go.ChangeAt Go.RowKit
set_option linter.unusedVariables false

set_option maxRecDepth 100000 in
theorem taskKeeps_lifted (os : Os) (started : os.Started) (H : Type) (enc : TypeId × Value → H) :
    ReturnsInHanded {} Tryd.checked os 5 .any (fun w args => (Rows.taskKeepsSpec.pre enc Tryd.prog Tryd.f5 Rows.taskKeepsRow.domain false w args ∧ laidMetH Tryd.prog Rows.taskKeepsRow.laid w) ∧ sizedMet enc Tryd.prog Tryd.f5 (OpenSpec.ofChange Rows.taskKeepsSpec) false w args) (Rows.taskKeepsSpec.post enc Tryd.prog Tryd.f5 false true false false) := by
  refine returnsInHanded_of_change_andS (C := Tryd.checked) (X := fun w _ => laidMetH Tryd.prog Rows.taskKeepsRow.laid w) (fun _ _ _ hh h => h.of_heap hh) own started (by kernel_rfl) Tryd.func5
    (ChangeSpec.witness_shaped (enc := enc) (C := Tryd.checked) (os := os) (X := fun w _ => laidMetH Tryd.prog Rows.taskKeepsRow.laid w) false (World.laidAll Tryd.prog os Rows.taskKeepsRow.laid) #[.agg #[.slice none 0 0, .slice none 0 0, .slice none 0 0, .slice none 0 0], .slice none 0 0, .int .i64 0] 8 (World.laidAll_os _ _ _) (World.shaped_of_ZipB (by kernel_rfl) (by kernel_rfl)) (by kernel_rfl) (by kernel_rfl) (by kernel_rfl) (by rw [MakeChecks.laidMetH_plain _ _ _ (by kernel_rfl)]; exact laidMet_laidAll _ (by kernel_rfl) (by kernel_rfl))) ?_
  intro W base args ds gs before hval0 hW hcnd hsz0 hL hSh _
  have hval : ∀ (j : Nat) t v, Tryd.f5.params[j]? = some t → args[j]? = some v → Value.okWide Tryd.prog W .any base t v := hval0
  have hW' := hW
  obtain ⟨p, q, hA0, hV, rfl, hfz, hnd⟩ := hW
  have hA : DataW.TrodAll enc Tryd.prog W 0 (fun _ => true) true Tryd.f5.params.toList args.toList ds p := hA0
  have hA' := hA
  rw [Tryd.params5] at hA' hval
  obtain ⟨v0, v1, v2, d0, d1, d2, p0, p1, p2, rfl, rfl, rfl, h0, h1, h2⟩ := trodAll_three hA'
  obtain ⟨rfl, rfl⟩ := trodVars_none hV
  have hsz : (DataW.weightsEach Tryd.prog (Tryd.f5.params.toList ++ Rows.taskKeepsSpec.plain.varTypes Tryd.prog) ([d0, d1, d2] ++ [])).all (fun x => decide (x ≤ reachBytes)) = true := hsz0
  rw [Tryd.params5] at hsz
  clear hA0 hval0 hsz0
  simp only [List.append_nil] at hW'
  rw [MakeChecks.laidMetH_plain _ _ _ (by kernel_rfl)] at hL
  obtain ⟨t0, q0, rfl, r0, z0⟩ := arg_task (hval 0 27 v0 rfl rfl) h0 (fits_at hsz (j := 0) (t := 27) rfl rfl)
  have y1 := ints_fit h1 (fits_at hsz (j := 1) (t := 23) rfl rfl)
  obtain ⟨A1, l1, c1, rfl, z1, r1, i1⟩ := arg_ints (hval 1 23 v1 rfl rfl) h1 (fits_at hsz (j := 1) (t := 23) rfl rfl)
  obtain ⟨x2, rfl, i2⟩ := arg_int (hval 2 3 v2 rfl rfl) h2
  refine (taskKeeps_any t0 q0 l1 A1 c1 x2 W r0 r1 z1 (y1 _ _ _ rfl) ⟨envT_of hL.tail.tail, envM_of hSh, envA_of hL.tail.tail.tail.tail.tail hL.tail.tail.tail.tail⟩).mono fun e W' ⟨he, hg⟩ => ?_
  subst he
  exact ⟨_, rfl, law_post laidOut (by kernel_rfl) (by kernel_rfl) Tryd.underlying4 rfl hW' hA rfl rfl rfl hg⟩

theorem taskKeeps_holds : Rows.TaskKeepsSaid :=
  OpenClaim.holds_of_wide 5 Tryd.f5 rfl rfl rfl rfl rfl rfl rfl ⟨rfl, rfl, rfl, rfl, rfl⟩ rfl rfl rfl rfl rfl (by kernel_rfl) Tryd.func5 (by kernel_rfl)
    (of_decide_eq_true (by kernel_rfl)) (by unfold Func.isWrapper; first | (rw [if_pos (by decide +kernel)]; kernel_rfl) | (rw [if_neg (by decide +kernel)]; exact ⟨rfl, rfl⟩))
    (fun os started H enc _ => taskKeeps_lifted os started H enc)
theorem taskKeeps_card_holds : Rows.TaskKeepsCardSaid :=
  Claim7.holds_tied_plain_at .later [] [.data, .data, .data, .data, .sentinel, .sentinel, .pinned] true Rows.taskKeepsCard.stood.harness true
    taskKeeps_holds (fun _ h => by cases h) (by kernel_rfl) (fun _ h => by cases h) taskKeeps_row_tie rfl ⟨rfl, rfl⟩ (by kernel_rfl) rfl
    (fun f fn hf hfn => by
      obtain rfl : f = 5 := Option.some.inj ((show Tryd.prog.funcNamed Tryd.f5.name = some 5 by kernel_rfl).symm.trans hf) |>.symm
      obtain rfl : fn = Tryd.f5 := (Option.some.inj (Tryd.func5.symm.trans hfn)).symm
      exact ⟨by kernel_rfl, fun j t ht => by
        rw [Tryd.params5] at ht
        have hm : t ∈ [27, 23, 3] := by simpa using Array.mem_of_getElem? ht
        have hall : ([27, 23, 3].all fun u => !Tryd.prog.wantsStandIn u) = true := by kernel_rfl
        exact (show Tryd.prog.wantsStandIn t = false by simpa using List.all_eq_true.1 hall t hm)⟩)
    (by kernel_rfl)
#print axioms taskKeeps_card_holds

end Go.Proofs.YtbcbmpnikgeoeaaDoor
