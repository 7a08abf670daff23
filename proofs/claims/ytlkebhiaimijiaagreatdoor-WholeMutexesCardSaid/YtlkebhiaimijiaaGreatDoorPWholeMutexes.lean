/- WholeMutexes returns true for every input, the listed package-level variables holding what the program's text lays; and its tied card. -/
import Derived.Test.YtlkebhiaimijiaaGreatDoorVhZ
import Derived.Test.YtlkebhiaimijiaaGreatDoorEnvF
import Derived.Test.YtlkebhiaimijiaaGreatDoorOpen
import Derived.Test.YtlkebhiaimijiaaGreatDoorCards
import Derived.Test.YtlkebhiaimijiaaGreatDoorTie
import Derived.LaidMore
import Derived.LaidHandle
import Derived.MakeChecks
import Derived.SevenTiedAt
namespace Go.Proofs.YtlkebhiaimijiaaGreatDoor
set_option linter.unusedSimpArgs false
set_option linter.unusedVariables false
open Go Go.ChangeShapes Go.WideShapes Go.ChangeAt Go.RowKit
set_option linter.unusedVariables false

theorem wholeMutexes_door (os : Os) (args : Array Value) : laidMetH Tryz.prog Rows.wholeMutexesRow.laid ((World.doorLaid Tryz.prog 4000 os).forCall (fun _ _ => 0) ⟨#[], args, []⟩).memory :=
 laidMetH_of_parts3 (fuel := 8) (laidMet_of_run' 8 (by kernel_rfl) (by kernel_rfl)) (by kernel_rfl) (by kernel_rfl)

set_option maxRecDepth 100000 in
theorem wholeMutexes_lifted (os : Os) (started : os.Started) (H : Type) (enc : TypeId × Value → H) :
  ReturnsInHanded {} Tryz.checked os 3 .any (fun w args => (Rows.wholeMutexesSpec.pre enc Tryz.prog Tryz.f3 Rows.wholeMutexesRow.domain false w args ∧ laidMetH Tryz.prog Rows.wholeMutexesRow.laid w) ∧ sizedMet enc Tryz.prog Tryz.f3 (OpenSpec.ofChange Rows.wholeMutexesSpec) false w args) (Rows.wholeMutexesSpec.post enc Tryz.prog Tryz.f3 false true false false) := by
 refine returnsInHanded_of_change_and (C := Tryz.checked) (X := fun w _ => laidMetH Tryz.prog Rows.wholeMutexesRow.laid w) (fun _ _ _ hh h => h.of_heap hh) own started (by kernel_rfl) Tryz.func3
  (ChangeSpec.witness_shaped (enc := enc) (C := Tryz.checked) (os := os) (X := fun w _ => laidMetH Tryz.prog Rows.wholeMutexesRow.laid w) false (World.doorLaid Tryz.prog 4000 os) #[.agg #[.slice none 0 0, .slice none 0 0, .slice none 0 0, .slice none 0 0], .int .i64 0] 8 rfl (World.shaped_of_RefB (by kernel_rfl) (by kernel_rfl)) (by kernel_rfl) (by kernel_rfl) (by kernel_rfl) (wholeMutexes_door os _)) ?_
 intro W base args ds gs before hval0 hW hcnd hsz0 hL _
 have hval : ∀ (j : Nat) t v, Tryz.f3.params[j]? = some t → args[j]? = some v → Value.okWide Tryz.prog W .any base t v := hval0
 have hW' := hW
 obtain ⟨p, q, hA0, hV, rfl, hfz, hnd⟩ := hW
 have hA : DataW.TrodAll enc Tryz.prog W 0 (fun _ => true) true Tryz.f3.params.toList args.toList ds p := hA0
 have hA' := hA
 rw [Tryz.params3] at hA' hval
 obtain ⟨v0, v1, d0, d1, p0, p1, rfl, rfl, rfl, h0, h1⟩ := trodAll_two hA'
 obtain ⟨rfl, rfl⟩ := trodVars_none hV
 have hsz : (DataW.weightsEach Tryz.prog (Tryz.f3.params.toList ++ Rows.wholeMutexesSpec.plain.varTypes Tryz.prog) ([d0, d1] ++ [])).all (fun x => decide (x ≤ reachBytes)) = true := hsz0
 rw [Tryz.params3] at hsz
 clear hA0 hval0 hsz0
 simp only [List.append_nil] at hW'
 rw [MakeChecks.laidMetH_plain _ _ _ (by kernel_rfl)] at hL
 obtain ⟨t0, q0, rfl, r0, z0⟩ := arg_task (hval 0 26 v0 rfl rfl) h0 (fits_at hsz (j := 0) (t := 26) rfl rfl)
 obtain ⟨x1, rfl, i1⟩ := arg_int (hval 1 3 v1 rfl rfl) h1
 refine (wholeMutexes_any t0 q0 x1 W r0 i1.1 i1.2 (envT_of hL.tail.tail)).mono fun e W' ⟨he, hg⟩ => ?_
 subst he
 exact ⟨_, rfl, law_post laidOut (by kernel_rfl) (by kernel_rfl) Tryz.underlying4 rfl hW' hA rfl rfl rfl hg⟩

theorem wholeMutexes_holds : Rows.WholeMutexesSaid :=
 OpenClaim.holds_of_wide 3 Tryz.f3 rfl rfl rfl rfl rfl rfl rfl ⟨rfl, rfl, rfl, rfl, rfl⟩ rfl rfl rfl rfl rfl (by kernel_rfl) Tryz.func3 (by kernel_rfl)
  (of_decide_eq_true (by kernel_rfl)) (by unfold Func.isWrapper; first | (rw [if_pos (by decide +kernel)]; kernel_rfl) | (rw [if_neg (by decide +kernel)]; exact ⟨rfl, rfl⟩))
  (fun os started H enc _ => wholeMutexes_lifted os started H enc)
theorem wholeMutexes_card_holds : Rows.WholeMutexesCardSaid :=
 Claim7.holds_tied_plain_at .later [] [.data, .data, .data] true Rows.wholeMutexesCard.stood.harness true
  wholeMutexes_holds (fun _ h => by cases h) (by kernel_rfl) (fun _ h => by cases h) wholeMutexes_row_tie rfl ⟨rfl, rfl⟩ (by kernel_rfl) rfl
  (fun f fn hf hfn => by
   obtain rfl : f = 3 := Option.some.inj ((show Tryz.prog.funcNamed Tryz.f3.name = some 3 by kernel_rfl).symm.trans hf) |>.symm
   obtain rfl : fn = Tryz.f3 := (Option.some.inj (Tryz.func3.symm.trans hfn)).symm
   exact ⟨by kernel_rfl, fun j t ht => by
    rw [Tryz.params3] at ht
    have hm : t ∈ [26, 3] := by simpa using Array.mem_of_getElem? ht
    have hall : ([26, 3].all fun u => !Tryz.prog.wantsStandIn u) = true := by kernel_rfl
    exact (show Tryz.prog.wantsStandIn t = false by simpa using List.all_eq_true.1 hall t hm)⟩)
  (by kernel_rfl)
#print axioms wholeMutexes_card_holds

end Go.Proofs.YtlkebhiaimijiaaGreatDoor
