/- WholeTampered returns true for every input, the listed package-level variables holding what the program's text lays; and its tied card. -/
import Derived.Test.YtlkebhiaimijiaaGreatDoorVgC
import Derived.Test.YtlkebhiaimijiaaGreatDoorEnvF
import Derived.Test.YtlkebhiaimijiaaGreatDoorRowS
import Derived.Test.YtlkebhiaimijiaaGreatDoorNgN
import Derived.Lay
import Derived.Test.YtlkebhiaimijiaaGreatDoorCards
import Derived.Test.YtlkebhiaimijiaaGreatDoorTie
import Derived.LaidMore
import Derived.LaidHandle
import Derived.MakeChecks
import Derived.SevenTiedAt
namespace Go.Proofs.YtlkebhiaimijiaaGreatDoor
set_option linter.unusedSimpArgs false
set_option linter.unusedVariables false
open Go Go.ChangeShapes Go.WideShapes Go.ChangeAt Go.RowKit
set_option linter.unusedVariables false

set_option maxRecDepth 100000 in
theorem wholeTampered_lifted (os : Os) (started : os.Started) (H : Type) (enc : TypeId × Value → H) :
    ReturnsInHanded {} Tryz.checked os 4 .any (fun w args => (Rows.wholeTamperedSpec.pre enc Tryz.prog Tryz.f4 Rows.wholeTamperedRow.domain false w args ∧ laidMetH Tryz.prog Rows.wholeTamperedRow.laid w) ∧ sizedMet enc Tryz.prog Tryz.f4 (OpenSpec.ofChange Rows.wholeTamperedSpec) false w args) (Rows.wholeTamperedSpec.post enc Tryz.prog Tryz.f4 false true false false) := by
  refine returnsInHanded_of_change_andS (C := Tryz.checked) (X := fun w _ => laidMetH Tryz.prog Rows.wholeTamperedRow.laid w) (fun _ _ _ hh h => h.of_heap hh) own started (by kernel_rfl) Tryz.func4
    (ChangeSpec.witness_shaped (enc := enc) (C := Tryz.checked) (os := os) (X := fun w _ => laidMetH Tryz.prog Rows.wholeTamperedRow.laid w) false (World.laidAll Tryz.prog os Rows.wholeTamperedRow.laid) #[.agg #[.slice none 0 0, .slice none 0 0, .slice none 0 0, .slice none 0 0], .int .i64 0, .slice none 0 0] 8 (World.laidAll_os _ _ _) (World.shaped_of_ZipB (by kernel_rfl) (by kernel_rfl)) (by kernel_rfl) (by kernel_rfl) (by kernel_rfl) (by rw [MakeChecks.laidMetH_plain _ _ _ (by kernel_rfl)]; exact laidMet_laidAll _ (by kernel_rfl) (by kernel_rfl))) ?_
  intro W base args ds gs before hval0 hW hcnd hsz0 hL hSh _
  have hval : ∀ (j : Nat) t v, Tryz.f4.params[j]? = some t → args[j]? = some v → Value.okWide Tryz.prog W .any base t v := hval0
  have hW' := hW
  obtain ⟨p, q, hA0, hV, rfl, hfz, hnd⟩ := hW
  have hA : DataW.TrodAll enc Tryz.prog W 0 (fun _ => true) true Tryz.f4.params.toList args.toList ds p := hA0
  have hA' := hA
  rw [Tryz.params4] at hA' hval
  obtain ⟨v0, v1, v2, d0, d1, d2, p0, p1, p2, rfl, rfl, rfl, h0, h1, h2⟩ := trodAll_three hA'
  obtain ⟨rfl, rfl⟩ := trodVars_none hV
  have hsz : (DataW.weightsEach Tryz.prog (Tryz.f4.params.toList ++ Rows.wholeTamperedSpec.plain.varTypes Tryz.prog) ([d0, d1, d2] ++ [])).all (fun x => decide (x ≤ reachBytes)) = true := hsz0
  rw [Tryz.params4] at hsz
  clear hA0 hval0 hsz0
  simp only [List.append_nil] at hW'
  rw [MakeChecks.laidMetH_plain _ _ _ (by kernel_rfl)] at hL
  obtain ⟨t0, q0, rfl, r0, z0⟩ := arg_task (hval 0 26 v0 rfl rfl) h0 (fits_at hsz (j := 0) (t := 26) rfl rfl)
  obtain ⟨x1, rfl, i1⟩ := arg_int (hval 1 3 v1 rfl rfl) h1
  obtain ⟨A2, l2, c2, rfl, z2, r2⟩ := arg_chgs (hval 2 51 v2 rfl rfl) h2 (fits_at hsz (j := 2) (t := 51) rfl rfl)
  refine (wholeTampered_any t0 q0 x1 A2 l2 c2 W r0 r2 i1.1 i1.2 (envT_of hL.tail.tail) (envM_of hSh)).mono fun e W' ⟨he, hg⟩ => ?_
  subst he
  exact ⟨_, rfl, law_post laidOut (by kernel_rfl) (by kernel_rfl) Tryz.underlying4 rfl hW' hA rfl rfl rfl hg⟩

theorem wholeTampered_holds : Rows.WholeTamperedSaid :=
  OpenClaim.holds_of_wide 4 Tryz.f4 rfl rfl rfl rfl rfl rfl rfl ⟨rfl, rfl, rfl, rfl, rfl⟩ rfl rfl rfl rfl rfl (by kernel_rfl) Tryz.func4 (by kernel_rfl)
    (of_decide_eq_true (by kernel_rfl)) (by unfold Func.isWrapper; first | (rw [if_pos (by decide +kernel)]; kernel_rfl) | (rw [if_neg (by decide +kernel)]; exact ⟨rfl, rfl⟩))
    (fun os started H enc _ => wholeTampered_lifted os started H enc)
theorem wholeTampered_card_holds : Rows.WholeTamperedCardSaid :=
  Claim7.holds_tied_plain_at .later [] [.data, .data, .data, .data, .pinned] true Rows.wholeTamperedCard.stood.harness true
    wholeTampered_holds (fun _ h => by cases h) (by kernel_rfl) (fun _ h => by cases h) wholeTampered_row_tie rfl ⟨rfl, rfl⟩ (by kernel_rfl) rfl
    (fun f fn hf hfn => by
      obtain rfl : f = 4 := Option.some.inj ((show Tryz.prog.funcNamed Tryz.f4.name = some 4 by kernel_rfl).symm.trans hf) |>.symm
      obtain rfl : fn = Tryz.f4 := (Option.some.inj (Tryz.func4.symm.trans hfn)).symm
      exact ⟨by kernel_rfl, fun j t ht => by
        rw [Tryz.params4] at ht
        have hm : t ∈ [26, 3, 51] := by simpa using Array.mem_of_getElem? ht
        have hall : ([26, 3, 51].all fun u => !Tryz.prog.wantsStandIn u) = true := by kernel_rfl
        exact (show Tryz.prog.wantsStandIn t = false by simpa using List.all_eq_true.1 hall t hm)⟩)
    (by kernel_rfl)
#print axioms wholeTampered_card_holds

end Go.Proofs.YtlkebhiaimijiaaGreatDoor
