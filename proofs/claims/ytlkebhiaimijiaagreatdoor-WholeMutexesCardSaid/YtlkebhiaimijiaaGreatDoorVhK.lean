/- A task's copy: mutex.copied, walked. -/
import Derived.Test.YtlkebhiaimijiaaGreatDoorBel
import Derived.Test.YtlkebhiaimijiaaGreatDoorNgE
import Derived.Test.YtlkebhiaimijiaaGreatDoorNhA
import Derived.Deep.CutBlock
namespace Go.Proofs.YtlkebhiaimijiaaGreatDoor
set_option linter.unusedSimpArgs false
set_option linter.unusedVariables false
open Go Go.RowKit
set_option linter.unusedVariables false

set_option maxRecDepth 20000 in
set_option maxHeartbeats 8000000 in
theorem mcopied_any (t : Tsk) (p : Lies) (w : World) (ht : TaskAt w w.heap.size t p) (hr : Right t) :
  Calls Tryz.prog 25 #[TaskV t p] w fun e w' => (∃ p', e = .returned (TaskV t p') ∧ ∀ w2, Kb (fun b => b < w.heap.size) w' w2 → TaskAt w2 w2.heap.size t p' ∧ CapsAt w2 p' t.ops.length) ∧ Below w.heap.size w w' := by
 obtain ⟨pav, pai, pag, pao, pcv, pci, pcg, pco⟩ := p
 have HT := Lib.hid ht
 have HRT := Lib.hid hr
 have hov := hr.nv
 have hoi : t.init.length = t.vars.length := stB_len hr.init
 have HOI := Lib.hid hoi
 have hoi2 : t.init.length ≤ 64 := by omega
 have hog := hr.ng
 have hoo := hr.no
 clear ht hr hoi
 have KI := Lib.hid (fun W (k : Below w.heap.size w W) => cloneI2 t.vars pav pcv W (HT.out.vars.up k) (by omega))
 have KJ := Lib.hid (fun W (k : Below w.heap.size w W) => cloneI2 t.init pai pci W (HT.out.init.up k) (by omega))
 have KF := Lib.hid (fun W (k : Below w.heap.size w W) => cloneF2 t.goal pag pcg W (HT.out.goal.up k) (by omega))
 unfold TaskV
 go_enter Tryz.func25, Tryz.ntmps25
 go_upto_region 0 with fail
 go_cut [1, 2] (fun v1 v2 wx => v1 = .pointer (some ⟨w.heap.size, 0, none⟩) ∧ v2 = .pointer (some ⟨w.heap.size + 1, 0, none⟩) ∧ Hid (Below w.heap.size w wx) ∧ Hid (BxI wx w.heap.size 26 #[.slice pav t.vars.length pcv, .slice pai t.init.length pci, .slice pag t.goal.length pcg, .slice pao t.ops.length pco]) ∧ Hid (BxI wx (w.heap.size + 1) 26 #[.slice none 0 0, .slice none 0 0, .slice none 0 0, .slice none 0 0]) ∧ wx.heap.size = w.heap.size + 2)
 case first =>
  go_wp2
  go_meet
  exact ⟨rfl, rfl, Lib.hid (by exact bel), Lib.hid ((BxI.new w _ _).up (by exact bel)), Lib.hid (BxI.new2 w _ _ _), by simp⟩
 case rest =>
  obtain ⟨rfl, rfl, HB0, HX0, HX1, hz0⟩ := hcut
  obtain ⟨W0, rfl⟩ : ∃ W0, W0 = wc := ⟨_, rfl⟩
  go_upto_region 1 with fail
  go_cut [3] (fun v3 wx => ∃ X a0 c0 a1 c1 a2 c2, v3 = .pointer (some ⟨X, 0, none⟩) ∧ w.heap.size + 2 ≤ X ∧ Hid (BxI wx X 26 #[.slice a0 t.vars.length c0, .slice a1 t.init.length c1, .slice a2 t.goal.length c2, .slice none 0 0]) ∧ Hid (Below W0.heap.size W0 wx) ∧ Hid (IntK wx (fun b => b = X ∨ b < W0.heap.size) a0 t.vars) ∧ Hid (IntK wx (fun b => b = X ∨ b < W0.heap.size) a1 t.init) ∧ Hid (Fac wx (fun b => b = X ∨ b < W0.heap.size) a2 t.goal))
  case first =>
   have HS := Lib.hid (show ∀ w' : World, Below W0.heap.size W0 w' → w'.cell? ⟨w.heap.size, 0, none⟩ = some (.slice pav t.vars.length pcv) ∧ w'.cell? ⟨w.heap.size, 1, none⟩ = some (.slice pai t.init.length pci) ∧ w'.cell? ⟨w.heap.size, 2, none⟩ = some (.slice pag t.goal.length pcg) from fun w' hb => ⟨(HX0.out.up hb).cell 0 _ rfl, (HX0.out.up hb).cell 1 _ rfl, (HX0.out.up hb).cell 2 _ rfl⟩)
   have HW := Lib.hid (show ∀ w' : World, Below W0.heap.size W0 w' → Below w.heap.size w w' from fun w' hb => HB0.out.trans (hb.mono HB0.out.size))
   refine wp_region_G 8 (fun w' => w'.cell? ⟨w.heap.size, 0, none⟩ = some (.slice pav t.vars.length pcv) ∧ w'.cell? ⟨w.heap.size, 1, none⟩ = some (.slice pai t.init.length pci) ∧ w'.cell? ⟨w.heap.size, 2, none⟩ = some (.slice pag t.goal.length pcg)) (by kernel_rfl) (HS.out _ (by exact bel)) ?_
   intro hG0
   refine wpS1 0 hG0 ?_; intro hG1; clear hG0
   refine wpS2 1 hG1 ?_; intro hG2; clear hG1
   refine wpS1 3 hG2 ?_; intro hG3; clear hG2
   refine wpS2 4 hG3 ?_; intro hG4; clear hG3
   refine wpS1 6 hG4 ?_; intro hG5; clear hG4
   refine wpS2 7 hG5 ?_; intro hG6; clear hG5
   refine wpAnyG_ready (rs := [2, 10]) (by kernel_rfl) (by simp) (AllG.cons rfl hG6 (fun K hK => ?_) (AllG.cons rfl hG6 (fun K hK => ?_) AllG.nil))
   (go_simp; go_at_call 58; refine (KI.out _ (HW.out _ (by exact bel))).mono ?_; rintro e w2 ⟨⟨a0, c0, rfl, _, hk0⟩, hb2⟩; have HB2 := Lib.hid (show Below W0.heap.size W0 w2 from below_step hb2 (show W0.heap.size ≤ _ by simp) (show Below W0.heap.size W0 _ by exact bel)); have HO0 := Lib.hid (own_base (B' := W0.heap.size) hk0 (by first | exact Nat.le_refl _ | simp)); (try have HX := Lib.hid (HX.out.up hb2)); clear hk0 hb2)
   refine hK.out _ _ (Or.inr (HS.out _ HB2.out)) (fun hG7 => wpN ?_); clear hK hG6
   refine wpAnyG_ready (rs := [5, 10]) (by kernel_rfl) (by simp) (AllG.cons rfl hG7 (fun K hK => ?_) (AllG.cons rfl hG7 (fun K hK => ?_) AllG.nil))
   (go_simp; go_at_call 58; refine (KJ.out _ (HW.out _ (HB2.out.trans (Below.mono (by exact bel) HB2.out.size)))).mono ?_; rintro e w5 ⟨⟨a1, c1, rfl, _, hk1⟩, hb5⟩; have HC5 := Lib.hid (show Below w2.heap.size w2 w5 from below_step hb5 (show w2.heap.size ≤ _ by simp) (show Below w2.heap.size w2 _ by exact bel)); have HB5 := Lib.hid (HB2.out.trans (HC5.out.mono HB2.out.size)); have HO0 := Lib.hid (own_kb1 HO0.out (Kb.of_below (bad := fun _ => False) HC5.out) (fun _ _ h => h)); have HO1 := Lib.hid (own_base (B' := W0.heap.size) hk1 (Nat.le_trans HB2.out.size (by first | exact Nat.le_refl _ | simp))); (try have HX := Lib.hid (HX.out.up hb5)); clear hk1 hb5)
   refine hK.out _ _ (Or.inr (HS.out _ HB5.out)) (fun hG8 => wpN ?_); clear hK hG7
   refine wpAnyG_ready (rs := [8, 10]) (by kernel_rfl) (by simp) (AllG.cons rfl hG8 (fun K hK => ?_) (AllG.cons rfl hG8 (fun K hK => ?_) AllG.nil))
   (go_simp; go_at_call 33; refine (KF.out _ (HW.out _ (HB5.out.trans (Below.mono (by exact bel) HB5.out.size)))).mono ?_; rintro e w8 ⟨⟨a2, c2, rfl, _, hk2⟩, hb8⟩; have HC8 := Lib.hid (show Below w5.heap.size w5 w8 from below_step hb8 (show w5.heap.size ≤ _ by simp) (show Below w5.heap.size w5 _ by exact bel)); have HB8 := Lib.hid (HB5.out.trans (HC8.out.mono HB5.out.size)); have HO0 := Lib.hid (own_kb1 HO0.out (Kb.of_below (bad := fun _ => False) HC8.out) (fun _ _ h => h)); have HO1 := Lib.hid (own_kb1 HO1.out (Kb.of_below (bad := fun _ => False) HC8.out) (fun _ _ h => h)); have HO2 := Lib.hid (own_base (B' := W0.heap.size) hk2 (Nat.le_trans HB5.out.size (by first | exact Nat.le_refl _ | simp))); (try have HX := Lib.hid (HX.out.up hb8)); clear hk2 hb8)
   refine hK.out _ _ (Or.inl rfl) (fun hG9 => wpN ?_); clear hK hG8
   refine wpS1 9 hG9 ?_; intro hG10; clear hG9
   refine wpAnyG_ready (rs := [10]) (by kernel_rfl) (by simp) (AllG.cons rfl hG10 (fun K hK => ?_) AllG.nil)
   (go_simp; have HX := Lib.hid (BxI.new w8 26 #[.slice none 0 0, .slice none 0 0, .slice none 0 0, .slice none 0 0]); have hXge : w.heap.size + 2 ≤ w8.heap.size := (by have := HB8.out.size; omega))
   refine hK.out _ _ (Or.inl rfl) (fun hG11 => wpN ?_); clear hK hG10
   refine wpAnyG_ready (rs := [11]) (by kernel_rfl) (by simp) (AllG.cons rfl hG11 (fun K hK => ?_) AllG.nil)
   (refine step_stores (by rfl) 26 _ _ (by rfl) _ 0 [.slice a0 t.vars.length c0, .slice a1 t.init.length c1, .slice a2 t.goal.length c2, .slice none 0 0] (by rfl) (by rfl) (there_blk HX.out (by simp)) (by kernel_rfl) (four_v rfl rfl rfl rfl) ?_; intro wy HWY)
   refine hK.out _ _ (Or.inl rfl) (fun hG12 => wpN ?_); clear hK hG11
   refine wpAnyG_done (by kernel_rfl) ?_ _; clear hG12
   rotate_left
   (go_simp; have HX := Lib.hid (BxI.new w5 26 #[.slice none 0 0, .slice none 0 0, .slice none 0 0, .slice none 0 0]); have hXge : w.heap.size + 2 ≤ w5.heap.size := (by have := HB5.out.size; omega))
   refine hK.out _ _ (Or.inr (HS.out _ (HB5.out.trans (Below.mono (by exact bel) HB5.out.size)))) (fun hG9 => wpN ?_); clear hK hG8
   refine wpAnyG_ready (rs := [8]) (by kernel_rfl) (by simp) (AllG.cons rfl hG9 (fun K hK => ?_) AllG.nil)
   (go_simp; go_at_call 33; refine (KF.out _ (HW.out _ (HB5.out.trans (Below.mono (by exact bel) HB5.out.size)))).mono ?_; rintro e w8 ⟨⟨a2, c2, rfl, _, hk2⟩, hb8⟩; have HC8 := Lib.hid (show Below w5.heap.size w5 w8 from below_step hb8 (show w5.heap.size ≤ _ by simp) (show Below w5.heap.size w5 _ by exact bel)); have HB8 := Lib.hid (HB5.out.trans (HC8.out.mono HB5.out.size)); have HO0 := Lib.hid (own_kb1 HO0.out (Kb.of_below (bad := fun _ => False) HC8.out) (fun _ _ h => h)); have HO1 := Lib.hid (own_kb1 HO1.out (Kb.of_below (bad := fun _ => False) HC8.out) (fun _ _ h => h)); have HO2 := Lib.hid (own_base (B' := W0.heap.size) hk2 (Nat.le_trans HB5.out.size (by first | exact Nat.le_refl _ | simp))); (try have HX := Lib.hid (HX.out.up hb8)); clear hk2 hb8)
   refine hK.out _ _ (Or.inl rfl) (fun hG10 => wpN ?_); clear hK hG9
   refine wpS1 9 hG10 ?_; intro hG11; clear hG10
   refine wpAnyG_ready (rs := [11]) (by kernel_rfl) (by simp) (AllG.cons rfl hG11 (fun K hK => ?_) AllG.nil)
   (refine step_stores (by rfl) 26 _ _ (by rfl) _ 0 [.slice a0 t.vars.length c0, .slice a1 t.init.length c1, .slice a2 t.goal.length c2, .slice none 0 0] (by rfl) (by rfl) (there_blk HX.out (by simp)) (by kernel_rfl) (four_v rfl rfl rfl rfl) ?_; intro wy HWY)
   refine hK.out _ _ (Or.inl rfl) (fun hG12 => wpN ?_); clear hK hG11
   refine wpAnyG_done (by kernel_rfl) ?_ _; clear hG12
   rotate_left
   (go_simp; have HX := Lib.hid (BxI.new w2 26 #[.slice none 0 0, .slice none 0 0, .slice none 0 0, .slice none 0 0]); have hXge : w.heap.size + 2 ≤ w2.heap.size := (by have := HB2.out.size; omega))
   refine hK.out _ _ (Or.inr (HS.out _ (HB2.out.trans (Below.mono (by exact bel) HB2.out.size)))) (fun hG8 => wpN ?_); clear hK hG7
   refine wpAnyG_ready (rs := [5]) (by kernel_rfl) (by simp) (AllG.cons rfl hG8 (fun K hK => ?_) AllG.nil)
   (go_simp; go_at_call 58; refine (KJ.out _ (HW.out _ (HB2.out.trans (Below.mono (by exact bel) HB2.out.size)))).mono ?_; rintro e w5 ⟨⟨a1, c1, rfl, _, hk1⟩, hb5⟩; have HC5 := Lib.hid (show Below w2.heap.size w2 w5 from below_step hb5 (show w2.heap.size ≤ _ by simp) (show Below w2.heap.size w2 _ by exact bel)); have HB5 := Lib.hid (HB2.out.trans (HC5.out.mono HB2.out.size)); have HO0 := Lib.hid (own_kb1 HO0.out (Kb.of_below (bad := fun _ => False) HC5.out) (fun _ _ h => h)); have HO1 := Lib.hid (own_base (B' := W0.heap.size) hk1 (Nat.le_trans HB2.out.size (by first | exact Nat.le_refl _ | simp))); (try have HX := Lib.hid (HX.out.up hb5)); clear hk1 hb5)
   refine hK.out _ _ (Or.inr (HS.out _ HB5.out)) (fun hG9 => wpN ?_); clear hK hG8
   refine wpAnyG_ready (rs := [8]) (by kernel_rfl) (by simp) (AllG.cons rfl hG9 (fun K hK => ?_) AllG.nil)
   (go_simp; go_at_call 33; refine (KF.out _ (HW.out _ (HB5.out.trans (Below.mono (by exact bel) HB5.out.size)))).mono ?_; rintro e w8 ⟨⟨a2, c2, rfl, _, hk2⟩, hb8⟩; have HC8 := Lib.hid (show Below w5.heap.size w5 w8 from below_step hb8 (show w5.heap.size ≤ _ by simp) (show Below w5.heap.size w5 _ by exact bel)); have HB8 := Lib.hid (HB5.out.trans (HC8.out.mono HB5.out.size)); have HO0 := Lib.hid (own_kb1 HO0.out (Kb.of_below (bad := fun _ => False) HC8.out) (fun _ _ h => h)); have HO1 := Lib.hid (own_kb1 HO1.out (Kb.of_below (bad := fun _ => False) HC8.out) (fun _ _ h => h)); have HO2 := Lib.hid (own_base (B' := W0.heap.size) hk2 (Nat.le_trans HB5.out.size (by first | exact Nat.le_refl _ | simp))); (try have HX := Lib.hid (HX.out.up hb8)); clear hk2 hb8)
   refine hK.out _ _ (Or.inl rfl) (fun hG10 => wpN ?_); clear hK hG9
   refine wpS1 9 hG10 ?_; intro hG11; clear hG10
   refine wpAnyG_ready (rs := [11]) (by kernel_rfl) (by simp) (AllG.cons rfl hG11 (fun K hK => ?_) AllG.nil)
   (refine step_stores (by rfl) 26 _ _ (by rfl) _ 0 [.slice a0 t.vars.length c0, .slice a1 t.init.length c1, .slice a2 t.goal.length c2, .slice none 0 0] (by rfl) (by rfl) (there_blk HX.out (by simp)) (by kernel_rfl) (four_v rfl rfl rfl rfl) ?_; intro wy HWY)
   refine hK.out _ _ (Or.inl rfl) (fun hG12 => wpN ?_); clear hK hG11
   refine wpAnyG_done (by kernel_rfl) ?_ _; clear hG12
   rotate_left
   (go_simp; have HX := Lib.hid (show BxI (W0.drew.alloc _) (w.heap.size + 2) 26 #[.slice none 0 0, .slice none 0 0, .slice none 0 0, .slice none 0 0] from hz0 ▸ BxI.new W0.drew _ _); have hXge : w.heap.size + 2 ≤ w.heap.size + 2 := Nat.le_refl _)
   refine hK.out _ _ (Or.inr (HS.out _ (by exact bel))) (fun hG7 => wpN ?_); clear hK hG6
   refine wpAnyG_ready (rs := [2]) (by kernel_rfl) (by simp) (AllG.cons rfl hG7 (fun K hK => ?_) AllG.nil)
   (go_simp; go_at_call 58; refine (KI.out _ (HW.out _ (by exact bel))).mono ?_; rintro e w2 ⟨⟨a0, c0, rfl, _, hk0⟩, hb2⟩; have HB2 := Lib.hid (show Below W0.heap.size W0 w2 from below_step hb2 (show W0.heap.size ≤ _ by simp) (show Below W0.heap.size W0 _ by exact bel)); have HO0 := Lib.hid (own_base (B' := W0.heap.size) hk0 (by first | exact Nat.le_refl _ | simp)); (try have HX := Lib.hid (HX.out.up hb2)); clear hk0 hb2)
   refine hK.out _ _ (Or.inr (HS.out _ HB2.out)) (fun hG8 => wpN ?_); clear hK hG7
   refine wpAnyG_ready (rs := [5]) (by kernel_rfl) (by simp) (AllG.cons rfl hG8 (fun K hK => ?_) AllG.nil)
   (go_simp; go_at_call 58; refine (KJ.out _ (HW.out _ (HB2.out.trans (Below.mono (by exact bel) HB2.out.size)))).mono ?_; rintro e w5 ⟨⟨a1, c1, rfl, _, hk1⟩, hb5⟩; have HC5 := Lib.hid (show Below w2.heap.size w2 w5 from below_step hb5 (show w2.heap.size ≤ _ by simp) (show Below w2.heap.size w2 _ by exact bel)); have HB5 := Lib.hid (HB2.out.trans (HC5.out.mono HB2.out.size)); have HO0 := Lib.hid (own_kb1 HO0.out (Kb.of_below (bad := fun _ => False) HC5.out) (fun _ _ h => h)); have HO1 := Lib.hid (own_base (B' := W0.heap.size) hk1 (Nat.le_trans HB2.out.size (by first | exact Nat.le_refl _ | simp))); (try have HX := Lib.hid (HX.out.up hb5)); clear hk1 hb5)
   refine hK.out _ _ (Or.inr (HS.out _ HB5.out)) (fun hG9 => wpN ?_); clear hK hG8
   refine wpAnyG_ready (rs := [8]) (by kernel_rfl) (by simp) (AllG.cons rfl hG9 (fun K hK => ?_) AllG.nil)
   (go_simp; go_at_call 33; refine (KF.out _ (HW.out _ (HB5.out.trans (Below.mono (by exact bel) HB5.out.size)))).mono ?_; rintro e w8 ⟨⟨a2, c2, rfl, _, hk2⟩, hb8⟩; have HC8 := Lib.hid (show Below w5.heap.size w5 w8 from below_step hb8 (show w5.heap.size ≤ _ by simp) (show Below w5.heap.size w5 _ by exact bel)); have HB8 := Lib.hid (HB5.out.trans (HC8.out.mono HB5.out.size)); have HO0 := Lib.hid (own_kb1 HO0.out (Kb.of_below (bad := fun _ => False) HC8.out) (fun _ _ h => h)); have HO1 := Lib.hid (own_kb1 HO1.out (Kb.of_below (bad := fun _ => False) HC8.out) (fun _ _ h => h)); have HO2 := Lib.hid (own_base (B' := W0.heap.size) hk2 (Nat.le_trans HB5.out.size (by first | exact Nat.le_refl _ | simp))); (try have HX := Lib.hid (HX.out.up hb8)); clear hk2 hb8)
   refine hK.out _ _ (Or.inl rfl) (fun hG10 => wpN ?_); clear hK hG9
   refine wpS1 9 hG10 ?_; intro hG11; clear hG10
   refine wpAnyG_ready (rs := [11]) (by kernel_rfl) (by simp) (AllG.cons rfl hG11 (fun K hK => ?_) AllG.nil)
   (refine step_stores (by rfl) 26 _ _ (by rfl) _ 0 [.slice a0 t.vars.length c0, .slice a1 t.init.length c1, .slice a2 t.goal.length c2, .slice none 0 0] (by rfl) (by rfl) (there_blk HX.out (by simp)) (by kernel_rfl) (four_v rfl rfl rfl rfl) ?_; intro wy HWY)
   refine hK.out _ _ (Or.inl rfl) (fun hG12 => wpN ?_); clear hK hG11
   refine wpAnyG_done (by kernel_rfl) ?_ _; clear hG12
   rotate_left
   all_goals
    have hcl := copy_leaf HWY.out HX.out rfl (by omega) (HB8.out.trans (Below.mono (by exact bel) HB8.out.size)) (own_kb1 HO0.out (Kb.of_below (bad := fun _ => False) (by exact bel)) (fun _ _ h => h)) (own_kb1 HO1.out (Kb.of_below (bad := fun _ => False) (by exact bel)) (fun _ _ h => h)) (own_kb1 HO2.out (Kb.of_below (bad := fun _ => False) (by exact bel)) (fun _ _ h => h)) (by omega) (by omega) (by omega)
    have HCL := Lib.hid hcl
    clear hcl
    go_wp2
    go_meet
    exact ⟨_, a0, c0, a1, c1, a2, c2, rfl, hXge, Lib.hid HCL.out.1, Lib.hid HCL.out.2.1, Lib.hid HCL.out.2.2.1, Lib.hid HCL.out.2.2.2.1, Lib.hid HCL.out.2.2.2.2⟩
  case rest =>
   obtain ⟨X, a0, c0, a1, c1, a2, c2, rfl, hX, HBX, HB1, HI0, HI1, HF2⟩ := hcut
   obtain ⟨W1, rfl⟩ : ∃ W1, W1 = wc := ⟨_, rfl⟩
   have hz1 := HB1.out.size
   have hXlt := HBX.out.lt
   have d9 := (HX0.out.up HB1.out).cell 3 _ rfl
   obtain ⟨io, ho1, ho2, ho3, ho4⟩ := info_parts qinfOp
   obtain ⟨ie, he1, he2, he3, he4⟩ := info_parts qinfEf
   go_wp2_with fail
   clear d9
   go_loopw [22] (fun v22 wr => ∃ (i : Nat) (OA : Option Addr) (OC : Nat) (xs : List Value), v22 = .int .i64 i ∧ i ≤ t.ops.length ∧ Hid (BxI wr X 26 #[.slice a0 t.vars.length c0, .slice a1 t.init.length c1, .slice a2 t.goal.length c2, .slice OA i OC]) ∧ Hid (wr.ownsRow W1.heap.size 63 4 (.slice OA i OC) i xs) ∧ Hid (OpIs wr (fun b => b < W1.heap.size ∨ (Value.slice OA i OC).ownBlock = some b) xs (t.ops.take i)) ∧ Hid (Kb (fun b => b = X) W1 wr) ∧ Hid (CapX xs)) (fun v _ => t.ops.length - (RowKit.intOf v).toNat)
   case atStart => exact ⟨0, none, 0, [], rfl, Nat.zero_le _, HBX, Lib.hid (World.ownsRow_nil _ _ _ _), Lib.hid (OpIs.nil _ _), Lib.hid (Kb.refl _ _), Lib.hid capX_nil⟩
   case round =>
    obtain ⟨i, OA, OC, xs, rfl, hi, HXR, HOW, HOP, HKB, HCP⟩ := hrel
    have hzr := HKB.out.size
    have hbel : Below w.heap.size w wr := (HB0.out.trans (HB1.out.mono HB0.out.size)).trans (HKB.out.below (fun b hb e => by omega) (by omega))
    have HBEL := Lib.hid hbel
    by_cases hlt : i < t.ops.length
    ·obtain ⟨b, o, S, c, T, d, ea, hb, d0, q0, d1, d2, f2, d3, e3⟩ := HT.out.ops.at2 hbel hlt
     (try dsimp only at ea)
     subst ea
     have hbw := hbel.size
     have HF := Lib.hid f2
     have HE := Lib.hid e3
     have hnp := HRT.out.np i hlt
     have hne := HRT.out.ne i hlt
     have hnw := Lib.hid (HRT.out.nw i hlt)
     have HQ0 := Lib.hid q0
     have hd1 : decide ((i : Int) < (t.ops.length : Int)) = true := decide_eq_true (by omega)
     obtain ⟨oi, hoi⟩ : ∃ oi, oi = opr t.ops i := ⟨_, rfl⟩
     have HOI2 := Lib.hid hoi
     rw [← hoi] at d0 d1 d2 d3 HF HE hnp hne hnw HQ0
     clear f2 e3 q0 hbel hoi
     obtain ⟨wt, rfl⟩ : ∃ wt : World, wt = wr := ⟨_, rfl⟩
     go_wp2_with fail
     refine (cloneF2 oi.pre S c _ ((HF.out.up HBEL.out).up (by exact bel)) (by omega)).mono ?_
     rintro e w5 ⟨⟨PA, PC, rfl, hpf, hpo⟩, hb5⟩
     have HPC := Lib.hid (own_cap' hpo)
     clear hpo
     have hsa : (wt.alloc (.cells #[.string oi.name, .int .i64 oi.cost, .slice S oi.pre.length c, .slice T oi.effs.length d] 63)).heap.size = wt.heap.size + 1 := by simp
     have HPF := Lib.hid (hpf (fun b => b < wt.heap.size + 1) (fun g h1 _ h2 => by omega))
     have HB5 := Lib.hid (show Below wt.heap.size wt w5 from ((Below.refl _ _).alloc (Nat.le_refl _) _).trans (hb5.mono (by omega)))
     have HO5 := Lib.hid ((BxI.new wt 63 #[.string oi.name, .int .i64 oi.cost, .slice S oi.pre.length c, .slice T oi.effs.length d]).up hb5)
     have hz5 : wt.heap.size + 1 ≤ w5.heap.size := by have := hb5.size; omega
     clear hpf hb5 hsa
     go_wp2_with (refine wpList_store1 (by rfl) 23 _ _ (by rfl) wt.heap.size 2 (.slice PA oi.pre.length PC) (by rfl) (by rfl) (by rfl) (there_blk HO5.out (by simp)) (by kernel_rfl) rfl ?_; intro w6 HW6; have HO6 := Lib.hid (HO5.out.set 2 (.slice PA oi.pre.length PC)); rw [← HW6.out] at HO6; have y3 := HO6.out.cell 3 _ rfl)
     obtain ⟨hz6, hz6'⟩ : w6.heap.size ≤ w5.heap.size ∧ w5.heap.size ≤ w6.heap.size := by rw [HW6.out]; simp [World.setCell]
     have HB6 := Lib.hid (show Below wt.heap.size wt w6 by rw [HW6.out]; exact HB5.out.setCell (p := ⟨wt.heap.size, 2, none⟩) (Nat.le_refl _) _)
     clear y3
     go_loopw [6, 33] (fun v6 v33 wq => ∃ (j : Nat) (EA : Option Addr) (EC : Nat) (ys : List Value), v6 = .slice EA j EC ∧ v33 = .int .i64 j ∧ j ≤ oi.effs.length ∧ Hid (wq.ownsRow w6.heap.size 65 3 (.slice EA j EC) j ys) ∧ Hid (EfIs wq (fun b => b < w6.heap.size ∨ (Value.slice EA j EC).ownBlock = some b) ys (oi.effs.take j)) ∧ Hid (Below w6.heap.size w6 wq)) (fun _ v _ => oi.effs.length - (RowKit.intOf v).toNat)
     case atStart => exact ⟨0, none, 0, [], rfl, rfl, Nat.zero_le _, Lib.hid (World.ownsRow_nil _ _ _ _), Lib.hid (EfIs.nil _ _), Lib.hid (Below.refl _ _)⟩
     case round =>
      obtain ⟨j, EA, EC, ys, rfl, rfl, hj, HEO, HEI, HEB⟩ := hrel
      have hzq := HEB.out.size
      have HQW := Lib.hid (show Below w.heap.size w wr from HBEL.out.trans ((HB6.out.trans (HEB.out.mono HB6.out.size)).mono HBEL.out.size))
      by_cases hlt2 : j < oi.effs.length
      ·obtain ⟨b', o', S', c', ea', hb', i0, f5, i1, i2⟩ := HE.out.at2 HQW.out hlt2
       subst ea'
       have HFJ := Lib.hid f5
       have hnwj := hnw.out j hlt2
       obtain ⟨ej, hej⟩ : ∃ ej, ej = eff oi.effs j := ⟨_, rfl⟩
       have HEJ := Lib.hid hej
       rw [← hej] at i0 i1 i2 HFJ hnwj
       have hd2 : decide ((j : Int) < (oi.effs.length : Int)) = true := decide_eq_true (by omega)
       clear f5 hej
       obtain ⟨wq, rfl⟩ : ∃ wq : World, wq = wr := ⟨_, rfl⟩
       go_wp2_with fail
       refine (cloneF2 ej.whn S' c' _ ((HFJ.out.up HQW.out).up (by exact bel)) (by omega)).mono ?_
       rintro e w10 ⟨⟨QA, QC, rfl, hqf, _⟩, hb10⟩
       have hsq : (wq.alloc (.cells #[.slice S' ej.whn.length c', .int .i64 ej.var, .int .i64 ej.val] 65)).heap.size = wq.heap.size + 1 := by simp
       have HQF := Lib.hid (hqf (fun b => b < wq.heap.size + 1) (fun g h1 _ h2 => by omega))
       have HB10 := Lib.hid (show Below wq.heap.size wq w10 from ((Below.refl _ _).alloc (Nat.le_refl _) _).trans (hb10.mono (by omega)))
       have HX10 := Lib.hid ((BxI.new wq 65 #[.slice S' ej.whn.length c', .int .i64 ej.var, .int .i64 ej.val]).up hb10)
       have hz10 : wq.heap.size + 1 ≤ w10.heap.size := by have := hb10.size; omega
       clear hqf hb10 hsq
       go_wp2_with (first
        | (at_builtin; refine wpList_append_src (by rfl) _ _ 61 (by rfl) w6.heap.size 65 ie (.agg #[.slice none 0 0, .int .i64 0, .int .i64 0]) 3 40 qundEf he1 he2 he3 he4 rfl (by decide) (.slice EA j EC) j ys (by rfl) (by exact HEO11.out.alloc _) (some ⟨w11.heap.size, 0, none⟩) 1 1 [.slice QA ej.whn.length QC, .int .i64 ej.var, .int .i64 ej.val] (by rfl) (src_of (heap_alloc_new w11 _) rfl (by intro v hv; simp at hv; rcases hv with rfl | rfl | rfl <;> rfl)) (by unfold maxLen; omega) (by omega) (by first | omega | (simp; done) | (simp; omega)) ?_; intro v12 w12 hown12 hgrow12 hat12; obtain ⟨A12, c12, rfl⟩ := own_shape hown12; have HO12 := Lib.hid hown12; have HG12 := Lib.hid hgrow12; have HA12 := Lib.hid hat12; clear hown12 hgrow12 hat12)
        | (refine wpList_store1 (by rfl) 23 _ _ (by rfl) wq.heap.size 0 (.slice QA ej.whn.length QC) (by rfl) (by rfl) (by rfl) (there_blk HX10.out (by simp)) (by kernel_rfl) rfl ?_; intro w11 HW11; have HX11 := Lib.hid (HX10.out.set 0 (.slice QA ej.whn.length QC)); rw [← HW11.out] at HX11; have y0 := HX11.out.cell 0 _ rfl; have y1 := HX11.out.cell 1 _ rfl; have y2 := HX11.out.cell 2 _ rfl; have HB11 := Lib.hid (show Below wq.heap.size wq w11 by rw [HW11.out]; exact HB10.out.setCell (p := ⟨wq.heap.size, 0, none⟩) (Nat.le_refl _) _); obtain ⟨hz11, hz11'⟩ : w11.heap.size ≤ w10.heap.size ∧ w10.heap.size ≤ w11.heap.size := (by rw [HW11.out]; simp [World.setCell]); have HEO11 := Lib.hid (own_kb1 HEO.out (Kb.of_below (bad := fun _ => False) HB11.out) (fun _ _ h => h))))
       go_roundw
       case rel =>
        have hEl := fun b hb => (HEO.out.lt b hb).2
        have KQ : Kb (fun b => b = wq.heap.size ∨ (Value.slice EA j EC).ownBlock = some b) w10 w12 := by
         have k1 := kb_set (w := w10) (p := ⟨wq.heap.size, 0, none⟩) (.slice QA ej.whn.length QC)
         rw [← HW11.out] at k1
         exact (k1.mono (fun b _ h => .inl h)).trans (((kb_alloc w11 _ _).trans (kb_grown HG12.out)).mono (fun b _ h => .inr h))
        have hs12 : (w11.alloc (.cells #[.slice QA ej.whn.length QC, .int .i64 ej.var, .int .i64 ej.val] 65)).heap.size = w11.heap.size + 1 := by simp
        have hat : ∀ b, (Value.slice A12 (j + 1) c12).ownBlock = some b → (Value.slice EA j EC).ownBlock = some b ∨ w10.heap.size ≤ b := fun b hb => by
         rcases HA12.out with h1 | h1
         ·exact .inl (h1 ▸ hb)
         ·rw [h1] at hb; injection hb with hb; exact .inr (by omega)
        have f1 := HQF.out.move (Moves.of_kb (bad' := fun b => b < w6.heap.size ∨ (Value.slice A12 (j + 1) c12).ownBlock = some b) KQ (fun b _ h => by
         rcases h with h | h
         ·omega
         ·have := hEl b h; omega) (fun b hb h => by
         rcases h with h | h
         ·omega
         ·rcases hat b h with h | h
          ·have := hEl b h; omega
          ·omega))
        have f2 := HEI.out.move ((Moves.of_kb (bad' := fun b => (b < w6.heap.size ∨ (Value.slice EA j EC).ownBlock = some b) ∨ b = wq.heap.size) (Kb.of_below (bad := fun _ => False) HB10.out) (fun _ _ h => h.elim) (fun b hb h => h.resolve_right (by omega))).trans (Moves.of_kb (bad' := fun b => b < w6.heap.size ∨ (Value.slice A12 (j + 1) c12).ownBlock = some b) KQ (fun b hb h => by
         rcases h with h | h
         ·exact .inr h
         ·exact .inl (.inr h)) (fun b hb h => by
         rcases h with h | h
         ·exact .inl (.inl h)
         ·rcases hat b h with h | h
          ·exact .inl (.inr h)
          ·omega)))
        refine ⟨j + 1, A12, c12, _, rfl, rfl, by omega, Lib.hid HO12.out, Lib.hid ?_, Lib.hid (((HEB.out.trans (HB11.out.mono hzq)).alloc (by omega) _).grown HG12.out (by omega) (fun b hb => (HEO.out.lt b hb).1))⟩
        rw [take_eff hlt2, ← HEJ.out]
        exact f2.push (S := QA) (c := QC) (e := ej) f1
       case measure => simp [RowKit.intOf]; omega
      ·obtain rfl : j = oi.effs.length := by omega
       have hei := HEI.out
       rw [List.take_length] at hei
       obtain ⟨A2, c2', e2, _, hef⟩ := (hei.move (Moves.mono (bad' := fun b => b < w6.heap.size) (fun b _ h => .inl h))).efs HEO.out (by omega) (fun g h1 _ h2 => by omega)
       injection e2 with e2 _ e3
       subst e2 e3
       have HEF := Lib.hid hef
       have HOB := Lib.hid (HO6.out.up HEB.out)
       have HBA := Lib.hid (HB6.out.trans (HEB.out.mono HB6.out.size))
       have HOVlt := Lib.hid (fun b hb => HOW.out.lt b hb)
       clear hei hef
       go_wp2_with (first
        | (at_builtin; refine wpList_append_src (by rfl) _ _ 24 (by rfl) W1.heap.size 63 io (.agg #[.string ByteArray.empty, .int .i64 0, .slice none 0 0, .slice none 0 0]) 4 72 qundOp ho1 ho2 ho3 ho4 rfl (by decide) (.slice OA i OC) i xs (by rfl) (by exact HOW13.out.alloc _) (some ⟨w13.heap.size, 0, none⟩) 1 1 [.string oi.name, .int .i64 oi.cost, .slice PA oi.pre.length PC, .slice EA oi.effs.length EC] (by rfl) (src_of (heap_alloc_new w13 _) rfl (four_v rfl rfl rfl rfl)) (by unfold maxLen; omega) (by omega) (by first | omega | (simp; done) | (simp; omega)) ?_; intro v14 w14 hown14 hgrow14 hat14; obtain ⟨A14, c14, rfl⟩ := own_shape hown14; have HO14 := Lib.hid hown14; have HG14 := Lib.hid hgrow14; have HA14 := Lib.hid hat14; have HX14 := Lib.hid ((HX13.out.up (show Below w13.heap.size w13 _ by exact bel)).grown hgrow14 (fun e => by have := (HOVlt.out X e.symm).1; omega)); clear hown14 hgrow14 hat14)
        | (refine wpList_store1 (by rfl) 61 _ _ (by rfl) wt.heap.size 3 (.slice EA oi.effs.length EC) (by rfl) (by rfl) (by rfl) (there_blk HOB.out (by simp)) (by kernel_rfl) rfl ?_; intro w13 HW13; have HO13 := Lib.hid (HOB.out.set 3 (.slice EA oi.effs.length EC)); rw [← HW13.out] at HO13; have y0 := HO13.out.cell 0 _ rfl; have y1 := HO13.out.cell 1 _ rfl; have y2 := HO13.out.cell 2 _ rfl; have y3 := HO13.out.cell 3 _ rfl; have HB13 := Lib.hid (show Below wt.heap.size wt w13 by rw [HW13.out]; exact HBA.out.setCell (p := ⟨wt.heap.size, 3, none⟩) (Nat.le_refl _) _); obtain ⟨hz13, hz13'⟩ : w13.heap.size ≤ wr.heap.size ∧ wr.heap.size ≤ w13.heap.size := (by rw [HW13.out]; simp [World.setCell]); have HOW13 := Lib.hid (own_kb1 HOW.out (Kb.of_below (bad := fun _ => False) HB13.out) (fun _ _ h => h)); have HX13 := Lib.hid (HXR.out.up HB13.out); have x3 := HX13.out.cell 3 _ rfl)
        | (refine wpList_store1 (by rfl) 24 _ _ (by rfl) X 3 (.slice A14 (i + 1) c14) (by rfl) (by rfl) (by rfl) (there_blk HX14.out (by simp)) (by kernel_rfl) rfl ?_; intro w15 HW15; have HX15 := Lib.hid (HX14.out.set 3 (.slice A14 (i + 1) c14)); rw [← HW15.out] at HX15))
       go_roundw
       case rel =>
        have KO : Kb (fun b => (Value.slice OA i OC).ownBlock = some b ∨ b = X) w13 w15 := by
         have k1 := kb_set (w := w14) (p := ⟨X, 3, none⟩) (.slice A14 (i + 1) c14)
         rw [← HW15.out] at k1
         exact (((kb_alloc w13 _ _).trans (kb_grown HG14.out)).mono (fun b _ h => .inl h)).trans (k1.mono (fun b _ h => .inr h))
        have hs14 : (w13.alloc (.cells #[.string oi.name, .int .i64 oi.cost, .slice PA oi.pre.length PC, .slice EA oi.effs.length EC] 63)).heap.size = w13.heap.size + 1 := by simp
        have hat : ∀ b, (Value.slice A14 (i + 1) c14).ownBlock = some b → (Value.slice OA i OC).ownBlock = some b ∨ w13.heap.size ≤ b := fun b hb => by
         rcases HA14.out with h1 | h1
         ·exact .inl (h1 ▸ hb)
         ·rw [h1] at hb; injection hb with hb; exact .inr (by omega)
        have hlt9 := HOVlt.out
        -- from w13 on only the row of operators and the box are written
        have MO : Moves w13 w15 (fun b => b < W1.heap.size ∨ (Value.slice OA i OC).ownBlock = some b) (fun b => b < W1.heap.size ∨ (Value.slice A14 (i + 1) c14).ownBlock = some b) := Moves.of_kb KO (fun b hb h => by
         rcases h with h | h
         ·exact .inr h
         ·exact .inl (by omega)) (fun b hb h => by
         rcases h with h | h
         ·exact .inl h
         ·rcases hat b h with h | h
          ·exact .inr h
          ·omega)
        have KP : Kb (fun b => b = wt.heap.size) w5 w13 := by
         have k1 := kb_set (w := w5) (p := ⟨wt.heap.size, 2, none⟩) (.slice PA oi.pre.length PC)
         rw [← HW6.out] at k1
         have k2 := kb_set (w := wr) (p := ⟨wt.heap.size, 3, none⟩) (.slice EA oi.effs.length EC)
         rw [← HW13.out] at k2
         exact (k1.trans (Kb.of_below HEB.out)).trans k2
        have g1 := (HPF.out.move (Moves.of_kb (bad' := fun b => b < W1.heap.size ∨ (Value.slice OA i OC).ownBlock = some b) KP (fun b _ h => by omega) (fun b hb h => by
         rcases h with h | h
         ·omega
         ·have := (hlt9 b h).2; omega))).move MO
        have g2 := (HEF.out.move (Moves.of_kb (bad' := fun b => b < W1.heap.size ∨ (Value.slice OA i OC).ownBlock = some b) (by
         have k2 := kb_set (w := wr) (p := ⟨wt.heap.size, 3, none⟩) (.slice EA oi.effs.length EC)
         rw [← HW13.out] at k2
         exact k2) (fun b _ h => by have h : b = wt.heap.size := h; omega) (fun b hb h => by
         rcases h with h | h
         ·omega
         ·have := (hlt9 b h).2; omega))).move MO
        have g3 := (HOP.out.move (Moves.up HB13.out)).move MO
        refine ⟨i + 1, A14, c14, _, rfl, by omega, HX15, Lib.hid (own_kb1 HO14.out (by
         have k1 := kb_set (w := w14) (p := ⟨X, 3, none⟩) (.slice A14 (i + 1) c14)
         rw [← HW15.out] at k1
         exact k1) (fun b hb e => by have h1 := (HO14.out.lt b hb).1; have e : b = X := e; omega)), Lib.hid ?_, Lib.hid ((HKB.out.up HB13.out).then_ KO (fun b hb h => by
         rcases h with h | h
         ·have := (hlt9 b h).1; omega
         ·exact h)), Lib.hid (capX_push HCP.out (by have := HOP.out.1; rw [this]) HPC.out)⟩
        rw [take_opr hlt, ← HOI2.out]
        exact g3.push HQ0.out g1 g2
       case measure => simp [RowKit.intOf]; omega
    ·obtain rfl : i = t.ops.length := by omega
     have y0 := HXR.out.cell 0 _ rfl
     have y1 := HXR.out.cell 1 _ rfl
     have y2 := HXR.out.cell 2 _ rfl
     have y3 := HXR.out.cell 3 _ rfl
     have HX1r := Lib.hid ((HX1.out.up HB1.out).kb HKB.out (by omega))
     go_wp2_with (refine wpList_stores (by rfl) 26 _ _ (by rfl) (w.heap.size + 1) 0 [.slice a0 t.vars.length c0, .slice a1 t.init.length c1, .slice a2 t.goal.length c2, .slice OA t.ops.length OC] (by rfl) (by rfl) (there_blk HX1r.out (by simp)) (by kernel_rfl) (four_v rfl rfl rfl rfl) ?_; intro wy HWY)
     have HYX := HX1r.out.setAll (vs := [.slice a0 t.vars.length c0, .slice a1 t.init.length c1, .slice a2 t.goal.length c2, .slice OA t.ops.length OC]) rfl
     have KY := kb_sets (X := w.heap.size + 1) [.slice a0 t.vars.length c0, .slice a1 t.init.length c1, .slice a2 t.goal.length c2, .slice OA t.ops.length OC] 0 wr
     rw [← HWY.out] at HYX KY
     have z0 := HYX.cell 0 _ rfl
     have z1 := HYX.cell 1 _ rfl
     have z2 := HYX.cell 2 _ rfl
     have z3 := HYX.cell 3 _ rfl
     have KX : Kb (fun b => b = X ∨ b = w.heap.size + 1) W1 wy := (HKB.out.mono (fun b _ h => .inl h)).trans (KY.mono (fun b _ h => .inr h))
     have hop := HOP.out
     rw [List.take_length] at hop
     have hop2 := hop.move (Moves.of_kb (bad' := fun b => b < w.heap.size) KY (fun b _ h => by have h : b = w.heap.size + 1 := h; exact .inl (by omega)) (fun b _ h => .inl (by omega)))
     have how2 := own_kb1 HOW.out KY (fun b hb e => by have h1 := (HOW.out.lt b hb).1; have e : b = w.heap.size + 1 := e; omega)
     have hwz := HBEL.out.size
     have HTA := Lib.hid (show ∀ w2, Kb (fun b => b < w.heap.size) wy w2 → TaskAt w2 w2.heap.size t ⟨a0, a1, a2, OA, c0, c1, c2, OC⟩ ∧ CapsAt w2 ⟨a0, a1, a2, OA, c0, c1, c2, OC⟩ t.ops.length from fun w2 k2 => by
      have KX2 : Kb (fun b => b = X ∨ b = w.heap.size + 1 ∨ b < w.heap.size) W1 w2 := (KX.mono (fun b _ h => by
       rcases h with h | h
       ·exact .inl h
       ·exact .inr (.inl h))).trans (k2.mono (fun b _ h => .inr (.inr h)))
      have MX : Moves W1 w2 (fun b => b = X ∨ b < W0.heap.size) (fun _ => False) := Moves.of_kb KX2 (fun b _ h => by
       rcases h with h | h | h
       ·exact .inl h
       ·exact .inr (by omega)
       ·exact .inr (by omega)) (fun _ _ h => h.elim)
      obtain ⟨A8, c8, e8, _, ho8⟩ := (hop2.move (Moves.of_kb (bad' := fun _ => False) k2 (fun b _ h => h) (fun _ _ h => h.elim))).ops (own_kb1 how2 k2 (fun b hb e => by have h1 := (how2.lt b hb).1; have e : b < w.heap.size := e; omega)) (by omega)
      injection e8 with e8 _ e9
      subst e8 e9
      exact ⟨⟨(HI0.out.move MX).at_, (HI1.out.move MX).at_, (HF2.out.move MX).at_, ho8⟩, caps_own (own_kb1 how2 k2 (fun b hb e => by have h1 := (how2.lt b hb).1; have e : b < w.heap.size := e; omega)) HCP.out (by have := HOP.out.1; rw [List.take_length] at this; exact this)⟩)
     have HBY := Lib.hid (show Below w.heap.size w wy from below_then HBEL.out KY (fun b hb h => by have h : b = w.heap.size + 1 := h; omega) HBEL.out.size)
     clear hop hop2 how2 KX KY HYX
     refine bodyPost_ret (v := .agg #[.slice a0 t.vars.length c0, .slice a1 t.init.length c1, .slice a2 t.goal.length c2, .slice OA t.ops.length OC]) (by simp [results, Tryz.results25, go_sem, ↓IntWalk.iteOmega, *]) rfl ⟨⟨⟨a0, a1, a2, OA, c0, c1, c2, OC⟩, rfl, HTA.out⟩, HBY.out⟩
end Go.Proofs.YtlkebhiaimijiaaGreatDoor
