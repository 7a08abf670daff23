/- The law WholeMutexes. -/
import Derived.Test.YtlkebhiaimijiaaGreatDoorBel
import Derived.Test.YtlkebhiaimijiaaGreatDoorNgE
import Derived.Test.YtlkebhiaimijiaaGreatDoorNhJ
namespace Go.Proofs.YtlkebhiaimijiaaGreatDoor
set_option linter.unusedSimpArgs false
set_option linter.unusedVariables false
open Go Go.RowKit Go.Maps
set_option linter.unusedVariables false

theorem two_v {a b : Value} (h1 : a.oneCell' = true) (h2 : b.oneCell' = true) : ∀ v ∈ [a, b], v.oneCell' = true := by
 intro v hv
 simp only [List.mem_cons, List.not_mem_nil, or_false] at hv
 rcases hv with rfl | rfl <;> assumption
theorem nogs_len2 {rs ns : List Ngd} {Ms : List (List Fct)} (h : nogs rs = nogs ns ++ Ms.map fun p => ⟨p, 0⟩) : rs.length = ns.length + Ms.length := by
 have := congrArg List.length h
 rw [List.length_append, List.length_map, nogs_len, nogs_len] at this
 exact this
theorem ms_len {ms : List Ngd} {Ms : List (List Fct)} (h : nogs ms = Ms.map fun p => ⟨p, 0⟩) : ms.length = Ms.length := by
 have := congrArg List.length h
 rw [List.length_map, nogs_len] at this
 exact this

set_option maxRecDepth 100000 in
set_option maxHeartbeats 32000000 in
theorem wholeMutexes_any (t : Tsk) (p : Lies) (x : Int) (w : World) (ht : TaskAt w w.heap.size t p) (hx0 : -9223372036854775808 ≤ x) (hx1 : x ≤ 9223372036854775807) (hE : EnvT w) :
  Calls Tryz.prog 3 #[TaskV t p, .int .i64 x] w fun e w' => e = .returned (.bool true) ∧ Below w.heap.size w w' := by
 obtain ⟨W0, hW0⟩ : ∃ W0, W0 = w.alloc (.cells #[.slice p.av t.vars.length p.cv, .slice p.ai t.init.length p.ci, .slice p.ag t.goal.length p.cg, .slice p.ao t.ops.length p.co] 26) := ⟨_, rfl⟩
 have HB0 := Lib.hid (show Below w.heap.size w W0 by rw [hW0]; exact (Below.refl _ _).alloc (Nat.le_refl _) _)
 have HX0 := Lib.hid (show BxI W0 w.heap.size 26 #[.slice p.av t.vars.length p.cv, .slice p.ai t.init.length p.ci, .slice p.ag t.goal.length p.cg, .slice p.ao t.ops.length p.co] by rw [hW0]; exact BxI.new _ _ _)
 have KT := Lib.hid (tame_any t p W0 (ht.up HB0.out))
 have HT := Lib.hid ht
 have HE := Lib.hid hE
 have x0 := HX0.out.cell 0 (.slice p.av t.vars.length p.cv) rfl
 have x1 := HX0.out.cell 1 (.slice p.ai t.init.length p.ci) rfl
 have x2 := HX0.out.cell 2 (.slice p.ag t.goal.length p.cg) rfl
 have x3 := HX0.out.cell 3 (.slice p.ao t.ops.length p.co) rfl
 clear ht hE
 unfold TaskV
 go_enter Tryz.func3, Tryz.ntmps3
 go_wp2_with fail
 rw [← hW0]
 have HW0 := Lib.hid hW0
 clear hW0
 refine KT.out.mono ?_
 rintro e w1 ⟨⟨tm, rfl, htm⟩, hb1⟩
 have HBw1 := Lib.hid (show Below w.heap.size w w1 from HB0.out.trans (hb1.mono HB0.out.size))
 have HX1 := Lib.hid (HX0.out.up hb1)
 clear x0 x1 x2 x3 hb1
 have x0 := HX1.out.cell 0 (.slice p.av t.vars.length p.cv) rfl
 have x1 := HX1.out.cell 1 (.slice p.ai t.init.length p.ci) rfl
 have x2 := HX1.out.cell 2 (.slice p.ag t.goal.length p.cg) rfl
 have x3 := HX1.out.cell 3 (.slice p.ao t.ops.length p.co) rfl
 have KA1 := Lib.hid (mutexAwake_any w1 (HE.out.up HBw1.out))
 cases tm
 ·go_wp2_with fail
  refine KA1.out.mono ?_
  rintro e w2 ⟨rfl, hb2⟩
  go_wp2
  go_ret
  exact ⟨rfl, HBw1.out.trans (hb2.mono HBw1.out.size)⟩
 ·have htm' := htm rfl
  obtain ⟨hsm, hdm⟩ := htm'
  have HSM := Lib.hid hsm
  have HDM := Lib.hid hdm
  clear htm hsm hdm
  by_cases h6 : (5 : Int) < t.ops.length
  ·have e6 : decide ((5 : Int) < t.ops.length) = true := decide_eq_true h6
   go_wp2_with fail
   refine KA1.out.mono ?_
   rintro e w2 ⟨rfl, hb2⟩
   go_wp2
   go_ret
   exact ⟨rfl, HBw1.out.trans (hb2.mono HBw1.out.size)⟩
  ·have e6 : decide ((5 : Int) < t.ops.length) = false := decide_eq_false h6
   by_cases h4 : (4 : Int) < t.vars.length
   ·have e4 : decide ((4 : Int) < t.vars.length) = true := decide_eq_true h4
    go_wp2_with fail
    refine KA1.out.mono ?_
    rintro e w2 ⟨rfl, hb2⟩
    go_wp2
    go_ret
    exact ⟨rfl, HBw1.out.trans (hb2.mono HBw1.out.size)⟩
   ·have e4 : decide ((4 : Int) < t.vars.length) = false := decide_eq_false h4
    have KM := Lib.hid (manyA_any t.vars p.av p.cv w1 (HT.out.up HBw1.out).vars HDM.out)
    obtain ⟨m, hm⟩ : ∃ m, m = mnyQ 36 t.vars := ⟨_, rfl⟩
    rw [← hm] at KM
    have HMQ := Lib.hid hm
    clear hm
    go_wp2_with fail
    refine KM.out.mono ?_
    rintro e w2 ⟨rfl, hb2⟩
    have HBw2 := Lib.hid (show Below w.heap.size w w2 from HBw1.out.trans (hb2.mono HBw1.out.size))
    have HX2 := Lib.hid (HX1.out.up hb2)
    clear x0 x1 x2 x3 hb2
    have x0 := HX2.out.cell 0 (.slice p.av t.vars.length p.cv) rfl
    have x1 := HX2.out.cell 1 (.slice p.ai t.init.length p.ci) rfl
    have x2 := HX2.out.cell 2 (.slice p.ag t.goal.length p.cg) rfl
    have x3 := HX2.out.cell 3 (.slice p.ao t.ops.length p.co) rfl
    have KA2 := Lib.hid (mutexAwake_any w2 (HE.out.up HBw2.out))
    by_cases h36 : (36 : Int) < m
    ·have e36 : decide ((36 : Int) < m) = true := decide_eq_true h36
     go_wp2_with fail
     refine KA2.out.mono ?_
     rintro e w3 ⟨rfl, hb3⟩
     go_wp2
     go_ret
     exact ⟨rfl, HBw2.out.trans (hb3.mono HBw2.out.size)⟩
    ·have e36 : decide ((36 : Int) < m) = false := decide_eq_false h36
     go_wp2_with fail
     refine KA2.out.mono ?_
     rintro e w3 ⟨rfl, hb3⟩
     have HBw3 := Lib.hid (show Below w.heap.size w w3 from HBw2.out.trans (hb3.mono HBw2.out.size))
     have HX3 := Lib.hid (HX2.out.up hb3)
     clear x0 x1 x2 x3 hb3 KA1 KA2 KM KT
     have HV4 := Lib.hid (show t.vars.length ≤ 4 by omega)
     have HO5 := Lib.hid (show t.ops.length ≤ 5 by omega)
     have HNP := Lib.hid (show npV t.vars ≤ 182 from np_36 (fun k hk => (HDM.out k hk).1) (by
      have h2 := HMQ.out
      unfold mnyQ at h2
      split at h2 <;> omega) HV4.out)
     have hnp : npV t.vars ≤ 182 := HNP.out
     have HFS := Lib.hid (tame_frS HV4.out (fun k hk => (HDM.out k hk).2))
     have hX3 := HX3.out.lt
     have KC := Lib.hid (clip_any x w3 hx0 hx1)
     go_wp2_with fail
     refine KC.out.mono ?_
     rintro e w4 ⟨⟨b, rfl, hb0, hb1⟩, e4'⟩
     subst e4'
     have x0 := HX3.out.cell 0 (.slice p.av t.vars.length p.cv) rfl
     have x1 := HX3.out.cell 1 (.slice p.ai t.init.length p.ci) rfl
     have x2 := HX3.out.cell 2 (.slice p.ag t.goal.length p.cg) rfl
     have x3 := HX3.out.cell 3 (.slice p.ao t.ops.length p.co) rfl
     have KN := Lib.hid (new_any t p w4 (HT.out.up HBw3.out) HSM.out.chk (by omega) (by have := HFS.out; omega))
     go_wp2_with fail
     refine KN.out.mono ?_
     rintro e w5 ⟨⟨B, X, p', FA, FC, RA, RC, g, rb, M, rfl, htb, _, hml, _⟩, hb5⟩
     have HTB := Lib.hid htb
     have HML := Lib.hid hml
     have HBw5 := Lib.hid (show Below w.heap.size w w5 from HBw3.out.trans (hb5.mono HBw3.out.size))
     have HX5 := Lib.hid (HX3.out.up hb5)
     clear x0 x1 x2 x3 hb5 htb hml KN KC
     have x0 := HX5.out.cell 0 (.slice p.av t.vars.length p.cv) rfl
     have x1 := HX5.out.cell 1 (.slice p.ai t.init.length p.ci) rfl
     have x2 := HX5.out.cell 2 (.slice p.ag t.goal.length p.cg) rfl
     have x3 := HX5.out.cell 3 (.slice p.ao t.ops.length p.co) rfl
     have hX5 := HX5.out.lt
     have KP := Lib.hid (prune_any t p w5 (HT.out.up HBw5.out) HSM.out.chk (by omega) (by have := HFS.out; omega))
     go_wp2_with fail
     refine KP.out.mono ?_
     rintro e w6 ⟨⟨q, M2, KA, kn, kc, rfl, hu, hml2⟩, hb6⟩
     have HH := Lib.hid (prn_hold HML.out hml2)
     obtain ⟨H, hH⟩ : ∃ H, H = hldB (rF t.vars M2) := ⟨_, rfl⟩
     rw [← hH] at hu HH ⊢
     have HU := Lib.hid hu
     have HBw6 := Lib.hid (show Below w.heap.size w w6 from HBw5.out.trans (hb6.mono HBw5.out.size))
     have HX6 := Lib.hid (HX5.out.up hb6)
     have HTB6 := Lib.hid (HTB.out.up hb6)
     clear x0 x1 x2 x3 hb6 hu hml2 KP hH HTB
     have x0 := HX6.out.cell 0 (.slice p.av t.vars.length p.cv) rfl
     have x1 := HX6.out.cell 1 (.slice p.ai t.init.length p.ci) rfl
     have x2 := HX6.out.cell 2 (.slice p.ag t.goal.length p.cg) rfl
     have x3 := HX6.out.cell 3 (.slice p.ao t.ops.length p.co) rfl
     have hX6 := HX6.out.lt
     obtain ⟨u, hue⟩ : ∃ u, u = prnT t H := ⟨_, rfl⟩
     rw [← hue] at HU ⊢
     have HUE := Lib.hid hue
     have HUS := Lib.hid (show Smll u by rw [hue]; exact prn_smll HSM.out)
     have HUN := Lib.hid (show npV u.vars ≤ 182 by rw [hue]; exact HNP.out)
     have HUO := Lib.hid (show u.ops.length ≤ 5 by rw [hue]; have := prn_no t H; have := HO5.out; omega)
     clear hue
     obtain ⟨W7, hW7⟩ : ∃ W7, W7 = w6.alloc (.cells #[.slice q.av u.vars.length q.cv, .slice q.ai u.init.length q.ci, .slice q.ag u.goal.length q.cg, .slice q.ao u.ops.length q.co] 26) := ⟨_, rfl⟩
     have HB7 := Lib.hid (show Below w6.heap.size w6 W7 by rw [hW7]; exact (Below.refl _ _).alloc (Nat.le_refl _) _)
     have HY7 := Lib.hid (show BxI W7 w6.heap.size 26 #[.slice q.av u.vars.length q.cv, .slice q.ai u.init.length q.ci, .slice q.ag u.goal.length q.cg, .slice q.ao u.ops.length q.co] by rw [hW7]; exact BxI.new _ _ _)
     have HX7 := Lib.hid (HX6.out.up HB7.out)
     have HU7 := Lib.hid (HU.out.up HB7.out)
     have HBw7 := Lib.hid (HBw6.out.trans (HB7.out.mono HBw6.out.size))
     have HTB7 := Lib.hid (HTB6.out.up HB7.out)
     have KB1 := Lib.hid (fun W (k : Below W7.heap.size W7 W) => bbest_any u q W (HU7.out.up k) HUS.out)
     have KB2 := Lib.hid (fun W (k : Below W7.heap.size W7 W) => bbest_any t p W (HT.out.up (HBw7.out.trans (k.mono HBw7.out.size))) HSM.out)
     obtain ⟨U, hU⟩ : ∃ U, U = w6.heap.size := ⟨_, rfl⟩
     rw [← hU] at HY7
     unfold TaskV at KB1 KB2 ⊢
     go_wp2_with fail
     rw [← hW7]
     rw [← hU]
     have HUU := Lib.hid (And.intro hU hW7)
     have hUl : U < W7.heap.size := HY7.out.lt
     clear hW7 hU x0 x1 x2 x3 hX6
     have x0 := HX7.out.cell 0 (.slice p.av t.vars.length p.cv) rfl
     have x1 := HX7.out.cell 1 (.slice p.ai t.init.length p.ci) rfl
     have x2 := HX7.out.cell 2 (.slice p.ag t.goal.length p.cg) rfl
     have x3 := HX7.out.cell 3 (.slice p.ao t.ops.length p.co) rfl
     have hX7 := HX7.out.lt
     have y0 := HY7.out.cell 0 (.slice q.av u.vars.length q.cv) rfl
     have y1 := HY7.out.cell 1 (.slice q.ai u.init.length q.ci) rfl
     have y2 := HY7.out.cell 2 (.slice q.ag u.goal.length q.cg) rfl
     have y3 := HY7.out.cell 3 (.slice q.ao u.ops.length q.co) rfl
     refine wp_region_G 6 (fun w' => ∀ b o, w'.cell? ⟨b, o, none⟩ = if b < W7.heap.size then W7.cell? ⟨b, o, none⟩ else hidC w' b o) (by kernel_rfl) (cif (B := W7.heap.size) (W := W7) (Below.refl _ _).drew) ?_
     intro hG0
     refine wpS1 0 hG0 ?_; intro hG1; clear hG0
     refine wpS1 1 hG1 ?_; intro hG2; clear hG1
     refine wpS3 2 (.bool false) hG2 ?_; intro hG3; clear hG2
     refine wpS2 3 hG3 ?_; intro hG4; clear hG3
     refine wpS2 5 hG4 ?_; intro hG5; clear hG4
     refine wpAnyG_ready (rs := [4]) (by kernel_rfl) (by simp) (AllG.cons rfl hG5 (fun K hK => ?_) AllG.nil)
     refine (if_pos (by rfl)).mpr ?_
     (go_simp; go_at_call 11; refine (KB1.out _ (by exact bel)).mono ?_; rintro e w8 ⟨⟨d1, rfl, hd1⟩, hb8⟩; have HB8 := Lib.hid (show Below W7.heap.size W7 w8 from below_step hb8 (show W7.heap.size ≤ _ by simp) (show Below W7.heap.size W7 _ by exact bel)); clear hb8)
     refine hK.out _ _ (Or.inr (cif HB8.out)) (fun hG6 => wpN ?_); clear hK hG5
     refine wpAnyG_ready (rs := [6]) (by kernel_rfl) (by simp) (AllG.cons rfl hG6 (fun K hK => ?_) AllG.nil)
     refine (if_pos (by rfl)).mpr ?_
     (go_simp; go_at_call 11; refine (KB2.out _ HB8.out).mono ?_; rintro e w9 ⟨⟨d2, rfl, hd2⟩, hb9⟩; have HB9 := Lib.hid (HB8.out.trans (hb9.mono HB8.out.size)); clear hb9; have e12 : d1 = d2 := prn_best HSM.out.right HML.out.ok HH.out hd2 (by rw [← HUE.out]; exact hd1); subst e12)
     refine hK.out _ _ (Or.inl rfl) (fun hG7 => wpN ?_); clear hK hG6
     refine wpS1 7 hG7 ?_; intro hG8; clear hG7
     refine wpS1 8 hG8 ?_; intro hG9; clear hG8
     refine wpAnyG_done (by kernel_rfl) ?_ _; clear hG9
     clear x0 x1 x2 x3 y0 y1 y2 y3 hd1 hd2 KB1 KB2
     have HX9 := Lib.hid (HX7.out.up HB9.out)
     have HY9 := Lib.hid (HY7.out.up HB9.out)
     have HBw9 := Lib.hid (HBw7.out.trans (HB9.out.mono HBw7.out.size))
     have HU9 := Lib.hid (HU7.out.up HB9.out)
     have HTB9 := Lib.hid (HTB7.out.up HB9.out)
     have x0 := HX9.out.cell 0 (.slice p.av t.vars.length p.cv) rfl
     have x1 := HX9.out.cell 1 (.slice p.ai t.init.length p.ci) rfl
     have x2 := HX9.out.cell 2 (.slice p.ag t.goal.length p.cg) rfl
     have x3 := HX9.out.cell 3 (.slice p.ao t.ops.length p.co) rfl
     have hX9 := HX9.out.lt
     have KL1 := lower_any t p b 4096 w9 (HT.out.up HBw9.out) HSM.out.chk hb0 (by omega) (by decide) (by decide) (by
      have h2 : t.ops.length * npV t.vars ≤ 5 * 182 := Nat.mul_le_mul HO5.out HNP.out
      have h3 : (npV t.vars + 1) * (t.ops.length * npV t.vars) ≤ 183 * (5 * 182) := Nat.mul_le_mul (by omega) h2
      omega)
     unfold TaskV at KL1
     have KL1 := Lib.hid KL1
     go_wp2_with fail
     refine KL1.out.mono ?_
     rintro e w10 ⟨hlr1, hb10⟩
     obtain ⟨B1, NA1, n1, nc1, v1, rfl, hl1⟩ := lw_few hlr1 (by omega)
     have HL1 := Lib.hid hl1
     have HX10 := Lib.hid (HX9.out.up hb10)
     have HY10 := Lib.hid (HY9.out.up hb10)
     have HBw10 := Lib.hid (HBw9.out.trans (hb10.mono HBw9.out.size))
     have HU10 := Lib.hid (HU9.out.up hb10)
     have HTB10 := Lib.hid (HTB9.out.up hb10)
     clear x0 x1 x2 x3 hlr1 hl1 hb10 KL1
     obtain ⟨W11, hW11⟩ : ∃ W11, W11 = w10.alloc (.cells #[.int .i64 B1, .slice NA1 n1 nc1] 41) := ⟨_, rfl⟩
     have HB11 := Lib.hid (show Below w10.heap.size w10 W11 by rw [hW11]; exact (Below.refl _ _).alloc (Nat.le_refl _) _)
     have HC11 := Lib.hid (show BxI W11 w10.heap.size 41 #[.int .i64 B1, .slice NA1 n1 nc1] by rw [hW11]; exact BxI.new _ _ _)
     have HU11 := Lib.hid (HU10.out.up HB11.out)
     have KL2 := lower_any u q b 4096 W11 HU11.out HUS.out.chk hb0 (by omega) (by decide) (by decide) (by
      have h2 : u.ops.length * npV u.vars ≤ 5 * 182 := Nat.mul_le_mul HUO.out HUN.out
      have h3 : (npV u.vars + 1) * (u.ops.length * npV u.vars) ≤ 183 * (5 * 182) := Nat.mul_le_mul (by have := HUN.out; omega) h2
      omega)
     unfold TaskV at KL2
     have KL2 := Lib.hid KL2
     have y0 := HY10.out.cell 0 (.slice q.av u.vars.length q.cv) rfl
     have y1 := HY10.out.cell 1 (.slice q.ai u.init.length q.ci) rfl
     have y2 := HY10.out.cell 2 (.slice q.ag u.goal.length q.cg) rfl
     have y3 := HY10.out.cell 3 (.slice q.ao u.ops.length q.co) rfl
     have hY10 := HY10.out.lt
     obtain ⟨C1, hC1⟩ : ∃ C1, C1 = w10.heap.size := ⟨_, rfl⟩
     rw [← hC1] at HC11
     go_wp2_with fail
     rw [← hW11, ← hC1]
     have HW11 := Lib.hid (And.intro hW11 hC1)
     clear hW11 hC1 y0 y1 y2 y3 hY10
     refine KL2.out.mono ?_
     rintro e w12 ⟨hlr2, hb12⟩
     obtain ⟨B2, NA2, n2, nc2, v2, rfl, hl2⟩ := lw_few hlr2 (by have := HUN.out; omega)
     have HL2 := Lib.hid hl2
     have hb1012 := HB11.out.trans (hb12.mono HB11.out.size)
     have HX12 := Lib.hid (HX10.out.up hb1012)
     have HBw12 := Lib.hid (HBw10.out.trans (hb1012.mono HBw10.out.size))
     have HTB12 := Lib.hid (HTB10.out.up hb1012)
     have HC12 := Lib.hid (HC11.out.up hb12)
     have HB1012 := Lib.hid hb1012
     clear hlr2 hl2 hb12 KL2 hb1012
     have n0 : ∀ w, Calls Tryz.prog 13 #[.nilIface] w fun e w' => e = .returned (.int .i64 0) ∧ w = w' := fun w => num_any 0 w
     have n13 : ∀ w, Calls Tryz.prog 13 #[.iface 49 (.int .i64 13)] w fun e w' => e = .returned (.int .i64 13) ∧ w = w' := fun w => num_any 13 w
     have HPS := Lib.hid (plan_same (b := b) HSM.out.right HML.out.ok HH.out)
     rcases HL1.out.two with ⟨ns1, e1, e2, e3, hnl1, hlc1⟩ | ⟨e3, hpl1⟩
     ·rcases HL2.out.two with ⟨ns2, e4', e5, e6', hnl2, hlc2⟩ | ⟨e6', hpl2⟩
      ·obtain rfl := e1.symm
       obtain rfl := e2.symm
       obtain rfl := e3.symm
       obtain rfl := e4'.symm
       obtain rfl := e5.symm
       obtain rfl := e6'.symm
       clear n13
       have HLC1 := Lib.hid hlc1
       have HLC2 := Lib.hid hlc2
       have HN1 := Lib.hid (hnl1.up HB1012.out)
       have HN2 := Lib.hid hnl2
       clear hnl1 hlc1 hnl2 hlc2 HL1 HL2
       obtain ⟨W13, hW13⟩ : ∃ W13, W13 = w12.alloc (.cells #[.int .i64 b, .slice NA2 ns2.length nc2] 41) := ⟨_, rfl⟩
       have HB13 := Lib.hid (show Below w12.heap.size w12 W13 by rw [hW13]; exact (Below.refl _ _).alloc (Nat.le_refl _) _)
       by_cases hbz : b = 0
       ·have ebz : (b == 0) = true := by simp [hbz]
        go_wp2_with (go_at_call 13; refine (n0 _).mono ?_; rintro e w' ⟨rfl, rfl⟩)
        go_ret
        exact ⟨rfl, HBw12.out.alloc HBw12.out.size _⟩
       ·have ebz : (b == 0) = false := by simp [hbz]
        have HBZ := Lib.hid hbz
        clear hbz
        go_wp2_with (go_at_call 13; refine (n0 _).mono ?_; rintro e w' ⟨rfl, rfl⟩)
        rw [← hW13]
        obtain ⟨C2, hC2⟩ : ∃ C2, C2 = w12.heap.size := ⟨_, rfl⟩
        have HD13 := Lib.hid (show BxI W13 C2 41 #[.int .i64 b, .slice NA2 ns2.length nc2] by rw [hW13, hC2]; exact BxI.new _ _ _)
        rw [← hC2]
        have HW13 := Lib.hid (And.intro hW13 hC2)
        have HC13 := Lib.hid (HC12.out.up HB13.out)
        have HX13 := Lib.hid (HX12.out.up HB13.out)
        have HBw13 := Lib.hid (HBw12.out.trans (HB13.out.mono HBw12.out.size))
        have HTB13 := Lib.hid (HTB12.out.up HB13.out)
        have HN1 := Lib.hid (HN1.out.up HB13.out)
        have HN2 := Lib.hid (HN2.out.up HB13.out)
        clear hW13 hC2 n0
        have hopf := open_few (R := rF t.vars M) (fun k hk => by have := HSM.out.right.dom k hk; omega) HFS.out
        have KNo := fun W (k : Below W13.heap.size W13 W) => nogoods_any HSM.out.right.dom HSM.out.right.nv (by omega) W (HTB13.out.up k)
        obtain ⟨Ms, hMs⟩ : ∃ Ms, Ms = opL (rF t.vars M) (faL t.vars t.vars.length) := ⟨_, rfl⟩
        have HMO := Lib.hid (show ∀ p, p ∈ Ms ↔ OpenS t.vars (rF t.vars M) p from fun p => by rw [hMs]; exact mem_opL)
        rw [← hMs] at KNo hopf
        have hml : Ms.length ≤ 272 := hopf.2
        have KNo := Lib.hid KNo
        have hl1 : ns1.length ≤ 182 := Nat.le_trans (low_few HLC1.out) HNP.out
        have hl2 : ns2.length ≤ 182 := Nat.le_trans (low_few HLC2.out) HUN.out
        have HBB := Lib.hid (And.intro hb0 (show b ≤ 1099511627776 by omega))
        have HJ := Lib.hid (fun (v : Tsk) (hv : Right v) (hvv : v.vars = t.vars) (ns : List Ngd) (hlc : LowC v b ns) (hl : ns.length ≤ 182) (W : World) (NA NA' : Option Addr) (nc nc' : Nat) (ms : List Ngd) (h1 : Nls W (fun _ => False) NA ns) (h2 : Nls W (fun _ => False) NA' ms) (hms : nogs ms = Ms.map fun p => ⟨p, 0⟩) =>
         join_any b ns ms NA NA' nc nc' W h1 h2 hlc.chk (chk_ms HSM.out.right HBZ.out HBB.out.1 HBB.out.2 (by have := ms_len hms; omega) HMO.out hms) (by have := ms_len hms; omega)
          (fun n hn => by have h3 := fa_len ((hlc.rch n hn).fa hv); have := hv.nv; omega)
          (fun n hn => by
           have h3 : (⟨n.l, n.d⟩ : Nog) ∈ nogs ms := nogs_mem.2 ⟨n, hn, rfl⟩
           rw [hms] at h3
           obtain ⟨p, hp, e⟩ := List.mem_map.1 h3
           injection e with e _
           have h4 := fa_len (open_fa ((HMO.out p).1 hp))
           have := HSM.out.right.nv
           rw [← e]; omega))
        clear hMs hopf
        have c0 := HC13.out.cell 0 (.int .i64 b) rfl
        have c1 := HC13.out.cell 1 (.slice NA1 ns1.length nc1) rfl
        have hC13 := HC13.out.lt
        have HJ1 := Lib.hid (HJ.out t HSM.out.right rfl ns1 HLC1.out hl1)
        have HJ2 := Lib.hid (HJ.out u HUS.out.right (by rw [HUE.out]; rfl) ns2 HLC2.out hl2)
        go_upto_region 16 with fail
        go_cut [6, 12] (fun v6 v12 wx => ∃ (Y : Nat) (NA : Option Addr) (nc : Nat) (rs : List Ngd), v6 = .nilIface ∧ v12 = .pointer (some ⟨Y, 0, none⟩) ∧ Hid (BxI wx Y 41 #[.int .i64 b, .slice NA rs.length nc]) ∧ Hid (Nls wx (fun _ => False) NA rs) ∧ Hid (nogs rs = nogs ns1 ++ Ms.map fun p => ⟨p, 0⟩) ∧ W13.heap.size ≤ Y ∧ Hid (Below W13.heap.size W13 wx))
        case first =>
         refine wp_region_G 5 (fun w' => ∀ b o, w'.cell? ⟨b, o, none⟩ = if b < W13.heap.size then W13.cell? ⟨b, o, none⟩ else hidC w' b o) (by kernel_rfl) (cif (B := W13.heap.size) (W := W13) (Below.refl _ _).drew) ?_
         intro hG0
         refine wpS2 0 hG0 ?_; intro hG1; clear hG0
         refine wpS1 1 hG1 ?_; intro hG2; clear hG1
         refine wpS1 2 hG2 ?_; intro hG3; clear hG2
         refine wpAnyG_ready (rs := [3, 9]) (by kernel_rfl) (by simp) (AllG.cons rfl hG3 (fun K hK => ?_) (AllG.cons rfl hG3 (fun K hK => ?_) AllG.nil))
         (go_simp; go_at_call 15; refine (KNo.out _ (by exact bel)).mono ?_; rintro e w14 ⟨⟨NA3, nc3, ms, rfl, hnl3, hms⟩, hb14⟩; have HB14 := Lib.hid (show Below W13.heap.size W13 w14 from below_step hb14 (show W13.heap.size ≤ _ by simp) (show Below W13.heap.size W13 _ by exact bel)); have HN3 := Lib.hid hnl3; have HMS := Lib.hid hms; (try have HX := Lib.hid (HX.out.up hb14)); clear hnl3 hms hb14)
         refine hK.out _ _ (Or.inr (cif HB14.out)) (fun hG4 => wpN ?_); clear hK hG3
         refine wpS1 4 hG4 ?_; intro hG5; clear hG4
         refine wpAnyG_ready (rs := [5, 9]) (by kernel_rfl) (by simp) (AllG.cons rfl hG5 (fun K hK => ?_) (AllG.cons rfl hG5 (fun K hK => ?_) AllG.nil))
         (go_simp; go_at_call 14; refine (HJ1.out _ NA1 NA3 nc1 nc3 ms (HN1.out.up (HB14.out.trans (Below.mono (by exact bel) HB14.out.size))) (HN3.out.up (show Below w14.heap.size w14 _ by exact bel)) HMS.out).mono ?_; rintro e w15 ⟨⟨NA4, nc4, rs, rfl, hnl4, hrs⟩, hb15⟩; have HC15 := Lib.hid (show Below w14.heap.size w14 w15 from below_step hb15 (show w14.heap.size ≤ _ by simp) (show Below w14.heap.size w14 _ by exact bel)); have HB15 := Lib.hid (HB14.out.trans (HC15.out.mono HB14.out.size)); have HN4 := Lib.hid hnl4; have HRS := Lib.hid hrs; (try have HX := Lib.hid (HX.out.up hb15)); clear hnl4 hrs hb15)
         refine hK.out _ _ (Or.inl rfl) (fun hG6 => wpN ?_); clear hK hG5
         refine wpS1 6 hG6 ?_; intro hG7; clear hG6
         refine wpS1 7 hG7 ?_; intro hG8; clear hG7
         refine wpS1 8 hG8 ?_; intro hG9; clear hG8
         refine wpAnyG_ready (rs := [9]) (by kernel_rfl) (by simp) (AllG.cons rfl hG9 (fun K hK => ?_) AllG.nil)
         (go_simp; have HN4 := Lib.hid (HN4.out.up (show Below w15.heap.size w15 (w15.alloc (.cells #[.int .i64 0, .slice none 0 0] 41)) by exact bel)); have HX := Lib.hid (BxI.new w15 41 #[.int .i64 0, .slice none 0 0]); have hXge : W13.heap.size ≤ w15.heap.size := HB15.out.size)
         refine hK.out _ _ (Or.inl rfl) (fun hG10 => wpN ?_); clear hK hG9
         refine wpAnyG_ready (rs := [10]) (by kernel_rfl) (by simp) (AllG.cons rfl hG10 (fun K hK => ?_) AllG.nil)
         (refine step_stores (by rfl) 41 _ _ (by rfl) _ 0 [.int .i64 b, .slice NA4 rs.length nc4] (by rfl) (by rfl) (there_blk HX.out (by simp)) (by kernel_rfl) (two_v rfl rfl) ?_; intro wy HWY)
         refine hK.out _ _ (Or.inl rfl) (fun hG11 => wpN ?_); clear hK hG10
         refine wpS1 11 hG11 ?_; intro hG12; clear hG11
         refine wpAnyG_done (by kernel_rfl) ?_ _; clear hG12
         rotate_left
         (go_simp; have HX := Lib.hid (BxI.new w14 41 #[.int .i64 0, .slice none 0 0]); have hXge : W13.heap.size ≤ w14.heap.size := HB14.out.size)
         refine hK.out _ _ (Or.inr (cif (HB14.out.trans (Below.mono (by exact bel) HB14.out.size)))) (fun hG6 => wpN ?_); clear hK hG5
         refine wpAnyG_ready (rs := [5]) (by kernel_rfl) (by simp) (AllG.cons rfl hG6 (fun K hK => ?_) AllG.nil)
         (go_simp; go_at_call 14; refine (HJ1.out _ NA1 NA3 nc1 nc3 ms (HN1.out.up (HB14.out.trans (Below.mono (by exact bel) HB14.out.size))) (HN3.out.up (show Below w14.heap.size w14 _ by exact bel)) HMS.out).mono ?_; rintro e w15 ⟨⟨NA4, nc4, rs, rfl, hnl4, hrs⟩, hb15⟩; have HC15 := Lib.hid (show Below w14.heap.size w14 w15 from below_step hb15 (show w14.heap.size ≤ _ by simp) (show Below w14.heap.size w14 _ by exact bel)); have HB15 := Lib.hid (HB14.out.trans (HC15.out.mono HB14.out.size)); have HN4 := Lib.hid hnl4; have HRS := Lib.hid hrs; (try have HX := Lib.hid (HX.out.up hb15)); clear hnl4 hrs hb15)
         refine hK.out _ _ (Or.inl rfl) (fun hG7 => wpN ?_); clear hK hG6
         refine wpS1 6 hG7 ?_; intro hG8; clear hG7
         refine wpS1 7 hG8 ?_; intro hG9; clear hG8
         refine wpS1 8 hG9 ?_; intro hG10; clear hG9
         refine wpAnyG_ready (rs := [10]) (by kernel_rfl) (by simp) (AllG.cons rfl hG10 (fun K hK => ?_) AllG.nil)
         (refine step_stores (by rfl) 41 _ _ (by rfl) _ 0 [.int .i64 b, .slice NA4 rs.length nc4] (by rfl) (by rfl) (there_blk HX.out (by simp)) (by kernel_rfl) (two_v rfl rfl) ?_; intro wy HWY)
         refine hK.out _ _ (Or.inl rfl) (fun hG11 => wpN ?_); clear hK hG10
         refine wpS1 11 hG11 ?_; intro hG12; clear hG11
         refine wpAnyG_done (by kernel_rfl) ?_ _; clear hG12
         rotate_left
         (go_simp; have HX := Lib.hid (show BxI (W13.drew.alloc _) W13.heap.size 41 #[.int .i64 0, .slice none 0 0] from BxI.new W13.drew _ _); have hXge : W13.heap.size ≤ W13.heap.size := Nat.le_refl _)
         refine hK.out _ _ (Or.inr (cif (by exact bel))) (fun hG4 => wpN ?_); clear hK hG3
         refine wpAnyG_ready (rs := [3]) (by kernel_rfl) (by simp) (AllG.cons rfl hG4 (fun K hK => ?_) AllG.nil)
         (go_simp; go_at_call 15; refine (KNo.out _ (by exact bel)).mono ?_; rintro e w14 ⟨⟨NA3, nc3, ms, rfl, hnl3, hms⟩, hb14⟩; have HB14 := Lib.hid (show Below W13.heap.size W13 w14 from below_step hb14 (show W13.heap.size ≤ _ by simp) (show Below W13.heap.size W13 _ by exact bel)); have HN3 := Lib.hid hnl3; have HMS := Lib.hid hms; (try have HX := Lib.hid (HX.out.up hb14)); clear hnl3 hms hb14)
         refine hK.out _ _ (Or.inr (cif HB14.out)) (fun hG5 => wpN ?_); clear hK hG4
         refine wpS1 4 hG5 ?_; intro hG6; clear hG5
         refine wpAnyG_ready (rs := [5]) (by kernel_rfl) (by simp) (AllG.cons rfl hG6 (fun K hK => ?_) AllG.nil)
         (go_simp; go_at_call 14; refine (HJ1.out _ NA1 NA3 nc1 nc3 ms (HN1.out.up (HB14.out.trans (Below.mono (by exact bel) HB14.out.size))) (HN3.out.up (show Below w14.heap.size w14 _ by exact bel)) HMS.out).mono ?_; rintro e w15 ⟨⟨NA4, nc4, rs, rfl, hnl4, hrs⟩, hb15⟩; have HC15 := Lib.hid (show Below w14.heap.size w14 w15 from below_step hb15 (show w14.heap.size ≤ _ by simp) (show Below w14.heap.size w14 _ by exact bel)); have HB15 := Lib.hid (HB14.out.trans (HC15.out.mono HB14.out.size)); have HN4 := Lib.hid hnl4; have HRS := Lib.hid hrs; (try have HX := Lib.hid (HX.out.up hb15)); clear hnl4 hrs hb15)
         refine hK.out _ _ (Or.inl rfl) (fun hG7 => wpN ?_); clear hK hG6
         refine wpS1 6 hG7 ?_; intro hG8; clear hG7
         refine wpS1 7 hG8 ?_; intro hG9; clear hG8
         refine wpS1 8 hG9 ?_; intro hG10; clear hG9
         refine wpAnyG_ready (rs := [10]) (by kernel_rfl) (by simp) (AllG.cons rfl hG10 (fun K hK => ?_) AllG.nil)
         (refine step_stores (by rfl) 41 _ _ (by rfl) _ 0 [.int .i64 b, .slice NA4 rs.length nc4] (by rfl) (by rfl) (there_blk HX.out (by simp)) (by kernel_rfl) (two_v rfl rfl) ?_; intro wy HWY)
         refine hK.out _ _ (Or.inl rfl) (fun hG11 => wpN ?_); clear hK hG10
         refine wpS1 11 hG11 ?_; intro hG12; clear hG11
         refine wpAnyG_done (by kernel_rfl) ?_ _; clear hG12
         rotate_left
         all_goals
          have HXY := HX.out.setAll (vs := [.int .i64 b, .slice NA4 rs.length nc4]) rfl
          rw [← HWY.out] at HXY
          have HBY : Below W13.heap.size W13 wy := by rw [HWY.out]; exact below_sets _ _ _ (HB15.out.trans (Below.mono (by exact bel) HB15.out.size)) hXge
          have HNY : Nls wy (fun _ => False) NA4 rs := by
           rw [HWY.out]
           exact ((nls_box HX.out HN4.out).kb (kb_sets _ _ _)).sub (fun _ _ h => h.elim)
          have HNYH := Lib.hid HNY
          have HXYH := Lib.hid HXY
          have HBYH := Lib.hid HBY
          have HRS2 := Lib.hid (show nogs rs = nogs ns1 ++ Ms.map fun p => ⟨p, 0⟩ by rw [HRS.out, HMS.out])
          clear HNY HXY HBY
          go_wp2
          go_meet
          exact ⟨_, NA4, nc4, rs, rfl, rfl, HXYH, HNYH, HRS2, hXge, HBYH⟩
        case rest =>
         obtain ⟨Y, NA, nc, rs, rfl, rfl, HYB, HNL, HRS, hYge, HB16⟩ := hcut
         obtain ⟨W16, rfl⟩ : ∃ W16, W16 = wc := ⟨_, rfl⟩
         have HX16 := Lib.hid (HX13.out.up HB16.out)
         have HD16 := Lib.hid (HD13.out.up HB16.out)
         have HBw16 := Lib.hid (HBw13.out.trans (HB16.out.mono HBw13.out.size))
         have HTB16 := Lib.hid (HTB13.out.up HB16.out)
         have HN216 := Lib.hid (HN2.out.up HB16.out)
         have KV := verify_any t p b NA rs nc 1048576 W16 (HT.out.up HBw16.out) HSM.out.chk HNL.out (by decide) (by decide)
         have hrl := nogs_len2 HRS.out
         have HFU := Lib.hid (show Full t b rs 1048576 from full_join (ns := ns1) (Ms := Ms) HNP.out HO5.out (by omega) (by rw [HRS.out]; exact syn_add HSM.out.right HML.out.ok HMO.out HLC1.out.syn))
         have HCK := Lib.hid (chk_join HSM.out.right HSM.out.right rfl HBZ.out HBB.out.1 HBB.out.2 (by omega) HLC1.out HMO.out HRS.out)
         unfold TaskV at KV
         have KV := Lib.hid KV
         have x0 := HX16.out.cell 0 (.slice p.av t.vars.length p.cv) rfl
         have x1 := HX16.out.cell 1 (.slice p.ai t.init.length p.ci) rfl
         have x2 := HX16.out.cell 2 (.slice p.ag t.goal.length p.cg) rfl
         have x3 := HX16.out.cell 3 (.slice p.ao t.ops.length p.co) rfl
         have z0 := HYB.out.cell 0 (.int .i64 b) rfl
         have z1 := HYB.out.cell 1 (.slice NA rs.length nc) rfl
         have hX16 := HX16.out.lt
         have hY16 := HYB.out.lt
         clear hrl c0 c1 hC13
         go_wp2_with fail
         refine KV.out.mono ?_
         rintro e w17 ⟨⟨ec, rfl, hve⟩, hb17⟩
         have hec : ec = 0 := hve.2 HFU.out HCK.out
         subst hec
         rw [erV_0]
         have HB17 := Lib.hid (HB16.out.trans (hb17.mono HB16.out.size))
         have HX17 := Lib.hid (HX16.out.up hb17)
         have HD17 := Lib.hid (HD16.out.up hb17)
         have HBw17 := Lib.hid (HBw16.out.trans (hb17.mono HBw16.out.size))
         have HN217 := Lib.hid (HN216.out.up hb17)
         have HY17 := Lib.hid (HYB.out.up hb17)
         clear hve hb17 KV x0 x1 x2 x3 z0 z1 hX16 hY16
         have d0 := HD17.out.cell 0 (.int .i64 b) rfl
         have d1 := HD17.out.cell 1 (.slice NA2 ns2.length nc2) rfl
         have hD17 := HD17.out.lt
         have KNo := Lib.hid (fun W (k : Below w17.heap.size w17 W) => KNo.out W (HB17.out.trans (k.mono HB17.out.size)))
         go_wp2_with fail
         refine wp_region_G 5 (fun w' => ∀ b o, w'.cell? ⟨b, o, none⟩ = if b < w17.heap.size then w17.cell? ⟨b, o, none⟩ else hidC w' b o) (by kernel_rfl) (cif (B := w17.heap.size) (W := w17) (Below.refl _ _).drew) ?_
         intro hG0
         refine wpS2 0 hG0 ?_; intro hG1; clear hG0
         refine wpS1 1 hG1 ?_; intro hG2; clear hG1
         refine wpS1 2 hG2 ?_; intro hG3; clear hG2
         refine wpAnyG_ready (rs := [3]) (by kernel_rfl) (by simp) (AllG.cons rfl hG3 (fun K hK => ?_) AllG.nil)
         (go_simp; go_at_call 15; refine (KNo.out _ (by exact bel)).mono ?_; rintro e w18 ⟨⟨NA5, nc5, ms2, rfl, hnl5, hms2⟩, hb18⟩; have HB18 := Lib.hid (show Below w17.heap.size w17 w18 from below_step hb18 (show w17.heap.size ≤ _ by simp) (show Below w17.heap.size w17 _ by exact bel)); have HN5 := Lib.hid hnl5; have HMS2 := Lib.hid hms2; clear hnl5 hms2 hb18)
         refine hK.out _ _ (Or.inr (cif HB18.out)) (fun hG4 => wpN ?_); clear hK hG3
         refine wpS1 4 hG4 ?_; intro hG5; clear hG4
         refine wpAnyG_ready (rs := [5]) (by kernel_rfl) (by simp) (AllG.cons rfl hG5 (fun K hK => ?_) AllG.nil)
         (go_simp; go_at_call 14; refine (HJ2.out _ NA2 NA5 nc2 nc5 ms2 (HN217.out.up HB18.out) HN5.out HMS2.out).mono ?_; rintro e w19 ⟨⟨NA6, nc6, rs2, rfl, hnl6, hrs2⟩, hb19⟩; have HB19 := Lib.hid (HB18.out.trans (hb19.mono HB18.out.size)); have HN6 := Lib.hid hnl6; have HRS2 := Lib.hid hrs2; have HY19 := Lib.hid (HY17.out.up HB19.out); clear hnl6 hrs2 hb19)
         refine hK.out _ _ (Or.inl rfl) (fun hG6 => wpN ?_); clear hK hG5
         refine wpS1 6 hG6 ?_; intro hG7; clear hG6
         refine wpS1 7 hG7 ?_; intro hG8; clear hG7
         refine wpS1 8 hG8 ?_; intro hG9; clear hG8
         refine wpAnyG_ready (rs := [9]) (by kernel_rfl) (by simp) (AllG.cons rfl hG9 (fun K hK => ?_) AllG.nil)
         (refine step_stores (by rfl) 41 _ _ (by rfl) Y 0 [.int .i64 b, .slice NA6 rs2.length nc6] (by rfl) (by rfl) (there_blk HY19.out (by simp)) (by kernel_rfl) (two_v rfl rfl) ?_; intro wy HWY)
         refine hK.out _ _ (Or.inl rfl) (fun hG10 => wpN ?_); clear hK hG9
         refine wpS1 10 hG10 ?_; intro hG11; clear hG10
         refine wpAnyG_done (by kernel_rfl) ?_ _; clear hG11
         have HYY := Lib.hid (show BxI wy Y 41 #[.int .i64 b, .slice NA6 rs2.length nc6] by rw [HWY.out]; exact HY19.out.setAll rfl)
         have hYw : w.heap.size < Y := by have := HX13.out.lt; omega
         have HBwy := Lib.hid (show Below w.heap.size w wy by rw [HWY.out]; exact below_sets _ _ _ (HBw17.out.trans (HB19.out.mono HBw17.out.size)) (by omega))
         have HNY := Lib.hid (show Nls wy (fun _ => False) NA6 rs2 by
          rw [HWY.out]
          exact ((nls_box HY19.out HN6.out).kb (kb_sets _ _ _)).sub (fun _ _ h => h.elim))
         have HXY := Lib.hid (show BxI wy w.heap.size 26 #[.slice p.av t.vars.length p.cv, .slice p.ai t.init.length p.ci, .slice p.ag t.goal.length p.cg, .slice p.ao t.ops.length p.co] by rw [HWY.out]; exact (HX17.out.up HB19.out).kb (kb_sets _ _ _) (by show ¬ w.heap.size = Y; omega))
         have HRS3 := Lib.hid (show nogs rs2 = nogs ns2 ++ Ms.map fun p => ⟨p, 0⟩ by rw [HRS2.out, HMS2.out])
         have hrl := nogs_len2 HRS3.out
         have HFU2 := Lib.hid (show Full t b rs2 1048576 from full_join (ns := ns2) (Ms := Ms) HNP.out HO5.out (by omega) (by
          rw [HRS3.out]
          refine syn_prn HSM.out.right HML.out.ok HMO.out HH.out (fun n hn => ?_) (by rw [← HUE.out]; exact HLC2.out.syn)
          obtain ⟨m, hm, rfl⟩ := nogs_mem.1 hn
          exact ((HLC2.out.rch m hm).rng HUS.out.right HBZ.out).1))
         have HCK2 := Lib.hid (chk_join HSM.out.right HUS.out.right (by rw [HUE.out]; rfl) HBZ.out HBB.out.1 HBB.out.2 (by omega) HLC2.out HMO.out HRS3.out)
         have KV := verify_any t p b NA6 rs2 nc6 1048576 wy (HT.out.up HBwy.out) HSM.out.chk HNY.out (by decide) (by decide)
         unfold TaskV at KV
         have KV := Lib.hid KV
         have x0 := HXY.out.cell 0 (.slice p.av t.vars.length p.cv) rfl
         have x1 := HXY.out.cell 1 (.slice p.ai t.init.length p.ci) rfl
         have x2 := HXY.out.cell 2 (.slice p.ag t.goal.length p.cg) rfl
         have x3 := HXY.out.cell 3 (.slice p.ao t.ops.length p.co) rfl
         have z0 := HYY.out.cell 0 (.int .i64 b) rfl
         have z1 := HYY.out.cell 1 (.slice NA6 rs2.length nc6) rfl
         have hXy := HXY.out.lt
         have hYy := HYY.out.lt
         clear hrl d0 d1 hD17 HWY
         go_wp2_with fail
         refine KV.out.mono ?_
         rintro e w20 ⟨⟨ec, rfl, hve⟩, hb20⟩
         have hec : ec = 0 := hve.2 HFU2.out HCK2.out
         subst hec
         rw [erV_0]
         have HB20 := Lib.hid (HBwy.out.trans (hb20.mono HBwy.out.size))
         clear hve hb20 KV x0 x1 x2 x3 z0 z1 hXy hYy
         go_wp2
         go_ret
         exact ⟨rfl, HB20.out⟩
      ·exfalso
       exact low_no HSM.out.right hlc1 (HPS.out.2 (by rw [← HUE.out]; exact hpl2))
     ·rcases HL2.out.two with ⟨ns2, e4', e5, e6', hnl2, hlc2⟩ | ⟨e6', hpl2⟩
      ·exfalso
       exact low_no HUS.out.right hlc2 (by rw [HUE.out]; exact HPS.out.1 hpl1)
      ·obtain rfl := e3.symm
       obtain rfl := e6'.symm
       clear n0
       go_wp2_with (go_at_call 13; refine (n13 _).mono ?_; rintro e w' ⟨rfl, rfl⟩)
       go_ret
       exact ⟨rfl, HBw12.out.alloc HBw12.out.size _⟩
end Go.Proofs.YtlkebhiaimijiaaGreatDoor
