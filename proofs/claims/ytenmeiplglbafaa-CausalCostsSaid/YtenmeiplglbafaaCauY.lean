/- The law CausalCosts. -/
import Derived.Test.YtenmeiplglbafaaCosP
import Derived.Test.YtenmeiplglbafaaBestW
import Derived.Test.YtenmeiplglbafaaResB
import Derived.Test.YtenmeiplglbafaaCauW
namespace Go.Proofs.Ytenmeiplglbafaa
set_option linter.unusedSimpArgs false
set_option linter.unusedVariables false
open Go Go.RowKit
set_option linter.unusedVariables false

set_option maxRecDepth 100000 in
set_option maxHeartbeats 8000000 in
theorem causalCosts_any (t : Tsk) (p : Lies) (w : World) (ht : TaskAt w w.heap.size t p) :
    Calls Try.prog 6 #[TaskV t p] w fun e w' => e = .returned (.bool true) ∧ Below w.heap.size w w' := by
  have k0 := fun w1 => awake39_any w1
  have k1 := fun w1 (hb : Below w.heap.size w w1) => small_any t p w1 (ht.up hb)
  have k2 := fun w1 h (hb : Below w.heap.size w w1) => restrict_any t p w1 (ht.up hb) h
  have k3 := fun w1 h (hb : Below w.heap.size w w1) => bbest_any t p w1 (ht.up hb) h
  obtain ⟨av, ai, ag, ao, cv, ci, cg, co⟩ := p
  unfold TaskV at k1 k2 k3 ⊢
  dsimp only at *
  cases e1 : smB t
  · rw [e1] at k1
    clear k2 k3
    go_enter Try.func6, Try.ntmps6
    go_wp2_with fail; refine (k1 _ (by repeat (first | exact Below.refl _ _ | refine below_dN ?_ _ | refine Below.drew ?_ | refine Below.alloc ?_ (by first | omega | (simp; done) | (simp; omega)) _ | refine Below.setCell ?_ (by first | omega | (simp; done) | (simp; omega)) _ | refine below_step (by assumption) (by first | omega | (simp; done) | (simp; omega)) ?_))).mono ?_; rintro e w1 ⟨rfl, hb1⟩; obtain ⟨hc1, hf1, hz1, hlt1, hle1⟩ := cellsIf hb1 (by (try simp); exact rfl); (try have : w.heap.size < w1.heap.size := (by omega)); (try have : w.heap.size < w1.heap.size + 1 := (by omega)); (try have : w.heap.size < w1.heap.size + 1 + 1 := (by omega)); (try have : w.heap.size + 1 < w1.heap.size := (by omega)); (try have : w.heap.size + 1 < w1.heap.size + 1 := (by omega)); (try have : w.heap.size + 1 < w1.heap.size + 1 + 1 := (by omega)); (try have : w.heap.size + 1 + 1 < w1.heap.size := (by omega)); (try have : w.heap.size + 1 + 1 < w1.heap.size + 1 := (by omega)); (try have : w.heap.size + 1 + 1 < w1.heap.size + 1 + 1 := (by omega))
    go_wp2_with fail; refine (k0 _).mono ?_; rintro e w2 ⟨rfl, hb2⟩; obtain ⟨hc2, hf2, hz2, hlt2, hle2⟩ := cellsIf hb2 (by (try simp); exact rfl); (try have : w.heap.size < w2.heap.size := (by omega)); (try have : w.heap.size < w2.heap.size + 1 := (by omega)); (try have : w.heap.size < w2.heap.size + 1 + 1 := (by omega)); (try have : w.heap.size + 1 < w2.heap.size := (by omega)); (try have : w.heap.size + 1 < w2.heap.size + 1 := (by omega)); (try have : w.heap.size + 1 < w2.heap.size + 1 + 1 := (by omega)); (try have : w.heap.size + 1 + 1 < w2.heap.size := (by omega)); (try have : w.heap.size + 1 + 1 < w2.heap.size + 1 := (by omega)); (try have : w.heap.size + 1 + 1 < w2.heap.size + 1 + 1 := (by omega)); (try have : w1.heap.size < w2.heap.size := (by omega)); (try have : w1.heap.size < w2.heap.size + 1 := (by omega)); (try have : w1.heap.size < w2.heap.size + 1 + 1 := (by omega)); (try have : w1.heap.size + 1 < w2.heap.size := (by omega)); (try have : w1.heap.size + 1 < w2.heap.size + 1 := (by omega)); (try have : w1.heap.size + 1 < w2.heap.size + 1 + 1 := (by omega)); (try have : w1.heap.size + 1 + 1 < w2.heap.size := (by omega)); (try have : w1.heap.size + 1 + 1 < w2.heap.size + 1 := (by omega)); (try have : w1.heap.size + 1 + 1 < w2.heap.size + 1 + 1 := (by omega))
    go_wp2
    go_ret
    exact ⟨rfl, by repeat (first | exact Below.refl _ _ | refine below_dN ?_ _ | refine Below.drew ?_ | refine Below.alloc ?_ (by first | omega | (simp; done) | (simp; omega)) _ | refine Below.setCell ?_ (by first | omega | (simp; done) | (simp; omega)) _ | refine below_step (by assumption) (by first | omega | (simp; done) | (simp; omega)) ?_)⟩
  have hs := small_of e1
  rw [e1] at k1
  have k4 := fun w1 => k2 w1 hs.chk
  have k5 := fun w1 => k3 w1 hs
  have hsR := smll_res hs
  have hgR := (goT_chk _).2 hsR.chk
  have hrl := rel_len hs.right
  have Heq := Lib.hid (fun d d' => best_same hs.right (d := d) (d' := d'))
  unfold ResRet at k4
  obtain ⟨R, hR⟩ : ∃ R, resT t = R := ⟨_, rfl⟩
  rw [hR] at k4 hsR hgR hrl Heq
  have k6 := fun (q : Lies) w1 (h : TaskAt w1 w1.heap.size R q) => good_any R q w1 h
  have k7 := fun (q : Lies) w1 (h : TaskAt w1 w1.heap.size R q) => bbest_any R q w1 h hsR
  rw [hgR] at k6
  unfold TaskV at k6 k7
  (try dsimp only at k6 k7)
  rw [hrl.2] at k6 k7
  have K2 := Lib.hid k4
  have K3 := Lib.hid k5
  have K6 := Lib.hid k6
  have K7 := Lib.hid k7
  have v1 : ¬ (t.vars.length : Int) < (R.vars.length : Int) := by omega
  have v2 : decide ((t.vars.length : Int) < (R.vars.length : Int)) = false := by simp; omega
  have v3 := hrl.2
  have Hv3 := Lib.hid v3
  clear k2 k3 k4 k5 k6 k7 hR hs e1 hsR hgR hrl v3
  go_enter Try.func6, Try.ntmps6
  go_wp2_with fail; refine (k1 _ (by repeat (first | exact Below.refl _ _ | refine below_dN ?_ _ | refine Below.drew ?_ | refine Below.alloc ?_ (by first | omega | (simp; done) | (simp; omega)) _ | refine Below.setCell ?_ (by first | omega | (simp; done) | (simp; omega)) _ | refine below_step (by assumption) (by first | omega | (simp; done) | (simp; omega)) ?_))).mono ?_; rintro e w1 ⟨rfl, hb1⟩; obtain ⟨hc1, hf1, hz1, hlt1, hle1⟩ := cellsIf hb1 (by (try simp); exact rfl); (try have : w.heap.size < w1.heap.size := (by omega)); (try have : w.heap.size < w1.heap.size + 1 := (by omega)); (try have : w.heap.size < w1.heap.size + 1 + 1 := (by omega)); (try have : w.heap.size + 1 < w1.heap.size := (by omega)); (try have : w.heap.size + 1 < w1.heap.size + 1 := (by omega)); (try have : w.heap.size + 1 < w1.heap.size + 1 + 1 := (by omega)); (try have : w.heap.size + 1 + 1 < w1.heap.size := (by omega)); (try have : w.heap.size + 1 + 1 < w1.heap.size + 1 := (by omega)); (try have : w.heap.size + 1 + 1 < w1.heap.size + 1 + 1 := (by omega))
  have hbx1 : Boxed w1 w.heap.size t ⟨av, ai, ag, ao, cv, ci, cg, co⟩ := Boxed.up (by constructor <;> simp) hb1
  have hbw1 : Below w.heap.size w w1 := by repeat (first | exact Below.refl _ _ | refine below_dN ?_ _ | refine Below.drew ?_ | refine Below.alloc ?_ (by first | omega | (simp; done) | (simp; omega)) _ | refine Below.setCell ?_ (by first | omega | (simp; done) | (simp; omega)) _ | refine below_step (by assumption) (by first | omega | (simp; done) | (simp; omega)) ?_)
  go_wp2_with fail; refine (k0 _).mono ?_; rintro e w2 ⟨rfl, hb2⟩; obtain ⟨hc2, hf2, hz2, hlt2, hle2⟩ := cellsIf hb2 (by (try simp); exact rfl); (try have : w.heap.size < w2.heap.size := (by omega)); (try have : w.heap.size < w2.heap.size + 1 := (by omega)); (try have : w.heap.size < w2.heap.size + 1 + 1 := (by omega)); (try have : w.heap.size + 1 < w2.heap.size := (by omega)); (try have : w.heap.size + 1 < w2.heap.size + 1 := (by omega)); (try have : w.heap.size + 1 < w2.heap.size + 1 + 1 := (by omega)); (try have : w.heap.size + 1 + 1 < w2.heap.size := (by omega)); (try have : w.heap.size + 1 + 1 < w2.heap.size + 1 := (by omega)); (try have : w.heap.size + 1 + 1 < w2.heap.size + 1 + 1 := (by omega)); (try have : w1.heap.size < w2.heap.size := (by omega)); (try have : w1.heap.size < w2.heap.size + 1 := (by omega)); (try have : w1.heap.size < w2.heap.size + 1 + 1 := (by omega)); (try have : w1.heap.size + 1 < w2.heap.size := (by omega)); (try have : w1.heap.size + 1 < w2.heap.size + 1 := (by omega)); (try have : w1.heap.size + 1 < w2.heap.size + 1 + 1 := (by omega)); (try have : w1.heap.size + 1 + 1 < w2.heap.size := (by omega)); (try have : w1.heap.size + 1 + 1 < w2.heap.size + 1 := (by omega)); (try have : w1.heap.size + 1 + 1 < w2.heap.size + 1 + 1 := (by omega))
  have hbx2 := hbx1.up hb2
  have hbw2 := hbw1.trans (hb2.mono hbw1.size)
  have z2 := hbw2.size
  clear hc1 hc2 hf1 hf2 hlt1 hlt2 hle1 hle2 hz1 hz2 hb1 hb2 hbx1 hbw1
  obtain ⟨z0, y0, y1, y2, y3⟩ := id hbx2
  dsimp only at y0 y1 y2 y3
  go_wp2_with fail
  refine (K2.out _ hbw2).mono ?_
  rintro e w3 ⟨⟨⟨q0, q1, q2, q3, d0, d1, d2, d3⟩, A, c, he, ht3, hi3, _, _⟩, hb3⟩
  (try rw [if_pos rfl] at he)
  subst he
  unfold TaskV
  dsimp only
  rw [Hv3.out]
  have hbx3 := hbx2.up hb3
  have hbw3 := hbw2.trans (hb3.mono z2)
  have z3 := hbw3.size
  have HT3 := Lib.hid ht3
  clear z0 y0 y1 y2 y3 hbx2 hb3 ht3 hi3
  obtain ⟨z0, y0, y1, y2, y3⟩ := id hbx3
  dsimp only at y0 y1 y2 y3
  go_wp2_with fail
  refine (K6.out ⟨q0, q1, q2, q3, d0, d1, d2, d3⟩ _ (HT3.out.up (by repeat (first | exact Below.refl _ _ | refine below_dN ?_ _ | refine Below.drew ?_ | refine Below.alloc ?_ (by first | omega | (simp; done) | (simp; omega)) _ | refine Below.setCell ?_ (by first | omega | (simp; done) | (simp; omega)) _ | refine below_step (by assumption) (by first | omega | (simp; done) | (simp; omega)) ?_)))).mono ?_
  rintro e w5 ⟨rfl, hb5⟩
  have s5 := hb5.size
  simp only [World.size_alloc] at s5
  have hb35 : Below w3.heap.size w3 w5 := by repeat (first | exact Below.refl _ _ | refine below_dN ?_ _ | refine Below.drew ?_ | refine Below.alloc ?_ (by first | omega | (simp; done) | (simp; omega)) _ | refine Below.setCell ?_ (by first | omega | (simp; done) | (simp; omega)) _ | refine below_step (by assumption) (by first | omega | (simp; done) | (simp; omega)) ?_)
  have g0 : w5.cell? ⟨w3.heap.size, 0, none⟩ = some (.slice q0 R.vars.length d0) := (hb5.cell (p := ⟨w3.heap.size, 0, none⟩) (by simp)).trans (by simp)
  have g1 : w5.cell? ⟨w3.heap.size, 1, none⟩ = some (.slice q1 R.init.length d1) := (hb5.cell (p := ⟨w3.heap.size, 1, none⟩) (by simp)).trans (by simp)
  have g2 : w5.cell? ⟨w3.heap.size, 2, none⟩ = some (.slice q2 R.goal.length d2) := (hb5.cell (p := ⟨w3.heap.size, 2, none⟩) (by simp)).trans (by simp)
  have g3 : w5.cell? ⟨w3.heap.size, 3, none⟩ = some (.slice q3 t.ops.length d3) := (hb5.cell (p := ⟨w3.heap.size, 3, none⟩) (by simp)).trans (by simp)
  have lt35 : w3.heap.size < w5.heap.size := s5
  have hbx5 := hbx3.up hb35
  have hbw5 := hbw3.trans (hb35.mono z3)
  have z5 := hbw5.size
  have hT5 := HT3.out.up hb35
  have HT5 := Lib.hid hT5
  clear z0 y0 y1 y2 y3 hbx3 hb5 hT5
  obtain ⟨z0, y0, y1, y2, y3⟩ := id hbx5
  dsimp only at y0 y1 y2 y3
  go_wp2_with fail
  refine wp_region_G 3 (fun w' => ∀ b o, w'.cell? ⟨b, o, none⟩ = if b < w5.heap.size then w5.cell? ⟨b, o, none⟩ else hidC w' b o) (by kernel_rfl) (cif (B := w5.heap.size) (W := w5) (Below.refl _ _).drew) ?_
  intro hG0
  refine wpAnyG_take (i := 0) (v := ?_) rfl hG0 (by kernel_rfl) (by kernel_rfl) (by kernel_rfl) rfl (by kernel_rfl) (fun _ _ _ h => h) (Or.inl ⟨by rfl, ?_⟩) ?_; rotate_left; (intro wS hSw; (try dsimp only at hSw); first | (go_simp; done) | (go_simp; with_reducible rfl) | (simp [go_sem, ↓IntWalk.iteOmega, *]; done) | (simp [go_sem, ↓IntWalk.iteOmega, *]; with_reducible rfl)); (intro hG1); clear hG0; (try simp only [Act.put, List.setIfInBounds_toArray, List.set_cons_zero, List.set_cons_succ])
  refine wpAnyG_take (i := 2) (v := ?_) rfl hG1 (by kernel_rfl) (by kernel_rfl) (by kernel_rfl) rfl (by kernel_rfl) (fun _ _ _ h => h) (Or.inl ⟨by rfl, ?_⟩) ?_; rotate_left; (intro wS hSw; (try dsimp only at hSw); first | (go_simp; done) | (go_simp; with_reducible rfl) | (simp [go_sem, ↓IntWalk.iteOmega, *]; done) | (simp [go_sem, ↓IntWalk.iteOmega, *]; with_reducible rfl)); (intro hG2); clear hG1; (try simp only [Act.put, List.setIfInBounds_toArray, List.set_cons_zero, List.set_cons_succ])
  refine wpAnyG_ready (rs := [1]) (by kernel_rfl) (by simp) (AllG.cons rfl hG2 (fun K hK => ?_) AllG.nil)
  (go_simp; go_at_call 29; refine (K7.out ⟨q0, q1, q2, q3, d0, d1, d2, d3⟩ _ (HT5.out.up (by repeat (first | exact Below.refl _ _ | refine below_dN ?_ _ | refine Below.drew ?_ | refine Below.alloc ?_ (by first | omega | (simp; done) | (simp; omega)) _ | refine Below.setCell ?_ (by first | omega | (simp; done) | (simp; omega)) _ | refine below_step (by assumption) (by first | omega | (simp; done) | (simp; omega)) ?_)))).mono ?_; rintro e w7 ⟨⟨x7, rfl, hx7⟩, hb7⟩; have hb57 : Below w5.heap.size w5 w7 := (Below.refl _ _).drew.trans hb7; have z7 := hb57.size; have Hx7 := Lib.hid hx7; clear hx7 hb7)
  refine hK.out _ _ (Or.inr (cif hb57)) (fun hG3 => ?_); clear hK hG2; (try simp only [Act.put, List.setIfInBounds_toArray, List.set_cons_zero, List.set_cons_succ])
  refine wpAnyG_ready (rs := [3]) (by kernel_rfl) (by simp) (AllG.cons rfl hG3 (fun K hK => ?_) AllG.nil)
  (go_simp; go_at_call 29; refine (K3.out _ (hbw5.trans (hb57.mono z5))).mono ?_; rintro e w8 ⟨⟨x8, rfl, hx8⟩, hb8⟩; obtain rfl := Heq.out _ _ hx8 Hx7.out; have hb58 : Below w5.heap.size w5 w8 := hb57.trans (hb8.mono z7))
  refine hK.out _ _ (Or.inl rfl) (fun hG4 => ?_); clear hK hG3; (try simp only [Act.put, List.setIfInBounds_toArray, List.set_cons_zero, List.set_cons_succ])
  refine wpAnyG_any (i := 4) (v := ?_) rfl hG4 (by kernel_rfl) (by kernel_rfl) (by kernel_rfl) rfl (fun _ _ _ h => h) (Or.inl ⟨by rfl, ?_⟩) ?_; rotate_left; (intro wS hSw; (try dsimp only at hSw); first | (go_simp; done) | (go_simp; with_reducible rfl) | (simp [go_sem, ↓IntWalk.iteOmega, *]; done) | (simp [go_sem, ↓IntWalk.iteOmega, *]; with_reducible rfl)); (intro hG5); clear hG4; (try simp only [Act.put, List.setIfInBounds_toArray, List.set_cons_zero, List.set_cons_succ])
  refine wpAnyG_any (i := 5) (v := ?_) rfl hG5 (by kernel_rfl) (by kernel_rfl) (by kernel_rfl) rfl (fun _ _ _ h => h) (Or.inl ⟨by rfl, ?_⟩) ?_; rotate_left; (intro wS hSw; (try dsimp only at hSw); first | (go_simp; done) | (go_simp; with_reducible rfl) | (simp [go_sem, ↓IntWalk.iteOmega, *]; done) | (simp [go_sem, ↓IntWalk.iteOmega, *]; with_reducible rfl)); (intro hG6); clear hG5; (try simp only [Act.put, List.setIfInBounds_toArray, List.set_cons_zero, List.set_cons_succ])
  refine wpAnyG_done (by kernel_rfl) ?_ _; clear hG6
  simp only [List.getElem_toArray, List.getElem_cons_succ, List.getElem_cons_zero, Act.put, List.setIfInBounds_toArray, List.set_cons_zero, List.set_cons_succ]
  go_wp2
  refine bodyPost_ret (v := .bool true) (by simp [results, Try.results6, go_sem]) rfl ⟨rfl, hbw5.trans (hb58.mono z5)⟩

end Go.Proofs.Ytenmeiplglbafaa
