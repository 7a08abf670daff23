/- base.Best. -/
import Derived.Test.YtlkebhiaimijiaaGreatDoorNgE
import Derived.Test.YtlkebhiaimijiaaGreatDoorDisW
import Derived.Test.YtlkebhiaimijiaaGreatDoorNgD
namespace Go.Proofs.YtlkebhiaimijiaaGreatDoor
set_option linter.unusedSimpArgs false
set_option linter.unusedVariables false
open Go Go.RowKit
set_option linter.unusedVariables false

set_option maxRecDepth 100000 in
set_option maxHeartbeats 8000000 in
theorem bbest_any (t : Tsk) (p : Lies) (w : World) (ht : TaskAt w w.heap.size t p) (hs : Smll t) :
    Calls Tryz.prog 11 #[TaskV t p] w fun e w' => (∃ d, e = .returned (.int .i64 d) ∧ IsBest t t.init d) ∧ Below w.heap.size w w' := by
  have k1 := fun w1 (hb : Below w.heap.size w w1) => bdist_any t p w1 (ht.up hb) hs
  have hst := hs.right.init
  have k2 := fun w1 (hb : Below w.heap.size w w1) => brank_any t.vars t.init p.av p.ai p.cv p.ci w1 (ht.vars.up hb) (ht.init.up hb) (by unfold stB at hst; simpa using hst) hs.right.dom (by have := hs.many; omega)
  have hn := num_eq hs.right hst
  have hrk : rk t.vars t.init t.init.length = (num t t.init : Int) := by rw [stB_len hst]; exact hn.1
  rw [hrk] at k2
  have K1 := Lib.hid k1
  have hnl := hn.2
  have hN2 : (sts t.vars).length ≤ 512 := by have := hs.many; have := sts_len hs.right; omega
  have Hst := Lib.hid hst
  clear hs k1 hn hst hrk
  obtain ⟨av, ai, ag, ao, cv, ci, cg, co⟩ := p
  unfold TaskV at *
  dsimp only at *
  have K2 := Lib.hid k2
  clear k2
  unfold DisRet at K1
  obtain ⟨q, hq⟩ : ∃ q, q = num t t.init := ⟨_, rfl⟩
  rw [← hq] at K2 hnl
  have Hq := Lib.hid hq
  clear hq
  generalize (sts t.vars).length = N at *
  have q0 : (0 : Int) ≤ (q : Int) := by omega
  have q1 : (q : Int) < (N : Int) := by omega
  go_enter Tryz.func11, Tryz.ntmps11
  go_wp2_with fail
  refine wp_region_G 6 (fun w' => w'.cell? ⟨w.heap.size, 0, none⟩ = some (.slice av t.vars.length cv) ∧ w'.cell? ⟨w.heap.size, 1, none⟩ = some (.slice ai t.init.length ci) ∧ w'.cell? ⟨w.heap.size, 2, none⟩ = some (.slice ag t.goal.length cg) ∧ w'.cell? ⟨w.heap.size, 3, none⟩ = some (.slice ao t.ops.length co)) (by kernel_rfl) (by refine ⟨?_, ?_, ?_, ?_⟩ <;> go_simp) ?_
  intro hG0
  refine wpS2 0 hG0 ?_; intro hG1; clear hG0
  refine wpS1 2 hG1 ?_; intro hG2; clear hG1
  refine wpS2 3 hG2 ?_; intro hG3; clear hG2
  refine wpS1 4 hG3 ?_; intro hG4; clear hG3
  refine wpS2 5 hG4 ?_; intro hG5; clear hG4
  refine wpAnyG_ready (rs := [1]) (by kernel_rfl) (by simp) (AllG.cons rfl hG5 (fun K hK => ?_) AllG.nil)
  (go_simp; go_at_call 30; refine (K1.out _ (by repeat (first | exact Below.refl _ _ | refine below_dN ?_ _ | refine Below.drew ?_ | refine Below.alloc ?_ (by first | omega | (simp; done) | (simp; omega)) _ | refine Below.setCell ?_ (by first | omega | (simp; done) | (simp; omega)) _ | refine below_step (by assumption) (by first | omega | (simp; done) | (simp; omega)) ?_))).mono ?_; rintro e w4 ⟨⟨g, D, rfl, hrow, hbest⟩, hb4⟩; have hbA : Below (w.heap.size + 1) (w.alloc (.cells #[.slice av t.vars.length cv, .slice ai t.init.length ci, .slice ag t.goal.length cg, .slice ao t.ops.length co] 26)) w4 := (Below.refl _ _).drew.trans (hb4.mono (by show _ ≤ (w.alloc _).heap.size; simp)); have z4 : w.heap.size + 1 ≤ w4.heap.size := (by have := hbA.size; simpa using this); have hb04 : Below w.heap.size w w4 := ((Below.refl _ _).alloc (Nat.le_refl _) _).trans (hbA.mono (Nat.le_succ _)); clear hb4; have r1 := hrow.cell hnl; have r3 := hrow.lt; have Hb := Lib.hid hbest; clear hbest hrow)
  refine hK.out _ _ (Or.inr (by refine ⟨?_, ?_, ?_, ?_⟩ <;> exact ((show Below (w.heap.size + 1) (w.alloc (.cells #[.slice av t.vars.length cv, .slice ai t.init.length ci, .slice ag t.goal.length cg, .slice ao t.ops.length co] 26)) _ by first | assumption | (refine hbA.trans ?_; exact hb5.mono z4)).cell (Nat.lt_succ_self _)).trans (by simp))) (fun hG6 => wpN ?_); clear hK hG5
  refine wpAnyG_ready (rs := [6]) (by kernel_rfl) (by simp) (AllG.cons rfl hG6 (fun K hK => ?_) AllG.nil)
  (go_simp; go_at_call 31; refine (K2.out _ (by repeat (first | exact Below.refl _ _ | refine below_dN ?_ _ | refine Below.drew ?_ | refine Below.alloc ?_ (by first | omega | (simp; done) | (simp; omega)) _ | refine Below.setCell ?_ (by first | omega | (simp; done) | (simp; omega)) _ | refine below_step (by assumption) (by first | omega | (simp; done) | (simp; omega)) ?_))).mono ?_; rintro e w5 ⟨rfl, hb5⟩; have z5 := hb5.size; (try have r2 := (hb5.cell (p := ⟨g, q, none⟩) r3).trans r1); (try have r4 : g < w5.heap.size := (by omega)))
  refine hK.out _ _ (Or.inl rfl) (fun hG7 => wpN ?_); clear hK hG6
  refine wpS1 7 hG7 ?_; intro hG8; clear hG7
  refine wpAnyG_ready (rs := [8]) (by kernel_rfl) (by simp) (AllG.cons rfl hG8 (fun K hK => ?_) AllG.nil)
  (go_simp)
  refine hK.out _ _ (Or.inl rfl) (fun hG9 => wpN ?_); clear hK hG8
  refine wpS1 9 hG9 ?_; intro hG10; clear hG9
  refine wpAnyG_done (by kernel_rfl) ?_ _; clear hG10
  (try simp only [List.getElem_toArray, List.getElem_cons_succ, List.getElem_cons_zero, Act.put, List.setIfInBounds_toArray, List.set_cons_zero, List.set_cons_succ])
  go_wp2
  refine bodyPost_ret (v := .int .i64 (D q)) (by simp [results, Tryz.results11, go_sem]) rfl ⟨⟨D q, rfl, ?_⟩, hb04.trans (hb5.mono (by omega))⟩
  rw [Hq.out]; exact Hb.out _ Hst.out

end Go.Proofs.YtlkebhiaimijiaaGreatDoor
