/- ref05.Run; Solves, both. -/
import Derived.Test.YtkeelkpmajmjmaaDoorTaskR
namespace Go.Proofs.YtkeelkpmajmjmaaDoor
set_option linter.unusedSimpArgs false
set_option linter.unusedVariables false
open Go.RowKit
set_option linter.unusedVariables false

/-- A plan's cost and error. -/
def solR (t : Tsk) (plan : List Int) : Int × Int :=
  if (runR t t.init plan).2.2 = 0 then (if hoB t.goal (runR t t.init plan).1 then ((runR t t.init plan).2.1, 0) else (0, 13)) else (0, (runR t t.init plan).2.2)

theorem runS_cost {t : Tsk} : ∀ (plan s : List Int) (n : Int), (runS t plan s n).2.2 ≠ 0 → (runS t plan s n).2.1 = 0
  | [], s, n, h => absurd rfl h
  | op :: r, s, n, h => by
    unfold runS at h ⊢
    split
    · rename_i h0; rw [if_pos h0] at h; exact runS_cost r _ _ h
    · rfl
theorem run_cost {t : Tsk} {s plan : List Int} (h : (runR t s plan).2.2 ≠ 0) : (runR t s plan).2.1 = 0 := by
  unfold runR at h ⊢
  split
  · rename_i h0
    rw [if_pos h0] at h
    split
    · rename_i h1
      rw [if_pos h1] at h
      split
      · rfl
      · rename_i h2; rw [if_neg h2] at h; exact runS_cost _ _ _ h
    · rfl
  · rfl

set_option maxRecDepth 4000 in
set_option maxHeartbeats 2000000 in
theorem tsolves_any (t : Tsk) (p : Lies) (plan : List Int) (P : Option Addr) (q : Nat) (w : World) (ht : TaskAt w w.heap.size t p) (hp : IntsAt w w.heap.size P plan) :
    Calls Tryd.prog 12 #[TaskV t p, .slice P plan.length q] w fun e w' => e = .returned (.tuple #[.int .i64 (solR t plan).1, erV (solR t plan).2]) ∧ Below w.heap.size w w' := by
  have k1 := fun w1 (hb : Below w.heap.size w w1) => trun_any t p t.init plan p.ai P p.ci q w1 (ht.up hb) (ht.init.up hb) (hp.up hb)
  have k2 := fun w1 l B c (hb : Below w.heap.size w w1) (hl : IntsAt w1 w1.heap.size B l) => holds_any t.goal l p.ag B p.cg c w1 (ht.goal.up hb) hl
  obtain ⟨av, ai, ag, ao, cv, ci, cg, co⟩ := p
  unfold TaskV at *
  dsimp only at *
  obtain ⟨r, hr⟩ : ∃ r, r = runR t t.init plan := ⟨_, rfl⟩
  have Hsol := Lib.hid (show solR t plan = if r.2.2 = 0 then (if hoB t.goal r.1 then (r.2.1, 0) else (0, 13)) else (0, r.2.2) by unfold solR; rw [← hr])
  unfold TrunRet at k1
  rw [← hr] at k1
  clear hr
  obtain ⟨l, n, code⟩ := r
  dsimp only at *
  by_cases e0 : code = 0
  · subst e0
    simp only [erV_0] at k1
    go_enter Tryd.func12, Tryd.ntmps12
    go_wp2_with fail
    refine (k1 _ (by repeat (first | exact Below.refl _ _ | refine below_dN ?_ _ | refine Below.drew ?_ | refine Below.alloc ?_ (by first | omega | (simp; done) | (simp; omega)) _ | refine Below.setCell ?_ (by first | omega | (simp; done) | (simp; omega)) _ | refine below_step (by assumption) (by first | omega | (simp; done) | (simp; omega)) ?_))).mono ?_
    rintro e w1 ⟨⟨v, rfl, B, d, rfl, _, hgot⟩, hb1⟩
    obtain ⟨hc1, hf1, hz1, hlt1, hle1⟩ := cellsIf hb1 (by (try simp); exact rfl)
    have hbw1 : Below w.heap.size w w1 := by repeat (first | exact Below.refl _ _ | refine below_dN ?_ _ | refine Below.drew ?_ | refine Below.alloc ?_ (by first | omega | (simp; done) | (simp; omega)) _ | refine Below.setCell ?_ (by first | omega | (simp; done) | (simp; omega)) _ | refine below_step (by assumption) (by first | omega | (simp; done) | (simp; omega)) ?_)
    have k3 := k2 w1 l B d hbw1 hgot
    cases e1 : hoB t.goal l
    · have Hs := Lib.hid (show solR t plan = (0, 13) by rw [Hsol.out]; simp [e1])
      go_wp2_with fail; refine (k3).mono ?_; rintro e w2 ⟨rfl, hb2⟩; obtain ⟨hc2, hf2, hz2, hlt2, hle2⟩ := cellsIf hb2 (by (try simp); exact rfl); (try have : w.heap.size < w2.heap.size := (by omega)); (try have : w.heap.size < w2.heap.size + 1 := (by omega)); (try have : w.heap.size < w2.heap.size + 1 + 1 := (by omega)); (try have : w.heap.size + 1 < w2.heap.size := (by omega)); (try have : w.heap.size + 1 < w2.heap.size + 1 := (by omega)); (try have : w.heap.size + 1 < w2.heap.size + 1 + 1 := (by omega)); (try have : w.heap.size + 1 + 1 < w2.heap.size := (by omega)); (try have : w.heap.size + 1 + 1 < w2.heap.size + 1 := (by omega)); (try have : w.heap.size + 1 + 1 < w2.heap.size + 1 + 1 := (by omega)); (try have : w1.heap.size < w2.heap.size := (by omega)); (try have : w1.heap.size < w2.heap.size + 1 := (by omega)); (try have : w1.heap.size < w2.heap.size + 1 + 1 := (by omega)); (try have : w1.heap.size + 1 < w2.heap.size := (by omega)); (try have : w1.heap.size + 1 < w2.heap.size + 1 := (by omega)); (try have : w1.heap.size + 1 < w2.heap.size + 1 + 1 := (by omega)); (try have : w1.heap.size + 1 + 1 < w2.heap.size := (by omega)); (try have : w1.heap.size + 1 + 1 < w2.heap.size + 1 := (by omega)); (try have : w1.heap.size + 1 + 1 < w2.heap.size + 1 + 1 := (by omega))
      go_wp2
      refine bodyPost_ret (v := .tuple #[.int .i64 0, .iface 37 (.int .i64 13)]) (by simp [results, Tryd.results12, go_sem]) rfl ⟨by rw [Hs.out]; rfl, by repeat (first | exact Below.refl _ _ | refine below_dN ?_ _ | refine Below.drew ?_ | refine Below.alloc ?_ (by first | omega | (simp; done) | (simp; omega)) _ | refine Below.setCell ?_ (by first | omega | (simp; done) | (simp; omega)) _ | refine below_step (by assumption) (by first | omega | (simp; done) | (simp; omega)) ?_)⟩
    · have Hs := Lib.hid (show solR t plan = (n, 0) by rw [Hsol.out]; simp [e1])
      go_wp2_with fail; refine (k3).mono ?_; rintro e w2 ⟨rfl, hb2⟩; obtain ⟨hc2, hf2, hz2, hlt2, hle2⟩ := cellsIf hb2 (by (try simp); exact rfl); (try have : w.heap.size < w2.heap.size := (by omega)); (try have : w.heap.size < w2.heap.size + 1 := (by omega)); (try have : w.heap.size < w2.heap.size + 1 + 1 := (by omega)); (try have : w.heap.size + 1 < w2.heap.size := (by omega)); (try have : w.heap.size + 1 < w2.heap.size + 1 := (by omega)); (try have : w.heap.size + 1 < w2.heap.size + 1 + 1 := (by omega)); (try have : w.heap.size + 1 + 1 < w2.heap.size := (by omega)); (try have : w.heap.size + 1 + 1 < w2.heap.size + 1 := (by omega)); (try have : w.heap.size + 1 + 1 < w2.heap.size + 1 + 1 := (by omega)); (try have : w1.heap.size < w2.heap.size := (by omega)); (try have : w1.heap.size < w2.heap.size + 1 := (by omega)); (try have : w1.heap.size < w2.heap.size + 1 + 1 := (by omega)); (try have : w1.heap.size + 1 < w2.heap.size := (by omega)); (try have : w1.heap.size + 1 < w2.heap.size + 1 := (by omega)); (try have : w1.heap.size + 1 < w2.heap.size + 1 + 1 := (by omega)); (try have : w1.heap.size + 1 + 1 < w2.heap.size := (by omega)); (try have : w1.heap.size + 1 + 1 < w2.heap.size + 1 := (by omega)); (try have : w1.heap.size + 1 + 1 < w2.heap.size + 1 + 1 := (by omega))
      go_wp2
      refine bodyPost_ret (v := .tuple #[.int .i64 n, .nilIface]) (by simp [results, Tryd.results12, go_sem]) rfl ⟨by rw [Hs.out]; rfl, by repeat (first | exact Below.refl _ _ | refine below_dN ?_ _ | refine Below.drew ?_ | refine Below.alloc ?_ (by first | omega | (simp; done) | (simp; omega)) _ | refine Below.setCell ?_ (by first | omega | (simp; done) | (simp; omega)) _ | refine below_step (by assumption) (by first | omega | (simp; done) | (simp; omega)) ?_)⟩
  · have He := Lib.hid (erV_ne e0)
    have Hs := Lib.hid (show solR t plan = (0, code) by rw [Hsol.out, if_neg e0])
    simp only [He.out] at k1
    clear e0
    go_enter Tryd.func12, Tryd.ntmps12
    go_wp2_with fail
    refine (k1 _ (by repeat (first | exact Below.refl _ _ | refine below_dN ?_ _ | refine Below.drew ?_ | refine Below.alloc ?_ (by first | omega | (simp; done) | (simp; omega)) _ | refine Below.setCell ?_ (by first | omega | (simp; done) | (simp; omega)) _ | refine below_step (by assumption) (by first | omega | (simp; done) | (simp; omega)) ?_))).mono ?_
    rintro e w1 ⟨⟨v, rfl, _⟩, hb1⟩
    go_wp2
    refine bodyPost_ret (v := .tuple #[.int .i64 0, .iface 37 (.int .i64 code)]) (by simp [results, Tryd.results12, go_sem]) rfl ⟨by rw [Hs.out, ← He.out], by repeat (first | exact Below.refl _ _ | refine below_dN ?_ _ | refine Below.drew ?_ | refine Below.alloc ?_ (by first | omega | (simp; done) | (simp; omega)) _ | refine Below.setCell ?_ (by first | omega | (simp; done) | (simp; omega)) _ | refine below_step (by assumption) (by first | omega | (simp; done) | (simp; omega)) ?_)⟩

end Go.Proofs.YtkeelkpmajmjmaaDoor
