/- The law CausalRestricts. -/
import Derived.Test.YtdkighaddldmcaaSameT
import Derived.Test.YtdkighaddldmcaaResC
import Derived.Test.YtdkighaddldmcaaCauW
namespace Go.Proofs.Ytdkighaddldmcaa
set_option linter.unusedSimpArgs false
set_option linter.unusedVariables false
open Go Go.RowKit
set_option linter.unusedVariables false

set_option maxRecDepth 100000 in
set_option maxHeartbeats 8000000 in
theorem causalRestricts_any (t : Tsk) (p : Lies) (w : World) (ht : TaskAt w w.heap.size t p) :
    Calls Try.prog 5 #[TaskV t p] w fun e w' => e = .returned (.bool true) ∧ Below w.heap.size w w' := by
  have k0 := fun w1 => awake39_any w1
  have k1 := fun w1 (hb : Below w.heap.size w w1) => small_any t p w1 (ht.up hb)
  have k2 := fun w1 h (hb : Below w.heap.size w w1) => restrict_any t p w1 (ht.up hb) h
  have k3 := fun w1 h (hb : Below w.heap.size w w1) => rrestrict_any t p w1 (ht.up hb) h
  obtain ⟨av, ai, ag, ao, cv, ci, cg, co⟩ := p
  unfold TaskV at k1 k2 k3 ⊢
  dsimp only at *
  cases e1 : smB t
  · rw [e1] at k1
    clear k2 k3
    go_enter Try.func5, Try.ntmps5
    go_wp2_with fail; refine (k1 _ (by repeat (first | exact Below.refl _ _ | refine below_dN ?_ _ | refine Below.drew ?_ | refine Below.alloc ?_ (by first | omega | (simp; done) | (simp; omega)) _ | refine Below.setCell ?_ (by first | omega | (simp; done) | (simp; omega)) _ | refine below_step (by assumption) (by first | omega | (simp; done) | (simp; omega)) ?_))).mono ?_; rintro e w1 ⟨rfl, hb1⟩; obtain ⟨hc1, hf1, hz1, hlt1, hle1⟩ := cellsIf hb1 (by (try simp); exact rfl); (try have : w.heap.size < w1.heap.size := (by omega)); (try have : w.heap.size < w1.heap.size + 1 := (by omega)); (try have : w.heap.size < w1.heap.size + 1 + 1 := (by omega)); (try have : w.heap.size + 1 < w1.heap.size := (by omega)); (try have : w.heap.size + 1 < w1.heap.size + 1 := (by omega)); (try have : w.heap.size + 1 < w1.heap.size + 1 + 1 := (by omega)); (try have : w.heap.size + 1 + 1 < w1.heap.size := (by omega)); (try have : w.heap.size + 1 + 1 < w1.heap.size + 1 := (by omega)); (try have : w.heap.size + 1 + 1 < w1.heap.size + 1 + 1 := (by omega))
    go_wp2_with fail; refine (k0 _).mono ?_; rintro e w2 ⟨rfl, hb2⟩; obtain ⟨hc2, hf2, hz2, hlt2, hle2⟩ := cellsIf hb2 (by (try simp); exact rfl); (try have : w.heap.size < w2.heap.size := (by omega)); (try have : w.heap.size < w2.heap.size + 1 := (by omega)); (try have : w.heap.size < w2.heap.size + 1 + 1 := (by omega)); (try have : w.heap.size + 1 < w2.heap.size := (by omega)); (try have : w.heap.size + 1 < w2.heap.size + 1 := (by omega)); (try have : w.heap.size + 1 < w2.heap.size + 1 + 1 := (by omega)); (try have : w.heap.size + 1 + 1 < w2.heap.size := (by omega)); (try have : w.heap.size + 1 + 1 < w2.heap.size + 1 := (by omega)); (try have : w.heap.size + 1 + 1 < w2.heap.size + 1 + 1 := (by omega)); (try have : w1.heap.size < w2.heap.size := (by omega)); (try have : w1.heap.size < w2.heap.size + 1 := (by omega)); (try have : w1.heap.size < w2.heap.size + 1 + 1 := (by omega)); (try have : w1.heap.size + 1 < w2.heap.size := (by omega)); (try have : w1.heap.size + 1 < w2.heap.size + 1 := (by omega)); (try have : w1.heap.size + 1 < w2.heap.size + 1 + 1 := (by omega)); (try have : w1.heap.size + 1 + 1 < w2.heap.size := (by omega)); (try have : w1.heap.size + 1 + 1 < w2.heap.size + 1 := (by omega)); (try have : w1.heap.size + 1 + 1 < w2.heap.size + 1 + 1 := (by omega))
    go_wp2
    go_ret
    exact ⟨rfl, by repeat (first | exact Below.refl _ _ | refine below_dN ?_ _ | refine Below.drew ?_ | refine Below.alloc ?_ (by first | omega | (simp; done) | (simp; omega)) _ | refine Below.setCell ?_ (by first | omega | (simp; done) | (simp; omega)) _ | refine below_step (by assumption) (by first | omega | (simp; done) | (simp; omega)) ?_)⟩
  have hs := small_of e1
  rw [e1] at k1
  have k4 := fun w1 => k2 w1 hs.chk
  have k5 := fun w1 => k3 w1 hs.right
  unfold ResRet at k4 k5
  obtain ⟨R, hR⟩ : ∃ R, resT t = R := ⟨_, rfl⟩
  obtain ⟨L, hL⟩ : ∃ L, resTo t = L := ⟨_, rfl⟩
  rw [hR, hL] at k4 k5
  have K2 := Lib.hid k4
  have K3 := Lib.hid k5
  clear k2 k3 k4 k5 hR hL hs e1
  go_enter Try.func5, Try.ntmps5
  go_wp2_with fail; refine (k1 _ (by repeat (first | exact Below.refl _ _ | refine below_dN ?_ _ | refine Below.drew ?_ | refine Below.alloc ?_ (by first | omega | (simp; done) | (simp; omega)) _ | refine Below.setCell ?_ (by first | omega | (simp; done) | (simp; omega)) _ | refine below_step (by assumption) (by first | omega | (simp; done) | (simp; omega)) ?_))).mono ?_; rintro e w1 ⟨rfl, hb1⟩; obtain ⟨hc1, hf1, hz1, hlt1, hle1⟩ := cellsIf hb1 (by (try simp); exact rfl); (try have : w.heap.size < w1.heap.size := (by omega)); (try have : w.heap.size < w1.heap.size + 1 := (by omega)); (try have : w.heap.size < w1.heap.size + 1 + 1 := (by omega)); (try have : w.heap.size + 1 < w1.heap.size := (by omega)); (try have : w.heap.size + 1 < w1.heap.size + 1 := (by omega)); (try have : w.heap.size + 1 < w1.heap.size + 1 + 1 := (by omega)); (try have : w.heap.size + 1 + 1 < w1.heap.size := (by omega)); (try have : w.heap.size + 1 + 1 < w1.heap.size + 1 := (by omega)); (try have : w.heap.size + 1 + 1 < w1.heap.size + 1 + 1 := (by omega))
  have hbx1 : Boxed w1 w.heap.size t ⟨av, ai, ag, ao, cv, ci, cg, co⟩ := Boxed.up (by constructor <;> simp) hb1
  have hbw1 : Below w.heap.size w w1 := by repeat (first | exact Below.refl _ _ | refine below_dN ?_ _ | refine Below.drew ?_ | refine Below.alloc ?_ (by first | omega | (simp; done) | (simp; omega)) _ | refine Below.setCell ?_ (by first | omega | (simp; done) | (simp; omega)) _ | refine below_step (by assumption) (by first | omega | (simp; done) | (simp; omega)) ?_)
  go_wp2_with fail; refine (k0 _).mono ?_; rintro e w2 ⟨rfl, hb2⟩; obtain ⟨hc2, hf2, hz2, hlt2, hle2⟩ := cellsIf hb2 (by (try simp); exact rfl); (try have : w.heap.size < w2.heap.size := (by omega)); (try have : w.heap.size < w2.heap.size + 1 := (by omega)); (try have : w.heap.size < w2.heap.size + 1 + 1 := (by omega)); (try have : w.heap.size + 1 < w2.heap.size := (by omega)); (try have : w.heap.size + 1 < w2.heap.size + 1 := (by omega)); (try have : w.heap.size + 1 < w2.heap.size + 1 + 1 := (by omega)); (try have : w.heap.size + 1 + 1 < w2.heap.size := (by omega)); (try have : w.heap.size + 1 + 1 < w2.heap.size + 1 := (by omega)); (try have : w.heap.size + 1 + 1 < w2.heap.size + 1 + 1 := (by omega)); (try have : w1.heap.size < w2.heap.size := (by omega)); (try have : w1.heap.size < w2.heap.size + 1 := (by omega)); (try have : w1.heap.size < w2.heap.size + 1 + 1 := (by omega)); (try have : w1.heap.size + 1 < w2.heap.size := (by omega)); (try have : w1.heap.size + 1 < w2.heap.size + 1 := (by omega)); (try have : w1.heap.size + 1 < w2.heap.size + 1 + 1 := (by omega)); (try have : w1.heap.size + 1 + 1 < w2.heap.size := (by omega)); (try have : w1.heap.size + 1 + 1 < w2.heap.size + 1 := (by omega)); (try have : w1.heap.size + 1 + 1 < w2.heap.size + 1 + 1 := (by omega))
  have hbx2 := hbx1.up hb2
  have hbw2 := hbw1.trans (hb2.mono hbw1.size)
  have z2 := hbw2.size
  clear hc1 hc2 hf1 hf2 hlt1 hlt2 hle1 hle2 hz1 hz2 hb1 hb2 hbx1 hbw1
  obtain ⟨z0, y0, y1, y2, y3⟩ := id hbx2
  dsimp only at y0 y1 y2 y3
  go_wp2_with fail
  refine (K2.out _ hbw2).mono ?_
  rintro e w3 ⟨⟨⟨q0, q1, q2, q3, d0, d1, d2, d3⟩, A, c, he, ht3, hi3, _, _⟩, hb3⟩
  (try rw [if_pos rfl] at he)
  subst he
  unfold TaskV
  dsimp only
  have hbx3 := hbx2.up hb3
  have hbw3 := hbw2.trans (hb3.mono z2)
  have z3 := hbw3.size
  have HT3 := Lib.hid ht3
  have HI3 := Lib.hid hi3
  clear z0 y0 y1 y2 y3 hbx2 hb3 ht3 hi3
  obtain ⟨z0, y0, y1, y2, y3⟩ := id hbx3
  dsimp only at y0 y1 y2 y3
  go_wp2_with fail
  refine (K3.out _ (by repeat (first | exact Below.refl _ _ | refine below_dN ?_ _ | refine Below.drew ?_ | refine Below.alloc ?_ (by first | omega | (simp; done) | (simp; omega)) _ | refine Below.setCell ?_ (by first | omega | (simp; done) | (simp; omega)) _ | refine below_step (by assumption) (by first | omega | (simp; done) | (simp; omega)) ?_))).mono ?_
  rintro e w4 ⟨⟨⟨r0, r1, r2, r3, f0, f1, f2, f3⟩, A', c', he, ht4, hi4, _, _⟩, hb4⟩
  (try rw [if_neg (by decide)] at he)
  subst he
  unfold TaskV
  dsimp only
  have hb34 : Below w3.heap.size w3 w4 := by repeat (first | exact Below.refl _ _ | refine below_dN ?_ _ | refine Below.drew ?_ | refine Below.alloc ?_ (by first | omega | (simp; done) | (simp; omega)) _ | refine Below.setCell ?_ (by first | omega | (simp; done) | (simp; omega)) _ | refine below_step (by assumption) (by first | omega | (simp; done) | (simp; omega)) ?_)
  have hbw4 := hbw3.trans (hb34.mono z3)
  have z4 := hbw4.size
  have s34 := hb4.size
  simp only [World.size_alloc] at s34
  have lt34 : w3.heap.size < w4.heap.size := s34
  have g0 : w4.cell? ⟨w3.heap.size, 0, none⟩ = some (.slice q0 R.vars.length d0) := (hb4.cell (p := ⟨w3.heap.size, 0, none⟩) (by simp)).trans (by simp)
  have g1 : w4.cell? ⟨w3.heap.size, 1, none⟩ = some (.slice q1 R.init.length d1) := (hb4.cell (p := ⟨w3.heap.size, 1, none⟩) (by simp)).trans (by simp)
  have g2 : w4.cell? ⟨w3.heap.size, 2, none⟩ = some (.slice q2 R.goal.length d2) := (hb4.cell (p := ⟨w3.heap.size, 2, none⟩) (by simp)).trans (by simp)
  have g3 : w4.cell? ⟨w3.heap.size, 3, none⟩ = some (.slice q3 R.ops.length d3) := (hb4.cell (p := ⟨w3.heap.size, 3, none⟩) (by simp)).trans (by simp)
  have k6 := fun w1 (hb : Below w4.heap.size w4 w1) => btasks_same R ⟨q0, q1, q2, q3, d0, d1, d2, d3⟩ ⟨r0, r1, r2, r3, f0, f1, f2, f3⟩ w1 ((HT3.out.up hb34).up hb) (ht4.up hb)
  have k7 : ∀ w1, Below w4.heap.size w4 w1 → Calls Try.prog 19 #[.slice A L.length c, .slice A' L.length c'] w1 fun e w' => e = .returned (.bool true) ∧ Below w1.heap.size w1 w' := fun w1 hb => by
    have := bints_any L L A A' c c' w1 ((HI3.out.up hb34).up hb) (hi4.up hb); simpa using this
  unfold TaskV at k6
  dsimp only at k6
  have K6 := Lib.hid k6
  have K7 := Lib.hid k7
  clear k6 k7 ht4 hi4 hb4 z0 y0 y1 y2 y3 hbx3
  go_wp2_with fail; refine (K6.out _ (by repeat (first | exact Below.refl _ _ | refine below_dN ?_ _ | refine Below.drew ?_ | refine Below.alloc ?_ (by first | omega | (simp; done) | (simp; omega)) _ | refine Below.setCell ?_ (by first | omega | (simp; done) | (simp; omega)) _ | refine below_step (by assumption) (by first | omega | (simp; done) | (simp; omega)) ?_))).mono ?_; rintro e w6 ⟨rfl, hb6⟩; obtain ⟨hc6, hf6, hz6, hlt6, hle6⟩ := cellsIf hb6 (by (try simp); exact rfl)
  go_wp2_with fail; refine (K7.out _ (by repeat (first | exact Below.refl _ _ | refine below_dN ?_ _ | refine Below.drew ?_ | refine Below.alloc ?_ (by first | omega | (simp; done) | (simp; omega)) _ | refine Below.setCell ?_ (by first | omega | (simp; done) | (simp; omega)) _ | refine below_step (by assumption) (by first | omega | (simp; done) | (simp; omega)) ?_))).mono ?_; rintro e w7 ⟨rfl, hb7⟩; obtain ⟨hc7, hf7, hz7, hlt7, hle7⟩ := cellsIf hb7 (by (try simp); exact rfl)
  go_wp2
  go_ret
  exact ⟨rfl, by repeat (first | exact Below.refl _ _ | refine below_dN ?_ _ | refine Below.drew ?_ | refine Below.alloc ?_ (by first | omega | (simp; done) | (simp; omega)) _ | refine Below.setCell ?_ (by first | omega | (simp; done) | (simp; omega)) _ | refine below_step (by assumption) (by first | omega | (simp; done) | (simp; omega)) ?_)⟩

end Go.Proofs.Ytdkighaddldmcaa
