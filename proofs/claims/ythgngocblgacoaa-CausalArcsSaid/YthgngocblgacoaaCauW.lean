/- law39.awake; the law CausalArcs. -/
import Derived.Test.YthgngocblgacoaaCauC
import Derived.Test.YthgngocblgacoaaCauR
namespace Go.Proofs.Ythgngocblgacoaa
set_option linter.unusedSimpArgs false
set_option linter.unusedVariables false
open Go.RowKit
set_option linter.unusedVariables false

def T39 : Tsk := ⟨[2, 2, 2], [0, 0, 0], [(2, 1)], [⟨ByteArray.empty, 0, [(0, 0)], [⟨[], 1, 1⟩]⟩, ⟨ByteArray.empty, 0, [], [⟨[], 0, 1⟩, ⟨[], 2, 1⟩]⟩]⟩
def L39 (B : Nat) : Lies := ⟨some ⟨B + 1, 0, none⟩, some ⟨B + 2, 0, none⟩, some ⟨B + 3, 0, none⟩, some ⟨B + 7, 0, none⟩, 3, 3, 1, 2⟩
theorem ints_lit {w : World} {C b : Nat} {l : List Int} (hb : b < C) (hl : l.length ≤ 140737488355328) (h : ∀ k, k < l.length → w.cell? ⟨b, k, none⟩ = some (.int .i64 (nth l k))) : IntsAt w C (some ⟨b, 0, none⟩) l :=
  ⟨hl, fun _ => ⟨b, 0, rfl, hb, fun k hk => by simpa using h k hk⟩⟩
theorem three_ints {w : World} {C b : Nat} {x y z : Int} (hb : b < C) (h0 : w.cell? ⟨b, 0, none⟩ = some (.int .i64 x)) (h1 : w.cell? ⟨b, 1, none⟩ = some (.int .i64 y)) (h2 : w.cell? ⟨b, 2, none⟩ = some (.int .i64 z)) : IntsAt w C (some ⟨b, 0, none⟩) [x, y, z] :=
  ints_lit hb (by simp) fun k hk => by
    have : k = 0 ∨ k = 1 ∨ k = 2 := by simp at hk; omega
    rcases this with rfl | rfl | rfl
    · exact h0
    · exact h1
    · exact h2
theorem taskAt39 {w : World} {B : Nat} (hs : B + 8 ≤ w.heap.size)
    (a0 : w.cell? ⟨B + 1, 0, none⟩ = some (.int .i64 2)) (a1 : w.cell? ⟨B + 1, 1, none⟩ = some (.int .i64 2)) (a2 : w.cell? ⟨B + 1, 2, none⟩ = some (.int .i64 2))
    (b0 : w.cell? ⟨B + 2, 0, none⟩ = some (.int .i64 0)) (b1 : w.cell? ⟨B + 2, 1, none⟩ = some (.int .i64 0)) (b2 : w.cell? ⟨B + 2, 2, none⟩ = some (.int .i64 0))
    (c0 : w.cell? ⟨B + 3, 0, none⟩ = some (.int .i64 2)) (c1 : w.cell? ⟨B + 3, 1, none⟩ = some (.int .i64 1))
    (d0 : w.cell? ⟨B + 4, 0, none⟩ = some (.int .i64 0)) (d1 : w.cell? ⟨B + 4, 1, none⟩ = some (.int .i64 0))
    (e0 : w.cell? ⟨B + 5, 0, none⟩ = some (.slice none 0 0)) (e1 : w.cell? ⟨B + 5, 1, none⟩ = some (.int .i64 1)) (e2 : w.cell? ⟨B + 5, 2, none⟩ = some (.int .i64 1))
    (f0 : w.cell? ⟨B + 6, 0, none⟩ = some (.slice none 0 0)) (f1 : w.cell? ⟨B + 6, 1, none⟩ = some (.int .i64 0)) (f2 : w.cell? ⟨B + 6, 2, none⟩ = some (.int .i64 1))
    (f3 : w.cell? ⟨B + 6, 3, none⟩ = some (.slice none 0 0)) (f4 : w.cell? ⟨B + 6, 4, none⟩ = some (.int .i64 2)) (f5 : w.cell? ⟨B + 6, 5, none⟩ = some (.int .i64 1))
    (g0 : w.cell? ⟨B + 7, 0, none⟩ = some (.string ByteArray.empty)) (g1 : w.cell? ⟨B + 7, 1, none⟩ = some (.int .i64 0)) (g2 : w.cell? ⟨B + 7, 2, none⟩ = some (.slice (some ⟨B + 4, 0, none⟩) 1 1)) (g3 : w.cell? ⟨B + 7, 3, none⟩ = some (.slice (some ⟨B + 5, 0, none⟩) 1 1))
    (g4 : w.cell? ⟨B + 7, 4, none⟩ = some (.string ByteArray.empty)) (g5 : w.cell? ⟨B + 7, 5, none⟩ = some (.int .i64 0)) (g6 : w.cell? ⟨B + 7, 6, none⟩ = some (.slice none 0 0)) (g7 : w.cell? ⟨B + 7, 7, none⟩ = some (.slice (some ⟨B + 6, 0, none⟩) 2 2)) :
    TaskAt w w.heap.size T39 (L39 B) where
  vars := three_ints (by omega) a0 a1 a2
  init := three_ints (by omega) b0 b1 b2
  goal := factsAt_one (by omega) c0 c1
  ops := ⟨by simp [T39], fun _ => ⟨B + 7, 0, rfl, by omega, fun k hk => by
    have : k = 0 ∨ k = 1 := by simp [T39] at hk; omega
    rcases this with rfl | rfl
    · refine ⟨_, _, _, _, g0, by decide, g1, g2, factsAt_one (by omega) d0 d1, g3, by decide, fun _ => ⟨B + 5, 0, rfl, by omega, fun j hj => ?_⟩⟩
      have : j = 0 := by simp [T39, opr] at hj; omega
      subst this
      exact ⟨_, _, e0, ⟨by decide, fun h => absurd h (by decide)⟩, e1, e2⟩
    · refine ⟨_, _, _, _, g4, by decide, g5, g6, ⟨by decide, fun h => absurd h (by decide)⟩, g7, by decide, fun _ => ⟨B + 6, 0, rfl, by omega, fun j hj => ?_⟩⟩
      have : j = 0 ∨ j = 1 := by simp [T39, opr] at hj; omega
      rcases this with rfl | rfl
      · exact ⟨_, _, f0, ⟨by decide, fun h => absurd h (by decide)⟩, f1, f2⟩
      · exact ⟨_, _, f3, ⟨by decide, fun h => absurd h (by decide)⟩, f4, f5⟩⟩⟩
theorem rel39 : ∀ v, v < 3 → relB T39 v = (v != 1) := by
  have h := rel_eq (t := T39) (f := fun v => v != 1) (fun k hk => ⟨2, by
    have : k = 0 := by simp [T39] at hk; omega
    subst this; rfl, rfl⟩) (fun u v hu hv hf ha => by
      have key : ∀ u, u < 3 → ∀ v, v < 3 → (v != 1) = true → arB T39 u v = true → (u != 1) = true := by decide +kernel
      exact key u hu v hv hf ha) (fun v hv hf => by
      have h2 : Rel T39 2 := Rel.goal (k := 0) (by decide) rfl
      have : v = 0 ∨ v = 1 ∨ v = 2 := by have : T39.vars.length = 3 := rfl
                                         omega
      rcases this with rfl | rfl | rfl
      · exact Rel.step h2 (by decide) (by decide) (by decide +kernel)
      · simp at hf
      · exact h2)
  exact fun v hv => (h v hv).symm

set_option maxRecDepth 100000 in
set_option maxHeartbeats 4000000 in
theorem example39_any (w : World) : Calls Try.prog 54 #[] w fun e w' => e = .returned (TaskV T39 (L39 w.heap.size)) ∧ TaskAt w' w'.heap.size T39 (L39 w.heap.size) ∧ Below w.heap.size w w' := by
  go_enter Try.func54, Try.ntmps54
  go_wp2
  refine bodyPost_ret (v := TaskV T39 (L39 w.heap.size)) (by simp [results, Try.results54, go_sem, TaskV, T39, L39, World.cell?_alloc_at, World.cell?_alloc_past]) rfl ⟨rfl, taskAt39 (by simp) ?_ ?_ ?_ ?_ ?_ ?_ ?_ ?_ ?_ ?_ ?_ ?_ ?_ ?_ ?_ ?_ ?_ ?_ ?_ ?_ ?_ ?_ ?_ ?_ ?_ ?_ ?_, by repeat (first | exact Below.refl _ _ | refine below_dN ?_ _ | refine Below.drew ?_ | refine Below.alloc ?_ (by first | omega | (simp; done) | (simp; omega)) _ | refine Below.setCell ?_ (by first | omega | (simp; done) | (simp; omega)) _ | refine below_step (by assumption) (by first | omega | (simp; done) | (simp; omega)) ?_)⟩
  all_goals (first | (simp [World.cell?_alloc_at, World.cell?_alloc_past]; done) | (simp [World.cell?_alloc_at, World.cell?_alloc_past]; rfl))

theorem arcs39 : arcs T39 = [(0, 1), (0, 2), (2, 0)] := by decide +kernel
theorem chk39 : chkC T39 = 0 := by decide +kernel

set_option maxRecDepth 100000 in
set_option maxHeartbeats 4000000 in
theorem awake39_any (w : World) : Calls Try.prog 19 #[] w fun e w' => e = .returned (.bool true) ∧ Below w.heap.size w w' := by
  have k1 := fun w1 B (h : TaskAt w1 w1.heap.size T39 (L39 B)) => arcs_any T39 (L39 B) w1 h
  have k2 := fun w1 B (h : TaskAt w1 w1.heap.size T39 (L39 B)) => relevant_any T39 (L39 B) w1 h chk39
  simp only [chk39, if_pos, arcs39, erV_0] at k1
  unfold ArcRet at k1
  have K1 := Lib.hid k1
  have K2 := Lib.hid k2
  clear k1 k2
  go_enter Try.func19, Try.ntmps19
  go_wp2_with fail
  refine (example39_any _).mono ?_
  rintro e w1 ⟨rfl, ht1, hb1⟩
  go_wp2_with fail
  refine (K1.out _ _ ht1).mono ?_
  rintro e w2 ⟨⟨v2, rfl, A, c, rfl, hA⟩, hb2⟩
  obtain ⟨b, rfl, hbl, hc⟩ := hA (by simp)
  have c0 := hc 0 (by simp)
  clear hc hA
  go_wp2_with fail
  refine (example39_any _).mono ?_
  rintro e w3 ⟨rfl, ht3, hb3⟩
  go_wp2_with fail
  refine (K2.out _ _ ht3).mono ?_
  rintro e w4 ⟨⟨g, rfl, hrow, hg⟩, hb4⟩
  have z1 := hb1.size
  have z2 := hb2.size
  have z3 := hb3.size
  have z4 := hb4.size
  have hb24 : Below w2.heap.size w2 w4 := hb3.trans (hb4.mono z3)
  have d0 : w4.cell? ⟨b, 0, none⟩ = some (.int .i64 0) := (hb24.cell (p := ⟨b, 0, none⟩) hbl).trans (by simpa [arc] using c0.1)
  have d1 : w4.cell? ⟨b, 1, none⟩ = some (.int .i64 1) := (hb24.cell (p := ⟨b, 1, none⟩) hbl).trans (by simpa [arc] using c0.2.1)
  have d2 : w4.cell? ⟨b, 2, none⟩ = some (.int .i64 1) := (hb24.cell (p := ⟨b, 2, none⟩) hbl).trans (by simpa [arc] using c0.2.2)
  have r0 : w4.cell? ⟨g, 0, none⟩ = some (.bool true) := by have := hrow.cell (i := 0) (by decide); rw [rel39 0 (by omega)] at this; exact this
  have r1 : w4.cell? ⟨g, 1, none⟩ = some (.bool false) := by have := hrow.cell (i := 1) (by decide); rw [rel39 1 (by omega)] at this; exact this
  have r2 : w4.cell? ⟨g, 2, none⟩ = some (.bool true) := by have := hrow.cell (i := 2) (by decide); rw [rel39 2 (by omega)] at this; exact this
  have l3 : T39.vars.length = 3 := rfl
  simp only [l3]
  have hbw : Below w.heap.size w w4 := ((hb1.trans (hb2.mono z1)).trans (hb24.mono (by omega)))
  clear c0 hrow hb24 hb1 hb2 hb3 hb4 l3 ht1 ht3
  go_wp2
  go_ret
  exact ⟨rfl, hbw⟩

set_option maxRecDepth 100000 in
set_option maxHeartbeats 8000000 in
theorem causalArcs_any (t : Tsk) (p : Lies) (w : World) (ht : TaskAt w w.heap.size t p) :
    Calls Try.prog 3 #[TaskV t p] w fun e w' => e = .returned (.bool true) ∧ Below w.heap.size w w' := by
  have k0 := fun w1 => awake39_any w1
  have k1 := fun w1 (hb : Below w.heap.size w w1) => small_any t p w1 (ht.up hb)
  have k2 := fun w1 (hb : Below w.heap.size w w1) => arcs_any t p w1 (ht.up hb)
  have k3 := fun w1 (n64 : t.vars.length ≤ 64) (hb : Below w.heap.size w w1) => rarcs_any t p w1 (ht.up hb) n64
  obtain ⟨av, ai, ag, ao, cv, ci, cg, co⟩ := p
  unfold TaskV at *
  dsimp only at *
  cases e1 : smB t
  · rw [e1] at k1
    clear k2 k3
    go_enter Try.func3, Try.ntmps3
    go_wp2_with fail; refine (k1 _ (by repeat (first | exact Below.refl _ _ | refine below_dN ?_ _ | refine Below.drew ?_ | refine Below.alloc ?_ (by first | omega | (simp; done) | (simp; omega)) _ | refine Below.setCell ?_ (by first | omega | (simp; done) | (simp; omega)) _ | refine below_step (by assumption) (by first | omega | (simp; done) | (simp; omega)) ?_))).mono ?_; rintro e w1 ⟨rfl, hb1⟩; obtain ⟨hc1, hf1, hz1, hlt1, hle1⟩ := cellsIf hb1 (by (try simp); exact rfl); (try have : w.heap.size < w1.heap.size := (by omega)); (try have : w.heap.size < w1.heap.size + 1 := (by omega)); (try have : w.heap.size < w1.heap.size + 1 + 1 := (by omega)); (try have : w.heap.size + 1 < w1.heap.size := (by omega)); (try have : w.heap.size + 1 < w1.heap.size + 1 := (by omega)); (try have : w.heap.size + 1 < w1.heap.size + 1 + 1 := (by omega)); (try have : w.heap.size + 1 + 1 < w1.heap.size := (by omega)); (try have : w.heap.size + 1 + 1 < w1.heap.size + 1 := (by omega)); (try have : w.heap.size + 1 + 1 < w1.heap.size + 1 + 1 := (by omega))
    go_wp2_with fail; refine (k0 _).mono ?_; rintro e w2 ⟨rfl, hb2⟩; obtain ⟨hc2, hf2, hz2, hlt2, hle2⟩ := cellsIf hb2 (by (try simp); exact rfl); (try have : w.heap.size < w2.heap.size := (by omega)); (try have : w.heap.size < w2.heap.size + 1 := (by omega)); (try have : w.heap.size < w2.heap.size + 1 + 1 := (by omega)); (try have : w.heap.size + 1 < w2.heap.size := (by omega)); (try have : w.heap.size + 1 < w2.heap.size + 1 := (by omega)); (try have : w.heap.size + 1 < w2.heap.size + 1 + 1 := (by omega)); (try have : w.heap.size + 1 + 1 < w2.heap.size := (by omega)); (try have : w.heap.size + 1 + 1 < w2.heap.size + 1 := (by omega)); (try have : w.heap.size + 1 + 1 < w2.heap.size + 1 + 1 := (by omega)); (try have : w1.heap.size < w2.heap.size := (by omega)); (try have : w1.heap.size < w2.heap.size + 1 := (by omega)); (try have : w1.heap.size < w2.heap.size + 1 + 1 := (by omega)); (try have : w1.heap.size + 1 < w2.heap.size := (by omega)); (try have : w1.heap.size + 1 < w2.heap.size + 1 := (by omega)); (try have : w1.heap.size + 1 < w2.heap.size + 1 + 1 := (by omega)); (try have : w1.heap.size + 1 + 1 < w2.heap.size := (by omega)); (try have : w1.heap.size + 1 + 1 < w2.heap.size + 1 := (by omega)); (try have : w1.heap.size + 1 + 1 < w2.heap.size + 1 + 1 := (by omega))
    go_wp2
    go_ret
    exact ⟨rfl, by repeat (first | exact Below.refl _ _ | refine below_dN ?_ _ | refine Below.drew ?_ | refine Below.alloc ?_ (by first | omega | (simp; done) | (simp; omega)) _ | refine Below.setCell ?_ (by first | omega | (simp; done) | (simp; omega)) _ | refine below_step (by assumption) (by first | omega | (simp; done) | (simp; omega)) ?_)⟩
  have hs := small_of e1
  have n64 := hs.right.nv
  have hl : (arcs t).length ≤ 10000 := by have := arK_len (t := t) (u := t.vars.length) (v := 0) n64 n64 (by omega); rw [arK_zero] at this; exact this
  rw [e1] at k1
  simp only [hs.chk, if_pos, erV_0] at k2
  unfold ArcRet at k2
  have k4 := fun w1 => k3 w1 n64
  generalize arcs t = L at *
  clear hs k3 e1
  have K2 := Lib.hid k2
  have K4 := Lib.hid k4
  clear k2 k4
  go_enter Try.func3, Try.ntmps3
  go_wp2_with fail; refine (k1 _ (by repeat (first | exact Below.refl _ _ | refine below_dN ?_ _ | refine Below.drew ?_ | refine Below.alloc ?_ (by first | omega | (simp; done) | (simp; omega)) _ | refine Below.setCell ?_ (by first | omega | (simp; done) | (simp; omega)) _ | refine below_step (by assumption) (by first | omega | (simp; done) | (simp; omega)) ?_))).mono ?_; rintro e w1 ⟨rfl, hb1⟩; obtain ⟨hc1, hf1, hz1, hlt1, hle1⟩ := cellsIf hb1 (by (try simp); exact rfl); (try have : w.heap.size < w1.heap.size := (by omega)); (try have : w.heap.size < w1.heap.size + 1 := (by omega)); (try have : w.heap.size < w1.heap.size + 1 + 1 := (by omega)); (try have : w.heap.size + 1 < w1.heap.size := (by omega)); (try have : w.heap.size + 1 < w1.heap.size + 1 := (by omega)); (try have : w.heap.size + 1 < w1.heap.size + 1 + 1 := (by omega)); (try have : w.heap.size + 1 + 1 < w1.heap.size := (by omega)); (try have : w.heap.size + 1 + 1 < w1.heap.size + 1 := (by omega)); (try have : w.heap.size + 1 + 1 < w1.heap.size + 1 + 1 := (by omega))
  have hbx1 : Boxed w1 w.heap.size t ⟨av, ai, ag, ao, cv, ci, cg, co⟩ := Boxed.up (by constructor <;> simp) hb1
  have hbw1 : Below w.heap.size w w1 := by repeat (first | exact Below.refl _ _ | refine below_dN ?_ _ | refine Below.drew ?_ | refine Below.alloc ?_ (by first | omega | (simp; done) | (simp; omega)) _ | refine Below.setCell ?_ (by first | omega | (simp; done) | (simp; omega)) _ | refine below_step (by assumption) (by first | omega | (simp; done) | (simp; omega)) ?_)
  go_wp2_with fail; refine (k0 _).mono ?_; rintro e w2 ⟨rfl, hb2⟩; obtain ⟨hc2, hf2, hz2, hlt2, hle2⟩ := cellsIf hb2 (by (try simp); exact rfl); (try have : w.heap.size < w2.heap.size := (by omega)); (try have : w.heap.size < w2.heap.size + 1 := (by omega)); (try have : w.heap.size < w2.heap.size + 1 + 1 := (by omega)); (try have : w.heap.size + 1 < w2.heap.size := (by omega)); (try have : w.heap.size + 1 < w2.heap.size + 1 := (by omega)); (try have : w.heap.size + 1 < w2.heap.size + 1 + 1 := (by omega)); (try have : w.heap.size + 1 + 1 < w2.heap.size := (by omega)); (try have : w.heap.size + 1 + 1 < w2.heap.size + 1 := (by omega)); (try have : w.heap.size + 1 + 1 < w2.heap.size + 1 + 1 := (by omega)); (try have : w1.heap.size < w2.heap.size := (by omega)); (try have : w1.heap.size < w2.heap.size + 1 := (by omega)); (try have : w1.heap.size < w2.heap.size + 1 + 1 := (by omega)); (try have : w1.heap.size + 1 < w2.heap.size := (by omega)); (try have : w1.heap.size + 1 < w2.heap.size + 1 := (by omega)); (try have : w1.heap.size + 1 < w2.heap.size + 1 + 1 := (by omega)); (try have : w1.heap.size + 1 + 1 < w2.heap.size := (by omega)); (try have : w1.heap.size + 1 + 1 < w2.heap.size + 1 := (by omega)); (try have : w1.heap.size + 1 + 1 < w2.heap.size + 1 + 1 := (by omega))
  have hbx2 := hbx1.up hb2
  have hbw2 := hbw1.trans (hb2.mono hbw1.size)
  have z2 := hbw2.size
  clear hc1 hc2 hf1 hf2 hlt1 hlt2 hle1 hle2 hz1 hz2 hb1 hb2 hbx1 hbw1
  obtain ⟨z0, y0, y1, y2, y3⟩ := id hbx2
  dsimp only at y0 y1 y2 y3
  go_wp2_with fail
  refine (K2.out _ hbw2).mono ?_
  rintro e w3 ⟨⟨v3, rfl, A, c, rfl, hA⟩, hb3⟩
  have hbx3 := hbx2.up hb3
  have hbw3 := hbw2.trans (hb3.mono z2)
  have z3 := hbw3.size
  clear z0 y0 y1 y2 y3 hbx2
  obtain ⟨z0, y0, y1, y2, y3⟩ := id hbx3
  dsimp only at y0 y1 y2 y3
  go_wp2_with fail
  refine (K4.out _ hbw3).mono ?_
  rintro e w4 ⟨⟨v4, rfl, A', c', rfl, hA'⟩, hb4⟩
  have hA3 := hA.up hb4
  have hbw4 := hbw3.trans (hb4.mono z3)
  have HA := Lib.hid hA3
  have HA' := Lib.hid hA'
  clear hA hA' hA3 hbx3 z0 y0 y1 y2 y3 hb3 hb4
  go_wp2
  go_loopw [33] (fun i wr => ∃ k : Nat, k ≤ L.length ∧ i = .int .i64 k ∧ Below w4.heap.size w4 wr) (fun i _ => L.length - (intOf i).toNat)
  case atStart => exact ⟨0, by omega, rfl, Below.refl _ _⟩
  case round =>
    obtain ⟨k, hk, rfl, hbel⟩ := hrel
    have hbz := hbel.size
    by_cases hlt : k < L.length
    · obtain ⟨b1, rfl, hb1, hc1⟩ := HA.out (by omega)
      obtain ⟨b2, rfl, hb2, hc2⟩ := HA'.out (by omega)
      have d1 := (hbel.cell (p := ⟨b1, k * 3, none⟩) hb1).trans (hc1 k hlt).1
      have d2 := (hbel.cell (p := ⟨b1, k * 3 + 1, none⟩) hb1).trans (hc1 k hlt).2.1
      have d3 := (hbel.cell (p := ⟨b1, k * 3 + 2, none⟩) hb1).trans (hc1 k hlt).2.2
      have d4 := (hbel.cell (p := ⟨b2, k * 3, none⟩) hb2).trans (hc2 k hlt).1
      have d5 := (hbel.cell (p := ⟨b2, k * 3 + 1, none⟩) hb2).trans (hc2 k hlt).2.1
      have d6 := (hbel.cell (p := ⟨b2, k * 3 + 2, none⟩) hb2).trans (hc2 k hlt).2.2
      have x0 : (0 : Int) ≤ (k : Int) := by omega
      have x1 : (k : Int) < (L.length : Int) := by omega
      clear hc1 hc2
      have hne : ∀ w, (binOp .neq 36 (.agg #[.int .i64 ((arc L k).1 : Int), .int .i64 ((arc L k).2 : Int), .int .i64 1]) (.agg #[.int .i64 ((arc L k).1 : Int), .int .i64 ((arc L k).2 : Int), .int .i64 1])).run Try.prog w = .ok (.bool false) w := by
        intro w; simp [go_sem]
      go_wp2_with fail
      go_quiet (fail)
      go_wp2
      go_roundw
      case rel => exact ⟨k + 1, by omega, by go_num, by repeat (first | exact Below.refl _ _ | refine below_dN ?_ _ | refine Below.drew ?_ | refine Below.alloc ?_ (by first | omega | (simp; done) | (simp; omega)) _ | refine Below.setCell ?_ (by first | omega | (simp; done) | (simp; omega)) _ | refine below_step (by assumption) (by first | omega | (simp; done) | (simp; omega)) ?_)⟩
      case measure => simp [intOf]; omega
    · go_wp2
      go_ret
      exact ⟨rfl, hbw4.trans (hbel.mono hbw4.size)⟩

end Go.Proofs.Ythgngocblgacoaa
