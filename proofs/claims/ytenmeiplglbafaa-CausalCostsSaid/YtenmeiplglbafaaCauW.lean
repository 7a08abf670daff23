/- law39.awake; the law CausalArcs. -/
import Derived.Test.YtenmeiplglbafaaCauC
import Derived.Test.YtenmeiplglbafaaCauR
namespace Go.Proofs.Ytenmeiplglbafaa
set_option linter.unusedSimpArgs false
set_option linter.unusedVariables false
open Go.RowKit
set_option linter.unusedVariables false

def T39 : Tsk := ⟨[2, 2, 2], [0, 0, 0], [(2, 1)], [⟨ByteArray.empty, 0, [(0, 0)], [⟨[], 1, 1⟩]⟩, ⟨ByteArray.empty, 0, [], [⟨[], 0, 1⟩, ⟨[], 2, 1⟩]⟩]⟩
def L39 (B : Nat) : Lies := ⟨some ⟨B + 1, 0, none⟩, some ⟨B + 2, 0, none⟩, some ⟨B + 3, 0, none⟩, some ⟨B + 7, 0, none⟩, 3, 3, 1, 2⟩
theorem ints_lit {w : World} {C b : Nat} {l : List Int} (hb : b < C) (hl : l.length ≤ 140737488355328) (h : ∀ k, k < l.length → w.cell? ⟨b, k, none⟩ = some (.int .i64 (nth l k))) : IntsAt w C (some ⟨b, 0, none⟩) l :=
  ⟨hl, fun _ => ⟨b, 0, rfl, hb, fun k hk => by simpa using h k hk⟩⟩
theorem three_ints {w : World} {C b : Nat} {x y z : Int} (hb : b < C) (h0 : w.cell? ⟨b, 0, none⟩ = some (.int .i64 x)) (h1 : w.cell? ⟨b, 1, none⟩ = some (.int .i64 y)) (h2 : w.cell? ⟨b, 2, none⟩ = some (.int .i64 z)) : IntsAt w C (some ⟨b, 0, none⟩) [x, y, z] :=
  ints_lit hb (by simp) fun k hk => by
    have : k = 0 ∨ k = 1 ∨ k = 2 := by simp at hk; omega
    rcases this with rfl | rfl | rfl
    · exact h0
    · exact h1
    · exact h2
theorem taskAt39 {w : World} {B : Nat} (hs : B + 8 ≤ w.heap.size)
    (a0 : w.cell? ⟨B + 1, 0, none⟩ = some (.int .i64 2)) (a1 : w.cell? ⟨B + 1, 1, none⟩ = some (.int .i64 2)) (a2 : w.cell? ⟨B + 1, 2, none⟩ = some (.int .i64 2))
    (b0 : w.cell? ⟨B + 2, 0, none⟩ = some (.int .i64 0)) (b1 : w.cell? ⟨B + 2, 1, none⟩ = some (.int .i64 0)) (b2 : w.cell? ⟨B + 2, 2, none⟩ = some (.int .i64 0))
    (c0 : w.cell? ⟨B + 3, 0, none⟩ = some (.int .i64 2)) (c1 : w.cell? ⟨B + 3, 1, none⟩ = some (.int .i64 1))
    (d0 : w.cell? ⟨B + 4, 0, none⟩ = some (.int .i64 0)) (d1 : w.cell? ⟨B + 4, 1, none⟩ = some (.int .i64 0))
    (e0 : w.cell? ⟨B + 5, 0, none⟩ = some (.slice none 0 0)) (e1 : w.cell? ⟨B + 5, 1, none⟩ = some (.int .i64 1)) (e2 : w.cell? ⟨B + 5, 2, none⟩ = some (.int .i64 1))
    (f0 : w.cell? ⟨B + 6, 0, none⟩ = some (.slice none 0 0)) (f1 : w.cell? ⟨B + 6, 1, none⟩ = some (.int .i64 0)) (f2 : w.cell? ⟨B + 6, 2, none⟩ = some (.int .i64 1))
    (f3 : w.cell? ⟨B + 6, 3, none⟩ = some (.slice none 0 0)) (f4 : w.cell? ⟨B + 6, 4, none⟩ = some (.int .i64 2)) (f5 : w.cell? ⟨B + 6, 5, none⟩ = some (.int .i64 1))
    (g0 : w.cell? ⟨B + 7, 0, none⟩ = some (.string ByteArray.empty)) (g1 : w.cell? ⟨B + 7, 1, none⟩ = some (.int .i64 0)) (g2 : w.cell? ⟨B + 7, 2, none⟩ = some (.slice (some ⟨B + 4, 0, none⟩) 1 1)) (g3 : w.cell? ⟨B + 7, 3, none⟩ = some (.slice (some ⟨B + 5, 0, none⟩) 1 1))
    (g4 : w.cell? ⟨B + 7, 4, none⟩ = some (.string ByteArray.empty)) (g5 : w.cell? ⟨B + 7, 5, none⟩ = some (.int .i64 0)) (g6 : w.cell? ⟨B + 7, 6, none⟩ = some (.slice none 0 0)) (g7 : w.cell? ⟨B + 7, 7, none⟩ = some (.slice (some ⟨B + 6, 0, none⟩) 2 2)) :
    TaskAt w w.heap.size T39 (L39 B) where
  vars := three_ints (by omega) a0 a1 a2
  init := three_ints (by omega) b0 b1 b2
  goal := factsAt_one (by omega) c0 c1
  ops := ⟨by simp [T39], fun _ => ⟨B + 7, 0, rfl, by omega, fun k hk => by
    have : k = 0 ∨ k = 1 := by simp [T39] at hk; omega
    rcases this with rfl | rfl
    · refine ⟨_, _, _, _, g0, by decide, g1, g2, factsAt_one (by omega) d0 d1, g3, by decide, fun _ => ⟨B + 5, 0, rfl, by omega, fun j hj => ?_⟩⟩
      have : j = 0 := by simp [T39, opr] at hj; omega
      subst this
      exact ⟨_, _, e0, ⟨by decide, fun h => absurd h (by decide)⟩, e1, e2⟩
    · refine ⟨_, _, _, _, g4, by decide, g5, g6, ⟨by decide, fun h => absurd h (by decide)⟩, g7, by decide, fun _ => ⟨B + 6, 0, rfl, by omega, fun j hj => ?_⟩⟩
      have : j = 0 ∨ j = 1 := by simp [T39, opr] at hj; omega
      rcases this with rfl | rfl
      · exact ⟨_, _, f0, ⟨by decide, fun h => absurd h (by decide)⟩, f1, f2⟩
      · exact ⟨_, _, f3, ⟨by decide, fun h => absurd h (by decide)⟩, f4, f5⟩⟩⟩
theorem rel39 : ∀ v, v < 3 → relB T39 v = (v != 1) := by
  have h := rel_eq (t := T39) (f := fun v => v != 1) (fun k hk => ⟨2, by
    have : k = 0 := by simp [T39] at hk; omega
    subst this; rfl, rfl⟩) (fun u v hu hv hf ha => by
      have key : ∀ u, u < 3 → ∀ v, v < 3 → (v != 1) = true → arB T39 u v = true → (u != 1) = true := by decide +kernel
      exact key u hu v hv hf ha) (fun v hv hf => by
      have h2 : Rel T39 2 := Rel.goal (k := 0) (by decide) rfl
      have : v = 0 ∨ v = 1 ∨ v = 2 := by have : T39.vars.length = 3 := rfl
                                         omega
      rcases this with rfl | rfl | rfl
      · exact Rel.step h2 (by decide) (by decide) (by decide +kernel)
      · simp at hf
      · exact h2)
  exact fun v hv => (h v hv).symm

set_option maxRecDepth 100000 in
set_option maxHeartbeats 4000000 in
theorem example39_any (w : World) : Calls Try.prog 56 #[] w fun e w' => e = .returned (TaskV T39 (L39 w.heap.size)) ∧ TaskAt w' w'.heap.size T39 (L39 w.heap.size) ∧ Below w.heap.size w w' := by
  go_enter Try.func56, Try.ntmps56
  go_wp2
  refine bodyPost_ret (v := TaskV T39 (L39 w.heap.size)) (by simp [results, Try.results56, go_sem, TaskV, T39, L39, World.cell?_alloc_at, World.cell?_alloc_past]) rfl ⟨rfl, taskAt39 (by simp) ?_ ?_ ?_ ?_ ?_ ?_ ?_ ?_ ?_ ?_ ?_ ?_ ?_ ?_ ?_ ?_ ?_ ?_ ?_ ?_ ?_ ?_ ?_ ?_ ?_ ?_ ?_, by repeat (first | exact Below.refl _ _ | refine below_dN ?_ _ | refine Below.drew ?_ | refine Below.alloc ?_ (by first | omega | (simp; done) | (simp; omega)) _ | refine Below.setCell ?_ (by first | omega | (simp; done) | (simp; omega)) _ | refine below_step (by assumption) (by first | omega | (simp; done) | (simp; omega)) ?_)⟩
  all_goals (first | (simp [World.cell?_alloc_at, World.cell?_alloc_past]; done) | (simp [World.cell?_alloc_at, World.cell?_alloc_past]; rfl))

theorem arcs39 : arcs T39 = [(0, 1), (0, 2), (2, 0)] := by decide +kernel
theorem chk39 : chkC T39 = 0 := by decide +kernel

set_option maxRecDepth 100000 in
set_option maxHeartbeats 4000000 in
theorem awake39_any (w : World) : Calls Try.prog 26 #[] w fun e w' => e = .returned (.bool true) ∧ Below w.heap.size w w' := by
  have k1 := fun w1 B (h : TaskAt w1 w1.heap.size T39 (L39 B)) => arcs_any T39 (L39 B) w1 h
  have k2 := fun w1 B (h : TaskAt w1 w1.heap.size T39 (L39 B)) => relevant_any T39 (L39 B) w1 h chk39
  simp only [chk39, if_pos, arcs39, erV_0] at k1
  unfold ArcRet at k1
  have K1 := Lib.hid k1
  have K2 := Lib.hid k2
  clear k1 k2
  go_enter Try.func26, Try.ntmps26
  go_wp2_with fail
  refine (example39_any _).mono ?_
  rintro e w1 ⟨rfl, ht1, hb1⟩
  go_wp2_with fail
  refine (K1.out _ _ ht1).mono ?_
  rintro e w2 ⟨⟨v2, rfl, A, c, rfl, hA⟩, hb2⟩
  obtain ⟨b, rfl, hbl, hc⟩ := hA (by simp)
  have c0 := hc 0 (by simp)
  clear hc hA
  go_wp2_with fail
  refine (example39_any _).mono ?_
  rintro e w3 ⟨rfl, ht3, hb3⟩
  go_wp2_with fail
  refine (K2.out _ _ ht3).mono ?_
  rintro e w4 ⟨⟨g, rfl, hrow, hg⟩, hb4⟩
  have z1 := hb1.size
  have z2 := hb2.size
  have z3 := hb3.size
  have z4 := hb4.size
  have hb24 : Below w2.heap.size w2 w4 := hb3.trans (hb4.mono z3)
  have d0 : w4.cell? ⟨b, 0, none⟩ = some (.int .i64 0) := (hb24.cell (p := ⟨b, 0, none⟩) hbl).trans (by simpa [arc] using c0.1)
  have d1 : w4.cell? ⟨b, 1, none⟩ = some (.int .i64 1) := (hb24.cell (p := ⟨b, 1, none⟩) hbl).trans (by simpa [arc] using c0.2.1)
  have d2 : w4.cell? ⟨b, 2, none⟩ = some (.int .i64 1) := (hb24.cell (p := ⟨b, 2, none⟩) hbl).trans (by simpa [arc] using c0.2.2)
  have r0 : w4.cell? ⟨g, 0, none⟩ = some (.bool true) := by have := hrow.cell (i := 0) (by decide); rw [rel39 0 (by omega)] at this; exact this
  have r1 : w4.cell? ⟨g, 1, none⟩ = some (.bool false) := by have := hrow.cell (i := 1) (by decide); rw [rel39 1 (by omega)] at this; exact this
  have r2 : w4.cell? ⟨g, 2, none⟩ = some (.bool true) := by have := hrow.cell (i := 2) (by decide); rw [rel39 2 (by omega)] at this; exact this
  have l3 : T39.vars.length = 3 := rfl
  simp only [l3]
  have hbw : Below w.heap.size w w4 := ((hb1.trans (hb2.mono z1)).trans (hb24.mono (by omega)))
  clear c0 hrow hb24 hb1 hb2 hb3 hb4 l3 ht1 ht3
  go_wp2
  go_ret
  exact ⟨rfl, hbw⟩

end Go.Proofs.Ytenmeiplglbafaa
