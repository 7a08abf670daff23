/- law05.awake: the document's example. -/
import Derived.Test.YtkeelkpmajmjmaaDoorTaskS
namespace Go.Proofs.YtkeelkpmajmjmaaDoor
set_option linter.unusedSimpArgs false
set_option linter.unusedVariables false
open Go.RowKit
set_option linter.unusedVariables false

def T0 : Tsk := ⟨[2, 3], [0, 0], [(1, 2)], [⟨⟨#[103, 111]⟩, 5, [(0, 0)], [⟨[], 1, 1⟩, ⟨[(1, 1)], 1, 2⟩]⟩]⟩
def L0 (B : Nat) : Lies := ⟨some ⟨B, 0, none⟩, some ⟨B + 1, 0, none⟩, some ⟨B + 2, 0, none⟩, some ⟨B + 6, 0, none⟩, 2, 2, 1, 1⟩

theorem ints_two {w : World} {C b : Nat} {x y : Int} (hb : b < C) (h0 : w.cell? ⟨b, 0, none⟩ = some (.int .i64 x)) (h1 : w.cell? ⟨b, 1, none⟩ = some (.int .i64 y)) : IntsAt w C (some ⟨b, 0, none⟩) [x, y] :=
  ⟨by simp, fun _ => ⟨b, 0, rfl, hb, fun k hk => by
    have : k = 0 ∨ k = 1 := by simp at hk; omega
    rcases this with rfl | rfl
    · exact h0
    · exact h1⟩⟩
theorem taskAt0 {w : World} {B : Nat} (hs : B + 7 ≤ w.heap.size)
    (a0 : w.cell? ⟨B, 0, none⟩ = some (.int .i64 2)) (a1 : w.cell? ⟨B, 1, none⟩ = some (.int .i64 3))
    (b0 : w.cell? ⟨B + 1, 0, none⟩ = some (.int .i64 0)) (b1 : w.cell? ⟨B + 1, 1, none⟩ = some (.int .i64 0))
    (c0 : w.cell? ⟨B + 2, 0, none⟩ = some (.int .i64 1)) (c1 : w.cell? ⟨B + 2, 1, none⟩ = some (.int .i64 2))
    (d0 : w.cell? ⟨B + 3, 0, none⟩ = some (.int .i64 0)) (d1 : w.cell? ⟨B + 3, 1, none⟩ = some (.int .i64 0))
    (e0 : w.cell? ⟨B + 4, 0, none⟩ = some (.int .i64 1)) (e1 : w.cell? ⟨B + 4, 1, none⟩ = some (.int .i64 1))
    (f0 : w.cell? ⟨B + 5, 0, none⟩ = some (.slice none 0 0)) (f1 : w.cell? ⟨B + 5, 1, none⟩ = some (.int .i64 1)) (f2 : w.cell? ⟨B + 5, 2, none⟩ = some (.int .i64 1))
    (f3 : w.cell? ⟨B + 5, 3, none⟩ = some (.slice (some ⟨B + 4, 0, none⟩) 1 1)) (f4 : w.cell? ⟨B + 5, 4, none⟩ = some (.int .i64 1)) (f5 : w.cell? ⟨B + 5, 5, none⟩ = some (.int .i64 2))
    (g0 : w.cell? ⟨B + 6, 0, none⟩ = some (.string ⟨#[103, 111]⟩)) (g1 : w.cell? ⟨B + 6, 1, none⟩ = some (.int .i64 5)) (g2 : w.cell? ⟨B + 6, 2, none⟩ = some (.slice (some ⟨B + 3, 0, none⟩) 1 1)) (g3 : w.cell? ⟨B + 6, 3, none⟩ = some (.slice (some ⟨B + 5, 0, none⟩) 2 2)) :
    TaskAt w w.heap.size T0 (L0 B) where
  vars := ints_two (by omega) a0 a1
  init := ints_two (by omega) b0 b1
  goal := factsAt_one (by omega) c0 c1
  ops := ⟨by simp [T0], fun _ => ⟨B + 6, 0, rfl, by omega, fun k hk => by
    have : k = 0 := by simp [T0] at hk; omega
    subst this
    refine ⟨_, _, _, _, g0, by decide, g1, g2, factsAt_one (by omega) d0 d1, g3, by decide, fun _ => ⟨B + 5, 0, rfl, by omega, fun j hj => ?_⟩⟩
    have : j = 0 ∨ j = 1 := by simp [T0, opr] at hj; omega
    rcases this with rfl | rfl
    · exact ⟨_, _, f0, ⟨by decide, fun h => absurd h (by decide)⟩, f1, f2⟩
    · exact ⟨_, _, f3, factsAt_one (by omega) e0 e1, f4, f5⟩⟩⟩

theorem solves0 (w : World) (B C : Nat) (ht : TaskAt w w.heap.size T0 (L0 B)) (hp : IntsAt w w.heap.size (some ⟨C, 0, none⟩) [0, 0]) :
    Calls Tryd.prog 12 #[.agg #[.slice (some ⟨B, 0, none⟩) 2 2, .slice (some ⟨B + 1, 0, none⟩) 2 2, .slice (some ⟨B + 2, 0, none⟩) 1 1, .slice (some ⟨B + 6, 0, none⟩) 1 1], .slice (some ⟨C, 0, none⟩) 2 2] w fun e w' => e = .returned (.tuple #[.int .i64 10, .nilIface]) ∧ TaskAt w' w'.heap.size T0 (L0 B) ∧ Below w.heap.size w w' := by
  have h := tsolves_any T0 (L0 B) [0, 0] (some ⟨C, 0, none⟩) 2 w ht hp
  have e : solR T0 [0, 0] = (10, 0) := by decide +kernel
  rw [e] at h
  exact h.mono fun _ _ ⟨he, hb⟩ => ⟨he, ht.up hb, hb⟩
theorem check0 (w : World) (B : Nat) (ht : TaskAt w w.heap.size T0 (L0 B)) :
    Calls Tryd.prog 13 #[.agg #[.slice (some ⟨B, 0, none⟩) 2 2, .slice (some ⟨B + 1, 0, none⟩) 2 2, .slice (some ⟨B + 2, 0, none⟩) 1 1, .slice (some ⟨B + 6, 0, none⟩) 1 1]] w fun e w' => e = .returned .nilIface ∧ Below w.heap.size w w' := by
  have h := tcheck_any T0 (L0 B) w ht
  have e : chkC T0 = 0 := by decide +kernel
  rw [e] at h
  exact h

set_option maxRecDepth 4000 in
set_option maxHeartbeats 2000000 in
theorem awake05_any (w : World) : Calls Tryd.prog 5 #[] w fun e w' => e = .returned (.bool true) ∧ Below w.heap.size w w' := by
  go_enter Tryd.func5, Tryd.ntmps5
  go_wp2_with fail
  refine (solves0 _ w.heap.size (w.heap.size + 8) (taskAt0 (by simp) (((show Below (w.alloc (.cells #[.int .i64 2, .int .i64 3] 3)).heap.size (w.alloc (.cells #[.int .i64 2, .int .i64 3] 3)) _ by repeat (first | exact Below.refl _ _ | refine below_dN ?_ _ | refine Below.drew ?_ | refine Below.alloc ?_ (by first | omega | (simp; done) | (simp; omega)) _ | refine Below.setCell ?_ (by first | omega | (simp; done) | (simp; omega)) _ | refine below_step (by assumption) (by first | omega | (simp; done) | (simp; omega)) ?_)).cell (p := ⟨w.heap.size, 0, none⟩) (by simp)).trans (by simp)) (((show Below (w.alloc (.cells #[.int .i64 2, .int .i64 3] 3)).heap.size (w.alloc (.cells #[.int .i64 2, .int .i64 3] 3)) _ by repeat (first | exact Below.refl _ _ | refine below_dN ?_ _ | refine Below.drew ?_ | refine Below.alloc ?_ (by first | omega | (simp; done) | (simp; omega)) _ | refine Below.setCell ?_ (by first | omega | (simp; done) | (simp; omega)) _ | refine below_step (by assumption) (by first | omega | (simp; done) | (simp; omega)) ?_)).cell (p := ⟨w.heap.size, 1, none⟩) (by simp)).trans (by simp)) (by simp [World.cell?_alloc_at, World.cell?_alloc_past]) (by simp [World.cell?_alloc_at, World.cell?_alloc_past]) (by simp [World.cell?_alloc_at, World.cell?_alloc_past]) (by simp [World.cell?_alloc_at, World.cell?_alloc_past]) (by simp [World.cell?_alloc_at, World.cell?_alloc_past]) (by simp [World.cell?_alloc_at, World.cell?_alloc_past]) (by simp [World.cell?_alloc_at, World.cell?_alloc_past]) (by simp [World.cell?_alloc_at, World.cell?_alloc_past]) (by simp [World.cell?_alloc_at, World.cell?_alloc_past]) (by simp [World.cell?_alloc_at, World.cell?_alloc_past]) (by simp [World.cell?_alloc_at, World.cell?_alloc_past]) (by simp [World.cell?_alloc_at, World.cell?_alloc_past]) (by simp [World.cell?_alloc_at, World.cell?_alloc_past]) (by simp [World.cell?_alloc_at, World.cell?_alloc_past]) (by simp [World.cell?_alloc_at, World.cell?_alloc_past]) (by simp [World.cell?_alloc_at, World.cell?_alloc_past]) (by simp [World.cell?_alloc_at, World.cell?_alloc_past]) (by simp [World.cell?_alloc_at, World.cell?_alloc_past])) (ints_two (by simp) (by simp [World.cell?_alloc_at, World.cell?_alloc_past]) (by simp [World.cell?_alloc_at, World.cell?_alloc_past]))).mono ?_
  rintro e w1 ⟨rfl, ht, hb1⟩
  obtain ⟨hc1, hf1, hz1, hlt1, hle1⟩ := cellsIf hb1 (by (try simp); exact rfl)
  go_wp2_with fail
  refine (check0 _ w.heap.size ht).mono ?_
  rintro e w2 ⟨rfl, hb2⟩
  go_wp2
  go_ret
  exact ⟨rfl, by repeat (first | exact Below.refl _ _ | refine below_dN ?_ _ | refine Below.drew ?_ | refine Below.alloc ?_ (by first | omega | (simp; done) | (simp; omega)) _ | refine Below.setCell ?_ (by first | omega | (simp; done) | (simp; omega)) _ | refine below_step (by assumption) (by first | omega | (simp; done) | (simp; omega)) ?_)⟩

end Go.Proofs.YtkeelkpmajmjmaaDoor
