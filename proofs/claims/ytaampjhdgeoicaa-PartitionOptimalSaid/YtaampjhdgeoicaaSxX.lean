/- simplex: awake. -/
import Derived.Test.YtaampjhdgeoicaaSxW
namespace Go.Proofs.Ytaampjhdgeoicaa
set_option linter.unusedSimpArgs false
set_option linter.unusedVariables false
open Go Go.RowKit
set_option linter.unusedVariables false

theorem fracs2 (x y : Int) (H : Nat) (w : World) (h : w.heap[H]? = some (.cells #[.int .i64 x, .int .i64 y] 3 (0, 0))) : Calls Try.prog 23 #[.slice (some ⟨H, 0, none⟩) 2 2] w fun e w' => (∃ A' c', e = .returned (.slice A' 2 c') ∧ FactsAt w' w'.heap.size A' [(x, 1), (y, 1)]) ∧ Below w.heap.size w w' :=
  fracs_any [x, y] (some ⟨H, 0, none⟩) 2 w (block_ints h (by simp)) (by simp)
theorem solve_aw (A1 A4 : Option Addr) (c1 c4 Hm : Nat) (w : World) (F1 : FactsAt w w.heap.size A1 aC) (FR : MxAt w (some ⟨Hm, 0, none⟩) aR) (F4 : FactsAt w w.heap.size A4 aB) : Calls Try.prog 8 #[.slice A1 2 c1, .slice (some ⟨Hm, 0, none⟩) 2 2, .slice A4 2 c4] w fun e w' => (∃ bx bY, e = .returned (.tuple #[.agg #[.int .i64 14, .int .i64 5], .slice (some ⟨bx, 0, none⟩) 2 2, .slice (some ⟨bY, 0, none⟩) 2 2, .nilIface]) ∧ FactsAt w' w'.heap.size (some ⟨bx, 0, none⟩) [(8, 5), (6, 5)] ∧ FactsAt w' w'.heap.size (some ⟨bY, 0, none⟩) [(2, 5), (1, 5)]) ∧ Below w.heap.size w w' :=
  (solve_any aC aR aB A1 (some ⟨Hm, 0, none⟩) A4 c1 2 c4 w F1 FR F4).mono fun e w' h => ⟨aw_ret h.1, h.2⟩
theorem smB_self (l : List (Int × Int)) : smB l l = true := by
  unfold smB
  rw [decide_eq_true rfl, Bool.true_and]
  cases h : anyB l.length (dfB l l)
  · rfl
  · obtain ⟨k, _, hk⟩ := anyB_true.1 h
    unfold dfB at hk
    simp at hk
theorem same2 (a b c d : Int) (x H : Nat) (w : World) (h1 : FactsAt w w.heap.size (some ⟨x, 0, none⟩) [(a, b), (c, d)]) (h2 : w.heap[H]? = some (.cells #[.int .i64 a, .int .i64 b, .int .i64 c, .int .i64 d] 29 (0, 0))) : Calls Try.prog 10 #[.slice (some ⟨x, 0, none⟩) 2 2, .slice (some ⟨H, 0, none⟩) 2 2] w fun e w' => e = .returned (.bool true) ∧ Below w.heap.size w w' := by
  have h := same_any [(a, b), (c, d)] [(a, b), (c, d)] (some ⟨x, 0, none⟩) (some ⟨H, 0, none⟩) 2 2 w h1 (block_facts h2 (by simp))
  rw [smB_self] at h
  exact h
theorem facts_some {w : World} {A : Option Addr} {x : Int × Int} {l : List (Int × Int)} (h : FactsAt w w.heap.size A (x :: l)) : A ≠ none := fun e => by
  obtain ⟨b, off, e2, _⟩ := h.2 (by simp)
  rw [e] at e2; cases e2
theorem mx_aw {w : World} {H : Nat} {A2 A3 : Option Addr} {c2 c3 : Nat} (h : w.heap[H]? = some (.cells #[.slice A2 2 c2, .slice A3 2 c3] 22 (0, 0))) (F2 : FactsAt w w.heap.size A2 [(1, 1), (2, 1)]) (F3 : FactsAt w w.heap.size A3 [(3, 1), (1, 1)]) : MxAt w (some ⟨H, 0, none⟩) aR :=
  ⟨by decide, fun _ => ⟨H, 0, rfl, (Array.getElem?_eq_some_iff.1 h).1, two_cases
    ⟨A2, c2, by have := cell_of_row w H 0 _ 22 (0, 0) h; simp at this; exact this, fun e => absurd e (facts_some F2), F2⟩
    ⟨A3, c3, by have := cell_of_row w H 1 _ 22 (0, 0) h; simp at this; exact this, fun e => absurd e (facts_some F3), F3⟩⟩⟩

set_option maxRecDepth 100000 in
set_option maxHeartbeats 8000000 in
theorem awake37_any (w : World) : Calls Try.prog 6 #[] w fun e w' => e = .returned (.bool true) ∧ Below w.heap.size w w' := by
  have KF := Lib.hid fracs2
  have KS := Lib.hid solve_aw
  have KE := Lib.hid same2
  go_enter Try.func6, Try.ntmps6
  go_wp2_with fail
  refine (KF.out 1 1 w.heap.size _ (heap_alloc_new _ _)).mono ?_
  rintro e w1 ⟨⟨A1, c1, rfl, F1⟩, hb1⟩
  have B1 : Below w.heap.size w w1 := ((Below.refl _ _).alloc (Nat.le_refl _) _).trans (hb1.mono (by simp))
  have z1 := B1.size
  clear hb1
  go_wp2_with fail
  refine (KF.out 1 2 w1.heap.size _ (heap_alloc_new _ _)).mono ?_
  rintro e w2 ⟨⟨A2, c2, rfl, F2⟩, hb2⟩
  have B2 : Below w1.heap.size w1 w2 := ((Below.refl _ _).alloc (Nat.le_refl _) _).trans (hb2.mono (by simp))
  have z2 := B2.size
  have F12 := factsAt_up F1 B2
  clear hb2 F1
  go_wp2_with fail
  refine (KF.out 3 1 w2.heap.size _ (heap_alloc_new _ _)).mono ?_
  rintro e w3 ⟨⟨A3, c3, rfl, F3⟩, hb3⟩
  have B3 : Below w2.heap.size w2 w3 := ((Below.refl _ _).alloc (Nat.le_refl _) _).trans (hb3.mono (by simp))
  have z3 := B3.size
  have F13 := factsAt_up F12 B3
  have F23 := factsAt_up F2 B3
  clear hb3 F12 F2
  go_wp2_with fail
  refine (KF.out 4 6 (w3.heap.size + 1) _ (heap_two2 _ _ _)).mono ?_
  rintro e w4 ⟨⟨A4, c4, rfl, F4⟩, hb4⟩
  have B4 : Below w3.heap.size w3 w4 := (((Below.refl _ _).alloc (Nat.le_refl _) _).alloc (by simp) _).trans (hb4.mono (by simp; omega))
  have z4 := B4.size
  have hm : w4.heap[w3.heap.size]? = some (.cells #[.slice A2 2 c2, .slice A3 2 c3] 22 (0, 0)) := (hb4.block _ (by simp; omega)).trans (((Below.refl (w3.heap.size + 1) (w3.alloc (.cells #[.slice A2 2 c2, .slice A3 2 c3] 22))).alloc (by simp) _).block w3.heap.size (by omega) |>.trans (heap_alloc_new _ _))
  have FR := mx_aw hm (factsAt_up F23 B4) (factsAt_up F3 B4)
  have F14 := factsAt_up F13 B4
  clear hb4 hm F23 F3 F13
  go_wp2_with fail
  refine (KS.out A1 A4 c1 c4 w3.heap.size w4 F14 FR F4).mono ?_
  rintro e w5 ⟨⟨bx, bY, rfl, FX, FY⟩, hb5⟩
  have B5 : Below w.heap.size w w5 := B1.trans ((B2.trans ((B3.trans ((B4.trans (hb5.mono z4)).mono z3)).mono z2)).mono z1)
  have z5 := B5.size
  clear F14 FR F4 hb5 B1 B2 B3 B4 z1 z2 z3 z4
  go_wp2_with fail
  refine (KE.out 8 5 6 5 bx (w5.heap.size + 1) _ (factsAt_up FX (((Below.refl _ _).alloc (Nat.le_refl _) _).alloc (by simp) _)) (heap_two2 _ _ _)).mono ?_
  rintro e w6 ⟨rfl, hb6⟩
  have B6 : Below w5.heap.size w5 w6 := (((Below.refl _ _).alloc (Nat.le_refl _) _).alloc (by simp) _).trans (hb6.mono (by simp; omega))
  have z6 := B6.size
  have FY6 := factsAt_up FY B6
  clear hb6 FX FY
  go_wp2_with fail
  refine (KE.out 2 5 1 5 bY w6.heap.size _ (factsAt_up FY6 ((Below.refl _ _).alloc (Nat.le_refl _) _)) (heap_alloc_new _ _)).mono ?_
  rintro e w7 ⟨rfl, hb7⟩
  have B7 : Below w.heap.size w w7 := B5.trans ((B6.trans ((((Below.refl _ _).alloc (Nat.le_refl _) _).trans (hb7.mono (by simp))).mono z6)).mono z5)
  clear hb7 FY6 B5 B6
  go_wp2
  go_ret
  exact ⟨rfl, B7⟩

end Go.Proofs.Ytaampjhdgeoicaa
