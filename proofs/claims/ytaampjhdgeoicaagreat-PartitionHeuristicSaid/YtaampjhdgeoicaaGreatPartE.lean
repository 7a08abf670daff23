/- law38: same, large, awake. -/
import Derived.Test.YtaampjhdgeoicaaGreatMfA
import Derived.Test.YtaampjhdgeoicaaGreatMvG
namespace Go.Proofs.YtaampjhdgeoicaaGreat
set_option linter.unusedSimpArgs false
set_option linter.unusedVariables false
open Go.RowKit
set_option linter.unusedVariables false

theorem fv_ext {a b : List (Int × Int)} (hl : a.length = b.length) (h : ∀ k, k < a.length → fv a k = fv b k ∧ fx a k = fx b k) : a = b := by
 apply List.ext_getElem hl
 intro k h1 h2
 obtain ⟨x, y⟩ := h k h1
 unfold fv at x
 unfold fx at y
 simp only [List.getD, List.getElem?_eq_getElem h1, List.getElem?_eq_getElem h2, Option.getD_some] at x y
 exact Prod.ext x y

set_option maxRecDepth 4000 in
set_option maxHeartbeats 1000000 in
theorem fsame_any (a b : List (Int × Int)) (A1 A2 : Option Addr) (c1 c2 : Nat) (w : World) (h1 : FactsAt w w.heap.size A1 a) (h2 : FactsAt w w.heap.size A2 b) :
  Calls Tryz.prog 11 #[.slice A1 a.length c1, .slice A2 b.length c2] w fun e w' => e = .returned (.bool (decide (a = b))) ∧ Below w.heap.size w w' := by
 have l1 := h1.len
 have l2 := h2.len
 by_cases hl : a.length = b.length
 ·have hd : ((a.length : Int) != (b.length : Int)) = false := by simp [hl]
  have Hl := Lib.hid hl
  clear hl
  go_enter Tryz.func11, Tryz.ntmps11
  go_wp2
  go_loopw [13] (fun i wr => ∃ k : Nat, k ≤ a.length ∧ i = .int .i64 k ∧ (∀ j, j < k → fv a j = fv b j ∧ fx a j = fx b j) ∧ Below w.heap.size w wr) (fun i _ => a.length - (intOf i).toNat)
  case atStart => exact ⟨0, by omega, rfl, fun j hj => absurd hj (by omega), Below.refl _ _⟩
  case round =>
   obtain ⟨k, hk, rfl, hok, hbel⟩ := hrel
   have Hok := Lib.hid hok
   clear hok
   by_cases hlt : k < a.length
   ·have hlt2 : k < b.length := by have := Hl.out; omega
    obtain ⟨b1, o1, rfl, hb1, hc1⟩ := h1.at_ hlt
    obtain ⟨b2, o2, rfl, hb2, hc2⟩ := h2.at_ hlt2
    have d1 := (hbel.cell (p := ⟨b1, o1 + k * 2, none⟩) hb1).trans (hc1 k hlt).1
    have d2 := (hbel.cell (p := ⟨b1, o1 + k * 2 + 1, none⟩) hb1).trans (hc1 k hlt).2
    have d3 := (hbel.cell (p := ⟨b2, o2 + k * 2, none⟩) hb2).trans (hc2 k hlt2).1
    have d4 := (hbel.cell (p := ⟨b2, o2 + k * 2 + 1, none⟩) hb2).trans (hc2 k hlt2).2
    have g1 : (k : Int) < a.length := by omega
    have g2 : (k : Int) < b.length := by omega
    have g0 : (0 : Int) ≤ (k : Int) := by omega
    clear hc1 hc2
    by_cases q0 : fv a k = fv b k ∧ fx a k = fx b k
    ·have hne : ∀ w, (binOp .neq 45 (.agg #[.int .i64 (fv a k), .int .i64 (fx a k)]) (.agg #[.int .i64 (fv b k), .int .i64 (fx b k)])).run Tryz.prog w = .ok (.bool false) w := by
      intro w; rw [q0.1, q0.2]; simp [go_sem]
     have Q0 := Lib.hid q0
     clear q0
     go_wp2_with fail
     go_quiet (fail)
     go_wp2
     go_roundw
     case rel => exact ⟨k + 1, by omega, by go_num, fun j hj => by rcases Nat.lt_succ_iff_lt_or_eq.1 hj with h | rfl; exact Hok.out j h; exact Q0.out, by exact bel⟩
     case measure => simp [intOf]; omega
    ·have hne : ∀ w, (binOp .neq 45 (.agg #[.int .i64 (fv a k), .int .i64 (fx a k)]) (.agg #[.int .i64 (fv b k), .int .i64 (fx b k)])).run Tryz.prog w = .ok (.bool true) w := by
      intro w
      by_cases e1 : fv a k = fv b k
      ·have e2 : fx a k ≠ fx b k := fun h => q0 ⟨e1, h⟩
       simp [go_sem, e1, e2]
      ·simp [go_sem, e1]
     have Hf := Lib.hid (show decide (a = b) = false by simp only [decide_eq_false_iff_not]; intro h; exact q0 (by rw [h]; exact ⟨rfl, rfl⟩))
     clear q0
     go_wp2_with fail
     go_quiet (fail)
     go_wp2
     go_ret
     exact ⟨bool_ret Hf.out.symm, by exact bel⟩
   ·have Ht := Lib.hid (show decide (a = b) = true by simp only [decide_eq_true_eq]; exact fv_ext Hl.out fun j hj => Hok.out j (by omega))
    go_wp2
    go_ret
    exact ⟨bool_ret Ht.out.symm, by exact bel⟩
 ·have hd : ((a.length : Int) != (b.length : Int)) = true := by simp; omega
  have Hf := Lib.hid (show decide (a = b) = false by simp only [decide_eq_false_iff_not]; intro h; exact hl (by rw [h]))
  clear hl
  go_enter Tryz.func11, Tryz.ntmps11
  go_wp2
  go_ret
  exact ⟨bool_ret Hf.out.symm, by exact bel⟩

/-- A list of numbers, of cuts, of fractions, cell by cell. -/
theorem ints_lit {w : World} {C b : Nat} {l : List Int} (hb : b < C) (hl : l.length ≤ 140737488355328) (h : ∀ k, k < l.length → w.cell? ⟨b, k, none⟩ = some (.int .i64 (nth l k))) : IntsAt w C (some ⟨b, 0, none⟩) l :=
 ⟨hl, fun _ => ⟨b, 0, rfl, hb, fun k hk => by simpa using h k hk⟩⟩
def K0 : List Cut := [⟨[0, 1], 0⟩, ⟨[1, 2], 0⟩, ⟨[0, 2], 0⟩]
theorem cutsAt0 {w : World} {B : Nat} (hs : B + 5 ≤ w.heap.size) (g0 : ∀ k, k < 2 → w.cell? ⟨B + 1, k, none⟩ = some (.int .i64 (nth [0, 1] k))) (g1 : ∀ k, k < 2 → w.cell? ⟨B + 2, k, none⟩ = some (.int .i64 (nth [1, 2] k))) (g2 : ∀ k, k < 2 → w.cell? ⟨B + 3, k, none⟩ = some (.int .i64 (nth [0, 2] k)))
    (a0 : w.cell? ⟨B + 4, 0, none⟩ = some (.slice (some ⟨B + 1, 0, none⟩) 2 2)) (a1 : w.cell? ⟨B + 4, 1, none⟩ = some (.int .i64 0)) (a2 : w.cell? ⟨B + 4, 2, none⟩ = some (.slice (some ⟨B + 2, 0, none⟩) 2 2)) (a3 : w.cell? ⟨B + 4, 3, none⟩ = some (.int .i64 0)) (a4 : w.cell? ⟨B + 4, 4, none⟩ = some (.slice (some ⟨B + 3, 0, none⟩) 2 2)) (a5 : w.cell? ⟨B + 4, 5, none⟩ = some (.int .i64 0)) :
    CutsAt w w.heap.size (some ⟨B + 4, 0, none⟩) K0 :=
  ⟨by decide, fun _ => ⟨B + 4, 0, rfl, by omega, fun k hk => by
    have : k = 0 ∨ k = 1 ∨ k = 2 := by have : K0.length = 3 := rfl
                                       omega
    rcases this with rfl | rfl | rfl
    · exact ⟨_, _, a0, ints_lit (by omega) (by decide) g0, a1⟩
    · exact ⟨_, _, a2, ints_lit (by omega) (by decide) g1, a3⟩
    · exact ⟨_, _, a4, ints_lit (by omega) (by decide) g2, a5⟩⟩⟩
theorem uni0 (w : World) (B : Nat) (h1 : IntsAt w w.heap.size (some ⟨B, 0, none⟩) [3, 1, 2]) (h2 : CutsAt w w.heap.size (some ⟨B + 4, 0, none⟩) K0) :
  Calls Tryz.prog 10 #[.slice (some ⟨B, 0, none⟩) 3 3, .slice (some ⟨B + 4, 0, none⟩) 3 3] w (RetFs [(1, 2), (1, 2), (1, 1)] .nilIface w) := by
 have h := uniform_any [3, 1, 2] K0 (some ⟨B, 0, none⟩) (some ⟨B + 4, 0, none⟩) 3 3 w h1 h2 (by decide)
 have e1 : uniR [3, 1, 2] K0 = [(1, 2), (1, 2), (1, 1)] := by decide +kernel
 have e2 : chk38 [3, 1, 2] K0 = 0 := by decide +kernel
 rw [e1, e2] at h
 exact h
theorem facts_lit {w : World} {C b : Nat} {l : List (Int × Int)} (hb : b < C) (hl : l.length ≤ 140737488355328) (h : ∀ k, k < l.length → w.cell? ⟨b, k * 2, none⟩ = some (.int .i64 (fv l k)) ∧ w.cell? ⟨b, k * 2 + 1, none⟩ = some (.int .i64 (fx l k))) : FactsAt w C (some ⟨b, 0, none⟩) l :=
 ⟨hl, fun _ => ⟨b, 0, rfl, hb, fun k hk => by simpa using h k hk⟩⟩
theorem same0 (w : World) (A : Option Addr) (c b : Nat) (h1 : FactsAt w w.heap.size A [(1, 2), (1, 2), (1, 1)]) (h2 : FactsAt w w.heap.size (some ⟨b, 0, none⟩) [(1, 2), (1, 2), (1, 1)]) :
  Calls Tryz.prog 11 #[.slice A 3 c, .slice (some ⟨b, 0, none⟩) 3 3] w fun e w' => e = .returned (.bool true) ∧ Below w.heap.size w w' := by
 have h := fsame_any _ _ A (some ⟨b, 0, none⟩) c 3 w h1 h2
 simpa using h

set_option maxRecDepth 4000 in
set_option maxHeartbeats 2000000 in
theorem awake38_any (w : World) : Calls Tryz.prog 4 #[] w fun e w' => e = .returned (.bool true) ∧ Below w.heap.size w w' := by
 go_enter Tryz.func4, Tryz.ntmps4
 go_wp2_with fail
 refine (uni0 _ w.heap.size (ints_lit (by simp; omega) (by decide) fun k hk => ?_) (cutsAt0 (by simp) (fun k hk => ?_) (fun k hk => ?_) (fun k hk => ?_) ?_ ?_ ?_ ?_ ?_ ?_)).mono ?_
 ·have : k = 0 ∨ k = 1 ∨ k = 2 := by simp at hk; omega
  have hbl := fun k => (show Below (w.alloc (.cells #[.int .i64 3, .int .i64 1, .int .i64 2] 3)).heap.size (w.alloc (.cells #[.int .i64 3, .int .i64 1, .int .i64 2] 3)) (((((w.alloc (.cells #[.int .i64 3, .int .i64 1, .int .i64 2] 3)).alloc (.cells #[.int .i64 0, .int .i64 1] 3)).alloc (.cells #[.int .i64 1, .int .i64 2] 3)).alloc (.cells #[.int .i64 0, .int .i64 2] 3)).alloc (.cells #[.slice (some ⟨w.heap.size + 1, 0, none⟩) 2 2, .int .i64 0, .slice (some ⟨w.heap.size + 1 + 1, 0, none⟩) 2 2, .int .i64 0, .slice (some ⟨w.heap.size + 1 + 1 + 1, 0, none⟩) 2 2, .int .i64 0] 41)) by exact bel).cell (p := ⟨w.heap.size, k, none⟩) (by simp)
  rcases this with rfl | rfl | rfl <;> exact (hbl _).trans (by simp [nth])
 iterate 3 (have : k = 0 ∨ k = 1 := (by omega); rcases this with rfl | rfl <;> simp [World.cell?_alloc_at, World.cell?_alloc_past, nth])
 iterate 6 (simp [World.cell?_alloc_at, World.cell?_alloc_past])
 rintro e w1 ⟨⟨v, rfl, A, c, rfl, _, hA⟩, hb1⟩
 obtain ⟨hc1, hf1, hz1, hlt1, hle1⟩ := cellsIf hb1 (by (try simp); exact rfl)
 go_wp2_with fail
 refine (same0 _ A c w1.heap.size (hA.keep (fun _ hp => (show Below w1.heap.size w1 _ by exact bel).cell hp) (by simp)) (facts_lit (by simp) (by decide) fun k hk => ?_)).mono ?_
 ·have : k = 0 ∨ k = 1 ∨ k = 2 := by simp at hk; omega
  rcases this with rfl | rfl | rfl <;> simp [World.cell?_alloc_at, World.cell?_alloc_past, fv, fx]
 rintro e w2 ⟨rfl, hb2⟩
 go_wp2
 go_ret
 exact ⟨rfl, by exact bel⟩

end Go.Proofs.YtaampjhdgeoicaaGreat
