/- base.Ints. -/
import Derived.Test.YtenmeiplglbafaaData
import Derived.LoopTactic
namespace Go.Proofs.Ytenmeiplglbafaa
set_option linter.unusedSimpArgs false
set_option linter.unusedVariables false
open Go.RowKit
set_option linter.unusedVariables false

theorem nth_ext {a b : List Int} (hl : a.length = b.length) (h : ∀ k, k < a.length → nth a k = nth b k) : a = b := by
  apply List.ext_getElem hl
  intro k h1 h2
  have := h k h1
  unfold nth at this
  simpa [List.getD, List.getElem?_eq_getElem h1, List.getElem?_eq_getElem h2] using this

set_option maxHeartbeats 1000000 in
theorem bints_any (a b : List Int) (A1 A2 : Option Addr) (c1 c2 : Nat) (w : World) (h1 : IntsAt w w.heap.size A1 a) (h2 : IntsAt w w.heap.size A2 b) :
    Calls Try.prog 33 #[.slice A1 a.length c1, .slice A2 b.length c2] w fun e w' => e = .returned (.bool (decide (a = b))) ∧ Below w.heap.size w w' := by
  have l1 := h1.len
  have l2 := h2.len
  by_cases hl : a.length = b.length
  · have hd : ((a.length : Int) != (b.length : Int)) = false := by simp [hl]
    have Hl := Lib.hid hl
    clear hl
    go_enter Try.func33, Try.ntmps33
    go_wp2
    go_loopw [13] (fun i wr => ∃ k : Nat, k ≤ a.length ∧ i = .int .i64 k ∧ (∀ j, j < k → nth a j = nth b j) ∧ Below w.heap.size w wr) (fun i _ => a.length - (intOf i).toNat)
    case atStart => exact ⟨0, by omega, rfl, fun j hj => absurd hj (by omega), Below.refl _ _⟩
    case round =>
      obtain ⟨k, hk, rfl, hok, hbel⟩ := hrel
      have Hok := Lib.hid hok
      clear hok
      by_cases hlt : k < a.length
      · have hlt2 : k < b.length := by have := Hl.out; omega
        obtain ⟨b1, o1, rfl, hb1, hc1⟩ := h1.at_ hlt
        obtain ⟨b2, o2, rfl, hb2, hc2⟩ := h2.at_ hlt2
        have d1 := (hbel.cell (p := ⟨b1, o1 + k, none⟩) hb1).trans (hc1 k hlt)
        have d2 := (hbel.cell (p := ⟨b2, o2 + k, none⟩) hb2).trans (hc2 k hlt2)
        have g1 : (k : Int) < a.length := by omega
        have g2 : (k : Int) < b.length := by omega
        clear hc1 hc2
        by_cases q0 : nth a k = nth b k
        · have e0 : (nth a k != nth b k) = false := by simpa using q0
          have Q0 := Lib.hid q0
          clear q0
          go_wp2_with fail
          go_quiet (fail)
          go_wp2
          go_roundw
          case rel => exact ⟨k + 1, by omega, by go_num, fun j hj => by rcases Nat.lt_succ_iff_lt_or_eq.1 hj with h | rfl; exact Hok.out j h; exact Q0.out, by repeat (first | exact Below.refl _ _ | refine below_dN ?_ _ | refine Below.drew ?_ | refine Below.alloc ?_ (by first | omega | (simp; done) | (simp; omega)) _ | refine Below.setCell ?_ (by first | omega | (simp; done) | (simp; omega)) _ | refine below_step (by assumption) (by first | omega | (simp; done) | (simp; omega)) ?_)⟩
          case measure => simp [intOf]; omega
        · have e0 : (nth a k != nth b k) = true := by simpa using q0
          have Hf := Lib.hid (show decide (a = b) = false by simp only [decide_eq_false_iff_not]; intro h; exact q0 (by rw [h]))
          clear q0
          go_wp2_with fail
          go_quiet (fail)
          go_wp2
          go_ret
          exact ⟨bool_ret Hf.out.symm, by repeat (first | exact Below.refl _ _ | refine below_dN ?_ _ | refine Below.drew ?_ | refine Below.alloc ?_ (by first | omega | (simp; done) | (simp; omega)) _ | refine Below.setCell ?_ (by first | omega | (simp; done) | (simp; omega)) _ | refine below_step (by assumption) (by first | omega | (simp; done) | (simp; omega)) ?_)⟩
      · have Ht := Lib.hid (show decide (a = b) = true by simp only [decide_eq_true_eq]; exact nth_ext Hl.out fun j hj => Hok.out j (by omega))
        go_wp2
        go_ret
        exact ⟨bool_ret Ht.out.symm, by repeat (first | exact Below.refl _ _ | refine below_dN ?_ _ | refine Below.drew ?_ | refine Below.alloc ?_ (by first | omega | (simp; done) | (simp; omega)) _ | refine Below.setCell ?_ (by first | omega | (simp; done) | (simp; omega)) _ | refine below_step (by assumption) (by first | omega | (simp; done) | (simp; omega)) ?_)⟩
  · have hd : ((a.length : Int) != (b.length : Int)) = true := by simp; omega
    have Hf := Lib.hid (show decide (a = b) = false by simp only [decide_eq_false_iff_not]; intro h; exact hl (by rw [h]))
    clear hl
    go_enter Try.func33, Try.ntmps33
    go_wp2
    go_ret
    exact ⟨bool_ret Hf.out.symm, by repeat (first | exact Below.refl _ _ | refine below_dN ?_ _ | refine Below.drew ?_ | refine Below.alloc ?_ (by first | omega | (simp; done) | (simp; omega)) _ | refine Below.setCell ?_ (by first | omega | (simp; done) | (simp; omega)) _ | refine below_step (by assumption) (by first | omega | (simp; done) | (simp; omega)) ?_)⟩

end Go.Proofs.Ytenmeiplglbafaa
