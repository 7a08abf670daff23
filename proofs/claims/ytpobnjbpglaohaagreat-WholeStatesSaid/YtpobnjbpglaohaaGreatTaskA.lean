/- Contracts of Proper, State, Facts, Holds. -/
import Derived.Test.YtpobnjbpglaohaaGreatWgA
import Derived.LoopTactic
namespace Go.Proofs.YtpobnjbpglaohaaGreat
set_option linter.unusedSimpArgs false
set_option linter.unusedVariables false
open Go.RowKit
set_option linter.unusedVariables false

set_option maxHeartbeats 1000000 in
theorem proper_any (vars s : List Int) (A1 A2 : Option Addr) (c1 c2 : Nat) (w : World) (h1 : IntsAt w w.heap.size A1 vars) (h2 : IntsAt w w.heap.size A2 s) :
    Calls Tryz.prog 44 #[.slice A1 vars.length c1, .slice A2 s.length c2] w fun e w' => e = .returned (.bool (stB vars s)) ∧ Below w.heap.size w w' := by
  have l1 := h1.len
  have l2 := h2.len
  by_cases hl : s.length = vars.length
  · have hd : ((s.length : Int) != (vars.length : Int)) = false := by simp [hl]
    have Hl := Lib.hid hl
    clear hl
    go_enter Tryz.func44, Tryz.ntmps44
    go_wp2
    go_loopw [14] (fun i wr => ∃ k : Nat, k ≤ s.length ∧ i = .int .i64 k ∧ (∀ j, j < k → 0 ≤ nth s j ∧ nth s j < nth vars j) ∧ Below w.heap.size w wr) (fun i _ => s.length - (intOf i).toNat)
    case atStart => exact ⟨0, by omega, rfl, fun j hj => absurd hj (by omega), Below.refl _ _⟩
    case round =>
      obtain ⟨k, hk, rfl, hok, hbel⟩ := hrel
      have Hok := Lib.hid hok
      clear hok
      by_cases hlt : k < s.length
      · have hlt2 : k < vars.length := by have := Hl.out; omega
        obtain ⟨b1, o1, rfl, hb1, hc1⟩ := h1.at_ hlt2
        obtain ⟨b2, o2, rfl, hb2, hc2⟩ := h2.at_ hlt
        have d1 := (hbel.cell (p := ⟨b1, o1 + k, none⟩) hb1).trans (hc1 k hlt2)
        have d2 := (hbel.cell (p := ⟨b2, o2 + k, none⟩) hb2).trans (hc2 k hlt)
        clear hc1 hc2
        by_cases q0 : nth s k < 0
        · have Hf := Lib.hid (show stB vars s = false by unfold stB; simp only [decide_eq_false_iff_not]; intro h; have := (h.2 k hlt).1; omega)
          have e0 : decide (nth s k < 0) = true := by simpa using q0
          go_wp2
          go_ret
          refine ⟨bool_ret (by rw [Hf.out]), ?_⟩
          repeat (first | exact Below.refl _ _ | refine below_dN ?_ _ | refine Below.drew ?_ | refine Below.alloc ?_ (by first | omega | (simp; done) | (simp; omega)) _ | refine Below.setCell ?_ (by first | omega | (simp; done) | (simp; omega)) _ | refine below_step (by assumption) (by first | omega | (simp; done) | (simp; omega)) ?_)
        have e0 : decide (nth s k < 0) = false := by simpa using q0
        by_cases q1 : nth vars k ≤ nth s k
        · have Hf := Lib.hid (show stB vars s = false by unfold stB; simp only [decide_eq_false_iff_not]; intro h; have := (h.2 k hlt).2; omega)
          have e1 : decide (nth vars k ≤ nth s k) = true := by simpa using q1
          go_wp2
          go_ret
          refine ⟨bool_ret (by rw [Hf.out]), ?_⟩
          repeat (first | exact Below.refl _ _ | refine below_dN ?_ _ | refine Below.drew ?_ | refine Below.alloc ?_ (by first | omega | (simp; done) | (simp; omega)) _ | refine Below.setCell ?_ (by first | omega | (simp; done) | (simp; omega)) _ | refine below_step (by assumption) (by first | omega | (simp; done) | (simp; omega)) ?_)
        have e1 : decide (nth vars k ≤ nth s k) = false := by simpa using q1
        go_wp2


        go_roundw
        case rel => exact ⟨k + 1, by omega, by go_num, fun j hj => by rcases Nat.lt_succ_iff_lt_or_eq.1 hj with h | rfl; exact Hok.out j h; exact ⟨by omega, by omega⟩, by exact hbel⟩
        case measure => simp [intOf]; omega
      · have Ht := Lib.hid (show stB vars s = true by unfold stB; simp only [decide_eq_true_eq]; exact ⟨Hl.out, fun j hj => Hok.out j (by omega)⟩)
        go_wp2
        go_ret
        refine ⟨bool_ret (by rw [Ht.out]), ?_⟩
        repeat (first | exact Below.refl _ _ | refine below_dN ?_ _ | refine Below.drew ?_ | refine Below.alloc ?_ (by first | omega | (simp; done) | (simp; omega)) _ | refine Below.setCell ?_ (by first | omega | (simp; done) | (simp; omega)) _ | refine below_step (by assumption) (by first | omega | (simp; done) | (simp; omega)) ?_)
  · have hd : ((s.length : Int) != (vars.length : Int)) = true := by simp; omega
    have Hf := Lib.hid (show stB vars s = false by unfold stB; simp only [decide_eq_false_iff_not]; intro h; exact hl h.1)
    clear hl
    go_enter Tryz.func44, Tryz.ntmps44
    go_wp2
    go_ret
    refine ⟨bool_ret (by rw [Hf.out]), ?_⟩
    repeat (first | exact Below.refl _ _ | refine below_dN ?_ _ | refine Below.drew ?_ | refine Below.alloc ?_ (by first | omega | (simp; done) | (simp; omega)) _ | refine Below.setCell ?_ (by first | omega | (simp; done) | (simp; omega)) _ | refine below_step (by assumption) (by first | omega | (simp; done) | (simp; omega)) ?_)

set_option maxHeartbeats 1000000 in
theorem state_any (vars s : List Int) (A1 A2 : Option Addr) (c1 c2 : Nat) (w : World) (h1 : IntsAt w w.heap.size A1 vars) (h2 : IntsAt w w.heap.size A2 s) :
    Calls Tryz.prog 45 #[.slice A1 vars.length c1, .slice A2 s.length c2] w fun e w' => e = .returned (.bool (stB vars s)) ∧ Below w.heap.size w w' := by
  have l1 := h1.len
  have l2 := h2.len
  by_cases hl : s.length = vars.length
  · have hd : ((s.length : Int) != (vars.length : Int)) = false := by simp [hl]
    have Hl := Lib.hid hl
    clear hl
    go_enter Tryz.func45, Tryz.ntmps45
    go_wp2
    go_loopw [13] (fun i wr => ∃ k : Nat, k ≤ s.length ∧ i = .int .i64 k ∧ (∀ j, j < k → 0 ≤ nth s j ∧ nth s j < nth vars j) ∧ Below w.heap.size w wr) (fun i _ => s.length - (intOf i).toNat)
    case atStart => exact ⟨0, by omega, rfl, fun j hj => absurd hj (by omega), Below.refl _ _⟩
    case round =>
      obtain ⟨k, hk, rfl, hok, hbel⟩ := hrel
      have Hok := Lib.hid hok
      clear hok
      by_cases hlt : k < s.length
      · have hlt2 : k < vars.length := by have := Hl.out; omega
        obtain ⟨b1, o1, rfl, hb1, hc1⟩ := h1.at_ hlt2
        obtain ⟨b2, o2, rfl, hb2, hc2⟩ := h2.at_ hlt
        have d1 := (hbel.cell (p := ⟨b1, o1 + k, none⟩) hb1).trans (hc1 k hlt2)
        have d2 := (hbel.cell (p := ⟨b2, o2 + k, none⟩) hb2).trans (hc2 k hlt)
        clear hc1 hc2
        by_cases q0 : nth s k < 0
        · have Hf := Lib.hid (show stB vars s = false by unfold stB; simp only [decide_eq_false_iff_not]; intro h; have := (h.2 k hlt).1; omega)
          have e0 : decide (nth s k < 0) = true := by simpa using q0
          go_wp2
          go_quiet (fail)
          go_wp2
          go_ret
          refine ⟨bool_ret (by rw [Hf.out]), ?_⟩
          repeat (first | exact Below.refl _ _ | refine below_dN ?_ _ | refine Below.drew ?_ | refine Below.alloc ?_ (by first | omega | (simp; done) | (simp; omega)) _ | refine Below.setCell ?_ (by first | omega | (simp; done) | (simp; omega)) _ | refine below_step (by assumption) (by first | omega | (simp; done) | (simp; omega)) ?_)
        have e0 : decide (nth s k < 0) = false := by simpa using q0
        by_cases q1 : nth vars k ≤ nth s k
        · have Hf := Lib.hid (show stB vars s = false by unfold stB; simp only [decide_eq_false_iff_not]; intro h; have := (h.2 k hlt).2; omega)
          have e1 : decide (nth vars k ≤ nth s k) = true := by simpa using q1
          go_wp2
          go_quiet (fail)
          go_wp2
          go_ret
          refine ⟨bool_ret (by rw [Hf.out]), ?_⟩
          repeat (first | exact Below.refl _ _ | refine below_dN ?_ _ | refine Below.drew ?_ | refine Below.alloc ?_ (by first | omega | (simp; done) | (simp; omega)) _ | refine Below.setCell ?_ (by first | omega | (simp; done) | (simp; omega)) _ | refine below_step (by assumption) (by first | omega | (simp; done) | (simp; omega)) ?_)
        have e1 : decide (nth vars k ≤ nth s k) = false := by simpa using q1
        go_wp2
        go_quiet (fail)
        go_wp2
        go_roundw
        case rel => exact ⟨k + 1, by omega, by go_num, fun j hj => by rcases Nat.lt_succ_iff_lt_or_eq.1 hj with h | rfl; exact Hok.out j h; exact ⟨by omega, by omega⟩, by exact below_dN hbel _⟩
        case measure => simp [intOf]; omega
      · have Ht := Lib.hid (show stB vars s = true by unfold stB; simp only [decide_eq_true_eq]; exact ⟨Hl.out, fun j hj => Hok.out j (by omega)⟩)
        go_wp2
        go_ret
        refine ⟨bool_ret (by rw [Ht.out]), ?_⟩
        repeat (first | exact Below.refl _ _ | refine below_dN ?_ _ | refine Below.drew ?_ | refine Below.alloc ?_ (by first | omega | (simp; done) | (simp; omega)) _ | refine Below.setCell ?_ (by first | omega | (simp; done) | (simp; omega)) _ | refine below_step (by assumption) (by first | omega | (simp; done) | (simp; omega)) ?_)
  · have hd : ((s.length : Int) != (vars.length : Int)) = true := by simp; omega
    have Hf := Lib.hid (show stB vars s = false by unfold stB; simp only [decide_eq_false_iff_not]; intro h; exact hl h.1)
    clear hl
    go_enter Tryz.func45, Tryz.ntmps45
    go_wp2
    go_ret
    refine ⟨bool_ret (by rw [Hf.out]), ?_⟩
    repeat (first | exact Below.refl _ _ | refine below_dN ?_ _ | refine Below.drew ?_ | refine Below.alloc ?_ (by first | omega | (simp; done) | (simp; omega)) _ | refine Below.setCell ?_ (by first | omega | (simp; done) | (simp; omega)) _ | refine below_step (by assumption) (by first | omega | (simp; done) | (simp; omega)) ?_)

/-- One fact is in order. -/
def FaOne (vars : List Int) (f : List (Int × Int)) (k : Nat) : Prop :=
  0 ≤ (fv f k) ∧ (fv f k) < vars.length ∧ 0 ≤ (fx f k) ∧ (fx f k) < nth vars (fv f k).toNat ∧ (0 < k → fv f (k - 1) < (fv f k))
/-- The last variable before fact k; -1 at the start. -/
def lastV (f : List (Int × Int)) (k : Nat) : Int := if k = 0 then -1 else fv f (k - 1)
theorem lastV_succ (f : List (Int × Int)) (k : Nat) : lastV f (k + 1) = fv f k := by unfold lastV; simp
theorem fa_last {vars : List Int} {f : List (Int × Int)} {k : Nat} (h : FaP vars f) (hk : k < f.length) (q : fv f k ≤ lastV f k) : False := by
  have h1 := h k hk
  unfold lastV at q
  split at q
  · omega
  · have := h1.2.2.2.2 (by omega); omega
theorem fa_one {vars : List Int} {f : List (Int × Int)} {k : Nat} (p0 : 0 ≤ fv f k) (p1 : fv f k < vars.length) (p2 : 0 ≤ fx f k) (p3 : fx f k < nth vars (fv f k).toNat) (q : lastV f k < fv f k) : FaOne vars f k :=
  ⟨p0, p1, p2, p3, fun h => by unfold lastV at q; rw [if_neg (by omega)] at q; exact q⟩

set_option maxHeartbeats 1000000 in
theorem facts_any (vars : List Int) (f : List (Int × Int)) (A1 A2 : Option Addr) (c1 c2 : Nat) (w : World) (h1 : IntsAt w w.heap.size A1 vars) (h2 : FactsAt w w.heap.size A2 f) :
    Calls Tryz.prog 54 #[.slice A1 vars.length c1, .slice A2 f.length c2] w fun e w' => e = .returned (.bool (faB vars f)) ∧ Below w.heap.size w w' := by
  have l1 := h1.len
  have l2 := h2.len
  go_enter Tryz.func54, Tryz.ntmps54
  go_wp2
  go_loopw [5, 10] (fun v i wr => ∃ k : Nat, k ≤ f.length ∧ v = .int .i64 (lastV f k) ∧ i = .int .i64 k ∧ ((∀ j, j < k → FaOne vars f j) ∧ -1 ≤ lastV f k) ∧ Below w.heap.size w wr) (fun _ i _ => f.length - (intOf i).toNat)
  case atStart => exact ⟨0, by omega, rfl, rfl, ⟨fun j hj => absurd hj (by omega), by unfold lastV; simp⟩, Below.refl _ _⟩
  case round =>
    obtain ⟨k, hk, rfl, rfl, hok, hbel⟩ := hrel
    have Hok := Lib.hid hok
    clear hok
    by_cases hlt : k < f.length
    · skip
      obtain ⟨b2, o2, rfl, hb2, hc2⟩ := h2.at_ hlt
      have hbz := hbel.size
      have d1 := (hbel.cell (p := ⟨b2, o2 + k * 2, none⟩) hb2).trans (hc2 k hlt).1
      have d2 := (hbel.cell (p := ⟨b2, o2 + k * 2 + 1, none⟩) hb2).trans (hc2 k hlt).2
      have g2 : b2 < wr.heap.size := by omega
      have lv := Hok.out.2
      by_cases q0 : fv f k ≤ lastV f k
      · have Hf := Lib.hid (show faB vars f = false by unfold faB; simp only [decide_eq_false_iff_not]; intro h; exact fa_last h hlt q0)
        have e0 : decide (fv f k ≤ lastV f k) = true := by simpa using q0
        go_wp2
        go_quiet (fail)
        go_wp2
        go_ret
        refine ⟨bool_ret (by rw [Hf.out]), ?_⟩
        repeat (first | exact Below.refl _ _ | refine below_dN ?_ _ | refine Below.drew ?_ | refine Below.alloc ?_ (by first | omega | (simp; done) | (simp; omega)) _ | refine Below.setCell ?_ (by first | omega | (simp; done) | (simp; omega)) _ | refine below_step (by assumption) (by first | omega | (simp; done) | (simp; omega)) ?_)
      have e0 : decide (fv f k ≤ lastV f k) = false := by simpa using q0
      by_cases q1 : (vars.length : Int) ≤ fv f k
      · have Hf := Lib.hid (show faB vars f = false by unfold faB; simp only [decide_eq_false_iff_not]; intro h; have := (h k hlt).2.1; omega)
        have e1 : decide ((vars.length : Int) ≤ fv f k) = true := by simpa using q1
        go_wp2
        go_quiet (fail)
        go_wp2
        go_ret
        refine ⟨bool_ret (by rw [Hf.out]), ?_⟩
        repeat (first | exact Below.refl _ _ | refine below_dN ?_ _ | refine Below.drew ?_ | refine Below.alloc ?_ (by first | omega | (simp; done) | (simp; omega)) _ | refine Below.setCell ?_ (by first | omega | (simp; done) | (simp; omega)) _ | refine below_step (by assumption) (by first | omega | (simp; done) | (simp; omega)) ?_)
      have e1 : decide ((vars.length : Int) ≤ fv f k) = false := by simpa using q1
      by_cases q2 : fx f k < 0
      · have Hf := Lib.hid (show faB vars f = false by unfold faB; simp only [decide_eq_false_iff_not]; intro h; have := (h k hlt).2.2.1; omega)
        have e2 : decide (fx f k < 0) = true := by simpa using q2
        go_wp2
        go_quiet (fail)
        go_wp2
        go_ret
        refine ⟨bool_ret (by rw [Hf.out]), ?_⟩
        repeat (first | exact Below.refl _ _ | refine below_dN ?_ _ | refine Below.drew ?_ | refine Below.alloc ?_ (by first | omega | (simp; done) | (simp; omega)) _ | refine Below.setCell ?_ (by first | omega | (simp; done) | (simp; omega)) _ | refine below_step (by assumption) (by first | omega | (simp; done) | (simp; omega)) ?_)
      have e2 : decide (fx f k < 0) = false := by simpa using q2
      have p0 : 0 ≤ fv f k := by omega
      have p1 : fv f k < vars.length := by omega
      clear lv
      obtain ⟨b1, o1, rfl, hb1, hc1⟩ := h1.at_ (k := (fv f k).toNat) (by omega)
      have d3 := (hbel.cell (p := ⟨b1, o1 + (fv f k).toNat, none⟩) hb1).trans (hc1 (fv f k).toNat (by omega))
      have g1 : b1 < wr.heap.size := by omega
      clear hc1
      by_cases q3 : nth vars (fv f k).toNat ≤ fx f k
      · have Hf := Lib.hid (show faB vars f = false by unfold faB; simp only [decide_eq_false_iff_not]; intro h; have := (h k hlt).2.2.2.1; omega)
        have e3 : decide (nth vars (fv f k).toNat ≤ fx f k) = true := by simpa using q3
        go_wp2
        go_quiet (fail)
        go_wp2
        go_ret
        refine ⟨bool_ret (by rw [Hf.out]), ?_⟩
        repeat (first | exact Below.refl _ _ | refine below_dN ?_ _ | refine Below.drew ?_ | refine Below.alloc ?_ (by first | omega | (simp; done) | (simp; omega)) _ | refine Below.setCell ?_ (by first | omega | (simp; done) | (simp; omega)) _ | refine below_step (by assumption) (by first | omega | (simp; done) | (simp; omega)) ?_)
      have e3 : decide (nth vars (fv f k).toNat ≤ fx f k) = false := by simpa using q3
      go_wp2
      go_quiet (fail)
      go_wp2
      go_roundw
      case rel => exact ⟨k + 1, by omega, by rw [lastV_succ], by go_num, ⟨fun j hj => by rcases Nat.lt_succ_iff_lt_or_eq.1 hj with h | rfl; exact Hok.out.1 j h; exact fa_one p0 p1 (by omega) (by omega) (by omega), by rw [lastV_succ]; omega⟩, by repeat (first | exact Below.refl _ _ | refine below_dN ?_ _ | refine Below.drew ?_ | refine Below.alloc ?_ (by first | omega | (simp; done) | (simp; omega)) _ | refine Below.setCell ?_ (by first | omega | (simp; done) | (simp; omega)) _ | refine below_step (by assumption) (by first | omega | (simp; done) | (simp; omega)) ?_)⟩
      case measure => simp [intOf]; omega
    · have Ht := Lib.hid (show faB vars f = true by unfold faB; simp only [decide_eq_true_eq]; exact fun j hj => Hok.out.1 j (by omega))
      go_wp2
      go_ret
      refine ⟨bool_ret (by rw [Ht.out]), ?_⟩
      repeat (first | exact Below.refl _ _ | refine below_dN ?_ _ | refine Below.drew ?_ | refine Below.alloc ?_ (by first | omega | (simp; done) | (simp; omega)) _ | refine Below.setCell ?_ (by first | omega | (simp; done) | (simp; omega)) _ | refine below_step (by assumption) (by first | omega | (simp; done) | (simp; omega)) ?_)

set_option maxHeartbeats 1000000 in
theorem bproper_any (vars : List Int) (f : List (Int × Int)) (A1 A2 : Option Addr) (c1 c2 : Nat) (w : World) (h1 : IntsAt w w.heap.size A1 vars) (h2 : FactsAt w w.heap.size A2 f) :
    Calls Tryz.prog 46 #[.slice A1 vars.length c1, .slice A2 f.length c2] w fun e w' => e = .returned (.bool (faB vars f)) ∧ Below w.heap.size w w' := by
  have l1 := h1.len
  have l2 := h2.len
  go_enter Tryz.func46, Tryz.ntmps46
  go_wp2
  go_loopw [9] (fun i wr => ∃ k : Nat, k ≤ f.length ∧ i = .int .i64 k ∧ (∀ j, j < k → FaOne vars f j) ∧ Below w.heap.size w wr) (fun i _ => f.length - (intOf i).toNat)
  case atStart => exact ⟨0, by omega, rfl, fun j hj => absurd hj (by omega), Below.refl _ _⟩
  case round =>
    obtain ⟨k, hk, rfl, hok, hbel⟩ := hrel
    have Hok := Lib.hid hok
    clear hok
    by_cases hlt : k < f.length
    · skip
      obtain ⟨b2, o2, rfl, hb2, hc2⟩ := h2.at_ hlt
      have hbz := hbel.size
      have d1 := (hbel.cell (p := ⟨b2, o2 + k * 2, none⟩) hb2).trans (hc2 k hlt).1
      have d2 := (hbel.cell (p := ⟨b2, o2 + k * 2 + 1, none⟩) hb2).trans (hc2 k hlt).2
      have g2 : b2 < wr.heap.size := by omega
      by_cases q0 : fv f k < 0
      · have Hf := Lib.hid (show faB vars f = false by unfold faB; simp only [decide_eq_false_iff_not]; intro h; have := (h k hlt).1; omega)
        have e0 : decide (fv f k < 0) = true := by simpa using q0
        go_wp2
        go_quiet (fail)
        go_wp2
        go_ret
        refine ⟨bool_ret (by rw [Hf.out]), ?_⟩
        repeat (first | exact Below.refl _ _ | refine below_dN ?_ _ | refine Below.drew ?_ | refine Below.alloc ?_ (by first | omega | (simp; done) | (simp; omega)) _ | refine Below.setCell ?_ (by first | omega | (simp; done) | (simp; omega)) _ | refine below_step (by assumption) (by first | omega | (simp; done) | (simp; omega)) ?_)
      have e0 : decide (fv f k < 0) = false := by simpa using q0
      by_cases q1 : (vars.length : Int) ≤ fv f k
      · have Hf := Lib.hid (show faB vars f = false by unfold faB; simp only [decide_eq_false_iff_not]; intro h; have := (h k hlt).2.1; omega)
        have e1 : decide ((vars.length : Int) ≤ fv f k) = true := by simpa using q1
        go_wp2
        go_quiet (fail)
        go_wp2
        go_ret
        refine ⟨bool_ret (by rw [Hf.out]), ?_⟩
        repeat (first | exact Below.refl _ _ | refine below_dN ?_ _ | refine Below.drew ?_ | refine Below.alloc ?_ (by first | omega | (simp; done) | (simp; omega)) _ | refine Below.setCell ?_ (by first | omega | (simp; done) | (simp; omega)) _ | refine below_step (by assumption) (by first | omega | (simp; done) | (simp; omega)) ?_)
      have e1 : decide ((vars.length : Int) ≤ fv f k) = false := by simpa using q1
      by_cases q2 : fx f k < 0
      · have Hf := Lib.hid (show faB vars f = false by unfold faB; simp only [decide_eq_false_iff_not]; intro h; have := (h k hlt).2.2.1; omega)
        have e2 : decide (fx f k < 0) = true := by simpa using q2
        go_wp2
        go_quiet (fail)
        go_wp2
        go_ret
        refine ⟨bool_ret (by rw [Hf.out]), ?_⟩
        repeat (first | exact Below.refl _ _ | refine below_dN ?_ _ | refine Below.drew ?_ | refine Below.alloc ?_ (by first | omega | (simp; done) | (simp; omega)) _ | refine Below.setCell ?_ (by first | omega | (simp; done) | (simp; omega)) _ | refine below_step (by assumption) (by first | omega | (simp; done) | (simp; omega)) ?_)
      have e2 : decide (fx f k < 0) = false := by simpa using q2
      have p0 : 0 ≤ fv f k := by omega
      have p1 : fv f k < vars.length := by omega
      obtain ⟨b1, o1, rfl, hb1, hc1⟩ := h1.at_ (k := (fv f k).toNat) (by omega)
      have d3 := (hbel.cell (p := ⟨b1, o1 + (fv f k).toNat, none⟩) hb1).trans (hc1 (fv f k).toNat (by omega))
      have g1 : b1 < wr.heap.size := by omega
      clear hc1
      by_cases q3 : nth vars (fv f k).toNat ≤ fx f k
      · have Hf := Lib.hid (show faB vars f = false by unfold faB; simp only [decide_eq_false_iff_not]; intro h; have := (h k hlt).2.2.2.1; omega)
        have e3 : decide (nth vars (fv f k).toNat ≤ fx f k) = true := by simpa using q3
        go_wp2
        go_quiet (fail)
        go_wp2
        go_ret
        refine ⟨bool_ret (by rw [Hf.out]), ?_⟩
        repeat (first | exact Below.refl _ _ | refine below_dN ?_ _ | refine Below.drew ?_ | refine Below.alloc ?_ (by first | omega | (simp; done) | (simp; omega)) _ | refine Below.setCell ?_ (by first | omega | (simp; done) | (simp; omega)) _ | refine below_step (by assumption) (by first | omega | (simp; done) | (simp; omega)) ?_)
      have e3 : decide (nth vars (fv f k).toNat ≤ fx f k) = false := by simpa using q3
      by_cases k0 : 0 < k
      · have z0 : decide ((0 : Int) < (k : Int)) = true := by simpa using k0
        have z1 : (1 : Int) ≤ k := by omega
        have d4 := (hbel.cell (p := ⟨b2, o2 + (k - 1) * 2, none⟩) hb2).trans (hc2 (k - 1) (by omega)).1
        by_cases q4 : fv f k ≤ fv f (k - 1)
        · have Hf := Lib.hid (show faB vars f = false by unfold faB; simp only [decide_eq_false_iff_not]; intro h; have := (h k hlt).2.2.2.2 k0; omega)
          have e4 : decide (fv f k ≤ fv f (k - 1)) = true := by simpa using q4
          go_wp2
          go_quiet (fail)
          go_wp2
          go_ret
          refine ⟨bool_ret (by rw [Hf.out]), ?_⟩
          repeat (first | exact Below.refl _ _ | refine below_dN ?_ _ | refine Below.drew ?_ | refine Below.alloc ?_ (by first | omega | (simp; done) | (simp; omega)) _ | refine Below.setCell ?_ (by first | omega | (simp; done) | (simp; omega)) _ | refine below_step (by assumption) (by first | omega | (simp; done) | (simp; omega)) ?_)
        have e4 : decide (fv f k ≤ fv f (k - 1)) = false := by simpa using q4
        go_wp2
        go_quiet (fail)
        go_wp2
        go_roundw
        case rel => exact ⟨k + 1, by omega, by go_num, fun j hj => by rcases Nat.lt_succ_iff_lt_or_eq.1 hj with h | rfl; exact Hok.out j h; exact ⟨by omega, by omega, by omega, by omega, by omega⟩, by repeat (first | exact Below.refl _ _ | refine below_dN ?_ _ | refine Below.drew ?_ | refine Below.alloc ?_ (by first | omega | (simp; done) | (simp; omega)) _ | refine Below.setCell ?_ (by first | omega | (simp; done) | (simp; omega)) _ | refine below_step (by assumption) (by first | omega | (simp; done) | (simp; omega)) ?_)⟩
        case measure => simp [intOf]; omega
      · have z0 : decide ((0 : Int) < (k : Int)) = false := by simpa using k0
        go_wp2
        go_quiet (fail)
        go_wp2
        go_roundw
        case rel => exact ⟨k + 1, by omega, by go_num, fun j hj => by rcases Nat.lt_succ_iff_lt_or_eq.1 hj with h | rfl; exact Hok.out j h; exact ⟨by omega, by omega, by omega, by omega, by omega⟩, by repeat (first | exact Below.refl _ _ | refine below_dN ?_ _ | refine Below.drew ?_ | refine Below.alloc ?_ (by first | omega | (simp; done) | (simp; omega)) _ | refine Below.setCell ?_ (by first | omega | (simp; done) | (simp; omega)) _ | refine below_step (by assumption) (by first | omega | (simp; done) | (simp; omega)) ?_)⟩
        case measure => simp [intOf]; omega
    · have Ht := Lib.hid (show faB vars f = true by unfold faB; simp only [decide_eq_true_eq]; exact fun j hj => Hok.out j (by omega))
      go_wp2
      go_ret
      refine ⟨bool_ret (by rw [Ht.out]), ?_⟩
      repeat (first | exact Below.refl _ _ | refine below_dN ?_ _ | refine Below.drew ?_ | refine Below.alloc ?_ (by first | omega | (simp; done) | (simp; omega)) _ | refine Below.setCell ?_ (by first | omega | (simp; done) | (simp; omega)) _ | refine below_step (by assumption) (by first | omega | (simp; done) | (simp; omega)) ?_)

set_option maxHeartbeats 1000000 in
theorem holds_any (f : List (Int × Int)) (s : List Int) (A1 A2 : Option Addr) (c1 c2 : Nat) (w : World) (h2 : FactsAt w w.heap.size A1 f) (h1 : IntsAt w w.heap.size A2 s) :
    Calls Tryz.prog 28 #[.slice A1 f.length c1, .slice A2 s.length c2] w fun e w' => e = .returned (.bool (hoB f s)) ∧ Below w.heap.size w w' := by
  have l1 := h1.len
  have l2 := h2.len
  go_enter Tryz.func28, Tryz.ntmps28
  go_wp2
  go_loopw [9] (fun i wr => ∃ k : Nat, k ≤ f.length ∧ i = .int .i64 k ∧ (∀ j, j < k → 0 ≤ fv f j ∧ fv f j < s.length ∧ nth s (fv f j).toNat = fx f j) ∧ Below w.heap.size w wr) (fun i _ => f.length - (intOf i).toNat)
  case atStart => exact ⟨0, by omega, rfl, fun j hj => absurd hj (by omega), Below.refl _ _⟩
  case round =>
    obtain ⟨k, hk, rfl, hok, hbel⟩ := hrel
    have Hok := Lib.hid hok
    clear hok
    by_cases hlt : k < f.length
    · obtain ⟨b2, o2, rfl, hb2, hc2⟩ := h2.at_ hlt
      have hbz := hbel.size
      have d1 := (hbel.cell (p := ⟨b2, o2 + k * 2, none⟩) hb2).trans (hc2 k hlt).1
      have d2 := (hbel.cell (p := ⟨b2, o2 + k * 2 + 1, none⟩) hb2).trans (hc2 k hlt).2
      have g2 : b2 < wr.heap.size := by omega
      clear hc2
      by_cases q0 : fv f k < 0
      · have Hf := Lib.hid (show hoB f s = false by unfold hoB; simp only [decide_eq_false_iff_not]; intro h; have := (h k hlt).1; omega)
        have e0 : decide (fv f k < 0) = true := by simpa using q0
        go_wp2
        go_quiet (fail)
        go_wp2
        go_ret
        refine ⟨bool_ret (by rw [Hf.out]), ?_⟩
        repeat (first | exact Below.refl _ _ | refine below_dN ?_ _ | refine Below.drew ?_ | refine Below.alloc ?_ (by first | omega | (simp; done) | (simp; omega)) _ | refine Below.setCell ?_ (by first | omega | (simp; done) | (simp; omega)) _ | refine below_step (by assumption) (by first | omega | (simp; done) | (simp; omega)) ?_)
      have e0 : decide (fv f k < 0) = false := by simpa using q0
      by_cases q1 : (s.length : Int) ≤ fv f k
      · have Hf := Lib.hid (show hoB f s = false by unfold hoB; simp only [decide_eq_false_iff_not]; intro h; have := (h k hlt).2.1; omega)
        have e1 : decide ((s.length : Int) ≤ fv f k) = true := by simpa using q1
        go_wp2
        go_quiet (fail)
        go_wp2
        go_ret
        refine ⟨bool_ret (by rw [Hf.out]), ?_⟩
        repeat (first | exact Below.refl _ _ | refine below_dN ?_ _ | refine Below.drew ?_ | refine Below.alloc ?_ (by first | omega | (simp; done) | (simp; omega)) _ | refine Below.setCell ?_ (by first | omega | (simp; done) | (simp; omega)) _ | refine below_step (by assumption) (by first | omega | (simp; done) | (simp; omega)) ?_)
      have e1 : decide ((s.length : Int) ≤ fv f k) = false := by simpa using q1
      have p0 : 0 ≤ fv f k := by omega
      have p1 : fv f k < s.length := by omega
      obtain ⟨b1, o1, rfl, hb1, hc1⟩ := h1.at_ (k := (fv f k).toNat) (by omega)
      have d3 := (hbel.cell (p := ⟨b1, o1 + (fv f k).toNat, none⟩) hb1).trans (hc1 (fv f k).toNat (by omega))
      have g1 : b1 < wr.heap.size := by omega
      clear hc1
      by_cases q3 : nth s (fv f k).toNat ≠ fx f k
      · have Hf := Lib.hid (show hoB f s = false by unfold hoB; simp only [decide_eq_false_iff_not]; intro h; have := (h k hlt).2.2; omega)
        have e3 : (nth s (fv f k).toNat != fx f k) = true := by simpa using q3
        clear q3
        go_wp2
        go_quiet (fail)
        go_wp2
        go_ret
        refine ⟨bool_ret (by rw [Hf.out]), ?_⟩
        repeat (first | exact Below.refl _ _ | refine below_dN ?_ _ | refine Below.drew ?_ | refine Below.alloc ?_ (by first | omega | (simp; done) | (simp; omega)) _ | refine Below.setCell ?_ (by first | omega | (simp; done) | (simp; omega)) _ | refine below_step (by assumption) (by first | omega | (simp; done) | (simp; omega)) ?_)
      have e3 : (nth s (fv f k).toNat != fx f k) = false := by simpa using q3
      have Q3 := Lib.hid q3
      clear q3
      go_wp2
      go_quiet (fail)
      go_wp2
      go_roundw
      case rel => exact ⟨k + 1, by omega, by go_num, fun j hj => by rcases Nat.lt_succ_iff_lt_or_eq.1 hj with h | rfl; exact Hok.out j h; exact ⟨by omega, by omega, by have := Q3.out; omega⟩, by repeat (first | exact Below.refl _ _ | refine below_dN ?_ _ | refine Below.drew ?_ | refine Below.alloc ?_ (by first | omega | (simp; done) | (simp; omega)) _ | refine Below.setCell ?_ (by first | omega | (simp; done) | (simp; omega)) _ | refine below_step (by assumption) (by first | omega | (simp; done) | (simp; omega)) ?_)⟩
      case measure => simp [intOf]; omega
    · have Ht := Lib.hid (show hoB f s = true by unfold hoB; simp only [decide_eq_true_eq]; exact fun j hj => Hok.out j (by omega))
      go_wp2
      go_ret
      refine ⟨bool_ret (by rw [Ht.out]), ?_⟩
      repeat (first | exact Below.refl _ _ | refine below_dN ?_ _ | refine Below.drew ?_ | refine Below.alloc ?_ (by first | omega | (simp; done) | (simp; omega)) _ | refine Below.setCell ?_ (by first | omega | (simp; done) | (simp; omega)) _ | refine below_step (by assumption) (by first | omega | (simp; done) | (simp; omega)) ?_)

end Go.Proofs.YtpobnjbpglaohaaGreat
