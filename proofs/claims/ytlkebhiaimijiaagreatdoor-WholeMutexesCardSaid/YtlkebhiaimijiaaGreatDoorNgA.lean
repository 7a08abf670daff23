/- Texts laid together: Data, TaskA, TaskD, TaskB, TaskC, TaskE, TaskF, TaskG. -/
import Derived.Test.YtlkebhiaimijiaaGreatDoorBel
import Derived.Test.YtlkebhiaimijiaaGreatDoorBase
import Derived.LoopTactic
import Derived.Deep.LoopGhost
import Derived.Deep.DeepCutAuto
namespace Go.Proofs.YtlkebhiaimijiaaGreatDoor
set_option linter.unusedSimpArgs false
set_option linter.unusedVariables false
section
open Go.RowKit

/-- The k-th number; the k-th fact's variable and value. (Behind names: simp would write them otherwise.) -/
def nth (l : List Int) (k : Nat) : Int := l.getD k 0
def fv (l : List (Int × Int)) (k : Nat) : Int := (l.getD k (0, 0)).1
def fx (l : List (Int × Int)) (k : Nat) : Int := (l.getD k (0, 0)).2

/-- A slice (address A) whose cells, all below block B, are the numbers l. -/
def IntsAt (w : World) (B : Nat) (A : Option Addr) (l : List Int) : Prop :=
 l.length ≤ 140737488355328 ∧ (0 < l.length → ∃ b off, A = some ⟨b, off, none⟩ ∧ b < B ∧ ∀ k, k < l.length → w.cell? ⟨b, off + k, none⟩ = some (.int .i64 (nth l k)))
/-- A slice of facts (two cells each). -/
def FactsAt (w : World) (B : Nat) (A : Option Addr) (l : List (Int × Int)) : Prop :=
 l.length ≤ 140737488355328 ∧ (0 < l.length → ∃ b off, A = some ⟨b, off, none⟩ ∧ b < B ∧ ∀ k, k < l.length → w.cell? ⟨b, off + k * 2, none⟩ = some (.int .i64 (fv l k)) ∧ w.cell? ⟨b, off + k * 2 + 1, none⟩ = some (.int .i64 (fx l k)))

section
variable {w w' : World} {B B' : Nat} {A : Option Addr}
theorem IntsAt.len {l : List Int} (h : IntsAt w B A l) : l.length ≤ 140737488355328 := h.1
theorem IntsAt.at_ {l : List Int} (h : IntsAt w B A l) {k : Nat} (hk : k < l.length) : ∃ b off, A = some ⟨b, off, none⟩ ∧ b < B ∧ ∀ k, k < l.length → w.cell? ⟨b, off + k, none⟩ = some (.int .i64 (nth l k)) := h.2 (by omega)
theorem IntsAt.keep {l : List Int} (h : IntsAt w B A l) (hk : ∀ p : Addr, p.block < B → w'.cell? p = w.cell? p) (hB : B ≤ B') : IntsAt w' B' A l :=
 ⟨h.1, fun hn => by
  obtain ⟨b, off, e, hb, hc⟩ := h.2 hn
  exact ⟨b, off, e, by omega, fun k hlt => (hk _ hb).trans (hc k hlt)⟩⟩
theorem IntsAt.below {l : List Int} (h : IntsAt w B A l) (hb : Below B w w') : IntsAt w' B A l := h.keep (fun _ hp => hb.cell hp) (Nat.le_refl _)
theorem FactsAt.len {l : List (Int × Int)} (h : FactsAt w B A l) : l.length ≤ 140737488355328 := h.1
theorem FactsAt.at_ {l : List (Int × Int)} (h : FactsAt w B A l) {k : Nat} (hk : k < l.length) : ∃ b off, A = some ⟨b, off, none⟩ ∧ b < B ∧ ∀ k, k < l.length → w.cell? ⟨b, off + k * 2, none⟩ = some (.int .i64 (fv l k)) ∧ w.cell? ⟨b, off + k * 2 + 1, none⟩ = some (.int .i64 (fx l k)) := h.2 (by omega)
theorem FactsAt.keep {l : List (Int × Int)} (h : FactsAt w B A l) (hk : ∀ p : Addr, p.block < B → w'.cell? p = w.cell? p) (hB : B ≤ B') : FactsAt w' B' A l :=
 ⟨h.1, fun hn => by
  obtain ⟨b, off, e, hb, hc⟩ := h.2 hn
  exact ⟨b, off, e, by omega, fun k hlt => ⟨(hk _ hb).trans (hc k hlt).1, (hk _ hb).trans (hc k hlt).2⟩⟩⟩
theorem FactsAt.below {l : List (Int × Int)} (h : FactsAt w B A l) (hb : Below B w w') : FactsAt w' B A l := h.keep (fun _ hp => hb.cell hp) (Nat.le_refl _)
end

/-- A state has a value in range for each variable. -/
def StP (vars s : List Int) : Prop := s.length = vars.length ∧ ∀ k, k < s.length → 0 ≤ nth s k ∧ nth s k < nth vars k
instance (vars s : List Int) : Decidable (StP vars s) := by unfold StP; exact inferInstance
def stB (vars s : List Int) : Bool := decide (StP vars s)
/-- Facts strictly ascending by variable, in range. -/
def FaP (vars : List Int) (f : List (Int × Int)) : Prop := ∀ k, k < f.length →
 0 ≤ (fv f k) ∧ (fv f k) < vars.length ∧ 0 ≤ (fx f k) ∧ (fx f k) < nth vars (fv f k).toNat ∧ (0 < k → fv f (k - 1) < (fv f k))
instance (vars : List Int) (f : List (Int × Int)) : Decidable (FaP vars f) := by unfold FaP; exact inferInstance
def faB (vars : List Int) (f : List (Int × Int)) : Bool := decide (FaP vars f)
/-- All facts hold. -/
def HoP (f : List (Int × Int)) (s : List Int) : Prop := ∀ k, k < f.length → 0 ≤ (fv f k) ∧ (fv f k) < s.length ∧ nth s (fv f k).toNat = (fx f k)
instance (f : List (Int × Int)) (s : List Int) : Decidable (HoP f s) := by unfold HoP; exact inferInstance
def hoB (f : List (Int × Int)) (s : List Int) : Bool := decide (HoP f s)
end

section
open Go.RowKit
set_option linter.unusedVariables false

set_option maxHeartbeats 1000000 in
theorem proper_any (vars s : List Int) (A1 A2 : Option Addr) (c1 c2 : Nat) (w : World) (h1 : IntsAt w w.heap.size A1 vars) (h2 : IntsAt w w.heap.size A2 s) :
  Calls Tryz.prog 54 #[.slice A1 vars.length c1, .slice A2 s.length c2] w fun e w' => e = .returned (.bool (stB vars s)) ∧ Below w.heap.size w w' := by
 have l1 := h1.len
 have l2 := h2.len
 by_cases hl : s.length = vars.length
 ·have hd : ((s.length : Int) != (vars.length : Int)) = false := by simp [hl]
  have Hl := Lib.hid hl
  clear hl
  go_enter Tryz.func54, Tryz.ntmps54
  go_wp2
  go_loopw [14] (fun i wr => ∃ k : Nat, k ≤ s.length ∧ i = .int .i64 k ∧ (∀ j, j < k → 0 ≤ nth s j ∧ nth s j < nth vars j) ∧ Below w.heap.size w wr) (fun i _ => s.length - (intOf i).toNat)
  case atStart => exact ⟨0, by omega, rfl, fun j hj => absurd hj (by omega), Below.refl _ _⟩
  case round =>
   obtain ⟨k, hk, rfl, hok, hbel⟩ := hrel
   have Hok := Lib.hid hok
   clear hok
   by_cases hlt : k < s.length
   ·have hlt2 : k < vars.length := by have := Hl.out; omega
    obtain ⟨b1, o1, rfl, hb1, hc1⟩ := h1.at_ hlt2
    obtain ⟨b2, o2, rfl, hb2, hc2⟩ := h2.at_ hlt
    have d1 := (hbel.cell (p := ⟨b1, o1 + k, none⟩) hb1).trans (hc1 k hlt2)
    have d2 := (hbel.cell (p := ⟨b2, o2 + k, none⟩) hb2).trans (hc2 k hlt)
    clear hc1 hc2
    by_cases q0 : nth s k < 0
    ·have Hf := Lib.hid (show stB vars s = false by unfold stB; simp only [decide_eq_false_iff_not]; intro h; have := (h.2 k hlt).1; omega)
     have e0 : decide (nth s k < 0) = true := by simpa using q0
     go_wp2
     go_ret
     refine ⟨bool_ret (by rw [Hf.out]), ?_⟩
     exact bel
    have e0 : decide (nth s k < 0) = false := by simpa using q0
    by_cases q1 : nth vars k ≤ nth s k
    ·have Hf := Lib.hid (show stB vars s = false by unfold stB; simp only [decide_eq_false_iff_not]; intro h; have := (h.2 k hlt).2; omega)
     have e1 : decide (nth vars k ≤ nth s k) = true := by simpa using q1
     go_wp2
     go_ret
     refine ⟨bool_ret (by rw [Hf.out]), ?_⟩
     exact bel
    have e1 : decide (nth vars k ≤ nth s k) = false := by simpa using q1
    go_wp2


    go_roundw
    case rel => exact ⟨k + 1, by omega, by go_num, fun j hj => by rcases Nat.lt_succ_iff_lt_or_eq.1 hj with h | rfl; exact Hok.out j h; exact ⟨by omega, by omega⟩, by exact hbel⟩
    case measure => simp [intOf]; omega
   ·have Ht := Lib.hid (show stB vars s = true by unfold stB; simp only [decide_eq_true_eq]; exact ⟨Hl.out, fun j hj => Hok.out j (by omega)⟩)
    go_wp2
    go_ret
    refine ⟨bool_ret (by rw [Ht.out]), ?_⟩
    exact bel
 ·have hd : ((s.length : Int) != (vars.length : Int)) = true := by simp; omega
  have Hf := Lib.hid (show stB vars s = false by unfold stB; simp only [decide_eq_false_iff_not]; intro h; exact hl h.1)
  clear hl
  go_enter Tryz.func54, Tryz.ntmps54
  go_wp2
  go_ret
  refine ⟨bool_ret (by rw [Hf.out]), ?_⟩
  exact bel

set_option maxHeartbeats 1000000 in
theorem state_any (vars s : List Int) (A1 A2 : Option Addr) (c1 c2 : Nat) (w : World) (h1 : IntsAt w w.heap.size A1 vars) (h2 : IntsAt w w.heap.size A2 s) :
  Calls Tryz.prog 86 #[.slice A1 vars.length c1, .slice A2 s.length c2] w fun e w' => e = .returned (.bool (stB vars s)) ∧ Below w.heap.size w w' := by
 have l1 := h1.len
 have l2 := h2.len
 by_cases hl : s.length = vars.length
 ·have hd : ((s.length : Int) != (vars.length : Int)) = false := by simp [hl]
  have Hl := Lib.hid hl
  clear hl
  go_enter Tryz.func86, Tryz.ntmps86
  go_wp2
  go_loopw [13] (fun i wr => ∃ k : Nat, k ≤ s.length ∧ i = .int .i64 k ∧ (∀ j, j < k → 0 ≤ nth s j ∧ nth s j < nth vars j) ∧ Below w.heap.size w wr) (fun i _ => s.length - (intOf i).toNat)
  case atStart => exact ⟨0, by omega, rfl, fun j hj => absurd hj (by omega), Below.refl _ _⟩
  case round =>
   obtain ⟨k, hk, rfl, hok, hbel⟩ := hrel
   have Hok := Lib.hid hok
   clear hok
   by_cases hlt : k < s.length
   ·have hlt2 : k < vars.length := by have := Hl.out; omega
    obtain ⟨b1, o1, rfl, hb1, hc1⟩ := h1.at_ hlt2
    obtain ⟨b2, o2, rfl, hb2, hc2⟩ := h2.at_ hlt
    have d1 := (hbel.cell (p := ⟨b1, o1 + k, none⟩) hb1).trans (hc1 k hlt2)
    have d2 := (hbel.cell (p := ⟨b2, o2 + k, none⟩) hb2).trans (hc2 k hlt)
    clear hc1 hc2
    by_cases q0 : nth s k < 0
    ·have Hf := Lib.hid (show stB vars s = false by unfold stB; simp only [decide_eq_false_iff_not]; intro h; have := (h.2 k hlt).1; omega)
     have e0 : decide (nth s k < 0) = true := by simpa using q0
     go_wp2
     go_quiet (fail)
     go_wp2
     go_ret
     refine ⟨bool_ret (by rw [Hf.out]), ?_⟩
     exact bel
    have e0 : decide (nth s k < 0) = false := by simpa using q0
    by_cases q1 : nth vars k ≤ nth s k
    ·have Hf := Lib.hid (show stB vars s = false by unfold stB; simp only [decide_eq_false_iff_not]; intro h; have := (h.2 k hlt).2; omega)
     have e1 : decide (nth vars k ≤ nth s k) = true := by simpa using q1
     go_wp2
     go_quiet (fail)
     go_wp2
     go_ret
     refine ⟨bool_ret (by rw [Hf.out]), ?_⟩
     exact bel
    have e1 : decide (nth vars k ≤ nth s k) = false := by simpa using q1
    go_wp2
    go_quiet (fail)
    go_wp2
    go_roundw
    case rel => exact ⟨k + 1, by omega, by go_num, fun j hj => by rcases Nat.lt_succ_iff_lt_or_eq.1 hj with h | rfl; exact Hok.out j h; exact ⟨by omega, by omega⟩, by exact below_dN hbel _⟩
    case measure => simp [intOf]; omega
   ·have Ht := Lib.hid (show stB vars s = true by unfold stB; simp only [decide_eq_true_eq]; exact ⟨Hl.out, fun j hj => Hok.out j (by omega)⟩)
    go_wp2
    go_ret
    refine ⟨bool_ret (by rw [Ht.out]), ?_⟩
    exact bel
 ·have hd : ((s.length : Int) != (vars.length : Int)) = true := by simp; omega
  have Hf := Lib.hid (show stB vars s = false by unfold stB; simp only [decide_eq_false_iff_not]; intro h; exact hl h.1)
  clear hl
  go_enter Tryz.func86, Tryz.ntmps86
  go_wp2
  go_ret
  refine ⟨bool_ret (by rw [Hf.out]), ?_⟩
  exact bel

/-- One fact is in order. -/
def FaOne (vars : List Int) (f : List (Int × Int)) (k : Nat) : Prop :=
 0 ≤ (fv f k) ∧ (fv f k) < vars.length ∧ 0 ≤ (fx f k) ∧ (fx f k) < nth vars (fv f k).toNat ∧ (0 < k → fv f (k - 1) < (fv f k))
/-- The last variable before fact k; -1 at the start. -/
def lastV (f : List (Int × Int)) (k : Nat) : Int := if k = 0 then -1 else fv f (k - 1)
theorem lastV_succ (f : List (Int × Int)) (k : Nat) : lastV f (k + 1) = fv f k := by unfold lastV; simp
theorem fa_last {vars : List Int} {f : List (Int × Int)} {k : Nat} (h : FaP vars f) (hk : k < f.length) (q : fv f k ≤ lastV f k) : False := by
 have h1 := h k hk
 unfold lastV at q
 split at q
 ·omega
 ·have := h1.2.2.2.2 (by omega); omega
theorem fa_one {vars : List Int} {f : List (Int × Int)} {k : Nat} (p0 : 0 ≤ fv f k) (p1 : fv f k < vars.length) (p2 : 0 ≤ fx f k) (p3 : fx f k < nth vars (fv f k).toNat) (q : lastV f k < fv f k) : FaOne vars f k :=
 ⟨p0, p1, p2, p3, fun h => by unfold lastV at q; rw [if_neg (by omega)] at q; exact q⟩

set_option maxHeartbeats 1000000 in
theorem facts_any (vars : List Int) (f : List (Int × Int)) (A1 A2 : Option Addr) (c1 c2 : Nat) (w : World) (h1 : IntsAt w w.heap.size A1 vars) (h2 : FactsAt w w.heap.size A2 f) :
  Calls Tryz.prog 56 #[.slice A1 vars.length c1, .slice A2 f.length c2] w fun e w' => e = .returned (.bool (faB vars f)) ∧ Below w.heap.size w w' := by
 have l1 := h1.len
 have l2 := h2.len
 go_enter Tryz.func56, Tryz.ntmps56
 go_wp2
 go_loopw [5, 10] (fun v i wr => ∃ k : Nat, k ≤ f.length ∧ v = .int .i64 (lastV f k) ∧ i = .int .i64 k ∧ ((∀ j, j < k → FaOne vars f j) ∧ -1 ≤ lastV f k) ∧ Below w.heap.size w wr) (fun _ i _ => f.length - (intOf i).toNat)
 case atStart => exact ⟨0, by omega, rfl, rfl, ⟨fun j hj => absurd hj (by omega), by unfold lastV; simp⟩, Below.refl _ _⟩
 case round =>
  obtain ⟨k, hk, rfl, rfl, hok, hbel⟩ := hrel
  have Hok := Lib.hid hok
  clear hok
  by_cases hlt : k < f.length
  ·skip
   obtain ⟨b2, o2, rfl, hb2, hc2⟩ := h2.at_ hlt
   have hbz := hbel.size
   have d1 := (hbel.cell (p := ⟨b2, o2 + k * 2, none⟩) hb2).trans (hc2 k hlt).1
   have d2 := (hbel.cell (p := ⟨b2, o2 + k * 2 + 1, none⟩) hb2).trans (hc2 k hlt).2
   have g2 : b2 < wr.heap.size := by omega
   have lv := Hok.out.2
   by_cases q0 : fv f k ≤ lastV f k
   ·have Hf := Lib.hid (show faB vars f = false by unfold faB; simp only [decide_eq_false_iff_not]; intro h; exact fa_last h hlt q0)
    have e0 : decide (fv f k ≤ lastV f k) = true := by simpa using q0
    go_wp2
    go_quiet (fail)
    go_wp2
    go_ret
    refine ⟨bool_ret (by rw [Hf.out]), ?_⟩
    exact bel
   have e0 : decide (fv f k ≤ lastV f k) = false := by simpa using q0
   by_cases q1 : (vars.length : Int) ≤ fv f k
   ·have Hf := Lib.hid (show faB vars f = false by unfold faB; simp only [decide_eq_false_iff_not]; intro h; have := (h k hlt).2.1; omega)
    have e1 : decide ((vars.length : Int) ≤ fv f k) = true := by simpa using q1
    go_wp2
    go_quiet (fail)
    go_wp2
    go_ret
    refine ⟨bool_ret (by rw [Hf.out]), ?_⟩
    exact bel
   have e1 : decide ((vars.length : Int) ≤ fv f k) = false := by simpa using q1
   by_cases q2 : fx f k < 0
   ·have Hf := Lib.hid (show faB vars f = false by unfold faB; simp only [decide_eq_false_iff_not]; intro h; have := (h k hlt).2.2.1; omega)
    have e2 : decide (fx f k < 0) = true := by simpa using q2
    go_wp2
    go_quiet (fail)
    go_wp2
    go_ret
    refine ⟨bool_ret (by rw [Hf.out]), ?_⟩
    exact bel
   have e2 : decide (fx f k < 0) = false := by simpa using q2
   have p0 : 0 ≤ fv f k := by omega
   have p1 : fv f k < vars.length := by omega
   clear lv
   obtain ⟨b1, o1, rfl, hb1, hc1⟩ := h1.at_ (k := (fv f k).toNat) (by omega)
   have d3 := (hbel.cell (p := ⟨b1, o1 + (fv f k).toNat, none⟩) hb1).trans (hc1 (fv f k).toNat (by omega))
   have g1 : b1 < wr.heap.size := by omega
   clear hc1
   by_cases q3 : nth vars (fv f k).toNat ≤ fx f k
   ·have Hf := Lib.hid (show faB vars f = false by unfold faB; simp only [decide_eq_false_iff_not]; intro h; have := (h k hlt).2.2.2.1; omega)
    have e3 : decide (nth vars (fv f k).toNat ≤ fx f k) = true := by simpa using q3
    go_wp2
    go_quiet (fail)
    go_wp2
    go_ret
    refine ⟨bool_ret (by rw [Hf.out]), ?_⟩
    exact bel
   have e3 : decide (nth vars (fv f k).toNat ≤ fx f k) = false := by simpa using q3
   go_wp2
   go_quiet (fail)
   go_wp2
   go_roundw
   case rel => exact ⟨k + 1, by omega, by rw [lastV_succ], by go_num, ⟨fun j hj => by rcases Nat.lt_succ_iff_lt_or_eq.1 hj with h | rfl; exact Hok.out.1 j h; exact fa_one p0 p1 (by omega) (by omega) (by omega), by rw [lastV_succ]; omega⟩, by exact bel⟩
   case measure => simp [intOf]; omega
  ·have Ht := Lib.hid (show faB vars f = true by unfold faB; simp only [decide_eq_true_eq]; exact fun j hj => Hok.out.1 j (by omega))
   go_wp2
   go_ret
   refine ⟨bool_ret (by rw [Ht.out]), ?_⟩
   exact bel

set_option maxHeartbeats 1000000 in
theorem bproper_any (vars : List Int) (f : List (Int × Int)) (A1 A2 : Option Addr) (c1 c2 : Nat) (w : World) (h1 : IntsAt w w.heap.size A1 vars) (h2 : FactsAt w w.heap.size A2 f) :
  Calls Tryz.prog 87 #[.slice A1 vars.length c1, .slice A2 f.length c2] w fun e w' => e = .returned (.bool (faB vars f)) ∧ Below w.heap.size w w' := by
 have l1 := h1.len
 have l2 := h2.len
 go_enter Tryz.func87, Tryz.ntmps87
 go_wp2
 go_loopw [9] (fun i wr => ∃ k : Nat, k ≤ f.length ∧ i = .int .i64 k ∧ (∀ j, j < k → FaOne vars f j) ∧ Below w.heap.size w wr) (fun i _ => f.length - (intOf i).toNat)
 case atStart => exact ⟨0, by omega, rfl, fun j hj => absurd hj (by omega), Below.refl _ _⟩
 case round =>
  obtain ⟨k, hk, rfl, hok, hbel⟩ := hrel
  have Hok := Lib.hid hok
  clear hok
  by_cases hlt : k < f.length
  ·skip
   obtain ⟨b2, o2, rfl, hb2, hc2⟩ := h2.at_ hlt
   have hbz := hbel.size
   have d1 := (hbel.cell (p := ⟨b2, o2 + k * 2, none⟩) hb2).trans (hc2 k hlt).1
   have d2 := (hbel.cell (p := ⟨b2, o2 + k * 2 + 1, none⟩) hb2).trans (hc2 k hlt).2
   have g2 : b2 < wr.heap.size := by omega
   by_cases q0 : fv f k < 0
   ·have Hf := Lib.hid (show faB vars f = false by unfold faB; simp only [decide_eq_false_iff_not]; intro h; have := (h k hlt).1; omega)
    have e0 : decide (fv f k < 0) = true := by simpa using q0
    go_wp2
    go_quiet (fail)
    go_wp2
    go_ret
    refine ⟨bool_ret (by rw [Hf.out]), ?_⟩
    exact bel
   have e0 : decide (fv f k < 0) = false := by simpa using q0
   by_cases q1 : (vars.length : Int) ≤ fv f k
   ·have Hf := Lib.hid (show faB vars f = false by unfold faB; simp only [decide_eq_false_iff_not]; intro h; have := (h k hlt).2.1; omega)
    have e1 : decide ((vars.length : Int) ≤ fv f k) = true := by simpa using q1
    go_wp2
    go_quiet (fail)
    go_wp2
    go_ret
    refine ⟨bool_ret (by rw [Hf.out]), ?_⟩
    exact bel
   have e1 : decide ((vars.length : Int) ≤ fv f k) = false := by simpa using q1
   by_cases q2 : fx f k < 0
   ·have Hf := Lib.hid (show faB vars f = false by unfold faB; simp only [decide_eq_false_iff_not]; intro h; have := (h k hlt).2.2.1; omega)
    have e2 : decide (fx f k < 0) = true := by simpa using q2
    go_wp2
    go_quiet (fail)
    go_wp2
    go_ret
    refine ⟨bool_ret (by rw [Hf.out]), ?_⟩
    exact bel
   have e2 : decide (fx f k < 0) = false := by simpa using q2
   have p0 : 0 ≤ fv f k := by omega
   have p1 : fv f k < vars.length := by omega
   obtain ⟨b1, o1, rfl, hb1, hc1⟩ := h1.at_ (k := (fv f k).toNat) (by omega)
   have d3 := (hbel.cell (p := ⟨b1, o1 + (fv f k).toNat, none⟩) hb1).trans (hc1 (fv f k).toNat (by omega))
   have g1 : b1 < wr.heap.size := by omega
   clear hc1
   by_cases q3 : nth vars (fv f k).toNat ≤ fx f k
   ·have Hf := Lib.hid (show faB vars f = false by unfold faB; simp only [decide_eq_false_iff_not]; intro h; have := (h k hlt).2.2.2.1; omega)
    have e3 : decide (nth vars (fv f k).toNat ≤ fx f k) = true := by simpa using q3
    go_wp2
    go_quiet (fail)
    go_wp2
    go_ret
    refine ⟨bool_ret (by rw [Hf.out]), ?_⟩
    exact bel
   have e3 : decide (nth vars (fv f k).toNat ≤ fx f k) = false := by simpa using q3
   by_cases k0 : 0 < k
   ·have z0 : decide ((0 : Int) < (k : Int)) = true := by simpa using k0
    have z1 : (1 : Int) ≤ k := by omega
    have d4 := (hbel.cell (p := ⟨b2, o2 + (k - 1) * 2, none⟩) hb2).trans (hc2 (k - 1) (by omega)).1
    by_cases q4 : fv f k ≤ fv f (k - 1)
    ·have Hf := Lib.hid (show faB vars f = false by unfold faB; simp only [decide_eq_false_iff_not]; intro h; have := (h k hlt).2.2.2.2 k0; omega)
     have e4 : decide (fv f k ≤ fv f (k - 1)) = true := by simpa using q4
     go_wp2
     go_quiet (fail)
     go_wp2
     go_ret
     refine ⟨bool_ret (by rw [Hf.out]), ?_⟩
     exact bel
    have e4 : decide (fv f k ≤ fv f (k - 1)) = false := by simpa using q4
    go_wp2
    go_quiet (fail)
    go_wp2
    go_roundw
    case rel => exact ⟨k + 1, by omega, by go_num, fun j hj => by rcases Nat.lt_succ_iff_lt_or_eq.1 hj with h | rfl; exact Hok.out j h; exact ⟨by omega, by omega, by omega, by omega, by omega⟩, by exact bel⟩
    case measure => simp [intOf]; omega
   ·have z0 : decide ((0 : Int) < (k : Int)) = false := by simpa using k0
    go_wp2
    go_quiet (fail)
    go_wp2
    go_roundw
    case rel => exact ⟨k + 1, by omega, by go_num, fun j hj => by rcases Nat.lt_succ_iff_lt_or_eq.1 hj with h | rfl; exact Hok.out j h; exact ⟨by omega, by omega, by omega, by omega, by omega⟩, by exact bel⟩
    case measure => simp [intOf]; omega
  ·have Ht := Lib.hid (show faB vars f = true by unfold faB; simp only [decide_eq_true_eq]; exact fun j hj => Hok.out j (by omega))
   go_wp2
   go_ret
   refine ⟨bool_ret (by rw [Ht.out]), ?_⟩
   exact bel

set_option maxHeartbeats 1000000 in
theorem holds_any (f : List (Int × Int)) (s : List Int) (A1 A2 : Option Addr) (c1 c2 : Nat) (w : World) (h2 : FactsAt w w.heap.size A1 f) (h1 : IntsAt w w.heap.size A2 s) :
  Calls Tryz.prog 37 #[.slice A1 f.length c1, .slice A2 s.length c2] w fun e w' => e = .returned (.bool (hoB f s)) ∧ Below w.heap.size w w' := by
 have l1 := h1.len
 have l2 := h2.len
 go_enter Tryz.func37, Tryz.ntmps37
 go_wp2
 go_loopw [9] (fun i wr => ∃ k : Nat, k ≤ f.length ∧ i = .int .i64 k ∧ (∀ j, j < k → 0 ≤ fv f j ∧ fv f j < s.length ∧ nth s (fv f j).toNat = fx f j) ∧ Below w.heap.size w wr) (fun i _ => f.length - (intOf i).toNat)
 case atStart => exact ⟨0, by omega, rfl, fun j hj => absurd hj (by omega), Below.refl _ _⟩
 case round =>
  obtain ⟨k, hk, rfl, hok, hbel⟩ := hrel
  have Hok := Lib.hid hok
  clear hok
  by_cases hlt : k < f.length
  ·obtain ⟨b2, o2, rfl, hb2, hc2⟩ := h2.at_ hlt
   have hbz := hbel.size
   have d1 := (hbel.cell (p := ⟨b2, o2 + k * 2, none⟩) hb2).trans (hc2 k hlt).1
   have d2 := (hbel.cell (p := ⟨b2, o2 + k * 2 + 1, none⟩) hb2).trans (hc2 k hlt).2
   have g2 : b2 < wr.heap.size := by omega
   clear hc2
   by_cases q0 : fv f k < 0
   ·have Hf := Lib.hid (show hoB f s = false by unfold hoB; simp only [decide_eq_false_iff_not]; intro h; have := (h k hlt).1; omega)
    have e0 : decide (fv f k < 0) = true := by simpa using q0
    go_wp2
    go_quiet (fail)
    go_wp2
    go_ret
    refine ⟨bool_ret (by rw [Hf.out]), ?_⟩
    exact bel
   have e0 : decide (fv f k < 0) = false := by simpa using q0
   by_cases q1 : (s.length : Int) ≤ fv f k
   ·have Hf := Lib.hid (show hoB f s = false by unfold hoB; simp only [decide_eq_false_iff_not]; intro h; have := (h k hlt).2.1; omega)
    have e1 : decide ((s.length : Int) ≤ fv f k) = true := by simpa using q1
    go_wp2
    go_quiet (fail)
    go_wp2
    go_ret
    refine ⟨bool_ret (by rw [Hf.out]), ?_⟩
    exact bel
   have e1 : decide ((s.length : Int) ≤ fv f k) = false := by simpa using q1
   have p0 : 0 ≤ fv f k := by omega
   have p1 : fv f k < s.length := by omega
   obtain ⟨b1, o1, rfl, hb1, hc1⟩ := h1.at_ (k := (fv f k).toNat) (by omega)
   have d3 := (hbel.cell (p := ⟨b1, o1 + (fv f k).toNat, none⟩) hb1).trans (hc1 (fv f k).toNat (by omega))
   have g1 : b1 < wr.heap.size := by omega
   clear hc1
   by_cases q3 : nth s (fv f k).toNat ≠ fx f k
   ·have Hf := Lib.hid (show hoB f s = false by unfold hoB; simp only [decide_eq_false_iff_not]; intro h; have := (h k hlt).2.2; omega)
    have e3 : (nth s (fv f k).toNat != fx f k) = true := by simpa using q3
    clear q3
    go_wp2
    go_quiet (fail)
    go_wp2
    go_ret
    refine ⟨bool_ret (by rw [Hf.out]), ?_⟩
    exact bel
   have e3 : (nth s (fv f k).toNat != fx f k) = false := by simpa using q3
   have Q3 := Lib.hid q3
   clear q3
   go_wp2
   go_quiet (fail)
   go_wp2
   go_roundw
   case rel => exact ⟨k + 1, by omega, by go_num, fun j hj => by rcases Nat.lt_succ_iff_lt_or_eq.1 hj with h | rfl; exact Hok.out j h; exact ⟨by omega, by omega, by have := Q3.out; omega⟩, by exact bel⟩
   case measure => simp [intOf]; omega
  ·have Ht := Lib.hid (show hoB f s = true by unfold hoB; simp only [decide_eq_true_eq]; exact fun j hj => Hok.out j (by omega))
   go_wp2
   go_ret
   refine ⟨bool_ret (by rw [Ht.out]), ?_⟩
   exact bel

set_option maxHeartbeats 1000000 in
theorem bholds_any (f : List (Int × Int)) (s : List Int) (A1 A2 : Option Addr) (c1 c2 : Nat) (w : World) (h2 : FactsAt w w.heap.size A1 f) (h1 : IntsAt w w.heap.size A2 s) :
  Calls Tryz.prog 65 #[.slice A1 f.length c1, .slice A2 s.length c2] w fun e w' => e = .returned (.bool (hoB f s)) ∧ Below w.heap.size w w' := by
 have l1 := h1.len
 have l2 := h2.len
 go_enter Tryz.func65, Tryz.ntmps65
 go_wp2
 go_loopw [9] (fun i wr => ∃ k : Nat, k ≤ f.length ∧ i = .int .i64 k ∧ (∀ j, j < k → 0 ≤ fv f j ∧ fv f j < s.length ∧ nth s (fv f j).toNat = fx f j) ∧ Below w.heap.size w wr) (fun i _ => f.length - (intOf i).toNat)
 case atStart => exact ⟨0, by omega, rfl, fun j hj => absurd hj (by omega), Below.refl _ _⟩
 case round =>
  obtain ⟨k, hk, rfl, hok, hbel⟩ := hrel
  have Hok := Lib.hid hok
  clear hok
  by_cases hlt : k < f.length
  ·obtain ⟨b2, o2, rfl, hb2, hc2⟩ := h2.at_ hlt
   have hbz := hbel.size
   have d1 := (hbel.cell (p := ⟨b2, o2 + k * 2, none⟩) hb2).trans (hc2 k hlt).1
   have d2 := (hbel.cell (p := ⟨b2, o2 + k * 2 + 1, none⟩) hb2).trans (hc2 k hlt).2
   have g2 : b2 < wr.heap.size := by omega
   clear hc2
   by_cases q0 : fv f k < 0
   ·have Hf := Lib.hid (show hoB f s = false by unfold hoB; simp only [decide_eq_false_iff_not]; intro h; have := (h k hlt).1; omega)
    have e0 : decide (fv f k < 0) = true := by simpa using q0
    go_wp2
    go_quiet (fail)
    go_wp2
    go_ret
    refine ⟨bool_ret (by rw [Hf.out]), ?_⟩
    exact bel
   have e0 : decide (fv f k < 0) = false := by simpa using q0
   by_cases q1 : (s.length : Int) ≤ fv f k
   ·have Hf := Lib.hid (show hoB f s = false by unfold hoB; simp only [decide_eq_false_iff_not]; intro h; have := (h k hlt).2.1; omega)
    have e1 : decide ((s.length : Int) ≤ fv f k) = true := by simpa using q1
    go_wp2
    go_quiet (fail)
    go_wp2
    go_ret
    refine ⟨bool_ret (by rw [Hf.out]), ?_⟩
    exact bel
   have e1 : decide ((s.length : Int) ≤ fv f k) = false := by simpa using q1
   have p0 : 0 ≤ fv f k := by omega
   have p1 : fv f k < s.length := by omega
   obtain ⟨b1, o1, rfl, hb1, hc1⟩ := h1.at_ (k := (fv f k).toNat) (by omega)
   have d3 := (hbel.cell (p := ⟨b1, o1 + (fv f k).toNat, none⟩) hb1).trans (hc1 (fv f k).toNat (by omega))
   have g1 : b1 < wr.heap.size := by omega
   clear hc1
   by_cases q3 : nth s (fv f k).toNat ≠ fx f k
   ·have Hf := Lib.hid (show hoB f s = false by unfold hoB; simp only [decide_eq_false_iff_not]; intro h; have := (h k hlt).2.2; omega)
    have e3 : (nth s (fv f k).toNat != fx f k) = true := by simpa using q3
    clear q3
    go_wp2
    go_quiet (fail)
    go_wp2
    go_ret
    refine ⟨bool_ret (by rw [Hf.out]), ?_⟩
    exact bel
   have e3 : (nth s (fv f k).toNat != fx f k) = false := by simpa using q3
   have Q3 := Lib.hid q3
   clear q3
   go_wp2
   go_quiet (fail)
   go_wp2
   go_roundw
   case rel => exact ⟨k + 1, by omega, by go_num, fun j hj => by rcases Nat.lt_succ_iff_lt_or_eq.1 hj with h | rfl; exact Hok.out j h; exact ⟨by omega, by omega, by have := Q3.out; omega⟩, by exact bel⟩
   case measure => simp [intOf]; omega
  ·have Ht := Lib.hid (show hoB f s = true by unfold hoB; simp only [decide_eq_true_eq]; exact fun j hj => Hok.out j (by omega))
   go_wp2
   go_ret
   refine ⟨bool_ret (by rw [Ht.out]), ?_⟩
   exact bel
end

section
open Go.RowKit

structure Eff where
 whn : List (Int × Int)
 var : Int
 val : Int
structure Opr where
 name : ByteArray
 cost : Int
 pre : List (Int × Int)
 effs : List Eff
structure Tsk where
 vars : List Int
 init : List Int
 goal : List (Int × Int)
 ops : List Opr

def Eff.none : Eff := ⟨[], 0, 0⟩
def Opr.none : Opr := ⟨ByteArray.empty, 0, [], []⟩
def eff (l : List Eff) (k : Nat) : Eff := l.getD k Eff.none
def opr (l : List Opr) (k : Nat) : Opr := l.getD k Opr.none
theorem eff_mem {l : List Eff} {k : Nat} (h : k < l.length) : eff l k ∈ l := by unfold eff; simp [List.getD, List.getElem?_eq_getElem h]
theorem opr_mem {l : List Opr} {k : Nat} (h : k < l.length) : opr l k ∈ l := by unfold opr; simp [List.getD, List.getElem?_eq_getElem h]
theorem mem_eff {l : List Eff} {e : Eff} (h : e ∈ l) : ∃ k, k < l.length ∧ e = eff l k := by
 obtain ⟨k, hk, rfl⟩ := List.mem_iff_getElem.1 h
 exact ⟨k, hk, by unfold eff; simp [List.getD, List.getElem?_eq_getElem hk]⟩
theorem mem_opr {l : List Opr} {o : Opr} (h : o ∈ l) : ∃ k, k < l.length ∧ o = opr l k := by
 obtain ⟨k, hk, rfl⟩ := List.mem_iff_getElem.1 h
 exact ⟨k, hk, by unfold opr; simp [List.getD, List.getElem?_eq_getElem hk]⟩

/-- Effects: three cells each. -/
def EffsAt (w : World) (B : Nat) (A : Option Addr) (l : List Eff) : Prop :=
 l.length ≤ 140737488355328 ∧ (0 < l.length → ∃ b off, A = some ⟨b, off, none⟩ ∧ b < B ∧ ∀ k, k < l.length → ∃ S c,
  w.cell? ⟨b, off + k * 3, none⟩ = some (.slice S (eff l k).whn.length c) ∧ FactsAt w B S (eff l k).whn ∧
  w.cell? ⟨b, off + k * 3 + 1, none⟩ = some (.int .i64 (eff l k).var) ∧ w.cell? ⟨b, off + k * 3 + 2, none⟩ = some (.int .i64 (eff l k).val))
/-- Operators: four cells each. -/
def OpsAt (w : World) (B : Nat) (A : Option Addr) (l : List Opr) : Prop :=
 l.length ≤ 140737488355328 ∧ (0 < l.length → ∃ b off, A = some ⟨b, off, none⟩ ∧ b < B ∧ ∀ k, k < l.length → ∃ S c T d,
  w.cell? ⟨b, off + k * 4, none⟩ = some (.string (opr l k).name) ∧ (opr l k).name.size ≤ 140737488355328 ∧ w.cell? ⟨b, off + k * 4 + 1, none⟩ = some (.int .i64 (opr l k).cost) ∧
  w.cell? ⟨b, off + k * 4 + 2, none⟩ = some (.slice S (opr l k).pre.length c) ∧ FactsAt w B S (opr l k).pre ∧
  w.cell? ⟨b, off + k * 4 + 3, none⟩ = some (.slice T (opr l k).effs.length d) ∧ EffsAt w B T (opr l k).effs)
/-- Where a task's parts lie: four addresses, four capacities. -/
structure Lies where
 (av ai ag ao : Option Addr) (cv ci cg co : Nat)
def TaskV (t : Tsk) (p : Lies) : Value := .agg #[.slice p.av t.vars.length p.cv, .slice p.ai t.init.length p.ci, .slice p.ag t.goal.length p.cg, .slice p.ao t.ops.length p.co]
structure TaskAt (w : World) (B : Nat) (t : Tsk) (p : Lies) : Prop where
 vars : IntsAt w B p.av t.vars
 init : IntsAt w B p.ai t.init
 goal : FactsAt w B p.ag t.goal
 ops : OpsAt w B p.ao t.ops

section
variable {w w' : World} {B B' : Nat} {A : Option Addr}
theorem EffsAt.len {l : List Eff} (h : EffsAt w B A l) : l.length ≤ 140737488355328 := h.1
theorem EffsAt.at_ {l : List Eff} (h : EffsAt w B A l) {k : Nat} (hk : k < l.length) : ∃ b off, A = some ⟨b, off, none⟩ ∧ b < B ∧ ∃ S c,
  w.cell? ⟨b, off + k * 3, none⟩ = some (.slice S (eff l k).whn.length c) ∧ FactsAt w B S (eff l k).whn ∧
  w.cell? ⟨b, off + k * 3 + 1, none⟩ = some (.int .i64 (eff l k).var) ∧ w.cell? ⟨b, off + k * 3 + 2, none⟩ = some (.int .i64 (eff l k).val) := by
 obtain ⟨b, off, e, hb, hc⟩ := h.2 (by omega)
 exact ⟨b, off, e, hb, hc k hk⟩
theorem EffsAt.keep {l : List Eff} (h : EffsAt w B A l) (hk : ∀ p : Addr, p.block < B → w'.cell? p = w.cell? p) (hB : B ≤ B') : EffsAt w' B' A l :=
 ⟨h.1, fun hn => by
  obtain ⟨b, off, e, hb, hc⟩ := h.2 hn
  refine ⟨b, off, e, by omega, fun k hlt => ?_⟩
  obtain ⟨S, c, h1, h2, h3, h4⟩ := hc k hlt
  exact ⟨S, c, (hk _ hb).trans h1, h2.keep hk hB, (hk _ hb).trans h3, (hk _ hb).trans h4⟩⟩
theorem EffsAt.below {l : List Eff} (h : EffsAt w B A l) (hb : Below B w w') : EffsAt w' B A l := h.keep (fun _ hp => hb.cell hp) (Nat.le_refl _)
theorem OpsAt.len {l : List Opr} (h : OpsAt w B A l) : l.length ≤ 140737488355328 := h.1
theorem OpsAt.at_ {l : List Opr} (h : OpsAt w B A l) {k : Nat} (hk : k < l.length) : ∃ b off, A = some ⟨b, off, none⟩ ∧ b < B ∧ ∃ S c T d,
  w.cell? ⟨b, off + k * 4, none⟩ = some (.string (opr l k).name) ∧ (opr l k).name.size ≤ 140737488355328 ∧ w.cell? ⟨b, off + k * 4 + 1, none⟩ = some (.int .i64 (opr l k).cost) ∧
  w.cell? ⟨b, off + k * 4 + 2, none⟩ = some (.slice S (opr l k).pre.length c) ∧ FactsAt w B S (opr l k).pre ∧
  w.cell? ⟨b, off + k * 4 + 3, none⟩ = some (.slice T (opr l k).effs.length d) ∧ EffsAt w B T (opr l k).effs := by
 obtain ⟨b, off, e, hb, hc⟩ := h.2 (by omega)
 exact ⟨b, off, e, hb, hc k hk⟩
theorem OpsAt.keep {l : List Opr} (h : OpsAt w B A l) (hk : ∀ p : Addr, p.block < B → w'.cell? p = w.cell? p) (hB : B ≤ B') : OpsAt w' B' A l :=
 ⟨h.1, fun hn => by
  obtain ⟨b, off, e, hb, hc⟩ := h.2 hn
  refine ⟨b, off, e, by omega, fun k hlt => ?_⟩
  obtain ⟨S, c, T, d, h1, h2, h3, h4, h5, h6, h7⟩ := hc k hlt
  exact ⟨S, c, T, d, (hk _ hb).trans h1, h2, (hk _ hb).trans h3, (hk _ hb).trans h4, h5.keep hk hB, (hk _ hb).trans h6, h7.keep hk hB⟩⟩
theorem OpsAt.below {l : List Opr} (h : OpsAt w B A l) (hb : Below B w w') : OpsAt w' B A l := h.keep (fun _ hp => hb.cell hp) (Nat.le_refl _)
theorem TaskAt.keep {t : Tsk} {p : Lies} (h : TaskAt w B t p) (hk : ∀ p : Addr, p.block < B → w'.cell? p = w.cell? p) (hB : B ≤ B') : TaskAt w' B' t p :=
 ⟨h.vars.keep hk hB, h.init.keep hk hB, h.goal.keep hk hB, h.ops.keep hk hB⟩
theorem TaskAt.below {t : Tsk} {p : Lies} (h : TaskAt w B t p) (hb : Below B w w') : TaskAt w' B t p := h.keep (fun _ hp => hb.cell hp) (Nat.le_refl _)
/-- What lay in a world below its size lies in each later one, below that one's size. -/
theorem TaskAt.up {t : Tsk} {p : Lies} (h : TaskAt w w.heap.size t p) (hb : Below w.heap.size w w') : TaskAt w' w'.heap.size t p := h.keep (fun _ hp => hb.cell hp) hb.size
theorem IntsAt.up {l : List Int} (h : IntsAt w w.heap.size A l) (hb : Below w.heap.size w w') : IntsAt w' w'.heap.size A l := h.keep (fun _ hp => hb.cell hp) hb.size
theorem FactsAt.up {l : List (Int × Int)} (h : FactsAt w w.heap.size A l) (hb : Below w.heap.size w w') : FactsAt w' w'.heap.size A l := h.keep (fun _ hp => hb.cell hp) hb.size
end

/-- A task's value lies in the box b. -/
structure Boxed (w : World) (b : Nat) (t : Tsk) (p : Lies) : Prop where
 lt : b < w.heap.size
 c0 : w.cell? ⟨b, 0, none⟩ = some (.slice p.av t.vars.length p.cv)
 c1 : w.cell? ⟨b, 1, none⟩ = some (.slice p.ai t.init.length p.ci)
 c2 : w.cell? ⟨b, 2, none⟩ = some (.slice p.ag t.goal.length p.cg)
 c3 : w.cell? ⟨b, 3, none⟩ = some (.slice p.ao t.ops.length p.co)
theorem Boxed.up {w w' : World} {b : Nat} {t : Tsk} {p : Lies} (h : Boxed w b t p) (hb : Below w.heap.size w w') : Boxed w' b t p :=
 ⟨Nat.lt_of_lt_of_le h.lt hb.size, (hb.cell (p := ⟨b, 0, none⟩) h.lt).trans h.c0, (hb.cell (p := ⟨b, 1, none⟩) h.lt).trans h.c1, (hb.cell (p := ⟨b, 2, none⟩) h.lt).trans h.c2, (hb.cell (p := ⟨b, 3, none⟩) h.lt).trans h.c3⟩

/-- Does one of the first n have it? -/
def anyB (n : Nat) (g : Nat → Bool) : Bool := (List.range n).any g
theorem anyB_zero (g : Nat → Bool) : anyB 0 g = false := rfl
theorem anyB_succ (n : Nat) (g : Nat → Bool) : anyB (n + 1) g = (anyB n g || g n) := by unfold anyB; rw [List.range_succ, List.any_append]; simp
theorem anyB_true {n : Nat} {g : Nat → Bool} : anyB n g = true ↔ ∃ k, k < n ∧ g k = true := by unfold anyB; simp [List.any_eq_true]
theorem anyB_false {n : Nat} {g : Nat → Bool} : anyB n g = false ↔ ∀ k, k < n → g k = false := by unfold anyB; simp [List.any_eq_false]

/-- The name's byte k. -/
def byt (s : ByteArray) (k : Nat) : UInt8 := if h : k < s.size then s[k] else 0
theorem byt_eq {s : ByteArray} {k : Nat} (h : k < s.size) : byt s k = s[k] := by unfold byt; rw [dif_pos h]
/-- A byte that no name has. -/
def bad (s : ByteArray) (k : Nat) : Bool := decide (((byt s k).toNat : Int) < 32) || decide (126 < ((byt s k).toNat : Int))
def lgO (o : Opr) : Bool := (decide ((64 : Int) < o.pre.length) || decide ((64 : Int) < o.effs.length)) || anyB o.effs.length fun k => decide ((64 : Int) < (eff o.effs k).whn.length)
def lgT (t : Tsk) : Bool := ((decide ((64 : Int) < t.vars.length) || decide ((4096 : Int) < t.ops.length)) || decide ((64 : Int) < t.goal.length)) || anyB t.ops.length fun k => lgO (opr t.ops k)
def outT (t : Tsk) : Bool := (anyB t.vars.length fun k => decide (nth t.vars k < 1) || decide (64 < nth t.vars k)) || anyB t.ops.length fun k => decide ((opr t.ops k).cost < 0) || decide (1048576 < (opr t.ops k).cost)
def malE (vars : List Int) (e : Eff) : Bool := !faB vars e.whn || !faB vars [(e.var, e.val)]
def malO (vars : List Int) (o : Opr) : Bool := !faB vars o.pre || anyB o.effs.length fun k => malE vars (eff o.effs k)
def malT (t : Tsk) : Bool := (!stB t.vars t.init || !faB t.vars t.goal) || anyB t.ops.length fun k => malO t.vars (opr t.ops k)
def misO (s : ByteArray) : Bool := decide ((256 : Int) < s.size) || anyB s.size (bad s)
def misT (t : Tsk) : Bool := anyB t.ops.length fun k => misO (opr t.ops k).name
/-- The number of the error. -/
def chkC (t : Tsk) : Int := if lgT t then 5 else if outT t then 1 else if malT t then 2 else if misT t then 8 else 0

section
variable {w w' : World} {B : Nat} {A : Option Addr}
theorem EffsAt.at2 {l : List Eff} (h : EffsAt w B A l) (hb : Below B w w') {k : Nat} (hk : k < l.length) : ∃ b off S c, A = some ⟨b, off, none⟩ ∧ b < B ∧
  w'.cell? ⟨b, off + k * 3, none⟩ = some (.slice S (eff l k).whn.length c) ∧ FactsAt w B S (eff l k).whn ∧
  w'.cell? ⟨b, off + k * 3 + 1, none⟩ = some (.int .i64 (eff l k).var) ∧ w'.cell? ⟨b, off + k * 3 + 2, none⟩ = some (.int .i64 (eff l k).val) := by
 obtain ⟨b, off, e, hlt, S, c, h1, h2, h3, h4⟩ := h.at_ hk
 exact ⟨b, off, S, c, e, hlt, (hb.cell hlt).trans h1, h2, (hb.cell hlt).trans h3, (hb.cell hlt).trans h4⟩
theorem OpsAt.at2 {l : List Opr} (h : OpsAt w B A l) (hb : Below B w w') {k : Nat} (hk : k < l.length) : ∃ b off S c T d, A = some ⟨b, off, none⟩ ∧ b < B ∧
  w'.cell? ⟨b, off + k * 4, none⟩ = some (.string (opr l k).name) ∧ (opr l k).name.size ≤ 140737488355328 ∧ w'.cell? ⟨b, off + k * 4 + 1, none⟩ = some (.int .i64 (opr l k).cost) ∧
  w'.cell? ⟨b, off + k * 4 + 2, none⟩ = some (.slice S (opr l k).pre.length c) ∧ FactsAt w B S (opr l k).pre ∧
  w'.cell? ⟨b, off + k * 4 + 3, none⟩ = some (.slice T (opr l k).effs.length d) ∧ EffsAt w B T (opr l k).effs := by
 obtain ⟨b, off, e, hlt, S, c, T, d, h1, h2, h3, h4, h5, h6, h7⟩ := h.at_ hk
 exact ⟨b, off, S, c, T, d, e, hlt, (hb.cell hlt).trans h1, h2, (hb.cell hlt).trans h3, (hb.cell hlt).trans h4, h5, (hb.cell hlt).trans h6, h7⟩
end
end

section
open Go.RowKit
set_option linter.unusedVariables false

end

section
open Go.RowKit
set_option linter.unusedVariables false

set_option maxHeartbeats 1000000 in
theorem named_any (s : ByteArray) (w : World) (hs : s.size ≤ 140737488355328) :
    Calls Tryz.prog 57 #[.string s] w fun e w' => e = .returned (.bool (!misO s)) ∧ Below w.heap.size w w' := by
  go_enter Tryz.func57, Tryz.ntmps57
  go_wp2
  go_loopw [6] (fun i wr => ∃ (k : Nat), k ≤ s.size ∧ i = .int .i64 k ∧ anyB k (bad s) = false ∧ Below w.heap.size w wr) (fun i _ => s.size - (intOf i).toNat)
  case atStart => exact ⟨0, by omega, rfl, rfl, by exact bel⟩
  case round =>
    obtain ⟨k, hk, rfl, hB, hbel⟩ := hrel
    have HB := Lib.hid hB
    clear hB
    by_cases hlt : k < s.size
    · cases e1 : decide ((s[k].toNat : Int) < 32) <;> cases e2 : decide (126 < (s[k].toNat : Int)) <;> go_wp2
      all_goals first
        | (go_roundw
           case rel => exact ⟨k + 1, by omega, by go_num, (by rw [anyB_succ, HB.out]; unfold bad; rw [byt_eq hlt, e1, e2]; rfl), by exact bel⟩
           case measure => simp [intOf]; omega)
        | (go_ret
           refine ⟨bool_ret ?_, by exact bel⟩
           have hf : anyB s.size (bad s) = true := anyB_true.2 ⟨k, hlt, by unfold bad; rw [byt_eq hlt, e1, e2]; rfl⟩
           unfold misO
           rw [hf, Bool.or_true]; rfl)
    · cases e1 : decide ((s.size : Int) ≤ 256) <;>
        (go_wp2
         go_ret
         refine ⟨bool_ret ?_, by exact bel⟩
         unfold misO
         rw [show s.size = k by omega, HB.out, Bool.or_false]
         simp at e1 ⊢
         omega)

end

section
open Go.RowKit
set_option linter.unusedVariables false

theorem factsAt_one {w : World} {B b : Nat} {v x : Int} (hb : b < B) (h0 : w.cell? ⟨b, 0, none⟩ = some (.int .i64 v)) (h1 : w.cell? ⟨b, 1, none⟩ = some (.int .i64 x)) : FactsAt w B (some ⟨b, 0, none⟩) [(v, x)] :=
 ⟨by simp, fun _ => ⟨b, 0, rfl, hb, fun k hk => by
  have : k = 0 := by simp at hk; omega
  subst this
  exact ⟨h0, h1⟩⟩⟩

end

section
open Go.RowKit
set_option linter.unusedVariables false

/-- A slice of facts as a value: address, capacity, what it holds. -/
structure Hd where
 a : Option Addr
 c : Nat
 l : List (Int × Int)
def Hd.v (h : Hd) : Value := .slice h.a h.l.length h.c
/-- The conditions of an operator: of the first j effects. -/
def cndO (o : Opr) (j : Nat) : List (List (Int × Int)) := o.pre :: (List.range j).map fun i => (eff o.effs i).whn
def cnds (t : Tsk) (k : Nat) : List (List (Int × Int)) := t.goal :: (List.range k).flatMap fun i => cndO (opr t.ops i) (opr t.ops i).effs.length
theorem cndO_succ (o : Opr) (j : Nat) : cndO o (j + 1) = cndO o j ++ [(eff o.effs j).whn] := by unfold cndO; simp [List.range_succ]
theorem cnds_succ (t : Tsk) (k : Nat) : cnds t (k + 1) = cnds t k ++ cndO (opr t.ops k) (opr t.ops k).effs.length := by unfold cnds; simp [List.range_succ]

theorem infoF : (Tryz.prog.info? 23).map (fun i => (i.zero, i.size, i.bytes)) = some (some (.slice none 0 0), 1, 24) := by kernel_rfl
theorem undF : Tryz.prog.underlying 77 = some (.slice 23) := by kernel_rfl

/-- What has been gathered: the row, whose slices lie below B in w. -/
structure Gath (w wr : World) (v : Value) (cs : List (List (Int × Int))) (hs : List Hd) : Prop where
 lists : hs.map Hd.l = cs
 facts : ∀ h ∈ hs, FactsAt w w.heap.size h.a h.l
 own : wr.ownsRow w.heap.size 23 1 v hs.length (hs.map Hd.v)
theorem Gath.next {w wr w1 : World} {v v' : Value} {cs : List (List (Int × Int))} {hs : List Hd} (g : Gath w wr v cs hs) (h : Hd) (hf : FactsAt w w.heap.size h.a h.l)
  (ho : w1.ownsRow w.heap.size 23 1 v' (hs.length + 1) (hs.map Hd.v ++ [h.v])) : Gath w w1 v' (cs ++ [h.l]) (hs ++ [h]) :=
 ⟨by simp [g.lists], fun x hx => by rcases List.mem_append.1 hx with h1 | h1; exact g.facts x h1; simp at h1; subst h1; exact hf, by simpa using ho⟩
theorem Gath.keep {w wr w1 : World} {v : Value} {cs : List (List (Int × Int))} {hs : List Hd} (g : Gath w wr v cs hs) (hb : Below wr.heap.size wr w1) : Gath w w1 v cs hs :=
 ⟨g.lists, g.facts, g.own.kept (row := none) ⟨hb.os, hb.tape, hb.output, hb.size, fun k hk _ => hb.block k hk⟩ (by cases v.ownBlock <;> simp)⟩
theorem one_news {w : World} {g : Nat} {x : Value} (h : w.cell? ⟨g, 0, none⟩ = some x) : ∀ (j : Nat) (u : Value), [x][j]? = some u → w.cell? ((⟨g, 0, none⟩ : Addr).add j) = some u := by
 intro j u hj
 match j, hj with
 | 0, hj => simp at hj; subst hj; simpa [Addr.add] using h
theorem one_oneF {x : Value} (h : x.oneCell' = true) : ∀ u ∈ [x], u.oneCell' = true := by intro u hu; simp at hu; subst hu; exact h
/-- Behind an append to a row of the call's own. -/
theorem grown_below {w wr w1 : World} {v : Value} {n : Nat} {xs : List Value} {e : TypeId} {B : Nat} (hb : Below B w wr) (hB : B ≤ w.heap.size) (ho : wr.ownsRow B e 1 v n xs) (hg : wr.grownBy w1 v.ownBlock) : Below B w w1 :=
 hb.grown hg (Nat.le_trans hB hb.size) fun k hk => (ho.lt k hk).1

set_option maxRecDepth 4000 in
set_option maxHeartbeats 2000000 in
theorem conditions_any (t : Tsk) (p : Lies) (w : World) (ht : TaskAt w w.heap.size t p) (hm : t.ops.length ≤ 4096) (he : ∀ k, k < t.ops.length → (opr t.ops k).effs.length ≤ 64) :
  Calls Tryz.prog 55 #[TaskV t p] w fun e w' => (∃ v hs, e = .returned v ∧ Gath w w' v (cnds t t.ops.length) hs ∧ hs.length ≤ 1 + 65 * t.ops.length) ∧ Below w.heap.size w w' := by
 obtain ⟨av, ai, ag, ao, cv, ci, cg, co⟩ := p
 have He := Lib.hid he
 have Hm := Lib.hid hm
 clear he hm
 unfold TaskV
 dsimp only
 have l1 := ht.vars.len
 have l2 := ht.init.len
 have l3 := ht.goal.len
 have l4 := ht.ops.len
 obtain ⟨inf, hi, hz0, hz1, hz2⟩ := info_parts infoF
 go_enter Tryz.func55, Tryz.ntmps55
 go_wp2
 go_loopw [3, 14] (fun v i wr => ∃ (k : Nat) (hs : List Hd), k ≤ t.ops.length ∧ i = .int .i64 k ∧ Gath w wr v (cnds t k) hs ∧ hs.length ≤ 1 + 65 * k ∧ Below w.heap.size w wr) (fun _ i _ => t.ops.length - (intOf i).toNat)
 case atStart =>
  refine ⟨0, [⟨ag, cg, t.goal⟩], by omega, rfl, ⟨rfl, fun h hh => by simp at hh; subst hh; exact ht.goal, ?_⟩, by simp, by exact bel⟩
  refine ⟨by simp, .inr ⟨w.heap.size + 1, 1, #[Hd.v ⟨ag, cg, t.goal⟩], by simp [Hd.v], by omega, ?_, by simp, by simp [maxLen], by simp, by simp⟩⟩
  have hh : ∀ X Y, ((w.alloc X).alloc Y).heap[w.heap.size + 1]? = some Y := fun X Y => by rw [show w.heap.size + 1 = (w.alloc X).heap.size by simp]; exact heap_alloc_new _ _
  exact hh _ _
 case round =>
  obtain ⟨k, hs, hk, rfl, hg, hl, hbel⟩ := hrel
  by_cases hlt : k < t.ops.length
  ·obtain ⟨b, o, S, c, T, d, ea, hb, d0, q0, d1, d2, f2, d3, e3⟩ := ht.ops.at2 hbel hlt; (try dsimp only at ea); subst ea; have hbz := hbel.size; have g2 : b < wr.heap.size := (by omega); have j1 := f2.len; have j2 := e3.len
   have hk2 := He.out k hlt
   have hm2 := Hm.out
   go_wp2_with (at_builtin; refine wpList_append_own _ rfl _ _ 77 rfl w.heap.size 23 inf (.slice none 0 0) 1 24 undF hi hz0 hz1 hz2 rfl (by decide) _ _ _ rfl ((hg.own.alloc _).alloc _) ⟨wr.heap.size + 1, 0, none⟩ 1 1 [Hd.v ⟨S, c, (opr t.ops k).pre⟩] rfl rfl (one_news (by simp [Hd.v])) (one_oneF rfl) (by unfold maxLen; omega) (by omega) (by simp; omega) ?_; intro v' w1 hown' hgrow _; have hg1 := hg.next ⟨S, c, (opr t.ops k).pre⟩ f2 hown'; have hbel1 : Below w.heap.size w w1 := grown_below (by exact bel) (Nat.le_refl _) ((hg.own.alloc _).alloc _) hgrow; have x3 : w1.cell? ⟨wr.heap.size, 3, none⟩ = some (.slice T (opr t.ops k).effs.length d) := hgrow.cell (by simp) (fun e => by have := (hg.own.lt _ e.symm).2; simp at this); have x4 : wr.heap.size < w1.heap.size := (by have := hgrow.size; simp at this; omega); clear hgrow hown')
   go_loopw [3, 26] (fun v i wx => ∃ (j : Nat) (hs2 : List Hd), j ≤ (opr t.ops k).effs.length ∧ i = .int .i64 j ∧ Gath w wx v (cnds t k ++ cndO (opr t.ops k) j) hs2 ∧ hs2.length ≤ 2 + 65 * k + j ∧ Below w.heap.size w wx) (fun _ i _ => (opr t.ops k).effs.length - (intOf i).toNat)
   case atStart => exact ⟨0, _, by omega, rfl, hg1, by simp; omega, by exact bel⟩
   case round =>
    obtain ⟨j, hs2, hj, rfl, hg2, hl2, hbel2⟩ := hrel
    by_cases hlt2 : j < (opr t.ops k).effs.length
    ·obtain ⟨b', o', S', c', ea', hb', i0, f5, i1, i2⟩ := e3.at2 hbel2 hlt2; subst ea'; have hbz2 := hbel2.size; have g3 : b' < wr.heap.size := (by omega); have j3 := f5.len
     go_wp2_with (at_builtin; refine wpList_append_own _ rfl _ _ 77 rfl w.heap.size 23 inf (.slice none 0 0) 1 24 undF hi hz0 hz1 hz2 rfl (by decide) _ _ _ rfl ((hg2.own.alloc _).alloc _) ⟨wr.heap.size + 1, 0, none⟩ 1 1 [Hd.v ⟨S', c', (eff (opr t.ops k).effs j).whn⟩] rfl rfl (one_news (by simp [Hd.v])) (one_oneF rfl) (by unfold maxLen; omega) (by omega) (by simp; omega) ?_; intro v' w1 hown' hgrow _; have hg3 := hg2.next ⟨S', c', (eff (opr t.ops k).effs j).whn⟩ f5 hown'; have hbel3 : Below w.heap.size w w1 := grown_below (by exact bel) (Nat.le_refl _) ((hg2.own.alloc _).alloc _) hgrow; clear hgrow hown')
     go_roundw
     case rel => exact ⟨j + 1, _, by omega, by go_num, (by rw [cndO_succ, ← List.append_assoc]; exact hg3), by simp; omega, by exact bel⟩
     case measure => simp [intOf]; omega
    ·go_wp2
     go_roundw
     case rel => exact ⟨k + 1, hs2, by omega, by go_num, (by rw [cnds_succ, ← show j = (opr t.ops k).effs.length by omega]; exact hg2), by omega, by exact bel⟩
     case measure => simp [intOf]; omega
  ·go_wp2
   go_ret
   refine ⟨⟨_, hs, rfl, (show k = t.ops.length by omega) ▸ hg, by omega⟩, by exact bel⟩
end

section
open Go.RowKit
set_option linter.unusedVariables false

def hd (hs : List Hd) (k : Nat) : Hd := hs.getD k ⟨none, 0, []⟩
theorem hd_get {hs : List Hd} {k : Nat} (h : k < hs.length) : hs[k]? = some (hd hs k) := by unfold hd; simp [List.getD, List.getElem?_eq_getElem h]
theorem hd_mem {hs : List Hd} {k : Nat} (h : k < hs.length) : hd hs k ∈ hs := List.mem_of_getElem? (hd_get h)
/-- A row that has something: where it begins, its cells. -/
theorem Gath.at_ {w wr : World} {v : Value} {cs : List (List (Int × Int))} {hs : List Hd} (g : Gath w wr v cs hs) (hn : 0 < hs.length) :
  ∃ b cap, v = .slice (some ⟨b, 0, none⟩) hs.length cap ∧ b < wr.heap.size ∧ ∀ k, k < hs.length → wr.cell? ⟨b, k, none⟩ = some (.slice (hd hs k).a (hd hs k).l.length (hd hs k).c) := by
 obtain ⟨b, cap, rfl, hlt⟩ : ∃ b cap, v = .slice (some ⟨b, 0, none⟩) hs.length cap ∧ b < wr.heap.size := by
  rcases g.own.2 with ⟨_, h0⟩ | ⟨b, cap, cur, hv, hb, hg, _⟩
  ·omega
  ·exact ⟨b, cap, hv, (Array.getElem?_eq_some_iff.1 hg).1⟩
 refine ⟨b, cap, rfl, hlt, fun k hk => ?_⟩
 have := g.own.cells (g := b) rfl k ((hd hs k).v) (by simp [hd_get hk])
 simp [Addr.add, Hd.v] at this
 split at this
 ·rename_i h0; subst h0; exact this
 ·exact this

def over (h : Hd) : Bool := decide ((64 : Int) < h.l.length)

theorem lam_any (a : Option Addr) (n c : Nat) (w : World) (hn : n ≤ 140737488355328) : Calls Tryz.prog 89 #[.slice a n c] w fun e w' => e = .returned (.bool (decide ((64 : Int) < n))) ∧ w = w' := by
 go_enter Tryz.func89, Tryz.ntmps89
 go_wp2
 go_ret
 exact ⟨rfl, rfl⟩

set_option maxHeartbeats 1000000 in
theorem indexf_any (w0 : World) (v : Value) (cs : List (List (Int × Int))) (hs : List Hd) (w : World) (hg : Gath w0 w v cs hs) (hl : hs.length ≤ 300000) (hn : 0 < hs.length) :
  Calls Tryz.prog 94 #[v, .func (.func 89) #[] #[]] w fun e w' => (∃ i, e = .returned (.int .i64 i) ∧ decide (0 ≤ i) = anyB hs.length (fun k => over (hd hs k))) ∧ Below w.heap.size w w' := by
 obtain ⟨b, cap, rfl, hb, hc⟩ := hg.at_ hn
 go_enter Tryz.func94, Tryz.ntmps94
 go_wp2
 go_loopw [8] (fun i wr => ∃ k : Nat, k ≤ hs.length ∧ i = .int .i64 k ∧ anyB k (fun k => over (hd hs k)) = false ∧ Below w.heap.size w wr) (fun i _ => hs.length - (intOf i).toNat)
 case atStart => exact ⟨0, by omega, rfl, rfl, Below.refl _ _⟩
 case round =>
  obtain ⟨k, hk, rfl, hB, hbel⟩ := hrel
  have HB := Lib.hid hB
  clear hB
  by_cases hlt : k < hs.length
  ·have hbz := hbel.size
   have d1 := (hbel.cell (p := ⟨b, k, none⟩) hb).trans (hc k hlt)
   have hn2 := (hg.facts _ (hd_mem hlt)).len
   have Hc := Lib.hid hc
   clear hc
   cases e1 : decide ((64 : Int) < (hd hs k).l.length)
   ·go_wp2_with fail
    refine (lam_any _ _ _ _ hn2).mono ?_
    rintro e w' ⟨rfl, rfl⟩
    go_wp2
    go_roundw
    case rel => exact ⟨k + 1, by omega, by go_num, (by rw [anyB_succ, HB.out]; exact e1), by exact bel⟩
    case measure => simp [intOf]; omega
   ·go_wp2_with fail
    refine (lam_any _ _ _ _ hn2).mono ?_
    rintro e w' ⟨rfl, rfl⟩
    go_wp2
    go_ret
    refine ⟨⟨_, rfl, ?_⟩, by exact bel⟩
    rw [anyB_true.2 ⟨k, hlt, e1⟩]
    simp
  ·go_wp2
   go_ret
   refine ⟨⟨_, rfl, ?_⟩, by exact bel⟩
   rw [show hs.length = k by omega, HB.out]
   rfl

set_option maxHeartbeats 1000000 in
theorem containsf_any (w0 : World) (v : Value) (cs : List (List (Int × Int))) (hs : List Hd) (w : World) (hg : Gath w0 w v cs hs) (hl : hs.length ≤ 300000) (hn : 0 < hs.length) :
  Calls Tryz.prog 62 #[v, .func (.func 89) #[] #[]] w fun e w' => e = .returned (.bool (anyB hs.length (fun k => over (hd hs k)))) ∧ Below w.heap.size w w' := by
 have k1 := fun w1 (hb : Below w.heap.size w w1) => indexf_any w0 v cs hs w1 (hg.keep hb) hl hn
 go_enter Tryz.func62, Tryz.ntmps62
 go_wp2_with fail
 refine (k1 _ (by exact bel)).mono ?_
 rintro e w1 ⟨⟨i, rfl, hi⟩, hb1⟩
 have Hi := Lib.hid hi
 clear hi
 go_wp2
 go_ret
 exact ⟨bool_ret Hi.out, by exact bel⟩

def ovl (l : List (Int × Int)) : Bool := decide ((64 : Int) < l.length)
theorem over_any (hs : List Hd) : anyB hs.length (fun k => over (hd hs k)) = (hs.map Hd.l).any ovl := by
 rw [Bool.eq_iff_iff, anyB_true, List.any_map, List.any_eq_true]
 constructor
 ·rintro ⟨k, hk, h⟩; exact ⟨hd hs k, hd_mem hk, h⟩
 ·rintro ⟨x, hx, h⟩
  obtain ⟨k, hk, rfl⟩ := List.mem_iff_getElem.1 hx
  exact ⟨k, hk, by show ovl (hd hs k).l = true; unfold hd; simpa [List.getD, List.getElem?_eq_getElem hk] using h⟩
theorem lgO_any (o : Opr) (h : o.effs.length ≤ 64) : lgO o = (cndO o o.effs.length).any ovl := by
 unfold lgO cndO
 rw [show decide ((64 : Int) < o.effs.length) = false by simp; omega, Bool.or_false, List.any_cons, List.any_map]
 rfl
theorem lg_any (t : Tsk) (e1 : decide ((64 : Int) < t.vars.length) = false) (e2 : decide ((4096 : Int) < t.ops.length) = false) (he : ∀ k, k < t.ops.length → (opr t.ops k).effs.length ≤ 64) : lgT t = (cnds t t.ops.length).any ovl := by
 unfold lgT cnds
 rw [e1, e2, List.any_cons, List.any_flatMap, Bool.false_or, Bool.false_or]
 congr 1
 rw [Bool.eq_iff_iff, anyB_true, List.any_eq_true]
 constructor
 ·rintro ⟨k, hk, h⟩; exact ⟨k, List.mem_range.2 hk, by rw [← lgO_any _ (he k hk)]; exact h⟩
 ·rintro ⟨k, hk, h⟩
  rw [List.mem_range] at hk
  exact ⟨k, hk, by rw [lgO_any _ (he k hk)]; exact h⟩

set_option maxHeartbeats 1000000 in
theorem tlarge_any (t : Tsk) (p : Lies) (w : World) (ht : TaskAt w w.heap.size t p) :
  Calls Tryz.prog 53 #[TaskV t p] w fun e w' => e = .returned (.bool (lgT t)) ∧ Below w.heap.size w w' := by
 have k1 := fun w1 hm he (hb : Below w.heap.size w w1) => conditions_any t p w1 (ht.up hb) hm he
 obtain ⟨av, ai, ag, ao, cv, ci, cg, co⟩ := p
 unfold TaskV at *
 dsimp only at *
 have l1 := ht.vars.len
 have l2 := ht.init.len
 have l3 := ht.goal.len
 have l4 := ht.ops.len
 cases e1 : decide ((64 : Int) < t.vars.length)
 case true =>
  have Hf := Lib.hid (show lgT t = true by unfold lgT; rw [e1]; rfl)
  go_enter Tryz.func53, Tryz.ntmps53
  go_wp2
  go_ret
  exact ⟨bool_ret (by rw [Hf.out]), by exact bel⟩
 cases e2 : decide ((4096 : Int) < t.ops.length)
 case true =>
  have Hf := Lib.hid (show lgT t = true by unfold lgT; rw [e1, e2]; rfl)
  go_enter Tryz.func53, Tryz.ntmps53
  go_wp2
  go_ret
  exact ⟨bool_ret (by rw [Hf.out]), by exact bel⟩
 have hm : t.ops.length ≤ 4096 := by simp at e2; omega
 go_enter Tryz.func53, Tryz.ntmps53
 go_wp2
 go_loopw [18] (fun i wr => ∃ k : Nat, k ≤ t.ops.length ∧ i = .int .i64 k ∧ (∀ j, j < k → (opr t.ops j).effs.length ≤ 64) ∧ Boxed wr w.heap.size t ⟨av, ai, ag, ao, cv, ci, cg, co⟩ ∧ Below w.heap.size w wr) (fun i _ => t.ops.length - (intOf i).toNat)
 case atStart => exact ⟨0, by omega, rfl, fun j hj => absurd hj (by omega), by constructor <;> simp, by exact bel⟩
 case round =>
  obtain ⟨k, hk, rfl, he, hbox, hbel⟩ := hrel
  have He := Lib.hid he
  clear he
  have Hbox := Lib.hid hbox
  obtain ⟨z0, y0, y1, y2, y3⟩ := hbox
  dsimp only at y0 y1 y2 y3
  by_cases hlt : k < t.ops.length
  ·obtain ⟨b, o, S, c, T, d, ea, hb, d0, q0, d1, d2, f2, d3, e3⟩ := ht.ops.at2 hbel hlt; (try dsimp only at ea); subst ea; have hbz := hbel.size; have g2 : b < wr.heap.size := (by omega); have j1 := f2.len; have j2 := e3.len
   cases e3 : decide ((64 : Int) < (opr t.ops k).effs.length)
   ·go_wp2
    go_roundw
    case rel => exact ⟨k + 1, by omega, by go_num, fun j hj => by rcases Nat.lt_succ_iff_lt_or_eq.1 hj with h | rfl; exact He.out j h; simp at e3; omega, Hbox.out.up (by exact bel), by exact bel⟩
    case measure => simp [intOf]; omega
   ·have Hf := Lib.hid (show lgT t = true by
     have h1 : anyB t.ops.length (fun k => lgO (opr t.ops k)) = true := anyB_true.2 ⟨k, hlt, by unfold lgO; rw [e3]; simp⟩
     unfold lgT; rw [h1, Bool.or_true])
    go_wp2
    go_ret
    exact ⟨bool_ret (by rw [Hf.out]), by exact bel⟩
  ·obtain rfl : k = t.ops.length := by omega
   go_wp2_with fail
   refine (k1 _ hm He.out (by exact bel)).mono ?_
   rintro e w1 ⟨⟨v, hs, rfl, hg, hl⟩, hb1⟩
   have Hl := Lib.hid (show lgT t = anyB hs.length (fun k => over (hd hs k)) by rw [over_any, hg.lists]; exact lg_any t e1 e2 He.out)
   have hn : 0 < hs.length := by have h := congrArg List.length hg.lists; rw [List.length_map] at h; unfold cnds at h; rw [List.length_cons] at h; omega
   go_wp2_with fail
   refine (containsf_any _ v _ hs _ (hg.keep (by exact bel)) (by omega) hn).mono ?_
   rintro e w2 ⟨rfl, hb2⟩
   go_wp2
   go_ret
   have hy0 := hbel.size
   have hy1 := hb1.size
   exact ⟨bool_ret (by rw [Hl.out]), by exact bel⟩
end

end Go.Proofs.YtlkebhiaimijiaaGreatDoor
