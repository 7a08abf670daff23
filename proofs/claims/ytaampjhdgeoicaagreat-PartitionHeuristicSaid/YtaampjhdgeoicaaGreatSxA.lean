/- simplex: zero, positive, less, proper, the first positive number. -/
import Derived.Test.YtaampjhdgeoicaaGreatMfB
import Derived.Test.YtaampjhdgeoicaaGreatMfC
import Derived.Test.YtaampjhdgeoicaaGreatMfA
import Derived.LoopTactic
namespace Go.Proofs.YtaampjhdgeoicaaGreat
set_option linter.unusedSimpArgs false
set_option linter.unusedVariables false
open Go Go.RowKit
set_option linter.unusedVariables false

theorem zero_any (w : World) : Calls Tryz.prog 101 #[] w fun e w' => e = .returned (.agg #[.int .i64 0, .int .i64 1]) ∧ Below w.heap.size w w' := by
 go_enter Tryz.func101, Tryz.ntmps101
 go_wp2
 exact bodyPost_ret (v := .agg #[.int .i64 0, .int .i64 1]) (by simp [results, Tryz.results101, go_sem]) rfl ⟨rfl, by exact bel⟩
theorem positive_any (n d : Int) (w : World) : Calls Tryz.prog 98 #[.agg #[.int .i64 n, .int .i64 d]] w fun e w' => e = .returned (.bool (decide (0 < n))) ∧ Below w.heap.size w w' := by
 go_enter Tryz.func98, Tryz.ntmps98
 go_wp2
 go_ret
 exact ⟨rfl, by exact bel⟩

/-- The numbers' part of a value. -/
def lsF (x f y : Rat) : Int × Int × Int := if Rep (f * y) then toF (x - f * y) else (0, 0, 5)
theorem mulF_rep {x y : Rat} (hx : Rep x) (hy : Rep y) : mulF x.num x.den y.num y.den = toF (x * y) := Fr.mul (rep_fr hx) (rep_fr hy)
theorem subF_rep {x y : Rat} (hx : Rep x) (hy : Rep y) : subF x.num x.den y.num y.den = toF (x - y) := Fr.sub (rep_fr hx) (rep_fr hy)
theorem addF_rep {x y : Rat} (hx : Rep x) (hy : Rep y) : addF x.num x.den y.num y.den = toF (x + y) := Fr.add (rep_fr hx) (rep_fr hy)
theorem divF_rep {x y : Rat} (hx : Rep x) (hy : Rep y) (h0 : y ≠ 0) : divF x.num x.den y.num y.den = toF (x / y) := by
 rw [Fr.div (rep_fr hx) (rep_fr hy), if_neg fun e => h0 ((Fr.zero (rep_fr hy)).1 e), Rat.div_def]

set_option maxHeartbeats 1000000 in
theorem less_any (x f y : Rat) (w : World) (hx : Rep x) (hf : Rep f) (hy : Rep y) :
  Calls Tryz.prog 116 #[.agg #[.int .i64 x.num, .int .i64 x.den], .agg #[.int .i64 f.num, .int .i64 f.den], .agg #[.int .i64 y.num, .int .i64 y.den]] w (RetFE (lsF x f y) w) := by
 have k1 := fun W => mul_any f.num f.den y.num y.den W
 rw [mulF_rep hf hy] at k1
 by_cases hp : Rep (f * y)
 ·have k2 := fun W => sub_any x.num x.den (f * y).num (f * y).den W
  rw [subF_rep hx hp] at k2
  rw [rep_toF hp] at k1
  have HL := Lib.hid (show lsF x f y = toF (x - f * y) by unfold lsF; rw [if_pos hp])
  unfold RetFE at k1
  simp only [errV_0] at k1
  obtain ⟨r, hr⟩ : ∃ r, toF (x - f * y) = r := ⟨_, rfl⟩
  obtain ⟨p, hpp⟩ : ∃ p, (f * y).num = p := ⟨_, rfl⟩
  obtain ⟨q, hq⟩ : ∃ q, ((f * y).den : Int) = q := ⟨_, rfl⟩
  rw [hr] at k2 HL
  rw [hpp, hq] at k1 k2
  have K1 := Lib.hid k1
  have K2 := Lib.hid k2
  clear k1 k2 hr hpp hq hx hf hy hp
  go_enter Tryz.func116, Tryz.ntmps116
  go_wp2_with fail; refine (K1.out _).mono ?_; rintro e w1 ⟨rfl, hb1⟩; obtain ⟨hc1, hf1, hz1, hlt1, hle1⟩ := cellsIf hb1 (by (try simp); exact rfl); (try have := s00 w w1); (try have := s01 w w1); (try have := s02 w w1); (try have := s10 w w1); (try have := s11 w w1); (try have := s12 w w1); (try have := s20 w w1); (try have := s21 w w1); (try have := s22 w w1)
  have p1 : w.heap.size + 1 + 1 + 1 < w1.heap.size := by omega
  have p2 : w.heap.size + 1 + 1 + 1 < w1.heap.size + 1 := by omega
  go_wp2_with fail; refine (K2.out _).mono ?_; rintro e w2 ⟨rfl, hb2⟩; obtain ⟨hc2, hf2, hz2, hlt2, hle2⟩ := cellsIf hb2 (by (try simp); exact rfl); (try have := s00 w w2); (try have := s01 w w2); (try have := s02 w w2); (try have := s10 w w2); (try have := s11 w w2); (try have := s12 w w2); (try have := s20 w w2); (try have := s21 w w2); (try have := s22 w w2); (try have := s00 w1 w2); (try have := s01 w1 w2); (try have := s02 w1 w2); (try have := s10 w1 w2); (try have := s11 w1 w2); (try have := s12 w1 w2); (try have := s20 w1 w2); (try have := s21 w1 w2); (try have := s22 w1 w2)
  have p3 : w.heap.size + 1 + 1 + 1 < w2.heap.size := by omega
  go_wp2
  refine bodyPost_ret (v := .tuple #[.agg #[.int .i64 r.1, .int .i64 r.2.1], errV r.2.2]) (by simp [results, Tryz.results116, go_sem, ↓IntWalk.iteOmega, *]) rfl (RetFE.mk (by rw [HL.out]) ?_)
  exact bel
 ·rw [not_rep hp] at k1
  have HL := Lib.hid (show lsF x f y = (0, 0, 5) by unfold lsF; rw [if_neg hp])
  unfold RetFE at k1
  simp only [errV_5] at k1
  have K1 := Lib.hid k1
  clear k1 hx hf hy hp
  go_enter Tryz.func116, Tryz.ntmps116
  go_wp2_with fail; refine (K1.out _).mono ?_; rintro e w1 ⟨rfl, hb1⟩; obtain ⟨hc1, hf1, hz1, hlt1, hle1⟩ := cellsIf hb1 (by (try simp); exact rfl); (try have := s00 w w1); (try have := s01 w w1); (try have := s02 w w1); (try have := s10 w w1); (try have := s11 w w1); (try have := s12 w w1); (try have := s20 w w1); (try have := s21 w w1); (try have := s22 w w1)
  go_wp2
  refine bodyPost_ret (v := .tuple #[.agg #[.int .i64 0, .int .i64 0], .iface 49 (.int .i64 5)]) (by simp [results, Tryz.results116, go_sem, ↓IntWalk.iteOmega, *]) rfl (RetFE.mk (by rw [HL.out]; rfl) ?_)
  exact bel

/-- Are all fractions of a list proper? -/
def prL (l : List (Int × Int)) : Bool := !anyB l.length fun i => !prB (fv l i) (fx l i)
theorem prL_iff {l : List (Int × Int)} : prL l = true ↔ ∀ i, i < l.length → prB (fv l i) (fx l i) = true := by
 unfold prL
 rw [Bool.not_eq_true', anyB_false]
 exact ⟨fun h i hi => by simpa using h i hi, fun h i hi => by simpa using h i hi⟩
set_option maxHeartbeats 1000000 in
theorem sproper_any (l : List (Int × Int)) (A : Option Addr) (c : Nat) (w : World) (hl : FactsAt w w.heap.size A l) :
  Calls Tryz.prog 112 #[.slice A l.length c] w fun e w' => e = .returned (.bool (prL l)) ∧ Below w.heap.size w w' := by
 have l1 := hl.len
 have HG : Hid (prL l = !anyB l.length fun i => !prB (fv l i) (fx l i)) := rfl
 go_enter Tryz.func112, Tryz.ntmps112
 go_wp2
 go_loopw [7] (fun i wr => ∃ k : Nat, k ≤ l.length ∧ i = .int .i64 k ∧ Hid ((anyB k fun i => !prB (fv l i) (fx l i)) = false) ∧ Below w.heap.size w wr) (fun i _ => l.length - (intOf i).toNat)
 case atStart => exact ⟨0, by omega, rfl, rfl, Below.refl _ _⟩
 case round =>
  obtain ⟨k, hk, rfl, hB, hbel⟩ := hrel
  have hbz := hbel.size
  by_cases hlt : k < l.length
  ·obtain ⟨b1, o1, e1, hb1, hc1⟩ := hl.at_ hlt
   subst e1
   have d1 := (hbel.cell (p := ⟨b1, o1 + k * 2, none⟩) hb1).trans (hc1 k hlt).1
   have d2 := (hbel.cell (p := ⟨b1, o1 + k * 2 + 1, none⟩) hb1).trans (hc1 k hlt).2
   have g1 : b1 < wr.heap.size := by omega
   have k0 : (0 : Int) ≤ (k : Int) := by omega
   have k1 : (k : Int) < (l.length : Int) := by omega
   have HS : Hid ((anyB (k + 1) fun i => !prB (fv l i) (fx l i)) = ((anyB k fun i => !prB (fv l i) (fx l i)) || !prB (fv l k) (fx l k))) := anyB_succ _ _
   have KP := Lib.hid (fun wx => proper_any (fv l k) (fx l k) wx)
   clear hc1
   cases e2 : prB (fv l k) (fx l k)
   ·have Hf := Lib.hid (show prL l = false by rw [HG.out, anyB_true.2 ⟨k, hlt, by rw [e2]; rfl⟩]; rfl)
    rw [e2] at KP
    go_wp2_with fail
    refine (KP.out _).mono ?_
    rintro e w3 ⟨rfl, hb3⟩
    go_wp2
    go_ret
    exact ⟨bool_ret Hf.out.symm, (hbel.alloc hbz _).trans (hb3.mono (by simp; omega))⟩
   ·rw [e2] at KP
    go_wp2_with fail
    refine (KP.out _).mono ?_
    rintro e w3 ⟨rfl, hb3⟩
    go_wp2
    go_roundw
    case rel => exact ⟨k + 1, by omega, by go_num, by rw [HS.out, hB.out, e2]; rfl, (hbel.alloc hbz _).trans (hb3.mono (by simp; omega))⟩
    case measure => simp [intOf]; omega
  ·obtain rfl : k = l.length := by omega
   have Ht := Lib.hid (show prL l = true by rw [HG.out, hB.out]; rfl)
   go_wp2
   go_ret
   exact ⟨bool_ret Ht.out.symm, hbel⟩

/-- Rational numbers that lie somewhere. -/
def RtAt (w : World) (A : Option Addr) (N : Nat) (f : Nat → Rat) : Prop := N ≤ 1000000 ∧ (0 < N → ∃ b off, A = some ⟨b, off, none⟩ ∧ b < w.heap.size ∧ ∀ j, j < N → w.cell? ⟨b, off + j * 2, none⟩ = some (.int .i64 (f j).num) ∧ w.cell? ⟨b, off + j * 2 + 1, none⟩ = some (.int .i64 (f j).den))
theorem RtAt.at_ {w : World} {A : Option Addr} {N : Nat} {f : Nat → Rat} (h : RtAt w A N f) {k : Nat} (hk : k < N) : ∃ b off, A = some ⟨b, off, none⟩ ∧ b < w.heap.size ∧ ∀ j, j < N → w.cell? ⟨b, off + j * 2, none⟩ = some (.int .i64 (f j).num) ∧ w.cell? ⟨b, off + j * 2 + 1, none⟩ = some (.int .i64 (f j).den) := h.2 (by omega)
/-- A fraction's value. -/
def rl (l : List (Int × Int)) (j : Nat) : Rat := Rat.divInt (fv l j) (fx l j)
theorem rl_num {l : List (Int × Int)} {j : Nat} (h : prB (fv l j) (fx l j) = true) : (rl l j).num = fv l j ∧ ((rl l j).den : Int) = fx l j := prB_rat h
theorem rl_rep {l : List (Int × Int)} {j : Nat} (h : prB (fv l j) (fx l j) = true) : Rep (rl l j) := (fr_rep ⟨h, rfl⟩).1
/-- The first positive number: its index, or -1. -/
def PosIx (N : Nat) (f : Nat → Rat) (i : Int) : Prop := (∃ k : Nat, i = k ∧ k < N ∧ 0 < f k ∧ ∀ j, j < k → ¬ 0 < f j) ∨ (i = -1 ∧ ∀ j, j < N → ¬ 0 < f j)
set_option maxHeartbeats 1000000 in
theorem idxpos_any (f : Nat → Rat) (N : Nat) (A : Option Addr) (c : Nat) (w : World) (hl : RtAt w A N f) :
  Calls Tryz.prog 97 #[.slice A N c, .func (.func 98) #[] #[]] w fun e w' => (∃ i, e = .returned (.int .i64 i) ∧ PosIx N f i) ∧ Below w.heap.size w w' := by
 have l1 := hl.1
 go_enter Tryz.func97, Tryz.ntmps97
 go_wp2
 go_loopw [8] (fun i wr => ∃ k : Nat, k ≤ N ∧ i = .int .i64 k ∧ Hid (∀ j, j < k → ¬ 0 < f j) ∧ Below w.heap.size w wr) (fun i _ => N - (intOf i).toNat)
 case atStart => exact ⟨0, by omega, rfl, Lib.hid (fun j hj => absurd hj (by omega)), Below.refl _ _⟩
 case round =>
  obtain ⟨k, hk, rfl, hB, hbel⟩ := hrel
  have hbz := hbel.size
  by_cases hltk : k < N
  ·obtain ⟨b1, o1, ea, hb1, hc1⟩ := hl.at_ hltk
   subst ea
   have d1 := (hbel.cell (p := ⟨b1, o1 + k * 2, none⟩) hb1).trans (hc1 k hltk).1
   have d2 := (hbel.cell (p := ⟨b1, o1 + k * 2 + 1, none⟩) hb1).trans (hc1 k hltk).2
   have g1 : b1 < wr.heap.size := by omega
   have k0 : (0 : Int) ≤ (k : Int) := by omega
   have k1 : (k : Int) < (N : Int) := by omega
   have KP := Lib.hid (fun wx => positive_any (f k).num (f k).den wx)
   clear hc1
   by_cases e2 : 0 < f k
   ·have e3 : decide (0 < (f k).num) = true := decide_eq_true (rep_pos.2 e2)
    rw [e3] at KP
    have He2 := Lib.hid e2
    clear e3 e2
    go_wp2_with fail
    refine (KP.out _).mono ?_
    rintro e w3 ⟨rfl, hb3⟩
    go_wp2
    go_ret
    exact ⟨⟨_, rfl, .inl ⟨k, rfl, hltk, He2.out, hB.out⟩⟩, hbel.trans (hb3.mono hbz)⟩
   ·have e3 : decide (0 < (f k).num) = false := decide_eq_false fun h => e2 (rep_pos.1 h)
    rw [e3] at KP
    have He2 := Lib.hid e2
    clear e3 e2
    go_wp2_with fail
    refine (KP.out _).mono ?_
    rintro e w3 ⟨rfl, hb3⟩
    go_wp2
    go_roundw
    case rel => exact ⟨k + 1, by omega, by go_num, Lib.hid (fun j hj => by rcases Nat.lt_succ_iff_lt_or_eq.1 hj with h | rfl; exact hB.out j h; exact He2.out), hbel.trans (hb3.mono hbz)⟩
    case measure => simp [intOf]; omega
  ·obtain rfl : k = N := by omega
   go_wp2
   go_ret
   exact ⟨⟨_, rfl, .inr ⟨rfl, hB.out⟩⟩, hbel⟩

end Go.Proofs.YtaampjhdgeoicaaGreat
