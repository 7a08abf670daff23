/- simplex: zero, positive, less, proper, the first positive number. -/
import Derived.Test.YtaampjhdgeoicaaMfB
import Derived.Test.YtaampjhdgeoicaaMfC
import Derived.Test.YtaampjhdgeoicaaMfA
import Derived.LoopTactic
namespace Go.Proofs.Ytaampjhdgeoicaa
set_option linter.unusedSimpArgs false
set_option linter.unusedVariables false
open Go Go.RowKit
set_option linter.unusedVariables false

theorem zero_any (w : World) : Calls Try.prog 30 #[] w fun e w' => e = .returned (.agg #[.int .i64 0, .int .i64 1]) ∧ Below w.heap.size w w' := by
  go_enter Try.func30, Try.ntmps30
  go_wp2
  exact bodyPost_ret (v := .agg #[.int .i64 0, .int .i64 1]) (by simp [results, Try.results30, go_sem]) rfl ⟨rfl, by repeat (first | exact Below.refl _ _ | refine below_dN ?_ _ | refine Below.drew ?_ | refine Below.alloc ?_ (by first | omega | (simp; done) | (simp; omega)) _ | refine Below.setCell ?_ (by first | omega | (simp; done) | (simp; omega)) _ | refine below_step (by assumption) (by first | omega | (simp; done) | (simp; omega)) ?_)⟩
theorem positive_any (n d : Int) (w : World) : Calls Try.prog 27 #[.agg #[.int .i64 n, .int .i64 d]] w fun e w' => e = .returned (.bool (decide (0 < n))) ∧ Below w.heap.size w w' := by
  go_enter Try.func27, Try.ntmps27
  go_wp2
  go_ret
  exact ⟨rfl, by repeat (first | exact Below.refl _ _ | refine below_dN ?_ _ | refine Below.drew ?_ | refine Below.alloc ?_ (by first | omega | (simp; done) | (simp; omega)) _ | refine Below.setCell ?_ (by first | omega | (simp; done) | (simp; omega)) _ | refine below_step (by assumption) (by first | omega | (simp; done) | (simp; omega)) ?_)⟩

/-- The numbers' part of a value. -/
def lsF (x f y : Rat) : Int × Int × Int := if Rep (f * y) then toF (x - f * y) else (0, 0, 5)
theorem mulF_rep {x y : Rat} (hx : Rep x) (hy : Rep y) : mulF x.num x.den y.num y.den = toF (x * y) := Fr.mul (rep_fr hx) (rep_fr hy)
theorem subF_rep {x y : Rat} (hx : Rep x) (hy : Rep y) : subF x.num x.den y.num y.den = toF (x - y) := Fr.sub (rep_fr hx) (rep_fr hy)
theorem addF_rep {x y : Rat} (hx : Rep x) (hy : Rep y) : addF x.num x.den y.num y.den = toF (x + y) := Fr.add (rep_fr hx) (rep_fr hy)
theorem divF_rep {x y : Rat} (hx : Rep x) (hy : Rep y) (h0 : y ≠ 0) : divF x.num x.den y.num y.den = toF (x / y) := by
  rw [Fr.div (rep_fr hx) (rep_fr hy), if_neg fun e => h0 ((Fr.zero (rep_fr hy)).1 e), Rat.div_def]

set_option maxHeartbeats 1000000 in
theorem less_any (x f y : Rat) (w : World) (hx : Rep x) (hf : Rep f) (hy : Rep y) :
    Calls Try.prog 55 #[.agg #[.int .i64 x.num, .int .i64 x.den], .agg #[.int .i64 f.num, .int .i64 f.den], .agg #[.int .i64 y.num, .int .i64 y.den]] w (RetFE (lsF x f y) w) := by
  have k1 := fun W => mul_any f.num f.den y.num y.den W
  rw [mulF_rep hf hy] at k1
  by_cases hp : Rep (f * y)
  · have k2 := fun W => sub_any x.num x.den (f * y).num (f * y).den W
    rw [subF_rep hx hp] at k2
    rw [rep_toF hp] at k1
    have HL := Lib.hid (show lsF x f y = toF (x - f * y) by unfold lsF; rw [if_pos hp])
    unfold RetFE at k1
    simp only [errV_0] at k1
    obtain ⟨r, hr⟩ : ∃ r, toF (x - f * y) = r := ⟨_, rfl⟩
    obtain ⟨p, hpp⟩ : ∃ p, (f * y).num = p := ⟨_, rfl⟩
    obtain ⟨q, hq⟩ : ∃ q, ((f * y).den : Int) = q := ⟨_, rfl⟩
    rw [hr] at k2 HL
    rw [hpp, hq] at k1 k2
    have K1 := Lib.hid k1
    have K2 := Lib.hid k2
    clear k1 k2 hr hpp hq hx hf hy hp
    go_enter Try.func55, Try.ntmps55
    go_wp2_with fail; refine (K1.out _).mono ?_; rintro e w1 ⟨rfl, hb1⟩; obtain ⟨hc1, hf1, hz1, hlt1, hle1⟩ := cellsIf hb1 (by (try simp); exact rfl); (try have : w.heap.size < w1.heap.size := (by omega)); (try have : w.heap.size < w1.heap.size + 1 := (by omega)); (try have : w.heap.size < w1.heap.size + 1 + 1 := (by omega)); (try have : w.heap.size + 1 < w1.heap.size := (by omega)); (try have : w.heap.size + 1 < w1.heap.size + 1 := (by omega)); (try have : w.heap.size + 1 < w1.heap.size + 1 + 1 := (by omega)); (try have : w.heap.size + 1 + 1 < w1.heap.size := (by omega)); (try have : w.heap.size + 1 + 1 < w1.heap.size + 1 := (by omega)); (try have : w.heap.size + 1 + 1 < w1.heap.size + 1 + 1 := (by omega))
    have p1 : w.heap.size + 1 + 1 + 1 < w1.heap.size := by omega
    have p2 : w.heap.size + 1 + 1 + 1 < w1.heap.size + 1 := by omega
    go_wp2_with fail; refine (K2.out _).mono ?_; rintro e w2 ⟨rfl, hb2⟩; obtain ⟨hc2, hf2, hz2, hlt2, hle2⟩ := cellsIf hb2 (by (try simp); exact rfl); (try have : w.heap.size < w2.heap.size := (by omega)); (try have : w.heap.size < w2.heap.size + 1 := (by omega)); (try have : w.heap.size < w2.heap.size + 1 + 1 := (by omega)); (try have : w.heap.size + 1 < w2.heap.size := (by omega)); (try have : w.heap.size + 1 < w2.heap.size + 1 := (by omega)); (try have : w.heap.size + 1 < w2.heap.size + 1 + 1 := (by omega)); (try have : w.heap.size + 1 + 1 < w2.heap.size := (by omega)); (try have : w.heap.size + 1 + 1 < w2.heap.size + 1 := (by omega)); (try have : w.heap.size + 1 + 1 < w2.heap.size + 1 + 1 := (by omega)); (try have : w1.heap.size < w2.heap.size := (by omega)); (try have : w1.heap.size < w2.heap.size + 1 := (by omega)); (try have : w1.heap.size < w2.heap.size + 1 + 1 := (by omega)); (try have : w1.heap.size + 1 < w2.heap.size := (by omega)); (try have : w1.heap.size + 1 < w2.heap.size + 1 := (by omega)); (try have : w1.heap.size + 1 < w2.heap.size + 1 + 1 := (by omega)); (try have : w1.heap.size + 1 + 1 < w2.heap.size := (by omega)); (try have : w1.heap.size + 1 + 1 < w2.heap.size + 1 := (by omega)); (try have : w1.heap.size + 1 + 1 < w2.heap.size + 1 + 1 := (by omega))
    have p3 : w.heap.size + 1 + 1 + 1 < w2.heap.size := by omega
    go_wp2
    refine bodyPost_ret (v := .tuple #[.agg #[.int .i64 r.1, .int .i64 r.2.1], errV r.2.2]) (by simp [results, Try.results55, go_sem, ↓IntWalk.iteOmega, *]) rfl (RetFE.mk (by rw [HL.out]) ?_)
    repeat (first | exact Below.refl _ _ | refine below_dN ?_ _ | refine Below.drew ?_ | refine Below.alloc ?_ (by first | omega | (simp; done) | (simp; omega)) _ | refine Below.setCell ?_ (by first | omega | (simp; done) | (simp; omega)) _ | refine below_step (by assumption) (by first | omega | (simp; done) | (simp; omega)) ?_)
  · rw [not_rep hp] at k1
    have HL := Lib.hid (show lsF x f y = (0, 0, 5) by unfold lsF; rw [if_neg hp])
    unfold RetFE at k1
    simp only [errV_5] at k1
    have K1 := Lib.hid k1
    clear k1 hx hf hy hp
    go_enter Try.func55, Try.ntmps55
    go_wp2_with fail; refine (K1.out _).mono ?_; rintro e w1 ⟨rfl, hb1⟩; obtain ⟨hc1, hf1, hz1, hlt1, hle1⟩ := cellsIf hb1 (by (try simp); exact rfl); (try have : w.heap.size < w1.heap.size := (by omega)); (try have : w.heap.size < w1.heap.size + 1 := (by omega)); (try have : w.heap.size < w1.heap.size + 1 + 1 := (by omega)); (try have : w.heap.size + 1 < w1.heap.size := (by omega)); (try have : w.heap.size + 1 < w1.heap.size + 1 := (by omega)); (try have : w.heap.size + 1 < w1.heap.size + 1 + 1 := (by omega)); (try have : w.heap.size + 1 + 1 < w1.heap.size := (by omega)); (try have : w.heap.size + 1 + 1 < w1.heap.size + 1 := (by omega)); (try have : w.heap.size + 1 + 1 < w1.heap.size + 1 + 1 := (by omega))
    go_wp2
    refine bodyPost_ret (v := .tuple #[.agg #[.int .i64 0, .int .i64 0], .iface 68 (.int .i64 5)]) (by simp [results, Try.results55, go_sem, ↓IntWalk.iteOmega, *]) rfl (RetFE.mk (by rw [HL.out]; rfl) ?_)
    repeat (first | exact Below.refl _ _ | refine below_dN ?_ _ | refine Below.drew ?_ | refine Below.alloc ?_ (by first | omega | (simp; done) | (simp; omega)) _ | refine Below.setCell ?_ (by first | omega | (simp; done) | (simp; omega)) _ | refine below_step (by assumption) (by first | omega | (simp; done) | (simp; omega)) ?_)

/-- Are all fractions of a list proper? -/
def prL (l : List (Int × Int)) : Bool := !anyB l.length fun i => !prB (fv l i) (fx l i)
theorem prL_iff {l : List (Int × Int)} : prL l = true ↔ ∀ i, i < l.length → prB (fv l i) (fx l i) = true := by
  unfold prL
  rw [Bool.not_eq_true', anyB_false]
  exact ⟨fun h i hi => by simpa using h i hi, fun h i hi => by simpa using h i hi⟩
set_option maxHeartbeats 1000000 in
theorem sproper_any (l : List (Int × Int)) (A : Option Addr) (c : Nat) (w : World) (hl : FactsAt w w.heap.size A l) :
    Calls Try.prog 50 #[.slice A l.length c] w fun e w' => e = .returned (.bool (prL l)) ∧ Below w.heap.size w w' := by
  have l1 := hl.len
  have HG : Hid (prL l = !anyB l.length fun i => !prB (fv l i) (fx l i)) := rfl
  go_enter Try.func50, Try.ntmps50
  go_wp2
  go_loopw [7] (fun i wr => ∃ k : Nat, k ≤ l.length ∧ i = .int .i64 k ∧ Hid ((anyB k fun i => !prB (fv l i) (fx l i)) = false) ∧ Below w.heap.size w wr) (fun i _ => l.length - (intOf i).toNat)
  case atStart => exact ⟨0, by omega, rfl, rfl, Below.refl _ _⟩
  case round =>
    obtain ⟨k, hk, rfl, hB, hbel⟩ := hrel
    have hbz := hbel.size
    by_cases hlt : k < l.length
    · obtain ⟨b1, o1, e1, hb1, hc1⟩ := hl.at_ hlt
      subst e1
      have d1 := (hbel.cell (p := ⟨b1, o1 + k * 2, none⟩) hb1).trans (hc1 k hlt).1
      have d2 := (hbel.cell (p := ⟨b1, o1 + k * 2 + 1, none⟩) hb1).trans (hc1 k hlt).2
      have g1 : b1 < wr.heap.size := by omega
      have k0 : (0 : Int) ≤ (k : Int) := by omega
      have k1 : (k : Int) < (l.length : Int) := by omega
      have HS : Hid ((anyB (k + 1) fun i => !prB (fv l i) (fx l i)) = ((anyB k fun i => !prB (fv l i) (fx l i)) || !prB (fv l k) (fx l k))) := anyB_succ _ _
      have KP := Lib.hid (fun wx => proper_any (fv l k) (fx l k) wx)
      clear hc1
      cases e2 : prB (fv l k) (fx l k)
      · have Hf := Lib.hid (show prL l = false by rw [HG.out, anyB_true.2 ⟨k, hlt, by rw [e2]; rfl⟩]; rfl)
        rw [e2] at KP
        go_wp2_with fail
        refine (KP.out _).mono ?_
        rintro e w3 ⟨rfl, hb3⟩
        go_wp2
        go_ret
        exact ⟨bool_ret Hf.out.symm, (hbel.alloc hbz _).trans (hb3.mono (by simp; omega))⟩
      · rw [e2] at KP
        go_wp2_with fail
        refine (KP.out _).mono ?_
        rintro e w3 ⟨rfl, hb3⟩
        go_wp2
        go_roundw
        case rel => exact ⟨k + 1, by omega, by go_num, by rw [HS.out, hB.out, e2]; rfl, (hbel.alloc hbz _).trans (hb3.mono (by simp; omega))⟩
        case measure => simp [intOf]; omega
    · obtain rfl : k = l.length := by omega
      have Ht := Lib.hid (show prL l = true by rw [HG.out, hB.out]; rfl)
      go_wp2
      go_ret
      exact ⟨bool_ret Ht.out.symm, hbel⟩

/-- Rational numbers that lie somewhere. -/
def RtAt (w : World) (A : Option Addr) (N : Nat) (f : Nat → Rat) : Prop := N ≤ 1000000 ∧ (0 < N → ∃ b off, A = some ⟨b, off, none⟩ ∧ b < w.heap.size ∧ ∀ j, j < N → w.cell? ⟨b, off + j * 2, none⟩ = some (.int .i64 (f j).num) ∧ w.cell? ⟨b, off + j * 2 + 1, none⟩ = some (.int .i64 (f j).den))
theorem RtAt.up {w w' : World} {A : Option Addr} {N : Nat} {f : Nat → Rat} (h : RtAt w A N f) (hb : Below w.heap.size w w') : RtAt w' A N f := ⟨h.1, fun h0 => by
  obtain ⟨b, off, e, hlt, hc⟩ := h.2 h0
  exact ⟨b, off, e, Nat.lt_of_lt_of_le hlt hb.size, fun j hj => ⟨(hb.cell (p := ⟨b, _, none⟩) hlt).trans (hc j hj).1, (hb.cell (p := ⟨b, _, none⟩) hlt).trans (hc j hj).2⟩⟩⟩
theorem RtAt.at_ {w : World} {A : Option Addr} {N : Nat} {f : Nat → Rat} (h : RtAt w A N f) {k : Nat} (hk : k < N) : ∃ b off, A = some ⟨b, off, none⟩ ∧ b < w.heap.size ∧ ∀ j, j < N → w.cell? ⟨b, off + j * 2, none⟩ = some (.int .i64 (f j).num) ∧ w.cell? ⟨b, off + j * 2 + 1, none⟩ = some (.int .i64 (f j).den) := h.2 (by omega)
/-- A fraction's value. -/
def rl (l : List (Int × Int)) (j : Nat) : Rat := Rat.divInt (fv l j) (fx l j)
theorem rl_num {l : List (Int × Int)} {j : Nat} (h : prB (fv l j) (fx l j) = true) : (rl l j).num = fv l j ∧ ((rl l j).den : Int) = fx l j := prB_rat h
theorem rl_rep {l : List (Int × Int)} {j : Nat} (h : prB (fv l j) (fx l j) = true) : Rep (rl l j) := (fr_rep ⟨h, rfl⟩).1
theorem facts_rt {w : World} {A : Option Addr} {l : List (Int × Int)} (h : FactsAt w w.heap.size A l) (hp : prL l = true) (hl : l.length ≤ 1000000) : RtAt w A l.length (rl l) := ⟨hl, fun h0 => by
  obtain ⟨b, off, e, hlt, hc⟩ := h.2 h0
  refine ⟨b, off, e, hlt, fun j hj => ?_⟩
  obtain ⟨h1, h2⟩ := rl_num (prL_iff.1 hp j hj)
  rw [h1, h2]
  exact hc j hj⟩

/-- The first positive number: its index, or -1. -/
def PosIx (N : Nat) (f : Nat → Rat) (i : Int) : Prop := (∃ k : Nat, i = k ∧ k < N ∧ 0 < f k ∧ ∀ j, j < k → ¬ 0 < f j) ∨ (i = -1 ∧ ∀ j, j < N → ¬ 0 < f j)
set_option maxHeartbeats 1000000 in
theorem idxpos_any (f : Nat → Rat) (N : Nat) (A : Option Addr) (c : Nat) (w : World) (hl : RtAt w A N f) :
    Calls Try.prog 26 #[.slice A N c, .func (.func 27) #[] #[]] w fun e w' => (∃ i, e = .returned (.int .i64 i) ∧ PosIx N f i) ∧ Below w.heap.size w w' := by
  have l1 := hl.1
  go_enter Try.func26, Try.ntmps26
  go_wp2
  go_loopw [8] (fun i wr => ∃ k : Nat, k ≤ N ∧ i = .int .i64 k ∧ Hid (∀ j, j < k → ¬ 0 < f j) ∧ Below w.heap.size w wr) (fun i _ => N - (intOf i).toNat)
  case atStart => exact ⟨0, by omega, rfl, Lib.hid (fun j hj => absurd hj (by omega)), Below.refl _ _⟩
  case round =>
    obtain ⟨k, hk, rfl, hB, hbel⟩ := hrel
    have hbz := hbel.size
    by_cases hltk : k < N
    · obtain ⟨b1, o1, ea, hb1, hc1⟩ := hl.at_ hltk
      subst ea
      have d1 := (hbel.cell (p := ⟨b1, o1 + k * 2, none⟩) hb1).trans (hc1 k hltk).1
      have d2 := (hbel.cell (p := ⟨b1, o1 + k * 2 + 1, none⟩) hb1).trans (hc1 k hltk).2
      have g1 : b1 < wr.heap.size := by omega
      have k0 : (0 : Int) ≤ (k : Int) := by omega
      have k1 : (k : Int) < (N : Int) := by omega
      have KP := Lib.hid (fun wx => positive_any (f k).num (f k).den wx)
      clear hc1
      by_cases e2 : 0 < f k
      · have e3 : decide (0 < (f k).num) = true := decide_eq_true (rep_pos.2 e2)
        rw [e3] at KP
        have He2 := Lib.hid e2
        clear e3 e2
        go_wp2_with fail
        refine (KP.out _).mono ?_
        rintro e w3 ⟨rfl, hb3⟩
        go_wp2
        go_ret
        exact ⟨⟨_, rfl, .inl ⟨k, rfl, hltk, He2.out, hB.out⟩⟩, hbel.trans (hb3.mono hbz)⟩
      · have e3 : decide (0 < (f k).num) = false := decide_eq_false fun h => e2 (rep_pos.1 h)
        rw [e3] at KP
        have He2 := Lib.hid e2
        clear e3 e2
        go_wp2_with fail
        refine (KP.out _).mono ?_
        rintro e w3 ⟨rfl, hb3⟩
        go_wp2
        go_roundw
        case rel => exact ⟨k + 1, by omega, by go_num, Lib.hid (fun j hj => by rcases Nat.lt_succ_iff_lt_or_eq.1 hj with h | rfl; exact hB.out j h; exact He2.out), hbel.trans (hb3.mono hbz)⟩
        case measure => simp [intOf]; omega
    · obtain rfl : k = N := by omega
      go_wp2
      go_ret
      exact ⟨⟨_, rfl, .inr ⟨rfl, hB.out⟩⟩, hbel⟩

end Go.Proofs.Ytaampjhdgeoicaa
