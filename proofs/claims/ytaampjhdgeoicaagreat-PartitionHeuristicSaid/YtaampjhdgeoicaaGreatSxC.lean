/- simplex: check. -/
import Derived.Test.YtaampjhdgeoicaaGreatSxB
namespace Go.Proofs.YtaampjhdgeoicaaGreat
set_option linter.unusedSimpArgs false
set_option linter.unusedVariables false
open Go Go.RowKit
set_option linter.unusedVariables false

def mr (R : List (List (Int × Int))) (i : Nat) : List (Int × Int) := R.getD i []
/-- Rows of fractions that lie somewhere. -/
def MxAt (w : World) (A : Option Addr) (R : List (List (Int × Int))) : Prop := R.length ≤ 140737488355328 ∧ (0 < R.length → ∃ b off, A = some ⟨b, off, none⟩ ∧ b < w.heap.size ∧ ∀ i, i < R.length → ∃ S c, w.cell? ⟨b, off + i, none⟩ = some (.slice S (mr R i).length c) ∧ (S = none → c = 0) ∧ FactsAt w w.heap.size S (mr R i))
theorem factsAt_up {w w' : World} {A : Option Addr} {l : List (Int × Int)} (h : FactsAt w w.heap.size A l) (hb : Below w.heap.size w w') : FactsAt w' w'.heap.size A l := h.keep (fun _ hp => hb.cell hp) hb.size
theorem MxAt.up {w w' : World} {A : Option Addr} {R : List (List (Int × Int))} (h : MxAt w A R) (hb : Below w.heap.size w w') : MxAt w' A R := ⟨h.1, fun h0 => by
 obtain ⟨b, off, e, hlt, hc⟩ := h.2 h0
 refine ⟨b, off, e, Nat.lt_of_lt_of_le hlt hb.size, fun i hi => ?_⟩
 obtain ⟨S, c, h1, h2, h3⟩ := hc i hi
 exact ⟨S, c, (hb.cell (p := ⟨b, _, none⟩) hlt).trans h1, h2, factsAt_up h3 hb⟩⟩
theorem MxAt.at_ {w : World} {A : Option Addr} {R : List (List (Int × Int))} (h : MxAt w A R) {i : Nat} (hi : i < R.length) : ∃ b off, A = some ⟨b, off, none⟩ ∧ b < w.heap.size ∧ ∀ i, i < R.length → ∃ S c, w.cell? ⟨b, off + i, none⟩ = some (.slice S (mr R i).length c) ∧ (S = none → c = 0) ∧ FactsAt w w.heap.size S (mr R i) := h.2 (by omega)

/-- The number of the error of Solve's arguments. -/
def chk37 (c : List (Int × Int)) (R : List (List (Int × Int))) (b : List (Int × Int)) : Int :=
 if 24 < c.length ∨ 24 < R.length ∨ 24 < b.length then 5
 else if R.length ≠ b.length then 11
 else if anyB R.length (fun i => decide ((mr R i).length ≠ c.length)) then 11
 else if !prL c || !prL b then 2
 else if anyB R.length (fun i => !prL (mr R i)) then 2
 else if anyB b.length (fun i => decide (fv b i < 0)) then 1 else 0

set_option maxRecDepth 100000 in
set_option maxHeartbeats 4000000 in
theorem scheck_any (c : List (Int × Int)) (R : List (List (Int × Int))) (b : List (Int × Int)) (Ac AR Ab : Option Addr) (cc cR cb : Nat) (w : World) (hc : FactsAt w w.heap.size Ac c) (hR : MxAt w AR R) (hb : FactsAt w w.heap.size Ab b) :
  Calls Tryz.prog 95 #[.slice Ac c.length cc, .slice AR R.length cR, .slice Ab b.length cb] w fun e w' => e = .returned (errV (chk37 c R b)) ∧ Below w.heap.size w w' := by
 have lc := hc.len
 have lR := hR.1
 have lb := hb.len
 have KC := Lib.hid (fun wx (h : Below w.heap.size w wx) => sproper_any c Ac cc wx (factsAt_up hc h))
 have KB := Lib.hid (fun wx (h : Below w.heap.size w wx) => sproper_any b Ab cb wx (factsAt_up hb h))
 have HR := Lib.hid hR
 have Hb := Lib.hid hb
 clear hc hR hb
 obtain ⟨code, hcode⟩ : ∃ x, chk37 c R b = x := ⟨_, rfl⟩
 rw [hcode]
 unfold chk37 at hcode
 by_cases h1 : 24 < c.length
 ·rw [if_pos (.inl h1)] at hcode
  subst hcode
  have e1 : decide ((24 : Int) < (c.length : Int)) = true := decide_eq_true (by omega)
  go_enter Tryz.func95, Tryz.ntmps95
  go_wp2
  go_ret
  exact ⟨rfl, Below.refl _ _⟩
 have e1 : decide ((24 : Int) < (c.length : Int)) = false := decide_eq_false (by omega)
 by_cases h2 : 24 < R.length
 ·rw [if_pos (.inr (.inl h2))] at hcode
  subst hcode
  have e2 : decide ((24 : Int) < (R.length : Int)) = true := decide_eq_true (by omega)
  go_enter Tryz.func95, Tryz.ntmps95
  go_wp2
  go_ret
  exact ⟨rfl, Below.refl _ _⟩
 have e2 : decide ((24 : Int) < (R.length : Int)) = false := decide_eq_false (by omega)
 by_cases h3 : 24 < b.length
 ·rw [if_pos (.inr (.inr h3))] at hcode
  subst hcode
  have e3 : decide ((24 : Int) < (b.length : Int)) = true := decide_eq_true (by omega)
  go_enter Tryz.func95, Tryz.ntmps95
  go_wp2
  go_ret
  exact ⟨rfl, Below.refl _ _⟩
 have e3 : decide ((24 : Int) < (b.length : Int)) = false := decide_eq_false (by omega)
 rw [if_neg (by omega)] at hcode
 by_cases h4 : R.length ≠ b.length
 ·rw [if_pos h4] at hcode
  subst hcode
  have e4 : ((R.length : Int) != (b.length : Int)) = true := by simp; omega
  go_enter Tryz.func95, Tryz.ntmps95
  go_wp2
  go_ret
  exact ⟨rfl, Below.refl _ _⟩
 rw [if_neg h4] at hcode
 have e4 : ((R.length : Int) != (b.length : Int)) = false := by simp; omega
 have Hcode := Lib.hid hcode
 have H4 := Lib.hid h4
 clear hcode h4
 go_enter Tryz.func95, Tryz.ntmps95
 go_wp2
 clear e1 e2 e3 e4
 go_loopw [35] (fun i wr => ∃ k : Nat, k ≤ R.length ∧ i = .int .i64 k ∧ Hid (anyB k (fun i => decide ((mr R i).length ≠ c.length)) = false) ∧ Below w.heap.size w wr) (fun i _ => R.length - (intOf i).toNat)
 case atStart => exact ⟨0, by omega, rfl, rfl, Below.refl _ _⟩
 case round =>
  obtain ⟨k, hk, rfl, hB, hbel⟩ := hrel
  have hbz := hbel.size
  by_cases hlt : k < R.length
  ·obtain ⟨b1, o1, ea, hb1, hc1⟩ := HR.out.at_ hlt
   subst ea
   obtain ⟨S, cS, d1, _, hS⟩ := hc1 k hlt
   have d1' := (hbel.cell (p := ⟨b1, o1 + k, none⟩) hb1).trans d1
   have g1 : b1 < wr.heap.size := by omega
   have ls := hS.len
   have k0 : (0 : Int) ≤ (k : Int) := by omega
   have k1 : (k : Int) < (R.length : Int) := by omega
   have HS : Hid (anyB (k + 1) (fun i => decide ((mr R i).length ≠ c.length)) = (anyB k (fun i => decide ((mr R i).length ≠ c.length)) || decide ((mr R k).length ≠ c.length))) := anyB_succ _ _
   clear hc1 d1 hS
   by_cases hne : (mr R k).length = c.length
   ·have e5 : (((mr R k).length : Int) != (c.length : Int)) = false := by simp [hne]
    have Hs := Lib.hid (show anyB (k + 1) (fun i => decide ((mr R i).length ≠ c.length)) = false by rw [HS.out, hB.out, hne]; simp)
    clear hne
    go_wp2
    go_roundw
    case rel => exact ⟨k + 1, by omega, by go_num, Hs.out, hbel⟩
    case measure => simp [intOf]; omega
   ·have e5 : (((mr R k).length : Int) != (c.length : Int)) = true := by simp; omega
    have Hc11 := Lib.hid (show 11 = code by rw [← Hcode.out, if_pos (anyB_true.2 ⟨k, hlt, decide_eq_true hne⟩)])
    clear hne
    go_wp2
    go_ret
    exact ⟨by rw [← Hc11.out]; rfl, hbel⟩
  ·obtain rfl : R.length = k := by omega
   have Hcode2 := Lib.hid (show (if !prL c || !prL b then 2 else if anyB R.length (fun i => !prL (mr R i)) then 2 else if anyB b.length (fun i => decide (fv b i < 0)) then 1 else 0) = code by have h := Hcode.out; rw [if_neg (by rw [hB.out]; simp)] at h; exact h)
   cases e5 : prL c
   ·have K1 := Lib.hid (fun wx h => e5 ▸ KC.out wx h)
    have Hc2 := Lib.hid (show 2 = code by rw [← Hcode2.out, e5, if_pos (by simp)])
    clear e5
    go_wp2_with fail
    refine (K1.out _ hbel).mono ?_
    rintro e w3 ⟨rfl, hb3⟩
    go_wp2
    go_ret
    exact ⟨by rw [← Hc2.out]; rfl, hbel.trans (hb3.mono hbz)⟩
   have K1 := Lib.hid (fun wx h => e5 ▸ KC.out wx h)
   cases e6 : prL b
   ·have K2 := Lib.hid (fun wx h => e6 ▸ KB.out wx h)
    have Hc2 := Lib.hid (show 2 = code by rw [← Hcode2.out, e6, if_pos (by simp)])
    clear e5 e6
    go_wp2_with fail
    refine (K1.out _ hbel).mono ?_
    rintro e w3 ⟨rfl, hb3⟩
    have hb13 := hbel.trans (hb3.mono hbz)
    go_wp2_with fail
    refine (K2.out _ hb13).mono ?_
    rintro e w4 ⟨rfl, hb4⟩
    go_wp2
    go_ret
    exact ⟨by rw [← Hc2.out]; rfl, hb13.trans (hb4.mono hb13.size)⟩
   have K2 := Lib.hid (fun wx h => e6 ▸ KB.out wx h)
   have Hcode3 := Lib.hid (show (if anyB R.length (fun i => !prL (mr R i)) then 2 else if anyB b.length (fun i => decide (fv b i < 0)) then 1 else 0) = code by have h := Hcode2.out; rw [e5, e6, if_neg (by simp)] at h; exact h)
   clear e5 e6
   go_wp2_with fail
   refine (K1.out _ hbel).mono ?_
   rintro e w3 ⟨rfl, hb3⟩
   have hb13 := hbel.trans (hb3.mono hbz)
   have z13 := hb13.size
   go_wp2_with fail
   refine (K2.out _ hb13).mono ?_
   rintro e w4 ⟨rfl, hb4⟩
   have hb14 := hb13.trans (hb4.mono z13)
   have z14 := hb14.size
   clear hb3 hb4 hb13 z13
   go_wp2
   go_loopw [57] (fun i wr => ∃ k : Nat, k ≤ R.length ∧ i = .int .i64 k ∧ Hid (anyB k (fun i => !prL (mr R i)) = false) ∧ Below w.heap.size w wr) (fun i _ => R.length - (intOf i).toNat)
   case atStart => exact ⟨0, by omega, rfl, rfl, hb14⟩
   case round =>
    obtain ⟨k, hk, rfl, hB2, hbel⟩ := hrel
    have hbz := hbel.size
    by_cases hlt : k < R.length
    ·obtain ⟨b1, o1, ea, hb1, hc1⟩ := HR.out.at_ hlt
     subst ea
     obtain ⟨S, cS, d1, _, hS⟩ := hc1 k hlt
     have d1' := (hbel.cell (p := ⟨b1, o1 + k, none⟩) hb1).trans d1
     have g1 : b1 < wr.heap.size := by omega
     have k0 : (0 : Int) ≤ (k : Int) := by omega
     have k1 : (k : Int) < (R.length : Int) := by omega
     have HS : Hid (anyB (k + 1) (fun i => !prL (mr R i)) = (anyB k (fun i => !prL (mr R i)) || !prL (mr R k))) := anyB_succ _ _
     have K3 := Lib.hid (sproper_any (mr R k) S cS wr (factsAt_up hS hbel))
     clear hc1 d1 hS
     cases e5 : prL (mr R k)
     ·have K4 := Lib.hid (e5 ▸ K3.out)
      have Hc2 := Lib.hid (show 2 = code by rw [← Hcode3.out, if_pos (anyB_true.2 ⟨k, hlt, by rw [e5]; rfl⟩)])
      clear e5
      go_wp2_with fail
      refine K4.out.mono ?_
      rintro e w5 ⟨rfl, hb5⟩
      go_wp2
      go_ret
      exact ⟨by rw [← Hc2.out]; rfl, hbel.trans (hb5.mono hbz)⟩
     ·have K4 := Lib.hid (e5 ▸ K3.out)
      have Hs := Lib.hid (show anyB (k + 1) (fun i => !prL (mr R i)) = false by rw [HS.out, hB2.out, e5]; rfl)
      clear e5
      go_wp2_with fail
      refine K4.out.mono ?_
      rintro e w5 ⟨rfl, hb5⟩
      go_wp2
      go_roundw
      case rel => exact ⟨k + 1, by omega, by go_num, Hs.out, hbel.trans (hb5.mono hbz)⟩
      case measure => simp [intOf]; omega
    ·obtain rfl : R.length = k := by omega
     have Hcode4 := Lib.hid (show (if anyB b.length (fun i => decide (fv b i < 0)) then 1 else 0) = code by have h := Hcode3.out; rw [if_neg (by rw [hB2.out]; simp)] at h; exact h)
     go_wp2
     go_loopw [68] (fun i wr => ∃ k : Nat, k ≤ b.length ∧ i = .int .i64 k ∧ Hid (anyB k (fun i => decide (fv b i < 0)) = false) ∧ Below w.heap.size w wr) (fun i _ => b.length - (intOf i).toNat)
     case atStart => exact ⟨0, by omega, rfl, rfl, hbel⟩
     case round =>
      obtain ⟨k, hk, rfl, hB3, hbel⟩ := hrel
      have hbz := hbel.size
      by_cases hlt : k < b.length
      ·obtain ⟨b1, o1, ea, hb1, hc1⟩ := Hb.out.at_ hlt
       subst ea
       have d1 := (hbel.cell (p := ⟨b1, o1 + k * 2, none⟩) hb1).trans (hc1 k hlt).1
       have d2 := (hbel.cell (p := ⟨b1, o1 + k * 2 + 1, none⟩) hb1).trans (hc1 k hlt).2
       have g1 : b1 < wr.heap.size := by omega
       have k0 : (0 : Int) ≤ (k : Int) := by omega
       have k1 : (k : Int) < (b.length : Int) := by omega
       have HS : Hid (anyB (k + 1) (fun i => decide (fv b i < 0)) = (anyB k (fun i => decide (fv b i < 0)) || decide (fv b k < 0))) := anyB_succ _ _
       clear hc1
       by_cases hn : fv b k < 0
       ·have e5 : decide (fv b k < 0) = true := decide_eq_true hn
        have Hc2 := Lib.hid (show 1 = code by rw [← Hcode4.out, if_pos (anyB_true.2 ⟨k, hlt, e5⟩)])
        go_wp2
        go_ret
        exact ⟨by rw [← Hc2.out]; rfl, hbel.alloc hbz _⟩
       ·have e5 : decide (fv b k < 0) = false := decide_eq_false hn
        have Hs := Lib.hid (show anyB (k + 1) (fun i => decide (fv b i < 0)) = false by rw [HS.out, hB3.out, e5]; rfl)
        go_wp2
        go_roundw
        case rel => exact ⟨k + 1, by omega, by go_num, Hs.out, hbel.alloc hbz _⟩
        case measure => simp [intOf]; omega
      ·obtain rfl : b.length = k := by omega
       have Hc0 := Lib.hid (show 0 = code by rw [← Hcode4.out, if_neg (by rw [hB3.out]; simp)])
       go_wp2
       go_ret
       exact ⟨by rw [← Hc0.out]; rfl, hbel⟩

end Go.Proofs.YtaampjhdgeoicaaGreat
