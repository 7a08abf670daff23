/- Landmarks: has, nothing; the reference's all, None. -/
import Derived.Test.YtenmeiplglbafaaLmP
import Derived.Test.YtenmeiplglbafaaMat
import Derived.Test.YtenmeiplglbafaaTaskD
namespace Go.Proofs.Ytenmeiplglbafaa
set_option linter.unusedSimpArgs false
set_option linter.unusedVariables false
open Go Go.RowKit
set_option linter.unusedVariables false

/-- A table as a value: rows of n booleans; (g: the block of the slices). -/
structure TabV (w : World) (B : Nat) (v : Value) (n : Nat) (L : Nat → Nat) (M : Nat → Nat → Bool) : Prop where
  ex : ∃ A c g rb, v = .slice A n c ∧ (0 < n → A = some ⟨g, 0, none⟩) ∧ MatIs w g n rb L M ∧ B ≤ g ∧ ∀ j, j < n → B ≤ rb j
theorem TabV.up {w w' : World} {B : Nat} {v : Value} {n : Nat} {L : Nat → Nat} {M : Nat → Nat → Bool} (h : TabV w B v n L M) (hb : Below w.heap.size w w') : TabV w' B v n L M := by
  obtain ⟨A, c, g, rb, h1, h2, h3, h4, h5⟩ := h.ex
  exact ⟨A, c, g, rb, h1, h2, h3.up hb, h4, h5⟩
/-- The lengths of a task's rows. -/
def Ld (t : Tsk) (j : Nat) : Nat := (nth t.vars j).toNat

/-- Facts in range. -/
def RngF (t : Tsk) (f : List (Int × Int)) : Prop := ∀ i, i < f.length → 0 ≤ fv f i ∧ fv f i < t.vars.length ∧ 0 ≤ fx f i ∧ fx f i < nth t.vars (fv f i).toNat
theorem rng_fa {t : Tsk} {f : List (Int × Int)} (h : faB t.vars f = true) : RngF t f := fun i hi => fa_at h hi

set_option maxRecDepth 100000 in
set_option maxHeartbeats 4000000 in
theorem has_any (t : Tsk) (f : List (Int × Int)) (M : Nat → Nat → Bool) (A F : Option Addr) (c d g : Nat) (rb : Nat → Nat) (w : World) (hA : 0 < t.vars.length → A = some ⟨g, 0, none⟩) (hm : MatIs w g t.vars.length rb (Ld t) M) (hf : FactsAt w w.heap.size F f) (hr : RngF t f) :
    Calls Try.prog 44 #[.slice A t.vars.length c, .slice F f.length d] w fun e w' => e = .returned (.bool (hsM f M)) ∧ Below w.heap.size w w' := by
  have l1 := hf.len
  have HR := Lib.hid hr
  have HG : Hid (hsM f M = !anyB f.length fun i => !M (fv f i).toNat (fx f i).toNat) := rfl
  clear hr
  go_enter Try.func44, Try.ntmps44
  go_wp2
  go_loopw [9] (fun i wr => ∃ k : Nat, k ≤ f.length ∧ i = .int .i64 k ∧ Hid ((anyB k fun i => !M (fv f i).toNat (fx f i).toNat) = false) ∧ Below w.heap.size w wr) (fun i _ => f.length - (intOf i).toNat)
  case atStart => exact ⟨0, by omega, rfl, rfl, Below.refl _ _⟩
  case round =>
    obtain ⟨k, hk, rfl, hB, hbel⟩ := hrel
    have hbz := hbel.size
    by_cases hlt : k < f.length
    · obtain ⟨b1, o1, e1, hb1, hc1⟩ := hf.at_ hlt
      subst e1
      have d1 := (hbel.cell (p := ⟨b1, o1 + k * 2, none⟩) hb1).trans (hc1 k hlt).1
      have d2 := (hbel.cell (p := ⟨b1, o1 + k * 2 + 1, none⟩) hb1).trans (hc1 k hlt).2
      have g1 : b1 < wr.heap.size := by omega
      have hfa := HR.out k hlt
      obtain ⟨v, hv⟩ : ∃ v : Nat, fv f k = (v : Int) := ⟨(fv f k).toNat, by omega⟩
      obtain ⟨x, hx⟩ : ∃ x : Nat, fx f k = (x : Int) := ⟨(fx f k).toNat, by omega⟩
      have HV := Lib.hid hv
      have HX := Lib.hid hx
      rw [hv, hx] at hfa
      rw [hv] at d1
      rw [hx] at d2
      have hvn : v < t.vars.length := by omega
      have hxl : x < Ld t v := by unfold Ld; have := hfa.2.2.2; simp only [Int.toNat_natCast] at this; omega
      have eA := hA (by omega)
      subst eA
      have m := hm.up hbel
      have m1 := m.top v hvn
      have m2 := m.cell hvn hxl
      have m4 := m.rlt hvn
      have m5 := m.glt
      have x0 : (0 : Int) ≤ (v : Int) := by omega
      have x1 : (v : Int) < (t.vars.length : Int) := by omega
      have x2 : (0 : Int) ≤ (x : Int) := by omega
      have x3 : (x : Int) < (Ld t v : Int) := by omega
      clear hc1 m hv hx hfa
      cases e2 : M v x
      · rw [e2] at m2
        have Hr := Lib.hid (show hsM f M = false by rw [HG.out, anyB_true.2 ⟨k, hlt, by rw [HV.out, HX.out]; simp [e2]⟩]; rfl)
        go_wp2_with fail
        go_quiet (fail)
        go_wp2
        go_ret
        exact ⟨bool_ret Hr.out.symm, by repeat (first | exact Below.refl _ _ | refine below_dN ?_ _ | refine Below.drew ?_ | refine Below.alloc ?_ (by first | omega | (simp; done) | (simp; omega)) _ | refine Below.setCell ?_ (by first | omega | (simp; done) | (simp; omega)) _ | refine below_step (by assumption) (by first | omega | (simp; done) | (simp; omega)) ?_)⟩
      · rw [e2] at m2
        go_wp2_with fail
        go_quiet (fail)
        go_wp2
        go_roundw
        case rel => exact ⟨k + 1, by omega, by go_num, Lib.hid (by rw [anyB_succ, hB.out, HV.out, HX.out]; simp [e2]), by repeat (first | exact Below.refl _ _ | refine below_dN ?_ _ | refine Below.drew ?_ | refine Below.alloc ?_ (by first | omega | (simp; done) | (simp; omega)) _ | refine Below.setCell ?_ (by first | omega | (simp; done) | (simp; omega)) _ | refine below_step (by assumption) (by first | omega | (simp; done) | (simp; omega)) ?_)⟩
        case measure => simp [intOf]; omega
    · obtain rfl : k = f.length := by omega
      have Hr := Lib.hid (show hsM f M = true by rw [HG.out, hB.out]; rfl)
      go_wp2
      go_ret
      exact ⟨bool_ret Hr.out.symm, hbel⟩

set_option maxRecDepth 100000 in
set_option maxHeartbeats 4000000 in
theorem rall_any (t : Tsk) (f : List (Int × Int)) (M : Nat → Nat → Bool) (A F : Option Addr) (c d g : Nat) (rb : Nat → Nat) (w : World) (hA : 0 < t.vars.length → A = some ⟨g, 0, none⟩) (hm : MatIs w g t.vars.length rb (Ld t) M) (hf : FactsAt w w.heap.size F f) (hr : RngF t f) :
    Calls Try.prog 46 #[.slice F f.length d, .slice A t.vars.length c] w fun e w' => e = .returned (.bool (hsM f M)) ∧ Below w.heap.size w w' := by
  have l1 := hf.len
  have HR := Lib.hid hr
  have HG : Hid (hsM f M = !anyB f.length fun i => !M (fv f i).toNat (fx f i).toNat) := rfl
  clear hr
  go_enter Try.func46, Try.ntmps46
  go_wp2
  go_loopw [9] (fun i wr => ∃ k : Nat, k ≤ f.length ∧ i = .int .i64 k ∧ Hid ((anyB k fun i => !M (fv f i).toNat (fx f i).toNat) = false) ∧ Below w.heap.size w wr) (fun i _ => f.length - (intOf i).toNat)
  case atStart => exact ⟨0, by omega, rfl, rfl, Below.refl _ _⟩
  case round =>
    obtain ⟨k, hk, rfl, hB, hbel⟩ := hrel
    have hbz := hbel.size
    by_cases hlt : k < f.length
    · obtain ⟨b1, o1, e1, hb1, hc1⟩ := hf.at_ hlt
      subst e1
      have d1 := (hbel.cell (p := ⟨b1, o1 + k * 2, none⟩) hb1).trans (hc1 k hlt).1
      have d2 := (hbel.cell (p := ⟨b1, o1 + k * 2 + 1, none⟩) hb1).trans (hc1 k hlt).2
      have g1 : b1 < wr.heap.size := by omega
      have hfa := HR.out k hlt
      obtain ⟨v, hv⟩ : ∃ v : Nat, fv f k = (v : Int) := ⟨(fv f k).toNat, by omega⟩
      obtain ⟨x, hx⟩ : ∃ x : Nat, fx f k = (x : Int) := ⟨(fx f k).toNat, by omega⟩
      have HV := Lib.hid hv
      have HX := Lib.hid hx
      rw [hv, hx] at hfa
      rw [hv] at d1
      rw [hx] at d2
      have hvn : v < t.vars.length := by omega
      have hxl : x < Ld t v := by unfold Ld; have := hfa.2.2.2; simp only [Int.toNat_natCast] at this; omega
      have eA := hA (by omega)
      subst eA
      have m := hm.up hbel
      have m1 := m.top v hvn
      have m2 := m.cell hvn hxl
      have m4 := m.rlt hvn
      have m5 := m.glt
      have x0 : (0 : Int) ≤ (v : Int) := by omega
      have x1 : (v : Int) < (t.vars.length : Int) := by omega
      have x2 : (0 : Int) ≤ (x : Int) := by omega
      have x3 : (x : Int) < (Ld t v : Int) := by omega
      clear hc1 m hv hx hfa
      cases e2 : M v x
      · rw [e2] at m2
        have Hr := Lib.hid (show hsM f M = false by rw [HG.out, anyB_true.2 ⟨k, hlt, by rw [HV.out, HX.out]; simp [e2]⟩]; rfl)
        go_wp2_with fail
        go_quiet (fail)
        go_wp2
        go_ret
        exact ⟨bool_ret Hr.out.symm, by repeat (first | exact Below.refl _ _ | refine below_dN ?_ _ | refine Below.drew ?_ | refine Below.alloc ?_ (by first | omega | (simp; done) | (simp; omega)) _ | refine Below.setCell ?_ (by first | omega | (simp; done) | (simp; omega)) _ | refine below_step (by assumption) (by first | omega | (simp; done) | (simp; omega)) ?_)⟩
      · rw [e2] at m2
        go_wp2_with fail
        go_quiet (fail)
        go_wp2
        go_roundw
        case rel => exact ⟨k + 1, by omega, by go_num, Lib.hid (by rw [anyB_succ, hB.out, HV.out, HX.out]; simp [e2]), by repeat (first | exact Below.refl _ _ | refine below_dN ?_ _ | refine Below.drew ?_ | refine Below.alloc ?_ (by first | omega | (simp; done) | (simp; omega)) _ | refine Below.setCell ?_ (by first | omega | (simp; done) | (simp; omega)) _ | refine below_step (by assumption) (by first | omega | (simp; done) | (simp; omega)) ?_)⟩
        case measure => simp [intOf]; omega
    · obtain rfl : k = f.length := by omega
      have Hr := Lib.hid (show hsM f M = true by rw [HG.out, hB.out]; rfl)
      go_wp2
      go_ret
      exact ⟨bool_ret Hr.out.symm, hbel⟩

set_option maxHeartbeats 1000000 in
theorem nothing_any (w : World) : Calls Try.prog 43 #[] w fun e w' => e = .returned (.agg #[.int .i64 (-1), .int .i64 (-1)]) ∧ Below w.heap.size w w' := by
  go_enter Try.func43, Try.ntmps43
  go_wp2
  refine bodyPost_ret (v := .agg #[.int .i64 (-1), .int .i64 (-1)]) (by simp [results, Try.results43, go_sem]) rfl ⟨rfl, by repeat (first | exact Below.refl _ _ | refine below_dN ?_ _ | refine Below.drew ?_ | refine Below.alloc ?_ (by first | omega | (simp; done) | (simp; omega)) _ | refine Below.setCell ?_ (by first | omega | (simp; done) | (simp; omega)) _ | refine below_step (by assumption) (by first | omega | (simp; done) | (simp; omega)) ?_)⟩
set_option maxHeartbeats 1000000 in
theorem rnone_any (w : World) : Calls Try.prog 48 #[] w fun e w' => e = .returned (.agg #[.int .i64 (-1), .int .i64 0]) ∧ Below w.heap.size w w' := by
  go_enter Try.func48, Try.ntmps48
  go_wp2
  refine bodyPost_ret (v := .agg #[.int .i64 (-1), .int .i64 0]) (by simp [results, Try.results48, go_sem]) rfl ⟨rfl, by repeat (first | exact Below.refl _ _ | refine below_dN ?_ _ | refine Below.drew ?_ | refine Below.alloc ?_ (by first | omega | (simp; done) | (simp; omega)) _ | refine Below.setCell ?_ (by first | omega | (simp; done) | (simp; omega)) _ | refine below_step (by assumption) (by first | omega | (simp; done) | (simp; omega)) ?_)⟩

end Go.Proofs.Ytenmeiplglbafaa
