/- simplex: solution (a list of proper fractions, none negative). -/
import Derived.Test.YtaomaopbdilmnaaSxJ
namespace Go.Proofs.Ytaomaopbdilmnaa
set_option linter.unusedSimpArgs false
set_option linter.unusedVariables false
open Go Go.RowKit
set_option linter.unusedVariables false

/-- No solution at i. -/
def nsB (l : List (Int × Int)) (i : Nat) : Bool := !prB (fv l i) (fx l i) || decide (fv l i < 0)
def solB (l : List (Int × Int)) : Bool := !anyB l.length (nsB l)

set_option maxRecDepth 4000 in
set_option maxHeartbeats 1000000 in
theorem solution_any (l : List (Int × Int)) (A : Option Addr) (c : Nat) (w : World) (h : FactsAt w w.heap.size A l) :
    Calls Try.prog 60 #[.slice A l.length c] w fun e w' => e = .returned (.bool (solB l)) ∧ Below w.heap.size w w' := by
  have lh := h.len
  have HG : Hid (solB l = !anyB l.length (nsB l)) := rfl
  have H := Lib.hid h
  clear h
  go_enter Try.func60, Try.ntmps60
  go_wp2
  go_loopw [7] (fun i wr => ∃ k : Nat, k ≤ l.length ∧ i = .int .i64 k ∧ Hid (anyB k (nsB l) = false) ∧ Below w.heap.size w wr) (fun i _ => l.length - (intOf i).toNat)
  case atStart => exact ⟨0, by omega, rfl, rfl, Below.refl _ _⟩
  case round =>
    obtain ⟨k, hk, rfl, hB, hbel⟩ := hrel
    have hbz := hbel.size
    by_cases hlt : k < l.length
    · obtain ⟨b1, o1, ea, hb1, hc1⟩ := H.out.at_ hlt
      subst ea
      have d1 := (hbel.cell (p := ⟨b1, o1 + k * 2, none⟩) hb1).trans (hc1 k hlt).1
      have d2 := (hbel.cell (p := ⟨b1, o1 + k * 2 + 1, none⟩) hb1).trans (hc1 k hlt).2
      have g1 : b1 < wr.heap.size := by omega
      have k0 : (0 : Int) ≤ (k : Int) := by omega
      have k1 : (k : Int) < (l.length : Int) := by omega
      have HS : Hid (anyB (k + 1) (nsB l) = (anyB k (nsB l) || nsB l k)) := anyB_succ _ _
      have HN : Hid (nsB l k = (!prB (fv l k) (fx l k) || decide (fv l k < 0))) := rfl
      have KP := Lib.hid (fun wx => proper_any (fv l k) (fx l k) wx)
      clear hc1
      cases e2 : prB (fv l k) (fx l k)
      · have K2 := Lib.hid (fun wx => e2 ▸ KP.out wx)
        have Hf := Lib.hid (show solB l = false by rw [HG.out, anyB_true.2 ⟨k, hlt, by rw [HN.out, e2]; rfl⟩]; rfl)
        clear e2
        go_wp2_with fail
        refine (K2.out _).mono ?_
        rintro e w10 ⟨rfl, hb10⟩
        have hb11 := hbel.trans (((Below.refl wr.heap.size wr).alloc (Nat.le_refl _) (.cells #[.int .i64 (fv l k), .int .i64 (fx l k)] 29)).trans (hb10.mono (by simp)) |>.mono hbz)
        go_wp2
        go_ret
        exact ⟨by rw [Hf.out]; rfl, hb11⟩
      · have K2 := Lib.hid (fun wx => e2 ▸ KP.out wx)
        cases e3 : decide (fv l k < 0)
        · have Hs := Lib.hid (show anyB (k + 1) (nsB l) = false by rw [HS.out, hB.out, HN.out, e2, e3]; rfl)
          clear e2
          go_wp2_with fail
          refine (K2.out _).mono ?_
          rintro e w10 ⟨rfl, hb10⟩
          have s0 := (hb10.cell (p := ⟨wr.heap.size, 0, none⟩) (by simp)).trans (show _ = some (.int .i64 (fv l k)) by simp)
          have hb11 := hbel.trans (((Below.refl wr.heap.size wr).alloc (Nat.le_refl _) (.cells #[.int .i64 (fv l k), .int .i64 (fx l k)] 29)).trans (hb10.mono (by simp)) |>.mono hbz)
          go_wp2
          go_roundw
          case rel => exact ⟨k + 1, by omega, by go_num, Hs.out, hb11⟩
          case measure => simp [intOf]; omega
        · have Hf := Lib.hid (show solB l = false by rw [HG.out, anyB_true.2 ⟨k, hlt, by rw [HN.out, e2, e3]; rfl⟩]; rfl)
          clear e2
          go_wp2_with fail
          refine (K2.out _).mono ?_
          rintro e w10 ⟨rfl, hb10⟩
          have s0 := (hb10.cell (p := ⟨wr.heap.size, 0, none⟩) (by simp)).trans (show _ = some (.int .i64 (fv l k)) by simp)
          have hb11 := hbel.trans (((Below.refl wr.heap.size wr).alloc (Nat.le_refl _) (.cells #[.int .i64 (fv l k), .int .i64 (fx l k)] 29)).trans (hb10.mono (by simp)) |>.mono hbz)
          go_wp2
          go_ret
          exact ⟨by rw [Hf.out]; rfl, hb11⟩
    · obtain rfl : l.length = k := by omega
      have Ht := Lib.hid (show solB l = true by rw [HG.out, hB.out]; rfl)
      go_wp2
      go_ret
      exact ⟨by rw [Ht.out]; rfl, hbel⟩

end Go.Proofs.Ytaomaopbdilmnaa
