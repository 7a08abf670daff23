/- base.Rank. -/
import Derived.Test.YtenmeiplglbafaaRankP
import Derived.Test.YtenmeiplglbafaaTaskA
namespace Go.Proofs.Ytenmeiplglbafaa
set_option linter.unusedSimpArgs false
set_option linter.unusedVariables false
open Go.RowKit
set_option linter.unusedVariables false

theorem pr_full {l : List Int} {k : Nat} (h : ∀ k, k < l.length → 1 ≤ nth l k ∧ nth l k ≤ 64) (hk : k ≤ l.length) : 1 ≤ pr l k ∧ pr l k ≤ pr l l.length :=
  ⟨pr_pos fun j hj => (h j (by omega)).1, pr_mono (fun j hj => (h j hj).1) hk⟩

set_option maxHeartbeats 1000000 in
theorem brank_any (vars s : List Int) (A1 A2 : Option Addr) (c1 c2 : Nat) (w : World) (h1 : IntsAt w w.heap.size A1 vars) (h2 : IntsAt w w.heap.size A2 s) (hst : StP vars s) (hv : ∀ k, k < vars.length → 1 ≤ nth vars k ∧ nth vars k ≤ 64) (hp : pr vars vars.length ≤ 65536) :
    Calls Try.prog 51 #[.slice A1 vars.length c1, .slice A2 s.length c2] w fun e w' => e = .returned (.int .i64 (rk vars s s.length)) ∧ Below w.heap.size w w' := by
  have l1 := h1.len
  have l2 := h2.len
  have Hv := Lib.hid hv
  have Hst := Lib.hid hst
  have Hp := Lib.hid hp
  clear hv hst hp
  go_enter Try.func51, Try.ntmps51
  go_wp2
  go_loopw [5, 9] (fun n i wr => ∃ k : Nat, k ≤ s.length ∧ i = .int .i64 k ∧ n = .int .i64 (rk vars s k) ∧ Below w.heap.size w wr) (fun _ i _ => s.length - (intOf i).toNat)
  case atStart => exact ⟨0, by omega, rfl, rfl, by repeat (first | exact Below.refl _ _ | refine below_dN ?_ _ | refine Below.drew ?_ | refine Below.alloc ?_ (by first | omega | (simp; done) | (simp; omega)) _ | refine Below.setCell ?_ (by first | omega | (simp; done) | (simp; omega)) _ | refine below_step (by assumption) (by first | omega | (simp; done) | (simp; omega)) ?_)⟩
  case round =>
    obtain ⟨k, hk, rfl, rfl, hbel⟩ := hrel
    by_cases hlt : k < s.length
    · have hlt2 : k < vars.length := by have := Hst.out.1; omega
      obtain ⟨b1, o1, rfl, hb1, hc1⟩ := h1.at_ hlt2
      obtain ⟨b2, o2, rfl, hb2, hc2⟩ := h2.at_ hlt
      have d1 := (hbel.cell (p := ⟨b1, o1 + k, none⟩) hb1).trans (hc1 k hlt2)
      have d2 := (hbel.cell (p := ⟨b2, o2 + k, none⟩) hb2).trans (hc2 k hlt)
      clear hc1 hc2
      have g1 : (k : Int) < vars.length := by omega
      have g2 : (k : Int) < s.length := by omega
      have ha := rk_bd (vars := vars) (s := s) (n := k) fun j hj => Hst.out.2 j (by omega)
      have hb := rk_bd (vars := vars) (s := s) (n := k + 1) fun j hj => Hst.out.2 j (by omega)
      have hm := (pr_full Hv.out (show k + 1 ≤ vars.length by omega)).2
      have hs := Hst.out.2 k hlt
      have hq := Hp.out
      have He := Lib.hid (show rk vars s (k + 1) = rk vars s k * nth vars k + nth s k from rfl)
      have m0 : 0 ≤ rk vars s k * nth vars k := Int.mul_nonneg ha.1 (by omega)
      rw [He.out] at hb
      have x1 : IntKind.i64.wrap (rk vars s k * nth vars k) = rk vars s k * nth vars k := IntWalk.i64_in _ (by omega)
      have x2 : IntKind.i64.wrap (rk vars s k * nth vars k + nth s k) = rk vars s k * nth vars k + nth s k := IntWalk.i64_in _ (by omega)
      clear ha hb hm hs hq
      go_wp2_with fail
      go_quiet (fail)
      clear x1 x2
      go_wp2
      go_roundw
      case rel => exact ⟨k + 1, by omega, by go_num, by rw [He.out], by repeat (first | exact Below.refl _ _ | refine below_dN ?_ _ | refine Below.drew ?_ | refine Below.alloc ?_ (by first | omega | (simp; done) | (simp; omega)) _ | refine Below.setCell ?_ (by first | omega | (simp; done) | (simp; omega)) _ | refine below_step (by assumption) (by first | omega | (simp; done) | (simp; omega)) ?_)⟩
      case measure => simp [intOf]; omega
    · obtain rfl : k = s.length := by omega
      go_wp2
      go_ret
      exact ⟨rfl, by repeat (first | exact Below.refl _ _ | refine below_dN ?_ _ | refine Below.drew ?_ | refine Below.alloc ?_ (by first | omega | (simp; done) | (simp; omega)) _ | refine Below.setCell ?_ (by first | omega | (simp; done) | (simp; omega)) _ | refine below_step (by assumption) (by first | omega | (simp; done) | (simp; omega)) ?_)⟩

end Go.Proofs.Ytenmeiplglbafaa
