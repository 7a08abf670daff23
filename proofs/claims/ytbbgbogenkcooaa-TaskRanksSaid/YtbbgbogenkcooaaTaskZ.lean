/- Many, States, counted, Rank, Unrank: contracts. -/
import Derived.Test.YtbbgbogenkcooaaTaskX
import Derived.Test.YtbbgbogenkcooaaRankP
namespace Go.Proofs.Ytbbgbogenkcooaa
set_option linter.unusedSimpArgs false
set_option linter.unusedVariables false
open Go.RowKit
set_option linter.unusedVariables false

theorem out_vars {t : Tsk} (h : outT t = false) : ∀ k, k < t.vars.length → 1 ≤ nth t.vars k ∧ nth t.vars k ≤ 64 := by
  unfold outT at h
  simp only [Bool.or_eq_false_iff, anyB_false] at h
  intro k hk
  have := h.1 k hk
  simp at this; omega
theorem pr_full {l : List Int} {k : Nat} (h : ∀ k, k < l.length → 1 ≤ nth l k ∧ nth l k ≤ 64) (hk : k ≤ l.length) : 1 ≤ pr l k ∧ pr l k ≤ pr l l.length :=
  ⟨pr_pos fun j hj => (h j (by omega)).1, pr_mono (fun j hj => (h j hj).1) hk⟩

set_option maxHeartbeats 1000000 in
theorem many_any (l : List Int) (A : Option Addr) (c : Nat) (w : World) (hl : IntsAt w w.heap.size A l) (h : ∀ k, k < l.length → 1 ≤ nth l k ∧ nth l k ≤ 64) :
    Calls Try.prog 50 #[.slice A l.length c, .int .i64 65536] w fun e w' => e = .returned (.int .i64 (mny l)) ∧ Below w.heap.size w w' := by
  have l1 := hl.len
  have Hv := Lib.hid h
  clear h
  go_enter Try.func50, Try.ntmps50
  go_wp2
  go_loopw [5, 10] (fun n i wr => ∃ k : Nat, k ≤ l.length ∧ i = .int .i64 k ∧ n = .int .i64 (pr l k) ∧ pr l k ≤ 65536 ∧ Below w.heap.size w wr) (fun _ i _ => l.length - (intOf i).toNat)
  case atStart => exact ⟨0, by omega, rfl, rfl, by show (1 : Int) ≤ _; omega, by repeat (first | exact Below.refl _ _ | refine below_dN ?_ _ | refine Below.drew ?_ | refine Below.alloc ?_ (by first | omega | (simp; done) | (simp; omega)) _ | refine Below.setCell ?_ (by first | omega | (simp; done) | (simp; omega)) _ | refine below_step (by assumption) (by first | omega | (simp; done) | (simp; omega)) ?_)⟩
  case round =>
    obtain ⟨k, hk, rfl, rfl, hp, hbel⟩ := hrel
    have Hp := Lib.hid (pr_full Hv.out hk)
    by_cases hlt : k < l.length
    · obtain ⟨b1, o1, rfl, hb1, hc1⟩ := hl.at_ hlt
      have d1 := (hbel.cell (p := ⟨b1, o1 + k, none⟩) hb1).trans (hc1 k hlt)
      clear hc1
      have v0 := (Hv.out k hlt).1
      have v1 := (Hv.out k hlt).2
      have hs := pr_step Hp.out.1 hp v0 v1 (by omega)
      have s0 := hs.1
      have s1 := hs.2
      have Hm := Lib.hid (pr_full Hv.out (show k + 1 ≤ l.length by omega))
      have He := Lib.hid (show pr l (k + 1) = pr l k * nth l k from rfl)
      clear hs
      by_cases h2 : pr l k * nth l k ≤ 65536
      · go_wp2
        go_roundw
        case rel => exact ⟨k + 1, by omega, by go_num, by rw [He.out], by rw [He.out]; exact h2, by repeat (first | exact Below.refl _ _ | refine below_dN ?_ _ | refine Below.drew ?_ | refine Below.alloc ?_ (by first | omega | (simp; done) | (simp; omega)) _ | refine Below.setCell ?_ (by first | omega | (simp; done) | (simp; omega)) _ | refine below_step (by assumption) (by first | omega | (simp; done) | (simp; omega)) ?_)⟩
        case measure => simp [intOf]; omega
      · go_wp2
        go_ret
        refine ⟨ret_int ?_, by repeat (first | exact Below.refl _ _ | refine below_dN ?_ _ | refine Below.drew ?_ | refine Below.alloc ?_ (by first | omega | (simp; done) | (simp; omega)) _ | refine Below.setCell ?_ (by first | omega | (simp; done) | (simp; omega)) _ | refine below_step (by assumption) (by first | omega | (simp; done) | (simp; omega)) ?_)⟩
        have := Hm.out.2
        rw [He.out] at this
        unfold mny
        rw [if_pos (by omega)]
    · obtain rfl : k = l.length := by omega
      go_wp2
      go_ret
      exact ⟨ret_int (by unfold mny; rw [if_neg (by omega)]), by repeat (first | exact Below.refl _ _ | refine below_dN ?_ _ | refine Below.drew ?_ | refine Below.alloc ?_ (by first | omega | (simp; done) | (simp; omega)) _ | refine Below.setCell ?_ (by first | omega | (simp; done) | (simp; omega)) _ | refine below_step (by assumption) (by first | omega | (simp; done) | (simp; omega)) ?_)⟩

/-- The number of states. -/
def staI (t : Tsk) : Int := if chkC t = 0 then mny t.vars else 0

set_option maxHeartbeats 1000000 in
theorem states_any (t : Tsk) (p : Lies) (w : World) (ht : TaskAt w w.heap.size t p) :
    Calls Try.prog 51 #[TaskV t p] w fun e w' => e = .returned (.int .i64 (staI t)) ∧ Below w.heap.size w w' := by
  have k1 := fun w1 (hb : Below w.heap.size w w1) => tcheck_any t p w1 (ht.up hb)
  obtain ⟨av, ai, ag, ao, cv, ci, cg, co⟩ := p
  unfold TaskV at *
  dsimp only at *
  by_cases e0 : chkC t = 0
  case neg =>
    have Hr := Lib.hid (show staI t = 0 by unfold staI; rw [if_neg e0])
    have He := Lib.hid (erV_ne e0)
    simp only [He.out] at k1
    clear e0
    go_enter Try.func51, Try.ntmps51
    go_wp2_with fail; refine (k1 _ (by repeat (first | exact Below.refl _ _ | refine below_dN ?_ _ | refine Below.drew ?_ | refine Below.alloc ?_ (by first | omega | (simp; done) | (simp; omega)) _ | refine Below.setCell ?_ (by first | omega | (simp; done) | (simp; omega)) _ | refine below_step (by assumption) (by first | omega | (simp; done) | (simp; omega)) ?_))).mono ?_; rintro e w1 ⟨rfl, hb1⟩; obtain ⟨hc1, hf1, hz1, hlt1, hle1⟩ := cellsIf hb1 (by (try simp); exact rfl); (try have : w.heap.size < w1.heap.size := (by omega)); (try have : w.heap.size < w1.heap.size + 1 := (by omega)); (try have : w.heap.size < w1.heap.size + 1 + 1 := (by omega)); (try have : w.heap.size + 1 < w1.heap.size := (by omega)); (try have : w.heap.size + 1 < w1.heap.size + 1 := (by omega)); (try have : w.heap.size + 1 < w1.heap.size + 1 + 1 := (by omega)); (try have : w.heap.size + 1 + 1 < w1.heap.size := (by omega)); (try have : w.heap.size + 1 + 1 < w1.heap.size + 1 := (by omega)); (try have : w.heap.size + 1 + 1 < w1.heap.size + 1 + 1 := (by omega))
    go_wp2
    go_ret
    exact ⟨ret_int Hr.out.symm, by repeat (first | exact Below.refl _ _ | refine below_dN ?_ _ | refine Below.drew ?_ | refine Below.alloc ?_ (by first | omega | (simp; done) | (simp; omega)) _ | refine Below.setCell ?_ (by first | omega | (simp; done) | (simp; omega)) _ | refine below_step (by assumption) (by first | omega | (simp; done) | (simp; omega)) ?_)⟩
  have Hr := Lib.hid (show staI t = mny t.vars by unfold staI; rw [if_pos e0])
  have Hv := Lib.hid (out_vars (chk0 e0).2.1)
  simp only [e0, erV_0] at k1
  clear e0
  have l1 := ht.vars.len
  go_enter Try.func51, Try.ntmps51
  go_wp2_with fail; refine (k1 _ (by repeat (first | exact Below.refl _ _ | refine below_dN ?_ _ | refine Below.drew ?_ | refine Below.alloc ?_ (by first | omega | (simp; done) | (simp; omega)) _ | refine Below.setCell ?_ (by first | omega | (simp; done) | (simp; omega)) _ | refine below_step (by assumption) (by first | omega | (simp; done) | (simp; omega)) ?_))).mono ?_; rintro e w1 ⟨rfl, hb1⟩; obtain ⟨hc1, hf1, hz1, hlt1, hle1⟩ := cellsIf hb1 (by (try simp); exact rfl); (try have : w.heap.size < w1.heap.size := (by omega)); (try have : w.heap.size < w1.heap.size + 1 := (by omega)); (try have : w.heap.size < w1.heap.size + 1 + 1 := (by omega)); (try have : w.heap.size + 1 < w1.heap.size := (by omega)); (try have : w.heap.size + 1 < w1.heap.size + 1 := (by omega)); (try have : w.heap.size + 1 < w1.heap.size + 1 + 1 := (by omega)); (try have : w.heap.size + 1 + 1 < w1.heap.size := (by omega)); (try have : w.heap.size + 1 + 1 < w1.heap.size + 1 := (by omega)); (try have : w.heap.size + 1 + 1 < w1.heap.size + 1 + 1 := (by omega))
  have hbw : Below w.heap.size w w1 := by repeat (first | exact Below.refl _ _ | refine below_dN ?_ _ | refine Below.drew ?_ | refine Below.alloc ?_ (by first | omega | (simp; done) | (simp; omega)) _ | refine Below.setCell ?_ (by first | omega | (simp; done) | (simp; omega)) _ | refine below_step (by assumption) (by first | omega | (simp; done) | (simp; omega)) ?_)
  go_wp2
  go_loopw [3, 12] (fun n i wr => ∃ k : Nat, k ≤ t.vars.length ∧ i = .int .i64 k ∧ n = .int .i64 (if 65536 < pr t.vars k then 65537 else pr t.vars k) ∧ Below w.heap.size w wr) (fun _ i _ => t.vars.length - (intOf i).toNat)
  case atStart => exact ⟨0, by omega, rfl, rfl, hbw⟩
  case round =>
    clear hc1 hf1 hz1 hlt1 hle1 hb1 hbw
    obtain ⟨k, hk, rfl, rfl, hbel⟩ := hrel
    have Hp := Lib.hid (pr_full Hv.out hk)
    by_cases hlt : k < t.vars.length
    · obtain ⟨b1, o1, ea, hb1, hc1⟩ := ht.vars.at_ hlt
      dsimp only at ea
      subst ea
      have d1 := (hbel.cell (p := ⟨b1, o1 + k, none⟩) hb1).trans (hc1 k hlt)
      clear hc1
      have v0 := (Hv.out k hlt).1
      have v1 := (Hv.out k hlt).2
      obtain ⟨m, hm⟩ : ∃ m, m = if 65536 < pr t.vars k then (65537 : Int) else pr t.vars k := ⟨_, rfl⟩
      rw [← hm]
      have m0 : 1 ≤ m := by have := Hp.out.1; rw [hm]; split <;> omega
      have m1 : m ≤ 65537 := by rw [hm]; split <;> omega
      have s0 : 1 ≤ m * nth t.vars k := by have := Int.mul_le_mul m0 v0 (by omega) (by omega); omega
      have s1 : m * nth t.vars k ≤ 4194368 := by have := Int.mul_le_mul m1 v1 (by omega) (by omega); omega
      have He := Lib.hid (show (if (65537 : Int) < m * nth t.vars k then (65537 : Int) else m * nth t.vars k) = if 65536 < pr t.vars (k + 1) then 65537 else pr t.vars (k + 1) by
        have e : pr t.vars (k + 1) = pr t.vars k * nth t.vars k := rfl
        have hp := Hp.out.1
        by_cases h : 65536 < pr t.vars k
        · rw [if_pos h] at hm
          subst hm
          have a := Int.mul_le_mul_of_nonneg_left v0 (show 0 ≤ pr t.vars k by omega)
          rw [if_pos (show 65536 < pr t.vars (k + 1) by rw [e]; omega)]
          split <;> omega
        · rw [if_neg h] at hm
          subst hm
          rw [e]
          split <;> split <;> omega)
      have Hm := Lib.hid hm
      clear hm
      by_cases h2 : (65537 : Int) < m * nth t.vars k
      · go_wp2
        go_roundw
        case rel => exact ⟨k + 1, by omega, by go_num, by rw [← He.out, if_pos h2], by repeat (first | exact Below.refl _ _ | refine below_dN ?_ _ | refine Below.drew ?_ | refine Below.alloc ?_ (by first | omega | (simp; done) | (simp; omega)) _ | refine Below.setCell ?_ (by first | omega | (simp; done) | (simp; omega)) _ | refine below_step (by assumption) (by first | omega | (simp; done) | (simp; omega)) ?_)⟩
        case measure => simp [intOf]; omega
      · go_wp2
        go_roundw
        case rel => exact ⟨k + 1, by omega, by go_num, by rw [← He.out, if_neg h2], by repeat (first | exact Below.refl _ _ | refine below_dN ?_ _ | refine Below.drew ?_ | refine Below.alloc ?_ (by first | omega | (simp; done) | (simp; omega)) _ | refine Below.setCell ?_ (by first | omega | (simp; done) | (simp; omega)) _ | refine below_step (by assumption) (by first | omega | (simp; done) | (simp; omega)) ?_)⟩
        case measure => simp [intOf]; omega
    · obtain rfl : k = t.vars.length := by omega
      obtain ⟨m, hm⟩ : ∃ m, m = if 65536 < pr t.vars t.vars.length then (65537 : Int) else pr t.vars t.vars.length := ⟨_, rfl⟩
      rw [← hm]
      have Hm := Lib.hid hm
      clear hm
      go_wp2
      go_ret
      exact ⟨ret_int (by rw [Hr.out, Hm.out]; rfl), by repeat (first | exact Below.refl _ _ | refine below_dN ?_ _ | refine Below.drew ?_ | refine Below.alloc ?_ (by first | omega | (simp; done) | (simp; omega)) _ | refine Below.setCell ?_ (by first | omega | (simp; done) | (simp; omega)) _ | refine below_step (by assumption) (by first | omega | (simp; done) | (simp; omega)) ?_)⟩

/-- The error of a task whose states cannot be numbered. -/
def ctC (t : Tsk) : Int := if chkC t = 0 then (if 65536 < mny t.vars then 5 else 0) else chkC t

def ctV (t : Tsk) : Int := if ctC t = 0 then mny t.vars else 0
theorem ctV_0 {t : Tsk} (h : ctC t = 0) : ctV t = mny t.vars := by unfold ctV; rw [if_pos h]
theorem ctV_1 {t : Tsk} (h : ctC t ≠ 0) : ctV t = 0 := by unfold ctV; rw [if_neg h]

set_option maxHeartbeats 1000000 in
theorem counted_any (t : Tsk) (p : Lies) (w : World) (ht : TaskAt w w.heap.size t p) :
    Calls Try.prog 76 #[TaskV t p] w fun e w' => e = .returned (.tuple #[.int .i64 (ctV t), erV (ctC t)]) ∧ Below w.heap.size w w' := by
  have k1 := fun w1 (hb : Below w.heap.size w w1) => tcheck_any t p w1 (ht.up hb)
  have k2 := fun w1 (hb : Below w.heap.size w w1) => states_any t p w1 (ht.up hb)
  obtain ⟨av, ai, ag, ao, cv, ci, cg, co⟩ := p
  unfold TaskV at *
  dsimp only at *
  by_cases e0 : chkC t = 0
  case neg =>
    have Hr := Lib.hid (show ctC t = chkC t by unfold ctC; rw [if_neg e0])
    have He := Lib.hid (erV_ne e0)
    have E0 := Lib.hid e0
    simp only [He.out] at k1
    clear e0
    go_enter Try.func76, Try.ntmps76
    go_wp2_with fail; refine (k1 _ (by repeat (first | exact Below.refl _ _ | refine below_dN ?_ _ | refine Below.drew ?_ | refine Below.alloc ?_ (by first | omega | (simp; done) | (simp; omega)) _ | refine Below.setCell ?_ (by first | omega | (simp; done) | (simp; omega)) _ | refine below_step (by assumption) (by first | omega | (simp; done) | (simp; omega)) ?_))).mono ?_; rintro e w1 ⟨rfl, hb1⟩; obtain ⟨hc1, hf1, hz1, hlt1, hle1⟩ := cellsIf hb1 (by (try simp); exact rfl); (try have : w.heap.size < w1.heap.size := (by omega)); (try have : w.heap.size < w1.heap.size + 1 := (by omega)); (try have : w.heap.size < w1.heap.size + 1 + 1 := (by omega)); (try have : w.heap.size + 1 < w1.heap.size := (by omega)); (try have : w.heap.size + 1 < w1.heap.size + 1 := (by omega)); (try have : w.heap.size + 1 < w1.heap.size + 1 + 1 := (by omega)); (try have : w.heap.size + 1 + 1 < w1.heap.size := (by omega)); (try have : w.heap.size + 1 + 1 < w1.heap.size + 1 := (by omega)); (try have : w.heap.size + 1 + 1 < w1.heap.size + 1 + 1 := (by omega))
    go_wp2
    refine bodyPost_ret (v := .tuple #[.int .i64 0, .iface 90 (.int .i64 (chkC t))]) (by simp [results, Try.results76, go_sem]) rfl ⟨by rw [ctV_1 (by rw [Hr.out]; exact E0.out), Hr.out, He.out], by repeat (first | exact Below.refl _ _ | refine below_dN ?_ _ | refine Below.drew ?_ | refine Below.alloc ?_ (by first | omega | (simp; done) | (simp; omega)) _ | refine Below.setCell ?_ (by first | omega | (simp; done) | (simp; omega)) _ | refine below_step (by assumption) (by first | omega | (simp; done) | (simp; omega)) ?_)⟩
  have Hs := Lib.hid (show staI t = mny t.vars by unfold staI; rw [if_pos e0])
  have Hr := Lib.hid (show ctC t = if 65536 < mny t.vars then 5 else 0 by unfold ctC; rw [if_pos e0])
  simp only [e0, erV_0] at k1
  rw [Hs.out] at k2
  clear e0
  cases e1 : decide (65536 < mny t.vars)
  · have Hc := Lib.hid (show ctC t = 0 by rw [Hr.out, if_neg (by simpa using e1)])
    go_enter Try.func76, Try.ntmps76
    go_wp2_with fail; refine (k1 _ (by repeat (first | exact Below.refl _ _ | refine below_dN ?_ _ | refine Below.drew ?_ | refine Below.alloc ?_ (by first | omega | (simp; done) | (simp; omega)) _ | refine Below.setCell ?_ (by first | omega | (simp; done) | (simp; omega)) _ | refine below_step (by assumption) (by first | omega | (simp; done) | (simp; omega)) ?_))).mono ?_; rintro e w1 ⟨rfl, hb1⟩; obtain ⟨hc1, hf1, hz1, hlt1, hle1⟩ := cellsIf hb1 (by (try simp); exact rfl); (try have : w.heap.size < w1.heap.size := (by omega)); (try have : w.heap.size < w1.heap.size + 1 := (by omega)); (try have : w.heap.size < w1.heap.size + 1 + 1 := (by omega)); (try have : w.heap.size + 1 < w1.heap.size := (by omega)); (try have : w.heap.size + 1 < w1.heap.size + 1 := (by omega)); (try have : w.heap.size + 1 < w1.heap.size + 1 + 1 := (by omega)); (try have : w.heap.size + 1 + 1 < w1.heap.size := (by omega)); (try have : w.heap.size + 1 + 1 < w1.heap.size + 1 := (by omega)); (try have : w.heap.size + 1 + 1 < w1.heap.size + 1 + 1 := (by omega))
    go_wp2_with fail; refine (k2 _ (by repeat (first | exact Below.refl _ _ | refine below_dN ?_ _ | refine Below.drew ?_ | refine Below.alloc ?_ (by first | omega | (simp; done) | (simp; omega)) _ | refine Below.setCell ?_ (by first | omega | (simp; done) | (simp; omega)) _ | refine below_step (by assumption) (by first | omega | (simp; done) | (simp; omega)) ?_))).mono ?_; rintro e w2 ⟨rfl, hb2⟩; obtain ⟨hc2, hf2, hz2, hlt2, hle2⟩ := cellsIf hb2 (by (try simp); exact rfl); (try have : w.heap.size < w2.heap.size := (by omega)); (try have : w.heap.size < w2.heap.size + 1 := (by omega)); (try have : w.heap.size < w2.heap.size + 1 + 1 := (by omega)); (try have : w.heap.size + 1 < w2.heap.size := (by omega)); (try have : w.heap.size + 1 < w2.heap.size + 1 := (by omega)); (try have : w.heap.size + 1 < w2.heap.size + 1 + 1 := (by omega)); (try have : w.heap.size + 1 + 1 < w2.heap.size := (by omega)); (try have : w.heap.size + 1 + 1 < w2.heap.size + 1 := (by omega)); (try have : w.heap.size + 1 + 1 < w2.heap.size + 1 + 1 := (by omega)); (try have : w1.heap.size < w2.heap.size := (by omega)); (try have : w1.heap.size < w2.heap.size + 1 := (by omega)); (try have : w1.heap.size < w2.heap.size + 1 + 1 := (by omega)); (try have : w1.heap.size + 1 < w2.heap.size := (by omega)); (try have : w1.heap.size + 1 < w2.heap.size + 1 := (by omega)); (try have : w1.heap.size + 1 < w2.heap.size + 1 + 1 := (by omega)); (try have : w1.heap.size + 1 + 1 < w2.heap.size := (by omega)); (try have : w1.heap.size + 1 + 1 < w2.heap.size + 1 := (by omega)); (try have : w1.heap.size + 1 + 1 < w2.heap.size + 1 + 1 := (by omega))
    go_wp2
    refine bodyPost_ret (v := .tuple #[.int .i64 (mny t.vars), .nilIface]) (by simp [results, Try.results76, go_sem]) rfl ⟨by rw [ctV_0 Hc.out, Hc.out]; rfl, by repeat (first | exact Below.refl _ _ | refine below_dN ?_ _ | refine Below.drew ?_ | refine Below.alloc ?_ (by first | omega | (simp; done) | (simp; omega)) _ | refine Below.setCell ?_ (by first | omega | (simp; done) | (simp; omega)) _ | refine below_step (by assumption) (by first | omega | (simp; done) | (simp; omega)) ?_)⟩
  · have Hc := Lib.hid (show ctC t = 5 by rw [Hr.out, if_pos (by simpa using e1)])
    go_enter Try.func76, Try.ntmps76
    go_wp2_with fail; refine (k1 _ (by repeat (first | exact Below.refl _ _ | refine below_dN ?_ _ | refine Below.drew ?_ | refine Below.alloc ?_ (by first | omega | (simp; done) | (simp; omega)) _ | refine Below.setCell ?_ (by first | omega | (simp; done) | (simp; omega)) _ | refine below_step (by assumption) (by first | omega | (simp; done) | (simp; omega)) ?_))).mono ?_; rintro e w1 ⟨rfl, hb1⟩; obtain ⟨hc1, hf1, hz1, hlt1, hle1⟩ := cellsIf hb1 (by (try simp); exact rfl); (try have : w.heap.size < w1.heap.size := (by omega)); (try have : w.heap.size < w1.heap.size + 1 := (by omega)); (try have : w.heap.size < w1.heap.size + 1 + 1 := (by omega)); (try have : w.heap.size + 1 < w1.heap.size := (by omega)); (try have : w.heap.size + 1 < w1.heap.size + 1 := (by omega)); (try have : w.heap.size + 1 < w1.heap.size + 1 + 1 := (by omega)); (try have : w.heap.size + 1 + 1 < w1.heap.size := (by omega)); (try have : w.heap.size + 1 + 1 < w1.heap.size + 1 := (by omega)); (try have : w.heap.size + 1 + 1 < w1.heap.size + 1 + 1 := (by omega))
    go_wp2_with fail; refine (k2 _ (by repeat (first | exact Below.refl _ _ | refine below_dN ?_ _ | refine Below.drew ?_ | refine Below.alloc ?_ (by first | omega | (simp; done) | (simp; omega)) _ | refine Below.setCell ?_ (by first | omega | (simp; done) | (simp; omega)) _ | refine below_step (by assumption) (by first | omega | (simp; done) | (simp; omega)) ?_))).mono ?_; rintro e w2 ⟨rfl, hb2⟩; obtain ⟨hc2, hf2, hz2, hlt2, hle2⟩ := cellsIf hb2 (by (try simp); exact rfl); (try have : w.heap.size < w2.heap.size := (by omega)); (try have : w.heap.size < w2.heap.size + 1 := (by omega)); (try have : w.heap.size < w2.heap.size + 1 + 1 := (by omega)); (try have : w.heap.size + 1 < w2.heap.size := (by omega)); (try have : w.heap.size + 1 < w2.heap.size + 1 := (by omega)); (try have : w.heap.size + 1 < w2.heap.size + 1 + 1 := (by omega)); (try have : w.heap.size + 1 + 1 < w2.heap.size := (by omega)); (try have : w.heap.size + 1 + 1 < w2.heap.size + 1 := (by omega)); (try have : w.heap.size + 1 + 1 < w2.heap.size + 1 + 1 := (by omega)); (try have : w1.heap.size < w2.heap.size := (by omega)); (try have : w1.heap.size < w2.heap.size + 1 := (by omega)); (try have : w1.heap.size < w2.heap.size + 1 + 1 := (by omega)); (try have : w1.heap.size + 1 < w2.heap.size := (by omega)); (try have : w1.heap.size + 1 < w2.heap.size + 1 := (by omega)); (try have : w1.heap.size + 1 < w2.heap.size + 1 + 1 := (by omega)); (try have : w1.heap.size + 1 + 1 < w2.heap.size := (by omega)); (try have : w1.heap.size + 1 + 1 < w2.heap.size + 1 := (by omega)); (try have : w1.heap.size + 1 + 1 < w2.heap.size + 1 + 1 := (by omega))
    go_wp2
    refine bodyPost_ret (v := .tuple #[.int .i64 0, .iface 90 (.int .i64 5)]) (by simp [results, Try.results76, go_sem]) rfl ⟨by rw [ctV_1 (by rw [Hc.out]; decide), Hc.out]; rfl, by repeat (first | exact Below.refl _ _ | refine below_dN ?_ _ | refine Below.drew ?_ | refine Below.alloc ?_ (by first | omega | (simp; done) | (simp; omega)) _ | refine Below.setCell ?_ (by first | omega | (simp; done) | (simp; omega)) _ | refine below_step (by assumption) (by first | omega | (simp; done) | (simp; omega)) ?_)⟩

theorem ct0 {t : Tsk} (h : ctC t = 0) : chkC t = 0 ∧ pr t.vars t.vars.length ≤ 65536 ∧ mny t.vars = pr t.vars t.vars.length := by
  unfold ctC at h
  by_cases h1 : chkC t = 0
  · rw [if_pos h1] at h
    by_cases h2 : 65536 < mny t.vars
    · rw [if_pos h2] at h; cases h
    · unfold mny at *
      split at h2
      · omega
      · rename_i h3; exact ⟨h1, by omega, by rw [if_neg h3]⟩
  · rw [if_neg h1] at h; exact absurd h h1

set_option maxHeartbeats 1000000 in
theorem brank_any (vars s : List Int) (A1 A2 : Option Addr) (c1 c2 : Nat) (w : World) (h1 : IntsAt w w.heap.size A1 vars) (h2 : IntsAt w w.heap.size A2 s) (hst : StP vars s) (hv : ∀ k, k < vars.length → 1 ≤ nth vars k ∧ nth vars k ≤ 64) (hp : pr vars vars.length ≤ 65536) :
    Calls Try.prog 55 #[.slice A1 vars.length c1, .slice A2 s.length c2] w fun e w' => e = .returned (.int .i64 (rk vars s s.length)) ∧ Below w.heap.size w w' := by
  have l1 := h1.len
  have l2 := h2.len
  have Hv := Lib.hid hv
  have Hst := Lib.hid hst
  have Hp := Lib.hid hp
  clear hv hst hp
  go_enter Try.func55, Try.ntmps55
  go_wp2
  go_loopw [5, 9] (fun n i wr => ∃ k : Nat, k ≤ s.length ∧ i = .int .i64 k ∧ n = .int .i64 (rk vars s k) ∧ Below w.heap.size w wr) (fun _ i _ => s.length - (intOf i).toNat)
  case atStart => exact ⟨0, by omega, rfl, rfl, by repeat (first | exact Below.refl _ _ | refine below_dN ?_ _ | refine Below.drew ?_ | refine Below.alloc ?_ (by first | omega | (simp; done) | (simp; omega)) _ | refine Below.setCell ?_ (by first | omega | (simp; done) | (simp; omega)) _ | refine below_step (by assumption) (by first | omega | (simp; done) | (simp; omega)) ?_)⟩
  case round =>
    obtain ⟨k, hk, rfl, rfl, hbel⟩ := hrel
    by_cases hlt : k < s.length
    · have hlt2 : k < vars.length := by have := Hst.out.1; omega
      obtain ⟨b1, o1, rfl, hb1, hc1⟩ := h1.at_ hlt2
      obtain ⟨b2, o2, rfl, hb2, hc2⟩ := h2.at_ hlt
      have d1 := (hbel.cell (p := ⟨b1, o1 + k, none⟩) hb1).trans (hc1 k hlt2)
      have d2 := (hbel.cell (p := ⟨b2, o2 + k, none⟩) hb2).trans (hc2 k hlt)
      clear hc1 hc2
      have g1 : (k : Int) < vars.length := by omega
      have g2 : (k : Int) < s.length := by omega
      have ha := rk_bd (vars := vars) (s := s) (n := k) fun j hj => Hst.out.2 j (by omega)
      have hb := rk_bd (vars := vars) (s := s) (n := k + 1) fun j hj => Hst.out.2 j (by omega)
      have hm := (pr_full Hv.out (show k + 1 ≤ vars.length by omega)).2
      have hs := Hst.out.2 k hlt
      have hq := Hp.out
      have He := Lib.hid (show rk vars s (k + 1) = rk vars s k * nth vars k + nth s k from rfl)
      have m0 : 0 ≤ rk vars s k * nth vars k := Int.mul_nonneg ha.1 (by omega)
      rw [He.out] at hb
      have x1 : IntKind.i64.wrap (rk vars s k * nth vars k) = rk vars s k * nth vars k := IntWalk.i64_in _ (by omega)
      have x2 : IntKind.i64.wrap (rk vars s k * nth vars k + nth s k) = rk vars s k * nth vars k + nth s k := IntWalk.i64_in _ (by omega)
      clear ha hb hm hs hq
      go_wp2_with fail
      go_quiet (fail)
      clear x1 x2
      go_wp2
      go_roundw
      case rel => exact ⟨k + 1, by omega, by go_num, by rw [He.out], by repeat (first | exact Below.refl _ _ | refine below_dN ?_ _ | refine Below.drew ?_ | refine Below.alloc ?_ (by first | omega | (simp; done) | (simp; omega)) _ | refine Below.setCell ?_ (by first | omega | (simp; done) | (simp; omega)) _ | refine below_step (by assumption) (by first | omega | (simp; done) | (simp; omega)) ?_)⟩
      case measure => simp [intOf]; omega
    · obtain rfl : k = s.length := by omega
      go_wp2
      go_ret
      exact ⟨rfl, by repeat (first | exact Below.refl _ _ | refine below_dN ?_ _ | refine Below.drew ?_ | refine Below.alloc ?_ (by first | omega | (simp; done) | (simp; omega)) _ | refine Below.setCell ?_ (by first | omega | (simp; done) | (simp; omega)) _ | refine below_step (by assumption) (by first | omega | (simp; done) | (simp; omega)) ?_)⟩

/-- Rank's error. -/
def rkC (t : Tsk) (s : List Int) : Int := if ctC t = 0 then (if stB t.vars s then 0 else 2) else ctC t

def rkV (t : Tsk) (s : List Int) : Int := if rkC t s = 0 then rk t.vars s s.length else 0
theorem rkV_0 {t : Tsk} {s : List Int} (h : rkC t s = 0) : rkV t s = rk t.vars s s.length := by unfold rkV; rw [if_pos h]
theorem rkV_1 {t : Tsk} {s : List Int} (h : rkC t s ≠ 0) : rkV t s = 0 := by unfold rkV; rw [if_neg h]

set_option maxHeartbeats 2000000 in
theorem trank_any (t : Tsk) (p : Lies) (s : List Int) (A : Option Addr) (c : Nat) (w : World) (ht : TaskAt w w.heap.size t p) (hs : IntsAt w w.heap.size A s) :
    Calls Try.prog 52 #[TaskV t p, .slice A s.length c] w fun e w' => e = .returned (.tuple #[.int .i64 (rkV t s), erV (rkC t s)]) ∧ Below w.heap.size w w' := by
  have k1 := fun w1 (hb : Below w.heap.size w w1) => counted_any t p w1 (ht.up hb)
  have k2 := fun w1 (hb : Below w.heap.size w w1) => proper_any t.vars s p.av A p.cv c w1 (ht.vars.up hb) (hs.up hb)
  obtain ⟨av, ai, ag, ao, cv, ci, cg, co⟩ := p
  unfold TaskV at *
  dsimp only at *
  have ls := hs.len
  have lv := ht.vars.len
  by_cases e0 : ctC t = 0
  case neg =>
    have Hr := Lib.hid (show rkC t s = ctC t by unfold rkC; rw [if_neg e0])
    have He := Lib.hid (erV_ne e0)
    have E0 := Lib.hid e0
    simp only [He.out] at k1
    clear e0
    go_enter Try.func52, Try.ntmps52
    go_wp2_with fail; refine (k1 _ (by repeat (first | exact Below.refl _ _ | refine below_dN ?_ _ | refine Below.drew ?_ | refine Below.alloc ?_ (by first | omega | (simp; done) | (simp; omega)) _ | refine Below.setCell ?_ (by first | omega | (simp; done) | (simp; omega)) _ | refine below_step (by assumption) (by first | omega | (simp; done) | (simp; omega)) ?_))).mono ?_; rintro e w1 ⟨rfl, hb1⟩; obtain ⟨hc1, hf1, hz1, hlt1, hle1⟩ := cellsIf hb1 (by (try simp); exact rfl); (try have : w.heap.size < w1.heap.size := (by omega)); (try have : w.heap.size < w1.heap.size + 1 := (by omega)); (try have : w.heap.size < w1.heap.size + 1 + 1 := (by omega)); (try have : w.heap.size + 1 < w1.heap.size := (by omega)); (try have : w.heap.size + 1 < w1.heap.size + 1 := (by omega)); (try have : w.heap.size + 1 < w1.heap.size + 1 + 1 := (by omega)); (try have : w.heap.size + 1 + 1 < w1.heap.size := (by omega)); (try have : w.heap.size + 1 + 1 < w1.heap.size + 1 := (by omega)); (try have : w.heap.size + 1 + 1 < w1.heap.size + 1 + 1 := (by omega))
    go_wp2
    refine bodyPost_ret (v := .tuple #[.int .i64 0, .iface 90 (.int .i64 (ctC t))]) (by simp [results, Try.results52, go_sem]) rfl ⟨by rw [rkV_1 (by rw [Hr.out]; exact E0.out), Hr.out, He.out], by repeat (first | exact Below.refl _ _ | refine below_dN ?_ _ | refine Below.drew ?_ | refine Below.alloc ?_ (by first | omega | (simp; done) | (simp; omega)) _ | refine Below.setCell ?_ (by first | omega | (simp; done) | (simp; omega)) _ | refine below_step (by assumption) (by first | omega | (simp; done) | (simp; omega)) ?_)⟩
  have Hr := Lib.hid (show rkC t s = if stB t.vars s then 0 else 2 by unfold rkC; rw [if_pos e0])
  have Hq := Lib.hid (ct0 e0)
  have Hv := Lib.hid (out_vars (chk0 Hq.out.1).2.1)
  simp only [e0, erV_0] at k1
  clear e0
  cases e1 : stB t.vars s
  · have Hc := Lib.hid (show rkC t s = 2 by rw [Hr.out, e1]; rfl)
    go_enter Try.func52, Try.ntmps52
    go_wp2_with fail; refine (k1 _ (by repeat (first | exact Below.refl _ _ | refine below_dN ?_ _ | refine Below.drew ?_ | refine Below.alloc ?_ (by first | omega | (simp; done) | (simp; omega)) _ | refine Below.setCell ?_ (by first | omega | (simp; done) | (simp; omega)) _ | refine below_step (by assumption) (by first | omega | (simp; done) | (simp; omega)) ?_))).mono ?_; rintro e w1 ⟨rfl, hb1⟩; obtain ⟨hc1, hf1, hz1, hlt1, hle1⟩ := cellsIf hb1 (by (try simp); exact rfl); (try have : w.heap.size < w1.heap.size := (by omega)); (try have : w.heap.size < w1.heap.size + 1 := (by omega)); (try have : w.heap.size < w1.heap.size + 1 + 1 := (by omega)); (try have : w.heap.size + 1 < w1.heap.size := (by omega)); (try have : w.heap.size + 1 < w1.heap.size + 1 := (by omega)); (try have : w.heap.size + 1 < w1.heap.size + 1 + 1 := (by omega)); (try have : w.heap.size + 1 + 1 < w1.heap.size := (by omega)); (try have : w.heap.size + 1 + 1 < w1.heap.size + 1 := (by omega)); (try have : w.heap.size + 1 + 1 < w1.heap.size + 1 + 1 := (by omega))
    go_wp2_with fail; refine (k2 _ (by repeat (first | exact Below.refl _ _ | refine below_dN ?_ _ | refine Below.drew ?_ | refine Below.alloc ?_ (by first | omega | (simp; done) | (simp; omega)) _ | refine Below.setCell ?_ (by first | omega | (simp; done) | (simp; omega)) _ | refine below_step (by assumption) (by first | omega | (simp; done) | (simp; omega)) ?_))).mono ?_; rintro e w2 ⟨rfl, hb2⟩; obtain ⟨hc2, hf2, hz2, hlt2, hle2⟩ := cellsIf hb2 (by (try simp); exact rfl); (try have : w.heap.size < w2.heap.size := (by omega)); (try have : w.heap.size < w2.heap.size + 1 := (by omega)); (try have : w.heap.size < w2.heap.size + 1 + 1 := (by omega)); (try have : w.heap.size + 1 < w2.heap.size := (by omega)); (try have : w.heap.size + 1 < w2.heap.size + 1 := (by omega)); (try have : w.heap.size + 1 < w2.heap.size + 1 + 1 := (by omega)); (try have : w.heap.size + 1 + 1 < w2.heap.size := (by omega)); (try have : w.heap.size + 1 + 1 < w2.heap.size + 1 := (by omega)); (try have : w.heap.size + 1 + 1 < w2.heap.size + 1 + 1 := (by omega)); (try have : w1.heap.size < w2.heap.size := (by omega)); (try have : w1.heap.size < w2.heap.size + 1 := (by omega)); (try have : w1.heap.size < w2.heap.size + 1 + 1 := (by omega)); (try have : w1.heap.size + 1 < w2.heap.size := (by omega)); (try have : w1.heap.size + 1 < w2.heap.size + 1 := (by omega)); (try have : w1.heap.size + 1 < w2.heap.size + 1 + 1 := (by omega)); (try have : w1.heap.size + 1 + 1 < w2.heap.size := (by omega)); (try have : w1.heap.size + 1 + 1 < w2.heap.size + 1 := (by omega)); (try have : w1.heap.size + 1 + 1 < w2.heap.size + 1 + 1 := (by omega))
    go_wp2
    refine bodyPost_ret (v := .tuple #[.int .i64 0, .iface 90 (.int .i64 2)]) (by simp [results, Try.results52, go_sem]) rfl ⟨by rw [rkV_1 (by rw [Hc.out]; decide), Hc.out]; rfl, by repeat (first | exact Below.refl _ _ | refine below_dN ?_ _ | refine Below.drew ?_ | refine Below.alloc ?_ (by first | omega | (simp; done) | (simp; omega)) _ | refine Below.setCell ?_ (by first | omega | (simp; done) | (simp; omega)) _ | refine below_step (by assumption) (by first | omega | (simp; done) | (simp; omega)) ?_)⟩
  have Hc := Lib.hid (show rkC t s = 0 by rw [Hr.out, e1]; rfl)
  have Hst := Lib.hid (show StP t.vars s by unfold stB at e1; simpa using e1)
  go_enter Try.func52, Try.ntmps52
  go_wp2_with fail; refine (k1 _ (by repeat (first | exact Below.refl _ _ | refine below_dN ?_ _ | refine Below.drew ?_ | refine Below.alloc ?_ (by first | omega | (simp; done) | (simp; omega)) _ | refine Below.setCell ?_ (by first | omega | (simp; done) | (simp; omega)) _ | refine below_step (by assumption) (by first | omega | (simp; done) | (simp; omega)) ?_))).mono ?_; rintro e w1 ⟨rfl, hb1⟩; obtain ⟨hc1, hf1, hz1, hlt1, hle1⟩ := cellsIf hb1 (by (try simp); exact rfl); (try have : w.heap.size < w1.heap.size := (by omega)); (try have : w.heap.size < w1.heap.size + 1 := (by omega)); (try have : w.heap.size < w1.heap.size + 1 + 1 := (by omega)); (try have : w.heap.size + 1 < w1.heap.size := (by omega)); (try have : w.heap.size + 1 < w1.heap.size + 1 := (by omega)); (try have : w.heap.size + 1 < w1.heap.size + 1 + 1 := (by omega)); (try have : w.heap.size + 1 + 1 < w1.heap.size := (by omega)); (try have : w.heap.size + 1 + 1 < w1.heap.size + 1 := (by omega)); (try have : w.heap.size + 1 + 1 < w1.heap.size + 1 + 1 := (by omega))
  go_wp2_with fail; refine (k2 _ (by repeat (first | exact Below.refl _ _ | refine below_dN ?_ _ | refine Below.drew ?_ | refine Below.alloc ?_ (by first | omega | (simp; done) | (simp; omega)) _ | refine Below.setCell ?_ (by first | omega | (simp; done) | (simp; omega)) _ | refine below_step (by assumption) (by first | omega | (simp; done) | (simp; omega)) ?_))).mono ?_; rintro e w2 ⟨rfl, hb2⟩; obtain ⟨hc2, hf2, hz2, hlt2, hle2⟩ := cellsIf hb2 (by (try simp); exact rfl); (try have : w.heap.size < w2.heap.size := (by omega)); (try have : w.heap.size < w2.heap.size + 1 := (by omega)); (try have : w.heap.size < w2.heap.size + 1 + 1 := (by omega)); (try have : w.heap.size + 1 < w2.heap.size := (by omega)); (try have : w.heap.size + 1 < w2.heap.size + 1 := (by omega)); (try have : w.heap.size + 1 < w2.heap.size + 1 + 1 := (by omega)); (try have : w.heap.size + 1 + 1 < w2.heap.size := (by omega)); (try have : w.heap.size + 1 + 1 < w2.heap.size + 1 := (by omega)); (try have : w.heap.size + 1 + 1 < w2.heap.size + 1 + 1 := (by omega)); (try have : w1.heap.size < w2.heap.size := (by omega)); (try have : w1.heap.size < w2.heap.size + 1 := (by omega)); (try have : w1.heap.size < w2.heap.size + 1 + 1 := (by omega)); (try have : w1.heap.size + 1 < w2.heap.size := (by omega)); (try have : w1.heap.size + 1 < w2.heap.size + 1 := (by omega)); (try have : w1.heap.size + 1 < w2.heap.size + 1 + 1 := (by omega)); (try have : w1.heap.size + 1 + 1 < w2.heap.size := (by omega)); (try have : w1.heap.size + 1 + 1 < w2.heap.size + 1 := (by omega)); (try have : w1.heap.size + 1 + 1 < w2.heap.size + 1 + 1 := (by omega))
  have hbw : Below w.heap.size w w2 := by repeat (first | exact Below.refl _ _ | refine below_dN ?_ _ | refine Below.drew ?_ | refine Below.alloc ?_ (by first | omega | (simp; done) | (simp; omega)) _ | refine Below.setCell ?_ (by first | omega | (simp; done) | (simp; omega)) _ | refine below_step (by assumption) (by first | omega | (simp; done) | (simp; omega)) ?_)
  have hbx : Boxed w2 w.heap.size t ⟨av, ai, ag, ao, cv, ci, cg, co⟩ := (Boxed.up (by constructor <;> simp) hb1).up hb2
  go_wp2
  go_loopw [8, 27] (fun n i wr => ∃ k : Nat, k ≤ s.length ∧ i = .int .i64 k ∧ n = .int .i64 (rk t.vars s k) ∧ Boxed wr w.heap.size t ⟨av, ai, ag, ao, cv, ci, cg, co⟩ ∧ Below w.heap.size w wr) (fun _ i _ => s.length - (intOf i).toNat)
  case atStart => exact ⟨0, by omega, rfl, rfl, hbx, hbw⟩
  case round =>
    clear hc1 hc2 hf1 hf2 hlt1 hlt2 hle1 hle2 hb1 hb2 hbw hbx
    obtain ⟨k, hk, rfl, rfl, hbox, hbel⟩ := hrel
    obtain ⟨z0, y0, y1, y2, y3⟩ := id hbox
    dsimp only at y0 y1 y2 y3
    by_cases hlt : k < s.length
    · have hlt2 : k < t.vars.length := by have := Hst.out.1; omega
      obtain ⟨b1, o1, ea, hb1, hc1⟩ := ht.vars.at_ hlt2
      dsimp only at ea
      subst ea
      obtain ⟨b2, o2, rfl, hb2, hc2⟩ := hs.at_ hlt
      have d1 := (hbel.cell (p := ⟨b1, o1 + k, none⟩) hb1).trans (hc1 k hlt2)
      have d2 := (hbel.cell (p := ⟨b2, o2 + k, none⟩) hb2).trans (hc2 k hlt)
      clear hc1 hc2
      have ha := rk_bd (vars := t.vars) (s := s) (n := k) fun j hj => Hst.out.2 j (by omega)
      have hb := rk_bd (vars := t.vars) (s := s) (n := k + 1) fun j hj => Hst.out.2 j (by omega)
      have hm := (pr_full Hv.out (show k + 1 ≤ t.vars.length by omega)).2
      have hs1 := Hst.out.2 k hlt
      have hq := Hq.out.2.1
      have He := Lib.hid (show rk t.vars s (k + 1) = rk t.vars s k * nth t.vars k + nth s k from rfl)
      have m0 : 0 ≤ rk t.vars s k * nth t.vars k := Int.mul_nonneg ha.1 (by omega)
      rw [He.out] at hb
      have m1 : rk t.vars s k * nth t.vars k ≤ 65536 := by omega
      have m2 : 0 ≤ nth s k := hs1.1
      have m3 : nth s k ≤ 65536 := by omega
      clear ha hb hm hs1 hq
      go_wp2
      go_roundw
      case rel => exact ⟨k + 1, by omega, by go_num, by rw [He.out], hbox.up (by repeat (first | exact Below.refl _ _ | refine below_dN ?_ _ | refine Below.drew ?_ | refine Below.alloc ?_ (by first | omega | (simp; done) | (simp; omega)) _ | refine Below.setCell ?_ (by first | omega | (simp; done) | (simp; omega)) _ | refine below_step (by assumption) (by first | omega | (simp; done) | (simp; omega)) ?_)), by repeat (first | exact Below.refl _ _ | refine below_dN ?_ _ | refine Below.drew ?_ | refine Below.alloc ?_ (by first | omega | (simp; done) | (simp; omega)) _ | refine Below.setCell ?_ (by first | omega | (simp; done) | (simp; omega)) _ | refine below_step (by assumption) (by first | omega | (simp; done) | (simp; omega)) ?_)⟩
      case measure => simp [intOf]; omega
    · obtain rfl : k = s.length := by omega
      go_wp2
      refine bodyPost_ret (v := .tuple #[.int .i64 (rk t.vars s s.length), .nilIface]) (by simp [results, Try.results52, go_sem]) rfl ⟨by rw [rkV_0 Hc.out, Hc.out]; rfl, by repeat (first | exact Below.refl _ _ | refine below_dN ?_ _ | refine Below.drew ?_ | refine Below.alloc ?_ (by first | omega | (simp; done) | (simp; omega)) _ | refine Below.setCell ?_ (by first | omega | (simp; done) | (simp; omega)) _ | refine below_step (by assumption) (by first | omega | (simp; done) | (simp; omega)) ?_)⟩

end Go.Proofs.Ytbbgbogenkcooaa
