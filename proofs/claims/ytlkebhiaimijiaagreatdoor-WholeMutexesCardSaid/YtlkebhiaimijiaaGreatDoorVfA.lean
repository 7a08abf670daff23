/- base: Tame, Many (36, 81), Clip, walked; how many partial states a tame task has. -/
import Derived.Test.YtlkebhiaimijiaaGreatDoorBel
import Derived.Test.YtlkebhiaimijiaaGreatDoorNhK
import Derived.Test.YtlkebhiaimijiaaGreatDoorGood
import Derived.Test.YtlkebhiaimijiaaGreatDoorNgG
namespace Go.Proofs.YtlkebhiaimijiaaGreatDoor
set_option linter.unusedSimpArgs false
set_option linter.unusedVariables false
open Go Go.RowKit
set_option linter.unusedVariables false

def mnyQ (Q : Int) (l : List Int) : Int := if Q < pr l l.length then Q + 1 else pr l l.length
theorem pr_stepQ {a x Q : Int} (h1 : 1 ≤ a) (h2 : a ≤ Q) (hQ : Q ≤ 512) (hx : 1 ≤ x) (hy : x ≤ 4) : 0 ≤ a * x ∧ a * x ≤ 2048 := by
 have t1 : 0 ≤ a * x := Int.mul_nonneg (by omega) (by omega)
 have t2 : a * x ≤ 512 * 4 := Int.mul_le_mul (by omega) hy (by omega) (by omega)
 omega
set_option maxHeartbeats 2000000 in
theorem manyA_any (l : List Int) (A : Option Addr) (c : Nat) (w : World) (hl : IntsAt w w.heap.size A l) (h : ∀ k, k < l.length → 2 ≤ nth l k ∧ nth l k ≤ 4) :
  Calls Tryz.prog 6 #[.slice A l.length c, .int .i64 36] w fun e w' => e = .returned (.int .i64 (mnyQ 36 l)) ∧ Below w.heap.size w w' := by
 have l1 := hl.len
 have Hv := Lib.hid h
 have Hw := Lib.hid (show ∀ k, k < l.length → 1 ≤ nth l k ∧ nth l k ≤ 64 from fun k hk => by have := h k hk; omega)
 clear h
 go_enter Tryz.func6, Tryz.ntmps6
 go_wp2
 go_loopw [5, 10] (fun n i wr => ∃ k : Nat, k ≤ l.length ∧ i = .int .i64 k ∧ n = .int .i64 (pr l k) ∧ pr l k ≤ 36 ∧ Below w.heap.size w wr) (fun _ i _ => l.length - (intOf i).toNat)
 case atStart => exact ⟨0, by omega, rfl, rfl, by show (1 : Int) ≤ _; omega, by exact bel⟩
 case round =>
  obtain ⟨k, hk, rfl, rfl, hp, hbel⟩ := hrel
  have Hp := Lib.hid (pr_full5 Hw.out hk)
  by_cases hlt : k < l.length
  ·obtain ⟨b1, o1, rfl, hb1, hc1⟩ := hl.at_ hlt
   have d1 := (hbel.cell (p := ⟨b1, o1 + k, none⟩) hb1).trans (hc1 k hlt)
   clear hc1
   have v0 := (Hv.out k hlt).1
   have v1 := (Hv.out k hlt).2
   have hs := pr_stepQ Hp.out.1 hp (by omega) (show 1 ≤ nth l k by omega) v1
   have s0 := hs.1
   have s1 := hs.2
   have hmm : min (max (nth l k) 0) 37 = nth l k := by omega
   have Hm := Lib.hid (pr_full5 Hw.out (show k + 1 ≤ l.length by omega))
   have He := Lib.hid (show pr l (k + 1) = pr l k * nth l k from rfl)
   clear hs
   by_cases h2 : pr l k * nth l k ≤ 36
   ·go_wp2
    go_roundw
    case rel => exact ⟨k + 1, by omega, by go_num, by rw [He.out], by rw [He.out]; exact h2, by exact bel⟩
    case measure => simp [intOf]; omega
   ·go_wp2
    go_ret
    refine ⟨ret_int ?_, by exact bel⟩
    have := Hm.out.2
    rw [He.out] at this
    unfold mnyQ
    rw [if_pos (by omega)]; rfl
  ·obtain rfl : k = l.length := by omega
   go_wp2
   go_ret
   exact ⟨ret_int (by unfold mnyQ; rw [if_neg (by omega)]), by exact bel⟩
set_option maxHeartbeats 2000000 in
theorem manyB_any (l : List Int) (A : Option Addr) (c : Nat) (w : World) (hl : IntsAt w w.heap.size A l) (h : ∀ k, k < l.length → 2 ≤ nth l k ∧ nth l k ≤ 4) :
  Calls Tryz.prog 6 #[.slice A l.length c, .int .i64 81] w fun e w' => e = .returned (.int .i64 (mnyQ 81 l)) ∧ Below w.heap.size w w' := by
 have l1 := hl.len
 have Hv := Lib.hid h
 have Hw := Lib.hid (show ∀ k, k < l.length → 1 ≤ nth l k ∧ nth l k ≤ 64 from fun k hk => by have := h k hk; omega)
 clear h
 go_enter Tryz.func6, Tryz.ntmps6
 go_wp2
 go_loopw [5, 10] (fun n i wr => ∃ k : Nat, k ≤ l.length ∧ i = .int .i64 k ∧ n = .int .i64 (pr l k) ∧ pr l k ≤ 81 ∧ Below w.heap.size w wr) (fun _ i _ => l.length - (intOf i).toNat)
 case atStart => exact ⟨0, by omega, rfl, rfl, by show (1 : Int) ≤ _; omega, by exact bel⟩
 case round =>
  obtain ⟨k, hk, rfl, rfl, hp, hbel⟩ := hrel
  have Hp := Lib.hid (pr_full5 Hw.out hk)
  by_cases hlt : k < l.length
  ·obtain ⟨b1, o1, rfl, hb1, hc1⟩ := hl.at_ hlt
   have d1 := (hbel.cell (p := ⟨b1, o1 + k, none⟩) hb1).trans (hc1 k hlt)
   clear hc1
   have v0 := (Hv.out k hlt).1
   have v1 := (Hv.out k hlt).2
   have hs := pr_stepQ Hp.out.1 hp (by omega) (show 1 ≤ nth l k by omega) v1
   have s0 := hs.1
   have s1 := hs.2
   have hmm : min (max (nth l k) 0) 82 = nth l k := by omega
   have Hm := Lib.hid (pr_full5 Hw.out (show k + 1 ≤ l.length by omega))
   have He := Lib.hid (show pr l (k + 1) = pr l k * nth l k from rfl)
   clear hs
   by_cases h2 : pr l k * nth l k ≤ 81
   ·go_wp2
    go_roundw
    case rel => exact ⟨k + 1, by omega, by go_num, by rw [He.out], by rw [He.out]; exact h2, by exact bel⟩
    case measure => simp [intOf]; omega
   ·go_wp2
    go_ret
    refine ⟨ret_int ?_, by exact bel⟩
    have := Hm.out.2
    rw [He.out] at this
    unfold mnyQ
    rw [if_pos (by omega)]; rfl
  ·obtain rfl : k = l.length := by omega
   go_wp2
   go_ret
   exact ⟨ret_int (by unfold mnyQ; rw [if_neg (by omega)]), by exact bel⟩
/-- Few states: few partial states. -/
theorem np_pr {vars : List Int} (h : ∀ k, k < vars.length → 2 ≤ nth vars k) : ∀ k, k ≤ vars.length → ((2 ^ k * (allP vars k).length : Nat) : Int) ≤ 3 ^ k * pr vars k
 | 0, _ => by simp [allP, pr]
 | k + 1, hk => by
  have ih := np_pr h k (by omega)
  have hv := h k (by omega)
  have hpos : 1 ≤ pr vars k := pr_pos fun j hj => by have := h j (by omega); omega
  rw [allP_len]
  have e1 : ((2 ^ (k + 1) * ((allP vars k).length * ((nth vars k).toNat + 1)) : Nat) : Int) = ((2 ^ k * (allP vars k).length : Nat) : Int) * (2 * (nth vars k + 1)) := by
   have : (((nth vars k).toNat : Nat) : Int) = nth vars k := by omega
   push_cast
   rw [this, Int.pow_succ]
   rw [show (2 : Int) ^ k * 2 * (((allP vars k).length : Int) * (nth vars k + 1)) = 2 ^ k * ((allP vars k).length : Int) * (2 * (nth vars k + 1)) by
    rw [Int.mul_assoc, Int.mul_assoc, Int.mul_left_comm 2]]
  have e2 : (3 : Int) ^ (k + 1) * pr vars (k + 1) = 3 ^ k * pr vars k * (3 * nth vars k) := by
   show (3 : Int) ^ (k + 1) * (pr vars k * nth vars k) = _
   rw [Int.pow_succ, Int.mul_assoc, Int.mul_assoc, Int.mul_left_comm 3]
  rw [e1, e2]
  exact Int.mul_le_mul ih (by omega) (by omega) (Int.mul_nonneg (Int.pow_nonneg (by omega)) (by omega))
theorem np_tame {vars : List Int} {Q : Int} (h : ∀ k, k < vars.length → 2 ≤ nth vars k) (hQ : pr vars vars.length ≤ Q) : ((2 ^ vars.length * npV vars : Nat) : Int) ≤ 3 ^ vars.length * Q :=
 Int.le_trans (np_pr h vars.length (Nat.le_refl _)) (Int.mul_le_mul_of_nonneg_left hQ (Int.pow_nonneg (by omega)))
theorem two_pow {vars : List Int} (h : ∀ k, k < vars.length → 2 ≤ nth vars k) : ∀ k, k ≤ vars.length → (2 : Int) ^ k ≤ pr vars k
 | 0, _ => by simp [pr]
 | k + 1, hk => by
  have ih := two_pow h k (by omega)
  have hv := h k (by omega)
  show (2 : Int) ^ (k + 1) ≤ pr vars k * nth vars k
  rw [Int.pow_succ]
  exact Int.mul_le_mul ih hv (by omega) (Int.le_trans (Int.pow_nonneg (by omega)) ih)
theorem np_81 {vars : List Int} (h : ∀ k, k < vars.length → 2 ≤ nth vars k) (hQ : pr vars vars.length ≤ 81) : npV vars ≤ 922 := by
 have h1 := np_tame h hQ
 have h2 := two_pow h vars.length (Nat.le_refl _)
 have h3 : vars.length ≤ 6 := by
  refine Classical.byContradiction fun hn => ?_
  have : (2 : Int) ^ 7 ≤ 2 ^ vars.length := by
   have := Nat.pow_le_pow_right (n := 2) (by decide) (show 7 ≤ vars.length by omega)
   exact_mod_cast this
  omega
 obtain ⟨n, hn⟩ : ∃ n, n = vars.length := ⟨_, rfl⟩
 rw [← hn] at h1 h3
 have : n = 0 ∨ n = 1 ∨ n = 2 ∨ n = 3 ∨ n = 4 ∨ n = 5 ∨ n = 6 := by omega
 rcases this with rfl | rfl | rfl | rfl | rfl | rfl | rfl <;> omega
theorem np_36 {vars : List Int} (h : ∀ k, k < vars.length → 2 ≤ nth vars k) (hQ : pr vars vars.length ≤ 36) (h4 : vars.length ≤ 4) : npV vars ≤ 182 := by
 have h1 := np_tame h hQ
 obtain ⟨n, hn⟩ : ∃ n, n = vars.length := ⟨_, rfl⟩
 rw [← hn] at h1 h4
 have : n = 0 ∨ n = 1 ∨ n = 2 ∨ n = 3 ∨ n = 4 := by omega
 rcases this with rfl | rfl | rfl | rfl | rfl <;> omega
set_option maxHeartbeats 1000000 in
theorem clip_any (n : Int) (w : World) (h0 : -9223372036854775808 ≤ n) (h1 : n ≤ 9223372036854775807) : Calls Tryz.prog 8 #[.int .i64 n, .int .i64 (-1), .int .i64 50] w fun e w' => (∃ b : Int, e = .returned (.int .i64 b) ∧ -1 ≤ b ∧ b ≤ 50) ∧ w' = w := by
 go_enter Tryz.func8, Tryz.ntmps8
 by_cases a : 50 < n
 ·go_wp2
  go_ret
  exact ⟨⟨_, rfl, by omega, by omega⟩, rfl⟩
 ·by_cases c : -1 < n
  ·go_wp2
   go_ret
   exact ⟨⟨_, rfl, by omega, by omega⟩, rfl⟩
  ·go_wp2
   go_ret
   exact ⟨⟨_, rfl, by omega, by omega⟩, rfl⟩
/-- A tame task. -/
structure TmOk (t : Tsk) : Prop where
 sm : Smll t
 dom : ∀ k, k < t.vars.length → 2 ≤ nth t.vars k ∧ nth t.vars k ≤ 4
def TmRet (t : Tsk) (e : Ending) : Prop := ∃ b, e = .returned (.bool b) ∧ (b = true → TmOk t)
theorem tm_no (t : Tsk) : TmRet t (.returned (.bool false)) := ⟨false, rfl, fun h => absurd h (by decide)⟩
theorem tm_yes {t : Tsk} (h : TmOk t) : TmRet t (.returned (.bool true)) := ⟨true, rfl, fun _ => h⟩

set_option maxRecDepth 20000 in
set_option maxHeartbeats 8000000 in
theorem tame_any (t : Tsk) (p : Lies) (w : World) (ht : TaskAt w w.heap.size t p) :
  Calls Tryz.prog 5 #[TaskV t p] w fun e w' => TmRet t e ∧ Below w.heap.size w w' := by
 obtain ⟨W0, hW0⟩ : ∃ W0, W0 = w.alloc (.cells #[.slice p.av t.vars.length p.cv, .slice p.ai t.init.length p.ci, .slice p.ag t.goal.length p.cg, .slice p.ao t.ops.length p.co] 26) := ⟨_, rfl⟩
 have HB0 := Lib.hid (show Below w.heap.size w W0 by rw [hW0]; exact (Below.refl _ _).alloc (Nat.le_refl _) _)
 have HX0 := Lib.hid (show BxI W0 w.heap.size 26 #[.slice p.av t.vars.length p.cv, .slice p.ai t.init.length p.ci, .slice p.ag t.goal.length p.cg, .slice p.ao t.ops.length p.co] by rw [hW0]; exact BxI.new _ _ _)
 have KS := Lib.hid (small_any t p W0 (ht.up HB0.out))
 have HT := Lib.hid ht
 have lv := ht.vars.len
 have lo := ht.ops.len
 clear ht
 go_enter Tryz.func5, Tryz.ntmps5
 unfold TaskV at KS ⊢
 go_wp2_with fail
 rw [← hW0]
 have HW0 := Lib.hid hW0
 clear hW0
 refine KS.out.mono ?_
 rintro e w1 ⟨rfl, hb1⟩
 have HB1 := Lib.hid (show Below w.heap.size w w1 from HB0.out.trans (hb1.mono HB0.out.size))
 have HX1 := Lib.hid (HX0.out.up hb1)
 clear hb1 KS
 cases es : smB t
 ·go_wp2
  go_ret
  exact ⟨tm_no t, HB1.out⟩
 ·have HSM := Lib.hid (small_of es)
  have hne := HSM.out.ne
  have HNE := Lib.hid hne
  have x0 := HX1.out.cell 0 (.slice p.av t.vars.length p.cv) rfl
  have hXl := HX1.out.lt
  clear es hne
  go_wp2_with fail
  go_loopw [16] (fun v16 wr => ∃ k : Nat, v16 = .int .i64 k ∧ k ≤ t.vars.length ∧ Hid (∀ j, j < k → 2 ≤ nth t.vars j ∧ nth t.vars j ≤ 4) ∧ Hid (Below w1.heap.size w1 wr)) (fun v16 _ => t.vars.length - (intOf v16).toNat)
  case atStart => exact ⟨0, rfl, by omega, Lib.hid (fun j hj => absurd hj (by omega)), Lib.hid (Below.refl _ _)⟩
  case round =>
   clear x0 hXl
   obtain ⟨k, rfl, hk, HK, HE⟩ := hrel
   obtain ⟨wt, rfl⟩ : ∃ wt : World, wt = wr := ⟨_, rfl⟩
   have HBt := Lib.hid (show Below w.heap.size w wt from HB1.out.trans (HE.out.mono HB1.out.size))
   have hzt := HBt.out.size
   by_cases hlt : k < t.vars.length
   ·obtain ⟨vb, vo, hva, hvb, hvc⟩ := HT.out.vars.at_ hlt
    have d1 := (HBt.out.cell (p := ⟨vb, vo + k, none⟩) hvb).trans (hvc k hlt)
    obtain ⟨x, hx⟩ : ∃ x, x = nth t.vars k := ⟨_, rfl⟩
    rw [← hx] at d1
    have HX := Lib.hid hx
    have g1 : vb < wt.heap.size := by omega
    rw [hva]
    clear hvc hx
    by_cases h2 : x < 2
    ·have e2 : decide (x < 2) = true := decide_eq_true h2
     go_wp2
     go_ret
     exact ⟨tm_no t, HBt.out⟩
    have e2 : decide (x < 2) = false := decide_eq_false h2
    by_cases h4 : 4 < x
    ·have e4 : decide (4 < x) = true := decide_eq_true h4
     go_wp2
     go_ret
     exact ⟨tm_no t, HBt.out⟩
    have e4 : decide (4 < x) = false := decide_eq_false h4
    have HK2 := Lib.hid (show ∀ j, j < k + 1 → 2 ≤ nth t.vars j ∧ nth t.vars j ≤ 4 from fun j hj => by
     rcases Nat.lt_succ_iff_lt_or_eq.1 hj with h1 | rfl
     ·exact HK.out j h1
     ·rw [← HX.out]; omega)
    go_wp2
    go_roundw
    case rel => exact ⟨k + 1, by go_num, by omega, HK2, HE⟩
    case measure => simp [intOf]; omega
   ·obtain rfl : k = t.vars.length := by omega
    have x3 := (HX1.out.up HE.out).cell 3 (.slice p.ao t.ops.length p.co) rfl
    have hXl := (HX1.out.up HE.out).lt
    go_wp2_with fail
    go_loopw [30] (fun v30 wr => ∃ k : Nat, v30 = .int .i64 k ∧ k ≤ t.ops.length ∧ Hid (Below w1.heap.size w1 wr)) (fun v30 _ => t.ops.length - (intOf v30).toNat)
    case atStart => exact ⟨0, rfl, by omega, HE⟩
    case round =>
     clear x3 hXl hzt HE HBt
     obtain ⟨k, rfl, hk, HE⟩ := hrel
     obtain ⟨wu, rfl⟩ : ∃ wu : World, wu = wr := ⟨_, rfl⟩
     have HBu := Lib.hid (show Below w.heap.size w wu from HB1.out.trans (HE.out.mono HB1.out.size))
     have hzu := HBu.out.size
     by_cases hlt2 : k < t.ops.length
     ·obtain ⟨ob, oo, S, sc, T, tc, hoA, hob, d0, hnm, d1, d2, f2, d3, f3⟩ := HT.out.ops.at2 HBu.out hlt2
      have hn8 := HNE.out k hlt2
      obtain ⟨o, ho⟩ : ∃ o, o = opr t.ops k := ⟨_, rfl⟩
      rw [← ho] at d0 hnm d1 d2 f2 d3 f3 hn8
      have HO := Lib.hid ho
      have HF3 := Lib.hid f3
      have g1 : ob < wu.heap.size := by omega
      have hpl : o.pre.length ≤ 140737488355328 := f2.1
      obtain ⟨W2, hW2⟩ : ∃ W2, W2 = wu.alloc (.cells #[.string o.name, .int .i64 o.cost, .slice S o.pre.length sc, .slice T o.effs.length tc] 63) := ⟨_, rfl⟩
      have HB2 := Lib.hid (show Below wu.heap.size wu W2 by rw [hW2]; exact (Below.refl _ _).alloc (Nat.le_refl _) _)
      have HO2 := Lib.hid (show BxI W2 wu.heap.size 63 #[.string o.name, .int .i64 o.cost, .slice S o.pre.length sc, .slice T o.effs.length tc] by rw [hW2]; exact BxI.new _ _ _)
      rw [hoA]
      clear ho f2 f3
      go_wp2_with fail
      rw [← hW2]
      have HW2 := Lib.hid hW2
      clear hW2 d0 d1 d2 d3
      go_loopw [7, 37] (fun v7 v37 wr => ∃ j m : Nat, v7 = .int .i64 m ∧ v37 = .int .i64 j ∧ j ≤ o.effs.length ∧ m ≤ j ∧ Hid (Below W2.heap.size W2 wr)) (fun _ v37 _ => o.effs.length - (intOf v37).toNat)
      case atStart => exact ⟨0, 0, rfl, rfl, by omega, by omega, Lib.hid (Below.refl _ _)⟩
      case round =>
       obtain ⟨j, m, rfl, rfl, hj, hm, HE2⟩ := hrel
       obtain ⟨wv, rfl⟩ : ∃ wv : World, wv = wr := ⟨_, rfl⟩
       have HBv := Lib.hid (show Below wu.heap.size wu wv from HB2.out.trans (HE2.out.mono HB2.out.size))
       have HBw := Lib.hid (show Below w.heap.size w wv from HBu.out.trans (HBv.out.mono hzu))
       have HEv := Lib.hid (show Below w1.heap.size w1 wv from HE.out.trans (HBv.out.mono HE.out.size))
       have hzv := HBw.out.size
       by_cases hlt3 : j < o.effs.length
       ·obtain ⟨tb, to_, S', c', hT, htb, e1, e2, e3, e4⟩ := HF3.out.at2 HBw.out hlt3
        obtain ⟨e, he⟩ : ∃ e, e = eff o.effs j := ⟨_, rfl⟩
        rw [← he] at e1 e2 e3 e4
        have hwl : e.whn.length ≤ 140737488355328 := e2.1
        have g2 : tb < wv.heap.size := by omega
        have HEA := Lib.hid (show Below W2.heap.size W2 (wv.alloc (.cells #[.slice S' e.whn.length c', .int .i64 e.var, .int .i64 e.val] 65)) from HE2.out.alloc HE2.out.size _)
        have HBA := Lib.hid (show Below w.heap.size w (wv.alloc (.cells #[.slice S' e.whn.length c', .int .i64 e.var, .int .i64 e.val] 65)) from HBw.out.alloc hzv _)
        rw [hT]
        clear e2 he
        by_cases q2 : 2 < e.whn.length
        ·have r2 : decide ((2 : Int) < e.whn.length) = true := decide_eq_true (by omega)
         go_wp2
         go_ret
         exact ⟨tm_no t, HBA.out⟩
        have r2 : decide ((2 : Int) < e.whn.length) = false := decide_eq_false (by omega)
        by_cases q0 : 0 < e.whn.length
        ·have r0 : decide ((0 : Int) < e.whn.length) = true := decide_eq_true (by omega)
         go_wp2
         go_roundw
         case rel => exact ⟨j + 1, m + 1, by go_num, by go_num, by omega, by omega, HEA⟩
         case measure => simp [intOf]; omega
        ·have r0 : decide ((0 : Int) < e.whn.length) = false := decide_eq_false (by omega)
         go_wp2
         go_roundw
         case rel => exact ⟨j + 1, m, rfl, by go_num, by omega, by omega, HEA⟩
         case measure => simp [intOf]; omega
       ·by_cases q3 : 3 < m
        ·have r3 : decide ((3 : Int) < m) = true := decide_eq_true (by omega)
         go_wp2
         go_ret
         exact ⟨tm_no t, HBw.out⟩
        ·have r3 : decide ((3 : Int) < m) = false := decide_eq_false (by omega)
         go_wp2
         go_roundw
         case rel => exact ⟨k + 1, by go_num, by omega, HEv⟩
         case measure => simp [intOf]; omega
     ·have HOK := Lib.hid (show TmOk t from ⟨HSM.out, HK.out⟩)
      go_wp2
      go_ret
      exact ⟨tm_yes HOK.out, HBu.out⟩
end Go.Proofs.YtlkebhiaimijiaaGreatDoor
