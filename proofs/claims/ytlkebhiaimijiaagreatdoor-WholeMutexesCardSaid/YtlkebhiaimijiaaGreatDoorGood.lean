/- base.operator, base.Good, base.Many (512), base.Small. -/
import Derived.Test.YtlkebhiaimijiaaGreatDoorBel
import Derived.Test.YtlkebhiaimijiaaGreatDoorNgB
import Derived.Test.YtlkebhiaimijiaaGreatDoorNgI
import Derived.LoopTactic
namespace Go.Proofs.YtlkebhiaimijiaaGreatDoor
set_option linter.unusedSimpArgs false
set_option linter.unusedVariables false
open Go.RowKit
set_option linter.unusedVariables false

set_option maxRecDepth 100000 in
set_option maxHeartbeats 4000000 in
theorem operator_any (vars : List Int) (o : Opr) (av S T : Option Addr) (cv c d : Nat) (w : World) (hv : IntsAt w w.heap.size av vars) (hp : FactsAt w w.heap.size S o.pre) (he : EffsAt w w.heap.size T o.effs) (hs : o.name.size ≤ 140737488355328) :
    Calls Tryz.prog 88 #[.slice av vars.length cv, .agg #[.string o.name, .int .i64 o.cost, .slice S o.pre.length c, .slice T o.effs.length d]] w fun e w' => e = .returned (.bool (goO vars o)) ∧ Below w.heap.size w w' := by
  have l1 := hv.len
  have l2 := hp.len
  have l3 := he.len
  have k1 := fun w1 (hb : Below w.heap.size w w1) => bproper_any vars o.pre av S cv c w1 (hv.up hb) (hp.up hb)
  have HG : Hid (goO vars o = ((((!decide (o.cost < 0) && !decide (1048576 < o.cost)) && !decide ((64 : Int) < o.effs.length)) && !decide ((256 : Int) < o.name.size)) && (faB vars o.pre && (!anyB o.name.size (bad o.name) && !anyB o.effs.length fun k => malE vars (eff o.effs k))))) := rfl
  by_cases q1 : o.cost < 0
  · have Hr := Lib.hid (show goO vars o = false by rw [HG.out]; simp [q1])
    have e1 : decide (o.cost < 0) = true := by simpa using q1
    go_enter Tryz.func88, Tryz.ntmps88
    go_wp2
    go_ret
    exact ⟨bool_ret Hr.out.symm, by exact bel⟩
  have e1 : decide (o.cost < 0) = false := by simpa using q1
  by_cases q2 : 1048576 < o.cost
  · have Hr := Lib.hid (show goO vars o = false by rw [HG.out]; simp [q2])
    have e2 : decide (1048576 < o.cost) = true := by simpa using q2
    go_enter Tryz.func88, Tryz.ntmps88
    go_wp2
    go_ret
    exact ⟨bool_ret Hr.out.symm, by exact bel⟩
  have e2 : decide (1048576 < o.cost) = false := by simpa using q2
  by_cases q3 : (64 : Int) < o.effs.length
  · have Hr := Lib.hid (show goO vars o = false by rw [HG.out, decide_eq_true q3]; simp)
    go_enter Tryz.func88, Tryz.ntmps88
    go_wp2
    go_ret
    exact ⟨bool_ret Hr.out.symm, by exact bel⟩
  by_cases q4 : (256 : Int) < o.name.size
  · have Hr := Lib.hid (show goO vars o = false by rw [HG.out, decide_eq_true q4]; simp)
    go_enter Tryz.func88, Tryz.ntmps88
    go_wp2
    go_ret
    exact ⟨bool_ret Hr.out.symm, by exact bel⟩
  cases q5 : faB vars o.pre
  · have Hr := Lib.hid (show goO vars o = false by rw [HG.out, q5]; simp)
    go_enter Tryz.func88, Tryz.ntmps88
    go_wp2_with fail; refine (k1 _ (by exact bel)).mono ?_; rintro e w1 ⟨rfl, hb1⟩; obtain ⟨hc1, hf1, hz1, hlt1, hle1⟩ := cellsIf hb1 (by (try simp); exact rfl); (try have := s00 w w1); (try have := s01 w w1); (try have := s02 w w1); (try have := s10 w w1); (try have := s11 w w1); (try have := s12 w w1); (try have := s20 w w1); (try have := s21 w w1); (try have := s22 w w1)
    go_wp2
    go_ret
    exact ⟨bool_ret Hr.out.symm, by exact bel⟩
  have HG2 := Lib.hid (show goO vars o = (!anyB o.name.size (bad o.name) && !anyB o.effs.length fun k => malE vars (eff o.effs k)) by rw [HG.out, e1, e2, decide_eq_false q3, decide_eq_false q4, q5]; rfl)
  clear HG
  go_enter Tryz.func88, Tryz.ntmps88
  go_wp2_with fail; refine (k1 _ (by exact bel)).mono ?_; rintro e w1 ⟨rfl, hb1⟩; obtain ⟨hc1, hf1, hz1, hlt1, hle1⟩ := cellsIf hb1 (by (try simp); exact rfl); (try have := s00 w w1); (try have := s01 w w1); (try have := s02 w w1); (try have := s10 w w1); (try have := s11 w w1); (try have := s12 w w1); (try have := s20 w w1); (try have := s21 w w1); (try have := s22 w w1)
  have hbx : Below (w.heap.size + 1) (w.alloc (.cells #[.string o.name, .int .i64 o.cost, .slice S o.pre.length c, .slice T o.effs.length d] 63)) w1 := by simpa using hb1
  have b0 := fun X (hx : Below (w.heap.size + 1) (w.alloc (.cells #[.string o.name, .int .i64 o.cost, .slice S o.pre.length c, .slice T o.effs.length d] 63)) X) => (hx.cell (p := ⟨w.heap.size, 0, none⟩) (by show w.heap.size < _; omega)).trans (show _ = some (Value.string o.name) by simp)
  have b3 := fun X (hx : Below (w.heap.size + 1) (w.alloc (.cells #[.string o.name, .int .i64 o.cost, .slice S o.pre.length c, .slice T o.effs.length d] 63)) X) => (hx.cell (p := ⟨w.heap.size, 3, none⟩) (by show w.heap.size < _; omega)).trans (show _ = some (Value.slice T o.effs.length d) by simp)
  have B0 := Lib.hid b0
  have B3 := Lib.hid b3
  clear b0 b3
  have y0 := B0.out _ hbx
  clear hc1 hf1 hz1 hlt1 hle1 hb1
  go_wp2
  clear y0
  go_loopw [38] (fun i wr => ∃ (k : Nat), k ≤ o.name.size ∧ i = .int .i64 k ∧ anyB k (bad o.name) = false ∧ Below (w.heap.size + 1) (w.alloc (.cells #[.string o.name, .int .i64 o.cost, .slice S o.pre.length c, .slice T o.effs.length d] 63)) wr) (fun i _ => o.name.size - (intOf i).toNat)
  case atStart => exact ⟨0, by omega, rfl, rfl, hbx⟩
  case round =>
    clear hbx
    obtain ⟨k, hk, rfl, hB, hbx⟩ := hrel
    have HB := Lib.hid hB
    clear hB
    have hbel : Below w.heap.size w wr := ((Below.refl w.heap.size w).alloc (Nat.le_refl _) _).trans (hbx.mono (by omega))
    have y0 := B0.out _ hbx
    by_cases hlt : k < o.name.size
    · cases f1 : decide ((o.name[k].toNat : Int) < 32) <;> cases f2 : decide (126 < (o.name[k].toNat : Int)) <;> go_wp2
      all_goals first
        | (go_roundw
           case rel => exact ⟨k + 1, by omega, by go_num, (by rw [anyB_succ, HB.out]; unfold bad; rw [byt_eq hlt, f1, f2]; rfl), hbx⟩
           case measure => simp [intOf]; omega)
        | (go_ret
           refine ⟨bool_ret ?_, hbel⟩
           have hf : anyB o.name.size (bad o.name) = true := anyB_true.2 ⟨k, hlt, by unfold bad; rw [byt_eq hlt, f1, f2]; rfl⟩
           rw [HG2.out, hf]; rfl)
    · obtain rfl : k = o.name.size := by omega
      have HG3 := Lib.hid (show goO vars o = !anyB o.effs.length fun k => malE vars (eff o.effs k) by rw [HG2.out, HB.out]; rfl)
      have y3 := B3.out _ hbx
      clear HB HG2 hlt hk
      go_wp2
      clear y0 y3 hbx
      go_loopw [57] (fun i wr => ∃ (k : Nat), k ≤ o.effs.length ∧ i = .int .i64 k ∧ (anyB k fun k => malE vars (eff o.effs k)) = false ∧ Below w.heap.size w wr) (fun i _ => o.effs.length - (intOf i).toNat)
      case atStart => exact ⟨0, by omega, rfl, rfl, hbel⟩
      case round =>
        clear hbel
        obtain ⟨j, hj, rfl, hB, hbel⟩ := hrel
        have HB := Lib.hid hB
        clear hB
        by_cases hlt : j < o.effs.length
        · obtain ⟨b, oo, S', c', ea, hb, i0, f5, i1, i2⟩ := he.at2 hbel hlt
          subst ea
          have hbz := hbel.size
          have g3 : b < wr.heap.size := by omega
          have j3 := f5.len
          have k4 := fun w1 (hb : Below w.heap.size w w1) => bproper_any vars (eff o.effs j).whn av S' cv c' w1 (hv.up hb) (f5.up hb)
          have k5 := fun w1 b (hb : Below w.heap.size w w1) (hf : FactsAt w1 w1.heap.size (some ⟨b, 0, none⟩) [((eff o.effs j).var, (eff o.effs j).val)]) => bproper_any vars [((eff o.effs j).var, (eff o.effs j).val)] av (some ⟨b, 0, none⟩) cv 1 w1 (hv.up hb) hf
          cases e1 : faB vars (eff o.effs j).whn
          · have Hr := Lib.hid (show goO vars o = false by rw [HG3.out, anyB_true.2 ⟨j, hlt, by unfold malE; rw [e1]; rfl⟩]; rfl)
            go_wp2_with fail; refine (k4 _ (by exact bel)).mono ?_; rintro e w1 ⟨rfl, hb1⟩; obtain ⟨hc1, hf1, hz1, hlt1, hle1⟩ := cellsIf hb1 (by (try simp); exact rfl); (try have := s00 w w1); (try have := s01 w w1); (try have := s02 w w1); (try have := s10 w w1); (try have := s11 w w1); (try have := s12 w w1); (try have := s20 w w1); (try have := s21 w w1); (try have := s22 w w1)
            go_wp2
            go_ret
            exact ⟨bool_ret Hr.out.symm, by exact bel⟩
          · cases e2 : faB vars [((eff o.effs j).var, (eff o.effs j).val)]
            · have Hr := Lib.hid (show goO vars o = false by rw [HG3.out, anyB_true.2 ⟨j, hlt, by unfold malE; rw [e1, e2]; rfl⟩]; rfl)
              go_wp2_with fail; refine (k4 _ (by exact bel)).mono ?_; rintro e w1 ⟨rfl, hb1⟩; obtain ⟨hc1, hf1, hz1, hlt1, hle1⟩ := cellsIf hb1 (by (try simp); exact rfl); (try have := s00 w w1); (try have := s01 w w1); (try have := s02 w w1); (try have := s10 w w1); (try have := s11 w w1); (try have := s12 w w1); (try have := s20 w w1); (try have := s21 w w1); (try have := s22 w w1)
              go_wp2_with fail; refine (k5 _ _ (by exact bel) (factsAt_one (by simp) (by simp [hc1]) (by simp [hc1]))).mono ?_; rintro e w2 ⟨rfl, hb2⟩; obtain ⟨hc2, hf2, hz2, hlt2, hle2⟩ := cellsIf hb2 (by (try simp); exact rfl); (try have := s00 w w2); (try have := s01 w w2); (try have := s02 w w2); (try have := s10 w w2); (try have := s11 w w2); (try have := s12 w w2); (try have := s20 w w2); (try have := s21 w w2); (try have := s22 w w2); (try have := s00 w1 w2); (try have := s01 w1 w2); (try have := s02 w1 w2); (try have := s10 w1 w2); (try have := s11 w1 w2); (try have := s12 w1 w2); (try have := s20 w1 w2); (try have := s21 w1 w2); (try have := s22 w1 w2)
              go_wp2
              go_ret
              exact ⟨bool_ret Hr.out.symm, by exact bel⟩
            · have Hm := Lib.hid (show malE vars (eff o.effs j) = false by unfold malE; rw [e1, e2]; rfl)
              go_wp2_with fail; refine (k4 _ (by exact bel)).mono ?_; rintro e w1 ⟨rfl, hb1⟩; obtain ⟨hc1, hf1, hz1, hlt1, hle1⟩ := cellsIf hb1 (by (try simp); exact rfl); (try have := s00 w w1); (try have := s01 w w1); (try have := s02 w w1); (try have := s10 w w1); (try have := s11 w w1); (try have := s12 w w1); (try have := s20 w w1); (try have := s21 w w1); (try have := s22 w w1)
              go_wp2_with fail; refine (k5 _ _ (by exact bel) (factsAt_one (by simp) (by simp [hc1]) (by simp [hc1]))).mono ?_; rintro e w2 ⟨rfl, hb2⟩; obtain ⟨hc2, hf2, hz2, hlt2, hle2⟩ := cellsIf hb2 (by (try simp); exact rfl); (try have := s00 w w2); (try have := s01 w w2); (try have := s02 w w2); (try have := s10 w w2); (try have := s11 w w2); (try have := s12 w w2); (try have := s20 w w2); (try have := s21 w w2); (try have := s22 w w2); (try have := s00 w1 w2); (try have := s01 w1 w2); (try have := s02 w1 w2); (try have := s10 w1 w2); (try have := s11 w1 w2); (try have := s12 w1 w2); (try have := s20 w1 w2); (try have := s21 w1 w2); (try have := s22 w1 w2)
              go_wp2
              go_roundw
              case rel => exact ⟨j + 1, by omega, by go_num, (by rw [anyB_succ, HB.out, Hm.out]; rfl), by exact bel⟩
              case measure => simp [intOf]; omega
        · obtain rfl : j = o.effs.length := by omega
          have Hr := Lib.hid (show goO vars o = true by rw [HG3.out, HB.out]; rfl)
          go_wp2
          go_ret
          exact ⟨bool_ret Hr.out.symm, hbel⟩

set_option maxRecDepth 100000 in
set_option maxHeartbeats 4000000 in
theorem good_any (t : Tsk) (p : Lies) (w : World) (ht : TaskAt w w.heap.size t p) :
  Calls Tryz.prog 50 #[TaskV t p] w fun e w' => e = .returned (.bool (goT t)) ∧ Below w.heap.size w w' := by
 obtain ⟨av, ai, ag, ao, cv, ci, cg, co⟩ := p
 unfold TaskV
 dsimp only
 have l1 := ht.vars.len
 have l2 := ht.init.len
 have l3 := ht.goal.len
 have l4 := ht.ops.len
 have k1 := fun w1 (hb : Below w.heap.size w w1) => state_any t.vars t.init av ai cv ci w1 (ht.vars.up hb) (ht.init.up hb)
 have k2 := fun w1 (hb : Below w.heap.size w w1) => bproper_any t.vars t.goal av ag cv cg w1 (ht.vars.up hb) (ht.goal.up hb)
 have HG : Hid (goT t = ((!decide ((64 : Int) < t.vars.length) && !decide ((4096 : Int) < t.ops.length)) && ((!anyB t.vars.length fun k => decide (nth t.vars k < 1) || decide (64 < nth t.vars k)) && ((stB t.vars t.init && faB t.vars t.goal) && !anyB t.ops.length fun k => !goO t.vars (opr t.ops k))))) := rfl
 by_cases q1 : (64 : Int) < t.vars.length
 ·have Hr := Lib.hid (show goT t = false by rw [HG.out, decide_eq_true q1]; simp)
  go_enter Tryz.func50, Tryz.ntmps50
  go_wp2
  go_ret
  exact ⟨bool_ret Hr.out.symm, by exact bel⟩
 by_cases q2 : (4096 : Int) < t.ops.length
 ·have Hr := Lib.hid (show goT t = false by rw [HG.out, decide_eq_true q2]; simp)
  go_enter Tryz.func50, Tryz.ntmps50
  go_wp2
  go_ret
  exact ⟨bool_ret Hr.out.symm, by exact bel⟩
 have HG2 := Lib.hid (show goT t = ((!anyB t.vars.length fun k => decide (nth t.vars k < 1) || decide (64 < nth t.vars k)) && ((stB t.vars t.init && faB t.vars t.goal) && !anyB t.ops.length fun k => !goO t.vars (opr t.ops k))) by rw [HG.out, decide_eq_false q1, decide_eq_false q2]; rfl)
 clear HG
 go_enter Tryz.func50, Tryz.ntmps50
 go_wp2
 go_loopw [20] (fun i wr => ∃ (k : Nat), k ≤ t.vars.length ∧ i = .int .i64 k ∧ (anyB k fun k => decide (nth t.vars k < 1) || decide (64 < nth t.vars k)) = false ∧ Boxed wr w.heap.size t ⟨av, ai, ag, ao, cv, ci, cg, co⟩ ∧ Below w.heap.size w wr) (fun i _ => t.vars.length - (intOf i).toNat)
 case atStart => exact ⟨0, by omega, rfl, rfl, by constructor <;> simp, by exact bel⟩
 case round =>
  obtain ⟨k, hk, rfl, hB, hbox, hbel⟩ := hrel
  have HB := Lib.hid hB
  clear hB
  obtain ⟨z0, y0, y1, y2, y3⟩ := id hbox
  dsimp only at y0 y1 y2 y3
  have hbz := hbel.size
  by_cases hlt : k < t.vars.length
  ·obtain ⟨b1, o1, ea, hb1, hc1⟩ := ht.vars.at_ hlt
   dsimp only at ea
   subst ea
   have d1 := (hbel.cell (p := ⟨b1, o1 + k, none⟩) hb1).trans (hc1 k hlt)
   clear hc1
   by_cases q3 : nth t.vars k < 1
   ·have Hr := Lib.hid (show goT t = false by rw [HG2.out, anyB_true.2 ⟨k, hlt, by simp [q3]⟩]; rfl)
    have e3 : decide (nth t.vars k < 1) = true := by simpa using q3
    go_wp2
    go_ret
    exact ⟨bool_ret Hr.out.symm, hbel⟩
   have e3 : decide (nth t.vars k < 1) = false := by simpa using q3
   by_cases q4 : 64 < nth t.vars k
   ·have Hr := Lib.hid (show goT t = false by rw [HG2.out, anyB_true.2 ⟨k, hlt, by simp [q4]⟩]; rfl)
    have e4 : decide (64 < nth t.vars k) = true := by simpa using q4
    go_wp2
    go_ret
    exact ⟨bool_ret Hr.out.symm, hbel⟩
   have e4 : decide (64 < nth t.vars k) = false := by simpa using q4
   go_wp2
   go_roundw
   case rel => exact ⟨k + 1, by omega, by go_num, (by rw [anyB_succ, HB.out, e3, e4]; rfl), hbox, hbel⟩
   case measure => simp [intOf]; omega
  ·obtain rfl : k = t.vars.length := by omega
   have HG3 := Lib.hid (show goT t = ((stB t.vars t.init && faB t.vars t.goal) && !anyB t.ops.length fun k => !goO t.vars (opr t.ops k)) by rw [HG2.out, HB.out]; rfl)
   clear HB HG2 hlt hk
   cases e5 : stB t.vars t.init
   ·have Hr := Lib.hid (show goT t = false by rw [HG3.out, e5]; rfl)
    go_wp2_with fail; refine (k1 _ (by exact bel)).mono ?_; rintro e w1 ⟨rfl, hb1⟩; obtain ⟨hc1, hf1, hz1, hlt1, hle1⟩ := cellsIf hb1 (by (try simp); exact rfl); (try have := s00 w w1); (try have := s01 w w1); (try have := s02 w w1); (try have := s10 w w1); (try have := s11 w w1); (try have := s12 w w1); (try have := s20 w w1); (try have := s21 w w1); (try have := s22 w w1)
    go_wp2
    go_ret
    exact ⟨bool_ret Hr.out.symm, by exact bel⟩
   cases e6 : faB t.vars t.goal
   ·have Hr := Lib.hid (show goT t = false by rw [HG3.out, e5, e6]; rfl)
    go_wp2_with fail; refine (k1 _ (by exact bel)).mono ?_; rintro e w1 ⟨rfl, hb1⟩; obtain ⟨hc1, hf1, hz1, hlt1, hle1⟩ := cellsIf hb1 (by (try simp); exact rfl); (try have := s00 w w1); (try have := s01 w w1); (try have := s02 w w1); (try have := s10 w w1); (try have := s11 w w1); (try have := s12 w w1); (try have := s20 w w1); (try have := s21 w w1); (try have := s22 w w1)
    go_wp2_with fail; refine (k2 _ (by exact bel)).mono ?_; rintro e w2 ⟨rfl, hb2⟩; obtain ⟨hc2, hf2, hz2, hlt2, hle2⟩ := cellsIf hb2 (by (try simp); exact rfl); (try have := s00 w w2); (try have := s01 w w2); (try have := s02 w w2); (try have := s10 w w2); (try have := s11 w w2); (try have := s12 w w2); (try have := s20 w w2); (try have := s21 w w2); (try have := s22 w w2); (try have := s00 w1 w2); (try have := s01 w1 w2); (try have := s02 w1 w2); (try have := s10 w1 w2); (try have := s11 w1 w2); (try have := s12 w1 w2); (try have := s20 w1 w2); (try have := s21 w1 w2); (try have := s22 w1 w2)
    go_wp2
    go_ret
    exact ⟨bool_ret Hr.out.symm, by exact bel⟩
   have HG4 := Lib.hid (show goT t = !anyB t.ops.length fun k => !goO t.vars (opr t.ops k) by rw [HG3.out, e5, e6]; rfl)
   clear HG3
   go_wp2_with fail; refine (k1 _ (by exact bel)).mono ?_; rintro e w1 ⟨rfl, hb1⟩; obtain ⟨hc1, hf1, hz1, hlt1, hle1⟩ := cellsIf hb1 (by (try simp); exact rfl); (try have := s00 w w1); (try have := s01 w w1); (try have := s02 w w1); (try have := s10 w w1); (try have := s11 w w1); (try have := s12 w w1); (try have := s20 w w1); (try have := s21 w w1); (try have := s22 w w1)
   go_wp2_with fail; refine (k2 _ (by exact bel)).mono ?_; rintro e w2 ⟨rfl, hb2⟩; obtain ⟨hc2, hf2, hz2, hlt2, hle2⟩ := cellsIf hb2 (by (try simp); exact rfl); (try have := s00 w w2); (try have := s01 w w2); (try have := s02 w w2); (try have := s10 w w2); (try have := s11 w w2); (try have := s12 w w2); (try have := s20 w w2); (try have := s21 w w2); (try have := s22 w w2); (try have := s00 w1 w2); (try have := s01 w1 w2); (try have := s02 w1 w2); (try have := s10 w1 w2); (try have := s11 w1 w2); (try have := s12 w1 w2); (try have := s20 w1 w2); (try have := s21 w1 w2); (try have := s22 w1 w2)
   have hbw2 : Below w.heap.size w w2 := by exact bel
   have hbox2 := (hbox.up hb1).up hb2
   clear hc1 hc2 hf1 hf2 hz1 hz2 hlt1 hlt2 hle1 hle2 hb1 hb2 z0 y0 y1 y2 y3 hbox hbel
   obtain ⟨z0, y0, y1, y2, y3⟩ := id hbox2
   dsimp only at y0 y1 y2 y3
   go_wp2
   go_loopw [48] (fun i wr => ∃ (k : Nat), k ≤ t.ops.length ∧ i = .int .i64 k ∧ (anyB k fun k => !goO t.vars (opr t.ops k)) = false ∧ Boxed wr w.heap.size t ⟨av, ai, ag, ao, cv, ci, cg, co⟩ ∧ Below w.heap.size w wr) (fun i _ => t.ops.length - (intOf i).toNat)
   case atStart => exact ⟨0, by omega, rfl, rfl, hbox2, hbw2⟩
   case round =>
    clear z0 y0 y1 y2 y3 hbox2 hbw2
    obtain ⟨k, hk, rfl, hB, hbox, hbel⟩ := hrel
    have HB := Lib.hid hB
    clear hB
    obtain ⟨z0, y0, y1, y2, y3⟩ := id hbox
    dsimp only at y0 y1 y2 y3
    by_cases hlt : k < t.ops.length
    ·obtain ⟨b, o, S, c, T, d, ea, hb, d0, q0, d1, d2, f2, d3, e3⟩ := ht.ops.at2 hbel hlt; (try dsimp only at ea); subst ea; have hbz := hbel.size; have g2 : b < wr.heap.size := (by omega); have j1 := f2.len; have j2 := e3.len
     have k6 := fun w1 (hb : Below w.heap.size w w1) => operator_any t.vars (opr t.ops k) av S T cv c d w1 (ht.vars.up hb) (f2.up hb) (e3.keep (fun _ hp => hb.cell hp) hb.size) q0
     cases e7 : goO t.vars (opr t.ops k)
     ·have Hr := Lib.hid (show goT t = false by rw [HG4.out, anyB_true.2 ⟨k, hlt, by simp [e7]⟩]; rfl)
      rw [e7] at k6
      go_wp2_with fail; refine (k6 _ (by exact bel)).mono ?_; rintro e w3 ⟨rfl, hb3⟩; obtain ⟨hc3, hf3, hz3, hlt3, hle3⟩ := cellsIf hb3 (by (try simp); exact rfl); (try have := s00 w w3); (try have := s01 w w3); (try have := s02 w w3); (try have := s10 w w3); (try have := s11 w w3); (try have := s12 w w3); (try have := s20 w w3); (try have := s21 w w3); (try have := s22 w w3); (try have := s00 w1 w3); (try have := s01 w1 w3); (try have := s02 w1 w3); (try have := s10 w1 w3); (try have := s11 w1 w3); (try have := s12 w1 w3); (try have := s20 w1 w3); (try have := s21 w1 w3); (try have := s22 w1 w3); (try have := s00 w2 w3); (try have := s01 w2 w3); (try have := s02 w2 w3); (try have := s10 w2 w3); (try have := s11 w2 w3); (try have := s12 w2 w3); (try have := s20 w2 w3); (try have := s21 w2 w3); (try have := s22 w2 w3)
      go_wp2
      go_ret
      exact ⟨bool_ret Hr.out.symm, by exact bel⟩
     ·rw [e7] at k6
      have Hg := Lib.hid e7
      clear e7
      go_wp2_with fail; refine (k6 _ (by exact bel)).mono ?_; rintro e w3 ⟨rfl, hb3⟩; obtain ⟨hc3, hf3, hz3, hlt3, hle3⟩ := cellsIf hb3 (by (try simp); exact rfl); (try have := s00 w w3); (try have := s01 w w3); (try have := s02 w w3); (try have := s10 w w3); (try have := s11 w w3); (try have := s12 w w3); (try have := s20 w w3); (try have := s21 w w3); (try have := s22 w w3); (try have := s00 w1 w3); (try have := s01 w1 w3); (try have := s02 w1 w3); (try have := s10 w1 w3); (try have := s11 w1 w3); (try have := s12 w1 w3); (try have := s20 w1 w3); (try have := s21 w1 w3); (try have := s22 w1 w3); (try have := s00 w2 w3); (try have := s01 w2 w3); (try have := s02 w2 w3); (try have := s10 w2 w3); (try have := s11 w2 w3); (try have := s12 w2 w3); (try have := s20 w2 w3); (try have := s21 w2 w3); (try have := s22 w2 w3)
      have hb3w : Below wr.heap.size wr w3 := by exact bel
      go_wp2
      go_roundw
      case rel => exact ⟨k + 1, by omega, by go_num, (by rw [anyB_succ, HB.out, Hg.out]; rfl), hbox.up hb3w, by exact bel⟩
      case measure => simp [intOf]; omega
    ·obtain rfl : k = t.ops.length := by omega
     have Hr := Lib.hid (show goT t = true by rw [HG4.out, HB.out]; rfl)
     go_wp2
     go_ret
     exact ⟨bool_ret Hr.out.symm, hbel⟩

/-- The number of states is at most 512. -/
theorem pr_step5 {a x : Int} (h1 : 1 ≤ a) (h2 : a ≤ 512) (hx : 1 ≤ x) (hy : x ≤ 64) : 0 ≤ a * x ∧ a * x ≤ 32768 := by
 have t1 : 0 ≤ a * x := Int.mul_nonneg (by omega) (by omega)
 have t2 : a * x ≤ 512 * 64 := Int.mul_le_mul h2 hy (by omega) (by omega)
 omega
theorem pr_full5 {l : List Int} {k : Nat} (h : ∀ k, k < l.length → 1 ≤ nth l k ∧ nth l k ≤ 64) (hk : k ≤ l.length) : 1 ≤ pr l k ∧ pr l k ≤ pr l l.length :=
 ⟨pr_pos fun j hj => (h j (by omega)).1, pr_mono (fun j hj => (h j hj).1) hk⟩
def mny5 (l : List Int) : Int := if 512 < pr l l.length then 513 else pr l l.length

set_option maxHeartbeats 1000000 in
theorem many5_any (l : List Int) (A : Option Addr) (c : Nat) (w : World) (hl : IntsAt w w.heap.size A l) (h : ∀ k, k < l.length → 1 ≤ nth l k ∧ nth l k ≤ 64) :
  Calls Tryz.prog 6 #[.slice A l.length c, .int .i64 512] w fun e w' => e = .returned (.int .i64 (mny5 l)) ∧ Below w.heap.size w w' := by
 have l1 := hl.len
 have Hv := Lib.hid h
 clear h
 go_enter Tryz.func6, Tryz.ntmps6
 go_wp2
 go_loopw [5, 10] (fun n i wr => ∃ k : Nat, k ≤ l.length ∧ i = .int .i64 k ∧ n = .int .i64 (pr l k) ∧ pr l k ≤ 512 ∧ Below w.heap.size w wr) (fun _ i _ => l.length - (intOf i).toNat)
 case atStart => exact ⟨0, by omega, rfl, rfl, by show (1 : Int) ≤ _; omega, by exact bel⟩
 case round =>
  obtain ⟨k, hk, rfl, rfl, hp, hbel⟩ := hrel
  have Hp := Lib.hid (pr_full5 Hv.out hk)
  by_cases hlt : k < l.length
  ·obtain ⟨b1, o1, rfl, hb1, hc1⟩ := hl.at_ hlt
   have d1 := (hbel.cell (p := ⟨b1, o1 + k, none⟩) hb1).trans (hc1 k hlt)
   clear hc1
   have v0 := (Hv.out k hlt).1
   have v1 := (Hv.out k hlt).2
   have hs := pr_step5 Hp.out.1 hp v0 v1
   have s0 := hs.1
   have s1 := hs.2
   have Hm := Lib.hid (pr_full5 Hv.out (show k + 1 ≤ l.length by omega))
   have He := Lib.hid (show pr l (k + 1) = pr l k * nth l k from rfl)
   clear hs
   by_cases h2 : pr l k * nth l k ≤ 512
   ·go_wp2
    go_roundw
    case rel => exact ⟨k + 1, by omega, by go_num, by rw [He.out], by rw [He.out]; exact h2, by exact bel⟩
    case measure => simp [intOf]; omega
   ·go_wp2
    go_ret
    refine ⟨ret_int ?_, by exact bel⟩
    have := Hm.out.2
    rw [He.out] at this
    unfold mny5
    rw [if_pos (by omega)]
  ·obtain rfl : k = l.length := by omega
   go_wp2
   go_ret
   exact ⟨ret_int (by unfold mny5; rw [if_neg (by omega)]), by exact bel⟩

/-- A small task. -/
def smB (t : Tsk) : Bool := ((!decide ((12 : Int) < t.vars.length) && !decide ((20 : Int) < t.ops.length)) && !anyB t.ops.length fun k => decide ((8 : Int) < (opr t.ops k).effs.length)) && (goT t && decide (pr t.vars t.vars.length ≤ 512))
structure Smll (t : Tsk) : Prop where
 nv : t.vars.length ≤ 12
 no : t.ops.length ≤ 20
 ne : ∀ k, k < t.ops.length → (opr t.ops k).effs.length ≤ 8
 right : Right t
 chk : chkC t = 0
 many : pr t.vars t.vars.length ≤ 512
theorem small_of {t : Tsk} (h : smB t = true) : Smll t := by
 unfold smB at h
 simp only [Bool.and_eq_true, Bool.not_eq_true', decide_eq_false_iff_not, anyB_false, decide_eq_true_eq] at h
 obtain ⟨⟨⟨h1, h2⟩, h3⟩, h4, h5⟩ := h
 have h6 := (goT_chk t).1 h4
 exact ⟨by omega, by omega, fun k hk => by have := h3 k hk; omega, right_of h6, h6, h5⟩

set_option maxRecDepth 100000 in
set_option maxHeartbeats 4000000 in
theorem small_any (t : Tsk) (p : Lies) (w : World) (ht : TaskAt w w.heap.size t p) :
  Calls Tryz.prog 22 #[TaskV t p] w fun e w' => e = .returned (.bool (smB t)) ∧ Below w.heap.size w w' := by
 have k1 := fun w1 (hb : Below w.heap.size w w1) => good_any t p w1 (ht.up hb)
 have k2 := fun w1 (hr : Right t) (hb : Below w.heap.size w w1) => many5_any t.vars p.av p.cv w1 (ht.vars.up hb) hr.dom
 obtain ⟨av, ai, ag, ao, cv, ci, cg, co⟩ := p
 unfold TaskV at *
 dsimp only at *
 have l1 := ht.vars.len
 have l4 := ht.ops.len
 have HG : Hid (smB t = (((!decide ((12 : Int) < t.vars.length) && !decide ((20 : Int) < t.ops.length)) && !anyB t.ops.length fun k => decide ((8 : Int) < (opr t.ops k).effs.length)) && (goT t && decide (pr t.vars t.vars.length ≤ 512)))) := rfl
 by_cases q1 : (12 : Int) < t.vars.length
 ·have Hr := Lib.hid (show smB t = false by rw [HG.out, decide_eq_true q1]; simp)
  go_enter Tryz.func22, Tryz.ntmps22
  go_wp2
  go_ret
  exact ⟨bool_ret Hr.out.symm, by exact bel⟩
 by_cases q2 : (20 : Int) < t.ops.length
 ·have Hr := Lib.hid (show smB t = false by rw [HG.out, decide_eq_true q2]; simp)
  go_enter Tryz.func22, Tryz.ntmps22
  go_wp2
  go_ret
  exact ⟨bool_ret Hr.out.symm, by exact bel⟩
 have HG2 := Lib.hid (show smB t = ((!anyB t.ops.length fun k => decide ((8 : Int) < (opr t.ops k).effs.length)) && (goT t && decide (pr t.vars t.vars.length ≤ 512))) by rw [HG.out, decide_eq_false q1, decide_eq_false q2]; rfl)
 clear HG
 go_enter Tryz.func22, Tryz.ntmps22
 go_wp2
 go_loopw [18] (fun i wr => ∃ (k : Nat), k ≤ t.ops.length ∧ i = .int .i64 k ∧ (anyB k fun k => decide ((8 : Int) < (opr t.ops k).effs.length)) = false ∧ Boxed wr w.heap.size t ⟨av, ai, ag, ao, cv, ci, cg, co⟩ ∧ Below w.heap.size w wr) (fun i _ => t.ops.length - (intOf i).toNat)
 case atStart => exact ⟨0, by omega, rfl, rfl, by constructor <;> simp, by exact bel⟩
 case round =>
  obtain ⟨k, hk, rfl, hB, hbox, hbel⟩ := hrel
  have HB := Lib.hid hB
  clear hB
  obtain ⟨z0, y0, y1, y2, y3⟩ := id hbox
  dsimp only at y0 y1 y2 y3
  by_cases hlt : k < t.ops.length
  ·obtain ⟨b, o, S, c, T, d, ea, hb, d0, q0, d1, d2, f2, d3, e3⟩ := ht.ops.at2 hbel hlt; (try dsimp only at ea); subst ea; have hbz := hbel.size; have g2 : b < wr.heap.size := (by omega); have j1 := f2.len; have j2 := e3.len
   by_cases q3 : (8 : Int) < (opr t.ops k).effs.length
   ·have Hr := Lib.hid (show smB t = false by rw [HG2.out, anyB_true.2 ⟨k, hlt, decide_eq_true q3⟩]; rfl)
    go_wp2
    go_ret
    exact ⟨bool_ret Hr.out.symm, by exact bel⟩
   ·have Hd := Lib.hid (decide_eq_false q3)
    go_wp2
    go_roundw
    case rel => exact ⟨k + 1, by omega, by go_num, (by rw [anyB_succ, HB.out, Hd.out]; rfl), hbox.up (by exact bel), by exact bel⟩
    case measure => simp [intOf]; omega
  ·obtain rfl : k = t.ops.length := by omega
   have HG3 := Lib.hid (show smB t = (goT t && decide (pr t.vars t.vars.length ≤ 512)) by rw [HG2.out, HB.out]; rfl)
   have hbz := hbel.size
   cases e1 : goT t
   ·have Hr := Lib.hid (show smB t = false by rw [HG3.out, e1]; rfl)
    rw [e1] at k1
    go_wp2_with fail; refine (k1 _ (by exact bel)).mono ?_; rintro e w1 ⟨rfl, hb1⟩; obtain ⟨hc1, hf1, hz1, hlt1, hle1⟩ := cellsIf hb1 (by (try simp); exact rfl); (try have := s00 w w1); (try have := s01 w w1); (try have := s02 w w1); (try have := s10 w w1); (try have := s11 w w1); (try have := s12 w w1); (try have := s20 w w1); (try have := s21 w w1); (try have := s22 w w1)
    go_wp2
    go_ret
    exact ⟨bool_ret Hr.out.symm, by exact bel⟩
   ·have hr := right_of ((goT_chk t).1 e1)
    have Hr := Lib.hid (show smB t = decide (mny5 t.vars ≤ 512) by
     rw [HG3.out, e1]
     unfold mny5
     split
     ·rename_i h; simp; omega
     ·simp)
    rw [e1] at k1
    have k3 := fun w1 => k2 w1 hr
    generalize mny5 t.vars = M at *
    go_wp2_with fail; refine (k1 _ (by exact bel)).mono ?_; rintro e w1 ⟨rfl, hb1⟩; obtain ⟨hc1, hf1, hz1, hlt1, hle1⟩ := cellsIf hb1 (by (try simp); exact rfl); (try have := s00 w w1); (try have := s01 w w1); (try have := s02 w w1); (try have := s10 w w1); (try have := s11 w w1); (try have := s12 w w1); (try have := s20 w w1); (try have := s21 w w1); (try have := s22 w w1)
    go_wp2_with fail; refine (k3 _ (by exact bel)).mono ?_; rintro e w2 ⟨rfl, hb2⟩; obtain ⟨hc2, hf2, hz2, hlt2, hle2⟩ := cellsIf hb2 (by (try simp); exact rfl); (try have := s00 w w2); (try have := s01 w w2); (try have := s02 w w2); (try have := s10 w w2); (try have := s11 w w2); (try have := s12 w w2); (try have := s20 w w2); (try have := s21 w w2); (try have := s22 w w2); (try have := s00 w1 w2); (try have := s01 w1 w2); (try have := s02 w1 w2); (try have := s10 w1 w2); (try have := s11 w1 w2); (try have := s12 w1 w2); (try have := s20 w1 w2); (try have := s21 w1 w2); (try have := s22 w1 w2)
    go_wp2
    go_ret
    exact ⟨bool_ret Hr.out.symm, by exact bel⟩

end Go.Proofs.YtlkebhiaimijiaaGreatDoor
