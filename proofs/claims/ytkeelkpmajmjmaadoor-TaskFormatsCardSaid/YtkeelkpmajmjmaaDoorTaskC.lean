/- outside, misnamed (ref 05), named. -/
import Derived.Test.YtkeelkpmajmjmaaDoorTaskD
import Derived.LoopTactic
import Derived.Deep.LoopGhost
import Derived.Deep.DeepCutAuto
namespace Go.Proofs.YtkeelkpmajmjmaaDoor
set_option linter.unusedSimpArgs false
set_option linter.unusedVariables false
open Go.RowKit
set_option linter.unusedVariables false

set_option maxHeartbeats 1000000 in
theorem outside_any (t : Tsk) (p : Lies) (w : World) (ht : TaskAt w w.heap.size t p) :
    Calls Tryd.prog 21 #[TaskV t p] w fun e w' => e = .returned (.bool (outT t)) ∧ Below w.heap.size w w' := by
  unfold TaskV
  have l1 := ht.vars.len
  have l2 := ht.init.len
  have l3 := ht.goal.len
  have l4 := ht.ops.len
  go_enter Tryd.func21, Tryd.ntmps21
  go_wp2
  go_loopw [3, 11] (fun n i wr => ∃ (k : Nat) (B : Bool), k ≤ t.vars.length ∧ B = (anyB k fun k => decide (nth t.vars k < 1) || decide (64 < nth t.vars k)) ∧ n = .bool B ∧ i = .int .i64 k ∧ Boxed wr w.heap.size t p ∧ Below w.heap.size w wr) (fun _ i _ => t.vars.length - (intOf i).toNat)
  case atStart => exact ⟨0, false, by omega, rfl, rfl, rfl, by constructor <;> simp, by repeat (first | exact Below.refl _ _ | refine below_dN ?_ _ | refine Below.drew ?_ | refine Below.alloc ?_ (by first | omega | (simp; done) | (simp; omega)) _ | refine Below.setCell ?_ (by first | omega | (simp; done) | (simp; omega)) _ | refine below_step (by assumption) (by first | omega | (simp; done) | (simp; omega)) ?_)⟩
  case round =>
    obtain ⟨k, B, hk, hB, rfl, rfl, hbox, hbel⟩ := hrel
    have HB := Lib.hid hB
    clear hB
    obtain ⟨z0, y0, y1, y2, y3⟩ := hbox
    by_cases hlt : k < t.vars.length
    · obtain ⟨b1, o1, ea, hb1, hc1⟩ := ht.vars.at_ hlt
      have d1 := (hbel.cell (p := ⟨b1, o1 + k, none⟩) hb1).trans (hc1 k hlt)
      clear hc1
      cases B <;> cases e1 : decide (nth t.vars k < 1) <;> cases e2 : decide (64 < nth t.vars k) <;>
        (go_wp2
         go_roundw
         case rel => exact ⟨k + 1, _, by omega, (by rw [anyB_succ, ← HB.out, e1, e2] <;> rfl), rfl, by go_num, ⟨z0, y0, y1, y2, y3⟩, by repeat (first | exact Below.refl _ _ | refine below_dN ?_ _ | refine Below.drew ?_ | refine Below.alloc ?_ (by first | omega | (simp; done) | (simp; omega)) _ | refine Below.setCell ?_ (by first | omega | (simp; done) | (simp; omega)) _ | refine below_step (by assumption) (by first | omega | (simp; done) | (simp; omega)) ?_)⟩
         case measure => simp [intOf]; omega)
    · obtain ⟨B0, hB0⟩ : ∃ B0 : Bool, B0 = B := ⟨_, rfl⟩
      have HB0 := Lib.hid hB0
      clear hB0
      go_wp2
      go_loopw [3, 28] (fun n i wr => ∃ (k : Nat) (B : Bool), k ≤ t.ops.length ∧ B = (B0 || anyB k fun k => decide ((opr t.ops k).cost < 0) || decide (1048576 < (opr t.ops k).cost)) ∧ n = .bool B ∧ i = .int .i64 k ∧ Below w.heap.size w wr) (fun _ i _ => t.ops.length - (intOf i).toNat)
      case atStart => exact ⟨0, _, by omega, (by rw [anyB_zero, Bool.or_false, HB0.out]), rfl, rfl, by repeat (first | exact Below.refl _ _ | refine below_dN ?_ _ | refine Below.drew ?_ | refine Below.alloc ?_ (by first | omega | (simp; done) | (simp; omega)) _ | refine Below.setCell ?_ (by first | omega | (simp; done) | (simp; omega)) _ | refine below_step (by assumption) (by first | omega | (simp; done) | (simp; omega)) ?_)⟩
      case round =>
        obtain ⟨j, B2, hj, hB2, rfl, rfl, hbel⟩ := hrel
        have HB2 := Lib.hid hB2
        clear hB2
        by_cases hlt : j < t.ops.length
        · obtain ⟨b, o, S, c, T, d, ea, hb, d0, q0, d1, d2, f2, d3, e3⟩ := ht.ops.at2 hbel hlt; have hbz := hbel.size; have g2 : b < wr.heap.size := (by omega); have j1 := f2.len; have j2 := e3.len
          cases B2 <;> cases e1 : decide ((opr t.ops j).cost < 0) <;> cases e2 : decide (1048576 < (opr t.ops j).cost) <;>
            (go_wp2
             go_roundw
             case rel => exact ⟨j + 1, _, by omega, (by rw [anyB_succ, ← Bool.or_assoc, ← HB2.out, e1, e2] <;> rfl), rfl, by go_num, by repeat (first | exact Below.refl _ _ | refine below_dN ?_ _ | refine Below.drew ?_ | refine Below.alloc ?_ (by first | omega | (simp; done) | (simp; omega)) _ | refine Below.setCell ?_ (by first | omega | (simp; done) | (simp; omega)) _ | refine below_step (by assumption) (by first | omega | (simp; done) | (simp; omega)) ?_)⟩
             case measure => simp [intOf]; omega)
        · go_wp2
          go_ret
          refine ⟨bool_ret ?_, by repeat (first | exact Below.refl _ _ | refine below_dN ?_ _ | refine Below.drew ?_ | refine Below.alloc ?_ (by first | omega | (simp; done) | (simp; omega)) _ | refine Below.setCell ?_ (by first | omega | (simp; done) | (simp; omega)) _ | refine below_step (by assumption) (by first | omega | (simp; done) | (simp; omega)) ?_)⟩
          rw [HB2.out, HB0.out, HB.out, show k = t.vars.length by omega, show j = t.ops.length by omega]
          rfl

set_option maxHeartbeats 1000000 in
theorem named_any (s : ByteArray) (w : World) (hs : s.size ≤ 140737488355328) :
    Calls Tryd.prog 34 #[.string s] w fun e w' => e = .returned (.bool (!misO s)) ∧ Below w.heap.size w w' := by
  go_enter Tryd.func34, Tryd.ntmps34
  go_wp2
  go_loopw [6] (fun i wr => ∃ (k : Nat), k ≤ s.size ∧ i = .int .i64 k ∧ anyB k (bad s) = false ∧ Below w.heap.size w wr) (fun i _ => s.size - (intOf i).toNat)
  case atStart => exact ⟨0, by omega, rfl, rfl, by repeat (first | exact Below.refl _ _ | refine below_dN ?_ _ | refine Below.drew ?_ | refine Below.alloc ?_ (by first | omega | (simp; done) | (simp; omega)) _ | refine Below.setCell ?_ (by first | omega | (simp; done) | (simp; omega)) _ | refine below_step (by assumption) (by first | omega | (simp; done) | (simp; omega)) ?_)⟩
  case round =>
    obtain ⟨k, hk, rfl, hB, hbel⟩ := hrel
    have HB := Lib.hid hB
    clear hB
    by_cases hlt : k < s.size
    · cases e1 : decide ((s[k].toNat : Int) < 32) <;> cases e2 : decide (126 < (s[k].toNat : Int)) <;> go_wp2
      all_goals first
        | (go_roundw
           case rel => exact ⟨k + 1, by omega, by go_num, (by rw [anyB_succ, HB.out]; unfold bad; rw [byt_eq hlt, e1, e2]; rfl), by repeat (first | exact Below.refl _ _ | refine below_dN ?_ _ | refine Below.drew ?_ | refine Below.alloc ?_ (by first | omega | (simp; done) | (simp; omega)) _ | refine Below.setCell ?_ (by first | omega | (simp; done) | (simp; omega)) _ | refine below_step (by assumption) (by first | omega | (simp; done) | (simp; omega)) ?_)⟩
           case measure => simp [intOf]; omega)
        | (go_ret
           refine ⟨bool_ret ?_, by repeat (first | exact Below.refl _ _ | refine below_dN ?_ _ | refine Below.drew ?_ | refine Below.alloc ?_ (by first | omega | (simp; done) | (simp; omega)) _ | refine Below.setCell ?_ (by first | omega | (simp; done) | (simp; omega)) _ | refine below_step (by assumption) (by first | omega | (simp; done) | (simp; omega)) ?_)⟩
           have hf : anyB s.size (bad s) = true := anyB_true.2 ⟨k, hlt, by unfold bad; rw [byt_eq hlt, e1, e2]; rfl⟩
           unfold misO
           rw [hf, Bool.or_true]; rfl)
    · cases e1 : decide ((s.size : Int) ≤ 256) <;>
        (go_wp2
         go_ret
         refine ⟨bool_ret ?_, by repeat (first | exact Below.refl _ _ | refine below_dN ?_ _ | refine Below.drew ?_ | refine Below.alloc ?_ (by first | omega | (simp; done) | (simp; omega)) _ | refine Below.setCell ?_ (by first | omega | (simp; done) | (simp; omega)) _ | refine below_step (by assumption) (by first | omega | (simp; done) | (simp; omega)) ?_)⟩
         unfold misO
         rw [show s.size = k by omega, HB.out, Bool.or_false]
         simp at e1 ⊢
         omega)

set_option maxHeartbeats 1000000 in
theorem misnamed_any (t : Tsk) (p : Lies) (w : World) (ht : TaskAt w w.heap.size t p) :
    Calls Tryd.prog 23 #[TaskV t p] w fun e w' => e = .returned (.bool (misT t)) ∧ Below w.heap.size w w' := by
  unfold TaskV
  have l1 := ht.vars.len
  have l2 := ht.init.len
  have l3 := ht.goal.len
  have l4 := ht.ops.len
  go_enter Tryd.func23, Tryd.ntmps23
  go_wp2
  go_loopw [3, 10] (fun n i wr => ∃ (k : Nat) (B : Bool), k ≤ t.ops.length ∧ B = (anyB k fun k => misO (opr t.ops k).name) ∧ n = .bool B ∧ i = .int .i64 k ∧ Below w.heap.size w wr) (fun _ i _ => t.ops.length - (intOf i).toNat)
  case atStart => exact ⟨0, false, by omega, rfl, rfl, rfl, by repeat (first | exact Below.refl _ _ | refine below_dN ?_ _ | refine Below.drew ?_ | refine Below.alloc ?_ (by first | omega | (simp; done) | (simp; omega)) _ | refine Below.setCell ?_ (by first | omega | (simp; done) | (simp; omega)) _ | refine below_step (by assumption) (by first | omega | (simp; done) | (simp; omega)) ?_)⟩
  case round =>
    obtain ⟨k, B, hk, hB, rfl, rfl, hbel⟩ := hrel
    have HB := Lib.hid hB
    clear hB
    by_cases hlt : k < t.ops.length
    · obtain ⟨b, o, S, c, T, d, ea, hb, d0, q0, d1, d2, f2, d3, e3⟩ := ht.ops.at2 hbel hlt; have hbz := hbel.size; have g2 : b < wr.heap.size := (by omega); have j1 := f2.len; have j2 := e3.len
      obtain ⟨B1, hB1⟩ : ∃ B1 : Bool, B1 = (B || decide ((256 : Int) < (opr t.ops k).name.size)) := ⟨_, rfl⟩
      have HB1 := Lib.hid hB1
      clear hB1
      go_upto_region 5 with fail
      go_cut [3] (fun bad wx => bad = .bool B1 ∧ wx.cell? ⟨wr.heap.size, 0, none⟩ = some (.string (opr t.ops k).name) ∧ wr.heap.size < wx.heap.size ∧ Below w.heap.size w wx)
      case first =>
        cases B <;> cases e1 : decide ((256 : Int) < (opr t.ops k).name.size) <;> (go_wp2; go_meet; refine ⟨congrArg Value.bool (by rw [HB1.out, e1]; rfl), by simp, by simp, by repeat (first | exact Below.refl _ _ | refine below_dN ?_ _ | refine Below.drew ?_ | refine Below.alloc ?_ (by first | omega | (simp; done) | (simp; omega)) _ | refine Below.setCell ?_ (by first | omega | (simp; done) | (simp; omega)) _ | refine below_step (by assumption) (by first | omega | (simp; done) | (simp; omega)) ?_)⟩)
      case rest =>
        obtain ⟨rfl, x3, x4, hbel1⟩ := hcut
        go_wp2
        go_loopw [3, 24] (fun n i wx => ∃ (j : Nat) (B2 : Bool), j ≤ (opr t.ops k).name.size ∧ B2 = (B1 || anyB j (bad (opr t.ops k).name)) ∧ n = .bool B2 ∧ i = .int .i64 j ∧ (wx.cell? ⟨wr.heap.size, 0, none⟩ = some (.string (opr t.ops k).name) ∧ wr.heap.size < wx.heap.size) ∧ Below w.heap.size w wx) (fun _ i _ => (opr t.ops k).name.size - (intOf i).toNat)
        case atStart => exact ⟨0, B1, by omega, by rw [anyB_zero, Bool.or_false], rfl, rfl, ⟨x3, x4⟩, by repeat (first | exact Below.refl _ _ | refine below_dN ?_ _ | refine Below.drew ?_ | refine Below.alloc ?_ (by first | omega | (simp; done) | (simp; omega)) _ | refine Below.setCell ?_ (by first | omega | (simp; done) | (simp; omega)) _ | refine below_step (by assumption) (by first | omega | (simp; done) | (simp; omega)) ?_)⟩
        case round =>
          obtain ⟨j, B2, hj, hB2, rfl, rfl, ⟨x5, x6⟩, hbel2⟩ := hrel
          have HB2 := Lib.hid hB2
          clear hB2
          by_cases hlt2 : j < (opr t.ops k).name.size
          · cases B2 <;> cases e1 : decide (((opr t.ops k).name[j].toNat : Int) < 32) <;> cases e2 : decide (126 < ((opr t.ops k).name[j].toNat : Int)) <;>
              (go_wp2
               go_roundw
               case rel => exact ⟨j + 1, _, by omega, (by rw [anyB_succ, ← Bool.or_assoc, ← HB2.out]; unfold bad; rw [byt_eq hlt2, e1, e2] <;> rfl), rfl, by go_num, ⟨x5, x6⟩, by repeat (first | exact Below.refl _ _ | refine below_dN ?_ _ | refine Below.drew ?_ | refine Below.alloc ?_ (by first | omega | (simp; done) | (simp; omega)) _ | refine Below.setCell ?_ (by first | omega | (simp; done) | (simp; omega)) _ | refine below_step (by assumption) (by first | omega | (simp; done) | (simp; omega)) ?_)⟩
               case measure => simp [intOf]; omega)
          · go_wp2
            go_roundw
            case rel => exact ⟨k + 1, _, by omega, (by rw [anyB_succ, ← HB.out, HB2.out, HB1.out, show j = (opr t.ops k).name.size by omega]; unfold misO; simp only [Bool.or_assoc]), rfl, by go_num, by repeat (first | exact Below.refl _ _ | refine below_dN ?_ _ | refine Below.drew ?_ | refine Below.alloc ?_ (by first | omega | (simp; done) | (simp; omega)) _ | refine Below.setCell ?_ (by first | omega | (simp; done) | (simp; omega)) _ | refine below_step (by assumption) (by first | omega | (simp; done) | (simp; omega)) ?_)⟩
            case measure => simp [intOf]; omega
    · go_wp2
      go_ret
      refine ⟨bool_ret ?_, by repeat (first | exact Below.refl _ _ | refine below_dN ?_ _ | refine Below.drew ?_ | refine Below.alloc ?_ (by first | omega | (simp; done) | (simp; omega)) _ | refine Below.setCell ?_ (by first | omega | (simp; done) | (simp; omega)) _ | refine below_step (by assumption) (by first | omega | (simp; done) | (simp; omega)) ?_)⟩
      rw [HB.out, show k = t.ops.length by omega]
      rfl

end Go.Proofs.YtkeelkpmajmjmaaDoor
