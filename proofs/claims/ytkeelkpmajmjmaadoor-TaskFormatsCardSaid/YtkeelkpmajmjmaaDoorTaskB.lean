/- size, large (law 05). -/
import Derived.Test.YtkeelkpmajmjmaaDoorTaskD
import Derived.LoopTactic
import Derived.Deep.LoopGhost
import Derived.Deep.DeepCutAuto
namespace Go.Proofs.YtkeelkpmajmjmaaDoor
set_option linter.unusedSimpArgs false
set_option linter.unusedVariables false
open Go.RowKit
set_option linter.unusedVariables false

set_option maxHeartbeats 1000000 in
theorem size_any (t : Tsk) (p : Lies) (w : World) (ht : TaskAt w w.heap.size t p) :
    Calls Tryd.prog 11 #[TaskV t p] w fun e w' => (∃ n, e = .returned (.int .i64 n)) ∧ Below w.heap.size w w' := by
  unfold TaskV
  have l1 := ht.vars.len
  have l2 := ht.init.len
  have l3 := ht.goal.len
  have l4 := ht.ops.len
  go_enter Tryd.func11, Tryd.ntmps11
  go_wp2
  go_loopw [3, 26] (fun n i wr => ∃ k : Nat, k ≤ t.ops.length ∧ (∃ m, n = .int .i64 m) ∧ i = .int .i64 k ∧ Below w.heap.size w wr) (fun _ i _ => t.ops.length - (intOf i).toNat)
  case atStart => exact ⟨0, by omega, ⟨_, rfl⟩, rfl, by repeat (first | exact Below.refl _ _ | refine below_dN ?_ _ | refine Below.drew ?_ | refine Below.alloc ?_ (by first | omega | (simp; done) | (simp; omega)) _ | refine Below.setCell ?_ (by first | omega | (simp; done) | (simp; omega)) _ | refine below_step (by assumption) (by first | omega | (simp; done) | (simp; omega)) ?_)⟩
  case round =>
    obtain ⟨k, hk, ⟨m, rfl⟩, rfl, hbel⟩ := hrel
    by_cases hlt : k < t.ops.length
    · obtain ⟨b, o, S, c, T, d, ea, hb, d0, q0, d1, d2, f2, d3, e3⟩ := ht.ops.at2 hbel hlt; have hbz := hbel.size; have g2 : b < wr.heap.size := (by omega); have j1 := f2.len; have j2 := e3.len
      go_wp2
      go_loopw [3, 46] (fun n i wx => ∃ j : Nat, j ≤ (opr t.ops k).effs.length ∧ (∃ m, n = .int .i64 m) ∧ i = .int .i64 j ∧ Below w.heap.size w wx) (fun _ i _ => (opr t.ops k).effs.length - (intOf i).toNat)
      case atStart => exact ⟨0, by omega, ⟨_, rfl⟩, rfl, by repeat (first | exact Below.refl _ _ | refine below_dN ?_ _ | refine Below.drew ?_ | refine Below.alloc ?_ (by first | omega | (simp; done) | (simp; omega)) _ | refine Below.setCell ?_ (by first | omega | (simp; done) | (simp; omega)) _ | refine below_step (by assumption) (by first | omega | (simp; done) | (simp; omega)) ?_)⟩
      case round =>
        obtain ⟨j, hj, ⟨n, rfl⟩, rfl, hbel2⟩ := hrel
        by_cases hlt2 : j < (opr t.ops k).effs.length
        · obtain ⟨b', o', S', c', ea', hb', i0, f5, i1, i2⟩ := e3.at2 hbel2 hlt2; have hbz2 := hbel2.size; have g3 : b' < wr.heap.size := (by omega); have j3 := f5.len
          go_wp2
          go_roundw
          case rel => exact ⟨j + 1, by omega, ⟨_, rfl⟩, by go_num, by repeat (first | exact Below.refl _ _ | refine below_dN ?_ _ | refine Below.drew ?_ | refine Below.alloc ?_ (by first | omega | (simp; done) | (simp; omega)) _ | refine Below.setCell ?_ (by first | omega | (simp; done) | (simp; omega)) _ | refine below_step (by assumption) (by first | omega | (simp; done) | (simp; omega)) ?_)⟩
          case measure => simp [intOf]; omega
        · go_wp2
          go_roundw
          case rel => exact ⟨k + 1, by omega, ⟨_, rfl⟩, by go_num, by repeat (first | exact Below.refl _ _ | refine below_dN ?_ _ | refine Below.drew ?_ | refine Below.alloc ?_ (by first | omega | (simp; done) | (simp; omega)) _ | refine Below.setCell ?_ (by first | omega | (simp; done) | (simp; omega)) _ | refine below_step (by assumption) (by first | omega | (simp; done) | (simp; omega)) ?_)⟩
          case measure => simp [intOf]; omega
    · go_wp2
      go_ret
      exact ⟨⟨_, rfl⟩, by repeat (first | exact Below.refl _ _ | refine below_dN ?_ _ | refine Below.drew ?_ | refine Below.alloc ?_ (by first | omega | (simp; done) | (simp; omega)) _ | refine Below.setCell ?_ (by first | omega | (simp; done) | (simp; omega)) _ | refine below_step (by assumption) (by first | omega | (simp; done) | (simp; omega)) ?_)⟩

set_option maxHeartbeats 1000000 in
theorem lawlarge_any (t : Tsk) (p : Lies) (w : World) (ht : TaskAt w w.heap.size t p) :
    Calls Tryd.prog 4 #[TaskV t p] w fun e w' => (∃ b, e = .returned (.bool b)) ∧ Below w.heap.size w w' := by
  have h1 : ∀ w1, Below w.heap.size w w1 → Calls Tryd.prog 11 #[TaskV t p] w1 fun e w' => (∃ n, e = .returned (.int .i64 n)) ∧ Below w1.heap.size w1 w' := fun w1 hb => size_any t p w1 (ht.up hb)
  unfold TaskV at *
  go_enter Tryd.func4, Tryd.ntmps4
  go_wp2_with fail
  refine (h1 _ (by repeat (first | exact Below.refl _ _ | refine below_dN ?_ _ | refine Below.drew ?_ | refine Below.alloc ?_ (by first | omega | (simp; done) | (simp; omega)) _ | refine Below.setCell ?_ (by first | omega | (simp; done) | (simp; omega)) _ | refine below_step (by assumption) (by first | omega | (simp; done) | (simp; omega)) ?_))).mono ?_
  rintro e w1 ⟨⟨n, rfl⟩, hb1⟩
  obtain ⟨hc1, hf1, hz1, hlt1, hle1⟩ := cellsIf hb1 (by (try simp); exact rfl)
  go_wp2
  go_ret
  exact ⟨⟨_, rfl⟩, by repeat (first | exact Below.refl _ _ | refine below_dN ?_ _ | refine Below.drew ?_ | refine Below.alloc ?_ (by first | omega | (simp; done) | (simp; omega)) _ | refine Below.setCell ?_ (by first | omega | (simp; done) | (simp; omega)) _ | refine below_step (by assumption) (by first | omega | (simp; done) | (simp; omega)) ?_)⟩

set_option maxHeartbeats 1000000 in
theorem rlarge_any (t : Tsk) (p : Lies) (w : World) (ht : TaskAt w w.heap.size t p) :
    Calls Tryd.prog 20 #[TaskV t p] w fun e w' => e = .returned (.bool (lgT t)) ∧ Below w.heap.size w w' := by
  unfold TaskV
  have l1 := ht.vars.len
  have l2 := ht.init.len
  have l3 := ht.goal.len
  have l4 := ht.ops.len
  obtain ⟨B0, hB0⟩ : ∃ B0 : Bool, B0 = ((decide ((64 : Int) < t.vars.length) || decide ((4096 : Int) < t.ops.length)) || decide ((64 : Int) < t.goal.length)) := ⟨_, rfl⟩
  have HB0 := Lib.hid hB0
  clear hB0
  go_enter Tryd.func20, Tryd.ntmps20
  go_upto_region 1 with fail
  go_cut [3] (fun bad wx => bad = .bool B0 ∧ Boxed wx w.heap.size t p ∧ Below w.heap.size w wx)
  case first =>
    cases e1 : decide ((64 : Int) < t.vars.length) <;> cases e2 : decide ((4096 : Int) < t.ops.length) <;> cases e3 : decide ((64 : Int) < t.goal.length) <;> (go_wp2; go_meet; refine ⟨congrArg Value.bool (by rw [HB0.out, e1, e2, e3]; rfl), ?_, by repeat (first | exact Below.refl _ _ | refine below_dN ?_ _ | refine Below.drew ?_ | refine Below.alloc ?_ (by first | omega | (simp; done) | (simp; omega)) _ | refine Below.setCell ?_ (by first | omega | (simp; done) | (simp; omega)) _ | refine below_step (by assumption) (by first | omega | (simp; done) | (simp; omega)) ?_)⟩; constructor <;> simp)
  case rest =>
    obtain ⟨rfl, ⟨z0, y0, y1, y2, y3⟩, hbel0⟩ := hcut
    go_wp2
    go_loopw [3, 27] (fun n i wr => ∃ (k : Nat) (B : Bool), k ≤ t.ops.length ∧ B = (B0 || anyB k fun k => lgO (opr t.ops k)) ∧ n = .bool B ∧ i = .int .i64 k ∧ Below w.heap.size w wr) (fun _ i _ => t.ops.length - (intOf i).toNat)
    case atStart => exact ⟨0, B0, by omega, by rw [anyB_zero, Bool.or_false], rfl, rfl, by repeat (first | exact Below.refl _ _ | refine below_dN ?_ _ | refine Below.drew ?_ | refine Below.alloc ?_ (by first | omega | (simp; done) | (simp; omega)) _ | refine Below.setCell ?_ (by first | omega | (simp; done) | (simp; omega)) _ | refine below_step (by assumption) (by first | omega | (simp; done) | (simp; omega)) ?_)⟩
    case round =>
      obtain ⟨k, B, hk, hB, rfl, rfl, hbel⟩ := hrel
      have HB := Lib.hid hB
      clear hB
      by_cases hlt : k < t.ops.length
      · obtain ⟨b, o, S, c, T, d, ea, hb, d0, q0, d1, d2, f2, d3, e3⟩ := ht.ops.at2 hbel hlt; have hbz := hbel.size; have g2 : b < wr.heap.size := (by omega); have j1 := f2.len; have j2 := e3.len
        obtain ⟨B1, hB1⟩ : ∃ B1 : Bool, B1 = (B || (decide ((64 : Int) < (opr t.ops k).pre.length) || decide ((64 : Int) < (opr t.ops k).effs.length))) := ⟨_, rfl⟩
        have HB1 := Lib.hid hB1
        clear hB1
        go_upto_region 5 with fail
        go_cut [3] (fun bad wx => bad = .bool B1 ∧ wx.cell? ⟨wr.heap.size, 3, none⟩ = some (.slice T (opr t.ops k).effs.length d) ∧ wr.heap.size < wx.heap.size ∧ Below w.heap.size w wx)
        case first =>
          cases B <;> cases e1 : decide ((64 : Int) < (opr t.ops k).pre.length) <;> cases e2 : decide ((64 : Int) < (opr t.ops k).effs.length) <;> (go_wp2; go_meet; refine ⟨congrArg Value.bool (by rw [HB1.out, e1, e2]; rfl), by simp, by simp, by repeat (first | exact Below.refl _ _ | refine below_dN ?_ _ | refine Below.drew ?_ | refine Below.alloc ?_ (by first | omega | (simp; done) | (simp; omega)) _ | refine Below.setCell ?_ (by first | omega | (simp; done) | (simp; omega)) _ | refine below_step (by assumption) (by first | omega | (simp; done) | (simp; omega)) ?_)⟩)
        case rest =>
          obtain ⟨rfl, x3, x4, hbel1⟩ := hcut
          go_wp2
          go_loopw [3, 47] (fun n i wx => ∃ (j : Nat) (B2 : Bool), j ≤ (opr t.ops k).effs.length ∧ B2 = (B1 || anyB j fun j => decide ((64 : Int) < (eff (opr t.ops k).effs j).whn.length)) ∧ n = .bool B2 ∧ i = .int .i64 j ∧ Below w.heap.size w wx) (fun _ i _ => (opr t.ops k).effs.length - (intOf i).toNat)
          case atStart => exact ⟨0, B1, by omega, by rw [anyB_zero, Bool.or_false], rfl, rfl, by repeat (first | exact Below.refl _ _ | refine below_dN ?_ _ | refine Below.drew ?_ | refine Below.alloc ?_ (by first | omega | (simp; done) | (simp; omega)) _ | refine Below.setCell ?_ (by first | omega | (simp; done) | (simp; omega)) _ | refine below_step (by assumption) (by first | omega | (simp; done) | (simp; omega)) ?_)⟩
          case round =>
            obtain ⟨j, B2, hj, hB2, rfl, rfl, hbel2⟩ := hrel
            have HB2 := Lib.hid hB2
            clear hB2
            by_cases hlt2 : j < (opr t.ops k).effs.length
            · obtain ⟨b', o', S', c', ea', hb', i0, f5, i1, i2⟩ := e3.at2 hbel2 hlt2; have hbz2 := hbel2.size; have g3 : b' < wr.heap.size := (by omega); have j3 := f5.len
              cases B2 <;> cases e1 : decide ((64 : Int) < (eff (opr t.ops k).effs j).whn.length) <;>
                (go_wp2
                 go_roundw
                 case rel => exact ⟨j + 1, _, by omega, (by rw [anyB_succ, ← Bool.or_assoc, ← HB2.out, e1] <;> rfl), rfl, by go_num, by repeat (first | exact Below.refl _ _ | refine below_dN ?_ _ | refine Below.drew ?_ | refine Below.alloc ?_ (by first | omega | (simp; done) | (simp; omega)) _ | refine Below.setCell ?_ (by first | omega | (simp; done) | (simp; omega)) _ | refine below_step (by assumption) (by first | omega | (simp; done) | (simp; omega)) ?_)⟩
                 case measure => simp [intOf]; omega)
            · go_wp2
              go_roundw
              case rel => exact ⟨k + 1, _, by omega, (by rw [anyB_succ, ← Bool.or_assoc, ← HB.out, HB2.out, HB1.out, show j = (opr t.ops k).effs.length by omega]; unfold lgO; simp only [Bool.or_assoc]), rfl, by go_num, by repeat (first | exact Below.refl _ _ | refine below_dN ?_ _ | refine Below.drew ?_ | refine Below.alloc ?_ (by first | omega | (simp; done) | (simp; omega)) _ | refine Below.setCell ?_ (by first | omega | (simp; done) | (simp; omega)) _ | refine below_step (by assumption) (by first | omega | (simp; done) | (simp; omega)) ?_)⟩
              case measure => simp [intOf]; omega
      · go_wp2
        go_ret
        refine ⟨bool_ret ?_, by repeat (first | exact Below.refl _ _ | refine below_dN ?_ _ | refine Below.drew ?_ | refine Below.alloc ?_ (by first | omega | (simp; done) | (simp; omega)) _ | refine Below.setCell ?_ (by first | omega | (simp; done) | (simp; omega)) _ | refine below_step (by assumption) (by first | omega | (simp; done) | (simp; omega)) ?_)⟩
        rw [HB.out, HB0.out, show k = t.ops.length by omega]
        rfl

end Go.Proofs.YtkeelkpmajmjmaaDoor
