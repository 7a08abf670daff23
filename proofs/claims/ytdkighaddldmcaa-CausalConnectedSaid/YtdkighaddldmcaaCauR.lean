/- The reference's on, Arc, Arcs. -/
import Derived.Test.YtdkighaddldmcaaCauB
namespace Go.Proofs.Ytdkighaddldmcaa
set_option linter.unusedSimpArgs false
set_option linter.unusedVariables false
open Go.RowKit
set_option linter.unusedVariables false

set_option maxRecDepth 4000 in
set_option maxHeartbeats 1000000 in
theorem on_any (l : List (Int × Int)) (A : Option Addr) (c : Nat) (u : Int) (w : World) (h : FactsAt w w.heap.size A l) :
    Calls Try.prog 47 #[.slice A l.length c, .int .i64 u] w fun e w' => e = .returned (.bool (onB l u)) ∧ Below w.heap.size w w' := by
  have l1 := h.len
  go_enter Try.func47, Try.ntmps47
  go_wp2
  go_loopw [9] (fun i wr => ∃ k : Nat, k ≤ l.length ∧ i = .int .i64 k ∧ onN l u k = false ∧ Below w.heap.size w wr) (fun i _ => l.length - (intOf i).toNat)
  case atStart => exact ⟨0, by omega, rfl, rfl, Below.refl _ _⟩
  case round =>
    obtain ⟨k, hk, rfl, hB, hbel⟩ := hrel
    have HB := Lib.hid hB
    clear hB
    by_cases hlt : k < l.length
    · obtain ⟨b, o, ea, hb, hc⟩ := h.at_ hlt
      subst ea
      have d1 := (hbel.cell (p := ⟨b, o + k * 2, none⟩) hb).trans (hc k hlt).1
      have d2 := (hbel.cell (p := ⟨b, o + k * 2 + 1, none⟩) hb).trans (hc k hlt).2
      clear hc
      have hbz := hbel.size
      have g2 : b < wr.heap.size := by omega
      cases e1 : (fv l k == u)
      · go_wp2
        go_roundw
        case rel => exact ⟨k + 1, by omega, by go_num, (by unfold onN at *; rw [anyB_succ, HB.out, e1]; rfl), by repeat (first | exact Below.refl _ _ | refine below_dN ?_ _ | refine Below.drew ?_ | refine Below.alloc ?_ (by first | omega | (simp; done) | (simp; omega)) _ | refine Below.setCell ?_ (by first | omega | (simp; done) | (simp; omega)) _ | refine below_step (by assumption) (by first | omega | (simp; done) | (simp; omega)) ?_)⟩
        case measure => simp [intOf]; omega
      · have He := Lib.hid (show onB l u = true from anyB_true.2 ⟨k, hlt, e1⟩)
        go_wp2
        go_ret
        exact ⟨bool_ret He.out.symm, by repeat (first | exact Below.refl _ _ | refine below_dN ?_ _ | refine Below.drew ?_ | refine Below.alloc ?_ (by first | omega | (simp; done) | (simp; omega)) _ | refine Below.setCell ?_ (by first | omega | (simp; done) | (simp; omega)) _ | refine below_step (by assumption) (by first | omega | (simp; done) | (simp; omega)) ?_)⟩
    · obtain rfl : k = l.length := by omega
      have He := Lib.hid (show onB l u = false from HB.out)
      go_wp2
      go_ret
      exact ⟨bool_ret He.out.symm, hbel⟩

/-- Where the loop over the effects stands. -/
def maN (o : Opr) (u v : Int) (k : Nat) : Bool := onB o.pre u || anyB k fun i => maE (eff o.effs i) u v

set_option maxRecDepth 100000 in
set_option maxHeartbeats 8000000 in
theorem rarc_any (t : Tsk) (p : Lies) (u v : Nat) (w : World) (ht : TaskAt w w.heap.size t p) :
    Calls Try.prog 32 #[TaskV t p, .int .i64 (u : Int), .int .i64 (v : Int)] w fun e w' => e = .returned (.bool (arB t u v)) ∧ Below w.heap.size w w' := by
  obtain ⟨av, ai, ag, ao, cv, ci, cg, co⟩ := p
  unfold TaskV
  dsimp only
  have l4 := ht.ops.len
  by_cases huv : u = v
  · have Hr := Lib.hid (show arB t u v = false by unfold arB; simp [huv])
    have e1 : ((u : Int) == (v : Int)) = true := by rw [beq_cast]; simpa using huv
    clear huv
    go_enter Try.func32, Try.ntmps32
    go_wp2
    go_ret
    exact ⟨bool_ret Hr.out.symm, by repeat (first | exact Below.refl _ _ | refine below_dN ?_ _ | refine Below.drew ?_ | refine Below.alloc ?_ (by first | omega | (simp; done) | (simp; omega)) _ | refine Below.setCell ?_ (by first | omega | (simp; done) | (simp; omega)) _ | refine below_step (by assumption) (by first | omega | (simp; done) | (simp; omega)) ?_)⟩
  have HA := Lib.hid (show arB t u v = dtN t v u t.ops.length by unfold arB; rw [show decide (u ≠ v) = true by simpa using huv]; rfl)
  have e1 : ((u : Int) == (v : Int)) = false := by rw [beq_cast]; simpa using huv
  clear huv
  go_enter Try.func32, Try.ntmps32
  go_wp2
  go_loopw [19] (fun i wr => ∃ (k : Nat), k ≤ t.ops.length ∧ i = .int .i64 k ∧ dtN t v u k = false ∧ Below w.heap.size w wr) (fun i _ => t.ops.length - (intOf i).toNat)
  case atStart => exact ⟨0, by omega, rfl, rfl, by repeat (first | exact Below.refl _ _ | refine below_dN ?_ _ | refine Below.drew ?_ | refine Below.alloc ?_ (by first | omega | (simp; done) | (simp; omega)) _ | refine Below.setCell ?_ (by first | omega | (simp; done) | (simp; omega)) _ | refine below_step (by assumption) (by first | omega | (simp; done) | (simp; omega)) ?_)⟩
  case round =>
    obtain ⟨k, hk, rfl, hB, hbel⟩ := hrel
    have HB := Lib.hid hB
    clear hB
    obtain ⟨wt, rfl⟩ : ∃ wt : World, wt = wr := ⟨_, rfl⟩
    by_cases hlt : k < t.ops.length
    · obtain ⟨b, o, S, c, T, d, ea, hb, d0, q0, d1, d2, f2, d3, e3⟩ := ht.ops.at2 hbel hlt
      dsimp only at ea
      subst ea
      have hbz := hbel.size
      have g2 : b < wt.heap.size := by omega
      have j1 := f2.len
      have j2 := e3.len
      have k1 := fun w1 (hb : Below w.heap.size w w1) => on_any (opr t.ops k).pre S c u w1 (f2.keep (fun _ hp => hb.cell hp) hb.size)
      go_wp2_with fail; refine (k1 _ (by repeat (first | exact Below.refl _ _ | refine below_dN ?_ _ | refine Below.drew ?_ | refine Below.alloc ?_ (by first | omega | (simp; done) | (simp; omega)) _ | refine Below.setCell ?_ (by first | omega | (simp; done) | (simp; omega)) _ | refine below_step (by assumption) (by first | omega | (simp; done) | (simp; omega)) ?_))).mono ?_; rintro e w1 ⟨rfl, hb1⟩; obtain ⟨hc1, hf1, hz1, hlt1, hle1⟩ := cellsIf hb1 (by (try simp); exact rfl)
      have hbx1 : Below wt.heap.size wt w1 := by repeat (first | exact Below.refl _ _ | refine below_dN ?_ _ | refine Below.drew ?_ | refine Below.alloc ?_ (by first | omega | (simp; done) | (simp; omega)) _ | refine Below.setCell ?_ (by first | omega | (simp; done) | (simp; omega)) _ | refine below_step (by assumption) (by first | omega | (simp; done) | (simp; omega)) ?_)
      have hbw1 := hbel.trans (hbx1.mono hbz)
      have x3 : w1.cell? ⟨wt.heap.size, 3, none⟩ = some (.slice T (opr t.ops k).effs.length d) := (hb1.cell (p := ⟨wt.heap.size, 3, none⟩) (by first | (simp; done) | (simp; omega))).trans (by simp)
      have hz' := hb1.size
      have g5 : wt.heap.size < w1.heap.size := by simp at hz'; omega
      clear hc1 hf1 hlt1 hle1 hz1 hz'
      go_wp2
      go_loopw [9, 10, 30] (fun s m i wr => ∃ (j : Nat), j ≤ (opr t.ops k).effs.length ∧ i = .int .i64 j ∧ s = .bool (seN (opr t.ops k) v j) ∧ m = .bool (maN (opr t.ops k) u v j) ∧ Below w1.heap.size w1 wr) (fun _ _ i _ => (opr t.ops k).effs.length - (intOf i).toNat)
      case atStart => exact ⟨0, by omega, rfl, rfl, by unfold maN; rw [anyB_zero, Bool.or_false], Below.refl _ _⟩
      case round =>
        obtain ⟨j, hj, rfl, rfl, rfl, hbx⟩ := hrel
        have hbxw := hbw1.trans (hbx.mono hbw1.size)
        have hbxz := hbx.size
        by_cases hlt2 : j < (opr t.ops k).effs.length
        · obtain ⟨b', o', S', c', ea', hb', i0, f5, i1, i2⟩ := e3.at2 hbxw hlt2
          subst ea'
          have bz := hbxw.size
          have g3 : b' < wr.heap.size := by omega
          have j3 := f5.len
          have k2 := fun w1 (hb : Below w.heap.size w w1) => on_any (eff (opr t.ops k).effs j).whn S' c' u w1 (f5.keep (fun _ hp => hb.cell hp) hb.size)
          have HS := Lib.hid (show seN (opr t.ops k) v (j + 1) = (seN (opr t.ops k) v j || (eff (opr t.ops k).effs j).var == v) from anyB_succ _ _)
          have HM := Lib.hid (show maN (opr t.ops k) u v (j + 1) = (maN (opr t.ops k) u v j || ((eff (opr t.ops k).effs j).var == u || ((eff (opr t.ops k).effs j).var == v && onB (eff (opr t.ops k).effs j).whn u))) by unfold maN; rw [anyB_succ, Bool.or_assoc]; rfl)
          cases s1 : seN (opr t.ops k) v j <;> cases s2 : maN (opr t.ops k) u v j <;> cases s3 : ((eff (opr t.ops k).effs j).var == (u : Int)) <;> cases s4 : ((eff (opr t.ops k).effs j).var == (v : Int))
          all_goals rw [s1, s4] at HS
          all_goals rw [s2, s3, s4] at HM
          all_goals first
            | (go_wp2
               go_roundw
               case rel => exact ⟨j + 1, by omega, by go_num, by rw [HS.out]; rfl, by rw [HM.out]; rfl, hbx.alloc hbxz _⟩
               case measure => simp [intOf]; omega)
            | (cases s5 : onB (eff (opr t.ops k).effs j).whn u <;>
               (rw [s5] at HM k2
                go_wp2_with fail; refine (k2 _ (by repeat (first | exact Below.refl _ _ | refine below_dN ?_ _ | refine Below.drew ?_ | refine Below.alloc ?_ (by first | omega | (simp; done) | (simp; omega)) _ | refine Below.setCell ?_ (by first | omega | (simp; done) | (simp; omega)) _ | refine below_step (by assumption) (by first | omega | (simp; done) | (simp; omega)) ?_))).mono ?_; rintro e w2 ⟨rfl, hb2⟩; obtain ⟨hc2, hf2, hz2, hlt2, hle2⟩ := cellsIf hb2 (by (try simp); exact rfl)
                have hb2w : Below wr.heap.size wr w2 := by repeat (first | exact Below.refl _ _ | refine below_dN ?_ _ | refine Below.drew ?_ | refine Below.alloc ?_ (by first | omega | (simp; done) | (simp; omega)) _ | refine Below.setCell ?_ (by first | omega | (simp; done) | (simp; omega)) _ | refine below_step (by assumption) (by first | omega | (simp; done) | (simp; omega)) ?_)
                have hbw2 := hbx.trans (hb2w.mono hbxz)
                clear hc2 hf2 hlt2 hle2
                go_wp2
                go_roundw
                case rel => exact ⟨j + 1, by omega, by go_num, by rw [HS.out]; rfl, by rw [HM.out]; rfl, hbw2⟩
                case measure => simp [intOf]; omega))
        · obtain rfl : j = (opr t.ops k).effs.length := by omega
          have HO := Lib.hid (show dpO (opr t.ops k) v u = (seN (opr t.ops k) v (opr t.ops k).effs.length && maN (opr t.ops k) u v (opr t.ops k).effs.length) from (raO_eq _ _ _).symm)
          have HD := Lib.hid (show dtN t v u (k + 1) = (dtN t v u k || dpO (opr t.ops k) v u) from anyB_succ _ _)
          cases s1 : seN (opr t.ops k) v (opr t.ops k).effs.length <;> cases s2 : maN (opr t.ops k) u v (opr t.ops k).effs.length
          all_goals rw [s1, s2] at HO
          all_goals first
            | (go_wp2
               go_roundw
               case rel => exact ⟨k + 1, by omega, by go_num, by rw [HD.out, HB.out, HO.out]; rfl, hbxw⟩
               case measure => simp [intOf]; omega)
            | (have Hr := Lib.hid (show arB t u v = true by rw [HA.out]; exact anyB_true.2 ⟨k, hlt, HO.out⟩)
               go_wp2
               go_ret
               exact ⟨bool_ret Hr.out.symm, hbxw⟩)
    · obtain rfl : k = t.ops.length := by omega
      have Hr := Lib.hid (show arB t u v = false by rw [HA.out, HB.out])
      go_wp2
      go_ret
      exact ⟨bool_ret Hr.out.symm, hbel⟩

set_option maxRecDepth 100000 in
set_option maxHeartbeats 8000000 in
theorem rarcs_any (t : Tsk) (p : Lies) (w : World) (ht : TaskAt w w.heap.size t p) (n64 : t.vars.length ≤ 64) :
    Calls Try.prog 30 #[TaskV t p] w fun e w' => (∃ v, e = .returned v ∧ GotArcs w' v (arcs t)) ∧ Below w.heap.size w w' := by
  have k1 := fun w1 u v (hb : Below w.heap.size w w1) => rarc_any t p u v w1 (ht.up hb)
  obtain ⟨av, ai, ag, ao, cv, ci, cg, co⟩ := p
  unfold TaskV at *
  dsimp only at *
  obtain ⟨inf, hi, iz0, iz1, iz2⟩ := info_parts infoA
  go_enter Try.func30, Try.ntmps30
  go_wp2
  go_loopw [3, 9] (fun v i wr => ∃ (k : Nat), k ≤ t.vars.length ∧ i = .int .i64 k ∧ wr.ownsRow (w.heap.size + 1) 68 3 v (arL t k).length (ac (arL t k)) ∧ Boxed wr w.heap.size t ⟨av, ai, ag, ao, cv, ci, cg, co⟩ ∧ Below w.heap.size w wr) (fun _ i _ => t.vars.length - (intOf i).toNat)
  case atStart => exact ⟨0, by omega, rfl, World.ownsRow_nil _ _ _ _, by constructor <;> simp, by repeat (first | exact Below.refl _ _ | refine below_dN ?_ _ | refine Below.drew ?_ | refine Below.alloc ?_ (by first | omega | (simp; done) | (simp; omega)) _ | refine Below.setCell ?_ (by first | omega | (simp; done) | (simp; omega)) _ | refine below_step (by assumption) (by first | omega | (simp; done) | (simp; omega)) ?_)⟩
  case round =>
    obtain ⟨u, hu, rfl, hown, hbox, hbel⟩ := hrel
    obtain ⟨wt, rfl⟩ : ∃ wt : World, wt = wr := ⟨_, rfl⟩
    obtain ⟨z0, y0, y1, y2, y3⟩ := id hbox
    dsimp only at y0 y1 y2 y3
    by_cases hlt : u < t.vars.length
    · go_wp2
      clear z0 y0 y1 y2 y3
      go_loopw [3, 15] (fun v i wr => ∃ (j : Nat), j ≤ t.vars.length ∧ i = .int .i64 j ∧ wr.ownsRow (w.heap.size + 1) 68 3 v (arK t u j).length (ac (arK t u j)) ∧ Boxed wr w.heap.size t ⟨av, ai, ag, ao, cv, ci, cg, co⟩ ∧ Below w.heap.size w wr) (fun _ i _ => t.vars.length - (intOf i).toNat)
      case atStart => exact ⟨0, by omega, rfl, by rw [arK_zero]; exact hown, hbox, hbel⟩
      case round =>
        clear hbox hbel hown
        obtain ⟨j, hj, rfl, hown2, hbox, hbel⟩ := hrel
        obtain ⟨z0, y0, y1, y2, y3⟩ := id hbox
        dsimp only at y0 y1 y2 y3
        have hbxz := hbel.size
        by_cases hltj : j < t.vars.length
        · have hlen := arK_len (t := t) n64 (show u ≤ 64 by omega) (show j ≤ 64 by omega)
          have k2 := fun w1 => k1 w1 u j
          cases e1 : arB t u j
          · rw [e1] at k2
            have HP := Lib.hid (arK_no e1)
            go_wp2_with fail; refine (k2 _ (by repeat (first | exact Below.refl _ _ | refine below_dN ?_ _ | refine Below.drew ?_ | refine Below.alloc ?_ (by first | omega | (simp; done) | (simp; omega)) _ | refine Below.setCell ?_ (by first | omega | (simp; done) | (simp; omega)) _ | refine below_step (by assumption) (by first | omega | (simp; done) | (simp; omega)) ?_))).mono ?_; rintro e w2 ⟨rfl, hb2⟩; obtain ⟨hc2, hf2, hz2, hlt2, hle2⟩ := cellsIf hb2 (by (try simp); exact rfl)
            have hb2w : Below wr.heap.size wr w2 := by repeat (first | exact Below.refl _ _ | refine below_dN ?_ _ | refine Below.drew ?_ | refine Below.alloc ?_ (by first | omega | (simp; done) | (simp; omega)) _ | refine Below.setCell ?_ (by first | omega | (simp; done) | (simp; omega)) _ | refine below_step (by assumption) (by first | omega | (simp; done) | (simp; omega)) ?_)
            have hown3 := own_below hown2 hb2w
            have hbw2 := hbel.trans (hb2w.mono hbxz)
            have hbox2 := hbox.up hb2w
            clear hc2 hf2 hlt2 hle2
            go_wp2
            go_roundw
            case rel => exact ⟨j + 1, by omega, by go_num, by rw [HP.out]; exact hown3, hbox2, hbw2⟩
            case measure => simp [intOf]; omega
          · rw [e1] at k2
            have HP := Lib.hid (arK_yes e1)
            go_wp2_with fail; refine (k2 _ (by repeat (first | exact Below.refl _ _ | refine below_dN ?_ _ | refine Below.drew ?_ | refine Below.alloc ?_ (by first | omega | (simp; done) | (simp; omega)) _ | refine Below.setCell ?_ (by first | omega | (simp; done) | (simp; omega)) _ | refine below_step (by assumption) (by first | omega | (simp; done) | (simp; omega)) ?_))).mono ?_; rintro e w2 ⟨rfl, hb2⟩; obtain ⟨hc2, hf2, hz2, hlt2, hle2⟩ := cellsIf hb2 (by (try simp); exact rfl)
            have hb2w : Below wr.heap.size wr w2 := by repeat (first | exact Below.refl _ _ | refine below_dN ?_ _ | refine Below.drew ?_ | refine Below.alloc ?_ (by first | omega | (simp; done) | (simp; omega)) _ | refine Below.setCell ?_ (by first | omega | (simp; done) | (simp; omega)) _ | refine below_step (by assumption) (by first | omega | (simp; done) | (simp; omega)) ?_)
            have hown3 := own_below hown2 hb2w
            have hbw2 := hbel.trans (hb2w.mono hbxz)
            have hbox2 := hbox.up hb2w
            have hz2' := hbw2.size
            clear hc2 hf2 hlt2 hle2
            go_wp2_with (at_builtin; refine wpList_push rfl _ _ 62 rfl (w.heap.size + 1) 68 inf (.agg #[.int .i64 0, .int .i64 0, .int .i64 0]) 3 24 undA hi iz0 iz1 iz2 rfl (by decide) (by decide) u3 (arK t u j).length (ac (arK t u j)) rfl (hown3.alloc _) w2.heap.size 68 [.int .i64 (u : Int), .int .i64 (j : Int), .int .i64 1] rfl rfl (heap_alloc_new _ _) (three_one rfl rfl rfl) (by omega) (by first | omega | (simp; omega)) (B := w.heap.size + 1) (W := w2) ((Below.refl _ _).alloc (by have := hbox2.lt; omega) _) (by omega) ?_; intro v' w8 hown' hgrow hat hbw8; have Hown := Lib.hid hown'; have Hb8 := Lib.hid hbw8; clear hown' hgrow hat hbw8)
            go_roundw
            case rel => exact ⟨j + 1, by omega, by go_num, by rw [HP.out, List.length_append, ac_app]; exact Hown.out, ⟨Nat.lt_of_lt_of_le hbox2.lt Hb8.out.size, (Hb8.out.cell (p := ⟨w.heap.size, 0, none⟩) (Nat.lt_succ_self _)).trans hbox2.c0, (Hb8.out.cell (p := ⟨w.heap.size, 1, none⟩) (Nat.lt_succ_self _)).trans hbox2.c1, (Hb8.out.cell (p := ⟨w.heap.size, 2, none⟩) (Nat.lt_succ_self _)).trans hbox2.c2, (Hb8.out.cell (p := ⟨w.heap.size, 3, none⟩) (Nat.lt_succ_self _)).trans hbox2.c3⟩, hbw2.trans (Hb8.out.mono (by omega))⟩
            case measure => simp [intOf]; omega
        · obtain rfl : j = t.vars.length := by omega
          go_wp2
          go_roundw
          case rel => exact ⟨u + 1, by omega, by go_num, by rw [← arK_end]; exact hown2, hbox, hbel⟩
          case measure => simp [intOf]; omega
    · obtain rfl : u = t.vars.length := by omega
      have hg := gotArcs_own hown
      have Hg := Lib.hid (show GotArcs wt u3 (arcs t) from hg)
      clear hg hown
      go_wp2
      go_ret
      exact ⟨⟨_, rfl, Hg.out⟩, hbel⟩

end Go.Proofs.Ytdkighaddldmcaa
