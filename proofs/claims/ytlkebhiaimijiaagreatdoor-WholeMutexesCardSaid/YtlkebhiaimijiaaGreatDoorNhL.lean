/- Texts laid together: DisW, BestW. -/
import Derived.Test.YtlkebhiaimijiaaGreatDoorBel
import Derived.Test.YtlkebhiaimijiaaGreatDoorNgE
import Derived.Test.YtlkebhiaimijiaaGreatDoorNgJ
import Derived.Test.YtlkebhiaimijiaaGreatDoorKp
import Derived.Deep.LoopGhost
import Derived.Test.YtlkebhiaimijiaaGreatDoorNgD
namespace Go.Proofs.YtlkebhiaimijiaaGreatDoor
set_option linter.unusedSimpArgs false
set_option linter.unusedVariables false
section
open Go Go.RowKit
set_option linter.unusedVariables false

theorem infoI7 : (Tryz.prog.info? 3).map (fun i => (i.zero, i.size, i.bytes)) = some (some (.int .i64 0), 1, 8) := by kernel_rfl
theorem undI7 : Tryz.prog.underlying 22 = some (.slice 3) := by kernel_rfl
theorem row_setD {w : World} {g n : Nat} {D : Nat → Int} (h : w.rowIs g 3 n fun v => .int .i64 (D v)) (j : Nat) (x : Int) : (w.setCell ⟨g, j, none⟩ (.int .i64 x)).rowIs g 3 n fun v => .int .i64 (setD D j x v) :=
 (h.set j _).congr fun v _ => by unfold setD; by_cases e : v = j <;> simp [e]
theorem Kp.drewN {lo hi : Nat} {w w' : World} (h : Kp lo hi w w') (k : Nat) : Kp lo hi w (w'.drewN k) := h.up (below_dN (Below.refl _ _) k)
/-- What comes back: a table of least costs. -/
def DisRet (t : Tsk) (w : World) (e : Ending) (w' : World) : Prop :=
 ∃ (g : Nat) (D : Nat → Int), e = .returned (.slice (some ⟨g, 0, none⟩) (sts t.vars).length (sts t.vars).length) ∧ w'.rowIs g 3 (sts t.vars).length (fun v => .int .i64 (D v)) ∧ ∀ s, stB t.vars s = true → IsBest t s (D (num t s))

set_option maxRecDepth 100000 in
set_option maxHeartbeats 16000000 in
theorem bdist_any (t : Tsk) (p : Lies) (w : World) (ht : TaskAt w w.heap.size t p) (hs : Smll t) :
  Calls Tryz.prog 30 #[TaskV t p, .slice none 0 0] w fun e w' => DisRet t w e w' ∧ Below w.heap.size w w' := by
 have k1 := fun w1 (hb : Below w.heap.size w w1) => bstates_any t.vars p.av p.cv w1 (ht.vars.up hb) hs.right.dom (by have := hs.many; omega) hs.right.nv
 have k2 := fun w1 (hb : Below w.heap.size w w1) => bedges_any t p w1 (ht.up hb) hs
 have k3 := fun w1 (s : List Int) (A : Option Addr) (c : Nat) (hb : Below w.heap.size w w1) (h : IntsAt w1 w1.heap.size A s) => bholds_any t.goal s p.ag A p.cg c w1 (ht.goal.up hb) h
 have hN := sts_len hs.right
 have hN2 := hs.many
 have HS := Lib.hid hs
 have K1 := Lib.hid k1
 have K2 := Lib.hid k2
 have K3 := Lib.hid k3
 clear hs k1 k2 k3
 obtain ⟨av, ai, ag, ao, cv, ci, cg, co⟩ := p
 unfold TaskV at *
 dsimp only at *
 have hN3 : (sts t.vars).length ≤ 512 := by omega
 clear hN hN2
 have hmk := run_make_row' (P := Tryz.prog) 22 3 (.int .i64 0) 8 undI7 infoI7 rfl .i64 .i64 (sts t.vars).length (by omega) (by omega)
 have Hst := Lib.hid (dst_start (t := t))
 have Heg := Lib.hid (fun (e : Nat × Nat × Nat) (he : e ∈ edges t) => egd_facts HS.out.right he)
 have hel : (edges t).length ≤ 20000 := by have := egK_len (t := t) (j := 0) hN3 (Nat.zero_le _) HS.out.no; unfold egK at this; rw [egO_zero, List.append_nil] at this; exact this
 obtain ⟨N, hNN⟩ : ∃ N, N = (sts t.vars).length := ⟨_, rfl⟩
 rw [← hNN] at hmk hN3
 have HN := Lib.hid hNN
 go_enter Tryz.func30, Tryz.ntmps30
 go_wp2_with fail
 refine (K1.out _ (by exact bel)).mono ?_
 rintro e w2 ⟨⟨v2, rfl, A, c, rfl, hrows⟩, hb2⟩
 have hbx2 : Boxed w2 w.heap.size t ⟨av, ai, ag, ao, cv, ci, cg, co⟩ := Boxed.up (by constructor <;> simp) hb2
 have hbw2 : Below w.heap.size w w2 := ((Below.refl _ _).alloc (Nat.le_refl _) _).trans (hb2.mono (by simp))
 have Hrows := Lib.hid hrows
 have z2 := hbw2.size
 rw [← hNN]
 clear hrows hb2 hNN
 obtain ⟨z0, y0, y1, y2, y3⟩ := id hbx2
 dsimp only at y0 y1 y2 y3
 go_wp2
 clear hmk
 go_loopw [22] (fun i wr => ∃ (k : Nat), k ≤ N ∧ i = .int .i64 k ∧ wr.rowIs w2.heap.size 3 N (fun v => .int .i64 (dsN t k v)) ∧ Below w2.heap.size w2 wr) (fun i _ => N - (intOf i).toNat)
 case atStart => exact ⟨0, by omega, rfl, (World.rowIs_made w2 (.int .i64 0) N 3).congr fun v _ => by unfold dsN; simp, (Below.refl _ _).alloc (Nat.le_refl _) _⟩
 case round =>
  clear z0 y0 y1 y2 y3
  obtain ⟨k, hk, rfl, hrow, hbel⟩ := hrel
  obtain ⟨wt, rfl⟩ : ∃ wt : World, wt = wr := ⟨_, rfl⟩
  obtain ⟨z0, y0, y1, y2, y3⟩ := id (hbx2.up hbel)
  dsimp only at y0 y1 y2 y3
  have hbz := hbel.size
  have hrl := hrow.lt
  by_cases hlt : k < N
  ·obtain ⟨b1, eA, hb1, hc1⟩ := Hrows.out (by have := HN.out; omega)
   subst eA
   obtain ⟨S, cS, f1, f2, f3⟩ := hc1 k (by have := HN.out; omega)
   have d1 := (hbel.cell (p := ⟨b1, k, none⟩) hb1).trans f1
   have g1 : b1 < wt.heap.size := by omega
   have k0 : (0 : Int) ≤ (k : Int) := by omega
   have k1 : (k : Int) < (N : Int) := by omega
   obtain ⟨s, hs⟩ : ∃ s, s = row (sts t.vars) k := ⟨_, rfl⟩
   rw [← hs] at d1 f3
   have m2 := hrow.cell hlt
   have m3 := hrow.frozen k
   have Hrow2 := Lib.hid (row_setD hrow k INF)
   have hbel2 : Below w2.heap.size w2 (wt.setCell ⟨w2.heap.size, k, none⟩ (.int .i64 INF)) := hbel.setCell (Nat.le_refl _) _
   have hbx3 : Boxed (wt.setCell ⟨w2.heap.size, k, none⟩ (.int .i64 INF)) w.heap.size t ⟨av, ai, ag, ao, cv, ci, cg, co⟩ := hbx2.up hbel2
   have k3 := fun wx (hb : Below w2.heap.size w2 wx) => K3.out wx s S cS (hbw2.trans (hb.mono z2)) (f3.up hb)
   have Hd := Lib.hid (show hoB t.goal s = true → ∀ v, setD (dsN t k) k 0 v = dsN t (k + 1) v from fun h v => by
    unfold setD dsN
    by_cases e : v = k
    ·subst e; rw [if_pos rfl, if_pos (Nat.lt_succ_self _), ← hs, if_pos h]
    ·rw [if_neg e]; by_cases e2 : v < k
     ·rw [if_pos e2, if_pos (show v < k + 1 by omega)]
     ·rw [if_neg e2, if_neg (by omega)])
   have Hd2 := Lib.hid (show hoB t.goal s = false → ∀ v, setD (dsN t k) k INF v = dsN t (k + 1) v from fun h v => by
    unfold setD dsN
    by_cases e : v = k
    ·subst e; rw [if_pos rfl, if_pos (Nat.lt_succ_self _), ← hs, if_neg (by rw [h]; decide)]
    ·rw [if_neg e]; by_cases e2 : v < k
     ·rw [if_pos e2, if_pos (show v < k + 1 by omega)]
     ·rw [if_neg e2, if_neg (by omega)])
   clear hc1 f1 f3 hs hrow
   have K3' := Lib.hid k3
   clear k3 z0 y0 y1 y2 y3
   obtain ⟨z0, y0, y1, y2, y3⟩ := id hbx3
   dsimp only at y0 y1 y2 y3
   unfold INF at hbel2 y0 y1 y2 y3 hbx3
   have Hrow3 := Lib.hid (show (wt.setCell ⟨w2.heap.size, k, none⟩ (.int .i64 1125899906842624)).rowIs w2.heap.size 3 N fun v => .int .i64 (setD (dsN t k) k INF v) from Hrow2.out)
   clear Hrow2
   have hsz : (wt.setCell ⟨w2.heap.size, k, none⟩ (.int .i64 1125899906842624)).heap.size = wt.heap.size := by simp [World.setCell]
   cases e1 : hoB t.goal s
   ·rw [e1] at K3'
    have Hdd := Lib.hid (Hd2.out e1)
    go_wp2_with fail
    refine (K3'.out _ hbel2).mono ?_
    rintro e w4 ⟨rfl, hb4⟩
    have hbw4 := hbel2.trans (hb4.mono (by rw [hsz]; exact hbz))
    have Hr4 := Lib.hid ((row_up Hrow3.out hb4).congr (g := fun v => .int .i64 (dsN t (k + 1) v)) fun v _ => by rw [Hdd.out])
    clear z0 y0 y1 y2 y3 hb4
    go_wp2
    go_roundw
    case rel => exact ⟨k + 1, by omega, by go_num, Hr4.out, hbw4⟩
    case measure => simp [intOf]; omega
   ·rw [e1] at K3'
    have Hdd := Lib.hid (Hd.out e1)
    go_wp2_with fail
    refine (K3'.out _ hbel2).mono ?_
    rintro e w4 ⟨rfl, hb4⟩
    have hbw4 := hbel2.trans (hb4.mono (by rw [hsz]; exact hbz))
    have hr4 := row_up Hrow3.out hb4
    have n2 := hr4.cell hlt
    have n3 := hr4.frozen k
    have n4 := hr4.lt
    have Hr4 := Lib.hid ((row_setD hr4 k 0).congr (g := fun v => .int .i64 (dsN t (k + 1) v)) fun v _ => by
     rw [← Hdd.out]
     unfold setD
     split <;> rfl)
    clear z0 y0 y1 y2 y3 hb4 hr4
    go_wp2
    go_roundw
    case rel => exact ⟨k + 1, by omega, by go_num, Hr4.out, hbw4.setCell (Nat.le_refl _) _⟩
    case measure => simp [intOf]; omega
  ·obtain rfl : k = N := by omega
   have Hrow := Lib.hid hrow
   have hbwt := hbw2.trans (hbel.mono z2)
   have HWT := Lib.hid (show w2.heap.size + 1 ≤ wt.heap.size from hrl)
   clear hrow hrl
   go_wp2_with fail
   refine (K2.out _ hbwt).mono ?_
   rintro e w4 ⟨⟨v4, rfl, ⟨Ae, ce, rfl, hE⟩, hfr⟩, hb4⟩
   have Hfr := Lib.hid hfr
   clear hfr
   have hbw4 := hbwt.trans (hb4.mono hbwt.size)
   have hrow4 := row_up Hrow.out hb4
   have hbx4 := (hbx2.up hbel).up hb4
   have hgl : w2.heap.size < w4.heap.size := hrow4.lt
   have HE := Lib.hid hE
   have Hdst : Hid (Dst t (dsN t k)) := by rw [HN.out]; exact Hst
   obtain ⟨D0, hD0⟩ : ∃ D0, D0 = dsN t k := ⟨_, rfl⟩
   rw [← hD0] at hrow4 Hdst
   clear z0 y0 y1 y2 y3 hbel hbz Hrow hb4 hE hD0 Hst hlt hk
   obtain ⟨L, hL⟩ : ∃ L, L = edges t := ⟨_, rfl⟩
   rw [← hL] at HE Heg hel
   rw [← hL]
   have HL := Lib.hid hL
   clear hL
   go_wp2
   go_loopg [10] (2 * sumF D0 k + 1) (fun gg c wr => ∃ (D : Nat → Int) (ch : Bool), gg = 2 * sumF D k + flN ch ∧ c = .bool ch ∧ wr.rowIs w2.heap.size 3 k (fun v => .int .i64 (D v)) ∧ Hid (Dst t D) ∧ Hid (ch = false → ∀ i, i < L.length → EdC t D (egd L i)) ∧ Kp w2.heap.size (w2.heap.size + 1) w4 wr)
   case atStart => exact ⟨D0, true, rfl, rfl, hrow4, Hdst, Lib.hid (fun h => by cases h), Kp.refl _ _ _⟩
   case round =>
    clear hrow4 Hdst
    obtain ⟨D, ch, hgk, rfl, hrow, hdst, hcl, hkp⟩ := hrel
    have Hgk := Lib.hid hgk
    clear hgk
    have kz := hkp.size
    cases ch
    ·have Hb := Lib.hid (fun s hs => dst_best HS.out.right hdst.out (fun e he => by
      rw [← HL.out] at he
      obtain ⟨i, hi, rfl⟩ := mem_egd he
      exact hcl.out rfl i hi) (s := s) hs)
     have Hr := Lib.hid hrow
     have hbl := hbw4.trans (hkp.below (B := w.heap.size) (by omega) (by omega) |>.mono (Nat.le_refl _))
     clear hrow hkp
     go_wp2
     go_ret
     exact ⟨⟨w2.heap.size, D, by rw [HN.out]; rfl, by rw [← HN.out]; exact Hr.out, Hb.out⟩, hbl⟩
    ·obtain ⟨w5, rfl⟩ : ∃ w5 : World, w5 = wr := ⟨_, rfl⟩
     go_wp2
     go_loopw [10, 43] (fun c i wr => ∃ (j : Nat) (D' : Nat → Int) (ch : Bool), j ≤ L.length ∧ i = .int .i64 j ∧ c = .bool ch ∧ wr.rowIs w2.heap.size 3 k (fun v => .int .i64 (D' v)) ∧ Hid (Dst t D') ∧ Hid (ch = false → ∀ i, i < j → EdC t D' (egd L i)) ∧ Hid (sumF D' k ≤ sumF D k) ∧ Hid (ch = true → sumF D' k < sumF D k) ∧ Kp w2.heap.size (w2.heap.size + 1) w4 wr) (fun _ i _ => L.length - (intOf i).toNat)
     case atStart => exact ⟨0, D, false, by omega, rfl, rfl, hrow, hdst, Lib.hid (fun _ i hi => absurd hi (by omega)), Lib.hid (Nat.le_refl _), Lib.hid (fun h => by cases h), hkp⟩
     case round =>
      clear hrow hdst hkp kz hcl
      obtain ⟨j, D', ch, hj, rfl, rfl, hrow, hdst, hcl, hcn, hcs, hkp⟩ := hrel
      have kz := hkp.size
      by_cases hlt : j < L.length
      ·obtain ⟨b1, eA, hb1, hc1⟩ := HE.out (by omega)
       subst eA
       have hee := Heg.out (egd L j) (egd_mem hlt)
       have HM := Lib.hid (egd_mem hlt)
       have hne1 : w2.heap.size + 1 ≤ b1 := Nat.le_trans HWT.out (Hfr.out b1 rfl)
       have d1 := (hkp.cell (p := ⟨b1, j * 3, none⟩) hb1 (.inr hne1)).trans (hc1 j hlt).1
       have d2 := (hkp.cell (p := ⟨b1, j * 3 + 1, none⟩) hb1 (.inr hne1)).trans (hc1 j hlt).2.1
       have d3 := (hkp.cell (p := ⟨b1, j * 3 + 2, none⟩) hb1 (.inr hne1)).trans (hc1 j hlt).2.2
       obtain ⟨⟨ef, eo, et⟩, hjj⟩ : ∃ x, egd L j = x := ⟨_, rfl⟩
       rw [hjj] at d1 d2 d3 hee HM
       dsimp only at d1 d2 d3 hee
       obtain ⟨hfr, hop, hto, hpre, hrt⟩ := hee
       rw [← HN.out] at hfr hto
       have Hjj := Lib.hid hjj
       have r1 := hrow.cell hto
       have r2 := hrow.cell hfr
       have r3 := hrow.frozen ef
       have hrl := hrow.lt
       have g1 : b1 < wr.heap.size := by omega
       have hbel : Below w.heap.size w wr := hbw4.trans (hkp.below (by omega) (by omega))
       obtain ⟨z0, y0, y1, y2, y3⟩ := id (hbx4.low (hkp.below (B := w2.heap.size) (Nat.le_refl _) (by omega)) hbx2.lt)
       dsimp only at y0 y1 y2 y3
       obtain ⟨b, o, S, cs, T, d, ea, hb, n0, n1, n2, n3, f2, n4, e3⟩ := ht.ops.at2 hbel hop
       dsimp only at ea
       subst ea
       have g2 : b < wr.heap.size := by have := hbel.size; omega
       have j1 := f2.len
       have j2 := e3.len
       have hcost := HS.out.right.cost eo hop
       have rg := hdst.out.rng et (by rw [← HN.out]; exact hto)
       have rg2 := hdst.out.rng ef (by rw [← HN.out]; exact hfr)
       have Hmk := Lib.hid (fun h1 h2 => dst_mark HS.out.right hdst.out (e := (ef, eo, et)) (by rw [← HL.out]; exact HM.out) h1 h2)
       have Hed := Lib.hid (show (D' et < INF → D' ef ≤ D' et + (opr t.ops eo).cost) → EdC t D' (egd L j) from fun h => by rw [Hjj.out]; exact h)
       have Hss := Lib.hid (fun x => sumF_set (D := D') (x := x) hfr)
       obtain ⟨cst, hcs1⟩ : ∃ x, x = (opr t.ops eo).cost := ⟨_, rfl⟩
       rw [← hcs1] at hcost n2 Hmk Hed
       clear hjj hpre hrt hc1 hcs1
       unfold INF at rg rg2
       have eo0 : (0 : Int) ≤ (eo : Int) := by omega
       have eo1 : (eo : Int) < (t.ops.length : Int) := by omega
       have et0 : (0 : Int) ≤ (et : Int) := by omega
       have et1 : (et : Int) < (k : Int) := by omega
       have ef0 : (0 : Int) ≤ (ef : Int) := by omega
       have ef1 : (ef : Int) < (k : Int) := by omega
       have j0 : (0 : Int) ≤ (j : Int) := by omega
       have j3 : (j : Int) < (L.length : Int) := by omega
       have Kb := fun (o : Obj) => hkp.alloc o
       have x1 : IntKind.i64.wrap (D' et + cst) = D' et + cst := IntWalk.i64_in _ (by omega)
       by_cases q1 : D' et < 1125899906842624
       ·have q1' : decide (D' et < 1125899906842624) = true := by simpa using q1
        by_cases q2 : D' et + cst < D' ef
        ·have q2' : decide (D' et + cst < D' ef) = true := by simpa using q2
         have Hm := Lib.hid (Hmk.out q1 q2)
         have Hle := Lib.hid (show sumF (setD D' ef (D' et + cst)) k < sumF D' k by have := Hss.out (D' et + cst); omega)
         have Hrow2 := Lib.hid (row_setD hrow ef (D' et + cst))
         go_wp2_with fail
         go_quiet (fail)
         go_wp2_with fail
         refine wp_region_G 11 (fun w' => w'.cell? ⟨wr.heap.size, 0, none⟩ = some (.int .i64 (ef : Int)) ∧ w'.cell? ⟨wr.heap.size, 2, none⟩ = some (.int .i64 (et : Int)) ∧ w'.cell? ⟨w2.heap.size, et, none⟩ = some (.int .i64 (D' et))) (by kernel_rfl) (by refine ⟨?_, ?_, ?_⟩ <;> go_simp) ?_
         intro hG0
         refine wpS1 0 hG0 ?_; intro hG1; clear hG0
         refine wpS1 1 hG1 ?_; intro hG2; clear hG1
         refine wpS2 2 hG2 ?_; intro hG3; clear hG2
         refine wpS1 3 hG3 ?_; intro hG4; clear hG3
         refine wpS1 4 hG4 ?_; intro hG5; clear hG4
         refine wpS2 5 hG5 ?_; intro hG6; clear hG5
         refine wpS1 6 hG6 ?_; intro hG7; clear hG6
         refine wpS2 7 hG7 ?_; intro hG8; clear hG7
         refine wpS1 8 hG8 ?_; intro hG9; clear hG8
         refine wpS1 9 hG9 ?_; intro hG10; clear hG9
         refine wpS1 10 hG10 ?_; intro hG11; clear hG10
         refine wpAnyG_ready (rs := [11]) (by kernel_rfl) (by simp) (AllG.cons rfl hG11 (fun K hK => ?_) AllG.nil)
         (go_simp)
         refine hK.out _ _ (Or.inl rfl) (fun hG12 => wpN ?_); clear hK hG11
         refine wpAnyG_done (by kernel_rfl) ?_ _; clear hG12
         go_wp2
         go_roundw
         case rel => exact ⟨j + 1, setD D' ef (D' et + cst), true, by omega, by go_num, rfl, row_setD (row_drewN (hrow.alloc _) _) ef (D' et + cst), Hm, Lib.hid (fun h => by cases h), Lib.hid (by have := Hle.out; have := hcn.out; omega), Lib.hid (fun _ => by have := Hle.out; have := hcn.out; omega), ((hkp.alloc _).drewN _).set (p := ⟨w2.heap.size, ef, none⟩) (Nat.le_refl _) (Nat.lt_succ_self _) _⟩
         case measure => simp [intOf]; omega
        ·have q2' : decide (D' et + cst < D' ef) = false := by simpa using q2
         have Hs := Lib.hid (show ch = false → ∀ i, i < j + 1 → EdC t D' (egd L i) from fun hc i hi => by
          rcases Nat.lt_succ_iff_lt_or_eq.1 hi with h | rfl
          ·exact hcl.out hc i h
          ·exact Hed.out fun _ => by omega)
         go_wp2_with fail
         go_quiet (fail)
         go_wp2
         go_roundw
         case rel => exact ⟨j + 1, D', ch, by omega, by go_num, rfl, (by first | exact hrow.alloc _ | exact row_drewN (hrow.alloc _) _), hdst, Hs, hcn, hcs, (by first | exact hkp.alloc _ | exact (hkp.alloc _).drewN _)⟩
         case measure => simp [intOf]; omega
       ·have q1' : decide (D' et < 1125899906842624) = false := by simpa using q1
        have Hs := Lib.hid (show ch = false → ∀ i, i < j + 1 → EdC t D' (egd L i) from fun hc i hi => by
         rcases Nat.lt_succ_iff_lt_or_eq.1 hi with h | rfl
         ·exact hcl.out hc i h
         ·exact Hed.out fun h => absurd h q1)
        go_wp2_with fail
        go_quiet (fail)
        go_wp2
        go_roundw
        case rel => exact ⟨j + 1, D', ch, by omega, by go_num, rfl, (by first | exact hrow.alloc _ | exact row_drewN (hrow.alloc _) _), hdst, Hs, hcn, hcs, (by first | exact hkp.alloc _ | exact (hkp.alloc _).drewN _)⟩
        case measure => simp [intOf]; omega
      ·obtain rfl : j = L.length := by omega
       have Hg := Lib.hid (show 2 * sumF D' k + flN ch < gk by
        have h1 := Hgk.out
        have h2 := hcs.out
        have h3 := hcn.out
        unfold flN at *
        cases ch
        ·simp at h1 ⊢; omega
        ·have := h2 rfl; simp at h1 ⊢; omega)
       go_wp2
       go_roundg (2 * sumF D' k + flN ch)
       case measure => exact Hg.out
       case rel => exact ⟨D', ch, rfl, rfl, hrow, hdst, hcl, hkp⟩
end

section
open Go Go.RowKit
set_option linter.unusedVariables false

set_option maxRecDepth 100000 in
set_option maxHeartbeats 8000000 in
theorem bbest_any (t : Tsk) (p : Lies) (w : World) (ht : TaskAt w w.heap.size t p) (hs : Smll t) :
  Calls Tryz.prog 11 #[TaskV t p] w fun e w' => (∃ d, e = .returned (.int .i64 d) ∧ IsBest t t.init d) ∧ Below w.heap.size w w' := by
 have k1 := fun w1 (hb : Below w.heap.size w w1) => bdist_any t p w1 (ht.up hb) hs
 have hst := hs.right.init
 have k2 := fun w1 (hb : Below w.heap.size w w1) => brank_any t.vars t.init p.av p.ai p.cv p.ci w1 (ht.vars.up hb) (ht.init.up hb) (by unfold stB at hst; simpa using hst) hs.right.dom (by have := hs.many; omega)
 have hn := num_eq hs.right hst
 have hrk : rk t.vars t.init t.init.length = (num t t.init : Int) := by rw [stB_len hst]; exact hn.1
 rw [hrk] at k2
 have K1 := Lib.hid k1
 have hnl := hn.2
 have hN2 : (sts t.vars).length ≤ 512 := by have := hs.many; have := sts_len hs.right; omega
 have Hst := Lib.hid hst
 clear hs k1 hn hst hrk
 obtain ⟨av, ai, ag, ao, cv, ci, cg, co⟩ := p
 unfold TaskV at *
 dsimp only at *
 have K2 := Lib.hid k2
 clear k2
 unfold DisRet at K1
 obtain ⟨q, hq⟩ : ∃ q, q = num t t.init := ⟨_, rfl⟩
 rw [← hq] at K2 hnl
 have Hq := Lib.hid hq
 clear hq
 generalize (sts t.vars).length = N at *
 have q0 : (0 : Int) ≤ (q : Int) := by omega
 have q1 : (q : Int) < (N : Int) := by omega
 go_enter Tryz.func11, Tryz.ntmps11
 go_wp2_with fail
 refine wp_region_G 6 (fun w' => w'.cell? ⟨w.heap.size, 0, none⟩ = some (.slice av t.vars.length cv) ∧ w'.cell? ⟨w.heap.size, 1, none⟩ = some (.slice ai t.init.length ci) ∧ w'.cell? ⟨w.heap.size, 2, none⟩ = some (.slice ag t.goal.length cg) ∧ w'.cell? ⟨w.heap.size, 3, none⟩ = some (.slice ao t.ops.length co)) (by kernel_rfl) (by refine ⟨?_, ?_, ?_, ?_⟩ <;> go_simp) ?_
 intro hG0
 refine wpS2 0 hG0 ?_; intro hG1; clear hG0
 refine wpS1 2 hG1 ?_; intro hG2; clear hG1
 refine wpS2 3 hG2 ?_; intro hG3; clear hG2
 refine wpS1 4 hG3 ?_; intro hG4; clear hG3
 refine wpS2 5 hG4 ?_; intro hG5; clear hG4
 refine wpAnyG_ready (rs := [1]) (by kernel_rfl) (by simp) (AllG.cons rfl hG5 (fun K hK => ?_) AllG.nil)
 (go_simp; go_at_call 30; refine (K1.out _ (by exact bel)).mono ?_; rintro e w4 ⟨⟨g, D, rfl, hrow, hbest⟩, hb4⟩; have hbA : Below (w.heap.size + 1) (w.alloc (.cells #[.slice av t.vars.length cv, .slice ai t.init.length ci, .slice ag t.goal.length cg, .slice ao t.ops.length co] 26)) w4 := (Below.refl _ _).drew.trans (hb4.mono (by show _ ≤ (w.alloc _).heap.size; simp)); have z4 : w.heap.size + 1 ≤ w4.heap.size := (by have := hbA.size; simpa using this); have hb04 : Below w.heap.size w w4 := ((Below.refl _ _).alloc (Nat.le_refl _) _).trans (hbA.mono (Nat.le_succ _)); clear hb4; have r1 := hrow.cell hnl; have r3 := hrow.lt; have Hb := Lib.hid hbest; clear hbest hrow)
 refine hK.out _ _ (Or.inr (by refine ⟨?_, ?_, ?_, ?_⟩ <;> exact ((show Below (w.heap.size + 1) (w.alloc (.cells #[.slice av t.vars.length cv, .slice ai t.init.length ci, .slice ag t.goal.length cg, .slice ao t.ops.length co] 26)) _ by first | assumption | (refine hbA.trans ?_; exact hb5.mono z4)).cell (Nat.lt_succ_self _)).trans (by simp))) (fun hG6 => wpN ?_); clear hK hG5
 refine wpAnyG_ready (rs := [6]) (by kernel_rfl) (by simp) (AllG.cons rfl hG6 (fun K hK => ?_) AllG.nil)
 (go_simp; go_at_call 31; refine (K2.out _ (by exact bel)).mono ?_; rintro e w5 ⟨rfl, hb5⟩; have z5 := hb5.size; (try have r2 := (hb5.cell (p := ⟨g, q, none⟩) r3).trans r1); (try have r4 : g < w5.heap.size := (by omega)))
 refine hK.out _ _ (Or.inl rfl) (fun hG7 => wpN ?_); clear hK hG6
 refine wpS1 7 hG7 ?_; intro hG8; clear hG7
 refine wpAnyG_ready (rs := [8]) (by kernel_rfl) (by simp) (AllG.cons rfl hG8 (fun K hK => ?_) AllG.nil)
 (go_simp)
 refine hK.out _ _ (Or.inl rfl) (fun hG9 => wpN ?_); clear hK hG8
 refine wpS1 9 hG9 ?_; intro hG10; clear hG9
 refine wpAnyG_done (by kernel_rfl) ?_ _; clear hG10
 (try simp only [List.getElem_toArray, List.getElem_cons_succ, List.getElem_cons_zero, Act.put, List.setIfInBounds_toArray, List.set_cons_zero, List.set_cons_succ])
 go_wp2
 refine bodyPost_ret (v := .int .i64 (D q)) (by simp [results, Tryz.results11, go_sem]) rfl ⟨⟨D q, rfl, ?_⟩, hb04.trans (hb5.mono (by omega))⟩
 rw [Hq.out]; exact Hb.out _ Hst.out
end

end Go.Proofs.YtlkebhiaimijiaaGreatDoor
