/- causal.depends. -/
import Derived.Test.YtenmeiplglbafaaCauP
import Derived.Test.YtenmeiplglbafaaKp
import Derived.Test.YtenmeiplglbafaaGoodP
import Derived.LoopTactic
import Derived.Deep.RegionHeld3
namespace Go.Proofs.Ytenmeiplglbafaa
set_option linter.unusedSimpArgs false
set_option linter.unusedVariables false
open Go.RowKit
set_option linter.unusedVariables false

/-- One of the first k facts is of variable u; one of the first k effects sets it; what the first operators, effects say. -/
def onN (l : List (Int × Int)) (u : Int) (k : Nat) : Bool := anyB k fun i => fv l i == u
def seN (o : Opr) (u : Int) (k : Nat) : Bool := anyB k fun i => (eff o.effs i).var == u
def doN (o : Opr) (v u : Int) (k : Nat) : Bool := anyB k fun i => dpE o (eff o.effs i) v u
def dtN (t : Tsk) (v u : Int) (k : Nat) : Bool := anyB k fun i => dpO (opr t.ops i) v u
theorem beq_cast (a b : Nat) : ((a : Int) == (b : Int)) = (a == b) := by rw [Bool.eq_iff_iff]; simp only [beq_iff_eq]; omega
theorem beq_sw (a b : Nat) : (a == b) = (b == a) := by rw [Bool.eq_iff_iff]; simp only [beq_iff_eq]; omega
theorem bool4 (a b c d : Bool) : ((a || (b && c)) || (b && d)) = (a || (b && (c || d))) := by cases a <;> cases b <;> cases c <;> cases d <;> rfl
theorem mat_or {a b c : Bool} (h : a = (b || c)) (x : Bool) : (a || x) = (b || (c || x)) := by rw [h, Bool.or_assoc]
def DepRet (t : Tsk) (w : World) (e : Ending) (w' : World) : Prop :=
  ∃ g rb, e = .returned (.slice (some ⟨g, 0, none⟩) t.vars.length t.vars.length) ∧ MatIs w' g t.vars.length rb (fun _ => t.vars.length) (fun v u => arB t u v) ∧ w.heap.size ≤ g ∧ ∀ j, j < t.vars.length → w.heap.size ≤ rb j

set_option maxRecDepth 100000 in
set_option maxHeartbeats 16000000 in
theorem depends_any (t : Tsk) (p : Lies) (w : World) (ht : TaskAt w w.heap.size t p) (hr : Right t) :
    Calls Try.prog 71 #[TaskV t p] w fun e w' => DepRet t w e w' ∧ Below w.heap.size w w' := by
  obtain ⟨av, ai, ag, ao, cv, ci, cg, co⟩ := p
  unfold TaskV
  dsimp only
  have l4 := ht.ops.len
  have n64 := hr.nv
  have HR := Lib.hid hr
  clear hr
  obtain ⟨n, hn⟩ : ∃ n, n = t.vars.length := ⟨_, rfl⟩
  have hmk1 := run_make_row' (P := Try.prog) 87 45 (.slice none 0 0) 24 undBs infoBs rfl .i64 .i64 t.vars.length (by omega) (by omega)
  have hmk2 := run_make_row' (P := Try.prog) 45 4 (.bool false) 1 undB infoB rfl .i64 .i64 t.vars.length (by omega) (by omega)
  obtain ⟨rb, hrb⟩ : ∃ rb : Nat → Nat, ∀ j, rb j = w.heap.size + 2 + j := ⟨_, fun _ => rfl⟩
  have Hrb := Lib.hid hrb
  clear hrb hn n
  go_enter Try.func71, Try.ntmps71
  go_wp2
  go_loopw [22] (fun i wr => ∃ (k : Nat), k ≤ t.vars.length ∧ i = .int .i64 k ∧ MkM wr (w.heap.size + 1) t.vars.length k rb (fun _ => t.vars.length) (fun _ _ => false) ∧ Hid (wr.heap.size = w.heap.size + 2 + k) ∧ Boxed wr w.heap.size t ⟨av, ai, ag, ao, cv, ci, cg, co⟩ ∧ Below w.heap.size w wr) (fun i _ => t.vars.length - (intOf i).toNat)
  case atStart => exact ⟨0, by omega, rfl, by simpa using MkM.start (w.alloc (.cells #[.slice av t.vars.length cv, .slice ai t.init.length ci, .slice ag t.goal.length cg, .slice ao t.ops.length co] 26)) t.vars.length rb (fun _ => t.vars.length) (fun _ _ => false), Lib.hid (by simp), by constructor <;> first | (simp; done) | (simp; omega), by repeat (first | exact Below.refl _ _ | refine below_dN ?_ _ | refine Below.drew ?_ | refine Below.alloc ?_ (by first | omega | (simp; done) | (simp; omega)) _ | refine Below.setCell ?_ (by first | omega | (simp; done) | (simp; omega)) _ | refine below_step (by assumption) (by first | omega | (simp; done) | (simp; omega)) ?_)⟩
  case round =>
    obtain ⟨k, hk, rfl, hmk, hsz, hbox, hbel⟩ := hrel
    obtain ⟨z0, y0, y1, y2, y3⟩ := id hbox
    dsimp only at y0 y1 y2 y3
    have hbz := hbel.size
    by_cases hlt : k < t.vars.length
    · have t4 : wr.cell? ⟨w.heap.size + 1, k, none⟩ = some (.slice none 0 0) := by have := hmk.top.cell hlt; simpa using this
      have t5 := hmk.top.frozen k
      have t6 := hmk.top.lt
      have Kb := fun (v : Value) (o : Obj) => (Kp.set (Kp.refl (w.heap.size + 1) wr.heap.size wr) (p := ⟨w.heap.size + 1, k, none⟩) (Nat.le_refl _) t6 v).alloc o
      have x0 : (0 : Int) ≤ (k : Int) := by omega
      have x1 : (k : Int) < (t.vars.length : Int) := by omega
      go_wp2
      go_roundw
      case rel => exact ⟨k + 1, by omega, by go_num, hmk.next hlt (by rw [Hrb.out, hsz.out]) (fun j hj => by rw [Hrb.out]; omega) (fun _ _ => rfl), Lib.hid (by have := hsz.out; simp [World.setCell]; omega), ⟨by simp [World.setCell]; omega, ((Kb _ _).cell (p := ⟨w.heap.size, 0, none⟩) z0 (.inl (by show w.heap.size < _; omega))).trans hbox.c0, ((Kb _ _).cell (p := ⟨w.heap.size, 1, none⟩) z0 (.inl (by show w.heap.size < _; omega))).trans hbox.c1, ((Kb _ _).cell (p := ⟨w.heap.size, 2, none⟩) z0 (.inl (by show w.heap.size < _; omega))).trans hbox.c2, ((Kb _ _).cell (p := ⟨w.heap.size, 3, none⟩) z0 (.inl (by show w.heap.size < _; omega))).trans hbox.c3⟩, by repeat (first | exact Below.refl _ _ | refine below_dN ?_ _ | refine Below.drew ?_ | refine Below.alloc ?_ (by first | omega | (simp; done) | (simp; omega)) _ | refine Below.setCell ?_ (by first | omega | (simp; done) | (simp; omega)) _ | refine below_step (by assumption) (by first | omega | (simp; done) | (simp; omega)) ?_)⟩
      case measure => simp [intOf]; omega
    · obtain rfl : k = t.vars.length := by omega
      have hmat := hmk.done (fun i j _ _ e => by rw [Hrb.out, Hrb.out] at e; omega) (fun j _ => by rw [Hrb.out]; omega)
      obtain ⟨wa, rfl⟩ : ∃ wa : World, wa = wr := ⟨_, rfl⟩
      clear hmk hlt hk hmk1 hmk2
      have Hbw := Lib.hid hbel
      have hhi : w.heap.size + 2 + t.vars.length ≤ wa.heap.size := by rw [hsz.out]; exact Nat.le_refl _
      go_wp2
      go_loopw [36] (fun i wr => ∃ (k : Nat) (M : Nat → Nat → Bool), k ≤ t.ops.length ∧ i = .int .i64 k ∧ MatIs wr (w.heap.size + 1) t.vars.length rb (fun _ => t.vars.length) M ∧ Hid (∀ v u : Nat, M v u = dtN t v u k) ∧ Kp (w.heap.size + 2) (w.heap.size + 2 + t.vars.length) wa wr) (fun i _ => t.ops.length - (intOf i).toNat)
      case atStart => exact ⟨0, fun _ _ => false, by omega, rfl, hmat, Lib.hid fun _ _ => rfl, Kp.refl _ _ _⟩
      case round =>
        clear z0 y0 y1 y2 y3 hbox hbel hmat
        obtain ⟨k, M0, hk, rfl, hmat, hM0, hkp⟩ := hrel
        obtain ⟨wb, rfl⟩ : ∃ wb : World, wb = wr := ⟨_, rfl⟩
        have hbel : Below w.heap.size w wb := Hbw.out.trans (hkp.below (by omega) (by omega))
        by_cases hlt : k < t.ops.length
        · obtain ⟨b, o, S, c, T, d, ea, hb, d0, q0, d1, d2, f2, d3, e3⟩ := ht.ops.at2 hbel hlt
          dsimp only at ea
          subst ea
          have hbz := hbel.size
          have hkz := hkp.size
          have g2 : b < wb.heap.size := by omega
          have j1 := f2.len
          have j2 := e3.len
          have nef := HR.out.ne k hlt
          have npr := HR.out.np k hlt
          go_wp2
          go_loopw [43] (fun i wr => ∃ (j : Nat) (M : Nat → Nat → Bool), j ≤ (opr t.ops k).effs.length ∧ i = .int .i64 j ∧ MatIs wr (w.heap.size + 1) t.vars.length rb (fun _ => t.vars.length) M ∧ Hid (∀ v u : Nat, M v u = (M0 v u || doN (opr t.ops k) v u j)) ∧ Kp (w.heap.size + 2) (w.heap.size + 2 + t.vars.length) (wb.alloc (.cells #[.string (opr t.ops k).name, .int .i64 (opr t.ops k).cost, .slice S (opr t.ops k).pre.length c, .slice T (opr t.ops k).effs.length d] 74)) wr) (fun i _ => (opr t.ops k).effs.length - (intOf i).toNat)
          case atStart => exact ⟨0, M0, by omega, rfl, hmat.alloc _, Lib.hid fun _ _ => (Bool.or_false _).symm, by first | exact Kp.refl _ _ _ | simpa using Kp.refl _ _ _⟩
          case round =>
            obtain ⟨j, M1, hj, rfl, hmat1, hM1, hkp1⟩ := hrel
            obtain ⟨wc, rfl⟩ : ∃ wc : World, wc = wr := ⟨_, rfl⟩
            have hkz1 := hkp1.size
            rw [World.size_alloc] at hkz1
            have hkpc : Kp (w.heap.size + 2) (w.heap.size + 2 + t.vars.length) wa wc := (hkp.alloc _).trans hkp1
            have hbel1 : Below w.heap.size w wc := Hbw.out.trans (hkpc.below (by omega) (by omega))
            have x2 : wc.cell? ⟨wb.heap.size, 2, none⟩ = some (.slice S (opr t.ops k).pre.length c) := (hkp1.cell (by simp) (.inr (by show _ ≤ wb.heap.size; omega))).trans (by simp)
            have x3 : wc.cell? ⟨wb.heap.size, 3, none⟩ = some (.slice T (opr t.ops k).effs.length d) := (hkp1.cell (by simp) (.inr (by show _ ≤ wb.heap.size; omega))).trans (by simp)
            have g4 : wb.heap.size < wc.heap.size := by omega
            by_cases hlt2 : j < (opr t.ops k).effs.length
            · obtain ⟨b', o', S', c', ea', hb', i0, f5, i1, i2⟩ := e3.at2 hbel1 hlt2
              subst ea'
              have hbz2 := hbel1.size
              have g3 : b' < wc.heap.size := by omega
              have j3 := f5.len
              have hev := HR.out.eff k hlt j hlt2
              have nwh := HR.out.nw k hlt j hlt2
              obtain ⟨ev, hv⟩ : ∃ ev : Nat, (eff (opr t.ops k).effs j).var = (ev : Int) := ⟨(eff (opr t.ops k).effs j).var.toNat, by omega⟩
              have HV := Lib.hid hv
              rw [hv] at i1 hev
              have hevn : ev < t.vars.length := by omega
              have v0 : (0 : Int) ≤ (ev : Int) := by omega
              have v1 : (ev : Int) < (t.vars.length : Int) := by omega
              have r0 : w.heap.size + 2 ≤ rb ev := by rw [Hrb.out]; omega
              have r1 : rb ev < w.heap.size + 2 + t.vars.length := by rw [Hrb.out]; omega
              clear hv hev
              go_wp2
              go_loopw [53] (fun i wr => ∃ (a : Nat) (M : Nat → Nat → Bool), a ≤ 2 ∧ i = .int .i64 a ∧ MatIs wr (w.heap.size + 1) t.vars.length rb (fun _ => t.vars.length) M ∧ Hid (∀ v u : Nat, M v u = (M1 v u || (ev == v && anyB a fun a => onB (if a = 0 then (opr t.ops k).pre else (eff (opr t.ops k).effs j).whn) u))) ∧ Kp (w.heap.size + 2) (w.heap.size + 2 + t.vars.length) ((wc.alloc (.cells #[.slice S' (eff (opr t.ops k).effs j).whn.length c', .int .i64 ev, .int .i64 (eff (opr t.ops k).effs j).val] 84)).alloc (.cells #[.slice S (opr t.ops k).pre.length c, .slice S' (eff (opr t.ops k).effs j).whn.length c'] 23)) wr) (fun i _ => 2 - (intOf i).toNat)
              case atStart => exact ⟨0, M1, by omega, rfl, (hmat1.alloc _).alloc _, Lib.hid fun _ _ => by rw [anyB_zero, Bool.and_false, Bool.or_false], by first | exact Kp.refl _ _ _ | simpa using Kp.refl _ _ _⟩
              case round =>
                obtain ⟨a, M2, ha, rfl, hmat2, hM2, hkp2⟩ := hrel
                obtain ⟨wd, rfl⟩ : ∃ wd : World, wd = wr := ⟨_, rfl⟩
                have hkz2 := hkp2.size
                simp only [World.size_alloc] at hkz2
                have hkpd : Kp (w.heap.size + 2) (w.heap.size + 2 + t.vars.length) wc wd := (((Kp.refl _ _ wc).alloc _).alloc _).trans hkp2
                have hbel2 : Below w.heap.size w wd := hbel1.trans (hkpd.below (by omega) (by omega))
                by_cases hlta : a < 2
                · obtain ⟨F, SF, cF, hF, hFa, hFl, hcell⟩ : ∃ (F : List (Int × Int)) (SF : Option Addr) (cF : Nat), FactsAt w w.heap.size SF F ∧ F = (if a = 0 then (opr t.ops k).pre else (eff (opr t.ops k).effs j).whn) ∧ (∀ i, i < F.length → 0 ≤ fv F i ∧ fv F i < t.vars.length) ∧ wd.cell? ⟨wc.heap.size + 1, a, none⟩ = some (.slice SF F.length cF) := by
                    have : a = 0 ∨ a = 1 := by omega
                    rcases this with rfl | rfl
                    · exact ⟨_, S, c, f2, rfl, fun i hi => by have := fa_at (HR.out.pre k hlt) hi; omega, (hkp2.cell (by simp) (.inr (by show _ ≤ wc.heap.size + 1; omega))).trans (by simp [World.cell?_alloc_at])⟩
                    · exact ⟨_, S', c', f5, rfl, fun i hi => by have := fa_at (HR.out.whn k hlt j hlt2) hi; omega, (hkp2.cell (by simp) (.inr (by show _ ≤ wc.heap.size + 1; omega))).trans (by simp [World.cell?_alloc_at])⟩
                  have HF := Lib.hid hFa
                  have HFl := Lib.hid hFl
                  clear hFa hFl
                  have j5 := hF.len
                  have a0 : (0 : Int) ≤ (a : Int) := by omega
                  have a1 : (a : Int) < 2 := by omega
                  have g5 : wc.heap.size + 1 < wd.heap.size := by omega
                  go_wp2
                  go_loopw [59] (fun i wr => ∃ (f : Nat) (M : Nat → Nat → Bool), f ≤ F.length ∧ i = .int .i64 f ∧ MatIs wr (w.heap.size + 1) t.vars.length rb (fun _ => t.vars.length) M ∧ Hid (∀ v u : Nat, M v u = (M2 v u || (ev == v && onN F u f))) ∧ Kp (w.heap.size + 2) (w.heap.size + 2 + t.vars.length) wd wr) (fun i _ => F.length - (intOf i).toNat)
                  case atStart => exact ⟨0, M2, by omega, rfl, hmat2, Lib.hid fun _ _ => by unfold onN; rw [anyB_zero, Bool.and_false, Bool.or_false], Kp.refl _ _ _⟩
                  case round =>
                    obtain ⟨f, M3, hf, rfl, hmat3, hM3, hkp3⟩ := hrel
                    have hkz3 := hkp3.size
                    have hbel3 : Below w.heap.size w wr := hbel2.trans (hkp3.below (by omega) (by omega))
                    by_cases hltf : f < F.length
                    · obtain ⟨b6, o6, eF, hb6, hc6⟩ := hF.at_ hltf
                      subst eF
                      have u1 := (hbel3.cell (p := ⟨b6, o6 + f * 2, none⟩) hb6).trans (hc6 f hltf).1
                      have u2 := (hbel3.cell (p := ⟨b6, o6 + f * 2 + 1, none⟩) hb6).trans (hc6 f hltf).2
                      clear hc6
                      have hfl := HFl.out f hltf
                      obtain ⟨fu, hfu⟩ : ∃ fu : Nat, fv F f = (fu : Int) := ⟨(fv F f).toNat, by omega⟩
                      have HFU := Lib.hid hfu
                      rw [hfu] at u1 hfl
                      have hfn : fu < t.vars.length := by omega
                      have u3 : (0 : Int) ≤ (fu : Int) := by omega
                      have u4 : (fu : Int) < (t.vars.length : Int) := by omega
                      have bz3 := hbel3.size
                      have g6 : b6 < wr.heap.size := by omega
                      have e1 : wr.cell? ⟨wc.heap.size, 1, none⟩ = some (.int .i64 (ev : Int)) := ((hkp2.trans hkp3).cell (by simp; omega) (.inr (by show _ ≤ wc.heap.size; omega))).trans (by simp)
                      have m1 := hmat3.top ev hevn
                      have m2 := hmat3.cell hevn hfn
                      have m3 := hmat3.frozen fu hevn
                      have m4 := hmat3.rlt hevn
                      have m5 := hmat3.glt
                      have g7 : wc.heap.size < wr.heap.size := by omega
                      clear hfu hfl
                      have hh1 : w.heap.size + 2 + t.vars.length ≤ wc.heap.size := by omega
                      have hh2 : w.heap.size + 1 < w.heap.size + 2 := by omega
                      go_wp2_with fail
                      go_region_held3 (fun w' => w'.cell? ⟨wc.heap.size, 1, none⟩ = some (.int .i64 (ev : Int)) ∧ w'.cell? ⟨w.heap.size + 1, ev, none⟩ = some (.slice (some ⟨rb ev, 0, none⟩) t.vars.length t.vars.length) ∧ w'.cell? ⟨wr.heap.size, 0, none⟩ = some (.int .i64 (fu : Int))) (first | exact Kp.three (lo := w.heap.size + 2) (hi := w.heap.size + 2 + t.vars.length) r0 r1 g7 hh1 e1 m5 hh2 m1 rfl | go_keep) (fail)
                      all_goals go_wp2
                      go_roundw
                      case rel => exact ⟨f + 1, fun v u => (M3 v u || (v == ev && u == fu)), by omega, by go_num, MatIs.drew (MatIs.alloc (MatIs.put_true hmat3 hevn (fun _ _ _ _ => rfl)) _), Lib.hid fun v u => by show (M3 v u || (v == ev && u == fu)) = _; rw [hM3.out]; unfold onN; rw [anyB_succ, HFU.out, beq_cast, beq_sw v ev, beq_sw u fu]; exact bool4 _ _ _ _, Kp.drew (Kp.alloc (Kp.set (p := ⟨rb ev, fu, none⟩) hkp3 r0 r1 _) _)⟩
                      case measure => simp [intOf]; omega
                    · obtain rfl : f = F.length := by omega
                      go_wp2
                      go_roundw
                      case rel => exact ⟨a + 1, M3, by omega, by go_num, hmat3, Lib.hid fun v u => by rw [hM3.out, hM2.out, anyB_succ, ← HF.out]; show _ = (_ || (_ && (_ || onN F u F.length))); cases M1 v u <;> cases (ev == v) <;> simp, hkp2.trans hkp3⟩
                      case measure => simp [intOf]; omega
                · obtain rfl : a = 2 := by omega
                  have y3 : wd.cell? ⟨wb.heap.size, 3, none⟩ = some (.slice (some ⟨b', o', none⟩) (opr t.ops k).effs.length d) := (hkpd.cell (by show wb.heap.size < _; omega) (.inr (by show _ ≤ wb.heap.size; omega))).trans x3
                  have g8 : wb.heap.size < wd.heap.size := by omega
                  go_wp2
                  go_loopw [76] (fun i wr => ∃ (f : Nat) (M : Nat → Nat → Bool), f ≤ (opr t.ops k).effs.length ∧ i = .int .i64 f ∧ MatIs wr (w.heap.size + 1) t.vars.length rb (fun _ => t.vars.length) M ∧ Hid (∀ v u : Nat, M v u = (M2 v u || (ev == v && seN (opr t.ops k) u f))) ∧ Kp (w.heap.size + 2) (w.heap.size + 2 + t.vars.length) wd wr) (fun i _ => (opr t.ops k).effs.length - (intOf i).toNat)
                  case atStart => exact ⟨0, M2, by omega, rfl, hmat2, Lib.hid fun _ _ => by unfold seN; rw [anyB_zero, Bool.and_false, Bool.or_false], Kp.refl _ _ _⟩
                  case round =>
                    obtain ⟨f, M3, hf, rfl, hmat3, hM3, hkp3⟩ := hrel
                    have hkz3 := hkp3.size
                    have hbel3 : Below w.heap.size w wr := hbel2.trans (hkp3.below (by omega) (by omega))
                    by_cases hltf : f < (opr t.ops k).effs.length
                    · obtain ⟨b6, o6, S6, c6, eF, hb6, u0, f6, u1, u2⟩ := e3.at2 hbel3 hltf
                      cases eF
                      have hfl := HR.out.eff k hlt f hltf
                      obtain ⟨fu, hfu⟩ : ∃ fu : Nat, (eff (opr t.ops k).effs f).var = (fu : Int) := ⟨(eff (opr t.ops k).effs f).var.toNat, by omega⟩
                      have HFU := Lib.hid hfu
                      rw [hfu] at u1 hfl
                      have hfn : fu < t.vars.length := by omega
                      have u3 : (0 : Int) ≤ (fu : Int) := by omega
                      have u4 : (fu : Int) < (t.vars.length : Int) := by omega
                      have bz3 := hbel3.size
                      have g6 : b' < wr.heap.size := by omega
                      have e1 : wr.cell? ⟨wc.heap.size, 1, none⟩ = some (.int .i64 (ev : Int)) := ((hkp2.trans hkp3).cell (by simp; omega) (.inr (by show _ ≤ wc.heap.size; omega))).trans (by simp)
                      have m1 := hmat3.top ev hevn
                      have m2 := hmat3.cell hevn hfn
                      have m3 := hmat3.frozen fu hevn
                      have m4 := hmat3.rlt hevn
                      have m5 := hmat3.glt
                      have g7 : wc.heap.size < wr.heap.size := by omega
                      clear hfu hfl
                      have hh1 : w.heap.size + 2 + t.vars.length ≤ wc.heap.size := by omega
                      have hh2 : w.heap.size + 1 < w.heap.size + 2 := by omega
                      go_wp2_with fail
                      go_region_held3 (fun w' => w'.cell? ⟨wc.heap.size, 1, none⟩ = some (.int .i64 (ev : Int)) ∧ w'.cell? ⟨w.heap.size + 1, ev, none⟩ = some (.slice (some ⟨rb ev, 0, none⟩) t.vars.length t.vars.length) ∧ w'.cell? ⟨wr.heap.size, 1, none⟩ = some (.int .i64 (fu : Int))) (first | exact Kp.three (lo := w.heap.size + 2) (hi := w.heap.size + 2 + t.vars.length) r0 r1 g7 hh1 e1 m5 hh2 m1 rfl | go_keep) (fail)
                      all_goals go_wp2
                      go_roundw
                      case rel => refine ⟨_, _, _, _, _, _, _, _, _, _, _, _, _, _, ?_, rfl⟩; exact ⟨f + 1, fun v u => (M3 v u || (v == ev && u == fu)), by omega, by go_num, MatIs.drew (MatIs.alloc (MatIs.put_true hmat3 hevn (fun _ _ _ _ => rfl)) _), Lib.hid fun v u => by show (M3 v u || (v == ev && u == fu)) = _; rw [hM3.out]; unfold seN; rw [anyB_succ, HFU.out, beq_cast, beq_sw v ev, beq_sw u fu]; exact bool4 _ _ _ _, Kp.drew (Kp.alloc (Kp.set (p := ⟨rb ev, fu, none⟩) hkp3 r0 r1 _) _)⟩
                      case measure => simp [intOf]; omega
                    · obtain rfl : f = (opr t.ops k).effs.length := by omega
                      go_wp2
                      go_roundw
                      case rel => exact ⟨j + 1, M3, by omega, by go_num, hmat3, Lib.hid fun v u => by
                        rw [hM3.out, hM2.out, hM1.out]
                        unfold doN dpE
                        rw [anyB_succ, anyB_succ, anyB_succ, anyB_zero, HV.out, beq_cast]
                        show _ = (M0 v u || (_ || ((ev == v) && ((onB (opr t.ops k).pre u || onB (eff (opr t.ops k).effs j).whn u) || seN (opr t.ops k) u (opr t.ops k).effs.length))))
                        simp only [if_pos rfl, Bool.false_or, show ¬ (1 = 0) by decide, if_neg]
                        cases M0 v u <;> cases (ev == v) <;> simp [Bool.or_assoc], (hkp1.trans hkpd).trans hkp3⟩
                      case measure => simp [intOf]; omega
            · obtain rfl : j = (opr t.ops k).effs.length := by omega
              go_wp2
              go_roundw
              case rel => exact ⟨k + 1, M1, by omega, by go_num, hmat1, Lib.hid fun v u => by rw [hM1.out, hM0.out]; unfold dtN; rw [anyB_succ]; rfl, hkpc⟩
              case measure => simp [intOf]; omega
        · obtain rfl : k = t.ops.length := by omega
          have hkz := hkp.size
          go_wp2
          go_loopw [93] (fun i wr => ∃ (k : Nat) (M : Nat → Nat → Bool), k ≤ t.vars.length ∧ i = .int .i64 k ∧ MatIs wr (w.heap.size + 1) t.vars.length rb (fun _ => t.vars.length) M ∧ Hid (∀ v u : Nat, M v u = (!(decide (v < k) && (u == v)) && M0 v u)) ∧ Kp (w.heap.size + 2) (w.heap.size + 2 + t.vars.length) wa wr) (fun i _ => t.vars.length - (intOf i).toNat)
          case atStart => exact ⟨0, M0, by omega, rfl, hmat, Lib.hid fun _ _ => by simp, hkp⟩
          case round =>
            clear hmat hkp hbel
            obtain ⟨k, M, hk, rfl, hmat, hM, hkp⟩ := hrel
            have hkz := hkp.size
            have hbel : Below w.heap.size w wr := Hbw.out.trans (hkp.below (by omega) (by omega))
            by_cases hlt : k < t.vars.length
            · have x0 : (0 : Int) ≤ (k : Int) := by omega
              have x1 : (k : Int) < (t.vars.length : Int) := by omega
              have m1 := hmat.top k hlt
              have m2 := hmat.cell (u := k) hlt hlt
              have m3 := hmat.frozen k hlt
              have m4 := hmat.rlt hlt
              have m5 := hmat.glt
              have r0 : w.heap.size + 2 ≤ rb k := by rw [Hrb.out]; omega
              have r1 : rb k < w.heap.size + 2 + t.vars.length := by rw [Hrb.out]; omega
              go_wp2
              go_roundw
              case rel => exact ⟨k + 1, _, by omega, by go_num, hmat.put hlt false, Lib.hid fun v u => by
                show (if v = k ∧ u = k then false else M v u) = _
                rw [hM.out]
                by_cases h1 : v = k
                · subst h1
                  by_cases h2 : u = v
                  · subst h2; simp
                  · simp [h2]
                · have h3 : decide (v < k + 1) = decide (v < k) := by rw [decide_eq_decide]; omega
                  rw [h3]; simp [h1], hkp.set r0 r1 _⟩
              case measure => simp [intOf]; omega
            · obtain rfl : k = t.vars.length := by omega
              have hret : DepRet t w (.returned (.slice (some ⟨w.heap.size + 1, 0, none⟩) t.vars.length t.vars.length)) wr := ⟨w.heap.size + 1, rb, rfl, hmat.congr fun v hv u hu => by
                rw [hM.out, hM0.out]
                unfold arB
                show _ = (decide (u ≠ v) && dtN t v u t.ops.length)
                simp only [hv, decide_true, Bool.true_and]
                by_cases h : u = v <;> simp [h], by omega, fun j _ => by rw [Hrb.out]; omega⟩
              have Hret := Lib.hid hret
              clear hret
              go_wp2
              go_ret
              exact ⟨Hret.out, hbel⟩

end Go.Proofs.Ytenmeiplglbafaa
