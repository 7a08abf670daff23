/- ref05.Run; Solves, both. -/
import Derived.Test.YtbbgbogenkcooaaTaskR
namespace Go.Proofs.Ytbbgbogenkcooaa
set_option linter.unusedSimpArgs false
set_option linter.unusedVariables false
open Go.RowKit
set_option linter.unusedVariables false

set_option maxRecDepth 4000 in
set_option maxHeartbeats 4000000 in
theorem rrun_any (t : Tsk) (p : Lies) (s plan : List Int) (A P : Option Addr) (c q : Nat) (w : World) (ht : TaskAt w w.heap.size t p) (hs : IntsAt w w.heap.size A s) (hA : A = none → c = 0) (hp : IntsAt w w.heap.size P plan) :
    Calls Try.prog 43 #[TaskV t p, .slice A s.length c, .slice P plan.length q] w fun e w' => RrunRet t s plan e w' ∧ Below w.heap.size w w' := by
  have k1 := fun w1 (hb : Below w.heap.size w w1) => rcheck_any t p w1 (ht.up hb)
  have k2 := fun w1 (hb : Below w.heap.size w w1) => state_any t.vars s p.av A p.cv c w1 (ht.vars.up hb) (hs.up hb)
  have k5 := fun w1 l B c (hb : Below w.heap.size w w1) (hl : IntsAt w1 w1.heap.size B l) (hB : B = none → c = 0) op => rapply_any t p l B c op w1 (ht.up hb) hl hB
  obtain ⟨av, ai, ag, ao, cv, ci, cg, co⟩ := p
  unfold TaskV at *
  dsimp only at *
  have l4 := ht.ops.len
  have lp := hp.len
  have HA := Lib.hid hA
  clear hA
  by_cases e0 : chkC t = 0
  case neg =>
    have Hr := Lib.hid (show runR t s plan = ([], 0, chkC t) by unfold runR; rw [if_neg e0])
    have e1 : ((chkC t : Int) != 0) = true := by simpa using e0
    have e2 : ((chkC t : Int) == 0) = false := by simpa using e0
    clear e0
    go_enter Try.func43, Try.ntmps43
    go_wp2_with fail; refine (k1 _ (by repeat (first | exact Below.refl _ _ | refine below_dN ?_ _ | refine Below.drew ?_ | refine Below.alloc ?_ (by first | omega | (simp; done) | (simp; omega)) _ | refine Below.setCell ?_ (by first | omega | (simp; done) | (simp; omega)) _ | refine below_step (by assumption) (by first | omega | (simp; done) | (simp; omega)) ?_))).mono ?_; rintro e w1 ⟨rfl, hb1⟩; obtain ⟨hc1, hf1, hz1, hlt1, hle1⟩ := cellsIf hb1 (by (try simp); exact rfl); (try have : w.heap.size < w1.heap.size := (by omega)); (try have : w.heap.size < w1.heap.size + 1 := (by omega)); (try have : w.heap.size < w1.heap.size + 1 + 1 := (by omega)); (try have : w.heap.size + 1 < w1.heap.size := (by omega)); (try have : w.heap.size + 1 < w1.heap.size + 1 := (by omega)); (try have : w.heap.size + 1 < w1.heap.size + 1 + 1 := (by omega)); (try have : w.heap.size + 1 + 1 < w1.heap.size := (by omega)); (try have : w.heap.size + 1 + 1 < w1.heap.size + 1 := (by omega)); (try have : w.heap.size + 1 + 1 < w1.heap.size + 1 + 1 := (by omega))
    go_wp2
    refine bodyPost_ret (v := .tuple #[.slice none 0 0, .int .i64 0, .int .i64 (chkC t)]) (by simp [results, Try.results43, go_sem]) rfl ⟨rrun_err Hr.out, by repeat (first | exact Below.refl _ _ | refine below_dN ?_ _ | refine Below.drew ?_ | refine Below.alloc ?_ (by first | omega | (simp; done) | (simp; omega)) _ | refine Below.setCell ?_ (by first | omega | (simp; done) | (simp; omega)) _ | refine below_step (by assumption) (by first | omega | (simp; done) | (simp; omega)) ?_)⟩
  have Hk := Lib.hid (chk0 e0)
  have Hr := Lib.hid (show runR t s plan = if stB t.vars s then (if 65536 < (plan.length : Int) then ([], 0, 5) else runS t plan s 0) else ([], 0, 2) by unfold runR; rw [if_pos e0])
  have Hra := Lib.hid (show ∀ l op, rapC t l op = apC t l op by intro l op; unfold rapC; rw [if_pos e0])
  simp only [e0] at k1
  clear e0
  cases e1 : stB t.vars s
  case false =>
    have Hs := Lib.hid (show runR t s plan = ([], 0, 2) by rw [Hr.out, e1]; rfl)
    go_enter Try.func43, Try.ntmps43
    go_wp2_with fail; refine (k1 _ (by repeat (first | exact Below.refl _ _ | refine below_dN ?_ _ | refine Below.drew ?_ | refine Below.alloc ?_ (by first | omega | (simp; done) | (simp; omega)) _ | refine Below.setCell ?_ (by first | omega | (simp; done) | (simp; omega)) _ | refine below_step (by assumption) (by first | omega | (simp; done) | (simp; omega)) ?_))).mono ?_; rintro e w1 ⟨rfl, hb1⟩; obtain ⟨hc1, hf1, hz1, hlt1, hle1⟩ := cellsIf hb1 (by (try simp); exact rfl); (try have : w.heap.size < w1.heap.size := (by omega)); (try have : w.heap.size < w1.heap.size + 1 := (by omega)); (try have : w.heap.size < w1.heap.size + 1 + 1 := (by omega)); (try have : w.heap.size + 1 < w1.heap.size := (by omega)); (try have : w.heap.size + 1 < w1.heap.size + 1 := (by omega)); (try have : w.heap.size + 1 < w1.heap.size + 1 + 1 := (by omega)); (try have : w.heap.size + 1 + 1 < w1.heap.size := (by omega)); (try have : w.heap.size + 1 + 1 < w1.heap.size + 1 := (by omega)); (try have : w.heap.size + 1 + 1 < w1.heap.size + 1 + 1 := (by omega))
    go_wp2_with fail; refine (k2 _ (by repeat (first | exact Below.refl _ _ | refine below_dN ?_ _ | refine Below.drew ?_ | refine Below.alloc ?_ (by first | omega | (simp; done) | (simp; omega)) _ | refine Below.setCell ?_ (by first | omega | (simp; done) | (simp; omega)) _ | refine below_step (by assumption) (by first | omega | (simp; done) | (simp; omega)) ?_))).mono ?_; rintro e w2 ⟨rfl, hb2⟩; obtain ⟨hc2, hf2, hz2, hlt2, hle2⟩ := cellsIf hb2 (by (try simp); exact rfl); (try have : w.heap.size < w2.heap.size := (by omega)); (try have : w.heap.size < w2.heap.size + 1 := (by omega)); (try have : w.heap.size < w2.heap.size + 1 + 1 := (by omega)); (try have : w.heap.size + 1 < w2.heap.size := (by omega)); (try have : w.heap.size + 1 < w2.heap.size + 1 := (by omega)); (try have : w.heap.size + 1 < w2.heap.size + 1 + 1 := (by omega)); (try have : w.heap.size + 1 + 1 < w2.heap.size := (by omega)); (try have : w.heap.size + 1 + 1 < w2.heap.size + 1 := (by omega)); (try have : w.heap.size + 1 + 1 < w2.heap.size + 1 + 1 := (by omega)); (try have : w1.heap.size < w2.heap.size := (by omega)); (try have : w1.heap.size < w2.heap.size + 1 := (by omega)); (try have : w1.heap.size < w2.heap.size + 1 + 1 := (by omega)); (try have : w1.heap.size + 1 < w2.heap.size := (by omega)); (try have : w1.heap.size + 1 < w2.heap.size + 1 := (by omega)); (try have : w1.heap.size + 1 < w2.heap.size + 1 + 1 := (by omega)); (try have : w1.heap.size + 1 + 1 < w2.heap.size := (by omega)); (try have : w1.heap.size + 1 + 1 < w2.heap.size + 1 := (by omega)); (try have : w1.heap.size + 1 + 1 < w2.heap.size + 1 + 1 := (by omega))
    go_wp2
    refine bodyPost_ret (v := .tuple #[.slice none 0 0, .int .i64 0, .int .i64 2]) (by simp [results, Try.results43, go_sem]) rfl ⟨rrun_err Hs.out, by repeat (first | exact Below.refl _ _ | refine below_dN ?_ _ | refine Below.drew ?_ | refine Below.alloc ?_ (by first | omega | (simp; done) | (simp; omega)) _ | refine Below.setCell ?_ (by first | omega | (simp; done) | (simp; omega)) _ | refine below_step (by assumption) (by first | omega | (simp; done) | (simp; omega)) ?_)⟩
  cases e2 : decide (65536 < (plan.length : Int))
  case true =>
    have Hs := Lib.hid (show runR t s plan = ([], 0, 5) by rw [Hr.out, e1, if_pos rfl, if_pos (by simpa using e2)])
    go_enter Try.func43, Try.ntmps43
    go_wp2_with fail; refine (k1 _ (by repeat (first | exact Below.refl _ _ | refine below_dN ?_ _ | refine Below.drew ?_ | refine Below.alloc ?_ (by first | omega | (simp; done) | (simp; omega)) _ | refine Below.setCell ?_ (by first | omega | (simp; done) | (simp; omega)) _ | refine below_step (by assumption) (by first | omega | (simp; done) | (simp; omega)) ?_))).mono ?_; rintro e w1 ⟨rfl, hb1⟩; obtain ⟨hc1, hf1, hz1, hlt1, hle1⟩ := cellsIf hb1 (by (try simp); exact rfl); (try have : w.heap.size < w1.heap.size := (by omega)); (try have : w.heap.size < w1.heap.size + 1 := (by omega)); (try have : w.heap.size < w1.heap.size + 1 + 1 := (by omega)); (try have : w.heap.size + 1 < w1.heap.size := (by omega)); (try have : w.heap.size + 1 < w1.heap.size + 1 := (by omega)); (try have : w.heap.size + 1 < w1.heap.size + 1 + 1 := (by omega)); (try have : w.heap.size + 1 + 1 < w1.heap.size := (by omega)); (try have : w.heap.size + 1 + 1 < w1.heap.size + 1 := (by omega)); (try have : w.heap.size + 1 + 1 < w1.heap.size + 1 + 1 := (by omega))
    go_wp2_with fail; refine (k2 _ (by repeat (first | exact Below.refl _ _ | refine below_dN ?_ _ | refine Below.drew ?_ | refine Below.alloc ?_ (by first | omega | (simp; done) | (simp; omega)) _ | refine Below.setCell ?_ (by first | omega | (simp; done) | (simp; omega)) _ | refine below_step (by assumption) (by first | omega | (simp; done) | (simp; omega)) ?_))).mono ?_; rintro e w2 ⟨rfl, hb2⟩; obtain ⟨hc2, hf2, hz2, hlt2, hle2⟩ := cellsIf hb2 (by (try simp); exact rfl); (try have : w.heap.size < w2.heap.size := (by omega)); (try have : w.heap.size < w2.heap.size + 1 := (by omega)); (try have : w.heap.size < w2.heap.size + 1 + 1 := (by omega)); (try have : w.heap.size + 1 < w2.heap.size := (by omega)); (try have : w.heap.size + 1 < w2.heap.size + 1 := (by omega)); (try have : w.heap.size + 1 < w2.heap.size + 1 + 1 := (by omega)); (try have : w.heap.size + 1 + 1 < w2.heap.size := (by omega)); (try have : w.heap.size + 1 + 1 < w2.heap.size + 1 := (by omega)); (try have : w.heap.size + 1 + 1 < w2.heap.size + 1 + 1 := (by omega)); (try have : w1.heap.size < w2.heap.size := (by omega)); (try have : w1.heap.size < w2.heap.size + 1 := (by omega)); (try have : w1.heap.size < w2.heap.size + 1 + 1 := (by omega)); (try have : w1.heap.size + 1 < w2.heap.size := (by omega)); (try have : w1.heap.size + 1 < w2.heap.size + 1 := (by omega)); (try have : w1.heap.size + 1 < w2.heap.size + 1 + 1 := (by omega)); (try have : w1.heap.size + 1 + 1 < w2.heap.size := (by omega)); (try have : w1.heap.size + 1 + 1 < w2.heap.size + 1 := (by omega)); (try have : w1.heap.size + 1 + 1 < w2.heap.size + 1 + 1 := (by omega))
    go_wp2
    refine bodyPost_ret (v := .tuple #[.slice none 0 0, .int .i64 0, .int .i64 5]) (by simp [results, Try.results43, go_sem]) rfl ⟨rrun_err Hs.out, by repeat (first | exact Below.refl _ _ | refine below_dN ?_ _ | refine Below.drew ?_ | refine Below.alloc ?_ (by first | omega | (simp; done) | (simp; omega)) _ | refine Below.setCell ?_ (by first | omega | (simp; done) | (simp; omega)) _ | refine below_step (by assumption) (by first | omega | (simp; done) | (simp; omega)) ?_)⟩
  have Hs := Lib.hid (show runR t s plan = runS t plan s 0 by rw [Hr.out, e1, if_pos rfl, if_neg (by simpa using e2)])
  have lp2 : plan.length ≤ 65536 := by simp at e2; omega
  go_enter Try.func43, Try.ntmps43
  go_wp2_with fail; refine (k1 _ (by repeat (first | exact Below.refl _ _ | refine below_dN ?_ _ | refine Below.drew ?_ | refine Below.alloc ?_ (by first | omega | (simp; done) | (simp; omega)) _ | refine Below.setCell ?_ (by first | omega | (simp; done) | (simp; omega)) _ | refine below_step (by assumption) (by first | omega | (simp; done) | (simp; omega)) ?_))).mono ?_; rintro e w1 ⟨rfl, hb1⟩; obtain ⟨hc1, hf1, hz1, hlt1, hle1⟩ := cellsIf hb1 (by (try simp); exact rfl); (try have : w.heap.size < w1.heap.size := (by omega)); (try have : w.heap.size < w1.heap.size + 1 := (by omega)); (try have : w.heap.size < w1.heap.size + 1 + 1 := (by omega)); (try have : w.heap.size + 1 < w1.heap.size := (by omega)); (try have : w.heap.size + 1 < w1.heap.size + 1 := (by omega)); (try have : w.heap.size + 1 < w1.heap.size + 1 + 1 := (by omega)); (try have : w.heap.size + 1 + 1 < w1.heap.size := (by omega)); (try have : w.heap.size + 1 + 1 < w1.heap.size + 1 := (by omega)); (try have : w.heap.size + 1 + 1 < w1.heap.size + 1 + 1 := (by omega))
  go_wp2_with fail; refine (k2 _ (by repeat (first | exact Below.refl _ _ | refine below_dN ?_ _ | refine Below.drew ?_ | refine Below.alloc ?_ (by first | omega | (simp; done) | (simp; omega)) _ | refine Below.setCell ?_ (by first | omega | (simp; done) | (simp; omega)) _ | refine below_step (by assumption) (by first | omega | (simp; done) | (simp; omega)) ?_))).mono ?_; rintro e w2 ⟨rfl, hb2⟩; obtain ⟨hc2, hf2, hz2, hlt2, hle2⟩ := cellsIf hb2 (by (try simp); exact rfl); (try have : w.heap.size < w2.heap.size := (by omega)); (try have : w.heap.size < w2.heap.size + 1 := (by omega)); (try have : w.heap.size < w2.heap.size + 1 + 1 := (by omega)); (try have : w.heap.size + 1 < w2.heap.size := (by omega)); (try have : w.heap.size + 1 < w2.heap.size + 1 := (by omega)); (try have : w.heap.size + 1 < w2.heap.size + 1 + 1 := (by omega)); (try have : w.heap.size + 1 + 1 < w2.heap.size := (by omega)); (try have : w.heap.size + 1 + 1 < w2.heap.size + 1 := (by omega)); (try have : w.heap.size + 1 + 1 < w2.heap.size + 1 + 1 := (by omega)); (try have : w1.heap.size < w2.heap.size := (by omega)); (try have : w1.heap.size < w2.heap.size + 1 := (by omega)); (try have : w1.heap.size < w2.heap.size + 1 + 1 := (by omega)); (try have : w1.heap.size + 1 < w2.heap.size := (by omega)); (try have : w1.heap.size + 1 < w2.heap.size + 1 := (by omega)); (try have : w1.heap.size + 1 < w2.heap.size + 1 + 1 := (by omega)); (try have : w1.heap.size + 1 + 1 < w2.heap.size := (by omega)); (try have : w1.heap.size + 1 + 1 < w2.heap.size + 1 := (by omega)); (try have : w1.heap.size + 1 + 1 < w2.heap.size + 1 + 1 := (by omega))
  have hbw3 : Below w.heap.size w w2 := by repeat (first | exact Below.refl _ _ | refine below_dN ?_ _ | refine Below.drew ?_ | refine Below.alloc ?_ (by first | omega | (simp; done) | (simp; omega)) _ | refine Below.setCell ?_ (by first | omega | (simp; done) | (simp; omega)) _ | refine below_step (by assumption) (by first | omega | (simp; done) | (simp; omega)) ?_)
  have hbx : Boxed w2 w.heap.size t ⟨av, ai, ag, ao, cv, ci, cg, co⟩ := (Boxed.up (by constructor <;> simp) hb1).up hb2
  go_wp2
  go_loopw [1, 10, 30] (fun v n i wr => ∃ (k : Nat) (l : List Int) (B : Option Addr) (d : Nat) (m : Int), k ≤ plan.length ∧ i = .int .i64 k ∧ v = .slice B l.length d ∧ IntsAt wr wr.heap.size B l ∧ (B = none → d = 0) ∧ n = .int .i64 m ∧ 0 ≤ m ∧ m ≤ k * 1048576 ∧ RunIs t plan s k l m ∧ Boxed wr w.heap.size t ⟨av, ai, ag, ao, cv, ci, cg, co⟩ ∧ Below w.heap.size w wr) (fun _ _ i _ => plan.length - (intOf i).toNat)
  case atStart => exact ⟨0, s, A, c, 0, by omega, rfl, rfl, hs.up hbw3, HA.out, rfl, by omega, by omega, rfl, hbx, hbw3⟩
  case round =>
    clear hc1 hc2 hf1 hf2 hlt1 hlt2 hle1 hle2 hb1 hb2 hbw3 hbx
    obtain ⟨k, l, B, d, m, hk, rfl, rfl, hl, hB, rfl, hm0, hm1, hrun, hbox, hbel⟩ := hrel
    have HB := Lib.hid hB
    have Hrun := Lib.hid hrun
    clear hB hrun
    by_cases hlt : k < plan.length
    · obtain ⟨b1, o1, ea, hb1, hc1⟩ := hp.at_ hlt
      subst ea
      have d1 := (hbel.cell (p := ⟨b1, o1 + k, none⟩) hb1).trans (hc1 k hlt)
      have hbz := hbel.size
      clear hc1
      obtain ⟨op, hop⟩ : ∃ op, op = nth plan k := ⟨_, rfl⟩
      rw [← hop] at d1
      have Hop := Lib.hid hop
      clear hop
      obtain ⟨z0, y0, y1, y2, y3⟩ := id hbox
      dsimp only at y0 y1 y2 y3
      by_cases e4 : apC t l op = 0
      · have Hap := Lib.hid e4
        have hok := ap_ok e4
        obtain ⟨j, rfl⟩ : ∃ j : Nat, op = (j : Int) := ⟨op.toNat, by omega⟩
        have hj : j < t.ops.length := by omega
        have hco := out_cost Hk.out.2.1 hj
        have hco0 := hco.1
        have hco1 := hco.2
        clear hco hok
        have k6 := k5 wr l B d hbel hl HB.out j
        have Hrl := Lib.hid (show rapL t l j = nxt t l j by unfold rapL; rw [Hra.out, e4]; rfl)
        unfold RapRet at k6
        rw [Hra.out, e4, Hrl.out] at k6
        clear e4
        obtain ⟨b, o, S, d', T, d2, ea, hb, q0, qs, q1, q2, f2, q3, e5⟩ := ht.ops.at2 hbel hj
        dsimp only at ea
        subst ea
        have g2 : b < wr.heap.size := by omega
        clear q0 qs q2 f2 q3 e5
        go_wp2_with fail
        refine k6.mono ?_
        rintro e w4 ⟨⟨v, rfl, hown⟩, hb4⟩
        obtain ⟨B', d3, rfl, hB', hgot⟩ := hown
        have HB' := Lib.hid hB'
        have Hgot := Lib.hid hgot
        clear hB' hgot
        obtain ⟨hc4, hf4, hz4, hlt4, hle4⟩ := cellsIf hb4 (by (try simp); exact rfl)
        have x1 : IntKind.i64.wrap (m + (opr t.ops j).cost) = m + (opr t.ops j).cost := IntWalk.i64_in _ (by omega)
        have x2 : (j : Int) < t.ops.length := by omega
        go_wp2_with fail
        go_quiet (fail)
        clear x1
        go_wp2
        go_roundw
        case rel => exact ⟨k + 1, nxt t l j, B', d3, _, by omega, by go_num, rfl, (show IntsAt w4 w4.heap.size B' (nxt t l j) from Hgot.out).keep (fun _ _ => rfl) (Nat.le_refl _), HB'.out, rfl, by omega, by omega, run_step Hrun.out hlt Hop.out Hap.out, hbox.up (by repeat (first | exact Below.refl _ _ | refine below_dN ?_ _ | refine Below.drew ?_ | refine Below.alloc ?_ (by first | omega | (simp; done) | (simp; omega)) _ | refine Below.setCell ?_ (by first | omega | (simp; done) | (simp; omega)) _ | refine below_step (by assumption) (by first | omega | (simp; done) | (simp; omega)) ?_)), by repeat (first | exact Below.refl _ _ | refine below_dN ?_ _ | refine Below.drew ?_ | refine Below.alloc ?_ (by first | omega | (simp; done) | (simp; omega)) _ | refine Below.setCell ?_ (by first | omega | (simp; done) | (simp; omega)) _ | refine below_step (by assumption) (by first | omega | (simp; done) | (simp; omega)) ?_)⟩
        case measure => simp [intOf]; omega
      · have Hr2 := Lib.hid (Hs.out.trans (run_stop Hrun.out hlt Hop.out e4))
        have e5 : ((apC t l op : Int) != 0) = true := by simpa using e4
        have k6 := k5 wr l B d hbel hl HB.out op
        unfold RapRet at k6
        rw [Hra.out] at k6
        clear e4
        go_wp2_with fail
        refine k6.mono ?_
        rintro e w4 ⟨⟨v, rfl, _⟩, hb4⟩
        go_wp2
        refine bodyPost_ret (v := .tuple #[.slice none 0 0, .int .i64 0, .int .i64 (apC t l op)]) (by simp [results, Try.results43, go_sem]) rfl ⟨rrun_err Hr2.out, by repeat (first | exact Below.refl _ _ | refine below_dN ?_ _ | refine Below.drew ?_ | refine Below.alloc ?_ (by first | omega | (simp; done) | (simp; omega)) _ | refine Below.setCell ?_ (by first | omega | (simp; done) | (simp; omega)) _ | refine below_step (by assumption) (by first | omega | (simp; done) | (simp; omega)) ?_)⟩
    · obtain rfl : k = plan.length := by omega
      have Hr2 := Lib.hid (Hs.out.trans (run_end Hrun.out))
      go_wp2
      refine bodyPost_ret (v := .tuple #[.slice B l.length d, .int .i64 m, .int .i64 0]) (by simp [results, Try.results43, go_sem]) rfl ⟨⟨_, by rw [Hr2.out], by rw [Hr2.out]; exact ⟨B, d, rfl, HB.out, hl⟩⟩, by repeat (first | exact Below.refl _ _ | refine below_dN ?_ _ | refine Below.drew ?_ | refine Below.alloc ?_ (by first | omega | (simp; done) | (simp; omega)) _ | refine Below.setCell ?_ (by first | omega | (simp; done) | (simp; omega)) _ | refine below_step (by assumption) (by first | omega | (simp; done) | (simp; omega)) ?_)⟩

/-- A plan's cost and error. -/
def solR (t : Tsk) (plan : List Int) : Int × Int :=
  if (runR t t.init plan).2.2 = 0 then (if hoB t.goal (runR t t.init plan).1 then ((runR t t.init plan).2.1, 0) else (0, 13)) else (0, (runR t t.init plan).2.2)

theorem runS_cost {t : Tsk} : ∀ (plan s : List Int) (n : Int), (runS t plan s n).2.2 ≠ 0 → (runS t plan s n).2.1 = 0
  | [], s, n, h => absurd rfl h
  | op :: r, s, n, h => by
    unfold runS at h ⊢
    split
    · rename_i h0; rw [if_pos h0] at h; exact runS_cost r _ _ h
    · rfl
theorem run_cost {t : Tsk} {s plan : List Int} (h : (runR t s plan).2.2 ≠ 0) : (runR t s plan).2.1 = 0 := by
  unfold runR at h ⊢
  split
  · rename_i h0
    rw [if_pos h0] at h
    split
    · rename_i h1
      rw [if_pos h1] at h
      split
      · rfl
      · rename_i h2; rw [if_neg h2] at h; exact runS_cost _ _ _ h
    · rfl
  · rfl

set_option maxRecDepth 4000 in
set_option maxHeartbeats 2000000 in
theorem tsolves_any (t : Tsk) (p : Lies) (plan : List Int) (P : Option Addr) (q : Nat) (w : World) (ht : TaskAt w w.heap.size t p) (hp : IntsAt w w.heap.size P plan) :
    Calls Try.prog 44 #[TaskV t p, .slice P plan.length q] w fun e w' => e = .returned (.tuple #[.int .i64 (solR t plan).1, erV (solR t plan).2]) ∧ Below w.heap.size w w' := by
  have k1 := fun w1 (hb : Below w.heap.size w w1) => trun_any t p t.init plan p.ai P p.ci q w1 (ht.up hb) (ht.init.up hb) (hp.up hb)
  have k2 := fun w1 l B c (hb : Below w.heap.size w w1) (hl : IntsAt w1 w1.heap.size B l) => holds_any t.goal l p.ag B p.cg c w1 (ht.goal.up hb) hl
  obtain ⟨av, ai, ag, ao, cv, ci, cg, co⟩ := p
  unfold TaskV at *
  dsimp only at *
  obtain ⟨r, hr⟩ : ∃ r, r = runR t t.init plan := ⟨_, rfl⟩
  have Hsol := Lib.hid (show solR t plan = if r.2.2 = 0 then (if hoB t.goal r.1 then (r.2.1, 0) else (0, 13)) else (0, r.2.2) by unfold solR; rw [← hr])
  unfold TrunRet at k1
  rw [← hr] at k1
  clear hr
  obtain ⟨l, n, code⟩ := r
  dsimp only at *
  by_cases e0 : code = 0
  · subst e0
    simp only [erV_0] at k1
    go_enter Try.func44, Try.ntmps44
    go_wp2_with fail
    refine (k1 _ (by repeat (first | exact Below.refl _ _ | refine below_dN ?_ _ | refine Below.drew ?_ | refine Below.alloc ?_ (by first | omega | (simp; done) | (simp; omega)) _ | refine Below.setCell ?_ (by first | omega | (simp; done) | (simp; omega)) _ | refine below_step (by assumption) (by first | omega | (simp; done) | (simp; omega)) ?_))).mono ?_
    rintro e w1 ⟨⟨v, rfl, B, d, rfl, _, hgot⟩, hb1⟩
    obtain ⟨hc1, hf1, hz1, hlt1, hle1⟩ := cellsIf hb1 (by (try simp); exact rfl)
    have hbw1 : Below w.heap.size w w1 := by repeat (first | exact Below.refl _ _ | refine below_dN ?_ _ | refine Below.drew ?_ | refine Below.alloc ?_ (by first | omega | (simp; done) | (simp; omega)) _ | refine Below.setCell ?_ (by first | omega | (simp; done) | (simp; omega)) _ | refine below_step (by assumption) (by first | omega | (simp; done) | (simp; omega)) ?_)
    have k3 := k2 w1 l B d hbw1 hgot
    cases e1 : hoB t.goal l
    · have Hs := Lib.hid (show solR t plan = (0, 13) by rw [Hsol.out]; simp [e1])
      go_wp2_with fail; refine (k3).mono ?_; rintro e w2 ⟨rfl, hb2⟩; obtain ⟨hc2, hf2, hz2, hlt2, hle2⟩ := cellsIf hb2 (by (try simp); exact rfl); (try have : w.heap.size < w2.heap.size := (by omega)); (try have : w.heap.size < w2.heap.size + 1 := (by omega)); (try have : w.heap.size < w2.heap.size + 1 + 1 := (by omega)); (try have : w.heap.size + 1 < w2.heap.size := (by omega)); (try have : w.heap.size + 1 < w2.heap.size + 1 := (by omega)); (try have : w.heap.size + 1 < w2.heap.size + 1 + 1 := (by omega)); (try have : w.heap.size + 1 + 1 < w2.heap.size := (by omega)); (try have : w.heap.size + 1 + 1 < w2.heap.size + 1 := (by omega)); (try have : w.heap.size + 1 + 1 < w2.heap.size + 1 + 1 := (by omega)); (try have : w1.heap.size < w2.heap.size := (by omega)); (try have : w1.heap.size < w2.heap.size + 1 := (by omega)); (try have : w1.heap.size < w2.heap.size + 1 + 1 := (by omega)); (try have : w1.heap.size + 1 < w2.heap.size := (by omega)); (try have : w1.heap.size + 1 < w2.heap.size + 1 := (by omega)); (try have : w1.heap.size + 1 < w2.heap.size + 1 + 1 := (by omega)); (try have : w1.heap.size + 1 + 1 < w2.heap.size := (by omega)); (try have : w1.heap.size + 1 + 1 < w2.heap.size + 1 := (by omega)); (try have : w1.heap.size + 1 + 1 < w2.heap.size + 1 + 1 := (by omega))
      go_wp2
      refine bodyPost_ret (v := .tuple #[.int .i64 0, .iface 90 (.int .i64 13)]) (by simp [results, Try.results44, go_sem]) rfl ⟨by rw [Hs.out]; rfl, by repeat (first | exact Below.refl _ _ | refine below_dN ?_ _ | refine Below.drew ?_ | refine Below.alloc ?_ (by first | omega | (simp; done) | (simp; omega)) _ | refine Below.setCell ?_ (by first | omega | (simp; done) | (simp; omega)) _ | refine below_step (by assumption) (by first | omega | (simp; done) | (simp; omega)) ?_)⟩
    · have Hs := Lib.hid (show solR t plan = (n, 0) by rw [Hsol.out]; simp [e1])
      go_wp2_with fail; refine (k3).mono ?_; rintro e w2 ⟨rfl, hb2⟩; obtain ⟨hc2, hf2, hz2, hlt2, hle2⟩ := cellsIf hb2 (by (try simp); exact rfl); (try have : w.heap.size < w2.heap.size := (by omega)); (try have : w.heap.size < w2.heap.size + 1 := (by omega)); (try have : w.heap.size < w2.heap.size + 1 + 1 := (by omega)); (try have : w.heap.size + 1 < w2.heap.size := (by omega)); (try have : w.heap.size + 1 < w2.heap.size + 1 := (by omega)); (try have : w.heap.size + 1 < w2.heap.size + 1 + 1 := (by omega)); (try have : w.heap.size + 1 + 1 < w2.heap.size := (by omega)); (try have : w.heap.size + 1 + 1 < w2.heap.size + 1 := (by omega)); (try have : w.heap.size + 1 + 1 < w2.heap.size + 1 + 1 := (by omega)); (try have : w1.heap.size < w2.heap.size := (by omega)); (try have : w1.heap.size < w2.heap.size + 1 := (by omega)); (try have : w1.heap.size < w2.heap.size + 1 + 1 := (by omega)); (try have : w1.heap.size + 1 < w2.heap.size := (by omega)); (try have : w1.heap.size + 1 < w2.heap.size + 1 := (by omega)); (try have : w1.heap.size + 1 < w2.heap.size + 1 + 1 := (by omega)); (try have : w1.heap.size + 1 + 1 < w2.heap.size := (by omega)); (try have : w1.heap.size + 1 + 1 < w2.heap.size + 1 := (by omega)); (try have : w1.heap.size + 1 + 1 < w2.heap.size + 1 + 1 := (by omega))
      go_wp2
      refine bodyPost_ret (v := .tuple #[.int .i64 n, .nilIface]) (by simp [results, Try.results44, go_sem]) rfl ⟨by rw [Hs.out]; rfl, by repeat (first | exact Below.refl _ _ | refine below_dN ?_ _ | refine Below.drew ?_ | refine Below.alloc ?_ (by first | omega | (simp; done) | (simp; omega)) _ | refine Below.setCell ?_ (by first | omega | (simp; done) | (simp; omega)) _ | refine below_step (by assumption) (by first | omega | (simp; done) | (simp; omega)) ?_)⟩
  · have He := Lib.hid (erV_ne e0)
    have Hs := Lib.hid (show solR t plan = (0, code) by rw [Hsol.out, if_neg e0])
    simp only [He.out] at k1
    clear e0
    go_enter Try.func44, Try.ntmps44
    go_wp2_with fail
    refine (k1 _ (by repeat (first | exact Below.refl _ _ | refine below_dN ?_ _ | refine Below.drew ?_ | refine Below.alloc ?_ (by first | omega | (simp; done) | (simp; omega)) _ | refine Below.setCell ?_ (by first | omega | (simp; done) | (simp; omega)) _ | refine below_step (by assumption) (by first | omega | (simp; done) | (simp; omega)) ?_))).mono ?_
    rintro e w1 ⟨⟨v, rfl, _⟩, hb1⟩
    go_wp2
    refine bodyPost_ret (v := .tuple #[.int .i64 0, .iface 90 (.int .i64 code)]) (by simp [results, Try.results44, go_sem]) rfl ⟨by rw [Hs.out, ← He.out], by repeat (first | exact Below.refl _ _ | refine below_dN ?_ _ | refine Below.drew ?_ | refine Below.alloc ?_ (by first | omega | (simp; done) | (simp; omega)) _ | refine Below.setCell ?_ (by first | omega | (simp; done) | (simp; omega)) _ | refine below_step (by assumption) (by first | omega | (simp; done) | (simp; omega)) ?_)⟩

set_option maxRecDepth 4000 in
set_option maxHeartbeats 2000000 in
theorem rsolves_any (t : Tsk) (p : Lies) (plan : List Int) (P : Option Addr) (q : Nat) (w : World) (ht : TaskAt w w.heap.size t p) (hi : p.ai = none → p.ci = 0) (hp : IntsAt w w.heap.size P plan) :
    Calls Try.prog 45 #[TaskV t p, .slice P plan.length q] w fun e w' => e = .returned (.tuple #[.int .i64 (solR t plan).1, .int .i64 (solR t plan).2]) ∧ Below w.heap.size w w' := by
  have k1 := fun w1 (hb : Below w.heap.size w w1) => rrun_any t p t.init plan p.ai P p.ci q w1 (ht.up hb) (ht.init.up hb) hi (hp.up hb)
  have k2 := fun w1 l B c (hb : Below w.heap.size w w1) (hl : IntsAt w1 w1.heap.size B l) => bholds_any t.goal l p.ag B p.cg c w1 (ht.goal.up hb) hl
  obtain ⟨av, ai, ag, ao, cv, ci, cg, co⟩ := p
  unfold TaskV at *
  dsimp only at *
  clear hi
  have Hcost := Lib.hid (run_cost (t := t) (s := t.init) (plan := plan))
  obtain ⟨r, hr⟩ : ∃ r, r = runR t t.init plan := ⟨_, rfl⟩
  have Hsol := Lib.hid (show solR t plan = if r.2.2 = 0 then (if hoB t.goal r.1 then (r.2.1, 0) else (0, 13)) else (0, r.2.2) by unfold solR; rw [← hr])
  unfold RrunRet at k1
  rw [← hr] at k1 Hcost
  clear hr
  obtain ⟨l, n, code⟩ := r
  dsimp only at *
  by_cases e0 : code = 0
  · subst e0
    go_enter Try.func45, Try.ntmps45
    go_wp2_with fail
    refine (k1 _ (by repeat (first | exact Below.refl _ _ | refine below_dN ?_ _ | refine Below.drew ?_ | refine Below.alloc ?_ (by first | omega | (simp; done) | (simp; omega)) _ | refine Below.setCell ?_ (by first | omega | (simp; done) | (simp; omega)) _ | refine below_step (by assumption) (by first | omega | (simp; done) | (simp; omega)) ?_))).mono ?_
    rintro e w1 ⟨⟨v, rfl, B, d, rfl, _, hgot⟩, hb1⟩
    obtain ⟨hc1, hf1, hz1, hlt1, hle1⟩ := cellsIf hb1 (by (try simp); exact rfl)
    have hbw1 : Below w.heap.size w w1 := by repeat (first | exact Below.refl _ _ | refine below_dN ?_ _ | refine Below.drew ?_ | refine Below.alloc ?_ (by first | omega | (simp; done) | (simp; omega)) _ | refine Below.setCell ?_ (by first | omega | (simp; done) | (simp; omega)) _ | refine below_step (by assumption) (by first | omega | (simp; done) | (simp; omega)) ?_)
    have k3 := k2 w1 l B d hbw1 hgot
    cases e1 : hoB t.goal l
    · have Hs := Lib.hid (show solR t plan = (0, 13) by rw [Hsol.out]; simp [e1])
      go_wp2_with fail; refine (k3).mono ?_; rintro e w2 ⟨rfl, hb2⟩; obtain ⟨hc2, hf2, hz2, hlt2, hle2⟩ := cellsIf hb2 (by (try simp); exact rfl); (try have : w.heap.size < w2.heap.size := (by omega)); (try have : w.heap.size < w2.heap.size + 1 := (by omega)); (try have : w.heap.size < w2.heap.size + 1 + 1 := (by omega)); (try have : w.heap.size + 1 < w2.heap.size := (by omega)); (try have : w.heap.size + 1 < w2.heap.size + 1 := (by omega)); (try have : w.heap.size + 1 < w2.heap.size + 1 + 1 := (by omega)); (try have : w.heap.size + 1 + 1 < w2.heap.size := (by omega)); (try have : w.heap.size + 1 + 1 < w2.heap.size + 1 := (by omega)); (try have : w.heap.size + 1 + 1 < w2.heap.size + 1 + 1 := (by omega)); (try have : w1.heap.size < w2.heap.size := (by omega)); (try have : w1.heap.size < w2.heap.size + 1 := (by omega)); (try have : w1.heap.size < w2.heap.size + 1 + 1 := (by omega)); (try have : w1.heap.size + 1 < w2.heap.size := (by omega)); (try have : w1.heap.size + 1 < w2.heap.size + 1 := (by omega)); (try have : w1.heap.size + 1 < w2.heap.size + 1 + 1 := (by omega)); (try have : w1.heap.size + 1 + 1 < w2.heap.size := (by omega)); (try have : w1.heap.size + 1 + 1 < w2.heap.size + 1 := (by omega)); (try have : w1.heap.size + 1 + 1 < w2.heap.size + 1 + 1 := (by omega))
      go_wp2
      refine bodyPost_ret (v := .tuple #[.int .i64 0, .int .i64 13]) (by simp [results, Try.results45, go_sem]) rfl ⟨by rw [Hs.out], by repeat (first | exact Below.refl _ _ | refine below_dN ?_ _ | refine Below.drew ?_ | refine Below.alloc ?_ (by first | omega | (simp; done) | (simp; omega)) _ | refine Below.setCell ?_ (by first | omega | (simp; done) | (simp; omega)) _ | refine below_step (by assumption) (by first | omega | (simp; done) | (simp; omega)) ?_)⟩
    · have Hs := Lib.hid (show solR t plan = (n, 0) by rw [Hsol.out]; simp [e1])
      go_wp2_with fail; refine (k3).mono ?_; rintro e w2 ⟨rfl, hb2⟩; obtain ⟨hc2, hf2, hz2, hlt2, hle2⟩ := cellsIf hb2 (by (try simp); exact rfl); (try have : w.heap.size < w2.heap.size := (by omega)); (try have : w.heap.size < w2.heap.size + 1 := (by omega)); (try have : w.heap.size < w2.heap.size + 1 + 1 := (by omega)); (try have : w.heap.size + 1 < w2.heap.size := (by omega)); (try have : w.heap.size + 1 < w2.heap.size + 1 := (by omega)); (try have : w.heap.size + 1 < w2.heap.size + 1 + 1 := (by omega)); (try have : w.heap.size + 1 + 1 < w2.heap.size := (by omega)); (try have : w.heap.size + 1 + 1 < w2.heap.size + 1 := (by omega)); (try have : w.heap.size + 1 + 1 < w2.heap.size + 1 + 1 := (by omega)); (try have : w1.heap.size < w2.heap.size := (by omega)); (try have : w1.heap.size < w2.heap.size + 1 := (by omega)); (try have : w1.heap.size < w2.heap.size + 1 + 1 := (by omega)); (try have : w1.heap.size + 1 < w2.heap.size := (by omega)); (try have : w1.heap.size + 1 < w2.heap.size + 1 := (by omega)); (try have : w1.heap.size + 1 < w2.heap.size + 1 + 1 := (by omega)); (try have : w1.heap.size + 1 + 1 < w2.heap.size := (by omega)); (try have : w1.heap.size + 1 + 1 < w2.heap.size + 1 := (by omega)); (try have : w1.heap.size + 1 + 1 < w2.heap.size + 1 + 1 := (by omega))
      go_wp2
      refine bodyPost_ret (v := .tuple #[.int .i64 n, .int .i64 0]) (by simp [results, Try.results45, go_sem]) rfl ⟨by rw [Hs.out], by repeat (first | exact Below.refl _ _ | refine below_dN ?_ _ | refine Below.drew ?_ | refine Below.alloc ?_ (by first | omega | (simp; done) | (simp; omega)) _ | refine Below.setCell ?_ (by first | omega | (simp; done) | (simp; omega)) _ | refine below_step (by assumption) (by first | omega | (simp; done) | (simp; omega)) ?_)⟩
  · have Hs := Lib.hid (show solR t plan = (0, code) by rw [Hsol.out, if_neg e0])
    have e1 : ((code : Int) == 0) = false := by simpa using e0
    have e2 : ((code : Int) != 0) = true := by simpa using e0
    obtain rfl : n = 0 := Hcost.out e0
    clear e0
    go_enter Try.func45, Try.ntmps45
    go_wp2_with fail
    refine (k1 _ (by repeat (first | exact Below.refl _ _ | refine below_dN ?_ _ | refine Below.drew ?_ | refine Below.alloc ?_ (by first | omega | (simp; done) | (simp; omega)) _ | refine Below.setCell ?_ (by first | omega | (simp; done) | (simp; omega)) _ | refine below_step (by assumption) (by first | omega | (simp; done) | (simp; omega)) ?_))).mono ?_
    rintro e w1 ⟨⟨v, rfl, _⟩, hb1⟩
    go_wp2
    refine bodyPost_ret (v := .tuple #[.int .i64 0, .int .i64 code]) (by simp [results, Try.results45, go_sem]) rfl ⟨by rw [Hs.out], by repeat (first | exact Below.refl _ _ | refine below_dN ?_ _ | refine Below.drew ?_ | refine Below.alloc ?_ (by first | omega | (simp; done) | (simp; omega)) _ | refine Below.setCell ?_ (by first | omega | (simp; done) | (simp; omega)) _ | refine below_step (by assumption) (by first | omega | (simp; done) | (simp; omega)) ?_)⟩

end Go.Proofs.Ytbbgbogenkcooaa
