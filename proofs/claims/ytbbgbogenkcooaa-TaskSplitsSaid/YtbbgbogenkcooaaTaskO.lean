/- ref05.Apply, task.Apply. -/
import Derived.Test.YtbbgbogenkcooaaTaskN
namespace Go.Proofs.Ytbbgbogenkcooaa
set_option linter.unusedSimpArgs false
set_option linter.unusedVariables false
open Go.RowKit
set_option linter.unusedVariables false

theorem chk0 {t : Tsk} (h : chkC t = 0) : lgT t = false ∧ outT t = false ∧ malT t = false ∧ misT t = false := by
  unfold chkC at h
  cases e1 : lgT t <;> cases e2 : outT t <;> cases e3 : malT t <;> cases e4 : misT t <;> simp_all
/-- The number of Apply's error. -/
def rapC (t : Tsk) (s : List Int) (op : Int) : Int := if chkC t = 0 then apC t s op else chkC t
def rapL (t : Tsk) (s : List Int) (op : Int) : List Int := if rapC t s op = 0 then nxt t s op.toNat else []
/-- What Apply returns. -/
def RapRet (t : Tsk) (s : List Int) (op : Int) (e : Ending) (w' : World) : Prop := ∃ v, e = .returned (.tuple #[v, .int .i64 (rapC t s op)]) ∧ GotInts w' v (rapL t s op)
def TapRet (t : Tsk) (s : List Int) (op : Int) (e : Ending) (w' : World) : Prop := ∃ v, e = .returned (.tuple #[v, erV (rapC t s op)]) ∧ GotInts w' v (rapL t s op)
theorem rap_err {t : Tsk} {s : List Int} {op c : Int} {w' : World} (hc : rapC t s op = c) (h0 : c ≠ 0) : RapRet t s op (.returned (.tuple #[.slice none 0 0, .int .i64 c])) w' :=
  ⟨_, by rw [hc], by unfold rapL; rw [hc, if_neg h0]; exact got_nil w'⟩

set_option maxRecDepth 4000 in
set_option maxHeartbeats 2000000 in
theorem rapply_any (t : Tsk) (p : Lies) (s : List Int) (A : Option Addr) (c : Nat) (op : Int) (w : World) (ht : TaskAt w w.heap.size t p) (hs : IntsAt w w.heap.size A s) (hA : A = none → c = 0) :
    Calls Try.prog 48 #[TaskV t p, .slice A s.length c, .int .i64 op] w fun e w' => RapRet t s op e w' ∧ Below w.heap.size w w' := by
  have HA := Lib.hid hA
  clear hA
  have k1 := fun w1 (hb : Below w.heap.size w w1) => rcheck_any t p w1 (ht.up hb)
  have k2 := fun w1 (hb : Below w.heap.size w w1) => state_any t.vars s p.av A p.cv c w1 (ht.vars.up hb) (hs.up hb)
  have k3 := fun w1 (k : Nat) h1 h2 h3 h4 (hb : Below w.heap.size w w1) => bapply_any t p s A c k w1 (ht.up hb) (hs.up hb) HA.out h1 h2 h3 h4
  obtain ⟨av, ai, ag, ao, cv, ci, cg, co⟩ := p
  unfold TaskV at *
  dsimp only at *
  have l4 := ht.ops.len
  have ls := hs.len
  by_cases e0 : chkC t = 0
  case neg =>
    have Hr := Lib.hid (show rapC t s op = chkC t by unfold rapC; rw [if_neg e0])
    have E0 := Lib.hid e0
    have e1 : ((chkC t : Int) != 0) = true := by simpa using e0
    have e2 : ((chkC t : Int) == 0) = false := by simpa using e0
    clear e0
    go_enter Try.func48, Try.ntmps48
    go_wp2_with fail; refine (k1 _ (by repeat (first | exact Below.refl _ _ | refine below_dN ?_ _ | refine Below.drew ?_ | refine Below.alloc ?_ (by first | omega | (simp; done) | (simp; omega)) _ | refine Below.setCell ?_ (by first | omega | (simp; done) | (simp; omega)) _ | refine below_step (by assumption) (by first | omega | (simp; done) | (simp; omega)) ?_))).mono ?_; rintro e w1 ⟨rfl, hb1⟩; obtain ⟨hc1, hf1, hz1, hlt1, hle1⟩ := cellsIf hb1 (by (try simp); exact rfl); (try have : w.heap.size < w1.heap.size := (by omega)); (try have : w.heap.size < w1.heap.size + 1 := (by omega)); (try have : w.heap.size < w1.heap.size + 1 + 1 := (by omega)); (try have : w.heap.size + 1 < w1.heap.size := (by omega)); (try have : w.heap.size + 1 < w1.heap.size + 1 := (by omega)); (try have : w.heap.size + 1 < w1.heap.size + 1 + 1 := (by omega)); (try have : w.heap.size + 1 + 1 < w1.heap.size := (by omega)); (try have : w.heap.size + 1 + 1 < w1.heap.size + 1 := (by omega)); (try have : w.heap.size + 1 + 1 < w1.heap.size + 1 + 1 := (by omega))
    go_wp2
    refine bodyPost_ret (v := .tuple #[.slice none 0 0, .int .i64 (chkC t)]) (by simp [results, Try.results48, go_sem]) rfl ⟨rap_err Hr.out E0.out, by repeat (first | exact Below.refl _ _ | refine below_dN ?_ _ | refine Below.drew ?_ | refine Below.alloc ?_ (by first | omega | (simp; done) | (simp; omega)) _ | refine Below.setCell ?_ (by first | omega | (simp; done) | (simp; omega)) _ | refine below_step (by assumption) (by first | omega | (simp; done) | (simp; omega)) ?_)⟩
  have Hk := Lib.hid (chk0 e0)
  have Hr := Lib.hid (show rapC t s op = apC t s op by unfold rapC; rw [if_pos e0])
  simp only [e0] at k1
  clear e0
  cases e1 : decide (op < 0)
  case true =>
    have Hc := Lib.hid (show rapC t s op = 1 by rw [Hr.out]; unfold apC; rw [if_pos (by simpa using e1)])
    go_enter Try.func48, Try.ntmps48
    go_wp2_with fail; refine (k1 _ (by repeat (first | exact Below.refl _ _ | refine below_dN ?_ _ | refine Below.drew ?_ | refine Below.alloc ?_ (by first | omega | (simp; done) | (simp; omega)) _ | refine Below.setCell ?_ (by first | omega | (simp; done) | (simp; omega)) _ | refine below_step (by assumption) (by first | omega | (simp; done) | (simp; omega)) ?_))).mono ?_; rintro e w1 ⟨rfl, hb1⟩; obtain ⟨hc1, hf1, hz1, hlt1, hle1⟩ := cellsIf hb1 (by (try simp); exact rfl); (try have : w.heap.size < w1.heap.size := (by omega)); (try have : w.heap.size < w1.heap.size + 1 := (by omega)); (try have : w.heap.size < w1.heap.size + 1 + 1 := (by omega)); (try have : w.heap.size + 1 < w1.heap.size := (by omega)); (try have : w.heap.size + 1 < w1.heap.size + 1 := (by omega)); (try have : w.heap.size + 1 < w1.heap.size + 1 + 1 := (by omega)); (try have : w.heap.size + 1 + 1 < w1.heap.size := (by omega)); (try have : w.heap.size + 1 + 1 < w1.heap.size + 1 := (by omega)); (try have : w.heap.size + 1 + 1 < w1.heap.size + 1 + 1 := (by omega))
    go_wp2
    refine bodyPost_ret (v := .tuple #[.slice none 0 0, .int .i64 1]) (by simp [results, Try.results48, go_sem]) rfl ⟨rap_err Hc.out (by decide), by repeat (first | exact Below.refl _ _ | refine below_dN ?_ _ | refine Below.drew ?_ | refine Below.alloc ?_ (by first | omega | (simp; done) | (simp; omega)) _ | refine Below.setCell ?_ (by first | omega | (simp; done) | (simp; omega)) _ | refine below_step (by assumption) (by first | omega | (simp; done) | (simp; omega)) ?_)⟩
  cases e2 : decide ((t.ops.length : Int) ≤ op)
  case true =>
    have Hc := Lib.hid (show rapC t s op = 1 by rw [Hr.out]; unfold apC; rw [if_neg (by simpa using e1), if_pos (by simpa using e2)])
    go_enter Try.func48, Try.ntmps48
    go_wp2_with fail; refine (k1 _ (by repeat (first | exact Below.refl _ _ | refine below_dN ?_ _ | refine Below.drew ?_ | refine Below.alloc ?_ (by first | omega | (simp; done) | (simp; omega)) _ | refine Below.setCell ?_ (by first | omega | (simp; done) | (simp; omega)) _ | refine below_step (by assumption) (by first | omega | (simp; done) | (simp; omega)) ?_))).mono ?_; rintro e w1 ⟨rfl, hb1⟩; obtain ⟨hc1, hf1, hz1, hlt1, hle1⟩ := cellsIf hb1 (by (try simp); exact rfl); (try have : w.heap.size < w1.heap.size := (by omega)); (try have : w.heap.size < w1.heap.size + 1 := (by omega)); (try have : w.heap.size < w1.heap.size + 1 + 1 := (by omega)); (try have : w.heap.size + 1 < w1.heap.size := (by omega)); (try have : w.heap.size + 1 < w1.heap.size + 1 := (by omega)); (try have : w.heap.size + 1 < w1.heap.size + 1 + 1 := (by omega)); (try have : w.heap.size + 1 + 1 < w1.heap.size := (by omega)); (try have : w.heap.size + 1 + 1 < w1.heap.size + 1 := (by omega)); (try have : w.heap.size + 1 + 1 < w1.heap.size + 1 + 1 := (by omega))
    go_wp2
    refine bodyPost_ret (v := .tuple #[.slice none 0 0, .int .i64 1]) (by simp [results, Try.results48, go_sem]) rfl ⟨rap_err Hc.out (by decide), by repeat (first | exact Below.refl _ _ | refine below_dN ?_ _ | refine Below.drew ?_ | refine Below.alloc ?_ (by first | omega | (simp; done) | (simp; omega)) _ | refine Below.setCell ?_ (by first | omega | (simp; done) | (simp; omega)) _ | refine below_step (by assumption) (by first | omega | (simp; done) | (simp; omega)) ?_)⟩
  obtain ⟨k, rfl⟩ : ∃ k : Nat, op = (k : Int) := ⟨op.toNat, by simp at e1; omega⟩
  have hlt : k < t.ops.length := by simp at e2; omega
  have hC : rapC t s k = if stB t.vars s then (if hoB (opr t.ops k).pre s then 0 else 12) else 2 := by
    rw [Hr.out]; unfold apC; rw [if_neg (by simp), if_neg (by simpa using e2)]; rfl
  have HC := Lib.hid hC
  clear hC e1
  cases e3 : stB t.vars s
  case false =>
    have Hc := Lib.hid (show rapC t s k = 2 by rw [HC.out, e3]; rfl)
    go_enter Try.func48, Try.ntmps48
    go_wp2_with fail; refine (k1 _ (by repeat (first | exact Below.refl _ _ | refine below_dN ?_ _ | refine Below.drew ?_ | refine Below.alloc ?_ (by first | omega | (simp; done) | (simp; omega)) _ | refine Below.setCell ?_ (by first | omega | (simp; done) | (simp; omega)) _ | refine below_step (by assumption) (by first | omega | (simp; done) | (simp; omega)) ?_))).mono ?_; rintro e w1 ⟨rfl, hb1⟩; obtain ⟨hc1, hf1, hz1, hlt1, hle1⟩ := cellsIf hb1 (by (try simp); exact rfl); (try have : w.heap.size < w1.heap.size := (by omega)); (try have : w.heap.size < w1.heap.size + 1 := (by omega)); (try have : w.heap.size < w1.heap.size + 1 + 1 := (by omega)); (try have : w.heap.size + 1 < w1.heap.size := (by omega)); (try have : w.heap.size + 1 < w1.heap.size + 1 := (by omega)); (try have : w.heap.size + 1 < w1.heap.size + 1 + 1 := (by omega)); (try have : w.heap.size + 1 + 1 < w1.heap.size := (by omega)); (try have : w.heap.size + 1 + 1 < w1.heap.size + 1 := (by omega)); (try have : w.heap.size + 1 + 1 < w1.heap.size + 1 + 1 := (by omega))
    go_wp2_with fail; refine (k2 _ (by repeat (first | exact Below.refl _ _ | refine below_dN ?_ _ | refine Below.drew ?_ | refine Below.alloc ?_ (by first | omega | (simp; done) | (simp; omega)) _ | refine Below.setCell ?_ (by first | omega | (simp; done) | (simp; omega)) _ | refine below_step (by assumption) (by first | omega | (simp; done) | (simp; omega)) ?_))).mono ?_; rintro e w2 ⟨rfl, hb2⟩; obtain ⟨hc2, hf2, hz2, hlt2, hle2⟩ := cellsIf hb2 (by (try simp); exact rfl); (try have : w.heap.size < w2.heap.size := (by omega)); (try have : w.heap.size < w2.heap.size + 1 := (by omega)); (try have : w.heap.size < w2.heap.size + 1 + 1 := (by omega)); (try have : w.heap.size + 1 < w2.heap.size := (by omega)); (try have : w.heap.size + 1 < w2.heap.size + 1 := (by omega)); (try have : w.heap.size + 1 < w2.heap.size + 1 + 1 := (by omega)); (try have : w.heap.size + 1 + 1 < w2.heap.size := (by omega)); (try have : w.heap.size + 1 + 1 < w2.heap.size + 1 := (by omega)); (try have : w.heap.size + 1 + 1 < w2.heap.size + 1 + 1 := (by omega)); (try have : w1.heap.size < w2.heap.size := (by omega)); (try have : w1.heap.size < w2.heap.size + 1 := (by omega)); (try have : w1.heap.size < w2.heap.size + 1 + 1 := (by omega)); (try have : w1.heap.size + 1 < w2.heap.size := (by omega)); (try have : w1.heap.size + 1 < w2.heap.size + 1 := (by omega)); (try have : w1.heap.size + 1 < w2.heap.size + 1 + 1 := (by omega)); (try have : w1.heap.size + 1 + 1 < w2.heap.size := (by omega)); (try have : w1.heap.size + 1 + 1 < w2.heap.size + 1 := (by omega)); (try have : w1.heap.size + 1 + 1 < w2.heap.size + 1 + 1 := (by omega))
    go_wp2
    refine bodyPost_ret (v := .tuple #[.slice none 0 0, .int .i64 2]) (by simp [results, Try.results48, go_sem]) rfl ⟨rap_err Hc.out (by decide), by repeat (first | exact Below.refl _ _ | refine below_dN ?_ _ | refine Below.drew ?_ | refine Below.alloc ?_ (by first | omega | (simp; done) | (simp; omega)) _ | refine Below.setCell ?_ (by first | omega | (simp; done) | (simp; omega)) _ | refine below_step (by assumption) (by first | omega | (simp; done) | (simp; omega)) ?_)⟩
  have E3 := Lib.hid e3
  cases e4 : hoB (opr t.ops k).pre s
  case false =>
    have Hc := Lib.hid (show rapC t s k = 12 by rw [HC.out, e3, e4]; rfl)
    have k4 := fun w1 (hb : Below w.heap.size w w1) => k3 w1 k Hk.out.1 Hk.out.2.2.1 E3.out hlt hb
    simp only [e4] at k4
    clear k3
    go_enter Try.func48, Try.ntmps48
    go_wp2_with fail; refine (k1 _ (by repeat (first | exact Below.refl _ _ | refine below_dN ?_ _ | refine Below.drew ?_ | refine Below.alloc ?_ (by first | omega | (simp; done) | (simp; omega)) _ | refine Below.setCell ?_ (by first | omega | (simp; done) | (simp; omega)) _ | refine below_step (by assumption) (by first | omega | (simp; done) | (simp; omega)) ?_))).mono ?_; rintro e w1 ⟨rfl, hb1⟩; obtain ⟨hc1, hf1, hz1, hlt1, hle1⟩ := cellsIf hb1 (by (try simp); exact rfl); (try have : w.heap.size < w1.heap.size := (by omega)); (try have : w.heap.size < w1.heap.size + 1 := (by omega)); (try have : w.heap.size < w1.heap.size + 1 + 1 := (by omega)); (try have : w.heap.size + 1 < w1.heap.size := (by omega)); (try have : w.heap.size + 1 < w1.heap.size + 1 := (by omega)); (try have : w.heap.size + 1 < w1.heap.size + 1 + 1 := (by omega)); (try have : w.heap.size + 1 + 1 < w1.heap.size := (by omega)); (try have : w.heap.size + 1 + 1 < w1.heap.size + 1 := (by omega)); (try have : w.heap.size + 1 + 1 < w1.heap.size + 1 + 1 := (by omega))
    go_wp2_with fail; refine (k2 _ (by repeat (first | exact Below.refl _ _ | refine below_dN ?_ _ | refine Below.drew ?_ | refine Below.alloc ?_ (by first | omega | (simp; done) | (simp; omega)) _ | refine Below.setCell ?_ (by first | omega | (simp; done) | (simp; omega)) _ | refine below_step (by assumption) (by first | omega | (simp; done) | (simp; omega)) ?_))).mono ?_; rintro e w2 ⟨rfl, hb2⟩; obtain ⟨hc2, hf2, hz2, hlt2, hle2⟩ := cellsIf hb2 (by (try simp); exact rfl); (try have : w.heap.size < w2.heap.size := (by omega)); (try have : w.heap.size < w2.heap.size + 1 := (by omega)); (try have : w.heap.size < w2.heap.size + 1 + 1 := (by omega)); (try have : w.heap.size + 1 < w2.heap.size := (by omega)); (try have : w.heap.size + 1 < w2.heap.size + 1 := (by omega)); (try have : w.heap.size + 1 < w2.heap.size + 1 + 1 := (by omega)); (try have : w.heap.size + 1 + 1 < w2.heap.size := (by omega)); (try have : w.heap.size + 1 + 1 < w2.heap.size + 1 := (by omega)); (try have : w.heap.size + 1 + 1 < w2.heap.size + 1 + 1 := (by omega)); (try have : w1.heap.size < w2.heap.size := (by omega)); (try have : w1.heap.size < w2.heap.size + 1 := (by omega)); (try have : w1.heap.size < w2.heap.size + 1 + 1 := (by omega)); (try have : w1.heap.size + 1 < w2.heap.size := (by omega)); (try have : w1.heap.size + 1 < w2.heap.size + 1 := (by omega)); (try have : w1.heap.size + 1 < w2.heap.size + 1 + 1 := (by omega)); (try have : w1.heap.size + 1 + 1 < w2.heap.size := (by omega)); (try have : w1.heap.size + 1 + 1 < w2.heap.size + 1 := (by omega)); (try have : w1.heap.size + 1 + 1 < w2.heap.size + 1 + 1 := (by omega))
    go_wp2_with fail
    refine (k4 _ (by repeat (first | exact Below.refl _ _ | refine below_dN ?_ _ | refine Below.drew ?_ | refine Below.alloc ?_ (by first | omega | (simp; done) | (simp; omega)) _ | refine Below.setCell ?_ (by first | omega | (simp; done) | (simp; omega)) _ | refine below_step (by assumption) (by first | omega | (simp; done) | (simp; omega)) ?_))).mono ?_
    rintro e w3 ⟨⟨v, rfl, hg⟩, hb3⟩
    go_wp2
    refine bodyPost_ret (v := .tuple #[.slice none 0 0, .int .i64 12]) (by simp [results, Try.results48, go_sem]) rfl ⟨rap_err Hc.out (by decide), by repeat (first | exact Below.refl _ _ | refine below_dN ?_ _ | refine Below.drew ?_ | refine Below.alloc ?_ (by first | omega | (simp; done) | (simp; omega)) _ | refine Below.setCell ?_ (by first | omega | (simp; done) | (simp; omega)) _ | refine below_step (by assumption) (by first | omega | (simp; done) | (simp; omega)) ?_)⟩
  case true =>
    have Hc := Lib.hid (show rapC t s k = 0 by rw [HC.out, e3, e4]; rfl)
    have k4 := fun w1 (hb : Below w.heap.size w w1) => k3 w1 k Hk.out.1 Hk.out.2.2.1 E3.out hlt hb
    simp only [e4] at k4
    clear k3
    go_enter Try.func48, Try.ntmps48
    go_wp2_with fail; refine (k1 _ (by repeat (first | exact Below.refl _ _ | refine below_dN ?_ _ | refine Below.drew ?_ | refine Below.alloc ?_ (by first | omega | (simp; done) | (simp; omega)) _ | refine Below.setCell ?_ (by first | omega | (simp; done) | (simp; omega)) _ | refine below_step (by assumption) (by first | omega | (simp; done) | (simp; omega)) ?_))).mono ?_; rintro e w1 ⟨rfl, hb1⟩; obtain ⟨hc1, hf1, hz1, hlt1, hle1⟩ := cellsIf hb1 (by (try simp); exact rfl); (try have : w.heap.size < w1.heap.size := (by omega)); (try have : w.heap.size < w1.heap.size + 1 := (by omega)); (try have : w.heap.size < w1.heap.size + 1 + 1 := (by omega)); (try have : w.heap.size + 1 < w1.heap.size := (by omega)); (try have : w.heap.size + 1 < w1.heap.size + 1 := (by omega)); (try have : w.heap.size + 1 < w1.heap.size + 1 + 1 := (by omega)); (try have : w.heap.size + 1 + 1 < w1.heap.size := (by omega)); (try have : w.heap.size + 1 + 1 < w1.heap.size + 1 := (by omega)); (try have : w.heap.size + 1 + 1 < w1.heap.size + 1 + 1 := (by omega))
    go_wp2_with fail; refine (k2 _ (by repeat (first | exact Below.refl _ _ | refine below_dN ?_ _ | refine Below.drew ?_ | refine Below.alloc ?_ (by first | omega | (simp; done) | (simp; omega)) _ | refine Below.setCell ?_ (by first | omega | (simp; done) | (simp; omega)) _ | refine below_step (by assumption) (by first | omega | (simp; done) | (simp; omega)) ?_))).mono ?_; rintro e w2 ⟨rfl, hb2⟩; obtain ⟨hc2, hf2, hz2, hlt2, hle2⟩ := cellsIf hb2 (by (try simp); exact rfl); (try have : w.heap.size < w2.heap.size := (by omega)); (try have : w.heap.size < w2.heap.size + 1 := (by omega)); (try have : w.heap.size < w2.heap.size + 1 + 1 := (by omega)); (try have : w.heap.size + 1 < w2.heap.size := (by omega)); (try have : w.heap.size + 1 < w2.heap.size + 1 := (by omega)); (try have : w.heap.size + 1 < w2.heap.size + 1 + 1 := (by omega)); (try have : w.heap.size + 1 + 1 < w2.heap.size := (by omega)); (try have : w.heap.size + 1 + 1 < w2.heap.size + 1 := (by omega)); (try have : w.heap.size + 1 + 1 < w2.heap.size + 1 + 1 := (by omega)); (try have : w1.heap.size < w2.heap.size := (by omega)); (try have : w1.heap.size < w2.heap.size + 1 := (by omega)); (try have : w1.heap.size < w2.heap.size + 1 + 1 := (by omega)); (try have : w1.heap.size + 1 < w2.heap.size := (by omega)); (try have : w1.heap.size + 1 < w2.heap.size + 1 := (by omega)); (try have : w1.heap.size + 1 < w2.heap.size + 1 + 1 := (by omega)); (try have : w1.heap.size + 1 + 1 < w2.heap.size := (by omega)); (try have : w1.heap.size + 1 + 1 < w2.heap.size + 1 := (by omega)); (try have : w1.heap.size + 1 + 1 < w2.heap.size + 1 + 1 := (by omega))
    go_wp2_with fail
    refine (k4 _ (by repeat (first | exact Below.refl _ _ | refine below_dN ?_ _ | refine Below.drew ?_ | refine Below.alloc ?_ (by first | omega | (simp; done) | (simp; omega)) _ | refine Below.setCell ?_ (by first | omega | (simp; done) | (simp; omega)) _ | refine below_step (by assumption) (by first | omega | (simp; done) | (simp; omega)) ?_))).mono ?_
    rintro e w3 ⟨⟨v, rfl, hg⟩, hb3⟩
    have Hg := Lib.hid hg
    clear hg
    go_wp2
    refine bodyPost_ret (v := .tuple #[v, .int .i64 0]) (by simp [results, Try.results48, go_sem]) rfl ⟨⟨v, by rw [Hc.out], ?_⟩, by repeat (first | exact Below.refl _ _ | refine below_dN ?_ _ | refine Below.drew ?_ | refine Below.alloc ?_ (by first | omega | (simp; done) | (simp; omega)) _ | refine Below.setCell ?_ (by first | omega | (simp; done) | (simp; omega)) _ | refine below_step (by assumption) (by first | omega | (simp; done) | (simp; omega)) ?_)⟩
    unfold rapL
    rw [Hc.out, if_pos rfl]
    exact Hg.out

set_option maxRecDepth 4000 in
set_option maxHeartbeats 2000000 in
theorem tapply_any (t : Tsk) (p : Lies) (s : List Int) (A : Option Addr) (c : Nat) (op : Int) (w : World) (ht : TaskAt w w.heap.size t p) (hs : IntsAt w w.heap.size A s) :
    Calls Try.prog 47 #[TaskV t p, .slice A s.length c, .int .i64 op] w fun e w' => TapRet t s op e w' ∧ Below w.heap.size w w' := by
  have k1 := fun w1 (hb : Below w.heap.size w w1) => tcheck_any t p w1 (ht.up hb)
  have k3 := fun w1 h1 h2 (hb : Below w.heap.size w w1) => apply_any t p s A c op w1 (ht.up hb) (hs.up hb) h1 h2
  obtain ⟨av, ai, ag, ao, cv, ci, cg, co⟩ := p
  unfold TaskV at *
  dsimp only at *
  by_cases e0 : chkC t = 0
  case neg =>
    have Hr := Lib.hid (show rapC t s op = chkC t by unfold rapC; rw [if_neg e0])
    have E0 := Lib.hid e0
    have He := Lib.hid (show erV (chkC t) = .iface 90 (.int .i64 (chkC t)) by unfold erV; rw [if_neg e0])
    simp only [He.out] at k1
    clear e0
    go_enter Try.func47, Try.ntmps47
    go_wp2_with fail; refine (k1 _ (by repeat (first | exact Below.refl _ _ | refine below_dN ?_ _ | refine Below.drew ?_ | refine Below.alloc ?_ (by first | omega | (simp; done) | (simp; omega)) _ | refine Below.setCell ?_ (by first | omega | (simp; done) | (simp; omega)) _ | refine below_step (by assumption) (by first | omega | (simp; done) | (simp; omega)) ?_))).mono ?_; rintro e w1 ⟨rfl, hb1⟩; obtain ⟨hc1, hf1, hz1, hlt1, hle1⟩ := cellsIf hb1 (by (try simp); exact rfl); (try have : w.heap.size < w1.heap.size := (by omega)); (try have : w.heap.size < w1.heap.size + 1 := (by omega)); (try have : w.heap.size < w1.heap.size + 1 + 1 := (by omega)); (try have : w.heap.size + 1 < w1.heap.size := (by omega)); (try have : w.heap.size + 1 < w1.heap.size + 1 := (by omega)); (try have : w.heap.size + 1 < w1.heap.size + 1 + 1 := (by omega)); (try have : w.heap.size + 1 + 1 < w1.heap.size := (by omega)); (try have : w.heap.size + 1 + 1 < w1.heap.size + 1 := (by omega)); (try have : w.heap.size + 1 + 1 < w1.heap.size + 1 + 1 := (by omega))
    go_wp2
    refine bodyPost_ret (v := .tuple #[.slice none 0 0, .iface 90 (.int .i64 (chkC t))]) (by simp [results, Try.results47, go_sem]) rfl ⟨⟨_, by rw [Hr.out, He.out], by unfold rapL; rw [Hr.out, if_neg E0.out]; exact got_nil _⟩, by repeat (first | exact Below.refl _ _ | refine below_dN ?_ _ | refine Below.drew ?_ | refine Below.alloc ?_ (by first | omega | (simp; done) | (simp; omega)) _ | refine Below.setCell ?_ (by first | omega | (simp; done) | (simp; omega)) _ | refine below_step (by assumption) (by first | omega | (simp; done) | (simp; omega)) ?_)⟩
  have Hk := Lib.hid (chk0 e0)
  have Hr := Lib.hid (show rapC t s op = apC t s op by unfold rapC; rw [if_pos e0])
  simp only [e0, erV_0] at k1
  have Hs := Lib.hid (stB_len (vars := t.vars) (s := s))
  have Hl := Lib.hid hs.len
  clear e0
  go_enter Try.func47, Try.ntmps47
  go_wp2_with fail; refine (k1 _ (by repeat (first | exact Below.refl _ _ | refine below_dN ?_ _ | refine Below.drew ?_ | refine Below.alloc ?_ (by first | omega | (simp; done) | (simp; omega)) _ | refine Below.setCell ?_ (by first | omega | (simp; done) | (simp; omega)) _ | refine below_step (by assumption) (by first | omega | (simp; done) | (simp; omega)) ?_))).mono ?_; rintro e w1 ⟨rfl, hb1⟩; obtain ⟨hc1, hf1, hz1, hlt1, hle1⟩ := cellsIf hb1 (by (try simp); exact rfl); (try have : w.heap.size < w1.heap.size := (by omega)); (try have : w.heap.size < w1.heap.size + 1 := (by omega)); (try have : w.heap.size < w1.heap.size + 1 + 1 := (by omega)); (try have : w.heap.size + 1 < w1.heap.size := (by omega)); (try have : w.heap.size + 1 < w1.heap.size + 1 := (by omega)); (try have : w.heap.size + 1 < w1.heap.size + 1 + 1 := (by omega)); (try have : w.heap.size + 1 + 1 < w1.heap.size := (by omega)); (try have : w.heap.size + 1 + 1 < w1.heap.size + 1 := (by omega)); (try have : w.heap.size + 1 + 1 < w1.heap.size + 1 + 1 := (by omega))
  go_wp2_with fail
  refine (k3 _ Hk.out.1 Hk.out.2.2.1 (by repeat (first | exact Below.refl _ _ | refine below_dN ?_ _ | refine Below.drew ?_ | refine Below.alloc ?_ (by first | omega | (simp; done) | (simp; omega)) _ | refine Below.setCell ?_ (by first | omega | (simp; done) | (simp; omega)) _ | refine below_step (by assumption) (by first | omega | (simp; done) | (simp; omega)) ?_))).mono ?_
  rintro e w2 ⟨⟨v, rfl, hg, hn⟩, hb2⟩
  have Hg := Lib.hid hg
  have Hn := Lib.hid hn
  clear hg hn
  have hbw : Below w.heap.size w w2 := by repeat (first | exact Below.refl _ _ | refine below_dN ?_ _ | refine Below.drew ?_ | refine Below.alloc ?_ (by first | omega | (simp; done) | (simp; omega)) _ | refine Below.setCell ?_ (by first | omega | (simp; done) | (simp; omega)) _ | refine below_step (by assumption) (by first | omega | (simp; done) | (simp; omega)) ?_)
  go_wp2
  refine bodyPost_ret (v := .tuple #[v, erV (apC t s op)]) (by simp [results, Try.results47, go_sem]) rfl ⟨⟨v, by rw [Hr.out], ?_⟩, hbw⟩
  unfold rapL
  rw [Hr.out]
  by_cases h : apC t s op = 0
  · rw [if_pos h]
    exact own_got (by rw [nxt_len]; exact Hg.out h) (by rw [nxt_len]; exact Hl.out)
  · rw [if_neg h, Hn.out h]
    exact got_nil _

end Go.Proofs.Ytbbgbogenkcooaa
