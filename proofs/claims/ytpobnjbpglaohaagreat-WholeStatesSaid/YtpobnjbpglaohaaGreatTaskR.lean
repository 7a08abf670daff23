/- task.Run, ref05.Run. -/
import Derived.Test.YtpobnjbpglaohaaGreatTaskP
import Derived.Test.YtpobnjbpglaohaaGreatWgB
import Derived.IntWalk
namespace Go.Proofs.YtpobnjbpglaohaaGreat
set_option linter.unusedSimpArgs false
set_option linter.unusedVariables false
open Go.RowKit
set_option linter.unusedVariables false

/-- A plan executed: the last state, the cost, the number of the first error. -/
def runS (t : Tsk) : List Int → List Int → Int → List Int × Int × Int
  | [], s, c => (s, c, 0)
  | op :: r, s, c => if apC t s op = 0 then runS t r (nxt t s op.toNat) (c + (opr t.ops op.toNat).cost) else ([], 0, apC t s op)
def runR (t : Tsk) (s plan : List Int) : List Int × Int × Int := if chkC t = 0 then (if stB t.vars s then (if 65536 < (plan.length : Int) then ([], 0, 5) else runS t plan s 0) else ([], 0, 2)) else ([], 0, chkC t)
def TrunRet (t : Tsk) (s plan : List Int) (e : Ending) (w' : World) : Prop := ∃ v, e = .returned (.tuple #[v, .int .i64 (runR t s plan).2.1, erV (runR t s plan).2.2]) ∧ GotInts w' v (runR t s plan).1
def RrunRet (t : Tsk) (s plan : List Int) (e : Ending) (w' : World) : Prop := ∃ v, e = .returned (.tuple #[v, .int .i64 (runR t s plan).2.1, .int .i64 (runR t s plan).2.2]) ∧ GotInts w' v (runR t s plan).1
/-- Where a run stands behind k steps. -/
def RunIs (t : Tsk) (plan s : List Int) (k : Nat) (l : List Int) (n : Int) : Prop := runS t plan s 0 = runS t (plan.drop k) l n
theorem drop_nth {l : List Int} {k : Nat} (h : k < l.length) : l.drop k = nth l k :: l.drop (k + 1) := by
  rw [List.drop_eq_getElem_cons h]; unfold nth; simp [List.getD, List.getElem?_eq_getElem h]
theorem run_step {t : Tsk} {plan s : List Int} {k : Nat} {l : List Int} {n op : Int} (h : RunIs t plan s k l n) (hk : k < plan.length) (ho : op = nth plan k) (h0 : apC t l op = 0) : RunIs t plan s (k + 1) (nxt t l op.toNat) (n + (opr t.ops op.toNat).cost) := by
  unfold RunIs at *
  rw [h, drop_nth hk, ← ho]
  conv => lhs; unfold runS
  rw [if_pos h0]
theorem run_stop {t : Tsk} {plan s : List Int} {k : Nat} {l : List Int} {n op : Int} (h : RunIs t plan s k l n) (hk : k < plan.length) (ho : op = nth plan k) (h0 : apC t l op ≠ 0) : runS t plan s 0 = ([], 0, apC t l op) := by
  unfold RunIs at *
  rw [h, drop_nth hk, ← ho]
  conv => lhs; unfold runS
  rw [if_neg h0]
theorem run_end {t : Tsk} {plan s : List Int} {l : List Int} {n : Int} (h : RunIs t plan s plan.length l n) : runS t plan s 0 = (l, n, 0) := by
  unfold RunIs at h
  rw [h, List.drop_length]; rfl
theorem ap_ok {t : Tsk} {s : List Int} {op : Int} (h : apC t s op = 0) : 0 ≤ op ∧ op < t.ops.length ∧ stB t.vars s = true ∧ hoB (opr t.ops op.toNat).pre s = true := by
  unfold apC at h
  by_cases h1 : op < 0
  · rw [if_pos h1] at h; cases h
  rw [if_neg h1] at h
  by_cases h2 : (t.ops.length : Int) ≤ op
  · rw [if_pos h2] at h; cases h
  rw [if_neg h2] at h
  cases h3 : stB t.vars s
  · rw [h3] at h; simp at h
  cases h4 : hoB (opr t.ops op.toNat).pre s
  · rw [h3, h4] at h; simp at h
  exact ⟨by omega, by omega, rfl, rfl⟩
theorem out_cost {t : Tsk} (h : outT t = false) {k : Nat} (hk : k < t.ops.length) : 0 ≤ (opr t.ops k).cost ∧ (opr t.ops k).cost ≤ 1048576 := by
  unfold outT at h
  simp only [Bool.or_eq_false_iff, anyB_false] at h
  have := h.2 k hk
  simp at this; omega
theorem trun_err {t : Tsk} {s plan : List Int} {c : Int} {w' : World} (hc : runR t s plan = ([], 0, c)) : TrunRet t s plan (.returned (.tuple #[.slice none 0 0, .int .i64 0, erV c])) w' := ⟨_, by rw [hc], by rw [hc]; exact got_nil w'⟩
theorem rrun_err {t : Tsk} {s plan : List Int} {c : Int} {w' : World} (hc : runR t s plan = ([], 0, c)) : RrunRet t s plan (.returned (.tuple #[.slice none 0 0, .int .i64 0, .int .i64 c])) w' := ⟨_, by rw [hc], by rw [hc]; exact got_nil w'⟩
theorem erV_ne {c : Int} (h : c ≠ 0) : erV c = .iface 72 (.int .i64 c) := by unfold erV; rw [if_neg h]

set_option maxRecDepth 4000 in
set_option maxHeartbeats 4000000 in
theorem trun_any (t : Tsk) (p : Lies) (s plan : List Int) (A P : Option Addr) (c q : Nat) (w : World) (ht : TaskAt w w.heap.size t p) (hs : IntsAt w w.heap.size A s) (hp : IntsAt w w.heap.size P plan) :
    Calls Tryz.prog 23 #[TaskV t p, .slice A s.length c, .slice P plan.length q] w fun e w' => TrunRet t s plan e w' ∧ Below w.heap.size w w' := by
  have k1 := fun w1 (hb : Below w.heap.size w w1) => tcheck_any t p w1 (ht.up hb)
  have k2 := fun w1 (hb : Below w.heap.size w w1) => proper_any t.vars s p.av A p.cv c w1 (ht.vars.up hb) (hs.up hb)
  have k5 := fun w1 l B c h1 h2 (hb : Below w.heap.size w w1) (hl : IntsAt w1 w1.heap.size B l) op => apply_any t p l B c op w1 (ht.up hb) hl h1 h2
  obtain ⟨av, ai, ag, ao, cv, ci, cg, co⟩ := p
  unfold TaskV at *
  dsimp only at *
  have l4 := ht.ops.len
  have lp := hp.len
  by_cases e0 : chkC t = 0
  case neg =>
    have Hr := Lib.hid (show runR t s plan = ([], 0, chkC t) by unfold runR; rw [if_neg e0])
    have He := Lib.hid (erV_ne e0)
    simp only [He.out] at k1
    clear e0
    go_enter Tryz.func23, Tryz.ntmps23
    go_wp2_with fail; refine (k1 _ (by repeat (first | exact Below.refl _ _ | refine below_dN ?_ _ | refine Below.drew ?_ | refine Below.alloc ?_ (by first | omega | (simp; done) | (simp; omega)) _ | refine Below.setCell ?_ (by first | omega | (simp; done) | (simp; omega)) _ | refine below_step (by assumption) (by first | omega | (simp; done) | (simp; omega)) ?_))).mono ?_; rintro e w1 ⟨rfl, hb1⟩; obtain ⟨hc1, hf1, hz1, hlt1, hle1⟩ := cellsIf hb1 (by (try simp); exact rfl); (try have : w.heap.size < w1.heap.size := (by omega)); (try have : w.heap.size < w1.heap.size + 1 := (by omega)); (try have : w.heap.size < w1.heap.size + 1 + 1 := (by omega)); (try have : w.heap.size + 1 < w1.heap.size := (by omega)); (try have : w.heap.size + 1 < w1.heap.size + 1 := (by omega)); (try have : w.heap.size + 1 < w1.heap.size + 1 + 1 := (by omega)); (try have : w.heap.size + 1 + 1 < w1.heap.size := (by omega)); (try have : w.heap.size + 1 + 1 < w1.heap.size + 1 := (by omega)); (try have : w.heap.size + 1 + 1 < w1.heap.size + 1 + 1 := (by omega))
    go_wp2
    refine bodyPost_ret (v := .tuple #[.slice none 0 0, .int .i64 0, .iface 72 (.int .i64 (chkC t))]) (by simp [results, Tryz.results23, go_sem]) rfl ⟨by rw [← He.out]; exact trun_err Hr.out, by repeat (first | exact Below.refl _ _ | refine below_dN ?_ _ | refine Below.drew ?_ | refine Below.alloc ?_ (by first | omega | (simp; done) | (simp; omega)) _ | refine Below.setCell ?_ (by first | omega | (simp; done) | (simp; omega)) _ | refine below_step (by assumption) (by first | omega | (simp; done) | (simp; omega)) ?_)⟩
  have Hk := Lib.hid (chk0 e0)
  have Hr := Lib.hid (show runR t s plan = if stB t.vars s then (if 65536 < (plan.length : Int) then ([], 0, 5) else runS t plan s 0) else ([], 0, 2) by unfold runR; rw [if_pos e0])
  simp only [e0, erV_0] at k1
  clear e0
  cases e1 : stB t.vars s
  case false =>
    have Hs := Lib.hid (show runR t s plan = ([], 0, 2) by rw [Hr.out, e1]; rfl)
    go_enter Tryz.func23, Tryz.ntmps23
    go_wp2_with fail; refine (k1 _ (by repeat (first | exact Below.refl _ _ | refine below_dN ?_ _ | refine Below.drew ?_ | refine Below.alloc ?_ (by first | omega | (simp; done) | (simp; omega)) _ | refine Below.setCell ?_ (by first | omega | (simp; done) | (simp; omega)) _ | refine below_step (by assumption) (by first | omega | (simp; done) | (simp; omega)) ?_))).mono ?_; rintro e w1 ⟨rfl, hb1⟩; obtain ⟨hc1, hf1, hz1, hlt1, hle1⟩ := cellsIf hb1 (by (try simp); exact rfl); (try have : w.heap.size < w1.heap.size := (by omega)); (try have : w.heap.size < w1.heap.size + 1 := (by omega)); (try have : w.heap.size < w1.heap.size + 1 + 1 := (by omega)); (try have : w.heap.size + 1 < w1.heap.size := (by omega)); (try have : w.heap.size + 1 < w1.heap.size + 1 := (by omega)); (try have : w.heap.size + 1 < w1.heap.size + 1 + 1 := (by omega)); (try have : w.heap.size + 1 + 1 < w1.heap.size := (by omega)); (try have : w.heap.size + 1 + 1 < w1.heap.size + 1 := (by omega)); (try have : w.heap.size + 1 + 1 < w1.heap.size + 1 + 1 := (by omega))
    go_wp2_with fail; refine (k2 _ (by repeat (first | exact Below.refl _ _ | refine below_dN ?_ _ | refine Below.drew ?_ | refine Below.alloc ?_ (by first | omega | (simp; done) | (simp; omega)) _ | refine Below.setCell ?_ (by first | omega | (simp; done) | (simp; omega)) _ | refine below_step (by assumption) (by first | omega | (simp; done) | (simp; omega)) ?_))).mono ?_; rintro e w2 ⟨rfl, hb2⟩; obtain ⟨hc2, hf2, hz2, hlt2, hle2⟩ := cellsIf hb2 (by (try simp); exact rfl); (try have : w.heap.size < w2.heap.size := (by omega)); (try have : w.heap.size < w2.heap.size + 1 := (by omega)); (try have : w.heap.size < w2.heap.size + 1 + 1 := (by omega)); (try have : w.heap.size + 1 < w2.heap.size := (by omega)); (try have : w.heap.size + 1 < w2.heap.size + 1 := (by omega)); (try have : w.heap.size + 1 < w2.heap.size + 1 + 1 := (by omega)); (try have : w.heap.size + 1 + 1 < w2.heap.size := (by omega)); (try have : w.heap.size + 1 + 1 < w2.heap.size + 1 := (by omega)); (try have : w.heap.size + 1 + 1 < w2.heap.size + 1 + 1 := (by omega)); (try have : w1.heap.size < w2.heap.size := (by omega)); (try have : w1.heap.size < w2.heap.size + 1 := (by omega)); (try have : w1.heap.size < w2.heap.size + 1 + 1 := (by omega)); (try have : w1.heap.size + 1 < w2.heap.size := (by omega)); (try have : w1.heap.size + 1 < w2.heap.size + 1 := (by omega)); (try have : w1.heap.size + 1 < w2.heap.size + 1 + 1 := (by omega)); (try have : w1.heap.size + 1 + 1 < w2.heap.size := (by omega)); (try have : w1.heap.size + 1 + 1 < w2.heap.size + 1 := (by omega)); (try have : w1.heap.size + 1 + 1 < w2.heap.size + 1 + 1 := (by omega))
    go_wp2
    refine bodyPost_ret (v := .tuple #[.slice none 0 0, .int .i64 0, .iface 72 (.int .i64 2)]) (by simp [results, Tryz.results23, go_sem]) rfl ⟨trun_err Hs.out, by repeat (first | exact Below.refl _ _ | refine below_dN ?_ _ | refine Below.drew ?_ | refine Below.alloc ?_ (by first | omega | (simp; done) | (simp; omega)) _ | refine Below.setCell ?_ (by first | omega | (simp; done) | (simp; omega)) _ | refine below_step (by assumption) (by first | omega | (simp; done) | (simp; omega)) ?_)⟩
  cases e2 : decide (65536 < (plan.length : Int))
  case true =>
    have Hs := Lib.hid (show runR t s plan = ([], 0, 5) by rw [Hr.out, e1, if_pos rfl, if_pos (by simpa using e2)])
    go_enter Tryz.func23, Tryz.ntmps23
    go_wp2_with fail; refine (k1 _ (by repeat (first | exact Below.refl _ _ | refine below_dN ?_ _ | refine Below.drew ?_ | refine Below.alloc ?_ (by first | omega | (simp; done) | (simp; omega)) _ | refine Below.setCell ?_ (by first | omega | (simp; done) | (simp; omega)) _ | refine below_step (by assumption) (by first | omega | (simp; done) | (simp; omega)) ?_))).mono ?_; rintro e w1 ⟨rfl, hb1⟩; obtain ⟨hc1, hf1, hz1, hlt1, hle1⟩ := cellsIf hb1 (by (try simp); exact rfl); (try have : w.heap.size < w1.heap.size := (by omega)); (try have : w.heap.size < w1.heap.size + 1 := (by omega)); (try have : w.heap.size < w1.heap.size + 1 + 1 := (by omega)); (try have : w.heap.size + 1 < w1.heap.size := (by omega)); (try have : w.heap.size + 1 < w1.heap.size + 1 := (by omega)); (try have : w.heap.size + 1 < w1.heap.size + 1 + 1 := (by omega)); (try have : w.heap.size + 1 + 1 < w1.heap.size := (by omega)); (try have : w.heap.size + 1 + 1 < w1.heap.size + 1 := (by omega)); (try have : w.heap.size + 1 + 1 < w1.heap.size + 1 + 1 := (by omega))
    go_wp2_with fail; refine (k2 _ (by repeat (first | exact Below.refl _ _ | refine below_dN ?_ _ | refine Below.drew ?_ | refine Below.alloc ?_ (by first | omega | (simp; done) | (simp; omega)) _ | refine Below.setCell ?_ (by first | omega | (simp; done) | (simp; omega)) _ | refine below_step (by assumption) (by first | omega | (simp; done) | (simp; omega)) ?_))).mono ?_; rintro e w2 ⟨rfl, hb2⟩; obtain ⟨hc2, hf2, hz2, hlt2, hle2⟩ := cellsIf hb2 (by (try simp); exact rfl); (try have : w.heap.size < w2.heap.size := (by omega)); (try have : w.heap.size < w2.heap.size + 1 := (by omega)); (try have : w.heap.size < w2.heap.size + 1 + 1 := (by omega)); (try have : w.heap.size + 1 < w2.heap.size := (by omega)); (try have : w.heap.size + 1 < w2.heap.size + 1 := (by omega)); (try have : w.heap.size + 1 < w2.heap.size + 1 + 1 := (by omega)); (try have : w.heap.size + 1 + 1 < w2.heap.size := (by omega)); (try have : w.heap.size + 1 + 1 < w2.heap.size + 1 := (by omega)); (try have : w.heap.size + 1 + 1 < w2.heap.size + 1 + 1 := (by omega)); (try have : w1.heap.size < w2.heap.size := (by omega)); (try have : w1.heap.size < w2.heap.size + 1 := (by omega)); (try have : w1.heap.size < w2.heap.size + 1 + 1 := (by omega)); (try have : w1.heap.size + 1 < w2.heap.size := (by omega)); (try have : w1.heap.size + 1 < w2.heap.size + 1 := (by omega)); (try have : w1.heap.size + 1 < w2.heap.size + 1 + 1 := (by omega)); (try have : w1.heap.size + 1 + 1 < w2.heap.size := (by omega)); (try have : w1.heap.size + 1 + 1 < w2.heap.size + 1 := (by omega)); (try have : w1.heap.size + 1 + 1 < w2.heap.size + 1 + 1 := (by omega))
    go_wp2
    refine bodyPost_ret (v := .tuple #[.slice none 0 0, .int .i64 0, .iface 72 (.int .i64 5)]) (by simp [results, Tryz.results23, go_sem]) rfl ⟨trun_err Hs.out, by repeat (first | exact Below.refl _ _ | refine below_dN ?_ _ | refine Below.drew ?_ | refine Below.alloc ?_ (by first | omega | (simp; done) | (simp; omega)) _ | refine Below.setCell ?_ (by first | omega | (simp; done) | (simp; omega)) _ | refine below_step (by assumption) (by first | omega | (simp; done) | (simp; omega)) ?_)⟩
  have Hs := Lib.hid (show runR t s plan = runS t plan s 0 by rw [Hr.out, e1, if_pos rfl, if_neg (by simpa using e2)])
  have lp2 : plan.length ≤ 65536 := by simp at e2; omega
  have hsl : s.length ≤ 1000000 := by have := stB_len e1; have := lg_vars Hk.out.1; omega
  have k3 := fun w1 (hb : Below w.heap.size w w1) => clone_any s A c w1 (hs.up hb) hsl
  have Hsl := Lib.hid hsl
  clear hsl
  go_enter Tryz.func23, Tryz.ntmps23
  go_wp2_with fail; refine (k1 _ (by repeat (first | exact Below.refl _ _ | refine below_dN ?_ _ | refine Below.drew ?_ | refine Below.alloc ?_ (by first | omega | (simp; done) | (simp; omega)) _ | refine Below.setCell ?_ (by first | omega | (simp; done) | (simp; omega)) _ | refine below_step (by assumption) (by first | omega | (simp; done) | (simp; omega)) ?_))).mono ?_; rintro e w1 ⟨rfl, hb1⟩; obtain ⟨hc1, hf1, hz1, hlt1, hle1⟩ := cellsIf hb1 (by (try simp); exact rfl); (try have : w.heap.size < w1.heap.size := (by omega)); (try have : w.heap.size < w1.heap.size + 1 := (by omega)); (try have : w.heap.size < w1.heap.size + 1 + 1 := (by omega)); (try have : w.heap.size + 1 < w1.heap.size := (by omega)); (try have : w.heap.size + 1 < w1.heap.size + 1 := (by omega)); (try have : w.heap.size + 1 < w1.heap.size + 1 + 1 := (by omega)); (try have : w.heap.size + 1 + 1 < w1.heap.size := (by omega)); (try have : w.heap.size + 1 + 1 < w1.heap.size + 1 := (by omega)); (try have : w.heap.size + 1 + 1 < w1.heap.size + 1 + 1 := (by omega))
  go_wp2_with fail; refine (k2 _ (by repeat (first | exact Below.refl _ _ | refine below_dN ?_ _ | refine Below.drew ?_ | refine Below.alloc ?_ (by first | omega | (simp; done) | (simp; omega)) _ | refine Below.setCell ?_ (by first | omega | (simp; done) | (simp; omega)) _ | refine below_step (by assumption) (by first | omega | (simp; done) | (simp; omega)) ?_))).mono ?_; rintro e w2 ⟨rfl, hb2⟩; obtain ⟨hc2, hf2, hz2, hlt2, hle2⟩ := cellsIf hb2 (by (try simp); exact rfl); (try have : w.heap.size < w2.heap.size := (by omega)); (try have : w.heap.size < w2.heap.size + 1 := (by omega)); (try have : w.heap.size < w2.heap.size + 1 + 1 := (by omega)); (try have : w.heap.size + 1 < w2.heap.size := (by omega)); (try have : w.heap.size + 1 < w2.heap.size + 1 := (by omega)); (try have : w.heap.size + 1 < w2.heap.size + 1 + 1 := (by omega)); (try have : w.heap.size + 1 + 1 < w2.heap.size := (by omega)); (try have : w.heap.size + 1 + 1 < w2.heap.size + 1 := (by omega)); (try have : w.heap.size + 1 + 1 < w2.heap.size + 1 + 1 := (by omega)); (try have : w1.heap.size < w2.heap.size := (by omega)); (try have : w1.heap.size < w2.heap.size + 1 := (by omega)); (try have : w1.heap.size < w2.heap.size + 1 + 1 := (by omega)); (try have : w1.heap.size + 1 < w2.heap.size := (by omega)); (try have : w1.heap.size + 1 < w2.heap.size + 1 := (by omega)); (try have : w1.heap.size + 1 < w2.heap.size + 1 + 1 := (by omega)); (try have : w1.heap.size + 1 + 1 < w2.heap.size := (by omega)); (try have : w1.heap.size + 1 + 1 < w2.heap.size + 1 := (by omega)); (try have : w1.heap.size + 1 + 1 < w2.heap.size + 1 + 1 := (by omega))
  go_wp2_with fail
  refine (k3 _ (by repeat (first | exact Below.refl _ _ | refine below_dN ?_ _ | refine Below.drew ?_ | refine Below.alloc ?_ (by first | omega | (simp; done) | (simp; omega)) _ | refine Below.setCell ?_ (by first | omega | (simp; done) | (simp; omega)) _ | refine below_step (by assumption) (by first | omega | (simp; done) | (simp; omega)) ?_))).mono ?_
  rintro e w3 ⟨⟨v, rfl, hown⟩, hb3⟩
  obtain ⟨hc3, hf3, hz3, hlt3, hle3⟩ := cellsIf hb3 (by (try simp); exact rfl)
  have hbw3 : Below w.heap.size w w3 := by repeat (first | exact Below.refl _ _ | refine below_dN ?_ _ | refine Below.drew ?_ | refine Below.alloc ?_ (by first | omega | (simp; done) | (simp; omega)) _ | refine Below.setCell ?_ (by first | omega | (simp; done) | (simp; omega)) _ | refine below_step (by assumption) (by first | omega | (simp; done) | (simp; omega)) ?_)
  obtain ⟨B, d, rfl, _, hgot⟩ := own_got hown (by have := Hsl.out; omega)
  clear hown
  have hbx : Boxed w3 w.heap.size t ⟨av, ai, ag, ao, cv, ci, cg, co⟩ := ((Boxed.up (by constructor <;> simp) hb1).up hb2).up hb3
  go_wp2
  go_loopw [1, 10, 34] (fun v n i wr => ∃ (k : Nat) (l : List Int) (B : Option Addr) (d : Nat) (m : Int), k ≤ plan.length ∧ i = .int .i64 k ∧ v = .slice B l.length d ∧ IntsAt wr wr.heap.size B l ∧ (B = none → d = 0) ∧ n = .int .i64 m ∧ 0 ≤ m ∧ m ≤ k * 1048576 ∧ RunIs t plan s k l m ∧ Boxed wr w.heap.size t ⟨av, ai, ag, ao, cv, ci, cg, co⟩ ∧ Below w.heap.size w wr) (fun _ _ i _ => plan.length - (intOf i).toNat)
  case atStart => exact ⟨0, s, B, d, 0, by omega, rfl, rfl, hgot, by assumption, rfl, by omega, by omega, rfl, hbx, hbw3⟩
  case round =>
    clear hc1 hc2 hc3 hf1 hf2 hf3 hlt1 hlt2 hlt3 hle1 hle2 hle3 hb1 hb2 hb3 hbw3 hgot hbx
    obtain ⟨k, l, B, d, m, hk, rfl, rfl, hl, hB, rfl, hm0, hm1, hrun, hbox, hbel⟩ := hrel
    have HB := Lib.hid hB
    have Hrun := Lib.hid hrun
    clear hB hrun
    by_cases hlt : k < plan.length
    · obtain ⟨b1, o1, ea, hb1, hc1⟩ := hp.at_ hlt
      subst ea
      have d1 := (hbel.cell (p := ⟨b1, o1 + k, none⟩) hb1).trans (hc1 k hlt)
      have hbz := hbel.size
      clear hc1
      obtain ⟨op, hop⟩ : ∃ op, op = nth plan k := ⟨_, rfl⟩
      rw [← hop] at d1
      have Hop := Lib.hid hop
      clear hop
      obtain ⟨z0, y0, y1, y2, y3⟩ := id hbox
      dsimp only at y0 y1 y2 y3
      by_cases e4 : apC t l op = 0
      · have Hap := Lib.hid e4
        have hok := ap_ok e4
        obtain ⟨j, rfl⟩ : ∃ j : Nat, op = (j : Int) := ⟨op.toNat, by omega⟩
        have hj : j < t.ops.length := by omega
        have hco := out_cost Hk.out.2.1 hj
        have hco0 := hco.1
        have hco1 := hco.2
        clear hco hok
        have k6 := k5 wr l B d Hk.out.1 Hk.out.2.2.1 hbel hl j
        simp only [e4, erV_0] at k6
        clear e4
        obtain ⟨b, o, S, d', T, d2, ea, hb, q0, qs, q1, q2, f2, q3, e5⟩ := ht.ops.at2 hbel hj
        dsimp only at ea
        subst ea
        have g2 : b < wr.heap.size := by omega
        clear q0 qs q2 f2 q3 e5
        have Hn := Lib.hid (nxt_len t l j)
        go_wp2_with fail
        refine k6.mono ?_
        rintro e w4 ⟨⟨v, rfl, hown, _⟩, hb4⟩
        have hown2 := hown trivial
        clear hown
        obtain ⟨B', d3, rfl, hB', hgot⟩ := own_got (l := nxt t l j) (by rw [nxt_len]; exact hown2) (by rw [nxt_len]; exact hl.len)
        have HB' := Lib.hid hB'
        have Hgot := Lib.hid hgot
        clear hown2 hB' hgot
        obtain ⟨hc4, hf4, hz4, hlt4, hle4⟩ := cellsIf hb4 (by (try simp); exact rfl)
        have x1 : IntKind.i64.wrap (m + (opr t.ops j).cost) = m + (opr t.ops j).cost := IntWalk.i64_in _ (by omega)
        have x2 : (j : Int) < t.ops.length := by omega
        go_wp2_with fail
        go_quiet (fail)
        clear x1
        go_wp2
        go_roundw
        case rel => exact ⟨k + 1, nxt t l j, B', d3, _, by omega, by go_num, rfl, (show IntsAt w4 w4.heap.size B' (nxt t l j) from Hgot.out).keep (fun _ _ => rfl) (Nat.le_refl _), HB'.out, rfl, by omega, by omega, run_step Hrun.out hlt Hop.out Hap.out, hbox.up (by repeat (first | exact Below.refl _ _ | refine below_dN ?_ _ | refine Below.drew ?_ | refine Below.alloc ?_ (by first | omega | (simp; done) | (simp; omega)) _ | refine Below.setCell ?_ (by first | omega | (simp; done) | (simp; omega)) _ | refine below_step (by assumption) (by first | omega | (simp; done) | (simp; omega)) ?_)), by repeat (first | exact Below.refl _ _ | refine below_dN ?_ _ | refine Below.drew ?_ | refine Below.alloc ?_ (by first | omega | (simp; done) | (simp; omega)) _ | refine Below.setCell ?_ (by first | omega | (simp; done) | (simp; omega)) _ | refine below_step (by assumption) (by first | omega | (simp; done) | (simp; omega)) ?_)⟩
        case measure => simp [intOf]; omega
      · have Hr2 := Lib.hid (Hs.out.trans (run_stop Hrun.out hlt Hop.out e4))
        have He := Lib.hid (erV_ne e4)
        have k6 := k5 wr l B d Hk.out.1 Hk.out.2.2.1 hbel hl op
        simp only [He.out] at k6
        clear e4
        go_wp2_with fail
        refine k6.mono ?_
        rintro e w4 ⟨⟨v, rfl, _, _⟩, hb4⟩
        go_wp2
        refine bodyPost_ret (v := .tuple #[.slice none 0 0, .int .i64 0, .iface 72 (.int .i64 (apC t l op))]) (by simp [results, Tryz.results23, go_sem]) rfl ⟨by rw [← He.out]; exact trun_err Hr2.out, by repeat (first | exact Below.refl _ _ | refine below_dN ?_ _ | refine Below.drew ?_ | refine Below.alloc ?_ (by first | omega | (simp; done) | (simp; omega)) _ | refine Below.setCell ?_ (by first | omega | (simp; done) | (simp; omega)) _ | refine below_step (by assumption) (by first | omega | (simp; done) | (simp; omega)) ?_)⟩
    · obtain rfl : k = plan.length := by omega
      have Hr2 := Lib.hid (Hs.out.trans (run_end Hrun.out))
      go_wp2
      refine bodyPost_ret (v := .tuple #[.slice B l.length d, .int .i64 m, .nilIface]) (by simp [results, Tryz.results23, go_sem]) rfl ⟨⟨_, by rw [Hr2.out]; rfl, by rw [Hr2.out]; exact ⟨B, d, rfl, HB.out, hl⟩⟩, by repeat (first | exact Below.refl _ _ | refine below_dN ?_ _ | refine Below.drew ?_ | refine Below.alloc ?_ (by first | omega | (simp; done) | (simp; omega)) _ | refine Below.setCell ?_ (by first | omega | (simp; done) | (simp; omega)) _ | refine below_step (by assumption) (by first | omega | (simp; done) | (simp; omega)) ?_)⟩

end Go.Proofs.YtpobnjbpglaohaaGreat
