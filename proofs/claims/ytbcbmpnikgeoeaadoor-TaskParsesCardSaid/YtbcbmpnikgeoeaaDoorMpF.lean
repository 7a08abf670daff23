/- Texts laid together: TaskP, TaskR, TaskS, TaskW, Same, SameT. -/
import Derived.Test.YtbcbmpnikgeoeaaDoorMpB
import Derived.IntWalk
import Derived.Test.YtbcbmpnikgeoeaaDoorMpA
import Derived.Test.YtbcbmpnikgeoeaaDoorMpG
import Derived.Deep.DeepCutAuto
namespace Go.Proofs.YtbcbmpnikgeoeaaDoor
set_option linter.unusedSimpArgs false
set_option linter.unusedVariables false
section
open Go.RowKit
set_option linter.unusedVariables false

def goB (t : Tsk) (s : List Int) : Bool := decide (chkC t = 0) && (stB t.vars s && hoB t.goal s)

end

section
open Go.RowKit
set_option linter.unusedVariables false

/-- A plan executed: the last state, the cost, the number of the first error. -/
def runS (t : Tsk) : List Int → List Int → Int → List Int × Int × Int
  | [], s, c => (s, c, 0)
  | op :: r, s, c => if apC t s op = 0 then runS t r (nxt t s op.toNat) (c + (opr t.ops op.toNat).cost) else ([], 0, apC t s op)
def runR (t : Tsk) (s plan : List Int) : List Int × Int × Int := if chkC t = 0 then (if stB t.vars s then (if 65536 < (plan.length : Int) then ([], 0, 5) else runS t plan s 0) else ([], 0, 2)) else ([], 0, chkC t)
def TrunRet (t : Tsk) (s plan : List Int) (e : Ending) (w' : World) : Prop := ∃ v, e = .returned (.tuple #[v, .int .i64 (runR t s plan).2.1, erV (runR t s plan).2.2]) ∧ GotInts w' v (runR t s plan).1
def RrunRet (t : Tsk) (s plan : List Int) (e : Ending) (w' : World) : Prop := ∃ v, e = .returned (.tuple #[v, .int .i64 (runR t s plan).2.1, .int .i64 (runR t s plan).2.2]) ∧ GotInts w' v (runR t s plan).1
/-- Where a run stands behind k steps. -/
def RunIs (t : Tsk) (plan s : List Int) (k : Nat) (l : List Int) (n : Int) : Prop := runS t plan s 0 = runS t (plan.drop k) l n
theorem drop_nth {l : List Int} {k : Nat} (h : k < l.length) : l.drop k = nth l k :: l.drop (k + 1) := by
  rw [List.drop_eq_getElem_cons h]; unfold nth; simp [List.getD, List.getElem?_eq_getElem h]
theorem run_step {t : Tsk} {plan s : List Int} {k : Nat} {l : List Int} {n op : Int} (h : RunIs t plan s k l n) (hk : k < plan.length) (ho : op = nth plan k) (h0 : apC t l op = 0) : RunIs t plan s (k + 1) (nxt t l op.toNat) (n + (opr t.ops op.toNat).cost) := by
  unfold RunIs at *
  rw [h, drop_nth hk, ← ho]
  conv => lhs; unfold runS
  rw [if_pos h0]
theorem run_stop {t : Tsk} {plan s : List Int} {k : Nat} {l : List Int} {n op : Int} (h : RunIs t plan s k l n) (hk : k < plan.length) (ho : op = nth plan k) (h0 : apC t l op ≠ 0) : runS t plan s 0 = ([], 0, apC t l op) := by
  unfold RunIs at *
  rw [h, drop_nth hk, ← ho]
  conv => lhs; unfold runS
  rw [if_neg h0]
theorem run_end {t : Tsk} {plan s : List Int} {l : List Int} {n : Int} (h : RunIs t plan s plan.length l n) : runS t plan s 0 = (l, n, 0) := by
  unfold RunIs at h
  rw [h, List.drop_length]; rfl
theorem ap_ok {t : Tsk} {s : List Int} {op : Int} (h : apC t s op = 0) : 0 ≤ op ∧ op < t.ops.length ∧ stB t.vars s = true ∧ hoB (opr t.ops op.toNat).pre s = true := by
  unfold apC at h
  by_cases h1 : op < 0
  · rw [if_pos h1] at h; cases h
  rw [if_neg h1] at h
  by_cases h2 : (t.ops.length : Int) ≤ op
  · rw [if_pos h2] at h; cases h
  rw [if_neg h2] at h
  cases h3 : stB t.vars s
  · rw [h3] at h; simp at h
  cases h4 : hoB (opr t.ops op.toNat).pre s
  · rw [h3, h4] at h; simp at h
  exact ⟨by omega, by omega, rfl, rfl⟩
theorem out_cost {t : Tsk} (h : outT t = false) {k : Nat} (hk : k < t.ops.length) : 0 ≤ (opr t.ops k).cost ∧ (opr t.ops k).cost ≤ 1048576 := by
  unfold outT at h
  simp only [Bool.or_eq_false_iff, anyB_false] at h
  have := h.2 k hk
  simp at this; omega
theorem trun_err {t : Tsk} {s plan : List Int} {c : Int} {w' : World} (hc : runR t s plan = ([], 0, c)) : TrunRet t s plan (.returned (.tuple #[.slice none 0 0, .int .i64 0, erV c])) w' := ⟨_, by rw [hc], by rw [hc]; exact got_nil w'⟩
theorem rrun_err {t : Tsk} {s plan : List Int} {c : Int} {w' : World} (hc : runR t s plan = ([], 0, c)) : RrunRet t s plan (.returned (.tuple #[.slice none 0 0, .int .i64 0, .int .i64 c])) w' := ⟨_, by rw [hc], by rw [hc]; exact got_nil w'⟩
theorem erV_ne {c : Int} (h : c ≠ 0) : erV c = .iface 57 (.int .i64 c) := by unfold erV; rw [if_neg h]

set_option maxRecDepth 4000 in
set_option maxHeartbeats 4000000 in
theorem trun_any (t : Tsk) (p : Lies) (s plan : List Int) (A P : Option Addr) (c q : Nat) (w : World) (ht : TaskAt w w.heap.size t p) (hs : IntsAt w w.heap.size A s) (hp : IntsAt w w.heap.size P plan) :
    Calls Tryd.prog 14 #[TaskV t p, .slice A s.length c, .slice P plan.length q] w fun e w' => TrunRet t s plan e w' ∧ Below w.heap.size w w' := by
  have k1 := fun w1 (hb : Below w.heap.size w w1) => tcheck_any t p w1 (ht.up hb)
  have k2 := fun w1 (hb : Below w.heap.size w w1) => proper_any t.vars s p.av A p.cv c w1 (ht.vars.up hb) (hs.up hb)
  have k5 := fun w1 l B c h1 h2 (hb : Below w.heap.size w w1) (hl : IntsAt w1 w1.heap.size B l) op => apply_any t p l B c op w1 (ht.up hb) hl h1 h2
  obtain ⟨av, ai, ag, ao, cv, ci, cg, co⟩ := p
  unfold TaskV at *
  dsimp only at *
  have l4 := ht.ops.len
  have lp := hp.len
  by_cases e0 : chkC t = 0
  case neg =>
    have Hr := Lib.hid (show runR t s plan = ([], 0, chkC t) by unfold runR; rw [if_neg e0])
    have He := Lib.hid (erV_ne e0)
    simp only [He.out] at k1
    clear e0
    go_enter Tryd.func14, Tryd.ntmps14
    go_wp2_with fail; refine (k1 _ (by repeat (first | exact Below.refl _ _ | refine below_dN ?_ _ | refine Below.drew ?_ | refine Below.alloc ?_ (by first | omega | (simp; done) | (simp; omega)) _ | refine Below.setCell ?_ (by first | omega | (simp; done) | (simp; omega)) _ | refine below_step (by assumption) (by first | omega | (simp; done) | (simp; omega)) ?_))).mono ?_; rintro e w1 ⟨rfl, hb1⟩; obtain ⟨hc1, hf1, hz1, hlt1, hle1⟩ := cellsIf hb1 (by (try simp); exact rfl); (try have : w.heap.size < w1.heap.size := (by omega)); (try have : w.heap.size < w1.heap.size + 1 := (by omega)); (try have : w.heap.size < w1.heap.size + 1 + 1 := (by omega)); (try have : w.heap.size + 1 < w1.heap.size := (by omega)); (try have : w.heap.size + 1 < w1.heap.size + 1 := (by omega)); (try have : w.heap.size + 1 < w1.heap.size + 1 + 1 := (by omega)); (try have : w.heap.size + 1 + 1 < w1.heap.size := (by omega)); (try have : w.heap.size + 1 + 1 < w1.heap.size + 1 := (by omega)); (try have : w.heap.size + 1 + 1 < w1.heap.size + 1 + 1 := (by omega))
    go_wp2
    refine bodyPost_ret (v := .tuple #[.slice none 0 0, .int .i64 0, .iface 57 (.int .i64 (chkC t))]) (by simp [results, Tryd.results14, go_sem]) rfl ⟨by rw [← He.out]; exact trun_err Hr.out, by repeat (first | exact Below.refl _ _ | refine below_dN ?_ _ | refine Below.drew ?_ | refine Below.alloc ?_ (by first | omega | (simp; done) | (simp; omega)) _ | refine Below.setCell ?_ (by first | omega | (simp; done) | (simp; omega)) _ | refine below_step (by assumption) (by first | omega | (simp; done) | (simp; omega)) ?_)⟩
  have Hk := Lib.hid (chk0 e0)
  have Hr := Lib.hid (show runR t s plan = if stB t.vars s then (if 65536 < (plan.length : Int) then ([], 0, 5) else runS t plan s 0) else ([], 0, 2) by unfold runR; rw [if_pos e0])
  simp only [e0, erV_0] at k1
  clear e0
  cases e1 : stB t.vars s
  case false =>
    have Hs := Lib.hid (show runR t s plan = ([], 0, 2) by rw [Hr.out, e1]; rfl)
    go_enter Tryd.func14, Tryd.ntmps14
    go_wp2_with fail; refine (k1 _ (by repeat (first | exact Below.refl _ _ | refine below_dN ?_ _ | refine Below.drew ?_ | refine Below.alloc ?_ (by first | omega | (simp; done) | (simp; omega)) _ | refine Below.setCell ?_ (by first | omega | (simp; done) | (simp; omega)) _ | refine below_step (by assumption) (by first | omega | (simp; done) | (simp; omega)) ?_))).mono ?_; rintro e w1 ⟨rfl, hb1⟩; obtain ⟨hc1, hf1, hz1, hlt1, hle1⟩ := cellsIf hb1 (by (try simp); exact rfl); (try have : w.heap.size < w1.heap.size := (by omega)); (try have : w.heap.size < w1.heap.size + 1 := (by omega)); (try have : w.heap.size < w1.heap.size + 1 + 1 := (by omega)); (try have : w.heap.size + 1 < w1.heap.size := (by omega)); (try have : w.heap.size + 1 < w1.heap.size + 1 := (by omega)); (try have : w.heap.size + 1 < w1.heap.size + 1 + 1 := (by omega)); (try have : w.heap.size + 1 + 1 < w1.heap.size := (by omega)); (try have : w.heap.size + 1 + 1 < w1.heap.size + 1 := (by omega)); (try have : w.heap.size + 1 + 1 < w1.heap.size + 1 + 1 := (by omega))
    go_wp2_with fail; refine (k2 _ (by repeat (first | exact Below.refl _ _ | refine below_dN ?_ _ | refine Below.drew ?_ | refine Below.alloc ?_ (by first | omega | (simp; done) | (simp; omega)) _ | refine Below.setCell ?_ (by first | omega | (simp; done) | (simp; omega)) _ | refine below_step (by assumption) (by first | omega | (simp; done) | (simp; omega)) ?_))).mono ?_; rintro e w2 ⟨rfl, hb2⟩; obtain ⟨hc2, hf2, hz2, hlt2, hle2⟩ := cellsIf hb2 (by (try simp); exact rfl); (try have : w.heap.size < w2.heap.size := (by omega)); (try have : w.heap.size < w2.heap.size + 1 := (by omega)); (try have : w.heap.size < w2.heap.size + 1 + 1 := (by omega)); (try have : w.heap.size + 1 < w2.heap.size := (by omega)); (try have : w.heap.size + 1 < w2.heap.size + 1 := (by omega)); (try have : w.heap.size + 1 < w2.heap.size + 1 + 1 := (by omega)); (try have : w.heap.size + 1 + 1 < w2.heap.size := (by omega)); (try have : w.heap.size + 1 + 1 < w2.heap.size + 1 := (by omega)); (try have : w.heap.size + 1 + 1 < w2.heap.size + 1 + 1 := (by omega)); (try have : w1.heap.size < w2.heap.size := (by omega)); (try have : w1.heap.size < w2.heap.size + 1 := (by omega)); (try have : w1.heap.size < w2.heap.size + 1 + 1 := (by omega)); (try have : w1.heap.size + 1 < w2.heap.size := (by omega)); (try have : w1.heap.size + 1 < w2.heap.size + 1 := (by omega)); (try have : w1.heap.size + 1 < w2.heap.size + 1 + 1 := (by omega)); (try have : w1.heap.size + 1 + 1 < w2.heap.size := (by omega)); (try have : w1.heap.size + 1 + 1 < w2.heap.size + 1 := (by omega)); (try have : w1.heap.size + 1 + 1 < w2.heap.size + 1 + 1 := (by omega))
    go_wp2
    refine bodyPost_ret (v := .tuple #[.slice none 0 0, .int .i64 0, .iface 57 (.int .i64 2)]) (by simp [results, Tryd.results14, go_sem]) rfl ⟨trun_err Hs.out, by repeat (first | exact Below.refl _ _ | refine below_dN ?_ _ | refine Below.drew ?_ | refine Below.alloc ?_ (by first | omega | (simp; done) | (simp; omega)) _ | refine Below.setCell ?_ (by first | omega | (simp; done) | (simp; omega)) _ | refine below_step (by assumption) (by first | omega | (simp; done) | (simp; omega)) ?_)⟩
  cases e2 : decide (65536 < (plan.length : Int))
  case true =>
    have Hs := Lib.hid (show runR t s plan = ([], 0, 5) by rw [Hr.out, e1, if_pos rfl, if_pos (by simpa using e2)])
    go_enter Tryd.func14, Tryd.ntmps14
    go_wp2_with fail; refine (k1 _ (by repeat (first | exact Below.refl _ _ | refine below_dN ?_ _ | refine Below.drew ?_ | refine Below.alloc ?_ (by first | omega | (simp; done) | (simp; omega)) _ | refine Below.setCell ?_ (by first | omega | (simp; done) | (simp; omega)) _ | refine below_step (by assumption) (by first | omega | (simp; done) | (simp; omega)) ?_))).mono ?_; rintro e w1 ⟨rfl, hb1⟩; obtain ⟨hc1, hf1, hz1, hlt1, hle1⟩ := cellsIf hb1 (by (try simp); exact rfl); (try have : w.heap.size < w1.heap.size := (by omega)); (try have : w.heap.size < w1.heap.size + 1 := (by omega)); (try have : w.heap.size < w1.heap.size + 1 + 1 := (by omega)); (try have : w.heap.size + 1 < w1.heap.size := (by omega)); (try have : w.heap.size + 1 < w1.heap.size + 1 := (by omega)); (try have : w.heap.size + 1 < w1.heap.size + 1 + 1 := (by omega)); (try have : w.heap.size + 1 + 1 < w1.heap.size := (by omega)); (try have : w.heap.size + 1 + 1 < w1.heap.size + 1 := (by omega)); (try have : w.heap.size + 1 + 1 < w1.heap.size + 1 + 1 := (by omega))
    go_wp2_with fail; refine (k2 _ (by repeat (first | exact Below.refl _ _ | refine below_dN ?_ _ | refine Below.drew ?_ | refine Below.alloc ?_ (by first | omega | (simp; done) | (simp; omega)) _ | refine Below.setCell ?_ (by first | omega | (simp; done) | (simp; omega)) _ | refine below_step (by assumption) (by first | omega | (simp; done) | (simp; omega)) ?_))).mono ?_; rintro e w2 ⟨rfl, hb2⟩; obtain ⟨hc2, hf2, hz2, hlt2, hle2⟩ := cellsIf hb2 (by (try simp); exact rfl); (try have : w.heap.size < w2.heap.size := (by omega)); (try have : w.heap.size < w2.heap.size + 1 := (by omega)); (try have : w.heap.size < w2.heap.size + 1 + 1 := (by omega)); (try have : w.heap.size + 1 < w2.heap.size := (by omega)); (try have : w.heap.size + 1 < w2.heap.size + 1 := (by omega)); (try have : w.heap.size + 1 < w2.heap.size + 1 + 1 := (by omega)); (try have : w.heap.size + 1 + 1 < w2.heap.size := (by omega)); (try have : w.heap.size + 1 + 1 < w2.heap.size + 1 := (by omega)); (try have : w.heap.size + 1 + 1 < w2.heap.size + 1 + 1 := (by omega)); (try have : w1.heap.size < w2.heap.size := (by omega)); (try have : w1.heap.size < w2.heap.size + 1 := (by omega)); (try have : w1.heap.size < w2.heap.size + 1 + 1 := (by omega)); (try have : w1.heap.size + 1 < w2.heap.size := (by omega)); (try have : w1.heap.size + 1 < w2.heap.size + 1 := (by omega)); (try have : w1.heap.size + 1 < w2.heap.size + 1 + 1 := (by omega)); (try have : w1.heap.size + 1 + 1 < w2.heap.size := (by omega)); (try have : w1.heap.size + 1 + 1 < w2.heap.size + 1 := (by omega)); (try have : w1.heap.size + 1 + 1 < w2.heap.size + 1 + 1 := (by omega))
    go_wp2
    refine bodyPost_ret (v := .tuple #[.slice none 0 0, .int .i64 0, .iface 57 (.int .i64 5)]) (by simp [results, Tryd.results14, go_sem]) rfl ⟨trun_err Hs.out, by repeat (first | exact Below.refl _ _ | refine below_dN ?_ _ | refine Below.drew ?_ | refine Below.alloc ?_ (by first | omega | (simp; done) | (simp; omega)) _ | refine Below.setCell ?_ (by first | omega | (simp; done) | (simp; omega)) _ | refine below_step (by assumption) (by first | omega | (simp; done) | (simp; omega)) ?_)⟩
  have Hs := Lib.hid (show runR t s plan = runS t plan s 0 by rw [Hr.out, e1, if_pos rfl, if_neg (by simpa using e2)])
  have lp2 : plan.length ≤ 65536 := by simp at e2; omega
  have hsl : s.length ≤ 1000000 := by have := stB_len e1; have := lg_vars Hk.out.1; omega
  have k3 := fun w1 (hb : Below w.heap.size w w1) => clone_any s A c w1 (hs.up hb) hsl
  have Hsl := Lib.hid hsl
  clear hsl
  go_enter Tryd.func14, Tryd.ntmps14
  go_wp2_with fail; refine (k1 _ (by repeat (first | exact Below.refl _ _ | refine below_dN ?_ _ | refine Below.drew ?_ | refine Below.alloc ?_ (by first | omega | (simp; done) | (simp; omega)) _ | refine Below.setCell ?_ (by first | omega | (simp; done) | (simp; omega)) _ | refine below_step (by assumption) (by first | omega | (simp; done) | (simp; omega)) ?_))).mono ?_; rintro e w1 ⟨rfl, hb1⟩; obtain ⟨hc1, hf1, hz1, hlt1, hle1⟩ := cellsIf hb1 (by (try simp); exact rfl); (try have : w.heap.size < w1.heap.size := (by omega)); (try have : w.heap.size < w1.heap.size + 1 := (by omega)); (try have : w.heap.size < w1.heap.size + 1 + 1 := (by omega)); (try have : w.heap.size + 1 < w1.heap.size := (by omega)); (try have : w.heap.size + 1 < w1.heap.size + 1 := (by omega)); (try have : w.heap.size + 1 < w1.heap.size + 1 + 1 := (by omega)); (try have : w.heap.size + 1 + 1 < w1.heap.size := (by omega)); (try have : w.heap.size + 1 + 1 < w1.heap.size + 1 := (by omega)); (try have : w.heap.size + 1 + 1 < w1.heap.size + 1 + 1 := (by omega))
  go_wp2_with fail; refine (k2 _ (by repeat (first | exact Below.refl _ _ | refine below_dN ?_ _ | refine Below.drew ?_ | refine Below.alloc ?_ (by first | omega | (simp; done) | (simp; omega)) _ | refine Below.setCell ?_ (by first | omega | (simp; done) | (simp; omega)) _ | refine below_step (by assumption) (by first | omega | (simp; done) | (simp; omega)) ?_))).mono ?_; rintro e w2 ⟨rfl, hb2⟩; obtain ⟨hc2, hf2, hz2, hlt2, hle2⟩ := cellsIf hb2 (by (try simp); exact rfl); (try have : w.heap.size < w2.heap.size := (by omega)); (try have : w.heap.size < w2.heap.size + 1 := (by omega)); (try have : w.heap.size < w2.heap.size + 1 + 1 := (by omega)); (try have : w.heap.size + 1 < w2.heap.size := (by omega)); (try have : w.heap.size + 1 < w2.heap.size + 1 := (by omega)); (try have : w.heap.size + 1 < w2.heap.size + 1 + 1 := (by omega)); (try have : w.heap.size + 1 + 1 < w2.heap.size := (by omega)); (try have : w.heap.size + 1 + 1 < w2.heap.size + 1 := (by omega)); (try have : w.heap.size + 1 + 1 < w2.heap.size + 1 + 1 := (by omega)); (try have : w1.heap.size < w2.heap.size := (by omega)); (try have : w1.heap.size < w2.heap.size + 1 := (by omega)); (try have : w1.heap.size < w2.heap.size + 1 + 1 := (by omega)); (try have : w1.heap.size + 1 < w2.heap.size := (by omega)); (try have : w1.heap.size + 1 < w2.heap.size + 1 := (by omega)); (try have : w1.heap.size + 1 < w2.heap.size + 1 + 1 := (by omega)); (try have : w1.heap.size + 1 + 1 < w2.heap.size := (by omega)); (try have : w1.heap.size + 1 + 1 < w2.heap.size + 1 := (by omega)); (try have : w1.heap.size + 1 + 1 < w2.heap.size + 1 + 1 := (by omega))
  go_wp2_with fail
  refine (k3 _ (by repeat (first | exact Below.refl _ _ | refine below_dN ?_ _ | refine Below.drew ?_ | refine Below.alloc ?_ (by first | omega | (simp; done) | (simp; omega)) _ | refine Below.setCell ?_ (by first | omega | (simp; done) | (simp; omega)) _ | refine below_step (by assumption) (by first | omega | (simp; done) | (simp; omega)) ?_))).mono ?_
  rintro e w3 ⟨⟨v, rfl, hown⟩, hb3⟩
  obtain ⟨hc3, hf3, hz3, hlt3, hle3⟩ := cellsIf hb3 (by (try simp); exact rfl)
  have hbw3 : Below w.heap.size w w3 := by repeat (first | exact Below.refl _ _ | refine below_dN ?_ _ | refine Below.drew ?_ | refine Below.alloc ?_ (by first | omega | (simp; done) | (simp; omega)) _ | refine Below.setCell ?_ (by first | omega | (simp; done) | (simp; omega)) _ | refine below_step (by assumption) (by first | omega | (simp; done) | (simp; omega)) ?_)
  obtain ⟨B, d, rfl, _, hgot⟩ := own_got hown (by have := Hsl.out; omega)
  clear hown
  have hbx : Boxed w3 w.heap.size t ⟨av, ai, ag, ao, cv, ci, cg, co⟩ := ((Boxed.up (by constructor <;> simp) hb1).up hb2).up hb3
  go_wp2
  go_loopw [1, 10, 34] (fun v n i wr => ∃ (k : Nat) (l : List Int) (B : Option Addr) (d : Nat) (m : Int), k ≤ plan.length ∧ i = .int .i64 k ∧ v = .slice B l.length d ∧ IntsAt wr wr.heap.size B l ∧ (B = none → d = 0) ∧ n = .int .i64 m ∧ 0 ≤ m ∧ m ≤ k * 1048576 ∧ RunIs t plan s k l m ∧ Boxed wr w.heap.size t ⟨av, ai, ag, ao, cv, ci, cg, co⟩ ∧ Below w.heap.size w wr) (fun _ _ i _ => plan.length - (intOf i).toNat)
  case atStart => exact ⟨0, s, B, d, 0, by omega, rfl, rfl, hgot, by assumption, rfl, by omega, by omega, rfl, hbx, hbw3⟩
  case round =>
    clear hc1 hc2 hc3 hf1 hf2 hf3 hlt1 hlt2 hlt3 hle1 hle2 hle3 hb1 hb2 hb3 hbw3 hgot hbx
    obtain ⟨k, l, B, d, m, hk, rfl, rfl, hl, hB, rfl, hm0, hm1, hrun, hbox, hbel⟩ := hrel
    have HB := Lib.hid hB
    have Hrun := Lib.hid hrun
    clear hB hrun
    by_cases hlt : k < plan.length
    · obtain ⟨b1, o1, ea, hb1, hc1⟩ := hp.at_ hlt
      subst ea
      have d1 := (hbel.cell (p := ⟨b1, o1 + k, none⟩) hb1).trans (hc1 k hlt)
      have hbz := hbel.size
      clear hc1
      obtain ⟨op, hop⟩ : ∃ op, op = nth plan k := ⟨_, rfl⟩
      rw [← hop] at d1
      have Hop := Lib.hid hop
      clear hop
      obtain ⟨z0, y0, y1, y2, y3⟩ := id hbox
      dsimp only at y0 y1 y2 y3
      by_cases e4 : apC t l op = 0
      · have Hap := Lib.hid e4
        have hok := ap_ok e4
        obtain ⟨j, rfl⟩ : ∃ j : Nat, op = (j : Int) := ⟨op.toNat, by omega⟩
        have hj : j < t.ops.length := by omega
        have hco := out_cost Hk.out.2.1 hj
        have hco0 := hco.1
        have hco1 := hco.2
        clear hco hok
        have k6 := k5 wr l B d Hk.out.1 Hk.out.2.2.1 hbel hl j
        simp only [e4, erV_0] at k6
        clear e4
        obtain ⟨b, o, S, d', T, d2, ea, hb, q0, qs, q1, q2, f2, q3, e5⟩ := ht.ops.at2 hbel hj
        dsimp only at ea
        subst ea
        have g2 : b < wr.heap.size := by omega
        clear q0 qs q2 f2 q3 e5
        have Hn := Lib.hid (nxt_len t l j)
        go_wp2_with fail
        refine k6.mono ?_
        rintro e w4 ⟨⟨v, rfl, hown, _⟩, hb4⟩
        have hown2 := hown trivial
        clear hown
        obtain ⟨B', d3, rfl, hB', hgot⟩ := own_got (l := nxt t l j) (by rw [nxt_len]; exact hown2) (by rw [nxt_len]; exact hl.len)
        have HB' := Lib.hid hB'
        have Hgot := Lib.hid hgot
        clear hown2 hB' hgot
        obtain ⟨hc4, hf4, hz4, hlt4, hle4⟩ := cellsIf hb4 (by (try simp); exact rfl)
        have x1 : IntKind.i64.wrap (m + (opr t.ops j).cost) = m + (opr t.ops j).cost := IntWalk.i64_in _ (by omega)
        have x2 : (j : Int) < t.ops.length := by omega
        go_wp2_with fail
        go_quiet (fail)
        clear x1
        go_wp2
        go_roundw
        case rel => exact ⟨k + 1, nxt t l j, B', d3, _, by omega, by go_num, rfl, (show IntsAt w4 w4.heap.size B' (nxt t l j) from Hgot.out).keep (fun _ _ => rfl) (Nat.le_refl _), HB'.out, rfl, by omega, by omega, run_step Hrun.out hlt Hop.out Hap.out, hbox.up (by repeat (first | exact Below.refl _ _ | refine below_dN ?_ _ | refine Below.drew ?_ | refine Below.alloc ?_ (by first | omega | (simp; done) | (simp; omega)) _ | refine Below.setCell ?_ (by first | omega | (simp; done) | (simp; omega)) _ | refine below_step (by assumption) (by first | omega | (simp; done) | (simp; omega)) ?_)), by repeat (first | exact Below.refl _ _ | refine below_dN ?_ _ | refine Below.drew ?_ | refine Below.alloc ?_ (by first | omega | (simp; done) | (simp; omega)) _ | refine Below.setCell ?_ (by first | omega | (simp; done) | (simp; omega)) _ | refine below_step (by assumption) (by first | omega | (simp; done) | (simp; omega)) ?_)⟩
        case measure => simp [intOf]; omega
      · have Hr2 := Lib.hid (Hs.out.trans (run_stop Hrun.out hlt Hop.out e4))
        have He := Lib.hid (erV_ne e4)
        have k6 := k5 wr l B d Hk.out.1 Hk.out.2.2.1 hbel hl op
        simp only [He.out] at k6
        clear e4
        go_wp2_with fail
        refine k6.mono ?_
        rintro e w4 ⟨⟨v, rfl, _, _⟩, hb4⟩
        go_wp2
        refine bodyPost_ret (v := .tuple #[.slice none 0 0, .int .i64 0, .iface 57 (.int .i64 (apC t l op))]) (by simp [results, Tryd.results14, go_sem]) rfl ⟨by rw [← He.out]; exact trun_err Hr2.out, by repeat (first | exact Below.refl _ _ | refine below_dN ?_ _ | refine Below.drew ?_ | refine Below.alloc ?_ (by first | omega | (simp; done) | (simp; omega)) _ | refine Below.setCell ?_ (by first | omega | (simp; done) | (simp; omega)) _ | refine below_step (by assumption) (by first | omega | (simp; done) | (simp; omega)) ?_)⟩
    · obtain rfl : k = plan.length := by omega
      have Hr2 := Lib.hid (Hs.out.trans (run_end Hrun.out))
      go_wp2
      refine bodyPost_ret (v := .tuple #[.slice B l.length d, .int .i64 m, .nilIface]) (by simp [results, Tryd.results14, go_sem]) rfl ⟨⟨_, by rw [Hr2.out]; rfl, by rw [Hr2.out]; exact ⟨B, d, rfl, HB.out, hl⟩⟩, by repeat (first | exact Below.refl _ _ | refine below_dN ?_ _ | refine Below.drew ?_ | refine Below.alloc ?_ (by first | omega | (simp; done) | (simp; omega)) _ | refine Below.setCell ?_ (by first | omega | (simp; done) | (simp; omega)) _ | refine below_step (by assumption) (by first | omega | (simp; done) | (simp; omega)) ?_)⟩
end

section
open Go.RowKit
set_option linter.unusedVariables false

/-- A plan's cost and error. -/
def solR (t : Tsk) (plan : List Int) : Int × Int :=
  if (runR t t.init plan).2.2 = 0 then (if hoB t.goal (runR t t.init plan).1 then ((runR t t.init plan).2.1, 0) else (0, 13)) else (0, (runR t t.init plan).2.2)

theorem runS_cost {t : Tsk} : ∀ (plan s : List Int) (n : Int), (runS t plan s n).2.2 ≠ 0 → (runS t plan s n).2.1 = 0
  | [], s, n, h => absurd rfl h
  | op :: r, s, n, h => by
    unfold runS at h ⊢
    split
    · rename_i h0; rw [if_pos h0] at h; exact runS_cost r _ _ h
    · rfl
theorem run_cost {t : Tsk} {s plan : List Int} (h : (runR t s plan).2.2 ≠ 0) : (runR t s plan).2.1 = 0 := by
  unfold runR at h ⊢
  split
  · rename_i h0
    rw [if_pos h0] at h
    split
    · rename_i h1
      rw [if_pos h1] at h
      split
      · rfl
      · rename_i h2; rw [if_neg h2] at h; exact runS_cost _ _ _ h
    · rfl
  · rfl

set_option maxRecDepth 4000 in
set_option maxHeartbeats 2000000 in
theorem tsolves_any (t : Tsk) (p : Lies) (plan : List Int) (P : Option Addr) (q : Nat) (w : World) (ht : TaskAt w w.heap.size t p) (hp : IntsAt w w.heap.size P plan) :
    Calls Tryd.prog 16 #[TaskV t p, .slice P plan.length q] w fun e w' => e = .returned (.tuple #[.int .i64 (solR t plan).1, erV (solR t plan).2]) ∧ Below w.heap.size w w' := by
  have k1 := fun w1 (hb : Below w.heap.size w w1) => trun_any t p t.init plan p.ai P p.ci q w1 (ht.up hb) (ht.init.up hb) (hp.up hb)
  have k2 := fun w1 l B c (hb : Below w.heap.size w w1) (hl : IntsAt w1 w1.heap.size B l) => holds_any t.goal l p.ag B p.cg c w1 (ht.goal.up hb) hl
  obtain ⟨av, ai, ag, ao, cv, ci, cg, co⟩ := p
  unfold TaskV at *
  dsimp only at *
  obtain ⟨r, hr⟩ : ∃ r, r = runR t t.init plan := ⟨_, rfl⟩
  have Hsol := Lib.hid (show solR t plan = if r.2.2 = 0 then (if hoB t.goal r.1 then (r.2.1, 0) else (0, 13)) else (0, r.2.2) by unfold solR; rw [← hr])
  unfold TrunRet at k1
  rw [← hr] at k1
  clear hr
  obtain ⟨l, n, code⟩ := r
  dsimp only at *
  by_cases e0 : code = 0
  · subst e0
    simp only [erV_0] at k1
    go_enter Tryd.func16, Tryd.ntmps16
    go_wp2_with fail
    refine (k1 _ (by repeat (first | exact Below.refl _ _ | refine below_dN ?_ _ | refine Below.drew ?_ | refine Below.alloc ?_ (by first | omega | (simp; done) | (simp; omega)) _ | refine Below.setCell ?_ (by first | omega | (simp; done) | (simp; omega)) _ | refine below_step (by assumption) (by first | omega | (simp; done) | (simp; omega)) ?_))).mono ?_
    rintro e w1 ⟨⟨v, rfl, B, d, rfl, _, hgot⟩, hb1⟩
    obtain ⟨hc1, hf1, hz1, hlt1, hle1⟩ := cellsIf hb1 (by (try simp); exact rfl)
    have hbw1 : Below w.heap.size w w1 := by repeat (first | exact Below.refl _ _ | refine below_dN ?_ _ | refine Below.drew ?_ | refine Below.alloc ?_ (by first | omega | (simp; done) | (simp; omega)) _ | refine Below.setCell ?_ (by first | omega | (simp; done) | (simp; omega)) _ | refine below_step (by assumption) (by first | omega | (simp; done) | (simp; omega)) ?_)
    have k3 := k2 w1 l B d hbw1 hgot
    cases e1 : hoB t.goal l
    · have Hs := Lib.hid (show solR t plan = (0, 13) by rw [Hsol.out]; simp [e1])
      go_wp2_with fail; refine (k3).mono ?_; rintro e w2 ⟨rfl, hb2⟩; obtain ⟨hc2, hf2, hz2, hlt2, hle2⟩ := cellsIf hb2 (by (try simp); exact rfl); (try have : w.heap.size < w2.heap.size := (by omega)); (try have : w.heap.size < w2.heap.size + 1 := (by omega)); (try have : w.heap.size < w2.heap.size + 1 + 1 := (by omega)); (try have : w.heap.size + 1 < w2.heap.size := (by omega)); (try have : w.heap.size + 1 < w2.heap.size + 1 := (by omega)); (try have : w.heap.size + 1 < w2.heap.size + 1 + 1 := (by omega)); (try have : w.heap.size + 1 + 1 < w2.heap.size := (by omega)); (try have : w.heap.size + 1 + 1 < w2.heap.size + 1 := (by omega)); (try have : w.heap.size + 1 + 1 < w2.heap.size + 1 + 1 := (by omega)); (try have : w1.heap.size < w2.heap.size := (by omega)); (try have : w1.heap.size < w2.heap.size + 1 := (by omega)); (try have : w1.heap.size < w2.heap.size + 1 + 1 := (by omega)); (try have : w1.heap.size + 1 < w2.heap.size := (by omega)); (try have : w1.heap.size + 1 < w2.heap.size + 1 := (by omega)); (try have : w1.heap.size + 1 < w2.heap.size + 1 + 1 := (by omega)); (try have : w1.heap.size + 1 + 1 < w2.heap.size := (by omega)); (try have : w1.heap.size + 1 + 1 < w2.heap.size + 1 := (by omega)); (try have : w1.heap.size + 1 + 1 < w2.heap.size + 1 + 1 := (by omega))
      go_wp2
      refine bodyPost_ret (v := .tuple #[.int .i64 0, .iface 57 (.int .i64 13)]) (by simp [results, Tryd.results16, go_sem]) rfl ⟨by rw [Hs.out]; rfl, by repeat (first | exact Below.refl _ _ | refine below_dN ?_ _ | refine Below.drew ?_ | refine Below.alloc ?_ (by first | omega | (simp; done) | (simp; omega)) _ | refine Below.setCell ?_ (by first | omega | (simp; done) | (simp; omega)) _ | refine below_step (by assumption) (by first | omega | (simp; done) | (simp; omega)) ?_)⟩
    · have Hs := Lib.hid (show solR t plan = (n, 0) by rw [Hsol.out]; simp [e1])
      go_wp2_with fail; refine (k3).mono ?_; rintro e w2 ⟨rfl, hb2⟩; obtain ⟨hc2, hf2, hz2, hlt2, hle2⟩ := cellsIf hb2 (by (try simp); exact rfl); (try have : w.heap.size < w2.heap.size := (by omega)); (try have : w.heap.size < w2.heap.size + 1 := (by omega)); (try have : w.heap.size < w2.heap.size + 1 + 1 := (by omega)); (try have : w.heap.size + 1 < w2.heap.size := (by omega)); (try have : w.heap.size + 1 < w2.heap.size + 1 := (by omega)); (try have : w.heap.size + 1 < w2.heap.size + 1 + 1 := (by omega)); (try have : w.heap.size + 1 + 1 < w2.heap.size := (by omega)); (try have : w.heap.size + 1 + 1 < w2.heap.size + 1 := (by omega)); (try have : w.heap.size + 1 + 1 < w2.heap.size + 1 + 1 := (by omega)); (try have : w1.heap.size < w2.heap.size := (by omega)); (try have : w1.heap.size < w2.heap.size + 1 := (by omega)); (try have : w1.heap.size < w2.heap.size + 1 + 1 := (by omega)); (try have : w1.heap.size + 1 < w2.heap.size := (by omega)); (try have : w1.heap.size + 1 < w2.heap.size + 1 := (by omega)); (try have : w1.heap.size + 1 < w2.heap.size + 1 + 1 := (by omega)); (try have : w1.heap.size + 1 + 1 < w2.heap.size := (by omega)); (try have : w1.heap.size + 1 + 1 < w2.heap.size + 1 := (by omega)); (try have : w1.heap.size + 1 + 1 < w2.heap.size + 1 + 1 := (by omega))
      go_wp2
      refine bodyPost_ret (v := .tuple #[.int .i64 n, .nilIface]) (by simp [results, Tryd.results16, go_sem]) rfl ⟨by rw [Hs.out]; rfl, by repeat (first | exact Below.refl _ _ | refine below_dN ?_ _ | refine Below.drew ?_ | refine Below.alloc ?_ (by first | omega | (simp; done) | (simp; omega)) _ | refine Below.setCell ?_ (by first | omega | (simp; done) | (simp; omega)) _ | refine below_step (by assumption) (by first | omega | (simp; done) | (simp; omega)) ?_)⟩
  · have He := Lib.hid (erV_ne e0)
    have Hs := Lib.hid (show solR t plan = (0, code) by rw [Hsol.out, if_neg e0])
    simp only [He.out] at k1
    clear e0
    go_enter Tryd.func16, Tryd.ntmps16
    go_wp2_with fail
    refine (k1 _ (by repeat (first | exact Below.refl _ _ | refine below_dN ?_ _ | refine Below.drew ?_ | refine Below.alloc ?_ (by first | omega | (simp; done) | (simp; omega)) _ | refine Below.setCell ?_ (by first | omega | (simp; done) | (simp; omega)) _ | refine below_step (by assumption) (by first | omega | (simp; done) | (simp; omega)) ?_))).mono ?_
    rintro e w1 ⟨⟨v, rfl, _⟩, hb1⟩
    go_wp2
    refine bodyPost_ret (v := .tuple #[.int .i64 0, .iface 57 (.int .i64 code)]) (by simp [results, Tryd.results16, go_sem]) rfl ⟨by rw [Hs.out, ← He.out], by repeat (first | exact Below.refl _ _ | refine below_dN ?_ _ | refine Below.drew ?_ | refine Below.alloc ?_ (by first | omega | (simp; done) | (simp; omega)) _ | refine Below.setCell ?_ (by first | omega | (simp; done) | (simp; omega)) _ | refine below_step (by assumption) (by first | omega | (simp; done) | (simp; omega)) ?_)⟩

end

section
open Go.RowKit
set_option linter.unusedVariables false

def T0 : Tsk := ⟨[2, 3], [0, 0], [(1, 2)], [⟨⟨#[103, 111]⟩, 5, [(0, 0)], [⟨[], 1, 1⟩, ⟨[(1, 1)], 1, 2⟩]⟩]⟩
def L0 (B : Nat) : Lies := ⟨some ⟨B, 0, none⟩, some ⟨B + 1, 0, none⟩, some ⟨B + 2, 0, none⟩, some ⟨B + 6, 0, none⟩, 2, 2, 1, 1⟩

theorem ints_two {w : World} {C b : Nat} {x y : Int} (hb : b < C) (h0 : w.cell? ⟨b, 0, none⟩ = some (.int .i64 x)) (h1 : w.cell? ⟨b, 1, none⟩ = some (.int .i64 y)) : IntsAt w C (some ⟨b, 0, none⟩) [x, y] :=
  ⟨by simp, fun _ => ⟨b, 0, rfl, hb, fun k hk => by
    have : k = 0 ∨ k = 1 := by simp at hk; omega
    rcases this with rfl | rfl
    · exact h0
    · exact h1⟩⟩
theorem taskAt0 {w : World} {B : Nat} (hs : B + 7 ≤ w.heap.size)
    (a0 : w.cell? ⟨B, 0, none⟩ = some (.int .i64 2)) (a1 : w.cell? ⟨B, 1, none⟩ = some (.int .i64 3))
    (b0 : w.cell? ⟨B + 1, 0, none⟩ = some (.int .i64 0)) (b1 : w.cell? ⟨B + 1, 1, none⟩ = some (.int .i64 0))
    (c0 : w.cell? ⟨B + 2, 0, none⟩ = some (.int .i64 1)) (c1 : w.cell? ⟨B + 2, 1, none⟩ = some (.int .i64 2))
    (d0 : w.cell? ⟨B + 3, 0, none⟩ = some (.int .i64 0)) (d1 : w.cell? ⟨B + 3, 1, none⟩ = some (.int .i64 0))
    (e0 : w.cell? ⟨B + 4, 0, none⟩ = some (.int .i64 1)) (e1 : w.cell? ⟨B + 4, 1, none⟩ = some (.int .i64 1))
    (f0 : w.cell? ⟨B + 5, 0, none⟩ = some (.slice none 0 0)) (f1 : w.cell? ⟨B + 5, 1, none⟩ = some (.int .i64 1)) (f2 : w.cell? ⟨B + 5, 2, none⟩ = some (.int .i64 1))
    (f3 : w.cell? ⟨B + 5, 3, none⟩ = some (.slice (some ⟨B + 4, 0, none⟩) 1 1)) (f4 : w.cell? ⟨B + 5, 4, none⟩ = some (.int .i64 1)) (f5 : w.cell? ⟨B + 5, 5, none⟩ = some (.int .i64 2))
    (g0 : w.cell? ⟨B + 6, 0, none⟩ = some (.string ⟨#[103, 111]⟩)) (g1 : w.cell? ⟨B + 6, 1, none⟩ = some (.int .i64 5)) (g2 : w.cell? ⟨B + 6, 2, none⟩ = some (.slice (some ⟨B + 3, 0, none⟩) 1 1)) (g3 : w.cell? ⟨B + 6, 3, none⟩ = some (.slice (some ⟨B + 5, 0, none⟩) 2 2)) :
    TaskAt w w.heap.size T0 (L0 B) where
  vars := ints_two (by omega) a0 a1
  init := ints_two (by omega) b0 b1
  goal := factsAt_one (by omega) c0 c1
  ops := ⟨by simp [T0], fun _ => ⟨B + 6, 0, rfl, by omega, fun k hk => by
    have : k = 0 := by simp [T0] at hk; omega
    subst this
    refine ⟨_, _, _, _, g0, by decide, g1, g2, factsAt_one (by omega) d0 d1, g3, by decide, fun _ => ⟨B + 5, 0, rfl, by omega, fun j hj => ?_⟩⟩
    have : j = 0 ∨ j = 1 := by simp [T0, opr] at hj; omega
    rcases this with rfl | rfl
    · exact ⟨_, _, f0, ⟨by decide, fun h => absurd h (by decide)⟩, f1, f2⟩
    · exact ⟨_, _, f3, factsAt_one (by omega) e0 e1, f4, f5⟩⟩⟩

theorem solves0 (w : World) (B C : Nat) (ht : TaskAt w w.heap.size T0 (L0 B)) (hp : IntsAt w w.heap.size (some ⟨C, 0, none⟩) [0, 0]) :
    Calls Tryd.prog 16 #[.agg #[.slice (some ⟨B, 0, none⟩) 2 2, .slice (some ⟨B + 1, 0, none⟩) 2 2, .slice (some ⟨B + 2, 0, none⟩) 1 1, .slice (some ⟨B + 6, 0, none⟩) 1 1], .slice (some ⟨C, 0, none⟩) 2 2] w fun e w' => e = .returned (.tuple #[.int .i64 10, .nilIface]) ∧ TaskAt w' w'.heap.size T0 (L0 B) ∧ Below w.heap.size w w' := by
  have h := tsolves_any T0 (L0 B) [0, 0] (some ⟨C, 0, none⟩) 2 w ht hp
  have e : solR T0 [0, 0] = (10, 0) := by decide +kernel
  rw [e] at h
  exact h.mono fun _ _ ⟨he, hb⟩ => ⟨he, ht.up hb, hb⟩
theorem check0 (w : World) (B : Nat) (ht : TaskAt w w.heap.size T0 (L0 B)) :
    Calls Tryd.prog 17 #[.agg #[.slice (some ⟨B, 0, none⟩) 2 2, .slice (some ⟨B + 1, 0, none⟩) 2 2, .slice (some ⟨B + 2, 0, none⟩) 1 1, .slice (some ⟨B + 6, 0, none⟩) 1 1]] w fun e w' => e = .returned .nilIface ∧ Below w.heap.size w w' := by
  have h := tcheck_any T0 (L0 B) w ht
  have e : chkC T0 = 0 := by decide +kernel
  rw [e] at h
  exact h

set_option maxRecDepth 4000 in
set_option maxHeartbeats 2000000 in
theorem awake05_any (w : World) : Calls Tryd.prog 6 #[] w fun e w' => e = .returned (.bool true) ∧ Below w.heap.size w w' := by
  go_enter Tryd.func6, Tryd.ntmps6
  go_wp2_with fail
  refine (solves0 _ w.heap.size (w.heap.size + 8) (taskAt0 (by simp) (((show Below (w.alloc (.cells #[.int .i64 2, .int .i64 3] 3)).heap.size (w.alloc (.cells #[.int .i64 2, .int .i64 3] 3)) _ by repeat (first | exact Below.refl _ _ | refine below_dN ?_ _ | refine Below.drew ?_ | refine Below.alloc ?_ (by first | omega | (simp; done) | (simp; omega)) _ | refine Below.setCell ?_ (by first | omega | (simp; done) | (simp; omega)) _ | refine below_step (by assumption) (by first | omega | (simp; done) | (simp; omega)) ?_)).cell (p := ⟨w.heap.size, 0, none⟩) (by simp)).trans (by simp)) (((show Below (w.alloc (.cells #[.int .i64 2, .int .i64 3] 3)).heap.size (w.alloc (.cells #[.int .i64 2, .int .i64 3] 3)) _ by repeat (first | exact Below.refl _ _ | refine below_dN ?_ _ | refine Below.drew ?_ | refine Below.alloc ?_ (by first | omega | (simp; done) | (simp; omega)) _ | refine Below.setCell ?_ (by first | omega | (simp; done) | (simp; omega)) _ | refine below_step (by assumption) (by first | omega | (simp; done) | (simp; omega)) ?_)).cell (p := ⟨w.heap.size, 1, none⟩) (by simp)).trans (by simp)) (by simp [World.cell?_alloc_at, World.cell?_alloc_past]) (by simp [World.cell?_alloc_at, World.cell?_alloc_past]) (by simp [World.cell?_alloc_at, World.cell?_alloc_past]) (by simp [World.cell?_alloc_at, World.cell?_alloc_past]) (by simp [World.cell?_alloc_at, World.cell?_alloc_past]) (by simp [World.cell?_alloc_at, World.cell?_alloc_past]) (by simp [World.cell?_alloc_at, World.cell?_alloc_past]) (by simp [World.cell?_alloc_at, World.cell?_alloc_past]) (by simp [World.cell?_alloc_at, World.cell?_alloc_past]) (by simp [World.cell?_alloc_at, World.cell?_alloc_past]) (by simp [World.cell?_alloc_at, World.cell?_alloc_past]) (by simp [World.cell?_alloc_at, World.cell?_alloc_past]) (by simp [World.cell?_alloc_at, World.cell?_alloc_past]) (by simp [World.cell?_alloc_at, World.cell?_alloc_past]) (by simp [World.cell?_alloc_at, World.cell?_alloc_past]) (by simp [World.cell?_alloc_at, World.cell?_alloc_past]) (by simp [World.cell?_alloc_at, World.cell?_alloc_past]) (by simp [World.cell?_alloc_at, World.cell?_alloc_past])) (ints_two (by simp) (by simp [World.cell?_alloc_at, World.cell?_alloc_past]) (by simp [World.cell?_alloc_at, World.cell?_alloc_past]))).mono ?_
  rintro e w1 ⟨rfl, ht, hb1⟩
  obtain ⟨hc1, hf1, hz1, hlt1, hle1⟩ := cellsIf hb1 (by (try simp); exact rfl)
  go_wp2_with fail
  refine (check0 _ w.heap.size ht).mono ?_
  rintro e w2 ⟨rfl, hb2⟩
  go_wp2
  go_ret
  exact ⟨rfl, by repeat (first | exact Below.refl _ _ | refine below_dN ?_ _ | refine Below.drew ?_ | refine Below.alloc ?_ (by first | omega | (simp; done) | (simp; omega)) _ | refine Below.setCell ?_ (by first | omega | (simp; done) | (simp; omega)) _ | refine below_step (by assumption) (by first | omega | (simp; done) | (simp; omega)) ?_)⟩
end

section
open Go Go.RowKit
set_option linter.unusedVariables false

set_option maxRecDepth 100000 in
set_option maxHeartbeats 2000000 in
theorem bfacts_same (l : List (Int × Int)) (A1 A2 : Option Addr) (c1 c2 : Nat) (w : World) (h1 : FactsAt w w.heap.size A1 l) (h2 : FactsAt w w.heap.size A2 l) :
    Calls Tryd.prog 25 #[.slice A1 l.length c1, .slice A2 l.length c2] w fun e w' => e = .returned (.bool true) ∧ Below w.heap.size w w' := by
  have l1 := h1.len
  go_enter Tryd.func25, Tryd.ntmps25
  go_wp2
  go_loopw [13] (fun i wr => ∃ k : Nat, k ≤ l.length ∧ i = .int .i64 k ∧ Below w.heap.size w wr) (fun i _ => l.length - (intOf i).toNat)
  case atStart => exact ⟨0, by omega, rfl, Below.refl _ _⟩
  case round =>
    obtain ⟨k, hk, rfl, hbel⟩ := hrel
    by_cases hlt : k < l.length
    · obtain ⟨b1, o1, e1, hb1, hc1⟩ := h1.at_ hlt
      obtain ⟨b2, o2, e2, hb2, hc2⟩ := h2.at_ hlt
      subst e1 e2
      have d1 := (hbel.cell (p := ⟨b1, o1 + k * 2, none⟩) hb1).trans (hc1 k hlt).1
      have d2 := (hbel.cell (p := ⟨b1, o1 + k * 2 + 1, none⟩) hb1).trans (hc1 k hlt).2
      have d3 := (hbel.cell (p := ⟨b2, o2 + k * 2, none⟩) hb2).trans (hc2 k hlt).1
      have d4 := (hbel.cell (p := ⟨b2, o2 + k * 2 + 1, none⟩) hb2).trans (hc2 k hlt).2
      have g1 : (k : Int) < l.length := by omega
      have g0 : (0 : Int) ≤ (k : Int) := by omega
      clear hc1 hc2
      have hne : ∀ w, (binOp .neq 51 (.agg #[.int .i64 (fv l k), .int .i64 (fx l k)]) (.agg #[.int .i64 (fv l k), .int .i64 (fx l k)])).run Tryd.prog w = .ok (.bool false) w := by
        intro w; simp [go_sem]
      go_wp2_with fail
      go_quiet (fail)
      go_wp2
      go_roundw
      case rel => exact ⟨k + 1, by omega, by go_num, by repeat (first | exact Below.refl _ _ | refine below_dN ?_ _ | refine Below.drew ?_ | refine Below.alloc ?_ (by first | omega | (simp; done) | (simp; omega)) _ | refine Below.setCell ?_ (by first | omega | (simp; done) | (simp; omega)) _ | refine below_step (by assumption) (by first | omega | (simp; done) | (simp; omega)) ?_)⟩
      case measure => simp [intOf]; omega
    · go_wp2
      go_ret
      exact ⟨rfl, hbel⟩

set_option maxRecDepth 100000 in
set_option maxHeartbeats 4000000 in
theorem beffs_same (l : List Eff) (A1 A2 : Option Addr) (c1 c2 : Nat) (w : World) (h1 : EffsAt w w.heap.size A1 l) (h2 : EffsAt w w.heap.size A2 l) :
    Calls Tryd.prog 26 #[.slice A1 l.length c1, .slice A2 l.length c2] w fun e w' => e = .returned (.bool true) ∧ Below w.heap.size w w' := by
  have l1 := h1.len
  go_enter Tryd.func26, Tryd.ntmps26
  go_wp2
  go_loopw [13] (fun i wr => ∃ k : Nat, k ≤ l.length ∧ i = .int .i64 k ∧ Below w.heap.size w wr) (fun i _ => l.length - (intOf i).toNat)
  case atStart => exact ⟨0, by omega, rfl, Below.refl _ _⟩
  case round =>
    obtain ⟨k, hk, rfl, hbel⟩ := hrel
    obtain ⟨wt, rfl⟩ : ∃ wt : World, wt = wr := ⟨_, rfl⟩
    have hbz := hbel.size
    by_cases hlt : k < l.length
    · obtain ⟨b1, o1, S, c, e1, hb1, i0, f5, i1, i2⟩ := h1.at2 hbel hlt
      obtain ⟨b2, o2, S', c', e2, hb2, j0, f6, j1, j2⟩ := h2.at2 hbel hlt
      subst e1 e2
      have g1 : (k : Int) < l.length := by omega
      have g0 : (0 : Int) ≤ (k : Int) := by omega
      have g3 : b1 < wt.heap.size := by omega
      have g4 : b2 < wt.heap.size := by omega
      have q1 := f5.len
      have k1 : ∀ w1, Below wt.heap.size wt w1 → Calls Tryd.prog 25 #[.slice S (eff l k).whn.length c, .slice S' (eff l k).whn.length c'] w1 fun e w' => e = .returned (.bool true) ∧ Below w1.heap.size w1 w' := fun w1 hb => bfacts_same (eff l k).whn S S' c c' w1 (f5.keep (fun _ hp => (hbel.trans (hb.mono hbz)).cell hp) (Nat.le_trans hbz hb.size)) (f6.keep (fun _ hp => (hbel.trans (hb.mono hbz)).cell hp) (Nat.le_trans hbz hb.size))
      have K1 := Lib.hid k1
      clear k1
      go_wp2_with fail
      refine wp_region_aft (by kernel_rfl) (by kernel_rfl) (by (try simp); exact rfl) ?_; intro haft; (repeat (go_big_quiet_step ((go_at_call 25; exact aft_of (K1.out _ (Aft.below _)))))); refine wpQuiet_nil ?_; intro w1 hwx; have hb1 := aft_below hwx; clear hwx; obtain ⟨hc1, hf1, hz1, hlt1, hle1⟩ := cellsIf hb1 (by (try simp); exact rfl); (try have : w.heap.size < w1.heap.size := (by omega)); (try have : w.heap.size < w1.heap.size + 1 := (by omega)); (try have : w.heap.size < w1.heap.size + 1 + 1 := (by omega)); (try have : w.heap.size + 1 < w1.heap.size := (by omega)); (try have : w.heap.size + 1 < w1.heap.size + 1 := (by omega)); (try have : w.heap.size + 1 < w1.heap.size + 1 + 1 := (by omega)); (try have : w.heap.size + 1 + 1 < w1.heap.size := (by omega)); (try have : w.heap.size + 1 + 1 < w1.heap.size + 1 := (by omega)); (try have : w.heap.size + 1 + 1 < w1.heap.size + 1 + 1 := (by omega)); clear haft
      go_wp2
      go_roundw
      case rel => exact ⟨k + 1, by omega, by go_num, hbel.trans (hb1.mono hbz)⟩
      case measure => simp [intOf]; omega
    · go_wp2
      go_ret
      exact ⟨rfl, hbel⟩
end

section
open Go Go.RowKit
set_option linter.unusedVariables false

set_option maxRecDepth 100000 in
set_option maxHeartbeats 8000000 in
theorem btasks_same (t : Tsk) (p q : Lies) (w : World) (ht : TaskAt w w.heap.size t p) (hu : TaskAt w w.heap.size t q) :
    Calls Tryd.prog 10 #[TaskV t p, TaskV t q] w fun e w' => e = .returned (.bool true) ∧ Below w.heap.size w w' := by
  obtain ⟨av, ai, ag, ao, cv, ci, cg, co⟩ := p
  obtain ⟨bv, bi, bg, bo, dv, di, dg, dO⟩ := q
  unfold TaskV
  dsimp only
  have l4 := ht.ops.len
  have kI : ∀ w1, Below w.heap.size w w1 → Calls Tryd.prog 15 #[.slice av t.vars.length cv, .slice bv t.vars.length dv] w1 fun e w' => e = .returned (.bool true) ∧ Below w1.heap.size w1 w' := fun w1 hb => by
    have := bints_any t.vars t.vars av bv cv dv w1 (ht.vars.up hb) (hu.vars.up hb); simpa using this
  have kJ : ∀ w1, Below w.heap.size w w1 → Calls Tryd.prog 15 #[.slice ai t.init.length ci, .slice bi t.init.length di] w1 fun e w' => e = .returned (.bool true) ∧ Below w1.heap.size w1 w' := fun w1 hb => by
    have := bints_any t.init t.init ai bi ci di w1 (ht.init.up hb) (hu.init.up hb); simpa using this
  have kF := fun w1 (hb : Below w.heap.size w w1) => bfacts_same t.goal ag bg cg dg w1 (ht.goal.up hb) (hu.goal.up hb)
  have KI := Lib.hid kI
  have KJ := Lib.hid kJ
  have KF := Lib.hid kF
  clear kI kJ kF
  go_enter Tryd.func10, Tryd.ntmps10
  go_wp2_with fail; refine (KI.out _ (by repeat (first | exact Below.refl _ _ | refine below_dN ?_ _ | refine Below.drew ?_ | refine Below.alloc ?_ (by first | omega | (simp; done) | (simp; omega)) _ | refine Below.setCell ?_ (by first | omega | (simp; done) | (simp; omega)) _ | refine below_step (by assumption) (by first | omega | (simp; done) | (simp; omega)) ?_))).mono ?_; rintro e w1 ⟨rfl, hb1⟩; obtain ⟨hc1, hf1, hz1, hlt1, hle1⟩ := cellsIf hb1 (by (try simp); exact rfl); (try have : w.heap.size < w1.heap.size := (by omega)); (try have : w.heap.size < w1.heap.size + 1 := (by omega)); (try have : w.heap.size < w1.heap.size + 1 + 1 := (by omega)); (try have : w.heap.size + 1 < w1.heap.size := (by omega)); (try have : w.heap.size + 1 < w1.heap.size + 1 := (by omega)); (try have : w.heap.size + 1 < w1.heap.size + 1 + 1 := (by omega)); (try have : w.heap.size + 1 + 1 < w1.heap.size := (by omega)); (try have : w.heap.size + 1 + 1 < w1.heap.size + 1 := (by omega)); (try have : w.heap.size + 1 + 1 < w1.heap.size + 1 + 1 := (by omega))
  go_wp2_with fail; refine (KJ.out _ (by repeat (first | exact Below.refl _ _ | refine below_dN ?_ _ | refine Below.drew ?_ | refine Below.alloc ?_ (by first | omega | (simp; done) | (simp; omega)) _ | refine Below.setCell ?_ (by first | omega | (simp; done) | (simp; omega)) _ | refine below_step (by assumption) (by first | omega | (simp; done) | (simp; omega)) ?_))).mono ?_; rintro e w2 ⟨rfl, hb2⟩; obtain ⟨hc2, hf2, hz2, hlt2, hle2⟩ := cellsIf hb2 (by (try simp); exact rfl); (try have : w.heap.size < w2.heap.size := (by omega)); (try have : w.heap.size < w2.heap.size + 1 := (by omega)); (try have : w.heap.size < w2.heap.size + 1 + 1 := (by omega)); (try have : w.heap.size + 1 < w2.heap.size := (by omega)); (try have : w.heap.size + 1 < w2.heap.size + 1 := (by omega)); (try have : w.heap.size + 1 < w2.heap.size + 1 + 1 := (by omega)); (try have : w.heap.size + 1 + 1 < w2.heap.size := (by omega)); (try have : w.heap.size + 1 + 1 < w2.heap.size + 1 := (by omega)); (try have : w.heap.size + 1 + 1 < w2.heap.size + 1 + 1 := (by omega)); (try have : w1.heap.size < w2.heap.size := (by omega)); (try have : w1.heap.size < w2.heap.size + 1 := (by omega)); (try have : w1.heap.size < w2.heap.size + 1 + 1 := (by omega)); (try have : w1.heap.size + 1 < w2.heap.size := (by omega)); (try have : w1.heap.size + 1 < w2.heap.size + 1 := (by omega)); (try have : w1.heap.size + 1 < w2.heap.size + 1 + 1 := (by omega)); (try have : w1.heap.size + 1 + 1 < w2.heap.size := (by omega)); (try have : w1.heap.size + 1 + 1 < w2.heap.size + 1 := (by omega)); (try have : w1.heap.size + 1 + 1 < w2.heap.size + 1 + 1 := (by omega))
  go_wp2_with fail; refine (KF.out _ (by repeat (first | exact Below.refl _ _ | refine below_dN ?_ _ | refine Below.drew ?_ | refine Below.alloc ?_ (by first | omega | (simp; done) | (simp; omega)) _ | refine Below.setCell ?_ (by first | omega | (simp; done) | (simp; omega)) _ | refine below_step (by assumption) (by first | omega | (simp; done) | (simp; omega)) ?_))).mono ?_; rintro e w3 ⟨rfl, hb3⟩; obtain ⟨hc3, hf3, hz3, hlt3, hle3⟩ := cellsIf hb3 (by (try simp); exact rfl); (try have : w.heap.size < w3.heap.size := (by omega)); (try have : w.heap.size < w3.heap.size + 1 := (by omega)); (try have : w.heap.size < w3.heap.size + 1 + 1 := (by omega)); (try have : w.heap.size + 1 < w3.heap.size := (by omega)); (try have : w.heap.size + 1 < w3.heap.size + 1 := (by omega)); (try have : w.heap.size + 1 < w3.heap.size + 1 + 1 := (by omega)); (try have : w.heap.size + 1 + 1 < w3.heap.size := (by omega)); (try have : w.heap.size + 1 + 1 < w3.heap.size + 1 := (by omega)); (try have : w.heap.size + 1 + 1 < w3.heap.size + 1 + 1 := (by omega)); (try have : w1.heap.size < w3.heap.size := (by omega)); (try have : w1.heap.size < w3.heap.size + 1 := (by omega)); (try have : w1.heap.size < w3.heap.size + 1 + 1 := (by omega)); (try have : w1.heap.size + 1 < w3.heap.size := (by omega)); (try have : w1.heap.size + 1 < w3.heap.size + 1 := (by omega)); (try have : w1.heap.size + 1 < w3.heap.size + 1 + 1 := (by omega)); (try have : w1.heap.size + 1 + 1 < w3.heap.size := (by omega)); (try have : w1.heap.size + 1 + 1 < w3.heap.size + 1 := (by omega)); (try have : w1.heap.size + 1 + 1 < w3.heap.size + 1 + 1 := (by omega)); (try have : w2.heap.size < w3.heap.size := (by omega)); (try have : w2.heap.size < w3.heap.size + 1 := (by omega)); (try have : w2.heap.size < w3.heap.size + 1 + 1 := (by omega)); (try have : w2.heap.size + 1 < w3.heap.size := (by omega)); (try have : w2.heap.size + 1 < w3.heap.size + 1 := (by omega)); (try have : w2.heap.size + 1 < w3.heap.size + 1 + 1 := (by omega)); (try have : w2.heap.size + 1 + 1 < w3.heap.size := (by omega)); (try have : w2.heap.size + 1 + 1 < w3.heap.size + 1 := (by omega)); (try have : w2.heap.size + 1 + 1 < w3.heap.size + 1 + 1 := (by omega))
  have hbw3 : Below w.heap.size w w3 := by repeat (first | exact Below.refl _ _ | refine below_dN ?_ _ | refine Below.drew ?_ | refine Below.alloc ?_ (by first | omega | (simp; done) | (simp; omega)) _ | refine Below.setCell ?_ (by first | omega | (simp; done) | (simp; omega)) _ | refine below_step (by assumption) (by first | omega | (simp; done) | (simp; omega)) ?_)
  have s1 : w.heap.size + 1 + 1 ≤ w1.heap.size := by have := hb1.size; simpa using this
  have s2 : w.heap.size + 1 + 1 ≤ w2.heap.size := Nat.le_trans s1 hb2.size
  have hb33 := (hb1.mono (show w.heap.size + 1 + 1 ≤ _ by simp)).trans ((hb2.mono s1).trans (hb3.mono s2))
  have hz3 : w.heap.size + 1 + 1 ≤ w3.heap.size := Nat.le_trans s2 hb3.size
  have p3 : w3.cell? ⟨w.heap.size, 3, none⟩ = some (.slice ao t.ops.length co) := (hb33.cell (p := ⟨w.heap.size, 3, none⟩) (by show w.heap.size < _; omega)).trans (by simp)
  have q3 : w3.cell? ⟨w.heap.size + 1, 3, none⟩ = some (.slice bo t.ops.length dO) := (hb33.cell (p := ⟨w.heap.size + 1, 3, none⟩) (by show w.heap.size + 1 < _; omega)).trans (by simp)
  clear hc1 hc2 hc3 hf1 hf2 hf3 hlt1 hlt2 hlt3 hle1 hle2 hle3 hz1 hz2 hb33 hb1 hb2 hb3
  go_wp2
  go_loopw [42] (fun i wr => ∃ k : Nat, k ≤ t.ops.length ∧ i = .int .i64 k ∧ wr.cell? ⟨w.heap.size, 3, none⟩ = some (.slice ao t.ops.length co) ∧ wr.cell? ⟨w.heap.size + 1, 3, none⟩ = some (.slice bo t.ops.length dO) ∧ Below w3.heap.size w3 wr) (fun i _ => t.ops.length - (intOf i).toNat)
  case atStart => exact ⟨0, by omega, rfl, p3, q3, Below.refl _ _⟩
  case round =>
    clear p3 q3
    obtain ⟨k, hk, rfl, p3, q3, hbel⟩ := hrel
    obtain ⟨wt, rfl⟩ : ∃ wt : World, wt = wr := ⟨_, rfl⟩
    have hbz := hbel.size
    have hbw := hbw3.trans (hbel.mono hbw3.size)
    by_cases hlt : k < t.ops.length
    · obtain ⟨b1, o1, S, c, T, d, e1, hb1, d0, n0, d1, d2, f2, d3, e3⟩ := ht.ops.at2 hbw hlt
      obtain ⟨b2, o2, S', c', T', d', e2, hb2, i0, n1, i1, i2, f2', i3, e3'⟩ := hu.ops.at2 hbw hlt
      dsimp only at e1 e2
      subst e1 e2
      have g1 : (k : Int) < t.ops.length := by omega
      have g0 : (0 : Int) ≤ (k : Int) := by omega
      have g3 : b1 < wt.heap.size := by omega
      have g4 : b2 < wt.heap.size := by omega
      have s1' : w.heap.size < wt.heap.size := by omega
      have s2' : w.heap.size + 1 < wt.heap.size := by omega
      have j1 := f2.len
      have j2 := e3.len
      have kF : ∀ w1, Below wt.heap.size wt w1 → Calls Tryd.prog 25 #[.slice S (opr t.ops k).pre.length c, .slice S' (opr t.ops k).pre.length c'] w1 fun e w' => e = .returned (.bool true) ∧ Below w1.heap.size w1 w' := fun w1 hb => bfacts_same (opr t.ops k).pre S S' c c' w1 (f2.keep (fun _ hp => (hbw.trans (hb.mono hbw.size)).cell hp) (Nat.le_trans hbw.size hb.size)) (f2'.keep (fun _ hp => (hbw.trans (hb.mono hbw.size)).cell hp) (Nat.le_trans hbw.size hb.size))
      have kE : ∀ w1, Below wt.heap.size wt w1 → Calls Tryd.prog 26 #[.slice T (opr t.ops k).effs.length d, .slice T' (opr t.ops k).effs.length d'] w1 fun e w' => e = .returned (.bool true) ∧ Below w1.heap.size w1 w' := fun w1 hb => beffs_same (opr t.ops k).effs T T' d d' w1 (e3.keep (fun _ hp => (hbw.trans (hb.mono hbw.size)).cell hp) (Nat.le_trans hbw.size hb.size)) (e3'.keep (fun _ hp => (hbw.trans (hb.mono hbw.size)).cell hp) (Nat.le_trans hbw.size hb.size))
      have KF2 := Lib.hid kF
      have KE := Lib.hid kE
      clear kF kE
      go_upto_region 6 with fail
      go_cut [6, 7] (fun v6 v7 wx => ∃ (x6 x7 : Nat), v6 = .pointer (some ⟨x6, 0, none⟩) ∧ v7 = .pointer (some ⟨x7, 0, none⟩) ∧ Box4 wx x6 (.string (opr t.ops k).name) (.int .i64 (opr t.ops k).cost) (.slice S (opr t.ops k).pre.length c) (.slice T (opr t.ops k).effs.length d) ∧ Box4 wx x7 (.string (opr t.ops k).name) (.int .i64 (opr t.ops k).cost) (.slice S' (opr t.ops k).pre.length c') (.slice T' (opr t.ops k).effs.length d') ∧ Below wt.heap.size wt wx)
      case first =>
        go_wp2_with fail
        refine wp_region_G 13 (fun w' => ∀ b' o', w'.cell? ⟨b', o', none⟩ = if b' < wt.heap.size then wt.cell? ⟨b', o', none⟩ else hidC w' b' o') (by kernel_rfl) (cif (Below.refl _ _).drew) ?_
        intro hG0
        refine wpS1 0 hG0 ?_; intro hG1; clear hG0
        refine wpS2 1 hG1 ?_; intro hG2; clear hG1
        refine wpS1 2 hG2 ?_; intro hG3; clear hG2
        refine wpS1 3 hG3 ?_; intro hG4; clear hG3
        refine wpS2 4 hG4 ?_; intro hG5; clear hG4
        refine wpS1 5 hG5 ?_; intro hG6; clear hG5
        refine wpS2 6 hG6 ?_; intro hG7; clear hG6
        refine wpS1 7 hG7 ?_; intro hG8; clear hG7
        refine wpS1 8 hG8 ?_; intro hG9; clear hG8
        refine wpS2 9 hG9 ?_; intro hG10; clear hG9
        refine wpAnyG_ready (rs := [10, 11]) (by kernel_rfl) (by simp) (AllG.cons rfl hG10 (fun K hK => ?_) (AllG.cons rfl hG10 (fun K hK => ?_) AllG.nil))
        (go_simp)
        refine hK.out _ _ (Or.inr (cif (by repeat (first | exact Below.refl _ _ | refine below_dN ?_ _ | refine Below.drew ?_ | refine Below.alloc ?_ (by first | omega | (simp; done) | (simp; omega)) _ | refine Below.setCell ?_ (by first | omega | (simp; done) | (simp; omega)) _ | refine below_step (by assumption) (by first | omega | (simp; done) | (simp; omega)) ?_)))) (fun hG11 => wpN ?_); clear hK hG10
        refine wpAnyG_ready (rs := [11]) (by kernel_rfl) (by simp) (AllG.cons rfl hG11 (fun K hK => ?_) AllG.nil)
        (go_simp)
        refine hK.out _ _ (Or.inr (cif (by repeat (first | exact Below.refl _ _ | refine below_dN ?_ _ | refine Below.drew ?_ | refine Below.alloc ?_ (by first | omega | (simp; done) | (simp; omega)) _ | refine Below.setCell ?_ (by first | omega | (simp; done) | (simp; omega)) _ | refine below_step (by assumption) (by first | omega | (simp; done) | (simp; omega)) ?_)))) (fun hG12 => wpN ?_); clear hK hG11
        refine wpAnyG_ready (rs := [12]) (by kernel_rfl) (by simp) (AllG.cons rfl hG12 (fun K hK => ?_) AllG.nil)
        (go_simp)
        refine hK.out _ _ (Or.inr (cif (by repeat (first | exact Below.refl _ _ | refine below_dN ?_ _ | refine Below.drew ?_ | refine Below.alloc ?_ (by first | omega | (simp; done) | (simp; omega)) _ | refine Below.setCell ?_ (by first | omega | (simp; done) | (simp; omega)) _ | refine below_step (by assumption) (by first | omega | (simp; done) | (simp; omega)) ?_)))) (fun hG13 => wpN ?_); clear hK hG12
        refine wpAnyG_ready (rs := [13]) (by kernel_rfl) (by simp) (AllG.cons rfl hG13 (fun K hK => ?_) AllG.nil)
        (go_simp)
        refine hK.out _ _ (Or.inl rfl) (fun hG14 => wpN ?_); clear hK hG13
        refine wpAnyG_done (by kernel_rfl) ?_ _; clear hG14
        rotate_left
        (go_simp)
        refine hK.out _ _ (Or.inr (cif (by repeat (first | exact Below.refl _ _ | refine below_dN ?_ _ | refine Below.drew ?_ | refine Below.alloc ?_ (by first | omega | (simp; done) | (simp; omega)) _ | refine Below.setCell ?_ (by first | omega | (simp; done) | (simp; omega)) _ | refine below_step (by assumption) (by first | omega | (simp; done) | (simp; omega)) ?_)))) (fun hG11 => wpN ?_); clear hK hG10
        refine wpAnyG_ready (rs := [10]) (by kernel_rfl) (by simp) (AllG.cons rfl hG11 (fun K hK => ?_) AllG.nil)
        (go_simp)
        refine hK.out _ _ (Or.inr (cif (by repeat (first | exact Below.refl _ _ | refine below_dN ?_ _ | refine Below.drew ?_ | refine Below.alloc ?_ (by first | omega | (simp; done) | (simp; omega)) _ | refine Below.setCell ?_ (by first | omega | (simp; done) | (simp; omega)) _ | refine below_step (by assumption) (by first | omega | (simp; done) | (simp; omega)) ?_)))) (fun hG12 => wpN ?_); clear hK hG11
        refine wpAnyG_ready (rs := [12]) (by kernel_rfl) (by simp) (AllG.cons rfl hG12 (fun K hK => ?_) AllG.nil)
        (go_simp)
        refine hK.out _ _ (Or.inr (cif (by repeat (first | exact Below.refl _ _ | refine below_dN ?_ _ | refine Below.drew ?_ | refine Below.alloc ?_ (by first | omega | (simp; done) | (simp; omega)) _ | refine Below.setCell ?_ (by first | omega | (simp; done) | (simp; omega)) _ | refine below_step (by assumption) (by first | omega | (simp; done) | (simp; omega)) ?_)))) (fun hG13 => wpN ?_); clear hK hG12
        refine wpAnyG_ready (rs := [13]) (by kernel_rfl) (by simp) (AllG.cons rfl hG13 (fun K hK => ?_) AllG.nil)
        (go_simp)
        refine hK.out _ _ (Or.inl rfl) (fun hG14 => wpN ?_); clear hK hG13
        refine wpAnyG_done (by kernel_rfl) ?_ _; clear hG14
        rotate_left
        all_goals (go_wp2; go_meet)
        · have n2 := Box4.new (wt.alloc (Obj.cells #[.string (opr t.ops k).name, .int .i64 (opr t.ops k).cost, .slice S (opr t.ops k).pre.length c, .slice T (opr t.ops k).effs.length d] 47)) 47 (.string (opr t.ops k).name) (.int .i64 (opr t.ops k).cost) (.slice S' (opr t.ops k).pre.length c') (.slice T' (opr t.ops k).effs.length d')
          simp only [World.size_alloc] at n2
          exact ⟨_, _, rfl, rfl, ((Box4.new wt 47 _ _ _ _).alloc _).drew, n2.drew, by repeat (first | exact Below.refl _ _ | refine below_dN ?_ _ | refine Below.drew ?_ | refine Below.alloc ?_ (by first | omega | (simp; done) | (simp; omega)) _ | refine Below.setCell ?_ (by first | omega | (simp; done) | (simp; omega)) _ | refine below_step (by assumption) (by first | omega | (simp; done) | (simp; omega)) ?_)⟩
        · have n2 := Box4.new (wt.alloc (Obj.cells #[.string (opr t.ops k).name, .int .i64 (opr t.ops k).cost, .slice S' (opr t.ops k).pre.length c', .slice T' (opr t.ops k).effs.length d'] 47)) 47 (.string (opr t.ops k).name) (.int .i64 (opr t.ops k).cost) (.slice S (opr t.ops k).pre.length c) (.slice T (opr t.ops k).effs.length d)
          simp only [World.size_alloc] at n2
          exact ⟨_, _, rfl, rfl, n2.drew, ((Box4.new wt 47 _ _ _ _).alloc _).drew, by repeat (first | exact Below.refl _ _ | refine below_dN ?_ _ | refine Below.drew ?_ | refine Below.alloc ?_ (by first | omega | (simp; done) | (simp; omega)) _ | refine Below.setCell ?_ (by first | omega | (simp; done) | (simp; omega)) _ | refine below_step (by assumption) (by first | omega | (simp; done) | (simp; omega)) ?_)⟩
      case rest =>
        obtain ⟨x6, x7, rfl, rfl, h6, h7, hb5⟩ := hcut
        have hz5' := hb5.size
        obtain ⟨a0, a1, a2, a3, a4, a5⟩ := id h6
        obtain ⟨r0, r1, r2, r3, r4, r5⟩ := id h7
        go_wp2_with fail; refine (KF2.out _ (by repeat (first | exact Below.refl _ _ | refine below_dN ?_ _ | refine Below.drew ?_ | refine Below.alloc ?_ (by first | omega | (simp; done) | (simp; omega)) _ | refine Below.setCell ?_ (by first | omega | (simp; done) | (simp; omega)) _ | refine below_step (by assumption) (by first | omega | (simp; done) | (simp; omega)) ?_))).mono ?_; rintro e w4 ⟨rfl, hb4⟩; obtain ⟨hc4, hf4, hz4, hlt4, hle4⟩ := cellsIf hb4 (by (try simp); exact rfl); (try have : w.heap.size < w4.heap.size := (by omega)); (try have : w.heap.size < w4.heap.size + 1 := (by omega)); (try have : w.heap.size < w4.heap.size + 1 + 1 := (by omega)); (try have : w.heap.size + 1 < w4.heap.size := (by omega)); (try have : w.heap.size + 1 < w4.heap.size + 1 := (by omega)); (try have : w.heap.size + 1 < w4.heap.size + 1 + 1 := (by omega)); (try have : w.heap.size + 1 + 1 < w4.heap.size := (by omega)); (try have : w.heap.size + 1 + 1 < w4.heap.size + 1 := (by omega)); (try have : w.heap.size + 1 + 1 < w4.heap.size + 1 + 1 := (by omega)); (try have : w1.heap.size < w4.heap.size := (by omega)); (try have : w1.heap.size < w4.heap.size + 1 := (by omega)); (try have : w1.heap.size < w4.heap.size + 1 + 1 := (by omega)); (try have : w1.heap.size + 1 < w4.heap.size := (by omega)); (try have : w1.heap.size + 1 < w4.heap.size + 1 := (by omega)); (try have : w1.heap.size + 1 < w4.heap.size + 1 + 1 := (by omega)); (try have : w1.heap.size + 1 + 1 < w4.heap.size := (by omega)); (try have : w1.heap.size + 1 + 1 < w4.heap.size + 1 := (by omega)); (try have : w1.heap.size + 1 + 1 < w4.heap.size + 1 + 1 := (by omega)); (try have : w2.heap.size < w4.heap.size := (by omega)); (try have : w2.heap.size < w4.heap.size + 1 := (by omega)); (try have : w2.heap.size < w4.heap.size + 1 + 1 := (by omega)); (try have : w2.heap.size + 1 < w4.heap.size := (by omega)); (try have : w2.heap.size + 1 < w4.heap.size + 1 := (by omega)); (try have : w2.heap.size + 1 < w4.heap.size + 1 + 1 := (by omega)); (try have : w2.heap.size + 1 + 1 < w4.heap.size := (by omega)); (try have : w2.heap.size + 1 + 1 < w4.heap.size + 1 := (by omega)); (try have : w2.heap.size + 1 + 1 < w4.heap.size + 1 + 1 := (by omega)); (try have : w3.heap.size < w4.heap.size := (by omega)); (try have : w3.heap.size < w4.heap.size + 1 := (by omega)); (try have : w3.heap.size < w4.heap.size + 1 + 1 := (by omega)); (try have : w3.heap.size + 1 < w4.heap.size := (by omega)); (try have : w3.heap.size + 1 < w4.heap.size + 1 := (by omega)); (try have : w3.heap.size + 1 < w4.heap.size + 1 + 1 := (by omega)); (try have : w3.heap.size + 1 + 1 < w4.heap.size := (by omega)); (try have : w3.heap.size + 1 + 1 < w4.heap.size + 1 := (by omega)); (try have : w3.heap.size + 1 + 1 < w4.heap.size + 1 + 1 := (by omega))
        go_wp2_with fail; refine (KE.out _ (by repeat (first | exact Below.refl _ _ | refine below_dN ?_ _ | refine Below.drew ?_ | refine Below.alloc ?_ (by first | omega | (simp; done) | (simp; omega)) _ | refine Below.setCell ?_ (by first | omega | (simp; done) | (simp; omega)) _ | refine below_step (by assumption) (by first | omega | (simp; done) | (simp; omega)) ?_))).mono ?_; rintro e w5 ⟨rfl, hb5⟩; obtain ⟨hc5, hf5, hz5, hlt5, hle5⟩ := cellsIf hb5 (by (try simp); exact rfl); (try have : w.heap.size < w5.heap.size := (by omega)); (try have : w.heap.size < w5.heap.size + 1 := (by omega)); (try have : w.heap.size < w5.heap.size + 1 + 1 := (by omega)); (try have : w.heap.size + 1 < w5.heap.size := (by omega)); (try have : w.heap.size + 1 < w5.heap.size + 1 := (by omega)); (try have : w.heap.size + 1 < w5.heap.size + 1 + 1 := (by omega)); (try have : w.heap.size + 1 + 1 < w5.heap.size := (by omega)); (try have : w.heap.size + 1 + 1 < w5.heap.size + 1 := (by omega)); (try have : w.heap.size + 1 + 1 < w5.heap.size + 1 + 1 := (by omega)); (try have : w1.heap.size < w5.heap.size := (by omega)); (try have : w1.heap.size < w5.heap.size + 1 := (by omega)); (try have : w1.heap.size < w5.heap.size + 1 + 1 := (by omega)); (try have : w1.heap.size + 1 < w5.heap.size := (by omega)); (try have : w1.heap.size + 1 < w5.heap.size + 1 := (by omega)); (try have : w1.heap.size + 1 < w5.heap.size + 1 + 1 := (by omega)); (try have : w1.heap.size + 1 + 1 < w5.heap.size := (by omega)); (try have : w1.heap.size + 1 + 1 < w5.heap.size + 1 := (by omega)); (try have : w1.heap.size + 1 + 1 < w5.heap.size + 1 + 1 := (by omega)); (try have : w2.heap.size < w5.heap.size := (by omega)); (try have : w2.heap.size < w5.heap.size + 1 := (by omega)); (try have : w2.heap.size < w5.heap.size + 1 + 1 := (by omega)); (try have : w2.heap.size + 1 < w5.heap.size := (by omega)); (try have : w2.heap.size + 1 < w5.heap.size + 1 := (by omega)); (try have : w2.heap.size + 1 < w5.heap.size + 1 + 1 := (by omega)); (try have : w2.heap.size + 1 + 1 < w5.heap.size := (by omega)); (try have : w2.heap.size + 1 + 1 < w5.heap.size + 1 := (by omega)); (try have : w2.heap.size + 1 + 1 < w5.heap.size + 1 + 1 := (by omega)); (try have : w3.heap.size < w5.heap.size := (by omega)); (try have : w3.heap.size < w5.heap.size + 1 := (by omega)); (try have : w3.heap.size < w5.heap.size + 1 + 1 := (by omega)); (try have : w3.heap.size + 1 < w5.heap.size := (by omega)); (try have : w3.heap.size + 1 < w5.heap.size + 1 := (by omega)); (try have : w3.heap.size + 1 < w5.heap.size + 1 + 1 := (by omega)); (try have : w3.heap.size + 1 + 1 < w5.heap.size := (by omega)); (try have : w3.heap.size + 1 + 1 < w5.heap.size + 1 := (by omega)); (try have : w3.heap.size + 1 + 1 < w5.heap.size + 1 + 1 := (by omega)); (try have : w4.heap.size < w5.heap.size := (by omega)); (try have : w4.heap.size < w5.heap.size + 1 := (by omega)); (try have : w4.heap.size < w5.heap.size + 1 + 1 := (by omega)); (try have : w4.heap.size + 1 < w5.heap.size := (by omega)); (try have : w4.heap.size + 1 < w5.heap.size + 1 := (by omega)); (try have : w4.heap.size + 1 < w5.heap.size + 1 + 1 := (by omega)); (try have : w4.heap.size + 1 + 1 < w5.heap.size := (by omega)); (try have : w4.heap.size + 1 + 1 < w5.heap.size + 1 := (by omega)); (try have : w4.heap.size + 1 + 1 < w5.heap.size + 1 + 1 := (by omega))
        go_wp2
        go_roundw
        case rel => exact ⟨k + 1, by omega, by go_num, (show Below wt.heap.size wt _ by repeat (first | exact Below.refl _ _ | refine below_dN ?_ _ | refine Below.drew ?_ | refine Below.alloc ?_ (by first | omega | (simp; done) | (simp; omega)) _ | refine Below.setCell ?_ (by first | omega | (simp; done) | (simp; omega)) _ | refine below_step (by assumption) (by first | omega | (simp; done) | (simp; omega)) ?_)).cell (p := ⟨w.heap.size, 3, none⟩) s1' |>.trans p3, (show Below wt.heap.size wt _ by repeat (first | exact Below.refl _ _ | refine below_dN ?_ _ | refine Below.drew ?_ | refine Below.alloc ?_ (by first | omega | (simp; done) | (simp; omega)) _ | refine Below.setCell ?_ (by first | omega | (simp; done) | (simp; omega)) _ | refine below_step (by assumption) (by first | omega | (simp; done) | (simp; omega)) ?_)).cell (p := ⟨w.heap.size + 1, 3, none⟩) s2' |>.trans q3, hbel.trans ((show Below wt.heap.size wt _ by repeat (first | exact Below.refl _ _ | refine below_dN ?_ _ | refine Below.drew ?_ | refine Below.alloc ?_ (by first | omega | (simp; done) | (simp; omega)) _ | refine Below.setCell ?_ (by first | omega | (simp; done) | (simp; omega)) _ | refine below_step (by assumption) (by first | omega | (simp; done) | (simp; omega)) ?_)).mono hbz)⟩
        case measure => simp [intOf]; omega
    · go_wp2
      go_ret
      exact ⟨rfl, hbw⟩
end

end Go.Proofs.YtbcbmpnikgeoeaaDoor
