/- causal.Relevant. -/
import Derived.Test.YtenmeiplglbafaaCauB
import Derived.Test.YtenmeiplglbafaaCauQ
import Derived.Test.YtenmeiplglbafaaQueue
import Derived.Deep.LoopGhost
namespace Go.Proofs.Ytenmeiplglbafaa
set_option linter.unusedSimpArgs false
set_option linter.unusedVariables false
open Go.RowKit
set_option linter.unusedVariables false

theorem infoI5 : (Try.prog.info? 3).map (fun i => (i.zero, i.size, i.bytes)) = some (some (.int .i64 0), 1, 8) := by kernel_rfl
theorem undI5 : Try.prog.underlying 22 = some (.slice 3) := by kernel_rfl
def RelRet (t : Tsk) (w : World) (e : Ending) (w' : World) : Prop :=
  ∃ g, e = .returned (.tuple #[.slice (some ⟨g, 0, none⟩) t.vars.length t.vars.length, .nilIface]) ∧ w'.rowIs g 4 t.vars.length (fun v => .bool (relB t v)) ∧ w.heap.size ≤ g
theorem new_one {wr : World} {p : Addr} {v : Value} {o : Obj} : ((wr.setCell p v).alloc o).heap[wr.heap.size]? = some o := by
  have e : (wr.setCell p v).heap.size = wr.heap.size := by simp [World.setCell]
  have := heap_alloc_new (wr.setCell p v) o
  rwa [e] at this
theorem new_two {wr : World} {p : Addr} {v : Value} {o o' : Obj} : (((wr.setCell p v).alloc o).alloc o').heap[wr.heap.size + 1]? = some o' := by
  have e : ((wr.setCell p v).alloc o).heap.size = wr.heap.size + 1 := by simp [World.setCell]
  have := heap_alloc_new ((wr.setCell p v).alloc o) o'
  rwa [e] at this
theorem goN_succ {t : Tsk} {k x : Nat} (h : fv t.goal k = (x : Int)) (v : Nat) : setF (fun v => goN t v k) x v = goN t v (k + 1) := by
  unfold setF goN
  rw [anyB_succ, h, beq_cast]
  by_cases e : v = x
  · subst e; simp
  · have e2 : (x == v) = false := by simp; omega
    rw [if_neg e, e2, Bool.or_false]
/-- A store to the marks. -/
theorem row_mark {w : World} {g n : Nat} {f : Nat → Bool} (h : w.rowIs g 4 n fun v => .bool (f v)) (j : Nat) : (w.setCell ⟨g, j, none⟩ (.bool true)).rowIs g 4 n fun v => .bool (setF f j v) :=
  (h.set j _).congr fun v _ => by unfold setF; by_cases e : v = j <;> simp [e]

set_option maxRecDepth 100000 in
set_option maxHeartbeats 8000000 in
theorem relevant_no (t : Tsk) (p : Lies) (w : World) (ht : TaskAt w w.heap.size t p) (e0 : chkC t ≠ 0) :
    Calls Try.prog 57 #[TaskV t p] w fun e w' => e = .returned (.tuple #[.slice none 0 0, .iface 43 (.int .i64 (chkC t))]) ∧ Below w.heap.size w w' := by
  have k1 := fun w1 (hb : Below w.heap.size w w1) => tcheck_any t p w1 (ht.up hb)
  obtain ⟨av, ai, ag, ao, cv, ci, cg, co⟩ := p
  unfold TaskV at *
  dsimp only at *
  have He := Lib.hid (erV_ne e0)
  simp only [He.out] at k1
  clear e0
  go_enter Try.func57, Try.ntmps57
  go_wp2_with fail; refine (k1 _ (by repeat (first | exact Below.refl _ _ | refine below_dN ?_ _ | refine Below.drew ?_ | refine Below.alloc ?_ (by first | omega | (simp; done) | (simp; omega)) _ | refine Below.setCell ?_ (by first | omega | (simp; done) | (simp; omega)) _ | refine below_step (by assumption) (by first | omega | (simp; done) | (simp; omega)) ?_))).mono ?_; rintro e w1 ⟨rfl, hb1⟩; obtain ⟨hc1, hf1, hz1, hlt1, hle1⟩ := cellsIf hb1 (by (try simp); exact rfl); (try have : w.heap.size < w1.heap.size := (by omega)); (try have : w.heap.size < w1.heap.size + 1 := (by omega)); (try have : w.heap.size < w1.heap.size + 1 + 1 := (by omega)); (try have : w.heap.size + 1 < w1.heap.size := (by omega)); (try have : w.heap.size + 1 < w1.heap.size + 1 := (by omega)); (try have : w.heap.size + 1 < w1.heap.size + 1 + 1 := (by omega)); (try have : w.heap.size + 1 + 1 < w1.heap.size := (by omega)); (try have : w.heap.size + 1 + 1 < w1.heap.size + 1 := (by omega)); (try have : w.heap.size + 1 + 1 < w1.heap.size + 1 + 1 := (by omega))
  go_wp2
  refine bodyPost_ret (v := .tuple #[.slice none 0 0, .iface 43 (.int .i64 (chkC t))]) (by simp [results, Try.results57, go_sem]) rfl ⟨rfl, by repeat (first | exact Below.refl _ _ | refine below_dN ?_ _ | refine Below.drew ?_ | refine Below.alloc ?_ (by first | omega | (simp; done) | (simp; omega)) _ | refine Below.setCell ?_ (by first | omega | (simp; done) | (simp; omega)) _ | refine below_step (by assumption) (by first | omega | (simp; done) | (simp; omega)) ?_)⟩

set_option maxRecDepth 100000 in
set_option maxHeartbeats 16000000 in
theorem relevant_any (t : Tsk) (p : Lies) (w : World) (ht : TaskAt w w.heap.size t p) (e0 : chkC t = 0) :
    Calls Try.prog 57 #[TaskV t p] w fun e w' => RelRet t w e w' ∧ Below w.heap.size w w' := by
  have k1 := fun w1 (hb : Below w.heap.size w w1) => tcheck_any t p w1 (ht.up hb)
  have hr := right_of e0
  have k3 := fun w1 (hb : Below w.heap.size w w1) => depends_any t p w1 (ht.up hb) hr
  have n64 := hr.nv
  have g64 := hr.ng
  have HR := Lib.hid hr
  obtain ⟨av, ai, ag, ao, cv, ci, cg, co⟩ := p
  unfold TaskV at *
  dsimp only at *
  simp only [e0, erV_0] at k1
  clear e0 hr
  obtain ⟨inf, hi, iz0, iz1, iz2⟩ := info_parts infoI5
  have hmk := run_make_row' (P := Try.prog) 45 4 (.bool false) 1 undB infoB rfl .i64 .i64 t.vars.length (by omega) (by omega)
  go_enter Try.func57, Try.ntmps57
  go_wp2_with fail; refine (k1 _ (by repeat (first | exact Below.refl _ _ | refine below_dN ?_ _ | refine Below.drew ?_ | refine Below.alloc ?_ (by first | omega | (simp; done) | (simp; omega)) _ | refine Below.setCell ?_ (by first | omega | (simp; done) | (simp; omega)) _ | refine below_step (by assumption) (by first | omega | (simp; done) | (simp; omega)) ?_))).mono ?_; rintro e w1 ⟨rfl, hb1⟩; obtain ⟨hc1, hf1, hz1, hlt1, hle1⟩ := cellsIf hb1 (by (try simp); exact rfl); (try have : w.heap.size < w1.heap.size := (by omega)); (try have : w.heap.size < w1.heap.size + 1 := (by omega)); (try have : w.heap.size < w1.heap.size + 1 + 1 := (by omega)); (try have : w.heap.size + 1 < w1.heap.size := (by omega)); (try have : w.heap.size + 1 < w1.heap.size + 1 := (by omega)); (try have : w.heap.size + 1 < w1.heap.size + 1 + 1 := (by omega)); (try have : w.heap.size + 1 + 1 < w1.heap.size := (by omega)); (try have : w.heap.size + 1 + 1 < w1.heap.size + 1 := (by omega)); (try have : w.heap.size + 1 + 1 < w1.heap.size + 1 + 1 := (by omega))
  have hbx1 : Boxed w1 w.heap.size t ⟨av, ai, ag, ao, cv, ci, cg, co⟩ := Boxed.up (by constructor <;> simp) hb1
  have hbw1 : Below w.heap.size w w1 := by repeat (first | exact Below.refl _ _ | refine below_dN ?_ _ | refine Below.drew ?_ | refine Below.alloc ?_ (by first | omega | (simp; done) | (simp; omega)) _ | refine Below.setCell ?_ (by first | omega | (simp; done) | (simp; omega)) _ | refine below_step (by assumption) (by first | omega | (simp; done) | (simp; omega)) ?_)
  clear hc1 hf1 hlt1 hle1
  obtain ⟨z0, y0, y1, y2, y3⟩ := id hbx1
  dsimp only at y0 y1 y2 y3
  go_wp2_with fail
  refine (k3 _ hbw1).mono ?_
  rintro e w2 ⟨⟨g, rb, rfl, hmat, hg, hrb⟩, hb2⟩
  have hbx2 := hbx1.up hb2
  have hbw : Below w.heap.size w w2 := hbw1.trans (hb2.mono hbw1.size)
  clear z0 y0 y1 y2 y3 hbx1 hb1 hb2 hbw1 hz1 hrb hg
  obtain ⟨z0, y0, y1, y2, y3⟩ := id hbx2
  dsimp only at y0 y1 y2 y3
  have Hbw := Lib.hid hbw
  have hwz := hbw.size
  go_wp2
  clear hmk
  go_loopw [7, 27] (fun v i wr => ∃ (k : Nat), k ≤ t.goal.length ∧ i = .int .i64 k ∧ Queue wr (w2.heap.size + 1) v (goQ t k) ∧ wr.rowIs w2.heap.size 4 t.vars.length (fun v => .bool (goN t v k)) ∧ Below w2.heap.size w2 wr) (fun _ i _ => t.goal.length - (intOf i).toNat)
  case atStart => exact ⟨0, by omega, rfl, Queue.nil _ _, (World.rowIs_made w2 (.bool false) t.vars.length 4).congr fun _ _ => rfl, (Below.refl _ _).alloc (Nat.le_refl _) _⟩
  case round =>
    clear z0 y0 y1 y2 y3
    obtain ⟨k, hk, rfl, hq, hrow, hbel⟩ := hrel
    have hbz := hbel.size
    have hrl := hrow.lt
    by_cases hlt : k < t.goal.length
    · have hbw2 := Hbw.out.trans (hbel.mono hwz)
      obtain ⟨b, o, ea, hb, hc⟩ := ht.goal.at_ hlt
      dsimp only at ea
      subst ea
      have d1 := (hbw2.cell (p := ⟨b, o + k * 2, none⟩) hb).trans (hc k hlt).1
      have d2 := (hbw2.cell (p := ⟨b, o + k * 2 + 1, none⟩) hb).trans (hc k hlt).2
      clear hc
      have g2 : b < wr.heap.size := by omega
      have hgv := fa_at HR.out.goal hlt
      obtain ⟨x, hx⟩ : ∃ x : Nat, fv t.goal k = (x : Int) := ⟨(fv t.goal k).toNat, by omega⟩
      have HX := Lib.hid hx
      rw [hx] at d1 hgv
      have hxn : x < t.vars.length := by omega
      have x0 : (0 : Int) ≤ (x : Int) := by omega
      have x1 : (x : Int) < (t.vars.length : Int) := by omega
      have m2 := hrow.cell hxn
      have m3 := hrow.frozen x
      have hlen := goQ_len t k
      have hq2 := hq.far (p := ⟨w2.heap.size, x, none⟩) (hq.ne hrow (by decide)) (.bool true)
      have hrow2 := row_mark hrow x
      have Hlen := Lib.hid hlen
      have Hq2 := Lib.hid hq2
      have Hrow2 := Lib.hid hrow2
      clear hx hgv hlen hq hq2 hrow2
      go_wp2_with (at_builtin; refine wpList_queue rfl _ _ 22 rfl inf undI5 hi iz0 iz1 iz2 (w2.heap.size + 1) u7 (goQ t k) rfl ((Hq2.out.alloc _).alloc _) (wr.heap.size + 1) 3 (x : Int) rfl new_two (by have := Hlen.out; omega) (by first | omega | (simp; omega)) (B := w2.heap.size) (W := w2) (((hbel.setCell (p := ⟨w2.heap.size, x, none⟩) (Nat.le_refl _) _).alloc (by simp [World.setCell]; omega) _).alloc (by simp [World.setCell]; omega) _) (by omega) ?_; intro v' w8 hq' hgrow hat hbw8; have hrow8 := row_grown (((Hrow2.out).alloc _).alloc _) hgrow (Hq2.out.ne Hrow2.out (by decide)); have Hq := Lib.hid hq'; have Hrow := Lib.hid hrow8; clear hq' hgrow hat hrow8)
      go_roundw
      case rel => exact ⟨k + 1, by omega, by go_num, by rw [goQ_succ, HX.out]; exact Hq.out, Hrow.out.congr fun v _ => by rw [← goN_succ HX.out], hbw8⟩
      case measure => simp [intOf]; omega
    · obtain rfl : k = t.goal.length := by omega
      have hbf := bf_start HR.out
      have hql := goQ_len t t.goal.length
      obtain ⟨f0, hf0⟩ : ∃ f0 : Nat → Bool, f0 = fun v => goN t v t.goal.length := ⟨_, rfl⟩
      rw [← hf0] at hbf
      have hrow0 : wr.rowIs w2.heap.size 4 t.vars.length (fun v => .bool (f0 v)) := by rw [hf0]; exact hrow
      obtain ⟨q0, hq0⟩ : ∃ q0, q0 = goQ t t.goal.length := ⟨_, rfl⟩
      rw [← hq0] at hbf hq hql
      have hc0 := cntF_le f0 t.vars.length
      clear hf0 hq0 hrow hlt hk
      go_wp2
      go_loopg [7] (2 * cntF f0 t.vars.length + q0.length) (fun gg v wr => ∃ (f : Nat → Bool) (q : List Int), gg = 2 * cntF f t.vars.length + q.length ∧ q.length ≤ 1000 ∧ gg ≤ 1000 ∧ Queue wr (w2.heap.size + 1) v q ∧ wr.rowIs w2.heap.size 4 t.vars.length (fun v => .bool (f v)) ∧ Hid (BfI t f q noX) ∧ Below w2.heap.size w2 wr)
      case atStart => exact ⟨f0, q0, rfl, by omega, by omega, hq, hrow0, hbf, hbel⟩
      case round =>
        clear hq hrow0 hbf hbel hbz hrl hc0 hql
        obtain ⟨f, q, hgk, hql, hgl, hq, hrow, hbf, hbel⟩ := hrel
        have Hgk := Lib.hid hgk
        clear hgk
        have hbz := hbel.size
        have hrl := hrow.lt
        by_cases hlt : 0 < q.length
        · obtain ⟨qg, qo, qc, rfl, hqc, hqm, hqb, d1⟩ := hq.front hlt
          have hv0 : ∃ v0 : Nat, nth q 0 = (v0 : Int) := by
            obtain ⟨v, e, _⟩ := hbf.out.a (nth q 0) (by cases q with | nil => simp at hlt | cons x l => simp [nth])
            exact ⟨v, e⟩
          obtain ⟨v0, hv0⟩ := hv0
          obtain ⟨hbf2, hvn, hrel0⟩ := bf_pop hbf.out hlt hv0
          rw [hv0] at d1
          have hpop := hq.pop hlt
          have htl : q.tail.length = q.length - 1 := List.length_tail
          have Hbf2 := Lib.hid hbf2
          have Hrel0 := Lib.hid hrel0
          have Htl := Lib.hid htl
          have m := hmat.up hbel
          have m1 := m.top v0 hvn
          have m5 := m.glt
          have m4 := m.rlt hvn
          have x0 : (0 : Int) ≤ (v0 : Int) := by omega
          have x1 : (v0 : Int) < (t.vars.length : Int) := by omega
          have l0 : (0 : Int) < (q.length : Int) := by omega
          have l1 : (1 : Int) ≤ (q.length : Int) := by omega
          have l2 : (q.length : Int) ≤ (qc : Int) := by omega
          have l3 : (1 : Int) ≤ (qc : Int) := by omega
          clear hbf hbf2 hrel0 htl hv0 hq m
          obtain ⟨wt, rfl⟩ : ∃ wt : World, wt = wr := ⟨_, rfl⟩
          by_cases hc1 : qc = 1
          all_goals
            (first | (rw [if_pos hc1] at hpop; subst hc1) | rw [if_neg hc1] at hpop)
            go_wp2
            go_loopw [7, 54] (fun v i wr => ∃ (j : Nat) (f' : Nat → Bool) (q' : List Int), j ≤ t.vars.length ∧ i = .int .i64 j ∧ q'.length ≤ 1000 ∧ 2 * cntF f' t.vars.length + q'.length < gk ∧ Queue wr (w2.heap.size + 1) v q' ∧ wr.rowIs w2.heap.size 4 t.vars.length (fun v => .bool (f' v)) ∧ Hid (BfI t f' q' (frX v0 j)) ∧ Below w2.heap.size w2 wr) (fun _ i _ => t.vars.length - (intOf i).toNat)
            case atStart => exact ⟨0, f, q.tail, by omega, rfl, by have := Htl.out; omega, by have := Htl.out; have := Hgk.out; omega, by first | exact hpop | (simpa using hpop) | (have hl1 : q.length = 1 := (by omega); rw [hl1] at hpop; exact hpop), hrow, Hbf2, hbel⟩
            case round =>
              clear hpop hrow hbel hbz hrl m1 m4 m5 d1
              obtain ⟨j, f', q', hj, rfl, hq1000, hcnt, hq, hrow, hbf, hbel⟩ := hrel
              have hbz := hbel.size
              have hrl := hrow.lt
              by_cases hltj : j < t.vars.length
              · have m := hmat.up hbel
                have m2 := m.cell (u := j) hvn hltj
                have m4 := m.rlt hvn
                have r2 := hrow.cell hltj
                have r3 := hrow.frozen j
                have y0 : (0 : Int) ≤ (j : Int) := by omega
                have y1 : (j : Int) < (t.vars.length : Int) := by omega
                clear m
                cases e1 : arB t j v0
                · rw [e1] at m2
                  have Hs := Lib.hid (bf_skip hbf.out (.inl e1))
                  go_wp2
                  go_roundw
                  case rel => exact ⟨j + 1, f', q', by omega, by go_num, hq1000, hcnt, hq, hrow, Hs, hbel⟩
                  case measure => simp [intOf]; omega
                · rw [e1] at m2
                  cases e2 : f' j
                  · rw [e2] at r2
                    have Hs := Lib.hid (bf_mark hbf.out hltj hvn Hrel0.out e1)
                    have hc := cntF_set e2 hltj
                    have hq2 := hq.far (p := ⟨w2.heap.size, j, none⟩) (hq.ne hrow (by decide)) (.bool true)
                    have hrow2 := row_mark hrow j
                    have Hq2 := Lib.hid hq2
                    have Hrow2 := Lib.hid hrow2
                    clear hq hq2 hrow2
                    go_wp2_with (at_builtin; refine wpList_queue rfl _ _ 22 rfl inf undI5 hi iz0 iz1 iz2 (w2.heap.size + 1) u7 q' rfl (Hq2.out.alloc _) wr.heap.size 3 (j : Int) rfl new_one (by omega) (by first | omega | (simp; omega)) (B := w2.heap.size) (W := w2) ((hbel.setCell (p := ⟨w2.heap.size, j, none⟩) (Nat.le_refl _) _).alloc (by simp [World.setCell]; omega) _) (by omega) ?_; intro v' w8 hq' hgrow hat hbw8; have hrow8 := row_grown ((Hrow2.out).alloc _) hgrow (Hq2.out.ne Hrow2.out (by decide)); have Hq := Lib.hid hq'; have Hrow := Lib.hid hrow8; clear hq' hgrow hat hrow8)
                    go_roundw
                    case rel => first | exact ⟨j + 1, setF f' j, q' ++ [(j : Int)], by omega, by go_num, by rw [List.length_append]; simp; omega, by rw [List.length_append]; simp; omega, Hq.out, Hrow.out, Hs, hbw8⟩ | ((repeat apply Exists.intro); exact ⟨⟨j + 1, setF f' j, q' ++ [(j : Int)], by omega, by go_num, by rw [List.length_append]; simp; omega, by rw [List.length_append]; simp; omega, Hq.out, Hrow.out, Hs, hbw8⟩, rfl⟩)
                    case measure => simp [intOf]; omega
                  · rw [e2] at r2
                    have Hs := Lib.hid (bf_skip (v0 := v0) hbf.out (.inr e2))
                    go_wp2
                    go_roundw
                    case rel => exact ⟨j + 1, f', q', by omega, by go_num, hq1000, hcnt, hq, hrow, Hs, hbel⟩
                    case measure => simp [intOf]; omega
              · obtain rfl : j = t.vars.length := by omega
                have Hd := Lib.hid (bf_done hbf.out)
                go_wp2
                go_roundg (2 * cntF f' t.vars.length + q'.length)
                case measure => omega
                case rel => exact ⟨f', q', rfl, hq1000, by omega, hq, hrow, Hd, hbel⟩
        · have hq0 : q.length = 0 := by omega
          have he := bf_end hbf.out hq0
          have Hrow := Lib.hid (hrow.congr (g := fun v => .bool (relB t v)) fun v hv => by rw [he v hv])
          obtain ⟨A, c, rfl, hA, _⟩ := hq
          have l0 : ¬ (0 : Int) < (q.length : Int) := by omega
          clear he hq0 hrow
          go_wp2
          refine bodyPost_ret (v := .tuple #[.slice (some ⟨w2.heap.size, 0, none⟩) t.vars.length t.vars.length, .nilIface]) (by simp [results, Try.results57, go_sem]) rfl ⟨⟨w2.heap.size, rfl, Hrow.out, hwz⟩, Hbw.out.trans (hbel.mono hwz)⟩

end Go.Proofs.Ytenmeiplglbafaa
