/- task.Check. -/
import Derived.Test.YtkeelkpmajmjmaaDoorTaskE
import Derived.Test.YtkeelkpmajmjmaaDoorTaskG
namespace Go.Proofs.YtkeelkpmajmjmaaDoor
set_option linter.unusedSimpArgs false
set_option linter.unusedVariables false
open Go.RowKit
set_option linter.unusedVariables false

/-- An error value by its number. -/
def erV (c : Int) : Value := if c = 0 then .nilIface else .iface 37 (.int .i64 c)
theorem ret_er {c d : Int} (h : c = d) : Ending.returned (erV c) = .returned (erV d) := by rw [h]

def faAll (vars : List Int) (cs : List (List (Int × Int))) : Bool := cs.all fun l => faB vars l
theorem faAll_hs (vars : List Int) (hs : List Hd) : faAll vars (hs.map Hd.l) = !anyB hs.length fun k => !faB vars (hd hs k).l := by
  unfold faAll
  rw [Bool.eq_iff_iff, List.all_eq_true, Bool.not_eq_true', anyB_false]
  constructor
  · intro h k hk; rw [h _ (List.mem_map_of_mem (hd_mem hk))]; rfl
  · intro h l hl
    obtain ⟨x, hx, rfl⟩ := List.mem_map.1 hl
    obtain ⟨k, hk, rfl⟩ := List.mem_iff_getElem.1 hx
    have := h k hk
    unfold hd at this
    simpa [List.getD, List.getElem?_eq_getElem hk] using this
/-- Is an effect's own fact wrong? -/
def badE (vars : List Int) (e : Eff) : Bool := !faB vars [(e.var, e.val)]
def badO (vars : List Int) (o : Opr) : Bool := anyB o.effs.length fun k => badE vars (eff o.effs k)
theorem faAll_iff (vars : List Int) (t : Tsk) (n : Nat) : faAll vars (cnds t n) = true ↔ faB vars t.goal = true ∧ ∀ k, k < n → faB vars (opr t.ops k).pre = true ∧ ∀ j, j < (opr t.ops k).effs.length → faB vars (eff (opr t.ops k).effs j).whn = true := by
  unfold faAll cnds cndO
  simp only [List.all_eq_true, List.mem_cons, List.mem_flatMap, List.mem_range, List.mem_map]
  constructor
  · intro h
    exact ⟨h _ (.inl rfl), fun k hk => ⟨h _ (.inr ⟨k, hk, .inl rfl⟩), fun j hj => h _ (.inr ⟨k, hk, .inr ⟨j, hj, rfl⟩⟩)⟩⟩
  · rintro ⟨h1, h2⟩ l (rfl | ⟨k, hk, rfl | ⟨j, hj, rfl⟩⟩)
    · exact h1
    · exact (h2 k hk).1
    · exact (h2 k hk).2 j hj
theorem bool_of_false {a b : Bool} (h : a = false ↔ b = false) : a = b := by cases a <;> cases b <;> simp_all
theorem malT_eq (t : Tsk) : malT t = (!stB t.vars t.init || (!faAll t.vars (cnds t t.ops.length) || anyB t.ops.length fun k => badO t.vars (opr t.ops k))) := by
  apply bool_of_false
  unfold malT
  simp only [Bool.or_eq_false_iff, Bool.not_eq_false', faAll_iff, anyB_false]
  unfold malO malE badO badE
  simp only [Bool.or_eq_false_iff, Bool.not_eq_false', anyB_false]
  constructor
  · rintro ⟨⟨h1, h2⟩, h3⟩
    exact ⟨h1, ⟨h2, fun k hk => ⟨(h3 k hk).1, fun j hj => ((h3 k hk).2 j hj).1⟩⟩, fun k hk j hj => ((h3 k hk).2 j hj).2⟩
  · rintro ⟨h1, ⟨h2, h3⟩, h4⟩
    exact ⟨⟨h1, h2⟩, fun k hk => ⟨(h3 k hk).1, fun j hj => ⟨(h3 k hk).2 j hj, h4 k hk j hj⟩⟩⟩
theorem lg_sizes {t : Tsk} (h : lgT t = false) : t.ops.length ≤ 4096 ∧ ∀ k, k < t.ops.length → (opr t.ops k).effs.length ≤ 64 := by
  unfold lgT at h
  simp only [Bool.or_eq_false_iff, anyB_false] at h
  refine ⟨by have := h.1.1.2; simp at this; omega, fun k hk => ?_⟩
  have h2 := h.2 k hk
  unfold lgO at h2
  simp only [Bool.or_eq_false_iff] at h2
  have := h2.1.2
  simp at this; omega

set_option maxRecDepth 4000 in
set_option maxHeartbeats 4000000 in
theorem tcheck_any (t : Tsk) (p : Lies) (w : World) (ht : TaskAt w w.heap.size t p) :
    Calls Tryd.prog 13 #[TaskV t p] w fun e w' => e = .returned (erV (chkC t)) ∧ Below w.heap.size w w' := by
  have k1 := fun w1 (hb : Below w.heap.size w w1) => tlarge_any t p w1 (ht.up hb)
  have k3 := fun w1 hm he (hb : Below w.heap.size w w1) => conditions_any t p w1 (ht.up hb) hm he
  obtain ⟨av, ai, ag, ao, cv, ci, cg, co⟩ := p
  unfold TaskV at *
  dsimp only at *
  have k2 := fun w1 (hb : Below w.heap.size w w1) => proper_any t.vars t.init av ai cv ci w1 (ht.vars.up hb) (ht.init.up hb)
  have l1 := ht.vars.len
  have l2 := ht.init.len
  have l3 := ht.goal.len
  have l4 := ht.ops.len
  cases e1 : lgT t
  case true =>
    have Hc := Lib.hid (show chkC t = 5 by unfold chkC; rw [e1]; rfl)
    go_enter Tryd.func13, Tryd.ntmps13
    go_wp2_with fail; refine (k1 _ (by repeat (first | exact Below.refl _ _ | refine below_dN ?_ _ | refine Below.drew ?_ | refine Below.alloc ?_ (by first | omega | (simp; done) | (simp; omega)) _ | refine Below.setCell ?_ (by first | omega | (simp; done) | (simp; omega)) _ | refine below_step (by assumption) (by first | omega | (simp; done) | (simp; omega)) ?_))).mono ?_; rintro e w1 ⟨rfl, hb1⟩; obtain ⟨hc1, hf1, hz1, hlt1, hle1⟩ := cellsIf hb1 (by (try simp); exact rfl); (try have : w.heap.size < w1.heap.size := (by omega)); (try have : w.heap.size < w1.heap.size + 1 := (by omega)); (try have : w.heap.size < w1.heap.size + 1 + 1 := (by omega)); (try have : w.heap.size + 1 < w1.heap.size := (by omega)); (try have : w.heap.size + 1 < w1.heap.size + 1 := (by omega)); (try have : w.heap.size + 1 < w1.heap.size + 1 + 1 := (by omega)); (try have : w.heap.size + 1 + 1 < w1.heap.size := (by omega)); (try have : w.heap.size + 1 + 1 < w1.heap.size + 1 := (by omega)); (try have : w.heap.size + 1 + 1 < w1.heap.size + 1 + 1 := (by omega))
    go_wp2
    go_ret
    exact ⟨by rw [Hc.out]; rfl, by repeat (first | exact Below.refl _ _ | refine below_dN ?_ _ | refine Below.drew ?_ | refine Below.alloc ?_ (by first | omega | (simp; done) | (simp; omega)) _ | refine Below.setCell ?_ (by first | omega | (simp; done) | (simp; omega)) _ | refine below_step (by assumption) (by first | omega | (simp; done) | (simp; omega)) ?_)⟩
  have Hsz := Lib.hid (lg_sizes e1)
  have Ho := Lib.hid (show outT t = true → chkC t = 1 by intro h; unfold chkC; rw [e1, h]; rfl)
  have Hm := Lib.hid (show outT t = false → malT t = true → chkC t = 2 by intro h h2; unfold chkC; rw [e1, h, h2]; rfl)
  have Hn := Lib.hid (show outT t = false → malT t = false → misT t = true → chkC t = 8 by intro h h2 h3; unfold chkC; rw [e1, h, h2, h3]; rfl)
  have Hz := Lib.hid (show outT t = false → malT t = false → misT t = false → chkC t = 0 by intro h h2 h3; unfold chkC; rw [e1, h, h2, h3]; rfl)
  go_enter Tryd.func13, Tryd.ntmps13
  go_wp2_with fail; refine (k1 _ (by repeat (first | exact Below.refl _ _ | refine below_dN ?_ _ | refine Below.drew ?_ | refine Below.alloc ?_ (by first | omega | (simp; done) | (simp; omega)) _ | refine Below.setCell ?_ (by first | omega | (simp; done) | (simp; omega)) _ | refine below_step (by assumption) (by first | omega | (simp; done) | (simp; omega)) ?_))).mono ?_; rintro e w1 ⟨rfl, hb1⟩; obtain ⟨hc1, hf1, hz1, hlt1, hle1⟩ := cellsIf hb1 (by (try simp); exact rfl); (try have : w.heap.size < w1.heap.size := (by omega)); (try have : w.heap.size < w1.heap.size + 1 := (by omega)); (try have : w.heap.size < w1.heap.size + 1 + 1 := (by omega)); (try have : w.heap.size + 1 < w1.heap.size := (by omega)); (try have : w.heap.size + 1 < w1.heap.size + 1 := (by omega)); (try have : w.heap.size + 1 < w1.heap.size + 1 + 1 := (by omega)); (try have : w.heap.size + 1 + 1 < w1.heap.size := (by omega)); (try have : w.heap.size + 1 + 1 < w1.heap.size + 1 := (by omega)); (try have : w.heap.size + 1 + 1 < w1.heap.size + 1 + 1 := (by omega))
  go_wp2
  go_loopw [21] (fun i wr => ∃ k : Nat, k ≤ t.vars.length ∧ i = .int .i64 k ∧ (anyB k fun k => decide (nth t.vars k < 1) || decide (64 < nth t.vars k)) = false ∧ Boxed wr w.heap.size t ⟨av, ai, ag, ao, cv, ci, cg, co⟩ ∧ Below w.heap.size w wr) (fun i _ => t.vars.length - (intOf i).toNat)
  case atStart => exact ⟨0, by omega, rfl, rfl, by constructor <;> first | omega | simp [hc1], by repeat (first | exact Below.refl _ _ | refine below_dN ?_ _ | refine Below.drew ?_ | refine Below.alloc ?_ (by first | omega | (simp; done) | (simp; omega)) _ | refine Below.setCell ?_ (by first | omega | (simp; done) | (simp; omega)) _ | refine below_step (by assumption) (by first | omega | (simp; done) | (simp; omega)) ?_)⟩
  case round =>
    clear hc1 hf1 hz1 hlt1 hle1 hb1
    obtain ⟨k, hk, rfl, hB, hbox, hbel⟩ := hrel
    have HB := Lib.hid hB
    clear hB
    obtain ⟨z0, y0, y1, y2, y3⟩ := id hbox
    dsimp only at y0 y1 y2 y3
    by_cases hlt : k < t.vars.length
    · obtain ⟨b1, o1, ea, hb1, hc1⟩ := ht.vars.at_ hlt
      dsimp only at ea
      subst ea
      have d1 := (hbel.cell (p := ⟨b1, o1 + k, none⟩) hb1).trans (hc1 k hlt)
      have hbz := hbel.size
      clear hc1
      cases e2 : decide (nth t.vars k < 1) <;> cases e3 : decide (64 < nth t.vars k) <;> go_wp2
      all_goals first
        | (go_roundw
           case rel => exact ⟨k + 1, by omega, by go_num, (by rw [anyB_succ, HB.out, e2, e3]; rfl), hbox.up (by repeat (first | exact Below.refl _ _ | refine below_dN ?_ _ | refine Below.drew ?_ | refine Below.alloc ?_ (by first | omega | (simp; done) | (simp; omega)) _ | refine Below.setCell ?_ (by first | omega | (simp; done) | (simp; omega)) _ | refine below_step (by assumption) (by first | omega | (simp; done) | (simp; omega)) ?_)), by repeat (first | exact Below.refl _ _ | refine below_dN ?_ _ | refine Below.drew ?_ | refine Below.alloc ?_ (by first | omega | (simp; done) | (simp; omega)) _ | refine Below.setCell ?_ (by first | omega | (simp; done) | (simp; omega)) _ | refine below_step (by assumption) (by first | omega | (simp; done) | (simp; omega)) ?_)⟩
           case measure => simp [intOf]; omega)
        | (go_ret
           have hf : (anyB t.vars.length fun k => decide (nth t.vars k < 1) || decide (64 < nth t.vars k)) = true := anyB_true.2 ⟨k, hlt, by rw [e2, e3]; rfl⟩
           exact ⟨by rw [Ho.out (by unfold outT; rw [hf, Bool.true_or])]; rfl, by repeat (first | exact Below.refl _ _ | refine below_dN ?_ _ | refine Below.drew ?_ | refine Below.alloc ?_ (by first | omega | (simp; done) | (simp; omega)) _ | refine Below.setCell ?_ (by first | omega | (simp; done) | (simp; omega)) _ | refine below_step (by assumption) (by first | omega | (simp; done) | (simp; omega)) ?_)⟩)
    · obtain rfl : k = t.vars.length := by omega
      have HB1 := HB
      go_wp2
      go_loopw [36] (fun i wr => ∃ k : Nat, k ≤ t.ops.length ∧ i = .int .i64 k ∧ (anyB k fun k => decide ((opr t.ops k).cost < 0) || decide (1048576 < (opr t.ops k).cost)) = false ∧ Boxed wr w.heap.size t ⟨av, ai, ag, ao, cv, ci, cg, co⟩ ∧ Below w.heap.size w wr) (fun i _ => t.ops.length - (intOf i).toNat)
      case atStart => exact ⟨0, by omega, rfl, rfl, hbox, by repeat (first | exact Below.refl _ _ | refine below_dN ?_ _ | refine Below.drew ?_ | refine Below.alloc ?_ (by first | omega | (simp; done) | (simp; omega)) _ | refine Below.setCell ?_ (by first | omega | (simp; done) | (simp; omega)) _ | refine below_step (by assumption) (by first | omega | (simp; done) | (simp; omega)) ?_)⟩
      case round =>
        clear z0 y0 y1 y2 y3 hbox hbel hlt HB
        obtain ⟨k, hk, rfl, hB, hbox, hbel⟩ := hrel
        have HB := Lib.hid hB
        clear hB
        obtain ⟨z0, y0, y1, y2, y3⟩ := id hbox
        dsimp only at y0 y1 y2 y3
        by_cases hlt : k < t.ops.length
        · obtain ⟨b, o, S, c, T, d, ea, hb, d0, q0, d1, d2, f2, d3, e3⟩ := ht.ops.at2 hbel hlt; (try dsimp only at ea); subst ea; have hbz := hbel.size; have g2 : b < wr.heap.size := (by omega); have j1 := f2.len; have j2 := e3.len
          cases e2 : decide ((opr t.ops k).cost < 0) <;> cases e3 : decide (1048576 < (opr t.ops k).cost) <;> go_wp2
          all_goals first
            | (go_roundw
               case rel => exact ⟨k + 1, by omega, by go_num, (by rw [anyB_succ, HB.out, e2, e3]; rfl), hbox.up (by repeat (first | exact Below.refl _ _ | refine below_dN ?_ _ | refine Below.drew ?_ | refine Below.alloc ?_ (by first | omega | (simp; done) | (simp; omega)) _ | refine Below.setCell ?_ (by first | omega | (simp; done) | (simp; omega)) _ | refine below_step (by assumption) (by first | omega | (simp; done) | (simp; omega)) ?_)), by repeat (first | exact Below.refl _ _ | refine below_dN ?_ _ | refine Below.drew ?_ | refine Below.alloc ?_ (by first | omega | (simp; done) | (simp; omega)) _ | refine Below.setCell ?_ (by first | omega | (simp; done) | (simp; omega)) _ | refine below_step (by assumption) (by first | omega | (simp; done) | (simp; omega)) ?_)⟩
               case measure => simp [intOf]; omega)
            | (go_ret
               have hf : (anyB t.ops.length fun k => decide ((opr t.ops k).cost < 0) || decide (1048576 < (opr t.ops k).cost)) = true := anyB_true.2 ⟨k, hlt, by rw [e2, e3]; rfl⟩
               exact ⟨by rw [Ho.out (by unfold outT; rw [hf, Bool.or_true])]; rfl, by repeat (first | exact Below.refl _ _ | refine below_dN ?_ _ | refine Below.drew ?_ | refine Below.alloc ?_ (by first | omega | (simp; done) | (simp; omega)) _ | refine Below.setCell ?_ (by first | omega | (simp; done) | (simp; omega)) _ | refine below_step (by assumption) (by first | omega | (simp; done) | (simp; omega)) ?_)⟩)
        · obtain rfl : k = t.ops.length := by omega
          have Hout := Lib.hid (show outT t = false by unfold outT; rw [HB1.out, HB.out]; rfl)
          clear HB HB1
          have hbz := hbel.size
          cases e4 : stB t.vars t.init
          · have Hc := Lib.hid (Hm.out Hout.out (by rw [malT_eq, e4]; rfl))
            go_wp2_with fail; refine (k2 _ (by repeat (first | exact Below.refl _ _ | refine below_dN ?_ _ | refine Below.drew ?_ | refine Below.alloc ?_ (by first | omega | (simp; done) | (simp; omega)) _ | refine Below.setCell ?_ (by first | omega | (simp; done) | (simp; omega)) _ | refine below_step (by assumption) (by first | omega | (simp; done) | (simp; omega)) ?_))).mono ?_; rintro e w1 ⟨rfl, hb1⟩; obtain ⟨hc1, hf1, hz1, hlt1, hle1⟩ := cellsIf hb1 (by (try simp); exact rfl); (try have : w.heap.size < w1.heap.size := (by omega)); (try have : w.heap.size < w1.heap.size + 1 := (by omega)); (try have : w.heap.size < w1.heap.size + 1 + 1 := (by omega)); (try have : w.heap.size + 1 < w1.heap.size := (by omega)); (try have : w.heap.size + 1 < w1.heap.size + 1 := (by omega)); (try have : w.heap.size + 1 < w1.heap.size + 1 + 1 := (by omega)); (try have : w.heap.size + 1 + 1 < w1.heap.size := (by omega)); (try have : w.heap.size + 1 + 1 < w1.heap.size + 1 := (by omega)); (try have : w.heap.size + 1 + 1 < w1.heap.size + 1 + 1 := (by omega))
            go_wp2
            go_ret
            exact ⟨by rw [Hc.out]; rfl, by repeat (first | exact Below.refl _ _ | refine below_dN ?_ _ | refine Below.drew ?_ | refine Below.alloc ?_ (by first | omega | (simp; done) | (simp; omega)) _ | refine Below.setCell ?_ (by first | omega | (simp; done) | (simp; omega)) _ | refine below_step (by assumption) (by first | omega | (simp; done) | (simp; omega)) ?_)⟩
          have HB4 := Lib.hid e4
          go_wp2_with fail; refine (k2 _ (by repeat (first | exact Below.refl _ _ | refine below_dN ?_ _ | refine Below.drew ?_ | refine Below.alloc ?_ (by first | omega | (simp; done) | (simp; omega)) _ | refine Below.setCell ?_ (by first | omega | (simp; done) | (simp; omega)) _ | refine below_step (by assumption) (by first | omega | (simp; done) | (simp; omega)) ?_))).mono ?_; rintro e w1 ⟨rfl, hb1⟩; obtain ⟨hc1, hf1, hz1, hlt1, hle1⟩ := cellsIf hb1 (by (try simp); exact rfl); (try have : w.heap.size < w1.heap.size := (by omega)); (try have : w.heap.size < w1.heap.size + 1 := (by omega)); (try have : w.heap.size < w1.heap.size + 1 + 1 := (by omega)); (try have : w.heap.size + 1 < w1.heap.size := (by omega)); (try have : w.heap.size + 1 < w1.heap.size + 1 := (by omega)); (try have : w.heap.size + 1 < w1.heap.size + 1 + 1 := (by omega)); (try have : w.heap.size + 1 + 1 < w1.heap.size := (by omega)); (try have : w.heap.size + 1 + 1 < w1.heap.size + 1 := (by omega)); (try have : w.heap.size + 1 + 1 < w1.heap.size + 1 + 1 := (by omega))
          have hbw1 : Below w.heap.size w w1 := by repeat (first | exact Below.refl _ _ | refine below_dN ?_ _ | refine Below.drew ?_ | refine Below.alloc ?_ (by first | omega | (simp; done) | (simp; omega)) _ | refine Below.setCell ?_ (by first | omega | (simp; done) | (simp; omega)) _ | refine below_step (by assumption) (by first | omega | (simp; done) | (simp; omega)) ?_)
          have hbox1 := hbox.up hb1
          go_wp2_with fail
          refine (k3 _ Hsz.out.1 Hsz.out.2 hbw1).mono ?_
          rintro e w2 ⟨⟨v, hs, rfl, hg, hl⟩, hb2⟩
          have hbw2 : Below w.heap.size w w2 := by repeat (first | exact Below.refl _ _ | refine below_dN ?_ _ | refine Below.drew ?_ | refine Below.alloc ?_ (by first | omega | (simp; done) | (simp; omega)) _ | refine Below.setCell ?_ (by first | omega | (simp; done) | (simp; omega)) _ | refine below_step (by assumption) (by first | omega | (simp; done) | (simp; omega)) ?_)
          have hbox2 := hbox1.up hb2
          have hn : 0 < hs.length := by have h := congrArg List.length hg.lists; rw [List.length_map] at h; unfold cnds at h; rw [List.length_cons] at h; omega
          have hl2 : hs.length ≤ 300000 := by have := Hsz.out.1; omega
          clear hl hc1 hf1 hlt1 hle1
          obtain ⟨g, cap, rfl, hgl, hcg⟩ := hg.at_ hn
          have Hcg := Lib.hid hcg
          clear hcg
          go_wp2
          clear z0 y0 y1 y2 y3 hb1 hbel hbz hbox hbox1
          go_loopw [60] (fun i wr => ∃ k : Nat, k ≤ hs.length ∧ i = .int .i64 k ∧ (anyB k fun k => !faB t.vars (hd hs k).l) = false ∧ Below w2.heap.size w2 wr) (fun i _ => hs.length - (intOf i).toNat)
          case atStart => exact ⟨0, by omega, rfl, rfl, by repeat (first | exact Below.refl _ _ | refine below_dN ?_ _ | refine Below.drew ?_ | refine Below.alloc ?_ (by first | omega | (simp; done) | (simp; omega)) _ | refine Below.setCell ?_ (by first | omega | (simp; done) | (simp; omega)) _ | refine below_step (by assumption) (by first | omega | (simp; done) | (simp; omega)) ?_)⟩
          case round =>
            obtain ⟨k, hk, rfl, hB, hbr⟩ := hrel
            have HB := Lib.hid hB
            clear hB
            have hbz := hbw2.size
            have hbz3 := hbr.size
            have hbel : Below w.heap.size w wr := hbw2.trans (hbr.mono hbz)
            have hbox := hbox2.up hbr
            obtain ⟨z0, y0, y1, y2, y3⟩ := id hbox
            dsimp only at y0 y1 y2 y3
            by_cases hlt : k < hs.length
            · have d1 := (hbr.cell (p := ⟨g, k, none⟩) hgl).trans (Hcg.out k hlt)
              have g1 : g < wr.heap.size := by omega
              have f1 := ((hg.facts _ (hd_mem hlt)).up hb2).up hbr
              have k4 := facts_any t.vars (hd hs k).l av (hd hs k).a cv (hd hs k).c wr (ht.vars.up hbel) f1
              cases e5 : faB t.vars (hd hs k).l
              · have Hc := Lib.hid (Hm.out Hout.out (by rw [malT_eq, ← hg.lists, faAll_hs, anyB_true.2 ⟨k, hlt, by rw [e5]; rfl⟩]; simp))
                go_wp2_with fail; refine (k4).mono ?_; rintro e w3 ⟨rfl, hb3⟩; obtain ⟨hc3, hf3, hz3, hlt3, hle3⟩ := cellsIf hb3 (by (try simp); exact rfl); (try have : w.heap.size < w3.heap.size := (by omega)); (try have : w.heap.size < w3.heap.size + 1 := (by omega)); (try have : w.heap.size < w3.heap.size + 1 + 1 := (by omega)); (try have : w.heap.size + 1 < w3.heap.size := (by omega)); (try have : w.heap.size + 1 < w3.heap.size + 1 := (by omega)); (try have : w.heap.size + 1 < w3.heap.size + 1 + 1 := (by omega)); (try have : w.heap.size + 1 + 1 < w3.heap.size := (by omega)); (try have : w.heap.size + 1 + 1 < w3.heap.size + 1 := (by omega)); (try have : w.heap.size + 1 + 1 < w3.heap.size + 1 + 1 := (by omega)); (try have : w1.heap.size < w3.heap.size := (by omega)); (try have : w1.heap.size < w3.heap.size + 1 := (by omega)); (try have : w1.heap.size < w3.heap.size + 1 + 1 := (by omega)); (try have : w1.heap.size + 1 < w3.heap.size := (by omega)); (try have : w1.heap.size + 1 < w3.heap.size + 1 := (by omega)); (try have : w1.heap.size + 1 < w3.heap.size + 1 + 1 := (by omega)); (try have : w1.heap.size + 1 + 1 < w3.heap.size := (by omega)); (try have : w1.heap.size + 1 + 1 < w3.heap.size + 1 := (by omega)); (try have : w1.heap.size + 1 + 1 < w3.heap.size + 1 + 1 := (by omega)); (try have : w2.heap.size < w3.heap.size := (by omega)); (try have : w2.heap.size < w3.heap.size + 1 := (by omega)); (try have : w2.heap.size < w3.heap.size + 1 + 1 := (by omega)); (try have : w2.heap.size + 1 < w3.heap.size := (by omega)); (try have : w2.heap.size + 1 < w3.heap.size + 1 := (by omega)); (try have : w2.heap.size + 1 < w3.heap.size + 1 + 1 := (by omega)); (try have : w2.heap.size + 1 + 1 < w3.heap.size := (by omega)); (try have : w2.heap.size + 1 + 1 < w3.heap.size + 1 := (by omega)); (try have : w2.heap.size + 1 + 1 < w3.heap.size + 1 + 1 := (by omega))
                go_wp2
                go_ret
                exact ⟨by rw [Hc.out]; rfl, by repeat (first | exact Below.refl _ _ | refine below_dN ?_ _ | refine Below.drew ?_ | refine Below.alloc ?_ (by first | omega | (simp; done) | (simp; omega)) _ | refine Below.setCell ?_ (by first | omega | (simp; done) | (simp; omega)) _ | refine below_step (by assumption) (by first | omega | (simp; done) | (simp; omega)) ?_)⟩
              · go_wp2_with fail; refine (k4).mono ?_; rintro e w3 ⟨rfl, hb3⟩; obtain ⟨hc3, hf3, hz3, hlt3, hle3⟩ := cellsIf hb3 (by (try simp); exact rfl); (try have : w.heap.size < w3.heap.size := (by omega)); (try have : w.heap.size < w3.heap.size + 1 := (by omega)); (try have : w.heap.size < w3.heap.size + 1 + 1 := (by omega)); (try have : w.heap.size + 1 < w3.heap.size := (by omega)); (try have : w.heap.size + 1 < w3.heap.size + 1 := (by omega)); (try have : w.heap.size + 1 < w3.heap.size + 1 + 1 := (by omega)); (try have : w.heap.size + 1 + 1 < w3.heap.size := (by omega)); (try have : w.heap.size + 1 + 1 < w3.heap.size + 1 := (by omega)); (try have : w.heap.size + 1 + 1 < w3.heap.size + 1 + 1 := (by omega)); (try have : w1.heap.size < w3.heap.size := (by omega)); (try have : w1.heap.size < w3.heap.size + 1 := (by omega)); (try have : w1.heap.size < w3.heap.size + 1 + 1 := (by omega)); (try have : w1.heap.size + 1 < w3.heap.size := (by omega)); (try have : w1.heap.size + 1 < w3.heap.size + 1 := (by omega)); (try have : w1.heap.size + 1 < w3.heap.size + 1 + 1 := (by omega)); (try have : w1.heap.size + 1 + 1 < w3.heap.size := (by omega)); (try have : w1.heap.size + 1 + 1 < w3.heap.size + 1 := (by omega)); (try have : w1.heap.size + 1 + 1 < w3.heap.size + 1 + 1 := (by omega)); (try have : w2.heap.size < w3.heap.size := (by omega)); (try have : w2.heap.size < w3.heap.size + 1 := (by omega)); (try have : w2.heap.size < w3.heap.size + 1 + 1 := (by omega)); (try have : w2.heap.size + 1 < w3.heap.size := (by omega)); (try have : w2.heap.size + 1 < w3.heap.size + 1 := (by omega)); (try have : w2.heap.size + 1 < w3.heap.size + 1 + 1 := (by omega)); (try have : w2.heap.size + 1 + 1 < w3.heap.size := (by omega)); (try have : w2.heap.size + 1 + 1 < w3.heap.size + 1 := (by omega)); (try have : w2.heap.size + 1 + 1 < w3.heap.size + 1 + 1 := (by omega))
                go_wp2
                go_roundw
                case rel => exact ⟨k + 1, by omega, by go_num, (by rw [anyB_succ, HB.out, e5]; rfl), hbr.trans (hb3.mono hbz3)⟩
                case measure => simp [intOf]; omega
            · obtain rfl : k = hs.length := by omega
              have Hfa := Lib.hid (show faAll t.vars (cnds t t.ops.length) = true by rw [← hg.lists, faAll_hs, HB.out]; rfl)
              clear HB hlt
              go_wp2
              go_loopw [74] (fun i wr => ∃ k : Nat, k ≤ t.ops.length ∧ i = .int .i64 k ∧ (anyB k fun k => badO t.vars (opr t.ops k)) = false ∧ Boxed wr w.heap.size t ⟨av, ai, ag, ao, cv, ci, cg, co⟩ ∧ Below w.heap.size w wr) (fun i _ => t.ops.length - (intOf i).toNat)
              case atStart => exact ⟨0, by omega, rfl, rfl, hbox, by repeat (first | exact Below.refl _ _ | refine below_dN ?_ _ | refine Below.drew ?_ | refine Below.alloc ?_ (by first | omega | (simp; done) | (simp; omega)) _ | refine Below.setCell ?_ (by first | omega | (simp; done) | (simp; omega)) _ | refine below_step (by assumption) (by first | omega | (simp; done) | (simp; omega)) ?_)⟩
              case round =>
                clear z0 y0 y1 y2 y3 hbox hbel hbr hbz hbz3 hb2
                obtain ⟨k, hk, rfl, hB, hbox, hbel⟩ := hrel
                have HB := Lib.hid hB
                clear hB
                obtain ⟨z0, y0, y1, y2, y3⟩ := id hbox
                dsimp only at y0 y1 y2 y3
                by_cases hlt : k < t.ops.length
                · obtain ⟨b, o, S, c, T, d, ea, hb, d0, q0, d1, d2, f2, d3, e3⟩ := ht.ops.at2 hbel hlt; (try dsimp only at ea); subst ea; have hbz := hbel.size; have g2 : b < wr.heap.size := (by omega); have j1 := f2.len; have j2 := e3.len
                  go_wp2
                  go_loopw [81] (fun i wx => ∃ j : Nat, j ≤ (opr t.ops k).effs.length ∧ i = .int .i64 j ∧ (anyB j fun j => badE t.vars (eff (opr t.ops k).effs j)) = false ∧ Boxed wx w.heap.size t ⟨av, ai, ag, some ⟨b, o, none⟩, cv, ci, cg, co⟩ ∧ Below w.heap.size w wx) (fun i _ => (opr t.ops k).effs.length - (intOf i).toNat)
                  case atStart => exact ⟨0, by omega, rfl, rfl, hbox.up (by repeat (first | exact Below.refl _ _ | refine below_dN ?_ _ | refine Below.drew ?_ | refine Below.alloc ?_ (by first | omega | (simp; done) | (simp; omega)) _ | refine Below.setCell ?_ (by first | omega | (simp; done) | (simp; omega)) _ | refine below_step (by assumption) (by first | omega | (simp; done) | (simp; omega)) ?_)), by repeat (first | exact Below.refl _ _ | refine below_dN ?_ _ | refine Below.drew ?_ | refine Below.alloc ?_ (by first | omega | (simp; done) | (simp; omega)) _ | refine Below.setCell ?_ (by first | omega | (simp; done) | (simp; omega)) _ | refine below_step (by assumption) (by first | omega | (simp; done) | (simp; omega)) ?_)⟩
                  case round =>
                    clear z0 y0 y1 y2 y3 hbox
                    obtain ⟨j, hj, rfl, hB2, hbox, hbel2⟩ := hrel
                    have HB2 := Lib.hid hB2
                    clear hB2
                    obtain ⟨z0, y0, y1, y2, y3⟩ := id hbox
                    dsimp only at y0 y1 y2 y3
                    by_cases hlt2 : j < (opr t.ops k).effs.length
                    · obtain ⟨b', o', S', c', ea', hb', i0, f5, i1, i2⟩ := e3.at2 hbel2 hlt2; subst ea'; have hbz2 := hbel2.size; have g3 : b' < wr.heap.size := (by omega); have j3 := f5.len
                      have k5 := fun w1 b (hb : Below w.heap.size w w1) (hf : FactsAt w1 w1.heap.size (some ⟨b, 0, none⟩) [((eff (opr t.ops k).effs j).var, (eff (opr t.ops k).effs j).val)]) => facts_any t.vars [((eff (opr t.ops k).effs j).var, (eff (opr t.ops k).effs j).val)] av (some ⟨b, 0, none⟩) cv 1 w1 (ht.vars.up hb) hf
                      cases e6 : faB t.vars [((eff (opr t.ops k).effs j).var, (eff (opr t.ops k).effs j).val)]
                      · have hbd : anyB t.ops.length (fun k => badO t.vars (opr t.ops k)) = true := anyB_true.2 ⟨k, hlt, anyB_true.2 ⟨j, hlt2, by unfold badE; rw [e6]; rfl⟩⟩
                        have Hc := Lib.hid (Hm.out Hout.out (by rw [malT_eq, hbd]; simp))
                        clear hbd
                        go_wp2_with fail; refine (k5 _ _ (by repeat (first | exact Below.refl _ _ | refine below_dN ?_ _ | refine Below.drew ?_ | refine Below.alloc ?_ (by first | omega | (simp; done) | (simp; omega)) _ | refine Below.setCell ?_ (by first | omega | (simp; done) | (simp; omega)) _ | refine below_step (by assumption) (by first | omega | (simp; done) | (simp; omega)) ?_)) (factsAt_one (by simp) (by simp) (by simp))).mono ?_; rintro e w4 ⟨rfl, hb4⟩; obtain ⟨hc4, hf4, hz4, hlt4, hle4⟩ := cellsIf hb4 (by (try simp); exact rfl); (try have : w.heap.size < w4.heap.size := (by omega)); (try have : w.heap.size < w4.heap.size + 1 := (by omega)); (try have : w.heap.size < w4.heap.size + 1 + 1 := (by omega)); (try have : w.heap.size + 1 < w4.heap.size := (by omega)); (try have : w.heap.size + 1 < w4.heap.size + 1 := (by omega)); (try have : w.heap.size + 1 < w4.heap.size + 1 + 1 := (by omega)); (try have : w.heap.size + 1 + 1 < w4.heap.size := (by omega)); (try have : w.heap.size + 1 + 1 < w4.heap.size + 1 := (by omega)); (try have : w.heap.size + 1 + 1 < w4.heap.size + 1 + 1 := (by omega)); (try have : w1.heap.size < w4.heap.size := (by omega)); (try have : w1.heap.size < w4.heap.size + 1 := (by omega)); (try have : w1.heap.size < w4.heap.size + 1 + 1 := (by omega)); (try have : w1.heap.size + 1 < w4.heap.size := (by omega)); (try have : w1.heap.size + 1 < w4.heap.size + 1 := (by omega)); (try have : w1.heap.size + 1 < w4.heap.size + 1 + 1 := (by omega)); (try have : w1.heap.size + 1 + 1 < w4.heap.size := (by omega)); (try have : w1.heap.size + 1 + 1 < w4.heap.size + 1 := (by omega)); (try have : w1.heap.size + 1 + 1 < w4.heap.size + 1 + 1 := (by omega)); (try have : w2.heap.size < w4.heap.size := (by omega)); (try have : w2.heap.size < w4.heap.size + 1 := (by omega)); (try have : w2.heap.size < w4.heap.size + 1 + 1 := (by omega)); (try have : w2.heap.size + 1 < w4.heap.size := (by omega)); (try have : w2.heap.size + 1 < w4.heap.size + 1 := (by omega)); (try have : w2.heap.size + 1 < w4.heap.size + 1 + 1 := (by omega)); (try have : w2.heap.size + 1 + 1 < w4.heap.size := (by omega)); (try have : w2.heap.size + 1 + 1 < w4.heap.size + 1 := (by omega)); (try have : w2.heap.size + 1 + 1 < w4.heap.size + 1 + 1 := (by omega)); (try have : w3.heap.size < w4.heap.size := (by omega)); (try have : w3.heap.size < w4.heap.size + 1 := (by omega)); (try have : w3.heap.size < w4.heap.size + 1 + 1 := (by omega)); (try have : w3.heap.size + 1 < w4.heap.size := (by omega)); (try have : w3.heap.size + 1 < w4.heap.size + 1 := (by omega)); (try have : w3.heap.size + 1 < w4.heap.size + 1 + 1 := (by omega)); (try have : w3.heap.size + 1 + 1 < w4.heap.size := (by omega)); (try have : w3.heap.size + 1 + 1 < w4.heap.size + 1 := (by omega)); (try have : w3.heap.size + 1 + 1 < w4.heap.size + 1 + 1 := (by omega))
                        go_wp2
                        go_ret
                        exact ⟨by rw [Hc.out]; rfl, by repeat (first | exact Below.refl _ _ | refine below_dN ?_ _ | refine Below.drew ?_ | refine Below.alloc ?_ (by first | omega | (simp; done) | (simp; omega)) _ | refine Below.setCell ?_ (by first | omega | (simp; done) | (simp; omega)) _ | refine below_step (by assumption) (by first | omega | (simp; done) | (simp; omega)) ?_)⟩
                      · go_wp2_with fail; refine (k5 _ _ (by repeat (first | exact Below.refl _ _ | refine below_dN ?_ _ | refine Below.drew ?_ | refine Below.alloc ?_ (by first | omega | (simp; done) | (simp; omega)) _ | refine Below.setCell ?_ (by first | omega | (simp; done) | (simp; omega)) _ | refine below_step (by assumption) (by first | omega | (simp; done) | (simp; omega)) ?_)) (factsAt_one (by simp) (by simp) (by simp))).mono ?_; rintro e w4 ⟨rfl, hb4⟩; obtain ⟨hc4, hf4, hz4, hlt4, hle4⟩ := cellsIf hb4 (by (try simp); exact rfl); (try have : w.heap.size < w4.heap.size := (by omega)); (try have : w.heap.size < w4.heap.size + 1 := (by omega)); (try have : w.heap.size < w4.heap.size + 1 + 1 := (by omega)); (try have : w.heap.size + 1 < w4.heap.size := (by omega)); (try have : w.heap.size + 1 < w4.heap.size + 1 := (by omega)); (try have : w.heap.size + 1 < w4.heap.size + 1 + 1 := (by omega)); (try have : w.heap.size + 1 + 1 < w4.heap.size := (by omega)); (try have : w.heap.size + 1 + 1 < w4.heap.size + 1 := (by omega)); (try have : w.heap.size + 1 + 1 < w4.heap.size + 1 + 1 := (by omega)); (try have : w1.heap.size < w4.heap.size := (by omega)); (try have : w1.heap.size < w4.heap.size + 1 := (by omega)); (try have : w1.heap.size < w4.heap.size + 1 + 1 := (by omega)); (try have : w1.heap.size + 1 < w4.heap.size := (by omega)); (try have : w1.heap.size + 1 < w4.heap.size + 1 := (by omega)); (try have : w1.heap.size + 1 < w4.heap.size + 1 + 1 := (by omega)); (try have : w1.heap.size + 1 + 1 < w4.heap.size := (by omega)); (try have : w1.heap.size + 1 + 1 < w4.heap.size + 1 := (by omega)); (try have : w1.heap.size + 1 + 1 < w4.heap.size + 1 + 1 := (by omega)); (try have : w2.heap.size < w4.heap.size := (by omega)); (try have : w2.heap.size < w4.heap.size + 1 := (by omega)); (try have : w2.heap.size < w4.heap.size + 1 + 1 := (by omega)); (try have : w2.heap.size + 1 < w4.heap.size := (by omega)); (try have : w2.heap.size + 1 < w4.heap.size + 1 := (by omega)); (try have : w2.heap.size + 1 < w4.heap.size + 1 + 1 := (by omega)); (try have : w2.heap.size + 1 + 1 < w4.heap.size := (by omega)); (try have : w2.heap.size + 1 + 1 < w4.heap.size + 1 := (by omega)); (try have : w2.heap.size + 1 + 1 < w4.heap.size + 1 + 1 := (by omega)); (try have : w3.heap.size < w4.heap.size := (by omega)); (try have : w3.heap.size < w4.heap.size + 1 := (by omega)); (try have : w3.heap.size < w4.heap.size + 1 + 1 := (by omega)); (try have : w3.heap.size + 1 < w4.heap.size := (by omega)); (try have : w3.heap.size + 1 < w4.heap.size + 1 := (by omega)); (try have : w3.heap.size + 1 < w4.heap.size + 1 + 1 := (by omega)); (try have : w3.heap.size + 1 + 1 < w4.heap.size := (by omega)); (try have : w3.heap.size + 1 + 1 < w4.heap.size + 1 := (by omega)); (try have : w3.heap.size + 1 + 1 < w4.heap.size + 1 + 1 := (by omega))
                        go_wp2
                        go_roundw
                        case rel => exact ⟨j + 1, by omega, by go_num, (by rw [anyB_succ, HB2.out]; unfold badE; rw [e6]; rfl), hbox.up (by repeat (first | exact Below.refl _ _ | refine below_dN ?_ _ | refine Below.drew ?_ | refine Below.alloc ?_ (by first | omega | (simp; done) | (simp; omega)) _ | refine Below.setCell ?_ (by first | omega | (simp; done) | (simp; omega)) _ | refine below_step (by assumption) (by first | omega | (simp; done) | (simp; omega)) ?_)), by repeat (first | exact Below.refl _ _ | refine below_dN ?_ _ | refine Below.drew ?_ | refine Below.alloc ?_ (by first | omega | (simp; done) | (simp; omega)) _ | refine Below.setCell ?_ (by first | omega | (simp; done) | (simp; omega)) _ | refine below_step (by assumption) (by first | omega | (simp; done) | (simp; omega)) ?_)⟩
                        case measure => simp [intOf]; omega
                    · obtain rfl : j = (opr t.ops k).effs.length := by omega
                      go_wp2
                      go_roundw
                      case rel => exact ⟨k + 1, by omega, by go_num, (by rw [anyB_succ, HB.out]; exact HB2.out), hbox, by repeat (first | exact Below.refl _ _ | refine below_dN ?_ _ | refine Below.drew ?_ | refine Below.alloc ?_ (by first | omega | (simp; done) | (simp; omega)) _ | refine Below.setCell ?_ (by first | omega | (simp; done) | (simp; omega)) _ | refine below_step (by assumption) (by first | omega | (simp; done) | (simp; omega)) ?_)⟩
                      case measure => simp [intOf]; omega
                · obtain rfl : k = t.ops.length := by omega
                  have Hmal := Lib.hid (show malT t = false by rw [malT_eq, HB4.out, Hfa.out, HB.out]; rfl)
                  clear HB hlt
                  go_wp2
                  go_loopw [101] (fun i wr => ∃ k : Nat, k ≤ t.ops.length ∧ i = .int .i64 k ∧ (anyB k fun k => misO (opr t.ops k).name) = false ∧ Below w.heap.size w wr) (fun i _ => t.ops.length - (intOf i).toNat)
                  case atStart => exact ⟨0, by omega, rfl, rfl, by repeat (first | exact Below.refl _ _ | refine below_dN ?_ _ | refine Below.drew ?_ | refine Below.alloc ?_ (by first | omega | (simp; done) | (simp; omega)) _ | refine Below.setCell ?_ (by first | omega | (simp; done) | (simp; omega)) _ | refine below_step (by assumption) (by first | omega | (simp; done) | (simp; omega)) ?_)⟩
                  case round =>
                    clear z0 y0 y1 y2 y3 hbox hbel
                    obtain ⟨k, hk, rfl, hB, hbel⟩ := hrel
                    have HB := Lib.hid hB
                    clear hB
                    by_cases hlt : k < t.ops.length
                    · obtain ⟨b, o, S, c, T, d, ea, hb, d0, q0, d1, d2, f2, d3, e3⟩ := ht.ops.at2 hbel hlt; (try dsimp only at ea); subst ea; have hbz := hbel.size; have g2 : b < wr.heap.size := (by omega); have j1 := f2.len; have j2 := e3.len
                      have k6 := fun w1 => named_any (opr t.ops k).name w1 q0
                      cases e7 : misO (opr t.ops k).name
                      · go_wp2_with fail; refine (k6 _).mono ?_; rintro e w5 ⟨rfl, hb5⟩; obtain ⟨hc5, hf5, hz5, hlt5, hle5⟩ := cellsIf hb5 (by (try simp); exact rfl); (try have : w.heap.size < w5.heap.size := (by omega)); (try have : w.heap.size < w5.heap.size + 1 := (by omega)); (try have : w.heap.size < w5.heap.size + 1 + 1 := (by omega)); (try have : w.heap.size + 1 < w5.heap.size := (by omega)); (try have : w.heap.size + 1 < w5.heap.size + 1 := (by omega)); (try have : w.heap.size + 1 < w5.heap.size + 1 + 1 := (by omega)); (try have : w.heap.size + 1 + 1 < w5.heap.size := (by omega)); (try have : w.heap.size + 1 + 1 < w5.heap.size + 1 := (by omega)); (try have : w.heap.size + 1 + 1 < w5.heap.size + 1 + 1 := (by omega)); (try have : w1.heap.size < w5.heap.size := (by omega)); (try have : w1.heap.size < w5.heap.size + 1 := (by omega)); (try have : w1.heap.size < w5.heap.size + 1 + 1 := (by omega)); (try have : w1.heap.size + 1 < w5.heap.size := (by omega)); (try have : w1.heap.size + 1 < w5.heap.size + 1 := (by omega)); (try have : w1.heap.size + 1 < w5.heap.size + 1 + 1 := (by omega)); (try have : w1.heap.size + 1 + 1 < w5.heap.size := (by omega)); (try have : w1.heap.size + 1 + 1 < w5.heap.size + 1 := (by omega)); (try have : w1.heap.size + 1 + 1 < w5.heap.size + 1 + 1 := (by omega)); (try have : w2.heap.size < w5.heap.size := (by omega)); (try have : w2.heap.size < w5.heap.size + 1 := (by omega)); (try have : w2.heap.size < w5.heap.size + 1 + 1 := (by omega)); (try have : w2.heap.size + 1 < w5.heap.size := (by omega)); (try have : w2.heap.size + 1 < w5.heap.size + 1 := (by omega)); (try have : w2.heap.size + 1 < w5.heap.size + 1 + 1 := (by omega)); (try have : w2.heap.size + 1 + 1 < w5.heap.size := (by omega)); (try have : w2.heap.size + 1 + 1 < w5.heap.size + 1 := (by omega)); (try have : w2.heap.size + 1 + 1 < w5.heap.size + 1 + 1 := (by omega)); (try have : w3.heap.size < w5.heap.size := (by omega)); (try have : w3.heap.size < w5.heap.size + 1 := (by omega)); (try have : w3.heap.size < w5.heap.size + 1 + 1 := (by omega)); (try have : w3.heap.size + 1 < w5.heap.size := (by omega)); (try have : w3.heap.size + 1 < w5.heap.size + 1 := (by omega)); (try have : w3.heap.size + 1 < w5.heap.size + 1 + 1 := (by omega)); (try have : w3.heap.size + 1 + 1 < w5.heap.size := (by omega)); (try have : w3.heap.size + 1 + 1 < w5.heap.size + 1 := (by omega)); (try have : w3.heap.size + 1 + 1 < w5.heap.size + 1 + 1 := (by omega)); (try have : w4.heap.size < w5.heap.size := (by omega)); (try have : w4.heap.size < w5.heap.size + 1 := (by omega)); (try have : w4.heap.size < w5.heap.size + 1 + 1 := (by omega)); (try have : w4.heap.size + 1 < w5.heap.size := (by omega)); (try have : w4.heap.size + 1 < w5.heap.size + 1 := (by omega)); (try have : w4.heap.size + 1 < w5.heap.size + 1 + 1 := (by omega)); (try have : w4.heap.size + 1 + 1 < w5.heap.size := (by omega)); (try have : w4.heap.size + 1 + 1 < w5.heap.size + 1 := (by omega)); (try have : w4.heap.size + 1 + 1 < w5.heap.size + 1 + 1 := (by omega))
                        go_wp2
                        go_roundw
                        case rel => exact ⟨k + 1, by omega, by go_num, (by rw [anyB_succ, HB.out, e7]; rfl), by repeat (first | exact Below.refl _ _ | refine below_dN ?_ _ | refine Below.drew ?_ | refine Below.alloc ?_ (by first | omega | (simp; done) | (simp; omega)) _ | refine Below.setCell ?_ (by first | omega | (simp; done) | (simp; omega)) _ | refine below_step (by assumption) (by first | omega | (simp; done) | (simp; omega)) ?_)⟩
                        case measure => simp [intOf]; omega
                      · have Hc := Lib.hid (Hn.out Hout.out Hmal.out (anyB_true.2 ⟨k, hlt, e7⟩))
                        go_wp2_with fail; refine (k6 _).mono ?_; rintro e w5 ⟨rfl, hb5⟩; obtain ⟨hc5, hf5, hz5, hlt5, hle5⟩ := cellsIf hb5 (by (try simp); exact rfl); (try have : w.heap.size < w5.heap.size := (by omega)); (try have : w.heap.size < w5.heap.size + 1 := (by omega)); (try have : w.heap.size < w5.heap.size + 1 + 1 := (by omega)); (try have : w.heap.size + 1 < w5.heap.size := (by omega)); (try have : w.heap.size + 1 < w5.heap.size + 1 := (by omega)); (try have : w.heap.size + 1 < w5.heap.size + 1 + 1 := (by omega)); (try have : w.heap.size + 1 + 1 < w5.heap.size := (by omega)); (try have : w.heap.size + 1 + 1 < w5.heap.size + 1 := (by omega)); (try have : w.heap.size + 1 + 1 < w5.heap.size + 1 + 1 := (by omega)); (try have : w1.heap.size < w5.heap.size := (by omega)); (try have : w1.heap.size < w5.heap.size + 1 := (by omega)); (try have : w1.heap.size < w5.heap.size + 1 + 1 := (by omega)); (try have : w1.heap.size + 1 < w5.heap.size := (by omega)); (try have : w1.heap.size + 1 < w5.heap.size + 1 := (by omega)); (try have : w1.heap.size + 1 < w5.heap.size + 1 + 1 := (by omega)); (try have : w1.heap.size + 1 + 1 < w5.heap.size := (by omega)); (try have : w1.heap.size + 1 + 1 < w5.heap.size + 1 := (by omega)); (try have : w1.heap.size + 1 + 1 < w5.heap.size + 1 + 1 := (by omega)); (try have : w2.heap.size < w5.heap.size := (by omega)); (try have : w2.heap.size < w5.heap.size + 1 := (by omega)); (try have : w2.heap.size < w5.heap.size + 1 + 1 := (by omega)); (try have : w2.heap.size + 1 < w5.heap.size := (by omega)); (try have : w2.heap.size + 1 < w5.heap.size + 1 := (by omega)); (try have : w2.heap.size + 1 < w5.heap.size + 1 + 1 := (by omega)); (try have : w2.heap.size + 1 + 1 < w5.heap.size := (by omega)); (try have : w2.heap.size + 1 + 1 < w5.heap.size + 1 := (by omega)); (try have : w2.heap.size + 1 + 1 < w5.heap.size + 1 + 1 := (by omega)); (try have : w3.heap.size < w5.heap.size := (by omega)); (try have : w3.heap.size < w5.heap.size + 1 := (by omega)); (try have : w3.heap.size < w5.heap.size + 1 + 1 := (by omega)); (try have : w3.heap.size + 1 < w5.heap.size := (by omega)); (try have : w3.heap.size + 1 < w5.heap.size + 1 := (by omega)); (try have : w3.heap.size + 1 < w5.heap.size + 1 + 1 := (by omega)); (try have : w3.heap.size + 1 + 1 < w5.heap.size := (by omega)); (try have : w3.heap.size + 1 + 1 < w5.heap.size + 1 := (by omega)); (try have : w3.heap.size + 1 + 1 < w5.heap.size + 1 + 1 := (by omega)); (try have : w4.heap.size < w5.heap.size := (by omega)); (try have : w4.heap.size < w5.heap.size + 1 := (by omega)); (try have : w4.heap.size < w5.heap.size + 1 + 1 := (by omega)); (try have : w4.heap.size + 1 < w5.heap.size := (by omega)); (try have : w4.heap.size + 1 < w5.heap.size + 1 := (by omega)); (try have : w4.heap.size + 1 < w5.heap.size + 1 + 1 := (by omega)); (try have : w4.heap.size + 1 + 1 < w5.heap.size := (by omega)); (try have : w4.heap.size + 1 + 1 < w5.heap.size + 1 := (by omega)); (try have : w4.heap.size + 1 + 1 < w5.heap.size + 1 + 1 := (by omega))
                        go_wp2
                        go_ret
                        exact ⟨by rw [Hc.out]; rfl, by repeat (first | exact Below.refl _ _ | refine below_dN ?_ _ | refine Below.drew ?_ | refine Below.alloc ?_ (by first | omega | (simp; done) | (simp; omega)) _ | refine Below.setCell ?_ (by first | omega | (simp; done) | (simp; omega)) _ | refine below_step (by assumption) (by first | omega | (simp; done) | (simp; omega)) ?_)⟩
                    · obtain rfl : k = t.ops.length := by omega
                      have Hc := Lib.hid (Hz.out Hout.out Hmal.out HB.out)
                      go_wp2
                      go_ret
                      exact ⟨by rw [Hc.out]; rfl, by repeat (first | exact Below.refl _ _ | refine below_dN ?_ _ | refine Below.drew ?_ | refine Below.alloc ?_ (by first | omega | (simp; done) | (simp; omega)) _ | refine Below.setCell ?_ (by first | omega | (simp; done) | (simp; omega)) _ | refine below_step (by assumption) (by first | omega | (simp; done) | (simp; omega)) ?_)⟩

end Go.Proofs.YtkeelkpmajmjmaaDoor
