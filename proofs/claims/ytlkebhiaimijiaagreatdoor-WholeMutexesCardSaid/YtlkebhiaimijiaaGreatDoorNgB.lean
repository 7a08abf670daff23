/- Texts laid together: TaskH, TaskI, TaskJ, TaskK, TaskL, TaskM, TaskN, TaskO, GoodP. -/
import Derived.Test.YtlkebhiaimijiaaGreatDoorBel
import Derived.Test.YtlkebhiaimijiaaGreatDoorNgA
import Derived.Lib.BufferMore
import Derived.Laws.AppendOwnNone
namespace Go.Proofs.YtlkebhiaimijiaaGreatDoor
set_option linter.unusedSimpArgs false
set_option linter.unusedVariables false
section
open Go.RowKit
set_option linter.unusedVariables false

/-- An error value by its number. -/
def erV (c : Int) : Value := if c = 0 then .nilIface else .iface 49 (.int .i64 c)
theorem ret_er {c d : Int} (h : c = d) : Ending.returned (erV c) = .returned (erV d) := by rw [h]

def faAll (vars : List Int) (cs : List (List (Int × Int))) : Bool := cs.all fun l => faB vars l
theorem faAll_hs (vars : List Int) (hs : List Hd) : faAll vars (hs.map Hd.l) = !anyB hs.length fun k => !faB vars (hd hs k).l := by
 unfold faAll
 rw [Bool.eq_iff_iff, List.all_eq_true, Bool.not_eq_true', anyB_false]
 constructor
 ·intro h k hk; rw [h _ (List.mem_map_of_mem (hd_mem hk))]; rfl
 ·intro h l hl
  obtain ⟨x, hx, rfl⟩ := List.mem_map.1 hl
  obtain ⟨k, hk, rfl⟩ := List.mem_iff_getElem.1 hx
  have := h k hk
  unfold hd at this
  simpa [List.getD, List.getElem?_eq_getElem hk] using this
/-- Is an effect's own fact wrong? -/
def badE (vars : List Int) (e : Eff) : Bool := !faB vars [(e.var, e.val)]
def badO (vars : List Int) (o : Opr) : Bool := anyB o.effs.length fun k => badE vars (eff o.effs k)
theorem faAll_iff (vars : List Int) (t : Tsk) (n : Nat) : faAll vars (cnds t n) = true ↔ faB vars t.goal = true ∧ ∀ k, k < n → faB vars (opr t.ops k).pre = true ∧ ∀ j, j < (opr t.ops k).effs.length → faB vars (eff (opr t.ops k).effs j).whn = true := by
 unfold faAll cnds cndO
 simp only [List.all_eq_true, List.mem_cons, List.mem_flatMap, List.mem_range, List.mem_map]
 constructor
 ·intro h
  exact ⟨h _ (.inl rfl), fun k hk => ⟨h _ (.inr ⟨k, hk, .inl rfl⟩), fun j hj => h _ (.inr ⟨k, hk, .inr ⟨j, hj, rfl⟩⟩)⟩⟩
 ·rintro ⟨h1, h2⟩ l (rfl | ⟨k, hk, rfl | ⟨j, hj, rfl⟩⟩)
  ·exact h1
  ·exact (h2 k hk).1
  ·exact (h2 k hk).2 j hj
theorem bool_of_false {a b : Bool} (h : a = false ↔ b = false) : a = b := by cases a <;> cases b <;> simp_all
theorem malT_eq (t : Tsk) : malT t = (!stB t.vars t.init || (!faAll t.vars (cnds t t.ops.length) || anyB t.ops.length fun k => badO t.vars (opr t.ops k))) := by
 apply bool_of_false
 unfold malT
 simp only [Bool.or_eq_false_iff, Bool.not_eq_false', faAll_iff, anyB_false]
 unfold malO malE badO badE
 simp only [Bool.or_eq_false_iff, Bool.not_eq_false', anyB_false]
 constructor
 ·rintro ⟨⟨h1, h2⟩, h3⟩
  exact ⟨h1, ⟨h2, fun k hk => ⟨(h3 k hk).1, fun j hj => ((h3 k hk).2 j hj).1⟩⟩, fun k hk j hj => ((h3 k hk).2 j hj).2⟩
 ·rintro ⟨h1, ⟨h2, h3⟩, h4⟩
  exact ⟨⟨h1, h2⟩, fun k hk => ⟨(h3 k hk).1, fun j hj => ⟨(h3 k hk).2 j hj, h4 k hk j hj⟩⟩⟩
theorem lg_sizes {t : Tsk} (h : lgT t = false) : t.ops.length ≤ 4096 ∧ ∀ k, k < t.ops.length → (opr t.ops k).effs.length ≤ 64 := by
 unfold lgT at h
 simp only [Bool.or_eq_false_iff, anyB_false] at h
 refine ⟨by have := h.1.1.2; simp at this; omega, fun k hk => ?_⟩
 have h2 := h.2 k hk
 unfold lgO at h2
 simp only [Bool.or_eq_false_iff] at h2
 have := h2.1.2
 simp at this; omega

set_option maxRecDepth 4000 in
set_option maxHeartbeats 4000000 in
theorem tcheck_any (t : Tsk) (p : Lies) (w : World) (ht : TaskAt w w.heap.size t p) :
    Calls Tryz.prog 24 #[TaskV t p] w fun e w' => e = .returned (erV (chkC t)) ∧ Below w.heap.size w w' := by
  have k1 := fun w1 (hb : Below w.heap.size w w1) => tlarge_any t p w1 (ht.up hb)
  have k3 := fun w1 hm he (hb : Below w.heap.size w w1) => conditions_any t p w1 (ht.up hb) hm he
  obtain ⟨av, ai, ag, ao, cv, ci, cg, co⟩ := p
  unfold TaskV at *
  dsimp only at *
  have k2 := fun w1 (hb : Below w.heap.size w w1) => proper_any t.vars t.init av ai cv ci w1 (ht.vars.up hb) (ht.init.up hb)
  have l1 := ht.vars.len
  have l2 := ht.init.len
  have l3 := ht.goal.len
  have l4 := ht.ops.len
  cases e1 : lgT t
  case true =>
    have Hc := Lib.hid (show chkC t = 5 by unfold chkC; rw [e1]; rfl)
    go_enter Tryz.func24, Tryz.ntmps24
    go_wp2_with fail; refine (k1 _ (by exact bel)).mono ?_; rintro e w1 ⟨rfl, hb1⟩; obtain ⟨hc1, hf1, hz1, hlt1, hle1⟩ := cellsIf hb1 (by (try simp); exact rfl); (try have := s00 w w1); (try have := s01 w w1); (try have := s02 w w1); (try have := s10 w w1); (try have := s11 w w1); (try have := s12 w w1); (try have := s20 w w1); (try have := s21 w w1); (try have := s22 w w1)
    go_wp2
    go_ret
    exact ⟨by rw [Hc.out]; rfl, by exact bel⟩
  have Hsz := Lib.hid (lg_sizes e1)
  have Ho := Lib.hid (show outT t = true → chkC t = 1 by intro h; unfold chkC; rw [e1, h]; rfl)
  have Hm := Lib.hid (show outT t = false → malT t = true → chkC t = 2 by intro h h2; unfold chkC; rw [e1, h, h2]; rfl)
  have Hn := Lib.hid (show outT t = false → malT t = false → misT t = true → chkC t = 8 by intro h h2 h3; unfold chkC; rw [e1, h, h2, h3]; rfl)
  have Hz := Lib.hid (show outT t = false → malT t = false → misT t = false → chkC t = 0 by intro h h2 h3; unfold chkC; rw [e1, h, h2, h3]; rfl)
  go_enter Tryz.func24, Tryz.ntmps24
  go_wp2_with fail; refine (k1 _ (by exact bel)).mono ?_; rintro e w1 ⟨rfl, hb1⟩; obtain ⟨hc1, hf1, hz1, hlt1, hle1⟩ := cellsIf hb1 (by (try simp); exact rfl); (try have := s00 w w1); (try have := s01 w w1); (try have := s02 w w1); (try have := s10 w w1); (try have := s11 w w1); (try have := s12 w w1); (try have := s20 w w1); (try have := s21 w w1); (try have := s22 w w1)
  go_wp2
  go_loopw [21] (fun i wr => ∃ k : Nat, k ≤ t.vars.length ∧ i = .int .i64 k ∧ (anyB k fun k => decide (nth t.vars k < 1) || decide (64 < nth t.vars k)) = false ∧ Boxed wr w.heap.size t ⟨av, ai, ag, ao, cv, ci, cg, co⟩ ∧ Below w.heap.size w wr) (fun i _ => t.vars.length - (intOf i).toNat)
  case atStart => exact ⟨0, by omega, rfl, rfl, by constructor <;> first | omega | simp [hc1], by exact bel⟩
  case round =>
    clear hc1 hf1 hz1 hlt1 hle1 hb1
    obtain ⟨k, hk, rfl, hB, hbox, hbel⟩ := hrel
    have HB := Lib.hid hB
    clear hB
    obtain ⟨z0, y0, y1, y2, y3⟩ := id hbox
    dsimp only at y0 y1 y2 y3
    by_cases hlt : k < t.vars.length
    · obtain ⟨b1, o1, ea, hb1, hc1⟩ := ht.vars.at_ hlt
      dsimp only at ea
      subst ea
      have d1 := (hbel.cell (p := ⟨b1, o1 + k, none⟩) hb1).trans (hc1 k hlt)
      have hbz := hbel.size
      clear hc1
      cases e2 : decide (nth t.vars k < 1) <;> cases e3 : decide (64 < nth t.vars k) <;> go_wp2
      all_goals first
        | (go_roundw
           case rel => exact ⟨k + 1, by omega, by go_num, (by rw [anyB_succ, HB.out, e2, e3]; rfl), hbox.up (by exact bel), by exact bel⟩
           case measure => simp [intOf]; omega)
        | (go_ret
           have hf : (anyB t.vars.length fun k => decide (nth t.vars k < 1) || decide (64 < nth t.vars k)) = true := anyB_true.2 ⟨k, hlt, by rw [e2, e3]; rfl⟩
           exact ⟨by rw [Ho.out (by unfold outT; rw [hf, Bool.true_or])]; rfl, by exact bel⟩)
    · obtain rfl : k = t.vars.length := by omega
      have HB1 := HB
      go_wp2
      go_loopw [36] (fun i wr => ∃ k : Nat, k ≤ t.ops.length ∧ i = .int .i64 k ∧ (anyB k fun k => decide ((opr t.ops k).cost < 0) || decide (1048576 < (opr t.ops k).cost)) = false ∧ Boxed wr w.heap.size t ⟨av, ai, ag, ao, cv, ci, cg, co⟩ ∧ Below w.heap.size w wr) (fun i _ => t.ops.length - (intOf i).toNat)
      case atStart => exact ⟨0, by omega, rfl, rfl, hbox, by exact bel⟩
      case round =>
        clear z0 y0 y1 y2 y3 hbox hbel hlt HB
        obtain ⟨k, hk, rfl, hB, hbox, hbel⟩ := hrel
        have HB := Lib.hid hB
        clear hB
        obtain ⟨z0, y0, y1, y2, y3⟩ := id hbox
        dsimp only at y0 y1 y2 y3
        by_cases hlt : k < t.ops.length
        · obtain ⟨b, o, S, c, T, d, ea, hb, d0, q0, d1, d2, f2, d3, e3⟩ := ht.ops.at2 hbel hlt; (try dsimp only at ea); subst ea; have hbz := hbel.size; have g2 : b < wr.heap.size := (by omega); have j1 := f2.len; have j2 := e3.len
          cases e2 : decide ((opr t.ops k).cost < 0) <;> cases e3 : decide (1048576 < (opr t.ops k).cost) <;> go_wp2
          all_goals first
            | (go_roundw
               case rel => exact ⟨k + 1, by omega, by go_num, (by rw [anyB_succ, HB.out, e2, e3]; rfl), hbox.up (by exact bel), by exact bel⟩
               case measure => simp [intOf]; omega)
            | (go_ret
               have hf : (anyB t.ops.length fun k => decide ((opr t.ops k).cost < 0) || decide (1048576 < (opr t.ops k).cost)) = true := anyB_true.2 ⟨k, hlt, by rw [e2, e3]; rfl⟩
               exact ⟨by rw [Ho.out (by unfold outT; rw [hf, Bool.or_true])]; rfl, by exact bel⟩)
        · obtain rfl : k = t.ops.length := by omega
          have Hout := Lib.hid (show outT t = false by unfold outT; rw [HB1.out, HB.out]; rfl)
          clear HB HB1
          have hbz := hbel.size
          cases e4 : stB t.vars t.init
          · have Hc := Lib.hid (Hm.out Hout.out (by rw [malT_eq, e4]; rfl))
            go_wp2_with fail; refine (k2 _ (by exact bel)).mono ?_; rintro e w1 ⟨rfl, hb1⟩; obtain ⟨hc1, hf1, hz1, hlt1, hle1⟩ := cellsIf hb1 (by (try simp); exact rfl); (try have := s00 w w1); (try have := s01 w w1); (try have := s02 w w1); (try have := s10 w w1); (try have := s11 w w1); (try have := s12 w w1); (try have := s20 w w1); (try have := s21 w w1); (try have := s22 w w1)
            go_wp2
            go_ret
            exact ⟨by rw [Hc.out]; rfl, by exact bel⟩
          have HB4 := Lib.hid e4
          go_wp2_with fail; refine (k2 _ (by exact bel)).mono ?_; rintro e w1 ⟨rfl, hb1⟩; obtain ⟨hc1, hf1, hz1, hlt1, hle1⟩ := cellsIf hb1 (by (try simp); exact rfl); (try have := s00 w w1); (try have := s01 w w1); (try have := s02 w w1); (try have := s10 w w1); (try have := s11 w w1); (try have := s12 w w1); (try have := s20 w w1); (try have := s21 w w1); (try have := s22 w w1)
          have hbw1 : Below w.heap.size w w1 := by exact bel
          have hbox1 := hbox.up hb1
          go_wp2_with fail
          refine (k3 _ Hsz.out.1 Hsz.out.2 hbw1).mono ?_
          rintro e w2 ⟨⟨v, hs, rfl, hg, hl⟩, hb2⟩
          have hbw2 : Below w.heap.size w w2 := by exact bel
          have hbox2 := hbox1.up hb2
          have hn : 0 < hs.length := by have h := congrArg List.length hg.lists; rw [List.length_map] at h; unfold cnds at h; rw [List.length_cons] at h; omega
          have hl2 : hs.length ≤ 300000 := by have := Hsz.out.1; omega
          clear hl hc1 hf1 hlt1 hle1
          obtain ⟨g, cap, rfl, hgl, hcg⟩ := hg.at_ hn
          have Hcg := Lib.hid hcg
          clear hcg
          go_wp2
          clear z0 y0 y1 y2 y3 hb1 hbel hbz hbox hbox1
          go_loopw [60] (fun i wr => ∃ k : Nat, k ≤ hs.length ∧ i = .int .i64 k ∧ (anyB k fun k => !faB t.vars (hd hs k).l) = false ∧ Below w2.heap.size w2 wr) (fun i _ => hs.length - (intOf i).toNat)
          case atStart => exact ⟨0, by omega, rfl, rfl, by exact bel⟩
          case round =>
            obtain ⟨k, hk, rfl, hB, hbr⟩ := hrel
            have HB := Lib.hid hB
            clear hB
            have hbz := hbw2.size
            have hbz3 := hbr.size
            have hbel : Below w.heap.size w wr := hbw2.trans (hbr.mono hbz)
            have hbox := hbox2.up hbr
            obtain ⟨z0, y0, y1, y2, y3⟩ := id hbox
            dsimp only at y0 y1 y2 y3
            by_cases hlt : k < hs.length
            · have d1 := (hbr.cell (p := ⟨g, k, none⟩) hgl).trans (Hcg.out k hlt)
              have g1 : g < wr.heap.size := by omega
              have f1 := ((hg.facts _ (hd_mem hlt)).up hb2).up hbr
              have k4 := facts_any t.vars (hd hs k).l av (hd hs k).a cv (hd hs k).c wr (ht.vars.up hbel) f1
              cases e5 : faB t.vars (hd hs k).l
              · have Hc := Lib.hid (Hm.out Hout.out (by rw [malT_eq, ← hg.lists, faAll_hs, anyB_true.2 ⟨k, hlt, by rw [e5]; rfl⟩]; simp))
                go_wp2_with fail; refine (k4).mono ?_; rintro e w3 ⟨rfl, hb3⟩; obtain ⟨hc3, hf3, hz3, hlt3, hle3⟩ := cellsIf hb3 (by (try simp); exact rfl); (try have := s00 w w3); (try have := s01 w w3); (try have := s02 w w3); (try have := s10 w w3); (try have := s11 w w3); (try have := s12 w w3); (try have := s20 w w3); (try have := s21 w w3); (try have := s22 w w3); (try have := s00 w1 w3); (try have := s01 w1 w3); (try have := s02 w1 w3); (try have := s10 w1 w3); (try have := s11 w1 w3); (try have := s12 w1 w3); (try have := s20 w1 w3); (try have := s21 w1 w3); (try have := s22 w1 w3); (try have := s00 w2 w3); (try have := s01 w2 w3); (try have := s02 w2 w3); (try have := s10 w2 w3); (try have := s11 w2 w3); (try have := s12 w2 w3); (try have := s20 w2 w3); (try have := s21 w2 w3); (try have := s22 w2 w3)
                go_wp2
                go_ret
                exact ⟨by rw [Hc.out]; rfl, by exact bel⟩
              · go_wp2_with fail; refine (k4).mono ?_; rintro e w3 ⟨rfl, hb3⟩; obtain ⟨hc3, hf3, hz3, hlt3, hle3⟩ := cellsIf hb3 (by (try simp); exact rfl); (try have := s00 w w3); (try have := s01 w w3); (try have := s02 w w3); (try have := s10 w w3); (try have := s11 w w3); (try have := s12 w w3); (try have := s20 w w3); (try have := s21 w w3); (try have := s22 w w3); (try have := s00 w1 w3); (try have := s01 w1 w3); (try have := s02 w1 w3); (try have := s10 w1 w3); (try have := s11 w1 w3); (try have := s12 w1 w3); (try have := s20 w1 w3); (try have := s21 w1 w3); (try have := s22 w1 w3); (try have := s00 w2 w3); (try have := s01 w2 w3); (try have := s02 w2 w3); (try have := s10 w2 w3); (try have := s11 w2 w3); (try have := s12 w2 w3); (try have := s20 w2 w3); (try have := s21 w2 w3); (try have := s22 w2 w3)
                go_wp2
                go_roundw
                case rel => exact ⟨k + 1, by omega, by go_num, (by rw [anyB_succ, HB.out, e5]; rfl), hbr.trans (hb3.mono hbz3)⟩
                case measure => simp [intOf]; omega
            · obtain rfl : k = hs.length := by omega
              have Hfa := Lib.hid (show faAll t.vars (cnds t t.ops.length) = true by rw [← hg.lists, faAll_hs, HB.out]; rfl)
              clear HB hlt
              go_wp2
              go_loopw [74] (fun i wr => ∃ k : Nat, k ≤ t.ops.length ∧ i = .int .i64 k ∧ (anyB k fun k => badO t.vars (opr t.ops k)) = false ∧ Boxed wr w.heap.size t ⟨av, ai, ag, ao, cv, ci, cg, co⟩ ∧ Below w.heap.size w wr) (fun i _ => t.ops.length - (intOf i).toNat)
              case atStart => exact ⟨0, by omega, rfl, rfl, hbox, by exact bel⟩
              case round =>
                clear z0 y0 y1 y2 y3 hbox hbel hbr hbz hbz3 hb2
                obtain ⟨k, hk, rfl, hB, hbox, hbel⟩ := hrel
                have HB := Lib.hid hB
                clear hB
                obtain ⟨z0, y0, y1, y2, y3⟩ := id hbox
                dsimp only at y0 y1 y2 y3
                by_cases hlt : k < t.ops.length
                · obtain ⟨b, o, S, c, T, d, ea, hb, d0, q0, d1, d2, f2, d3, e3⟩ := ht.ops.at2 hbel hlt; (try dsimp only at ea); subst ea; have hbz := hbel.size; have g2 : b < wr.heap.size := (by omega); have j1 := f2.len; have j2 := e3.len
                  go_wp2
                  go_loopw [81] (fun i wx => ∃ j : Nat, j ≤ (opr t.ops k).effs.length ∧ i = .int .i64 j ∧ (anyB j fun j => badE t.vars (eff (opr t.ops k).effs j)) = false ∧ Boxed wx w.heap.size t ⟨av, ai, ag, some ⟨b, o, none⟩, cv, ci, cg, co⟩ ∧ Below w.heap.size w wx) (fun i _ => (opr t.ops k).effs.length - (intOf i).toNat)
                  case atStart => exact ⟨0, by omega, rfl, rfl, hbox.up (by exact bel), by exact bel⟩
                  case round =>
                    clear z0 y0 y1 y2 y3 hbox
                    obtain ⟨j, hj, rfl, hB2, hbox, hbel2⟩ := hrel
                    have HB2 := Lib.hid hB2
                    clear hB2
                    obtain ⟨z0, y0, y1, y2, y3⟩ := id hbox
                    dsimp only at y0 y1 y2 y3
                    by_cases hlt2 : j < (opr t.ops k).effs.length
                    · obtain ⟨b', o', S', c', ea', hb', i0, f5, i1, i2⟩ := e3.at2 hbel2 hlt2; subst ea'; have hbz2 := hbel2.size; have g3 : b' < wr.heap.size := (by omega); have j3 := f5.len
                      have k5 := fun w1 b (hb : Below w.heap.size w w1) (hf : FactsAt w1 w1.heap.size (some ⟨b, 0, none⟩) [((eff (opr t.ops k).effs j).var, (eff (opr t.ops k).effs j).val)]) => facts_any t.vars [((eff (opr t.ops k).effs j).var, (eff (opr t.ops k).effs j).val)] av (some ⟨b, 0, none⟩) cv 1 w1 (ht.vars.up hb) hf
                      cases e6 : faB t.vars [((eff (opr t.ops k).effs j).var, (eff (opr t.ops k).effs j).val)]
                      · have hbd : anyB t.ops.length (fun k => badO t.vars (opr t.ops k)) = true := anyB_true.2 ⟨k, hlt, anyB_true.2 ⟨j, hlt2, by unfold badE; rw [e6]; rfl⟩⟩
                        have Hc := Lib.hid (Hm.out Hout.out (by rw [malT_eq, hbd]; simp))
                        clear hbd
                        go_wp2_with fail; refine (k5 _ _ (by exact bel) (factsAt_one (by simp) (by simp) (by simp))).mono ?_; rintro e w4 ⟨rfl, hb4⟩; obtain ⟨hc4, hf4, hz4, hlt4, hle4⟩ := cellsIf hb4 (by (try simp); exact rfl); (try have := s00 w w4); (try have := s01 w w4); (try have := s02 w w4); (try have := s10 w w4); (try have := s11 w w4); (try have := s12 w w4); (try have := s20 w w4); (try have := s21 w w4); (try have := s22 w w4); (try have := s00 w1 w4); (try have := s01 w1 w4); (try have := s02 w1 w4); (try have := s10 w1 w4); (try have := s11 w1 w4); (try have := s12 w1 w4); (try have := s20 w1 w4); (try have := s21 w1 w4); (try have := s22 w1 w4); (try have := s00 w2 w4); (try have := s01 w2 w4); (try have := s02 w2 w4); (try have := s10 w2 w4); (try have := s11 w2 w4); (try have := s12 w2 w4); (try have := s20 w2 w4); (try have := s21 w2 w4); (try have := s22 w2 w4); (try have := s00 w3 w4); (try have := s01 w3 w4); (try have := s02 w3 w4); (try have := s10 w3 w4); (try have := s11 w3 w4); (try have := s12 w3 w4); (try have := s20 w3 w4); (try have := s21 w3 w4); (try have := s22 w3 w4)
                        go_wp2
                        go_ret
                        exact ⟨by rw [Hc.out]; rfl, by exact bel⟩
                      · go_wp2_with fail; refine (k5 _ _ (by exact bel) (factsAt_one (by simp) (by simp) (by simp))).mono ?_; rintro e w4 ⟨rfl, hb4⟩; obtain ⟨hc4, hf4, hz4, hlt4, hle4⟩ := cellsIf hb4 (by (try simp); exact rfl); (try have := s00 w w4); (try have := s01 w w4); (try have := s02 w w4); (try have := s10 w w4); (try have := s11 w w4); (try have := s12 w w4); (try have := s20 w w4); (try have := s21 w w4); (try have := s22 w w4); (try have := s00 w1 w4); (try have := s01 w1 w4); (try have := s02 w1 w4); (try have := s10 w1 w4); (try have := s11 w1 w4); (try have := s12 w1 w4); (try have := s20 w1 w4); (try have := s21 w1 w4); (try have := s22 w1 w4); (try have := s00 w2 w4); (try have := s01 w2 w4); (try have := s02 w2 w4); (try have := s10 w2 w4); (try have := s11 w2 w4); (try have := s12 w2 w4); (try have := s20 w2 w4); (try have := s21 w2 w4); (try have := s22 w2 w4); (try have := s00 w3 w4); (try have := s01 w3 w4); (try have := s02 w3 w4); (try have := s10 w3 w4); (try have := s11 w3 w4); (try have := s12 w3 w4); (try have := s20 w3 w4); (try have := s21 w3 w4); (try have := s22 w3 w4)
                        go_wp2
                        go_roundw
                        case rel => exact ⟨j + 1, by omega, by go_num, (by rw [anyB_succ, HB2.out]; unfold badE; rw [e6]; rfl), hbox.up (by exact bel), by exact bel⟩
                        case measure => simp [intOf]; omega
                    · obtain rfl : j = (opr t.ops k).effs.length := by omega
                      go_wp2
                      go_roundw
                      case rel => exact ⟨k + 1, by omega, by go_num, (by rw [anyB_succ, HB.out]; exact HB2.out), hbox, by exact bel⟩
                      case measure => simp [intOf]; omega
                · obtain rfl : k = t.ops.length := by omega
                  have Hmal := Lib.hid (show malT t = false by rw [malT_eq, HB4.out, Hfa.out, HB.out]; rfl)
                  clear HB hlt
                  go_wp2
                  go_loopw [101] (fun i wr => ∃ k : Nat, k ≤ t.ops.length ∧ i = .int .i64 k ∧ (anyB k fun k => misO (opr t.ops k).name) = false ∧ Below w.heap.size w wr) (fun i _ => t.ops.length - (intOf i).toNat)
                  case atStart => exact ⟨0, by omega, rfl, rfl, by exact bel⟩
                  case round =>
                    clear z0 y0 y1 y2 y3 hbox hbel
                    obtain ⟨k, hk, rfl, hB, hbel⟩ := hrel
                    have HB := Lib.hid hB
                    clear hB
                    by_cases hlt : k < t.ops.length
                    · obtain ⟨b, o, S, c, T, d, ea, hb, d0, q0, d1, d2, f2, d3, e3⟩ := ht.ops.at2 hbel hlt; (try dsimp only at ea); subst ea; have hbz := hbel.size; have g2 : b < wr.heap.size := (by omega); have j1 := f2.len; have j2 := e3.len
                      have k6 := fun w1 => named_any (opr t.ops k).name w1 q0
                      cases e7 : misO (opr t.ops k).name
                      · go_wp2_with fail; refine (k6 _).mono ?_; rintro e w5 ⟨rfl, hb5⟩; obtain ⟨hc5, hf5, hz5, hlt5, hle5⟩ := cellsIf hb5 (by (try simp); exact rfl); (try have := s00 w w5); (try have := s01 w w5); (try have := s02 w w5); (try have := s10 w w5); (try have := s11 w w5); (try have := s12 w w5); (try have := s20 w w5); (try have := s21 w w5); (try have := s22 w w5); (try have := s00 w1 w5); (try have := s01 w1 w5); (try have := s02 w1 w5); (try have := s10 w1 w5); (try have := s11 w1 w5); (try have := s12 w1 w5); (try have := s20 w1 w5); (try have := s21 w1 w5); (try have := s22 w1 w5); (try have := s00 w2 w5); (try have := s01 w2 w5); (try have := s02 w2 w5); (try have := s10 w2 w5); (try have := s11 w2 w5); (try have := s12 w2 w5); (try have := s20 w2 w5); (try have := s21 w2 w5); (try have := s22 w2 w5); (try have := s00 w3 w5); (try have := s01 w3 w5); (try have := s02 w3 w5); (try have := s10 w3 w5); (try have := s11 w3 w5); (try have := s12 w3 w5); (try have := s20 w3 w5); (try have := s21 w3 w5); (try have := s22 w3 w5); (try have := s00 w4 w5); (try have := s01 w4 w5); (try have := s02 w4 w5); (try have := s10 w4 w5); (try have := s11 w4 w5); (try have := s12 w4 w5); (try have := s20 w4 w5); (try have := s21 w4 w5); (try have := s22 w4 w5)
                        go_wp2
                        go_roundw
                        case rel => exact ⟨k + 1, by omega, by go_num, (by rw [anyB_succ, HB.out, e7]; rfl), by exact bel⟩
                        case measure => simp [intOf]; omega
                      · have Hc := Lib.hid (Hn.out Hout.out Hmal.out (anyB_true.2 ⟨k, hlt, e7⟩))
                        go_wp2_with fail; refine (k6 _).mono ?_; rintro e w5 ⟨rfl, hb5⟩; obtain ⟨hc5, hf5, hz5, hlt5, hle5⟩ := cellsIf hb5 (by (try simp); exact rfl); (try have := s00 w w5); (try have := s01 w w5); (try have := s02 w w5); (try have := s10 w w5); (try have := s11 w w5); (try have := s12 w w5); (try have := s20 w w5); (try have := s21 w w5); (try have := s22 w w5); (try have := s00 w1 w5); (try have := s01 w1 w5); (try have := s02 w1 w5); (try have := s10 w1 w5); (try have := s11 w1 w5); (try have := s12 w1 w5); (try have := s20 w1 w5); (try have := s21 w1 w5); (try have := s22 w1 w5); (try have := s00 w2 w5); (try have := s01 w2 w5); (try have := s02 w2 w5); (try have := s10 w2 w5); (try have := s11 w2 w5); (try have := s12 w2 w5); (try have := s20 w2 w5); (try have := s21 w2 w5); (try have := s22 w2 w5); (try have := s00 w3 w5); (try have := s01 w3 w5); (try have := s02 w3 w5); (try have := s10 w3 w5); (try have := s11 w3 w5); (try have := s12 w3 w5); (try have := s20 w3 w5); (try have := s21 w3 w5); (try have := s22 w3 w5); (try have := s00 w4 w5); (try have := s01 w4 w5); (try have := s02 w4 w5); (try have := s10 w4 w5); (try have := s11 w4 w5); (try have := s12 w4 w5); (try have := s20 w4 w5); (try have := s21 w4 w5); (try have := s22 w4 w5)
                        go_wp2
                        go_ret
                        exact ⟨by rw [Hc.out]; rfl, by exact bel⟩
                    · obtain rfl : k = t.ops.length := by omega
                      have Hc := Lib.hid (Hz.out Hout.out Hmal.out HB.out)
                      go_wp2
                      go_ret
                      exact ⟨by rw [Hc.out]; rfl, by exact bel⟩
end

section
open Go.RowKit
set_option linter.unusedVariables false

theorem infoI : (Tryz.prog.info? 3).map (fun i => (i.zero, i.size, i.bytes)) = some (some (.int .i64 0), 1, 8) := by kernel_rfl
theorem undI : Tryz.prog.underlying 22 = some (.slice 3) := by kernel_rfl

/-- A list of numbers as cells. -/
def ic (l : List Int) : List Value := l.map (.int .i64)
theorem ic_get {l : List Int} {k : Nat} (h : k < l.length) : (ic l)[k]? = some (.int .i64 (nth l k)) := by unfold ic nth; simp [List.getD, List.getElem?_eq_getElem h]
/-- A row of the call's own, read as a list of numbers. -/
theorem own_ints {w : World} {B : Nat} {v : Value} {l : List Int} (h : w.ownsRow B 3 1 v l.length (ic l)) (hl : l.length ≤ 140737488355328) : ∃ A c, v = .slice A l.length c ∧ IntsAt w w.heap.size A l := by
 rcases h.2 with ⟨rfl, h0⟩ | ⟨b, cap, cur, rfl, hb, hg, hh⟩
 ·rw [h0]; exact ⟨none, 0, rfl, hl, fun hn => absurd hn (by omega)⟩
 ·refine ⟨_, cap, rfl, hl, fun _ => ⟨b, 0, rfl, (Array.getElem?_eq_some_iff.1 hg).1, fun k hk => ?_⟩⟩
  have := h.cells (g := b) rfl k _ (ic_get hk)
  simp [Addr.add] at this
  split at this
  ·rename_i h0; subst h0; exact this
  ·simpa using this

set_option maxRecDepth 4000 in
set_option maxHeartbeats 1000000 in
theorem clone_any (s : List Int) (A : Option Addr) (c : Nat) (w : World) (h : IntsAt w w.heap.size A s) (hs : s.length ≤ 1000000) :
  Calls Tryz.prog 58 #[.slice A s.length c] w fun e w' => (∃ v, e = .returned v ∧ w'.ownsRow w.heap.size 3 1 v s.length (ic s)) ∧ Below w.heap.size w w' := by
 obtain ⟨inf, hi, hz0, hz1, hz2⟩ := info_parts infoI
 have hA : A = none → s = [] := fun e => by
  rcases Nat.eq_zero_or_pos s.length with h0 | h0
  ·exact List.length_eq_zero_iff.1 h0
  ·obtain ⟨b, off, e2, _⟩ := h.2 h0; rw [e] at e2; cases e2
 cases A with
 | none =>
  obtain rfl := hA rfl
  have heq : ∀ w', (binOp .eql 22 (.slice none ([] : List Int).length c) (.slice none 0 0)).run Tryz.prog w' = .ok (.bool true) w' := fun w' => Lib.run_eql_slice_nil_nil w' _ c undI
  simp only [List.length_nil] at heq ⊢
  go_enter Tryz.func58, Tryz.ntmps58
  go_wp2
  go_ret
  exact ⟨⟨_, rfl, World.ownsRow_nil _ _ _ _⟩, by exact bel⟩
 | some ad =>
  have hcells : ∀ (j : Nat) (u : Value), (ic s)[j]? = some u → w.cell? (ad.add j) = some u := fun j u hj => by
   have hlt : j < s.length := by have := (List.getElem?_eq_some_iff.1 hj).1; simpa [ic] using this
   obtain ⟨b, off, e2, _, hc⟩ := h.2 (by omega)
   rw [ic_get hlt] at hj
   cases hj
   cases e2
   have := hc j hlt
   simp [Addr.add]
   split
   ·rename_i h0; subst h0; simpa using this
   ·simpa using this
  have hlt : ∀ j, j < s.length → (ad.add j).block < w.heap.size := fun j hj => by
   obtain ⟨b, off, e2, hb, _⟩ := h.2 (by omega)
   cases e2
   simp [Addr.add]; split <;> exact hb
  have Hn := Lib.hid (show ∀ (o : Obj) (j : Nat) (u : Value), (ic s)[j]? = some u → (w.alloc o).cell? (ad.add j) = some u from fun o j u hj =>
   (((Below.refl w.heap.size w).alloc (Nat.le_refl _) o).cell (hlt j (by have := (List.getElem?_eq_some_iff.1 hj).1; simpa [ic] using this))).trans (hcells j u hj))
  clear hcells hlt hA
  have heq : ∀ w', (binOp .eql 22 (.slice (some ad) s.length c) (.slice none 0 0)).run Tryz.prog w' = .ok (.bool false) w' := fun w' => Lib.run_eql_slice_some_nil w' ad _ c undI
  go_enter Tryz.func58, Tryz.ntmps58
  go_wp2_with (at_builtin; refine wpList_append_own _ rfl _ _ 22 rfl w.heap.size 3 inf (.int .i64 0) 1 8 undI hi hz0 hz1 hz2 rfl (by decide) _ 0 [] rfl (World.ownsRow_made w #[] 0 (Nat.le_refl _) (by simp [maxLen]) rfl) ad s.length c (ic s) rfl (by simp [ic]) (Hn.out _) (by intro u hu; simp [ic] at hu; obtain ⟨x, _, rfl⟩ := hu; rfl) (by unfold maxLen; omega) (by omega) (by simp) ?_; intro v' w1 hown' hgrow _; simp only [Nat.zero_add, List.nil_append] at hown'; have hb1 : Below w.heap.size w w1 := grown_below (Below.alloc (Below.refl _ _) (Nat.le_refl _) _) (Nat.le_refl _) (World.ownsRow_made w #[] 0 (Nat.le_refl _) (by simp [maxLen]) rfl) hgrow; have Hown := Lib.hid hown'; clear hgrow hown')
  go_ret
  exact ⟨⟨_, rfl, Hown.out⟩, hb1⟩
end

section
open Go.RowKit
set_option linter.unusedVariables false

theorem erV_0 : erV 0 = .nilIface := rfl
theorem assert_errno (v : Value) (w : World) : (Instr.typeAssert (.iface 49 v) 33 49 true).run Tryz.prog w = .ok (.tuple #[v, .bool true]) w := by kernel_rfl

set_option maxHeartbeats 400000 in
theorem num_any (c : Int) (w : World) :
  Calls Tryz.prog 13 #[erV c] w fun e w' => e = .returned (.int .i64 c) ∧ w = w' := by
 by_cases h : c = 0
 ·subst h
  rw [erV_0]
  go_enter Tryz.func13, Tryz.ntmps13
  go_wp2
  go_ret
  exact ⟨rfl, rfl⟩
 ·have e : erV c = .iface 49 (.int .i64 c) := by unfold erV; rw [if_neg h]
  rw [e]
  clear e
  have ta := assert_errno
  go_enter Tryz.func13, Tryz.ntmps13
  go_wp2
  go_ret
  exact ⟨rfl, rfl⟩

/-- Is, of an error code that is not 0. -/
theorem is_any (c k : Int) (w : World) (hk : k ≠ 0) :
  Calls Tryz.prog 17 #[erV c, .int .i64 k] w fun e w' => e = .returned (.bool (decide (c = k))) ∧ w = w' := by
 by_cases h : c = 0
 ·subst h
  rw [erV_0]
  have hd : decide (0 = k) = false := by simp; omega
  go_enter Tryz.func17, Tryz.ntmps17
  go_wp2
  go_ret
  exact ⟨bool_ret hd.symm, rfl⟩
 ·have e : erV c = .iface 49 (.int .i64 c) := by unfold erV; rw [if_neg h]
  have hn := num_any c
  rw [e] at hn ⊢
  clear e
  have Hn := Lib.hid hn
  clear hn
  go_enter Tryz.func17, Tryz.ntmps17
  go_wp2_with (go_at_call 13; refine (Hn.out _).mono ?_; rintro e w' ⟨rfl, rfl⟩)
  go_ret
  exact ⟨bool_ret (by rw [Bool.eq_iff_iff]; simp), rfl⟩
end

section
open Go.RowKit
set_option linter.unusedVariables false

/-- What the first j effects that fire in s make of s. -/
def apE (s : List Int) (es : List Eff) : Nat → List Int
 | 0 => s
 | j + 1 => if hoB (eff es j).whn s then (apE s es j).set (eff es j).var.toNat (eff es j).val else apE s es j
theorem apE_len (s : List Int) (es : List Eff) (j : Nat) : (apE s es j).length = s.length := by
 induction j with
 | zero => rfl
 | succ j ih => unfold apE; split <;> simp [ih]
def apC (t : Tsk) (s : List Int) (op : Int) : Int :=
 if op < 0 then 1 else if (t.ops.length : Int) ≤ op then 1 else if stB t.vars s then (if hoB (opr t.ops op.toNat).pre s then 0 else 12) else 2
theorem ic_set (l : List Int) (k : Nat) (x : Int) : (ic l).set k (.int .i64 x) = ic (l.set k x) := by unfold ic; rw [List.map_set]
theorem mal_var {t : Tsk} (h : malT t = false) {k j : Nat} (hk : k < t.ops.length) (hj : j < (opr t.ops k).effs.length) : 0 ≤ (eff (opr t.ops k).effs j).var ∧ (eff (opr t.ops k).effs j).var < t.vars.length := by
 unfold malT at h
 simp only [Bool.or_eq_false_iff, anyB_false] at h
 have h1 := h.2 k hk
 unfold malO at h1
 simp only [Bool.or_eq_false_iff, anyB_false] at h1
 have h2 := h1.2 j hj
 unfold malE at h2
 simp only [Bool.or_eq_false_iff, Bool.not_eq_false'] at h2
 have h3 := h2.2
 unfold faB at h3
 simp only [decide_eq_true_eq] at h3
 have h4 := h3 0 (by simp)
 exact ⟨h4.1, h4.2.1⟩

theorem lg_vars {t : Tsk} (h : lgT t = false) : t.vars.length ≤ 64 := by
 unfold lgT at h
 simp only [Bool.or_eq_false_iff, anyB_false] at h
 have := h.1.1.1; simp at this; omega
theorem stB_len {vars s : List Int} (h : stB vars s = true) : s.length = vars.length := by
 unfold stB at h; simp only [decide_eq_true_eq] at h; exact h.1
theorem own_keep {wr w1 : World} {B : Nat} {e : TypeId} {v : Value} {n : Nat} {xs : List Value} (h : wr.ownsRow B e 1 v n xs) (hb : Below wr.heap.size wr w1) : w1.ownsRow B e 1 v n xs :=
 h.kept (row := none) ⟨hb.os, hb.tape, hb.output, hb.size, fun k hk _ => hb.block k hk⟩ (by cases v.ownBlock <;> simp)

theorem own_mono {w : World} {B B' : Nat} {e : TypeId} {v : Value} {n : Nat} {xs : List Value} (h : w.ownsRow B e 1 v n xs) (hb : B' ≤ B) : w.ownsRow B' e 1 v n xs :=
 ⟨h.1, h.2.imp id fun ⟨g, cap, cur, h1, h2, h3⟩ => ⟨g, cap, cur, h1, Nat.le_trans hb h2, h3⟩⟩
theorem own_form {w : World} {B : Nat} {e : TypeId} {v : Value} {n : Nat} {xs : List Value} (h : w.ownsRow B e 1 v n xs) (hn : 0 < n) : ∃ g cap, v = .slice (some ⟨g, 0, none⟩) n cap ∧ B ≤ g ∧ g < w.heap.size := by
 rcases h.2 with ⟨_, h0⟩ | ⟨g, cap, cur, hv, hb, hg, _⟩
 ·omega
 ·exact ⟨g, cap, hv, hb, (Array.getElem?_eq_some_iff.1 hg).1⟩

end

section
open Go.RowKit
set_option linter.unusedVariables false

set_option maxRecDepth 4000 in
set_option maxHeartbeats 2000000 in
theorem bapply_no (t : Tsk) (p : Lies) (s : List Int) (A : Option Addr) (c : Nat) (k : Nat) (w : World) (ht : TaskAt w w.heap.size t p) (hs : IntsAt w w.heap.size A s) (hlt : k < t.ops.length) (e4 : hoB (opr t.ops k).pre s = false) :
  Calls Tryz.prog 95 #[TaskV t p, .slice A s.length c, .int .i64 k] w fun e w' => e = .returned (.tuple #[.slice none 0 0, .bool false]) ∧ Below w.heap.size w w' := by
 obtain ⟨av, ai, ag, ao, cv, ci, cg, co⟩ := p
 unfold TaskV at *
 dsimp only at *
 have l4 := ht.ops.len
 have ls := hs.len
 obtain ⟨b, o, S, d, T, d2, ea, hb, q0, qs, q1, q2, f2, q3, e5⟩ := ht.ops.at2 (Below.refl _ w) hlt
 dsimp only at ea
 subst ea
 have g2 : b < w.heap.size := hb
 have j1 := f2.len
 have j2 := e5.len
 have k2 := fun w1 (hb : Below w.heap.size w w1) => bholds_any (opr t.ops k).pre s S A d c w1 (f2.up hb) (hs.up hb)
 go_enter Tryz.func95, Tryz.ntmps95
 go_wp2_with fail; refine (k2 _ (by exact bel)).mono ?_; rintro e w1 ⟨rfl, hb1⟩; obtain ⟨hc1, hf1, hz1, hlt1, hle1⟩ := cellsIf hb1 (by (try simp); exact rfl); (try have := s00 w w1); (try have := s01 w w1); (try have := s02 w w1); (try have := s10 w w1); (try have := s11 w w1); (try have := s12 w w1); (try have := s20 w w1); (try have := s21 w w1); (try have := s22 w w1)
 go_wp2
 refine bodyPost_ret (v := .tuple #[.slice none 0 0, .bool false]) (by simp [results, Tryz.results95, go_sem]) rfl ⟨rfl, by exact bel⟩
end

section
open Go.RowKit
set_option linter.unusedVariables false

/-- The cells of a list of numbers at an address. -/
theorem ints_src {w : World} {ad : Addr} {s : List Int} (h : IntsAt w w.heap.size (some ad) s) {w1 : World} (hb : Below w.heap.size w w1) : ∀ (j : Nat) (u : Value), (ic s)[j]? = some u → w1.cell? (ad.add j) = some u := fun j u hj => by
 have hlt : j < s.length := by have := (List.getElem?_eq_some_iff.1 hj).1; simpa [ic] using this
 obtain ⟨b, off, e2, hb2, hc⟩ := h.2 (by omega)
 rw [ic_get hlt] at hj
 cases hj
 cases e2
 have := (hb.cell (p := ⟨b, off + j, none⟩) hb2).trans (hc j hlt)
 simp [Addr.add]
 split
 ·rename_i h0; subst h0; simpa using this
 ·simpa using this

set_option maxRecDepth 4000 in
set_option maxHeartbeats 2000000 in
theorem bapply_some (t : Tsk) (p : Lies) (s : List Int) (ad : Addr) (c : Nat) (k : Nat) (w : World) (ht : TaskAt w w.heap.size t p) (hs : IntsAt w w.heap.size (some ad) s) (hlg : lgT t = false) (hmal : malT t = false) (hst : stB t.vars s = true) (hlt : k < t.ops.length) (e4 : hoB (opr t.ops k).pre s = true) :
  Calls Tryz.prog 95 #[TaskV t p, .slice (some ad) s.length c, .int .i64 k] w fun e w' => (∃ v, e = .returned (.tuple #[v, .bool true]) ∧ w'.ownsRow w.heap.size 3 1 v s.length (ic (apE s (opr t.ops k).effs (opr t.ops k).effs.length))) ∧ Below w.heap.size w w' := by
 obtain ⟨av, ai, ag, ao, cv, ci, cg, co⟩ := p
 unfold TaskV at *
 dsimp only at *
 have l4 := ht.ops.len
 have ls := hs.len
 have Hmal := Lib.hid hmal
 have Hlv := Lib.hid (lg_vars hlg)
 have Hsl := Lib.hid (stB_len hst)
 clear hlg hmal hst
 have hsm : s.length ≤ 64 := by have := Hsl.out; have := Hlv.out; omega
 obtain ⟨inf, hi, iz0, iz1, iz2⟩ := info_parts infoI
 obtain ⟨b, o, S, d, T, d2, ea, hb, q0, qs, q1, q2, f2, q3, e5⟩ := ht.ops.at2 (Below.refl _ w) hlt
 dsimp only at ea
 subst ea
 have g2 : b < w.heap.size := hb
 have j1 := f2.len
 have j2 := e5.len
 have k2 := fun w1 (hb : Below w.heap.size w w1) => bholds_any (opr t.ops k).pre s S (some ad) d c w1 (f2.up hb) (hs.up hb)
 have Hn := Lib.hid (fun w1 (hb : Below w.heap.size w w1) => ints_src hs hb)
 go_enter Tryz.func95, Tryz.ntmps95
 go_wp2_with fail; refine (k2 _ (by exact bel)).mono ?_; rintro e w1 ⟨rfl, hb1⟩; obtain ⟨hc1, hf1, hz1, hlt1, hle1⟩ := cellsIf hb1 (by (try simp); exact rfl); (try have := s00 w w1); (try have := s01 w w1); (try have := s02 w w1); (try have := s10 w w1); (try have := s11 w w1); (try have := s12 w w1); (try have := s20 w w1); (try have := s21 w w1); (try have := s22 w w1)
 go_wp2_with (at_builtin; refine wpList_append_own _ rfl _ _ 22 rfl w.heap.size 3 inf (.int .i64 0) 1 8 undI hi iz0 iz1 iz2 rfl (by decide) _ 0 [] rfl (World.ownsRow_made w1 #[] 0 (by omega) (by simp [maxLen]) rfl) ad s.length c (ic s) rfl (by simp [ic]) (Hn.out _ (by exact bel)) (by intro u hu; simp [ic] at hu; obtain ⟨x, _, rfl⟩ := hu; rfl) (by unfold maxLen; omega) (by omega) (by simp; omega) ?_; intro v' w3 hown' hgrow _; simp only [Nat.zero_add, List.nil_append] at hown'; have hbw3 : Below w.heap.size w w3 := grown_below (by exact bel) (Nat.le_refl _) (World.ownsRow_made w1 #[] 0 (by omega) (by simp [maxLen]) rfl) hgrow; have hbx : Below w1.heap.size w1 w3 := (Below.alloc (Below.refl _ _) (Nat.le_refl _) _).grown hgrow (by simp) (fun k hk => by cases hk; exact Nat.le_refl _); obtain ⟨hc3, hf3, hz3, hlt3, hle3⟩ := cellsIf hbx rfl; have Hown := Lib.hid hown'; clear hgrow hown')
 have hown1 := Hown.out
 go_loopw [41] (fun i wr => ∃ j : Nat, j ≤ (opr t.ops k).effs.length ∧ i = .int .i64 j ∧ wr.ownsRow w.heap.size 3 1 v' s.length (ic (apE s (opr t.ops k).effs j)) ∧ Below w.heap.size w wr) (fun i _ => (opr t.ops k).effs.length - (intOf i).toNat)
 case atStart => exact ⟨0, by omega, rfl, hown1, hbw3⟩
 case round =>
  clear hc1 hf1 hlt1 hle1 hb1 hown1 hbw3 hc3 hf3 hlt3 hle3 hbx
  obtain ⟨j, hj, rfl, hown, hbel2⟩ := hrel
  by_cases hlt2 : j < (opr t.ops k).effs.length
  ·obtain ⟨b', o', S', c', ea', hb', i0, f5, i1, i2⟩ := e5.at2 hbel2 hlt2
   subst ea'
   have hbz2 := hbel2.size
   have g3 : b' < wr.heap.size := by omega
   have j3 := f5.len
   have hv := mal_var Hmal.out hlt hlt2
   have hsl := Hsl.out
   have v0 := hv.1
   have v1 : (eff (opr t.ops k).effs j).var < s.length := by omega
   clear hsl hv
   obtain ⟨g, cap, rfl, hg1, hg2⟩ := own_form hown (by omega)
   have k5 := fun w1 (hb : Below w.heap.size w w1) => bholds_any (eff (opr t.ops k).effs j).whn s S' (some ad) c' c w1 (f5.up hb) (hs.up hb)
   cases e6 : hoB (eff (opr t.ops k).effs j).whn s
   ·have He := Lib.hid (show apE s (opr t.ops k).effs (j + 1) = apE s (opr t.ops k).effs j by conv => lhs; unfold apE; rw [if_neg (by rw [e6]; simp)])
    go_wp2_with fail; refine (k5 _ (by exact bel)).mono ?_; rintro e w4 ⟨rfl, hb4⟩; obtain ⟨hc4, hf4, hz4, hlt4, hle4⟩ := cellsIf hb4 (by (try simp); exact rfl); (try have := s00 w w4); (try have := s01 w w4); (try have := s02 w w4); (try have := s10 w w4); (try have := s11 w w4); (try have := s12 w w4); (try have := s20 w w4); (try have := s21 w w4); (try have := s22 w w4); (try have := s00 w1 w4); (try have := s01 w1 w4); (try have := s02 w1 w4); (try have := s10 w1 w4); (try have := s11 w1 w4); (try have := s12 w1 w4); (try have := s20 w1 w4); (try have := s21 w1 w4); (try have := s22 w1 w4); (try have := s00 w2 w4); (try have := s01 w2 w4); (try have := s02 w2 w4); (try have := s10 w2 w4); (try have := s11 w2 w4); (try have := s12 w2 w4); (try have := s20 w2 w4); (try have := s21 w2 w4); (try have := s22 w2 w4); (try have := s00 w3 w4); (try have := s01 w3 w4); (try have := s02 w3 w4); (try have := s10 w3 w4); (try have := s11 w3 w4); (try have := s12 w3 w4); (try have := s20 w3 w4); (try have := s21 w3 w4); (try have := s22 w3 w4)
    go_wp2
    go_roundw
    case rel => exact ⟨j + 1, by omega, by go_num, (by rw [He.out]; exact own_keep (own_keep hown (Below.alloc (Below.refl _ _) (Nat.le_refl _) _)) hb4), by exact bel⟩
    case measure => simp [intOf]; omega
   ·have He := Lib.hid (show apE s (opr t.ops k).effs (j + 1) = (apE s (opr t.ops k).effs j).set (eff (opr t.ops k).effs j).var.toNat (eff (opr t.ops k).effs j).val by conv => lhs; unfold apE; rw [if_pos e6])
    go_wp2_with fail; refine (k5 _ (by exact bel)).mono ?_; rintro e w4 ⟨rfl, hb4⟩; obtain ⟨hc4, hf4, hz4, hlt4, hle4⟩ := cellsIf hb4 (by (try simp); exact rfl); (try have := s00 w w4); (try have := s01 w w4); (try have := s02 w w4); (try have := s10 w w4); (try have := s11 w w4); (try have := s12 w w4); (try have := s20 w w4); (try have := s21 w w4); (try have := s22 w w4); (try have := s00 w1 w4); (try have := s01 w1 w4); (try have := s02 w1 w4); (try have := s10 w1 w4); (try have := s11 w1 w4); (try have := s12 w1 w4); (try have := s20 w1 w4); (try have := s21 w1 w4); (try have := s22 w1 w4); (try have := s00 w2 w4); (try have := s01 w2 w4); (try have := s02 w2 w4); (try have := s10 w2 w4); (try have := s11 w2 w4); (try have := s12 w2 w4); (try have := s20 w2 w4); (try have := s21 w2 w4); (try have := s22 w2 w4); (try have := s00 w3 w4); (try have := s01 w3 w4); (try have := s02 w3 w4); (try have := s10 w3 w4); (try have := s11 w3 w4); (try have := s12 w3 w4); (try have := s20 w3 w4); (try have := s21 w3 w4); (try have := s22 w3 w4)
    have hown4 := own_keep (own_keep hown (Below.alloc (Below.refl _ _) (Nat.le_refl _) _)) hb4
    have x1 : wr.cell? ⟨g, (eff (opr t.ops k).effs j).var.toNat, none⟩ = some (.int .i64 (nth (apE s (opr t.ops k).effs j) (eff (opr t.ops k).effs j).var.toNat)) := (hown.cellAt _ (by omega)).trans (ic_get (by rw [apE_len]; omega))
    have x2 : wr.frozen? ⟨g, (eff (opr t.ops k).effs j).var.toNat, none⟩ = false := hown.frozenAt _
    go_wp2
    go_roundw
    case rel => exact ⟨j + 1, by omega, by go_num, (by rw [He.out, ← ic_set]; exact (hown4.stored _ _).1), by exact bel⟩
    case measure => simp [intOf]; omega
  ·obtain rfl : j = (opr t.ops k).effs.length := by omega
   go_wp2
   refine bodyPost_ret (v := .tuple #[v', .bool true]) (by simp [results, Tryz.results95, go_sem]) rfl ⟨⟨_, rfl, hown⟩, by exact bel⟩
end

section
open Go.RowKit
set_option linter.unusedVariables false

/-- A slice that holds the numbers l. -/
def GotInts (w : World) (v : Value) (l : List Int) : Prop := ∃ A c, v = .slice A l.length c ∧ (A = none → c = 0) ∧ IntsAt w w.heap.size A l
theorem GotInts.up {w w' : World} {v : Value} {l : List Int} (h : GotInts w v l) (hb : Below w.heap.size w w') : GotInts w' v l := by
 obtain ⟨A, c, rfl, h0, h1⟩ := h
 exact ⟨A, c, rfl, h0, h1.up hb⟩
theorem got_nil (w : World) : GotInts w (.slice none 0 0) [] := ⟨none, 0, rfl, fun _ => rfl, by simp, fun h => absurd h (by simp)⟩
theorem own_got {w : World} {B : Nat} {v : Value} {l : List Int} (h : w.ownsRow B 3 1 v l.length (ic l)) (hl : l.length ≤ 140737488355328) : GotInts w v l := by
 rcases h.2 with ⟨rfl, h0⟩ | ⟨b, cap, cur, rfl, hb, hg, hh⟩
 ·have h1 : l = [] := List.length_eq_zero_iff.1 h0
  subst h1
  exact got_nil w
 ·refine ⟨_, cap, rfl, fun h => (by cases h), hl, fun _ => ⟨b, 0, rfl, (Array.getElem?_eq_some_iff.1 hg).1, fun k hk => ?_⟩⟩
  have := h.cells (g := b) rfl k _ (ic_get hk)
  simp [Addr.add] at this
  split at this
  ·rename_i h0; subst h0; exact this
  ·simpa using this

set_option maxRecDepth 4000 in
set_option maxHeartbeats 2000000 in
theorem bapply_none (t : Tsk) (p : Lies) (k : Nat) (w : World) (ht : TaskAt w w.heap.size t p) (hmal : malT t = false) (hst : stB t.vars [] = true) (hlt : k < t.ops.length) (e4 : hoB (opr t.ops k).pre [] = true) :
  Calls Tryz.prog 95 #[TaskV t p, .slice none 0 0, .int .i64 k] w fun e w' => (∃ v, e = .returned (.tuple #[v, .bool true]) ∧ w'.ownsRow w.heap.size 3 1 v 0 []) ∧ Below w.heap.size w w' := by
 have he : (opr t.ops k).effs.length = 0 := by
  rcases Nat.eq_zero_or_pos (opr t.ops k).effs.length with h | h
  ·exact h
  ·have h1 := mal_var hmal hlt h
   have h2 := stB_len hst
   simp at h2
   omega
 have Hn := Lib.hid (show IntsAt w w.heap.size none [] from ⟨by simp, fun h => absurd h (by simp)⟩)
 obtain ⟨av, ai, ag, ao, cv, ci, cg, co⟩ := p
 unfold TaskV at *
 dsimp only at *
 have l4 := ht.ops.len
 clear hst hmal
 obtain ⟨inf, hi, iz0, iz1, iz2⟩ := info_parts infoI
 obtain ⟨b, o, S, d, T, d2, ea, hb, q0, qs, q1, q2, f2, q3, e5⟩ := ht.ops.at2 (Below.refl _ w) hlt
 dsimp only at ea
 subst ea
 rw [he] at q3
 clear he
 have g2 : b < w.heap.size := hb
 have j1 := f2.len
 have k2 := fun w1 (hb : Below w.heap.size w w1) => bholds_any (opr t.ops k).pre [] S none d 0 w1 (f2.up hb) (Hn.out.up hb)
 simp only [List.length_nil] at k2
 go_enter Tryz.func95, Tryz.ntmps95
 go_wp2_with fail; refine (k2 _ (by exact bel)).mono ?_; rintro e w1 ⟨rfl, hb1⟩; obtain ⟨hc1, hf1, hz1, hlt1, hle1⟩ := cellsIf hb1 (by (try simp); exact rfl); (try have := s00 w w1); (try have := s01 w w1); (try have := s02 w w1); (try have := s10 w w1); (try have := s11 w w1); (try have := s12 w w1); (try have := s20 w w1); (try have := s21 w w1); (try have := s22 w w1)
 go_wp2_with (at_builtin; refine wpList_append_own_none rfl _ _ 22 rfl w.heap.size 3 inf 1 undI hi _ 0 [] rfl (World.ownsRow_made w1 #[] 0 (by omega) (by simp [maxLen]) rfl) rfl ?_; obtain ⟨w3, hw3⟩ : ∃ w3, w3 = w1.alloc (Obj.cells #[] 3) := ⟨_, rfl⟩; rw [← hw3]; have hbx : Below w1.heap.size w1 w3 := (by rw [hw3]; exact Below.alloc (Below.refl _ _) (Nat.le_refl _) _); have hown : w3.ownsRow w.heap.size 3 1 (.slice (some ⟨w1.heap.size, 0, none⟩) 0 0) 0 [] := (by rw [hw3]; exact World.ownsRow_made w1 #[] 0 (by omega) (by simp [maxLen]) rfl); have hbw3 : Below w.heap.size w w3 := hbx.mono (by omega) |> (show Below w.heap.size w w1 by exact bel).trans; obtain ⟨hc3, hf3, hz3, hlt3, hle3⟩ := cellsIf hbx rfl; clear hw3 hbx; have Hown := Lib.hid hown; clear hown)
 refine wp_loop_rounds 1 ?_
 rw [rounds_succ]
 go_wp2
 refine bodyPost_ret (v := .tuple #[_, .bool true]) (by simp [results, Tryz.results95, go_sem]) rfl ⟨⟨_, rfl, Hown.out⟩, by exact bel⟩

/-- The successor, or nothing. -/
def nxt (t : Tsk) (s : List Int) (k : Nat) : List Int := apE s (opr t.ops k).effs (opr t.ops k).effs.length
theorem nxt_len (t : Tsk) (s : List Int) (k : Nat) : (nxt t s k).length = s.length := apE_len _ _ _

theorem bapply_any (t : Tsk) (p : Lies) (s : List Int) (A : Option Addr) (c : Nat) (k : Nat) (w : World) (ht : TaskAt w w.heap.size t p) (hs : IntsAt w w.heap.size A s) (hc : A = none → c = 0) (hlg : lgT t = false) (hmal : malT t = false) (hst : stB t.vars s = true) (hlt : k < t.ops.length) :
  Calls Tryz.prog 95 #[TaskV t p, .slice A s.length c, .int .i64 k] w fun e w' => (∃ v, e = .returned (.tuple #[v, .bool (hoB (opr t.ops k).pre s)]) ∧ GotInts w' v (if hoB (opr t.ops k).pre s then nxt t s k else [])) ∧ Below w.heap.size w w' := by
 cases e4 : hoB (opr t.ops k).pre s
 ·exact (bapply_no t p s A c k w ht hs hlt e4).mono fun e w' ⟨he, hb⟩ => ⟨⟨_, he, got_nil w'⟩, hb⟩
 ·cases A with
  | none =>
   have h0 : s = [] := by
    rcases Nat.eq_zero_or_pos s.length with h | h
    ·exact List.length_eq_zero_iff.1 h
    ·obtain ⟨b, off, e2, _⟩ := hs.2 h; cases e2
   subst h0
   obtain rfl := hc rfl
   refine (bapply_none t p k w ht hmal hst hlt e4).mono fun e w' ⟨⟨v, he, ho⟩, hb⟩ => ⟨⟨v, he, ?_⟩, hb⟩
   have hn : nxt t [] k = [] := List.length_eq_zero_iff.1 (nxt_len t [] k)
   simp only [hn, ite_true]
   exact own_got (l := []) ho (by simp)
  | some ad =>
   refine (bapply_some t p s ad c k w ht hs hlg hmal hst hlt e4).mono fun e w' ⟨⟨v, he, ho⟩, hb⟩ => ⟨⟨v, he, ?_⟩, hb⟩
   simp only [ite_true]
   exact own_got (by rw [nxt_len]; exact ho) (by rw [nxt_len]; exact hs.len)
end

section
open Go.RowKit
set_option linter.unusedVariables false

theorem chk0 {t : Tsk} (h : chkC t = 0) : lgT t = false ∧ outT t = false ∧ malT t = false ∧ misT t = false := by
 unfold chkC at h
 cases e1 : lgT t <;> cases e2 : outT t <;> cases e3 : malT t <;> cases e4 : misT t <;> simp_all
/-- The number of Apply's error. -/
def rapC (t : Tsk) (s : List Int) (op : Int) : Int := if chkC t = 0 then apC t s op else chkC t
def rapL (t : Tsk) (s : List Int) (op : Int) : List Int := if rapC t s op = 0 then nxt t s op.toNat else []
/-- What Apply returns. -/
def RapRet (t : Tsk) (s : List Int) (op : Int) (e : Ending) (w' : World) : Prop := ∃ v, e = .returned (.tuple #[v, .int .i64 (rapC t s op)]) ∧ GotInts w' v (rapL t s op)
def TapRet (t : Tsk) (s : List Int) (op : Int) (e : Ending) (w' : World) : Prop := ∃ v, e = .returned (.tuple #[v, erV (rapC t s op)]) ∧ GotInts w' v (rapL t s op)
theorem rap_err {t : Tsk} {s : List Int} {op c : Int} {w' : World} (hc : rapC t s op = c) (h0 : c ≠ 0) : RapRet t s op (.returned (.tuple #[.slice none 0 0, .int .i64 c])) w' :=
 ⟨_, by rw [hc], by unfold rapL; rw [hc, if_neg h0]; exact got_nil w'⟩

end

section
open Go.RowKit
set_option linter.unusedVariables false

theorem fa_lt {vars : List Int} {f : List (Int × Int)} (h : FaP vars f) : ∀ k, k < f.length → (k : Int) ≤ fv f k
 | 0, hk => by have := (h 0 hk).1; omega
 | k + 1, hk => by
  have h1 := fa_lt h k (by omega)
  have h2 := (h (k + 1) hk).2.2.2.2 (by omega)
  simp only [Nat.add_sub_cancel] at h2
  omega
theorem fa_len {vars : List Int} {f : List (Int × Int)} (h : faB vars f = true) : f.length ≤ vars.length := by
 unfold faB at h
 simp only [decide_eq_true_eq] at h
 rcases Nat.eq_zero_or_pos f.length with h0 | h0
 ·omega
 ·have h1 := fa_lt h (f.length - 1) (by omega)
  have h2 := (h (f.length - 1) (by omega)).2.1
  omega
/-- An operator that is right. -/
def goO (vars : List Int) (o : Opr) : Bool :=
 (((!decide (o.cost < 0) && !decide (1048576 < o.cost)) && !decide ((64 : Int) < o.effs.length)) && !decide ((256 : Int) < o.name.size)) && (faB vars o.pre && (!anyB o.name.size (bad o.name) && !anyB o.effs.length fun k => malE vars (eff o.effs k)))
def goT (t : Tsk) : Bool := (!decide ((64 : Int) < t.vars.length) && !decide ((4096 : Int) < t.ops.length)) && ((!anyB t.vars.length fun k => decide (nth t.vars k < 1) || decide (64 < nth t.vars k)) && ((stB t.vars t.init && faB t.vars t.goal) && !anyB t.ops.length fun k => !goO t.vars (opr t.ops k)))
theorem goT_chk (t : Tsk) : goT t = true ↔ chkC t = 0 := by
 constructor
 ·intro h
  unfold goT at h
  simp only [Bool.and_eq_true, Bool.not_eq_true', decide_eq_false_iff_not, anyB_false, Bool.or_eq_false_iff, Bool.not_eq_false'] at h
  obtain ⟨⟨h1, h2⟩, h3, ⟨h4, h5⟩, h6⟩ := h
  have ho : ∀ k, k < t.ops.length → (¬ (opr t.ops k).cost < 0 ∧ ¬ 1048576 < (opr t.ops k).cost) ∧ ¬ (64 : Int) < (opr t.ops k).effs.length ∧ ¬ (256 : Int) < (opr t.ops k).name.size ∧ faB t.vars (opr t.ops k).pre = true ∧ (∀ j, j < (opr t.ops k).name.size → bad (opr t.ops k).name j = false) ∧ ∀ j, j < (opr t.ops k).effs.length → malE t.vars (eff (opr t.ops k).effs j) = false := by
   intro k hk
   have := h6 k hk
   unfold goO at this
   simp only [Bool.and_eq_true, Bool.not_eq_true', decide_eq_false_iff_not, anyB_false] at this
   obtain ⟨⟨⟨⟨a, b⟩, c⟩, d⟩, e, f, g⟩ := this
   exact ⟨⟨a, b⟩, c, d, e, f, g⟩
  have hw : ∀ k, k < t.ops.length → ∀ j, j < (opr t.ops k).effs.length → faB t.vars (eff (opr t.ops k).effs j).whn = true := by
   intro k hk j hj
   have := (ho k hk).2.2.2.2.2 j hj
   unfold malE at this
   simp only [Bool.or_eq_false_iff, Bool.not_eq_false'] at this
   exact this.1
  have e1 : lgT t = false := by
   unfold lgT
   simp only [Bool.or_eq_false_iff, decide_eq_false_iff_not, anyB_false]
   refine ⟨⟨⟨h1, h2⟩, ?_⟩, fun k hk => ?_⟩
   ·have := fa_len h5; omega
   ·unfold lgO
    simp only [Bool.or_eq_false_iff, decide_eq_false_iff_not, anyB_false]
    refine ⟨⟨?_, (ho k hk).2.1⟩, fun j hj => ?_⟩
    ·have := fa_len (ho k hk).2.2.2.1; omega
    ·have := fa_len (hw k hk j hj); omega
  have e2 : outT t = false := by
   unfold outT
   simp only [Bool.or_eq_false_iff, decide_eq_false_iff_not, anyB_false]
   exact ⟨fun k hk => h3 k hk, fun k hk => (ho k hk).1⟩
  have e3 : malT t = false := by
   unfold malT
   simp only [Bool.or_eq_false_iff, Bool.not_eq_false', anyB_false]
   refine ⟨⟨h4, h5⟩, fun k hk => ?_⟩
   unfold malO
   simp only [Bool.or_eq_false_iff, Bool.not_eq_false', anyB_false]
   exact ⟨(ho k hk).2.2.2.1, (ho k hk).2.2.2.2.2⟩
  have e4 : misT t = false := by
   unfold misT
   simp only [anyB_false]
   intro k hk
   unfold misO
   simp only [Bool.or_eq_false_iff, decide_eq_false_iff_not, anyB_false]
   exact ⟨(ho k hk).2.2.1, (ho k hk).2.2.2.2.1⟩
  unfold chkC
  simp [e1, e2, e3, e4]
 ·intro h
  obtain ⟨e1, e2, e3, e4⟩ := chk0 h
  unfold lgT at e1
  simp only [Bool.or_eq_false_iff, decide_eq_false_iff_not, anyB_false] at e1
  unfold outT at e2
  simp only [Bool.or_eq_false_iff, decide_eq_false_iff_not, anyB_false] at e2
  unfold malT at e3
  simp only [Bool.or_eq_false_iff, Bool.not_eq_false', anyB_false] at e3
  unfold misT at e4
  simp only [anyB_false] at e4
  unfold goT
  simp only [Bool.and_eq_true, Bool.not_eq_true', decide_eq_false_iff_not, anyB_false, Bool.or_eq_false_iff, Bool.not_eq_false']
  refine ⟨⟨e1.1.1.1, e1.1.1.2⟩, fun k hk => e2.1 k hk, e3.1, fun k hk => ?_⟩
  have a := e1.2 k hk
  unfold lgO at a
  simp only [Bool.or_eq_false_iff, decide_eq_false_iff_not, anyB_false] at a
  have b := e2.2 k hk
  have c := e3.2 k hk
  unfold malO at c
  simp only [Bool.or_eq_false_iff, Bool.not_eq_false', anyB_false] at c
  have d := e4 k hk
  unfold misO at d
  simp only [Bool.or_eq_false_iff, decide_eq_false_iff_not, anyB_false] at d
  unfold goO
  simp only [Bool.and_eq_true, Bool.not_eq_true', decide_eq_false_iff_not, anyB_false]
  exact ⟨⟨⟨b, a.1.2⟩, d.1⟩, c.1, d.2, c.2⟩

/-- What a right task is. -/
structure Right (t : Tsk) : Prop where
 nv : t.vars.length ≤ 64
 no : t.ops.length ≤ 4096
 ng : t.goal.length ≤ 64
 dom : ∀ k, k < t.vars.length → 1 ≤ nth t.vars k ∧ nth t.vars k ≤ 64
 init : stB t.vars t.init = true
 goal : faB t.vars t.goal = true
 np : ∀ k, k < t.ops.length → (opr t.ops k).pre.length ≤ 64
 ne : ∀ k, k < t.ops.length → (opr t.ops k).effs.length ≤ 64
 nw : ∀ k, k < t.ops.length → ∀ j, j < (opr t.ops k).effs.length → (eff (opr t.ops k).effs j).whn.length ≤ 64
 cost : ∀ k, k < t.ops.length → 0 ≤ (opr t.ops k).cost ∧ (opr t.ops k).cost ≤ 1048576
 pre : ∀ k, k < t.ops.length → faB t.vars (opr t.ops k).pre = true
 whn : ∀ k, k < t.ops.length → ∀ j, j < (opr t.ops k).effs.length → faB t.vars (eff (opr t.ops k).effs j).whn = true
 eff : ∀ k, k < t.ops.length → ∀ j, j < (opr t.ops k).effs.length → 0 ≤ (eff (opr t.ops k).effs j).var ∧ (eff (opr t.ops k).effs j).var < t.vars.length ∧ 0 ≤ (eff (opr t.ops k).effs j).val ∧ (eff (opr t.ops k).effs j).val < nth t.vars (eff (opr t.ops k).effs j).var.toNat
theorem right_of {t : Tsk} (h : chkC t = 0) : Right t := by
 obtain ⟨e1, e2, e3, e4⟩ := chk0 h
 unfold lgT at e1
 simp only [Bool.or_eq_false_iff, decide_eq_false_iff_not, anyB_false] at e1
 have a : ∀ k, k < t.ops.length → _ := fun k hk => by
  have := e1.2 k hk
  unfold lgO at this
  simp only [Bool.or_eq_false_iff, decide_eq_false_iff_not, anyB_false] at this
  exact this
 unfold outT at e2
 simp only [Bool.or_eq_false_iff, decide_eq_false_iff_not, anyB_false] at e2
 unfold malT at e3
 simp only [Bool.or_eq_false_iff, Bool.not_eq_false', anyB_false] at e3
 have c : ∀ k, k < t.ops.length → _ := fun k hk => by
  have := e3.2 k hk
  unfold malO at this
  simp only [Bool.or_eq_false_iff, Bool.not_eq_false', anyB_false] at this
  exact this
 have m : ∀ k, k < t.ops.length → ∀ j, j < (opr t.ops k).effs.length → _ := fun k hk j hj => by
  have := (c k hk).2 j hj
  unfold malE at this
  simp only [Bool.or_eq_false_iff, Bool.not_eq_false'] at this
  exact this
 refine ⟨by omega, by omega, by omega, fun k hk => by have := e2.1 k hk; omega, e3.1.1, e3.1.2, fun k hk => by have := (a k hk).1.1; omega, fun k hk => by have := (a k hk).1.2; omega, fun k hk j hj => by have := (a k hk).2 j hj; omega, fun k hk => by have := e2.2 k hk; omega, fun k hk => (c k hk).1, fun k hk j hj => (m k hk j hj).1, fun k hk j hj => ?_⟩
 have h1 := (m k hk j hj).2
 unfold faB at h1
 simp only [decide_eq_true_eq] at h1
 have h2 := h1 0 (by simp)
 exact ⟨h2.1, h2.2.1, h2.2.2.1, h2.2.2.2.1⟩
/-- The facts of a proper list. -/
theorem fa_at {vars : List Int} {f : List (Int × Int)} (h : faB vars f = true) {k : Nat} (hk : k < f.length) : 0 ≤ fv f k ∧ fv f k < vars.length ∧ 0 ≤ fx f k ∧ fx f k < nth vars (fv f k).toNat := by
 unfold faB at h
 simp only [decide_eq_true_eq] at h
 have := h k hk
 exact ⟨this.1, this.2.1, this.2.2.1, this.2.2.2.1⟩
end

end Go.Proofs.YtlkebhiaimijiaaGreatDoor
