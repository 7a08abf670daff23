/- The reference's Connected. -/
import Derived.Test.YtdkighaddldmcaaConP
import Derived.Test.YtdkighaddldmcaaCauS
import Derived.Test.YtdkighaddldmcaaConA
namespace Go.Proofs.Ytdkighaddldmcaa
set_option linter.unusedSimpArgs false
set_option linter.unusedVariables false
open Go Go.RowKit
set_option linter.unusedVariables false

theorem pa_len {n : Nat} {P : List Int} (hp : PaP n P) (hn : n ≤ 64) : P.length ≤ 64 := by
  have hl : ∀ k, k < P.length → (k : Int) ≤ nth P k := fun k => by
    induction k with
    | zero => intro h; exact (hp 0 h).1
    | succ k ih => intro h; have h1 := ih (by omega); have h2 := (hp (k + 1) h).2.2 (by omega); rw [Nat.add_sub_cancel] at h2; omega
  rcases Nat.eq_zero_or_pos P.length with h | h
  · omega
  · have := hl (P.length - 1) (by omega); have := (hp (P.length - 1) (by omega)).2.1; omega
/-- What holds while the marks spread. -/
structure FxC (t : Tsk) (P : List Int) (f : Nat → Bool) (n : Nat) : Prop where
  d : f 0 = true
  c : ∀ j, j < P.length → f j = true → CRel t P j
  n : n + cntF f P.length = P.length
theorem fc_start {t : Tsk} {P : List Int} (h : 0 < P.length) : FxC t P (fun j => j == 0) 1 :=
  ⟨rfl, fun j hj h => by simp at h; rw [h]; exact .zero, by
    obtain ⟨m, hm⟩ : ∃ m, P.length = m + 1 := ⟨P.length - 1, by omega⟩
    rw [hm, cntF_one]; omega⟩
theorem fc_mark {t : Tsk} {P : List Int} {f : Nat → Bool} {n i j : Nat} (h : FxC t P f n) (hi : i < P.length) (hj : j < P.length) (hf : f i = true) (hj2 : f j = false) (ha : adB t P i j = true) : FxC t P (setF f j) (n + 1) :=
  ⟨by unfold setF; split <;> simp [h.d], fun k hk hfk => by
    by_cases e : k = j
    · subst e; exact .step (h.c i hi hf) hi hj ha
    · exact h.c k hk (by unfold setF at hfk; rwa [if_neg e] at hfk), by have := cntF_set hj2 hj; have := h.n; omega⟩

set_option maxRecDepth 100000 in
set_option maxHeartbeats 16000000 in
theorem rconn_any (t : Tsk) (p : Lies) (P : List Int) (A : Option Addr) (c : Nat) (w : World) (ht : TaskAt w w.heap.size t p) (hP : IntsAt w w.heap.size A P) (hp : PaP t.vars.length P) (n64 : t.vars.length ≤ 64) :
    Calls Try.prog 15 #[TaskV t p, .slice A P.length c] w fun e w' => e = .returned (.bool (conB t P)) ∧ Below w.heap.size w w' := by
  have k3 := fun w1 u v (hb : Below w.heap.size w w1) => rarc_any t p u v w1 (ht.up hb)
  have hpl := pa_len hp n64
  obtain ⟨av, ai, ag, ao, cv, ci, cg, co⟩ := p
  unfold TaskV at *
  dsimp only at *
  have K3 := Lib.hid k3
  clear k3
  by_cases h0 : P.length = 0
  · have hc : conB t P = true := by unfold conB; simp only [decide_eq_true_eq]; intro j hj; omega
    have e0 : ((P.length : Int) == 0) = true := by simp [h0]
    have Hc := Lib.hid hc
    clear hc h0 hp hpl
    go_enter Try.func15, Try.ntmps15
    go_wp2
    go_ret
    exact ⟨bool_ret Hc.out.symm, by repeat (first | exact Below.refl _ _ | refine below_dN ?_ _ | refine Below.drew ?_ | refine Below.alloc ?_ (by first | omega | (simp; done) | (simp; omega)) _ | refine Below.setCell ?_ (by first | omega | (simp; done) | (simp; omega)) _ | refine below_step (by assumption) (by first | omega | (simp; done) | (simp; omega)) ?_)⟩
  have e0 : ((P.length : Int) == 0) = false := beq_eq_false_iff_ne.2 (by omega)
  have u0 : (0 : Int) < (P.length : Int) := by omega
  have h00 : 0 < P.length := by omega
  have hmk := run_make_row' (P := Try.prog) 31 4 (.bool false) 1 undB infoB rfl .i64 .i64 P.length (by omega) (by omega)
  have HF := Lib.hid (fc_start (t := t) h00)
  have Hfr := Lib.hid (World.rowIs_made (w.alloc (.cells #[.slice av t.vars.length cv, .slice ai t.init.length ci, .slice ag t.goal.length cg, .slice ao t.ops.length co] 26)) (.bool false) P.length 4)
  have m0 := Hfr.out.cell h00
  have m1 := Hfr.out.frozen 0
  have hc0 := cntF_le (fun j => j == 0) P.length
  simp only [World.size_alloc] at m0 m1
  clear h0
  go_enter Try.func15, Try.ntmps15
  go_wp2
  clear hmk m0 m1
  have hrow0 : (((w.alloc (.cells #[.slice av t.vars.length cv, .slice ai t.init.length ci, .slice ag t.goal.length cg, .slice ao t.ops.length co] 26)).alloc (.cells (madeCells #[.bool false] P.length) 4)).setCell ⟨w.heap.size + 1, 0, none⟩ (.bool true)).rowIs (w.heap.size + 1) 4 P.length (fun j => .bool (j == 0)) := by
    have h1 := Hfr.out
    simp only [World.size_alloc] at h1
    exact (h1.set 0 (.bool true)).congr fun j _ => by by_cases e : j = 0 <;> simp [e]
  go_loopg [6, 7] (2 * cntF (fun j => j == 0) P.length + 1) (fun gg v6 v7 wr => ∃ (f : Nat → Bool) (n : Nat) (ch : Bool), gg = 2 * cntF f P.length + chN ch ∧ v6 = .int .i64 n ∧ v7 = .bool ch ∧ wr.rowIs (w.heap.size + 1) 4 P.length (fun j => .bool (f j)) ∧ Hid (FxC t P f n) ∧ Hid (ch = false → ∀ i j, i < P.length → j < P.length → f i = true → adB t P i j = true → f j = true) ∧ Boxed wr w.heap.size t ⟨av, ai, ag, ao, cv, ci, cg, co⟩ ∧ Below w.heap.size w wr)
  case atStart => exact ⟨fun j => j == 0, 1, true, rfl, rfl, rfl, (by first | exact hrow0 | (simpa [go_sem] using hrow0)), HF, Lib.hid (fun h => by cases h), (show Boxed (w.alloc (.cells #[.slice av t.vars.length cv, .slice ai t.init.length ci, .slice ag t.goal.length cg, .slice ao t.ops.length co] 26)) w.heap.size t ⟨av, ai, ag, ao, cv, ci, cg, co⟩ by constructor <;> simp).up (by repeat (first | exact Below.refl _ _ | refine below_dN ?_ _ | refine Below.drew ?_ | refine Below.alloc ?_ (by first | omega | (simp; done) | (simp; omega)) _ | refine Below.setCell ?_ (by first | omega | (simp; done) | (simp; omega)) _ | refine below_step (by assumption) (by first | omega | (simp; done) | (simp; omega)) ?_)), by repeat (first | exact Below.refl _ _ | refine below_dN ?_ _ | refine Below.drew ?_ | refine Below.alloc ?_ (by first | omega | (simp; done) | (simp; omega)) _ | refine Below.setCell ?_ (by first | omega | (simp; done) | (simp; omega)) _ | refine below_step (by assumption) (by first | omega | (simp; done) | (simp; omega)) ?_)⟩
  case round =>
    clear hrow0 hc0
    obtain ⟨f, n, ch, hgk, rfl, rfl, hrow, hfc, hcl, hbox, hbel⟩ := hrel
    have Hgk := Lib.hid hgk
    clear hgk
    cases ch
    · have he := cn_all hfc.out.d hfc.out.c (hcl.out rfl)
      have hdec : ((n : Int) == (P.length : Int)) = conB t P := by
        rw [he, Bool.eq_iff_iff]
        have := hfc.out.n
        simp only [beq_iff_eq, decide_eq_true_eq]; omega
      have Hdec := Lib.hid hdec
      clear he hdec
      go_wp2
      go_ret
      exact ⟨bool_ret Hdec.out, hbel⟩
    · go_wp2
      go_loopw [6, 7, 23] (fun v6 v7 i wr => ∃ (k : Nat) (f' : Nat → Bool) (n' : Nat) (ch : Bool), k ≤ P.length ∧ i = .int .i64 k ∧ v6 = .int .i64 n' ∧ v7 = .bool ch ∧ wr.rowIs (w.heap.size + 1) 4 P.length (fun j => .bool (f' j)) ∧ Hid (FxC t P f' n') ∧ Hid (ch = false → ∀ i j, i < k → j < P.length → f' i = true → adB t P i j = true → f' j = true) ∧ cntF f' P.length ≤ cntF f P.length ∧ Hid (ch = true → cntF f' P.length < cntF f P.length) ∧ Boxed wr w.heap.size t ⟨av, ai, ag, ao, cv, ci, cg, co⟩ ∧ Below w.heap.size w wr) (fun _ _ i _ => P.length - (intOf i).toNat)
      case atStart => exact ⟨0, f, n, false, by omega, rfl, rfl, rfl, hrow, hfc, Lib.hid (fun _ i j hi => absurd hi (by omega)), Nat.le_refl _, Lib.hid (fun h => by cases h), hbox, hbel⟩
      case round =>
        clear hrow hfc hcl hbox hbel
        obtain ⟨k, f', n', ch, hk, rfl, rfl, rfl, hrow, hfc, hcl, hcn, hcs, hbox, hbel⟩ := hrel
        by_cases hkm : k < P.length
        · obtain ⟨b, o, ea, hb, d1⟩ := hP.atI hbel hkm
          subst ea
          have hpk := hp k hkm
          obtain ⟨pu, hpu⟩ : ∃ pu : Nat, nth P k = (pu : Int) := ⟨(nth P k).toNat, by omega⟩
          rw [hpu] at d1
          have hbz := hbel.size
          have gb : b < wr.heap.size := by omega
          have x0 : (0 : Int) ≤ (k : Int) := by omega
          have x1 : (k : Int) < (P.length : Int) := by omega
          go_wp2
          go_loopw [6, 7, 30] (fun v6 v7 i wr => ∃ (j0 : Nat) (f' : Nat → Bool) (n' : Nat) (ch : Bool), j0 ≤ P.length ∧ i = .int .i64 j0 ∧ v6 = .int .i64 n' ∧ v7 = .bool ch ∧ wr.rowIs (w.heap.size + 1) 4 P.length (fun j => .bool (f' j)) ∧ Hid (FxC t P f' n') ∧ Hid (ch = false → (∀ i j, i < k → j < P.length → f' i = true → adB t P i j = true → f' j = true) ∧ ∀ j, j < j0 → f' k = true → adB t P k j = true → f' j = true) ∧ cntF f' P.length ≤ cntF f P.length ∧ Hid (ch = true → cntF f' P.length < cntF f P.length) ∧ Boxed wr w.heap.size t ⟨av, ai, ag, ao, cv, ci, cg, co⟩ ∧ Below w.heap.size w wr) (fun _ _ i _ => P.length - (intOf i).toNat)
          case atStart => exact ⟨0, f', n', ch, by omega, rfl, rfl, rfl, hrow, hfc, Lib.hid (fun h => ⟨hcl.out h, fun j hj => absurd hj (by omega)⟩), hcn, hcs, hbox, hbel⟩
          case round =>
            clear hrow hfc hcl hbox hbel hcn hcs gb d1 hbz
            obtain ⟨j0, f', n', ch, hj, rfl, rfl, rfl, hrow, hfc, hcl, hcn, hcs, hbox, hbel⟩ := hrel
            obtain ⟨wu, rfl⟩ : ∃ wu : World, wu = wr := ⟨_, rfl⟩
            by_cases hlt3 : j0 < P.length
            · obtain ⟨b', o', ea, hb', d2⟩ := hP.atI hbel hlt3
              cases ea
              have hpj0 := hp j0 hlt3
              obtain ⟨pj, hpj⟩ : ∃ pj : Nat, nth P j0 = (pj : Int) := ⟨(nth P j0).toNat, by omega⟩
              rw [hpj] at d2
              have HAD := Lib.hid (show adB t P k j0 = (arB t pu pj || arB t pj pu) by unfold adB pv; rw [hpu, hpj]; rfl)
              have hbz := hbel.size
              have gb : b < wu.heap.size := by omega
              have x2 : (0 : Int) ≤ (j0 : Int) := by omega
              have x3 : (j0 : Int) < (P.length : Int) := by omega
              have r1 := hrow.cell hkm
              have r2 := hrow.cell hlt3
              have r0 := hrow.lt
              obtain ⟨z0, y0, y1, y2, y3⟩ := id hbox
              dsimp only at y0 y1 y2 y3
              clear hpj hpj0
              cases f1 : f' k
              · rw [f1] at r1
                go_wp2
                go_roundw
                case rel => exact ⟨j0 + 1, f', n', ch, by omega, by go_num, rfl, rfl, hrow, hfc, Lib.hid (fun hc => ⟨((hcl.out hc).1), fun j hj hf ha => by
                  rcases Nat.lt_succ_iff_lt_or_eq.1 hj with h | rfl
                  · exact (hcl.out hc).2 j h hf ha
                  · rw [f1] at hf; cases hf⟩), hcn, hcs, hbox, hbel⟩
                case measure => simp [intOf]; omega
              · rw [f1] at r1
                cases f2 : f' j0
                · rw [f2] at r2
                  cases a1 : arB t pu pj
                  · have k5 := fun w1 => K3.out w1 pu pj
                    rw [a1] at k5
                    go_wp2_with fail
                    refine (k5 _ hbel).mono ?_
                    rintro e w5 ⟨rfl, hb5⟩
                    have hrow5 := row_up hrow hb5
                    have hbox5 := hbox.up hb5
                    have hbel5 := hbel.trans (hb5.mono (hbel).size)
                    clear z0 y0 y1 y2 y3 r1 r2
                    obtain ⟨z0, y0, y1, y2, y3⟩ := id hbox5
                    dsimp only at y0 y1 y2 y3
                    have r1 := hrow5.cell hkm
                    have r2 := hrow5.cell hlt3
                    rw [f1] at r1
                    rw [f2] at r2
                    cases a2 : arB t pj pu
                    · have k6 := fun w1 => K3.out w1 pj pu
                      rw [a2] at k6
                      go_wp2_with fail
                      refine (k6 _ hbel5).mono ?_
                      rintro e w6 ⟨rfl, hb6⟩
                      have hrow6 := row_up hrow5 hb6
                      have hbox6 := hbox5.up hb6
                      have hbel6 := hbel5.trans (hb6.mono (hbel5).size)
                      clear z0 y0 y1 y2 y3 r1 r2
                      obtain ⟨z0, y0, y1, y2, y3⟩ := id hbox6
                      dsimp only at y0 y1 y2 y3
                      have r1 := hrow6.cell hkm
                      have r2 := hrow6.cell hlt3
                      rw [f1] at r1
                      rw [f2] at r2
                      go_wp2
                      go_roundw
                      case rel => exact ⟨j0 + 1, f', n', ch, by omega, by go_num, rfl, rfl, hrow6, hfc, Lib.hid (fun hc => ⟨((hcl.out hc).1), fun j hj hf ha => by
                        rcases Nat.lt_succ_iff_lt_or_eq.1 hj with h | rfl
                        · exact (hcl.out hc).2 j h hf ha
                        · rw [HAD.out, a1, a2] at ha; cases ha⟩), hcn, hcs, hbox6, hbel6⟩
                      case measure => simp [intOf]; omega
                    · have k6 := fun w1 => K3.out w1 pj pu
                      rw [a2] at k6
                      go_wp2_with fail
                      refine (k6 _ hbel5).mono ?_
                      rintro e w6 ⟨rfl, hb6⟩
                      have hrow6 := row_up hrow5 hb6
                      have hbox6 := hbox5.up hb6
                      have hbel6 := hbel5.trans (hb6.mono (hbel5).size)
                      clear z0 y0 y1 y2 y3 r1 r2
                      obtain ⟨z0, y0, y1, y2, y3⟩ := id hbox6
                      dsimp only at y0 y1 y2 y3
                      have r1 := hrow6.cell hkm
                      have r2 := hrow6.cell hlt3
                      rw [f1] at r1
                      rw [f2] at r2
                      have Hm := Lib.hid (fc_mark hfc.out hkm hlt3 f1 f2 (by rw [HAD.out]; simp [a2]))
                      have hcc := cntF_set f2 hlt3
                      have r3 := hrow6.frozen j0
                      have hrl := hrow6.lt
                      have Hrow2 := Lib.hid (row_mark hrow6 j0)
                      have hnn : n' ≤ P.length := by have := hfc.out.n; omega
                      go_wp2
                      go_roundw
                      case rel => exact ⟨j0 + 1, setF f' j0, n' + 1, true, by omega, by go_num, by go_num, rfl, Hrow2.out, Hm, Lib.hid (fun h => by cases h), by omega, Lib.hid (fun _ => by omega), hbox6.far _ (by show w.heap.size ≠ w.heap.size + 1; omega), hbel6.setCell (p := ⟨w.heap.size + 1, j0, none⟩) (Nat.le_succ _) _⟩
                      case measure => simp [intOf]; omega
                  · have k5 := fun w1 => K3.out w1 pu pj
                    rw [a1] at k5
                    go_wp2_with fail
                    refine (k5 _ hbel).mono ?_
                    rintro e w5 ⟨rfl, hb5⟩
                    have hrow5 := row_up hrow hb5
                    have hbox5 := hbox.up hb5
                    have hbel5 := hbel.trans (hb5.mono (hbel).size)
                    clear z0 y0 y1 y2 y3 r1 r2
                    obtain ⟨z0, y0, y1, y2, y3⟩ := id hbox5
                    dsimp only at y0 y1 y2 y3
                    have r1 := hrow5.cell hkm
                    have r2 := hrow5.cell hlt3
                    rw [f1] at r1
                    rw [f2] at r2
                    have Hm := Lib.hid (fc_mark hfc.out hkm hlt3 f1 f2 (by rw [HAD.out]; simp [a1]))
                    have hcc := cntF_set f2 hlt3
                    have r3 := hrow5.frozen j0
                    have hrl := hrow5.lt
                    have Hrow2 := Lib.hid (row_mark hrow5 j0)
                    have hnn : n' ≤ P.length := by have := hfc.out.n; omega
                    go_wp2
                    go_roundw
                    case rel => exact ⟨j0 + 1, setF f' j0, n' + 1, true, by omega, by go_num, by go_num, rfl, Hrow2.out, Hm, Lib.hid (fun h => by cases h), by omega, Lib.hid (fun _ => by omega), hbox5.far _ (by show w.heap.size ≠ w.heap.size + 1; omega), hbel5.setCell (p := ⟨w.heap.size + 1, j0, none⟩) (Nat.le_succ _) _⟩
                    case measure => simp [intOf]; omega
                · rw [f2] at r2
                  go_wp2
                  go_roundw
                  case rel => exact ⟨j0 + 1, f', n', ch, by omega, by go_num, rfl, rfl, hrow, hfc, Lib.hid (fun hc => ⟨((hcl.out hc).1), fun j hj hf ha => by
                    rcases Nat.lt_succ_iff_lt_or_eq.1 hj with h | rfl
                    · exact (hcl.out hc).2 j h hf ha
                    · exact f2⟩), hcn, hcs, hbox, hbel⟩
                  case measure => simp [intOf]; omega
            · obtain rfl : j0 = P.length := by omega
              have Hn := Lib.hid (show ch = false → ∀ i j, i < k + 1 → j < P.length → f' i = true → adB t P i j = true → f' j = true from fun h i j hi hj hf ha => by
                rcases Nat.lt_succ_iff_lt_or_eq.1 hi with h1 | rfl
                · exact (hcl.out h).1 i j h1 hj hf ha
                · exact (hcl.out h).2 j hj hf ha)
              go_wp2
              go_roundw
              case rel => exact ⟨k + 1, f', n', ch, by omega, by go_num, rfl, rfl, hrow, hfc, Hn, hcn, hcs, hbox, hbel⟩
              case measure => simp [intOf]; omega
        · obtain rfl : k = P.length := by omega
          have Hg := Lib.hid (show 2 * cntF f' P.length + chN ch < gk by
            have h1 := Hgk.out
            have h2 := hcs.out
            unfold chN at *
            cases ch
            · simp at h1 ⊢; omega
            · have := h2 rfl; simp at h1 ⊢; omega)
          go_wp2
          go_roundg (2 * cntF f' P.length + chN ch)
          case measure => exact Hg.out
          case rel => exact ⟨f', n', ch, rfl, rfl, rfl, hrow, hfc, hcl, hbox, hbel⟩

end Go.Proofs.Ytdkighaddldmcaa
