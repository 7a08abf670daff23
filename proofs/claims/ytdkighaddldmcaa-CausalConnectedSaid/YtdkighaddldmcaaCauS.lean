/- The reference's Relevant. -/
import Derived.Test.YtdkighaddldmcaaCauC
import Derived.Test.YtdkighaddldmcaaCauR
namespace Go.Proofs.Ytdkighaddldmcaa
set_option linter.unusedSimpArgs false
set_option linter.unusedVariables false
open Go.RowKit
set_option linter.unusedVariables false

theorem arc_mem {t : Tsk} {k : Nat} (hk : k < (arcs t).length) : (arc (arcs t) k).1 < t.vars.length ∧ (arc (arcs t) k).2 < t.vars.length ∧ arB t (arc (arcs t) k).1 (arc (arcs t) k).2 = true := by
  have h : arc (arcs t) k ∈ arcs t := by unfold arc; simp [List.getD, List.getElem?_eq_getElem hk]
  exact arL_mem.1 h
/-- What holds while the marks spread. -/
structure FxI (t : Tsk) (f : Nat → Bool) : Prop where
  b : ∀ k, k < t.goal.length → ∃ v : Nat, fv t.goal k = (v : Int) ∧ f v = true
  c : ∀ v, v < t.vars.length → f v = true → Rel t v
theorem fx_start {t : Tsk} (hr : Right t) : FxI t (fun v => goN t v t.goal.length) := ⟨(bf_start hr).b, (bf_start hr).c⟩
theorem fx_mark {t : Tsk} {f : Nat → Bool} (h : FxI t f) {u v : Nat} (hu : u < t.vars.length) (hv : v < t.vars.length) (hf : f v = true) (ha : arB t u v = true) : FxI t (setF f u) :=
  ⟨fun k hk => by
    obtain ⟨w, e, h1⟩ := h.b k hk
    exact ⟨w, e, by unfold setF; split <;> simp [h1]⟩, fun w hw h1 => by
    unfold setF at h1
    split at h1
    · rename_i e; rw [e]; exact Rel.step (h.c v hv hf) hu hv ha
    · exact h.c w hw h1⟩
theorem fx_end {t : Tsk} {f : Nat → Bool} (h : FxI t f) (hc : ∀ i, i < (arcs t).length → f (arc (arcs t) i).2 = true → f (arc (arcs t) i).1 = true) : ∀ v, v < t.vars.length → f v = relB t v :=
  rel_eq h.b (fun u v hu hv hf ha => by
    have hm : (u, v) ∈ arcs t := arL_mem.2 ⟨hu, hv, ha⟩
    obtain ⟨i, hi, e⟩ := List.mem_iff_getElem.1 hm
    have e2 : arc (arcs t) i = (u, v) := by unfold arc; simp [List.getD, List.getElem?_eq_getElem hi, e]
    have := hc i hi
    rw [e2] at this
    exact this hf) h.c
def RelSl (t : Tsk) (w : World) (e : Ending) (w' : World) : Prop :=
  ∃ g, e = .returned (.slice (some ⟨g, 0, none⟩) t.vars.length t.vars.length) ∧ w'.rowIs g 4 t.vars.length (fun v => .bool (relB t v)) ∧ w.heap.size ≤ g
def chN (c : Bool) : Nat := if c then 1 else 0

set_option maxRecDepth 100000 in
set_option maxHeartbeats 16000000 in
theorem rrelevant_any (t : Tsk) (p : Lies) (w : World) (ht : TaskAt w w.heap.size t p) (hr : Right t) :
    Calls Try.prog 12 #[TaskV t p] w fun e w' => RelSl t w e w' ∧ Below w.heap.size w w' := by
  have n64 := hr.nv
  have g64 := hr.ng
  have HR := Lib.hid hr
  have k3 := fun w1 (hb : Below w.heap.size w w1) => rarcs_any t p w1 (ht.up hb) n64
  have harc := fun k (hk : k < (arcs t).length) => arc_mem hk
  have hfx : ∀ (f : Nat → Bool), FxI t f → (∀ i, i < (arcs t).length → f (arc (arcs t) i).2 = true → f (arc (arcs t) i).1 = true) → ∀ v, v < t.vars.length → f v = relB t v := fun f h hc => fx_end h hc
  have hl : (arcs t).length ≤ 10000 := by have := arK_len (t := t) (u := t.vars.length) (v := 0) n64 n64 (by omega); rw [arK_zero] at this; exact this
  generalize arcs t = L at *
  obtain ⟨av, ai, ag, ao, cv, ci, cg, co⟩ := p
  unfold TaskV at *
  dsimp only at *
  have Harc := Lib.hid harc
  have Hfx := Lib.hid hfx
  have K3 := Lib.hid k3
  clear hr harc hfx k3
  have hmk := run_make_row' (P := Try.prog) 31 4 (.bool false) 1 undB infoB rfl .i64 .i64 t.vars.length (by omega) (by omega)
  go_enter Try.func12, Try.ntmps12
  go_wp2
  clear hmk
  go_loopw [16] (fun i wr => ∃ (k : Nat), k ≤ t.goal.length ∧ i = .int .i64 k ∧ wr.rowIs (w.heap.size + 1) 4 t.vars.length (fun v => .bool (goN t v k)) ∧ Boxed wr w.heap.size t ⟨av, ai, ag, ao, cv, ci, cg, co⟩ ∧ Below w.heap.size w wr) (fun i _ => t.goal.length - (intOf i).toNat)
  case atStart => exact ⟨0, by omega, rfl, by simpa using (World.rowIs_made (w.alloc (.cells #[.slice av t.vars.length cv, .slice ai t.init.length ci, .slice ag t.goal.length cg, .slice ao t.ops.length co] 26)) (.bool false) t.vars.length 4).congr (g := fun v => .bool (goN t v 0)) fun _ _ => rfl, by constructor <;> first | (simp; done) | (simp; omega), by repeat (first | exact Below.refl _ _ | refine below_dN ?_ _ | refine Below.drew ?_ | refine Below.alloc ?_ (by first | omega | (simp; done) | (simp; omega)) _ | refine Below.setCell ?_ (by first | omega | (simp; done) | (simp; omega)) _ | refine below_step (by assumption) (by first | omega | (simp; done) | (simp; omega)) ?_)⟩
  case round =>
    obtain ⟨k, hk, rfl, hrow, hbox, hbel⟩ := hrel
    have hbz := hbel.size
    have hrl := hrow.lt
    by_cases hlt : k < t.goal.length
    · obtain ⟨b, o, ea, hb, hc⟩ := ht.goal.at_ hlt
      dsimp only at ea
      subst ea
      have d1 := (hbel.cell (p := ⟨b, o + k * 2, none⟩) hb).trans (hc k hlt).1
      have d2 := (hbel.cell (p := ⟨b, o + k * 2 + 1, none⟩) hb).trans (hc k hlt).2
      clear hc
      have g2 : b < wr.heap.size := by omega
      have hgv := fa_at HR.out.goal hlt
      obtain ⟨x, hx⟩ : ∃ x : Nat, fv t.goal k = (x : Int) := ⟨(fv t.goal k).toNat, by omega⟩
      have HX := Lib.hid hx
      rw [hx] at d1 hgv
      have hxn : x < t.vars.length := by omega
      have x0 : (0 : Int) ≤ (x : Int) := by omega
      have x1 : (x : Int) < (t.vars.length : Int) := by omega
      have m2 := hrow.cell hxn
      have m3 := hrow.frozen x
      have Hrow2 := Lib.hid (row_mark hrow x)
      have Kb := fun (o : Obj) => (Kp.set (Kp.refl (w.heap.size + 1) (w.heap.size + 2) wr) (p := ⟨w.heap.size + 1, x, none⟩) (Nat.le_refl _) (by show w.heap.size + 1 < _; omega) (.bool true)).alloc o
      clear hx hgv hrow
      go_wp2
      go_roundw
      case rel => exact ⟨k + 1, by omega, by go_num, (Hrow2.out.alloc _).congr fun v _ => (by rw [← goN_succ HX.out]), ⟨by simp [World.setCell]; omega, ((Kb _).cell (p := ⟨w.heap.size, 0, none⟩) hbox.lt (.inl (by show w.heap.size < _; omega))).trans hbox.c0, ((Kb _).cell (p := ⟨w.heap.size, 1, none⟩) hbox.lt (.inl (by show w.heap.size < _; omega))).trans hbox.c1, ((Kb _).cell (p := ⟨w.heap.size, 2, none⟩) hbox.lt (.inl (by show w.heap.size < _; omega))).trans hbox.c2, ((Kb _).cell (p := ⟨w.heap.size, 3, none⟩) hbox.lt (.inl (by show w.heap.size < _; omega))).trans hbox.c3⟩, (hbel.setCell (p := ⟨w.heap.size + 1, x, none⟩) (Nat.le_succ _) _).alloc (by simp [World.setCell]; omega) _⟩
      case measure => simp [intOf]; omega
    · obtain rfl : k = t.goal.length := by omega
      have hfx0 := fx_start HR.out
      obtain ⟨f0, hf0⟩ : ∃ f0 : Nat → Bool, f0 = fun v => goN t v t.goal.length := ⟨_, rfl⟩
      rw [← hf0] at hfx0
      have hrow0 : wr.rowIs (w.heap.size + 1) 4 t.vars.length (fun v => .bool (f0 v)) := by rw [hf0]; exact hrow
      have hc0 := cntF_le f0 t.vars.length
      have Hfx0 := Lib.hid hfx0
      clear hf0 hrow hlt hk hfx0
      go_wp2
      go_loopg [6] (2 * cntF f0 t.vars.length + 1) (fun gg c wr => ∃ (f : Nat → Bool) (ch : Bool), gg = 2 * cntF f t.vars.length + chN ch ∧ c = .bool ch ∧ wr.rowIs (w.heap.size + 1) 4 t.vars.length (fun v => .bool (f v)) ∧ Hid (FxI t f) ∧ Hid (ch = false → ∀ i, i < L.length → f (arc L i).2 = true → f (arc L i).1 = true) ∧ Boxed wr w.heap.size t ⟨av, ai, ag, ao, cv, ci, cg, co⟩ ∧ Below w.heap.size w wr)
      case atStart => exact ⟨f0, true, rfl, rfl, hrow0, Hfx0, Lib.hid (fun h => by cases h), hbox, hbel⟩
      case round =>
        clear hrow0 hbox hbel hbz hrl hc0
        obtain ⟨f, ch, hgk, rfl, hrow, hfi, hcl, hbox, hbel⟩ := hrel
        have Hgk := Lib.hid hgk
        clear hgk
        have hbz := hbel.size
        have hrl := hrow.lt
        cases ch
        · have he := Hfx.out f hfi.out (hcl.out rfl)
          have Hrow := Lib.hid (hrow.congr (g := fun v => .bool (relB t v)) fun v hv => by rw [he v hv])
          clear he hrow
          go_wp2
          go_ret
          exact ⟨⟨w.heap.size + 1, rfl, Hrow.out, by omega⟩, hbel⟩
        · obtain ⟨z0, y0, y1, y2, y3⟩ := id hbox
          dsimp only at y0 y1 y2 y3
          go_wp2_with fail
          refine (K3.out _ hbel).mono ?_
          rintro e w2 ⟨⟨v2, rfl, A, c, rfl, hA⟩, hb2⟩
          have hrow2 := row_up hrow hb2
          have hbox2 := hbox.up hb2
          have hbel2 := hbel.trans (hb2.mono hbz)
          have z2 := hb2.size
          have HA := Lib.hid hA
          have HR2 := Lib.hid (fun (h0 : 0 < t.vars.length) => hrow2.cell h0)
          clear z0 y0 y1 y2 y3 hbox hbel hrow hb2 hA hcl
          go_wp2
          go_loopw [6, 29] (fun c i wr => ∃ (k : Nat) (f' : Nat → Bool) (ch : Bool), k ≤ L.length ∧ i = .int .i64 k ∧ c = .bool ch ∧ wr.rowIs (w.heap.size + 1) 4 t.vars.length (fun v => .bool (f' v)) ∧ Hid (FxI t f') ∧ Hid (ch = false → ∀ i, i < k → f' (arc L i).2 = true → f' (arc L i).1 = true) ∧ cntF f' t.vars.length ≤ cntF f t.vars.length ∧ Hid (ch = true → cntF f' t.vars.length < cntF f t.vars.length) ∧ Kp (w.heap.size + 1) (w.heap.size + 2) w2 wr) (fun _ i _ => L.length - (intOf i).toNat)
          case atStart => exact ⟨0, f, false, by omega, rfl, rfl, hrow2, hfi, Lib.hid (fun _ i hi => absurd hi (by omega)), Nat.le_refl _, Lib.hid (fun h => by cases h), Kp.refl _ _ _⟩
          case round =>
            clear hrow2 hfi
            obtain ⟨k, f', ch, hk, rfl, rfl, hrow, hfi, hcl, hcn, hcs, hkp⟩ := hrel
            have kz := hkp.size
            have hrl' := hrow.lt
            by_cases hlt : k < L.length
            · obtain ⟨b1, eA, hb1, hc1⟩ := HA.out (by omega)
              subst eA
              obtain ⟨au, av', haB⟩ := Harc.out k hlt
              have hne1 : b1 ≠ w.heap.size + 1 := fun e => by
                have h1 := (hc1 0 (by omega)).1
                rw [Nat.zero_mul, e, HR2.out (by omega)] at h1
                cases h1
              have d1 := (hkp.cell (p := ⟨b1, k * 3, none⟩) hb1 (by show b1 < _ ∨ _ ≤ b1; omega)).trans (hc1 k hlt).1
              have d2 := (hkp.cell (p := ⟨b1, k * 3 + 1, none⟩) hb1 (by show b1 < _ ∨ _ ≤ b1; omega)).trans (hc1 k hlt).2.1
              have d3 := (hkp.cell (p := ⟨b1, k * 3 + 2, none⟩) hb1 (by show b1 < _ ∨ _ ≤ b1; omega)).trans (hc1 k hlt).2.2
              clear hc1
              obtain ⟨⟨u, v⟩, huv⟩ : ∃ x, arc L k = x := ⟨_, rfl⟩
              rw [huv] at d1 d2 au av' haB
              dsimp only at d1 d2 au av' haB
              have r1 := hrow.cell av'
              have r2 := hrow.cell au
              have r3 := hrow.frozen u
              have u0 : (0 : Int) ≤ (u : Int) := by omega
              have u1 : (u : Int) < (t.vars.length : Int) := by omega
              have v0 : (0 : Int) ≤ (v : Int) := by omega
              have v1 : (v : Int) < (t.vars.length : Int) := by omega
              have g1 : b1 < wr.heap.size := by omega
              have Huv := Lib.hid huv
              clear huv
              cases e1 : f' v
              · rw [e1] at r1
                have Hs := Lib.hid (show ch = false → ∀ i, i < k + 1 → f' (arc L i).2 = true → f' (arc L i).1 = true from fun hc i hi hh => by
                  rcases Nat.lt_succ_iff_lt_or_eq.1 hi with h | rfl
                  · exact hcl.out hc i h hh
                  · rw [Huv.out] at hh ⊢; rw [e1] at hh; cases hh)
                go_wp2
                go_roundw
                case rel => exact ⟨k + 1, f', ch, by omega, by go_num, rfl, hrow.alloc _, hfi, Hs, hcn, hcs, hkp.alloc _⟩
                case measure => simp [intOf]; omega
              · rw [e1] at r1
                cases e2 : f' u
                · rw [e2] at r2
                  have Hm := Lib.hid (fx_mark hfi.out au av' e1 haB)
                  have hcc := cntF_set e2 au
                  have Hrow2 := Lib.hid (row_mark hrow u)
                  have Hlt := Lib.hid (show true = true → cntF (setF f' u) t.vars.length < cntF f t.vars.length from fun _ => by omega)
                  clear hrow
                  go_wp2
                  go_roundw
                  case rel => exact ⟨k + 1, setF f' u, true, by omega, by go_num, rfl, Hrow2.out.alloc _, Hm, Lib.hid (fun h => by cases h), by omega, Hlt, (hkp.set (p := ⟨w.heap.size + 1, u, none⟩) (Nat.le_refl _) (Nat.lt_succ_self _) _).alloc _⟩
                  case measure => simp [intOf]; omega
                · rw [e2] at r2
                  have Hs := Lib.hid (show ch = false → ∀ i, i < k + 1 → f' (arc L i).2 = true → f' (arc L i).1 = true from fun hc i hi hh => by
                    rcases Nat.lt_succ_iff_lt_or_eq.1 hi with h | rfl
                    · exact hcl.out hc i h hh
                    · rw [Huv.out]; exact e2)
                  go_wp2
                  go_roundw
                  case rel => exact ⟨k + 1, f', ch, by omega, by go_num, rfl, hrow.alloc _, hfi, Hs, hcn, hcs, hkp.alloc _⟩
                  case measure => simp [intOf]; omega
            · obtain rfl : k = L.length := by omega
              have hbel3 := hbel2.trans (hkp.below (B := w.heap.size) (by omega) (by omega))
              have hbox3 : Boxed wr w.heap.size t ⟨av, ai, ag, ao, cv, ci, cg, co⟩ := ⟨by omega, (hkp.cell (p := ⟨w.heap.size, 0, none⟩) hbox2.lt (.inl (by show w.heap.size < _; omega))).trans hbox2.c0, (hkp.cell (p := ⟨w.heap.size, 1, none⟩) hbox2.lt (.inl (by show w.heap.size < _; omega))).trans hbox2.c1, (hkp.cell (p := ⟨w.heap.size, 2, none⟩) hbox2.lt (.inl (by show w.heap.size < _; omega))).trans hbox2.c2, (hkp.cell (p := ⟨w.heap.size, 3, none⟩) hbox2.lt (.inl (by show w.heap.size < _; omega))).trans hbox2.c3⟩
              have Hg := Lib.hid (show 2 * cntF f' t.vars.length + chN ch < gk by
                have h1 := Hgk.out
                have h2 := hcs.out
                unfold chN at *
                cases ch
                · simp at h1 ⊢; omega
                · have := h2 rfl; simp at h1 ⊢; omega)
              go_wp2
              go_roundg (2 * cntF f' t.vars.length + chN ch)
              case measure => exact Hg.out
              case rel => exact ⟨f', ch, rfl, rfl, hrow, hfi, hcl, hbox3, hbel3⟩

end Go.Proofs.Ytdkighaddldmcaa
